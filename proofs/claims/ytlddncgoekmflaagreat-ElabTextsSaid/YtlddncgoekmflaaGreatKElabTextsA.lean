/-
 Models of functions, their walks, and plain laws.
-/
import Derived.Test.YtlddncgoekmflaaGreatPmSx
import Derived.Test.YtlddncgoekmflaaGreatProg
import Derived.Test.YtlddncgoekmflaaGreatPmMap
import Derived.Test.YtlddncgoekmflaaGreatPmPk
import Derived.Test.YtlddncgoekmflaaGreatPmMs
import Derived.KernelRfl
namespace Go.Proofs.Tryz
open Go Go.Pm
set_option linter.unusedVariables false
set_option linter.unusedSimpArgs false
set_option maxRecDepth 2000
def Sm (n:Nat):Prop:=n≤9223372036854775807
theorem Sm_of {n m:Nat} (h:n≤m) (hm:m≤9223372036854775807:=by decide):Sm n:=Nat.le_trans h hm
theorem idx_ok {α:Type} {l:List α} {j:Nat} (h:j < l.length):idx l (j:Int)=some l[j]:=by simp [idx,h]
theorem app_ok {α:Type} {b:Nat} {l es:List α} (h:(l.length+es.length) * b≤room):app b l es=some (l++es):=if_pos h
theorem W_ok {n:Int} (h1:-9223372036854775808≤n) (h2:n < 9223372036854775808):W n=n:=by
 simp only [W,IntKind.wrap,IntKind.bits,IntKind.signed]; simp; split <;> omega
theorem W_succ {j:Nat} (h:j < 9223372036854775807):W ((j:Int)+1)=((j+1:Nat):Int):=by rw [W_ok (by omega) (by omega)]; omega
section
variable {α:Type} {p s:List α} {x:α}
theorem Zi:((p.length:Int) < ((p++x::s).length:Int)):=by simp; omega
theorem Z4:¬ ((p.length:Int) < ((p++([]:List α)).length:Int)):=by simp
theorem QR:idx (p++x::s) (p.length:Int)=some x:=by simp [idx]
theorem Qz:p++x::s=(p++[x])++s:=by simp
theorem mid_W (hs:Sm (p++x::s).length):W ((p.length:Int)+1)=((p++[x]).length:Int):=by
 unfold Sm at hs
 rw [W_ok (by omega) (by simp at hs; omega)]; simp
end
theorem Qd {α β:Type} (a:α) (f:α→Option β):(some a>>=f)=f a:=rfl
set_option maxHeartbeats 2000000
def hintOf:FuncId→Pm.Hint
 | 3=>{ own:=[((5,0),[(0,39)]),((11,1),[(12999,0)]),((12,0),[(5000,3)]),((12,1),[(12999,0)]),((15,2),[(12502,0)]),((16,2),[(12507,0)])],keep:=[(7,[0,5,7,8,9])] }
 | 6=>{ own:=[],keep:=[(4,[0,1,5])] }
 | 7=>{ own:=[],keep:=[(2,[0,3]),(7,[0,3,4])] }
 | 8=>{ own:=[((1,0),[(0,9)])],keep:=[(4,[3,4,5])] }
 | 9=>{ own:=[],keep:=[(2,[0,1,5])] }
 | 11=>{ own:=[((0,0),[(9000,3)]),((1,1),[(1,69)]),((2,2),[(12000,0)]),((5,5),[(5000,3)])],keep:=[] }
 | 14=>{ own:=[((1,3),[(8,86)]),((1,4),[(8,86)])],keep:=[(3,[1,2,3,4])] }
 | 16=>{ own:=[((3,0),[(0,94)])],keep:=[(5,[0,4,5]),(26,[0,4,5,12,13,14])] }
 | 18=>{ own:=[((1,1),[(0,39)]),((1,2),[(0,39)])],keep:=[(3,[4,11,12,13])],late:=[(8,3),(8,12)] }
 | 19=>{ own:=[((1,0),[(0,35)]),((5,4),[(7000,3)])],keep:=[(3,[3,7,8,9])] }
 | 23=>{ own:=[((1,0),[(0,26)])],keep:=[(3,[1,3,4])] }
 | 24=>{ own:=[((0,0),[(9000,3)]),((2,2),[(12000,0)]),((3,9),[(12000,0)]),((8,0),[(0,3)]),((8,8),[(12000,0)])],keep:=[] }
 | 26=>{ own:=[],keep:=[(4,[2,3,5])] }
 | 27=>{ own:=[],keep:=[(4,[0,1,5])] }
 | 28=>{ own:=[((1,14),[(7,53)]),((1,15),[(7,53)])],keep:=[(3,[1,2,3,4])] }
 | 30=>{ own:=[],keep:=[(4,[1,2,15,16,17])] }
 | 34=>{ own:=[],keep:=[(1,[0,1])] }
 | 36=>{ own:=[],keep:=[(5,[0,1,6,7])] }
 | 38=>{ own:=[],keep:=[(2,[0,2,4,5,6])] }
 | 39=>{ own:=[],keep:=[(3,[1,3,4])] }
 | 43=>{ own:=[((2,0),[(1000,3)]),((3,0),[(1000,3)])],keep:=[] }
 | 44=>{ own:=[],keep:=[(2,[0,3])] }
 | 46=>{ own:=[((0,0),[(9000,3)]),((8,3),[(12000,0)]),((9,6),[(13000,0)]),((12,5),[(12000,0)])],keep:=[] }
 | 47=>{ own:=[((0,0),[(9000,3)]),((0,1),[(9000,3)])],keep:=[] }
 | 51=>{ own:=[],keep:=[(19,[0,6,8,10,11,12])] }
 | 53=>{ own:=[],keep:=[(4,[0,1,5])] }
 | 54=>{ own:=[],keep:=[(4,[2,3,5])] }
 | 56=>{ own:=[],keep:=[(4,[0,1,12,13])] }
 | 57=>{ own:=[],keep:=[(4,[1,2,15,16,17])] }
 | 58=>{ own:=[],keep:=[(4,[0,1,12,13])] }
 | 60=>{ own:=[((10,5),[(0,2)])],keep:=[(9,[0,1,4,7])] }
 | 66=>{ own:=[],keep:=[(3,[0,4,5]),(9,[0,4,6]),(17,[0,7,8])] }
 | 69=>{ own:=[((0,0),[(9000,3)]),((5,3),[(7000,3)])],keep:=[] }
 | 70=>{ own:=[((1,2),[(12000,0)])],keep:=[] }
 | 71=>{ own:=[((4,4),[(0,175)])],keep:=[] }
 | 73=>{ own:=[((1,0),[(0,3)])],keep:=[(3,[0,2,4,7,8])] }
 | 77=>{ own:=[((0,0),[(9000,3)]),((0,1),[(9000,3)]),((1,5),[(12000,0)])],keep:=[] }
 | 78=>{ own:=[((0,0),[(9000,3)]),((0,1),[(9000,3)]),((1,8),[(13000,0)])],keep:=[] }
 | 79=>{ own:=[],keep:=[(2,[0,1,4,6])] }
 | 80=>{ own:=[((8,0),[(0,86)])],keep:=[(3,[0,3,4,6,7])] }
 | 82=>{ own:=[((3,4),[(2,3),(3,3)]),((3,5),[(2,3),(3,3)])],keep:=[(7,[0,4,6,7])] }
 | 83=>{ own:=[((3,4),[(2,3),(3,3)]),((3,5),[(2,3),(3,3)])],keep:=[(7,[0,4,6,7])] }
 | 86=>{ own:=[((1,0),[(0,3)])],keep:=[(3,[0,2,3,4])] }
 | 91=>{ own:=[((1,0),[(0,3)])],keep:=[(3,[0,1,2,7,8])] }
 | 93=>{ own:=[],keep:=[(3,[0,5,6])] }
 | 94=>{ own:=[],keep:=[(3,[1,3,4])] }
 | 95=>{ own:=[],keep:=[(2,[0,2,8])] }
 | 100=>{ own:=[],keep:=[(2,[0,1,7,8])] }
 | 105=>{ own:=[((4,1),[(0,3)]),((4,3),[(0,3)])],keep:=[(6,[6,9,23,24,25])] }
 | 107=>{ own:=[((1,0),[(1000,3)]),((9,3),[(0,175)])],keep:=[(3,[1,2,4,6,9,10,11]),(5,[1,2,4,6,7,8,9,10,11])] }
 | 108=>{ own:=[((13,5),[(0,175)])],keep:=[] }
 | 110=>{ own:=[((0,0),[(9000,3)]),((2,2),[(7000,2)]),((3,3),[(12000,0)])],keep:=[] }
 | 111=>{ own:=[((6,0),[(0,3)]),((6,1),[(0,3)]),((18,4),[(0,175)])],keep:=[(8,[4,6,8,9,38,39,40])] }
 | 113=>{ own:=[((6,1),[(0,3)]),((12,4),[(0,175)])],keep:=[(8,[4,6,8,9,41,42,43])] }
 | 114=>{ own:=[((9,10),[(0,175)])],keep:=[] }
 | 117=>{ own:=[((3,0),[(0,3)])],keep:=[(5,[1,5,6])] }
 | 119=>{ own:=[((1,2),[(2,3)]),((1,3),[(2,3)])],keep:=[(3,[0,1,4,5,6]),(7,[0,1,4,5,6,7,8])] }
 | 120=>{ own:=[((3,0),[(0,3)])],keep:=[(6,[1,2,6,7,8]),(13,[1,6,7,9]),(17,[1,6,7,9,10,11])] }
 | 121=>{ own:=[((6,0),[(0,3)])],keep:=[(2,[1,4]),(8,[1,5,6])] }
 | 122=>{ own:=[((1,0),[(0,3)])],keep:=[(3,[0,1,5,6])] }
 | 124=>{ own:=[],keep:=[(2,[0,1,8])] }
 | 129=>{ own:=[((3,1),[(0,3)])],keep:=[] }
 | 132=>{ own:=[((2,0),[(1000,2)]),((3,0),[(1000,2)])],keep:=[] }
 | 153=>{ own:=[((3,2),[(0,2)])],keep:=[] }
 | 154=>{ own:=[((1,2),[(0,3)])],keep:=[(3,[1,6,14,15,16])] }
 | 156=>{ own:=[],keep:=[(5,[0,3,4])] }
 | 163=>{ own:=[],keep:=[(2,[0,1,7,8])] }
 | 164=>{ own:=[],keep:=[(3,[2,8,13,14,15])] }
 | 169=>{ own:=[],keep:=[(8,[7,8])] }
 | 170=>{ own:=[],keep:=[(2,[0,1,7,8])] }
 | 171=>{ own:=[],keep:=[(2,[0,1,7,8])] }
 | 172=>{ own:=[((9,1),[(2000,3)])],keep:=[(3,[0,3,9,10,11]),(11,[6,25,26,27])] }
 | _=>{}
def env:Env where
 summ:=fun _=>none
 hint:=hintOf
 pure:=fun f=>f != 10 && f != 11 && f != 18 && f != 24 && f != 40 && f != 43 && f != 46 && f != 48 && f != 69 && f != 70 && f != 77 && f != 78 && f != 100 && f != 101 && f != 102 && f != 105 && f != 110 && f != 127 && f != 128 && f != 131 && f != 132 && f != 135 && f != 152 && f != 154 && f != 155 && f != 165 && f != 169 && f != 173 && f != 175
 split:=fun f=>f == 43 || f == 132
abbrev FQ:=FP prog env
abbrev LQ:=LP prog env

theorem ag35:aggT prog 35=some false:=by kernel_rfl
theorem by3:bytesOf prog 3=some 8:=by kernel_rfl
theorem el35:elemOfSlice prog 35=some 3:=by kernel_rfl
theorem el70:elemOfSlice prog 70=some 35:=by kernel_rfl
theorem sz3:szOf prog 3=some 1:=by kernel_rfl
theorem sz35:szOf prog 35=some 1:=by kernel_rfl
theorem un3:prog.underlying 3=some (TypeDesc.int IntKind.i64):=by kernel_rfl
theorem un35:prog.underlying 35=some (TypeDesc.slice 3):=by kernel_rfl
theorem un70:prog.underlying 70=some (TypeDesc.slice 35):=by kernel_rfl
theorem ze3:zeroOf prog 3=some (Dat.raw (Value.int IntKind.i64 (0))):=by kernel_rfl
theorem zn3:(zeroOf prog 3).map Dat.num=some 1:=by kernel_rfl
theorem wrap_i64 {n:Int} (h1:-9223372036854775808≤n) (h2:n < 9223372036854775808):IntKind.i64.wrap n=n:=by
 simp only [IntKind.wrap,IntKind.bits,IntKind.signed]; simp; split <;> omega
theorem wrap_succ {j:Nat} (h:j < 9223372036854775807):IntKind.i64.wrap ((j:Int)+1)=((j+1:Nat):Int):=by rw [wrap_i64 (by omega) (by omega)]; omega

def intsD (l:List Int):Dat:=.lst (l.map Qj)
theorem take_next {α:Type} {l:List α} {j:Nat} (h:j < l.length):l.take (j+1)=l.take j++[l[j]]:=List.take_succ_eq_append_getElem h
def zg (n:Nat):Nat:=if n=0 then 0 else 1
theorem c_Grow (n:Nat) (hn:n≤1000000):PC prog env 175 [.ms 0 0 0 0 0,.dat (Qj (n:Int))] [.mt 3 0 []] (.ms 0 (zg n) 0 0 n) [.mt 3 (zg n) (cellsOf Qj (List.replicate n 0))]:=by
 refine PC_body (fn:=f175) (by kernel_rfl) rfl rfl (by kernel_rfl) rfl ?_
 refine Qhx (st':=⟨[.ms 0 0 0 0 0,.dat (Qj (n:Int)),.tup [],.tup [],.tup [],.tup [],.tup [],.tup [],.tup [],.tup [],.tup [],.tup [],.tup [],.tup [],.tup [],.tup [],.tup [],.tup [],.tup [],.tup [],.tup [],.tup [],.tup [],.tup [],.tup [],.tup [],.tup []],[.mt 3 0 []]⟩) rfl ?_
 repeat (first|refine Qg ?_|refine Qp ?_|refine Qi ?_)
 refine Z6 ?_
 (refine OpsE_do rfl ?_; refine Jv rfl rfl ?_; refine OpsE_eq (st':=_) (by first|dsimp only [n0,n1,n2,n3,n4,n5,n6,n7,n8,n9,m0,m1,m2,m3,m4,m5,m6,m7,m8,m9,o0,o1,o2,o3,o4,↓reduceIte]|rfl) ?_)
 refine OpsE_nil ?_
 have h0:¬ ((n:Int) < 0):=by omega
 repeat (first|refine Qg ?_|refine Qp ?_|refine Qi ?_)
 refine Z6 ?_
 iterate 2 ((refine OpsE_do rfl ?_; first|refine JI rfl ?_|refine Qdw rfl rfl rfl rfl ?_); refine OpsE_eq (st':=_) (by first|(simp only [n0,n1,n2,n3,n4,n5,n6,n7,n8,n9,m0,m1,m2,m3,m4,m5,m6,m7,m8,m9,o0,o1,o2,o3,o4,↓reduceIte,decide_eq_false h0] <;> rfl)|rfl) ?_)
 refine OpsE_nil ?_
 repeat (first|refine Qg ?_|refine Qp ?_|refine Qi ?_)
 refine Xt rfl ?_
 have w1:IntKind.i64.wrap ((n:Int) - IntKind.i64.wrap (0 - ((0:Nat):Int)))=(n:Int):=by rw [wrap_i64 (n:=0 - ((0:Nat):Int)) (by omega) (by omega),wrap_i64 (by omega) (by omega)]; omega
 repeat (first|refine Qg ?_|refine Qp ?_|refine Qi ?_)
 refine Z6 ?_
 iterate 2 ((refine OpsE_do rfl ?_; refine JI rfl ?_); refine OpsE_eq (st':=_) (by first|dsimp only [n0,n1,n2,n3,n4,n5,n6,n7,n8,n9,m0,m1,m2,m3,m4,m5,m6,m7,m8,m9,o0,o1,o2,o3,o4,↓reduceIte]|rfl) ?_)
 (refine OpsE_do rfl ?_; refine Qhq un35 rfl rfl (Qa8 rfl) ?_; refine OpsE_eq (st':=_) (by first|dsimp only [n0,n1,n2,n3,n4,n5,n6,n7,n8,n9,m0,m1,m2,m3,m4,m5,m6,m7,m8,m9,o0,o1,o2,o3,o4,↓reduceIte]|rfl) ?_)
 iterate 5 ((refine OpsE_do rfl ?_; first|refine JI rfl ?_|refine Qf1 un35 rfl rfl ?_|refine Qdw rfl rfl rfl rfl ?_|refine Jv rfl rfl ?_); refine OpsE_eq (st':=_) (by first|dsimp only [n0,n1,n2,n3,n4,n5,n6,n7,n8,n9,m0,m1,m2,m3,m4,m5,m6,m7,m8,m9,o0,o1,o2,o3,o4,↓reduceIte]|rfl) ?_)
 refine OpsE_nil ?_
 rw [w1]
 by_cases hz:n=0
 ·subst hz
  repeat (first|refine Qg ?_|refine Qp ?_|refine Qi ?_)
  refine Z6 ?_
  iterate 2 ((refine OpsE_do rfl ?_; first|refine JI rfl ?_|refine Qdw rfl rfl rfl rfl ?_); refine OpsE_eq (st':=_) (by first|dsimp only [n0,n1,n2,n3,n4,n5,n6,n7,n8,n9,m0,m1,m2,m3,m4,m5,m6,m7,m8,m9,o0,o1,o2,o3,o4,↓reduceIte]|rfl) ?_)
  refine OpsE_nil ?_
  repeat (first|refine Qg ?_|refine Qp ?_|refine Qi ?_)
  refine Xt rfl ?_
  repeat (first|refine Qg ?_|refine Qp ?_|refine Qi ?_)
  refine Z6 ?_
  iterate 2 ((refine OpsE_do rfl ?_; first|refine JI rfl ?_|refine Jv rfl rfl ?_); refine OpsE_eq (st':=_) (by first|dsimp only [n0,n1,n2,n3,n4,n5,n6,n7,n8,n9,m0,m1,m2,m3,m4,m5,m6,m7,m8,m9,o0,o1,o2,o3,o4,↓reduceIte]|rfl) ?_)
  refine OpsE_nil ?_
  repeat (first|refine Qg ?_|refine Qp ?_|refine Qi ?_)
  refine Qk ?_
  exact ⟨trivial,_,rfl,rfl,rfl⟩
 ·have hp:((n:Int)) > 0:=by omega
  repeat (first|refine Qg ?_|refine Qp ?_|refine Qi ?_)
  refine Z6 ?_
  iterate 2 ((refine OpsE_do rfl ?_; first|refine JI rfl ?_|refine Qdw rfl rfl rfl rfl ?_); refine OpsE_eq (st':=_) (by first|(simp only [n0,n1,n2,n3,n4,n5,n6,n7,n8,n9,m0,m1,m2,m3,m4,m5,m6,m7,m8,m9,o0,o1,o2,o3,o4,↓reduceIte,decide_eq_true hp] <;> rfl)|rfl) ?_)
  refine OpsE_nil ?_
  repeat (first|refine Qg ?_|refine Qp ?_|refine Qi ?_)
  refine Qaj rfl ?_
  repeat (first|refine Qg ?_|refine Qp ?_|refine Qi ?_)
  refine Z6 ?_
  iterate 2 ((refine OpsE_do rfl ?_; refine JI rfl ?_); refine OpsE_eq (st':=_) (by first|dsimp only [n0,n1,n2,n3,n4,n5,n6,n7,n8,n9,m0,m1,m2,m3,m4,m5,m6,m7,m8,m9,o0,o1,o2,o3,o4,↓reduceIte]|rfl) ?_)
  (refine OpsE_do rfl ?_; refine Qhq un35 rfl rfl (Qa8 rfl) ?_; refine OpsE_eq (st':=_) (by first|dsimp only [n0,n1,n2,n3,n4,n5,n6,n7,n8,n9,m0,m1,m2,m3,m4,m5,m6,m7,m8,m9,o0,o1,o2,o3,o4,↓reduceIte]|rfl) ?_)
  (refine OpsE_do rfl ?_; refine QfM el35 sz3 rfl rfl (cutMs_of (l:=0) (h:=0) rfl rfl (Nat.le_refl _) (Nat.zero_le _) (Or.inl rfl)) ?_; refine OpsE_eq (st':=_) (by first|dsimp only [n0,n1,n2,n3,n4,n5,n6,n7,n8,n9,m0,m1,m2,m3,m4,m5,m6,m7,m8,m9,o0,o1,o2,o3,o4,↓reduceIte]|rfl) ?_)
  (refine OpsE_do rfl ?_; refine JI rfl ?_; refine OpsE_eq (st':=_) (by first|dsimp only [n0,n1,n2,n3,n4,n5,n6,n7,n8,n9,m0,m1,m2,m3,m4,m5,m6,m7,m8,m9,o0,o1,o2,o3,o4,↓reduceIte]|rfl) ?_)
  (refine OpsE_do rfl ?_; refine QfA (n:=n) el35 un3 sz3 by3 ze3 rfl (by decide) rfl rfl rfl (Qa8 rfl) (by omega) (by simp [room]; omega) ?_; refine OpsE_eq (st':=_) (by first|dsimp only [n0,n1,n2,n3,n4,n5,n6,n7,n8,n9,m0,m1,m2,m3,m4,m5,m6,m7,m8,m9,o0,o1,o2,o3,o4,↓reduceIte]|rfl) ?_)
  iterate 2 ((refine OpsE_do rfl ?_; first|refine JI rfl ?_|refine Qf1 un35 rfl rfl ?_); refine OpsE_eq (st':=_) (by first|dsimp only [n0,n1,n2,n3,n4,n5,n6,n7,n8,n9,m0,m1,m2,m3,m4,m5,m6,m7,m8,m9,o0,o1,o2,o3,o4,↓reduceIte]|rfl) ?_)
  (refine OpsE_do rfl ?_; refine QfM el35 sz3 rfl rfl (cutMs_of (l:=0) (h:=0) rfl rfl (Nat.le_refl _) (Nat.zero_le _) (Or.inl rfl)) ?_; refine OpsE_eq (st':=_) (by first|dsimp only [n0,n1,n2,n3,n4,n5,n6,n7,n8,n9,m0,m1,m2,m3,m4,m5,m6,m7,m8,m9,o0,o1,o2,o3,o4,↓reduceIte]|rfl) ?_)
  (refine OpsE_do rfl ?_; refine Jv rfl rfl ?_; refine OpsE_eq (st':=_) (by first|dsimp only [n0,n1,n2,n3,n4,n5,n6,n7,n8,n9,m0,m1,m2,m3,m4,m5,m6,m7,m8,m9,o0,o1,o2,o3,o4,↓reduceIte]|rfl) ?_)
  refine OpsE_nil ?_
  repeat (first|refine Qg ?_|refine Qp ?_|refine Qi ?_)
  refine Z6 ?_
  iterate 2 ((refine OpsE_do rfl ?_; first|refine JI rfl ?_|refine Jv rfl rfl ?_); refine OpsE_eq (st':=_) (by first|dsimp only [n0,n1,n2,n3,n4,n5,n6,n7,n8,n9,m0,m1,m2,m3,m4,m5,m6,m7,m8,m9,o0,o1,o2,o3,o4,↓reduceIte]|rfl) ?_)
  refine OpsE_nil ?_
  repeat (first|refine Qg ?_|refine Qp ?_|refine Qi ?_)
  refine Qk ?_
  refine ⟨trivial,_,rfl,?_,?_⟩
  ·simp [zg,hz,tupOf]
  ·simp [zg,hz,cellsOf,Qj]
def intssD (ls:List (List Int)):Dat:=.lst (ls.map intsD)
theorem flat_next {ls:List (List Int)} {j:Nat} (h:j < ls.length):(ls.take (j+1)).flatten=(ls.take j).flatten++ls[j]:=by
 rw [take_next h,List.flatten_append]; simp
theorem flat_le {ls:List (List Int)} (j:Nat):(ls.take j).flatten.length≤ls.flatten.length:=by
 have:ls.flatten=(ls.take j).flatten++(ls.drop j).flatten:=by rw [← List.flatten_append,List.take_append_drop]
 rw [this,List.length_append]; omega

theorem c_Concat (ls:List (List Int)) (H:List Blk) (hls:ls.length≤1000) (hfl:ls.flatten.length≤1000000):PC prog env 172 [.dat (intssD ls)] H (.dat (intsD ls.flatten)) H:=by
 refine PC_pure (fn:=f172) (by kernel_rfl) rfl rfl (by kernel_rfl) rfl rfl ?_ (by simp [PV.lends])
 refine Qhx (st':=⟨[.dat (intssD ls),.tup [],.tup [],.tup [],.tup [],.tup [],.tup [],.tup [],.tup [],.tup [],.tup [],.tup [],.tup [],.tup [],.tup [],.tup [],.tup [],.tup [],.tup [],.tup [],.tup [],.tup [],.tup [],.tup [],.tup [],.tup [],.tup [],.tup [],.tup [],.tup [],.tup [],.tup [],.tup [],.tup [],.tup [],.tup []],[]⟩) rfl ?_
 repeat (first|refine Qg ?_|refine Qp ?_|refine Qi ?_)
 refine Z6 ?_
 (refine OpsE_do rfl ?_; refine Jv rfl rfl ?_; refine OpsE_eq (st':=_) (by first|dsimp only [n0,n1,n2,n3,n4,n5,n6,n7,n8,n9,m0,m1,m2,m3,m4,m5,m6,m7,m8,m9,o0,o1,o2,o3,o4,↓reduceIte]|rfl) ?_)
 refine OpsE_nil ?_
 repeat (first|refine Qg ?_|refine Qp ?_|refine Qi ?_)
 refine Z6 ?_
 (refine OpsE_do rfl ?_; refine Jv rfl rfl ?_; refine OpsE_eq (st':=_) (by first|dsimp only [n0,n1,n2,n3,n4,n5,n6,n7,n8,n9,m0,m1,m2,m3,m4,m5,m6,m7,m8,m9,o0,o1,o2,o3,o4,↓reduceIte]|rfl) ?_)
 refine OpsE_nil ?_
 repeat (first|refine Qg ?_|refine Qp ?_|refine Qi ?_)
 refine Z6 ?_
 iterate 3 ((refine OpsE_do rfl ?_; first|refine JI rfl ?_|refine Qf1 un70 rfl rfl ?_); refine OpsE_eq (st':=_) (by first|dsimp only [n0,n1,n2,n3,n4,n5,n6,n7,n8,n9,m0,m1,m2,m3,m4,m5,m6,m7,m8,m9,o0,o1,o2,o3,o4,↓reduceIte]|rfl) ?_)
 refine OpsE_nil ?_
 repeat (first|refine Qg ?_|refine Qp ?_|refine Qi ?_)
 refine Qb5 ?_
 refine RL_ind (fun (j:Nat)=>⟨[.dat (intssD ls),.undef,.undef,Qe ((ls.take j).flatten.length:Int),.undef,.undef,.undef,.undef,.undef,.dat (intssD ls),Qe (ls.length:Int),Qe (j:Int),.undef,.undef,.undef,.undef,.undef,.undef,.undef,.undef,.undef,.undef,.undef,.undef,.undef,.undef,.undef,.undef,.undef,.undef,.undef,.undef,.undef,.undef,.undef,.undef],[]⟩)
  (fun j=>j≤ls.length) (fun j=>ls.length - j) (fun j hj=>?_) _ 0 _ (Nat.lt_succ_self _) (Nat.zero_le _) (by simp only [intssD,List.length_map]; rfl)
 repeat (first|refine Qg ?_|refine Qp ?_|refine Qi ?_)
 refine Z6 ?_
 (refine OpsE_do rfl ?_; (first|refine Qdw rfl rfl rfl rfl ?_|refine E_bin rfl rfl rfl rfl ?_); refine OpsE_eq (st':=_) (by first|dsimp only [n0,n1,n2,n3,n4,n5,n6,n7,n8,n9,m0,m1,m2,m3,m4,m5,m6,m7,m8,m9,o0,o1,o2,o3,o4,↓reduceIte]|rfl) ?_)
 refine OpsE_nil ?_
 repeat (first|refine Qg ?_|refine Qp ?_|refine Qi ?_)
 refine Qhw rfl (fun h=>?_) (fun h=>?_)
 ·have hj':j < ls.length:=by simpa using h
  have hf:=flat_le (ls:=ls) (j+1)
  rw [flat_next hj',List.length_append] at hf
  repeat (first|refine Qg ?_|refine Qp ?_|refine Qi ?_)
  refine Z6 ?_
  (refine OpsE_do rfl ?_; (first|refine QgH el70 sz35 rfl rfl rfl rfl (map_get _ (by first|assumption|omega)) rfl ?_|refine Qf0 el70 sz35 rfl rfl rfl rfl (map_get _ (by first|assumption|omega)) ?_|refine Qei el70 sz35 rfl rfl rfl rfl (map_get _ (by first|assumption|omega)) ?_); refine OpsE_eq (st':=_) (by first|dsimp only [n0,n1,n2,n3,n4,n5,n6,n7,n8,n9,m0,m1,m2,m3,m4,m5,m6,m7,m8,m9,o0,o1,o2,o3,o4,↓reduceIte]|rfl) ?_)
  iterate 2 ((refine OpsE_do rfl ?_; first|refine QgI (ds:=[_]) ag35 sz35 rfl rfl rfl rfl ?_|refine QgJ (ds:=[_]) ag35 sz35 rfl rfl rfl rfl rfl ?_|refine Jv rfl rfl ?_); refine OpsE_eq (st':=_) (by first|dsimp only [n0,n1,n2,n3,n4,n5,n6,n7,n8,n9,m0,m1,m2,m3,m4,m5,m6,m7,m8,m9,o0,o1,o2,o3,o4,↓reduceIte]|rfl) ?_)
  refine OpsE_nil ?_
  have w1:IntKind.i64.wrap (((ls.take j).flatten.length:Int)+((ls[j].map Qj).length:Int))=((ls.take (j+1)).flatten.length:Int):=by
   rw [flat_next hj',List.length_append,List.length_map,wrap_i64 (by omega) (by omega)]; omega
  have h0:¬ (((ls.take (j+1)).flatten.length:Int) < 0):=by omega
  repeat (first|refine Qg ?_|refine Qp ?_|refine Qi ?_)
  refine Z6 ?_
  iterate 5 ((refine OpsE_do rfl ?_; first|refine JI rfl ?_|refine Qf1 un35 rfl rfl ?_|refine Qdw rfl rfl rfl rfl ?_|refine Jv rfl rfl ?_); refine OpsE_eq (st':=_) (by first|(simp only [n0,n1,n2,n3,n4,n5,n6,n7,n8,n9,m0,m1,m2,m3,m4,m5,m6,m7,m8,m9,o0,o1,o2,o3,o4,↓reduceIte,w1] <;> rfl)|rfl) ?_)
  refine OpsE_nil ?_
  repeat (first|refine Qg ?_|refine Qp ?_|refine Qi ?_)
  refine Z6 ?_
  iterate 2 ((refine OpsE_do rfl ?_; first|refine JI rfl ?_|refine Qdw rfl rfl rfl rfl ?_); refine OpsE_eq (st':=_) (by first|(simp only [n0,n1,n2,n3,n4,n5,n6,n7,n8,n9,m0,m1,m2,m3,m4,m5,m6,m7,m8,m9,o0,o1,o2,o3,o4,↓reduceIte,decide_eq_false h0] <;> rfl)|rfl) ?_)
  refine OpsE_nil ?_
  repeat (first|refine Qg ?_|refine Qp ?_|refine Qi ?_)
  refine Xt rfl ?_
  repeat (first|refine Qg ?_|refine Qp ?_|refine Qi ?_)
  refine Z6 ?_
  iterate 2 ((refine OpsE_do rfl ?_; first|refine Qdw rfl rfl rfl rfl ?_|refine JI rfl ?_); refine OpsE_eq (st':=_) (by first|dsimp only [n0,n1,n2,n3,n4,n5,n6,n7,n8,n9,m0,m1,m2,m3,m4,m5,m6,m7,m8,m9,o0,o1,o2,o3,o4,↓reduceIte]|rfl) ?_)
  refine OpsE_nil ?_
  refine ⟨j+1,?_,by omega,hj'⟩
  rw [wrap_succ (by omega)]
  rfl
 ·have hj':j=ls.length:=by simp at h; omega
  subst hj'
  rw [List.take_length]
  repeat (first|refine Qg ?_|refine Qp ?_|refine Qi ?_)
  refine QO ?_
  repeat (first|refine Qg ?_|refine Qp ?_|refine Qi ?_)
  refine Z6 ?_
  (refine OpsE_do rfl ?_; refine JI rfl ?_; refine OpsE_eq (st':=_) (by first|dsimp only [n0,n1,n2,n3,n4,n5,n6,n7,n8,n9,m0,m1,m2,m3,m4,m5,m6,m7,m8,m9,o0,o1,o2,o3,o4,↓reduceIte]|rfl) ?_)
  (refine OpsE_do rfl ?_; refine QgT rfl rfl rfl rfl (c_Grow ls.flatten.length hfl) ?_; refine OpsE_eq (st':=_) (by first|dsimp only [n0,n1,n2,n3,n4,n5,n6,n7,n8,n9,m0,m1,m2,m3,m4,m5,m6,m7,m8,m9,o0,o1,o2,o3,o4,↓reduceIte]|rfl) ?_)
  (refine OpsE_do rfl ?_; refine Jv rfl rfl ?_; refine OpsE_eq (st':=_) (by first|dsimp only [n0,n1,n2,n3,n4,n5,n6,n7,n8,n9,m0,m1,m2,m3,m4,m5,m6,m7,m8,m9,o0,o1,o2,o3,o4,↓reduceIte]|rfl) ?_)
  refine OpsE_nil ?_
  repeat (first|refine Qg ?_|refine Qp ?_|refine Qi ?_)
  refine Z6 ?_
  iterate 3 ((refine OpsE_do rfl ?_; first|refine JI rfl ?_|refine Qf1 un70 rfl rfl ?_); refine OpsE_eq (st':=_) (by first|dsimp only [n0,n1,n2,n3,n4,n5,n6,n7,n8,n9,m0,m1,m2,m3,m4,m5,m6,m7,m8,m9,o0,o1,o2,o3,o4,↓reduceIte]|rfl) ?_)
  refine OpsE_nil ?_
  repeat (first|refine Qg ?_|refine Qp ?_|refine Qi ?_)
  refine Qb5 ?_
  refine RL_h0 (h1:=1) rfl ?_
  refine RL_ind (fun (j:Nat)=>⟨[.undef,.undef,.undef,.undef,.undef,.undef,.ms 0 (zg ls.flatten.length) 0 (ls.take j).flatten.length ls.flatten.length,.undef,.undef,.undef,.undef,.undef,.undef,.undef,.undef,.undef,.undef,.undef,.undef,.undef,.undef,.undef,.undef,.undef,.undef,.dat (intssD ls),Qe (ls.length:Int),Qe (j:Int),.undef,.undef,.undef,.undef,.undef,.undef,.undef,.undef],[.mt 3 (zg ls.flatten.length) (cellsOf Qj ((ls.take j).flatten++List.replicate (ls.flatten.length - (ls.take j).flatten.length) 0))]⟩)
   (fun j=>j≤ls.length) (fun j=>ls.length - j) (fun j hj=>?_) _ 0 _ (Nat.lt_succ_self _) (Nat.zero_le _) ?_
  ·repeat (first|refine Qg ?_|refine Qp ?_|refine Qi ?_)
   refine Z6 ?_
   (refine OpsE_do rfl ?_; (first|refine Qdw rfl rfl rfl rfl ?_|refine E_bin rfl rfl rfl rfl ?_); refine OpsE_eq (st':=_) (by first|dsimp only [n0,n1,n2,n3,n4,n5,n6,n7,n8,n9,m0,m1,m2,m3,m4,m5,m6,m7,m8,m9,o0,o1,o2,o3,o4,↓reduceIte]|rfl) ?_)
   refine OpsE_nil ?_
   repeat (first|refine Qg ?_|refine Qp ?_|refine Qi ?_)
   refine Qhw rfl (fun h=>?_) (fun h=>?_)
   ·have hj':j < ls.length:=by simpa using h
    have hf:=flat_le (ls:=ls) (j+1)
    rw [flat_next hj',List.length_append] at hf
    repeat (first|refine Qg ?_|refine Qp ?_|refine Qi ?_)
    refine Z6 ?_
    (refine OpsE_do rfl ?_; (first|refine QgH el70 sz35 rfl rfl rfl rfl (map_get _ (by first|assumption|omega)) rfl ?_|refine Qf0 el70 sz35 rfl rfl rfl rfl (map_get _ (by first|assumption|omega)) ?_|refine Qei el70 sz35 rfl rfl rfl rfl (map_get _ (by first|assumption|omega)) ?_); refine OpsE_eq (st':=_) (by first|dsimp only [n0,n1,n2,n3,n4,n5,n6,n7,n8,n9,m0,m1,m2,m3,m4,m5,m6,m7,m8,m9,o0,o1,o2,o3,o4,↓reduceIte]|rfl) ?_)
    iterate 2 ((refine OpsE_do rfl ?_; first|refine QgI (ds:=[_]) ag35 sz35 rfl rfl rfl rfl ?_|refine QgJ (ds:=[_]) ag35 sz35 rfl rfl rfl rfl rfl ?_|refine Jv rfl rfl ?_); refine OpsE_eq (st':=_) (by first|dsimp only [n0,n1,n2,n3,n4,n5,n6,n7,n8,n9,m0,m1,m2,m3,m4,m5,m6,m7,m8,m9,o0,o1,o2,o3,o4,↓reduceIte]|rfl) ?_)
    refine OpsE_nil ?_
    have ha:appendMs [.mt 3 (zg ls.flatten.length) (cellsOf Qj ((ls.take j).flatten++List.replicate (ls.flatten.length - (ls.take j).flatten.length) 0))] 3 8 0 (zg ls.flatten.length) 0 (ls.take j).flatten.length ls.flatten.length (cellsOf Qj ls[j]) =
      some (.ms 0 (zg ls.flatten.length) 0 (ls.take (j+1)).flatten.length ls.flatten.length,[.mt 3 (zg ls.flatten.length) (cellsOf Qj ((ls.take (j+1)).flatten++List.replicate (ls.flatten.length - (ls.take (j+1)).flatten.length) 0))]):=by
     rw [flat_next hj']
     generalize (ls.take j).flatten=A at hf ⊢
     generalize ls[j]=B at hf ⊢
     generalize ls.flatten.length=m at hf ⊢
     cases B with
     | nil=>simp only [List.append_nil]; exact appendMs_nil
     | cons x B =>
      rw [ms_append_in (H:=[.mt 3 (zg m) (cellsOf Qj (A++List.replicate (m - A.length) 0))]) (t:=0) (len:=A.length) (es:=x::B) (f:=Qj) (l:=A++List.replicate (m - A.length) 0) (fun _=>rfl) (Qa8 rfl) (Nat.succ_pos _) (by simp only [List.length_append,List.length_replicate]; omega)]
      have e1:(A++List.replicate (m - A.length) (0:Int)).take A.length=A:=List.take_left' rfl
      have e2:(A++List.replicate (m - A.length) (0:Int)).drop (A.length+(x::B).length)=List.replicate (m - (A++x::B).length) 0:=by
       rw [List.drop_append,List.drop_of_length_le (by omega),List.nil_append,List.drop_replicate,List.length_append]
       congr 1; omega
      rw [e1,e2,Nat.max_eq_left (by omega),List.length_append]
      rfl
    repeat (first|refine Qg ?_|refine Qp ?_|refine Qi ?_)
    refine Z6 ?_
    iterate 2 ((refine OpsE_do rfl ?_; refine JI rfl ?_); refine OpsE_eq (st':=_) (by first|dsimp only [n0,n1,n2,n3,n4,n5,n6,n7,n8,n9,m0,m1,m2,m3,m4,m5,m6,m7,m8,m9,o0,o1,o2,o3,o4,↓reduceIte]|rfl) ?_)
    (refine OpsE_do rfl ?_; refine Qeh el35 sz3 by3 zn3 (by decide) rfl rfl (source_lst (f:=Qj) (fun _=>rfl)) ha ?_; refine OpsE_eq (st':=_) (by first|dsimp only [n0,n1,n2,n3,n4,n5,n6,n7,n8,n9,m0,m1,m2,m3,m4,m5,m6,m7,m8,m9,o0,o1,o2,o3,o4,↓reduceIte]|rfl) ?_)
    (refine OpsE_do rfl ?_; refine Jv rfl rfl ?_; refine OpsE_eq (st':=_) (by first|dsimp only [n0,n1,n2,n3,n4,n5,n6,n7,n8,n9,m0,m1,m2,m3,m4,m5,m6,m7,m8,m9,o0,o1,o2,o3,o4,↓reduceIte]|rfl) ?_)
    refine OpsE_nil ?_
    repeat (first|refine Qg ?_|refine Qp ?_|refine Qi ?_)
    refine Z6 ?_
    iterate 2 ((refine OpsE_do rfl ?_; first|refine Qdw rfl rfl rfl rfl ?_|refine JI rfl ?_); refine OpsE_eq (st':=_) (by first|dsimp only [n0,n1,n2,n3,n4,n5,n6,n7,n8,n9,m0,m1,m2,m3,m4,m5,m6,m7,m8,m9,o0,o1,o2,o3,o4,↓reduceIte]|rfl) ?_)
    refine OpsE_nil ?_
    refine ⟨j+1,?_,by omega,hj'⟩
    rw [wrap_succ (by omega)]
    refine (prune_some rfl).trans ?_
    dsimp only [m6,m7,o0,o1]
    rw [purge_mt]
    rfl
   ·have hj':j=ls.length:=by simp at h; omega
    subst hj'
    rw [List.take_length,Nat.sub_self,List.replicate_zero,List.append_nil]
    repeat (first|refine Qg ?_|refine Qp ?_|refine Qi ?_)
    refine QO ?_
    repeat (first|refine Qg ?_|refine Qp ?_|refine Qi ?_)
    refine Z6 ?_
    iterate 2 ((refine OpsE_do rfl ?_; first|refine JI rfl ?_|refine Jv rfl rfl ?_); refine OpsE_eq (st':=_) (by first|dsimp only [n0,n1,n2,n3,n4,n5,n6,n7,n8,n9,m0,m1,m2,m3,m4,m5,m6,m7,m8,m9,o0,o1,o2,o3,o4,↓reduceIte]|rfl) ?_)
    refine OpsE_nil ?_
    repeat (first|refine Qg ?_|refine Qp ?_|refine Qi ?_)
    refine Qk ?_
    refine ⟨trivial,_,rfl,?_⟩
    have r1:=pure_ms (H:=[.mt 3 (zg ls.flatten.length) (cellsOf Qj ls.flatten)]) (g:=zg ls.flatten.length) (t:=0) (cap:=ls.flatten.length) (f:=Qj) (fun _=>rfl) (Qa8 rfl) (Nat.le_refl _)
    rw [List.take_length] at r1
    show (pureC [.mt 3 (zg ls.flatten.length) (cellsOf Qj ls.flatten)] (.ms 0 (zg ls.flatten.length) 0 ls.flatten.length ls.flatten.length)).map PV.dat=_
    rw [r1]
    rfl
  ·refine (prune_some rfl).trans ?_
   dsimp only [m6,m7,o0,o1]
   rw [purge_mt]
   simp only [intssD,List.length_map]
   rfl

def Yb (x:List (List Int)):Option (List Int):=if x.length≤1000∧x.flatten.length≤1000000 then some x.flatten else none
def Qc7:List (List Int)→List Int→Prop:=fun x r=>∀ H,PC prog env 172 ([.lst ((List.map (fun l=>Dat.lst ((List.map Qj) l))) x)].map .dat) H (.dat (.lst ((List.map Qj) r))) H
theorem JE:∀ x r,Yb x=some r→Qc7 x r:=by
 intro x r hm
 unfold Yb at hm
 split at hm
 ·rename_i h
  cases hm
  intro H
  exact c_Concat x H h.1 h.2
 ·cases hm
structure Qq where
 shape:(List Int)
 data:(List Int)
def Qq.toD (x:Qq):Dat:=.agg [(.lst ((List.map Qj) x.shape)),(.lst ((List.map Qj) x.data))]
theorem Qq.fit (x:Qq):Dat.fits 2 x.toD=true:=rfl
structure Qb where
 name:ByteArray
 value:Qq
def Qb.toD (x:Qb):Dat:=.agg [(strD x.name),(.lst ((List.map Qj) x.value.shape)),(.lst ((List.map Qj) x.value.data))]
theorem Qb.fit (x:Qb):Dat.fits 3 x.toD=true:=rfl
structure Qa where
 kind:Int
 fn:Int
 axis:Int
 name:ByteArray
 nums:(List Int)
 kids:(List Qa)
mutual
def Qa.toD:Qa→Dat
 | ⟨kind,fn,axis,name,nums,kids⟩=>.agg [(Qj kind),(Qj fn),(Qj axis),(strD name),(.lst ((List.map Qj) nums)),(.lst (Qa.toDs kids))]
def Qa.toDs:List Qa→List Dat
 | []=>[]
 | k::ks=>Qa.toD k::Qa.toDs ks
end
theorem Qa.toDs_eq:∀ l:List Qa,Qa.toDs l=l.map Qa.toD
 | []=>rfl
 | k::ks=>by rw [Qa.toDs,Qa.toDs_eq ks]; rfl
def Qa.ex (x:Qa):Dat:=.agg [(Qj x.kind),(Qj x.fn),(Qj x.axis),(strD x.name),(.lst ((List.map Qj) x.nums)),(.lst (Qa.toDs x.kids))]
theorem Qa.toD_eq (x:Qa):x.toD=x.ex:=by cases x; rfl
theorem Qa.fit (x:Qa):Dat.fits 6 x.toD=true:=by cases x; rfl
structure Qn where
 kind:Int
 text:ByteArray
 n:Int
def Qn.toD (x:Qn):Dat:=.agg [(Qj x.kind),(strD x.text),(Qj x.n)]
theorem Qn.fit (x:Qn):Dat.fits 3 x.toD=true:=rfl
structure JG where
 kind:Int
 text:ByteArray
 n:Int
def JG.toD (x:JG):Dat:=.agg [(Qj x.kind),(strD x.text),(Qj x.n)]
theorem JG.fit (x:JG):Dat.fits 3 x.toD=true:=rfl
structure Ql where
 name:ByteArray
 value:Qq
def Ql.toD (x:Ql):Dat:=.agg [(strD x.name),(.lst ((List.map Qj) x.value.shape)),(.lst ((List.map Qj) x.value.data))]
theorem Ql.fit (x:Ql):Dat.fits 3 x.toD=true:=rfl
structure Qc where
 kind:Int
 shape:(List Int)
 buffer:Int
 starts:(List Int)
 axis:Int
 amount:Int
 perm:(List Int)
 kids:(List Qc)
mutual
def Qc.toD:Qc→Dat
 | ⟨kind,shape,buffer,starts,axis,amount,perm,kids⟩=>.agg [(Qj kind),(.lst ((List.map Qj) shape)),(Qj buffer),(.lst ((List.map Qj) starts)),(Qj axis),(Qj amount),(.lst ((List.map Qj) perm)),(.lst (Qc.toDs kids))]
def Qc.toDs:List Qc→List Dat
 | []=>[]
 | k::ks=>Qc.toD k::Qc.toDs ks
end
theorem Qc.toDs_eq:∀ l:List Qc,Qc.toDs l=l.map Qc.toD
 | []=>rfl
 | k::ks=>by rw [Qc.toDs,Qc.toDs_eq ks]; rfl
def Qc.ex (x:Qc):Dat:=.agg [(Qj x.kind),(.lst ((List.map Qj) x.shape)),(Qj x.buffer),(.lst ((List.map Qj) x.starts)),(Qj x.axis),(Qj x.amount),(.lst ((List.map Qj) x.perm)),(.lst (Qc.toDs x.kids))]
theorem Qc.toD_eq (x:Qc):x.toD=x.ex:=by cases x; rfl
theorem Qc.fit (x:Qc):Dat.fits 8 x.toD=true:=by cases x; rfl
structure Qt where
 left:(List Int)
 right:(List Int)
 shape:(List Int)
 starts:(List Int)
 axis:Int
 amount:Int
 perm:(List Int)
def Qt.toD (x:Qt):Dat:=.agg [(.lst ((List.map Qj) x.left)),(.lst ((List.map Qj) x.right)),(.lst ((List.map Qj) x.shape)),(.lst ((List.map Qj) x.starts)),(Qj x.axis),(Qj x.amount),(.lst ((List.map Qj) x.perm))]
theorem Qt.fit (x:Qt):Dat.fits 7 x.toD=true:=rfl
structure QV where
 values:(List Int)
 scalar:Bool
def QV.toD (x:QV):Dat:=.agg [(.lst ((List.map Qj) x.values)),(Qdx x.scalar)]
theorem QV.fit (x:QV):Dat.fits 2 x.toD=true:=rfl
structure Qf where
 kind:Int
 shape:(List Int)
 buffer:Int
 starts:(List Int)
 axis:Int
 amount:Int
 perm:(List Int)
 kids:(List Qf)
mutual
def Qf.toD:Qf→Dat
 | ⟨kind,shape,buffer,starts,axis,amount,perm,kids⟩=>.agg [(Qj kind),(.lst ((List.map Qj) shape)),(Qj buffer),(.lst ((List.map Qj) starts)),(Qj axis),(Qj amount),(.lst ((List.map Qj) perm)),(.lst (Qf.toDs kids))]
def Qf.toDs:List Qf→List Dat
 | []=>[]
 | k::ks=>Qf.toD k::Qf.toDs ks
end
theorem Qf.toDs_eq:∀ l:List Qf,Qf.toDs l=l.map Qf.toD
 | []=>rfl
 | k::ks=>by rw [Qf.toDs,Qf.toDs_eq ks]; rfl
def Qf.ex (x:Qf):Dat:=.agg [(Qj x.kind),(.lst ((List.map Qj) x.shape)),(Qj x.buffer),(.lst ((List.map Qj) x.starts)),(Qj x.axis),(Qj x.amount),(.lst ((List.map Qj) x.perm)),(.lst (Qf.toDs x.kids))]
theorem Qf.toD_eq (x:Qf):x.toD=x.ex:=by cases x; rfl
theorem Qf.fit (x:Qf):Dat.fits 8 x.toD=true:=by cases x; rfl
structure Qm where
 name:ByteArray
 value:Qq
def Qm.toD (x:Qm):Dat:=.agg [(strD x.name),(.lst ((List.map Qj) x.value.shape)),(.lst ((List.map Qj) x.value.data))]
theorem Qm.fit (x:Qm):Dat.fits 3 x.toD=true:=rfl
structure Q5 where
 core:Qf
 sources:(List Qm)
def Q5.toD (x:Q5):Dat:=.agg [(Qj x.core.kind),(.lst ((List.map Qj) x.core.shape)),(Qj x.core.buffer),(.lst ((List.map Qj) x.core.starts)),(Qj x.core.axis),(Qj x.core.amount),(.lst ((List.map Qj) x.core.perm)),(.lst (Qf.toDs x.core.kids)),(.lst ((List.map Qm.toD) x.sources))]
theorem Q5.fit (x:Q5):Dat.fits 9 x.toD=true:=rfl
structure Q7 where
 values:(List Int)
 scalar:Bool
def Q7.toD (x:Q7):Dat:=.agg [(.lst ((List.map Qj) x.values)),(Qdx x.scalar)]
theorem Q7.fit (x:Q7):Dat.fits 2 x.toD=true:=rfl
structure Qx where
 left:(List Int)
 right:(List Int)
 shape:(List Int)
 starts:(List Int)
 axis:Int
 amount:Int
 perm:(List Int)
def Qx.toD (x:Qx):Dat:=.agg [(.lst ((List.map Qj) x.left)),(.lst ((List.map Qj) x.right)),(.lst ((List.map Qj) x.shape)),(.lst ((List.map Qj) x.starts)),(Qj x.axis),(Qj x.amount),(.lst ((List.map Qj) x.perm))]
theorem Qx.fit (x:Qx):Dat.fits 7 x.toD=true:=rfl
structure Zl where
 core:Qc
 sources:(List Ql)
def Zl.toD (x:Zl):Dat:=.agg [(Qj x.core.kind),(.lst ((List.map Qj) x.core.shape)),(Qj x.core.buffer),(.lst ((List.map Qj) x.core.starts)),(Qj x.core.axis),(Qj x.core.amount),(.lst ((List.map Qj) x.core.perm)),(.lst (Qc.toDs x.core.kids)),(.lst ((List.map Ql.toD) x.sources))]
theorem Zl.fit (x:Zl):Dat.fits 9 x.toD=true:=rfl
abbrev Qak:=fun x0 x1=>((.box [(La x0),(La x1)]):Blk)
abbrev QH:=fun x0=>((.mt 3 1 (cellsOf Qj x0)):Blk)
abbrev Qcr:=fun x0 x1=>((.mt 3 x0 (cellsOf Qj x1)):Blk)
abbrev Xl:=fun x0=>((.vec 1 ((List.map Qj) x0)):PV)
abbrev QdJ:=fun x0=>((.vec 3 ((List.map Qj) x0)):PV)
abbrev Qfm:=fun x0=>((.vec 2 ((List.map Qj) x0)):PV)
abbrev Qcq:=fun x0=>((.vec 0 ((List.map Qj) x0)):PV)
abbrev QdN:=((.box [(.fn 128 [(.ptr 0 0)])]):Blk)
abbrev Q1:=fun x0 x1=>((.box [(La x0),(Qo x1)]):Blk)
abbrev QaQ:=((.box [(.fn 152 [(.ptr 4 0)])]):Blk)
abbrev QdM:=fun x0=>((.dat (.lst ((List.map strD) x0))):PV)
abbrev Qfa:=fun x0=>((.dat (.lst (Qa.toDs x0))):PV)
abbrev Xa:=fun x0=>((.dat (.lst (Qc.toDs x0))):PV)
abbrev Qex:=fun x0=>((.dat (.lst (Qf.toDs x0))):PV)
abbrev Qdd:=fun x0=>((.box [(.vec 3 ((List.map Qj) x0))]):Blk)
abbrev Qcp:=fun x0=>((.vec 0 ((List.map Qn.toD) x0)):PV)
abbrev Qet:=fun x0=>((.vec 1 ((List.map Qb.toD) x0)):PV)
abbrev Qgj:=fun x0=>((.vec 6 ((List.map Ql.toD) x0)):PV)
abbrev Qal:=fun x0 x1 x2=>((.box [(.dat (strD x0)),(La x1),(La x2)]):Blk)
abbrev Z7:=fun x0=>((.dat (.lst ((List.map Qn.toD) x0))):PV)
abbrev YG:=fun x0=>((.dat (.lst ((List.map Qb.toD) x0))):PV)
abbrev Qgg:=fun x0=>((.dat (.lst ((List.map Ql.toD) x0))):PV)
abbrev Qv:=((.box [Ea,Ea,Ea,Ea,(Qe 0),(Qe 0),Ea]):Blk)
abbrev X7:=fun x0=>((.dat (.lst ((List.map Qm.toD) x0))):PV)
abbrev Qew:=fun x0 x1 x2=>((.box [(Qe x0),(.dat (strD x1)),(Qe x2)]):Blk)
abbrev Qbo:=((.dat (.agg [Eb,Eb,Eb,Eb,(Qj 0),(Qj 0),Eb])):PV)
abbrev Qeu:=((.box [(Qe 0),(.dat (strD ByteArray.empty)),(Qe 0)]):Blk)
abbrev ZV:=fun x0=>((.box [(.vec 1 ((List.map Qb.toD) x0)),(.mapv 0)]):Blk)
abbrev QaT:=fun x0 x1=>((.box [(.fn 127 [(.iptr [(Qj x0)]),(.iptr [(Qj x1)])])]):Blk)
abbrev Qdf:=fun x0=>((.box [(.vec 3 ((List.map Qb.toD) x0)),(.mapv 2)]):Blk)
abbrev Qc9:=fun x0=>((.box [(.vec 8 ((List.map Qb.toD) x0)),(.mapv 7)]):Blk)
abbrev Qeq:=fun x0=>((.box [(.ptr 4 0),(.vec 6 ((List.map Ql.toD) x0))]):Blk)
abbrev JV:=fun x0 x1 x2 x3 x4 x5 x6=>((.box [(La x0),(La x1),(La x2),(La x3),(Qe x4),(Qe x5),(La x6)]):Blk)
abbrev Qdc:=fun x0 x1=>((.box [Ea,(.ms 3 1 0 x0 x0),(.ms 4 1 0 x1 x1),Ea,(Qe (-1)),(Qe 0),Ea]):Blk)
abbrev Qhg:=fun x0 x1=>((.box [Ea,(.ms 5 1 0 x0 x0),(.ms 6 1 0 x1 x1),Ea,(Qe (-1)),(Qe 0),Ea]):Blk)
abbrev Qez:=fun x0 x1=>((.box [Ea,(.ms 2 1 0 x0 x0),(.ms 3 1 0 x1 x1),Ea,(Qe (-1)),(Qe 0),Ea]):Blk)
abbrev Qgd:=fun x0 x1=>((.box [Ea,(.ms 4 1 0 x0 x0),(.ms 5 1 0 x1 x1),Ea,(Qe (-1)),(Qe 0),Ea]):Blk)
abbrev Qgh:=fun x0 x1=>((.box [Ea,(.ms 7 1 0 x0 x0),(.ms 8 1 0 x1 x1),Ea,(Qe (-1)),(Qe 0),Ea]):Blk)
abbrev Qe7:=fun x0 x1 x2 x3=>((.box [Ea,(.ms 3 1 0 x0 x0),(.ms 4 1 0 x1 x1),Ea,(Qe x2),(Qe x3),Ea]):Blk)
abbrev Qde:=fun x0 x1=>((.box [(.fn 127 [(.iptr [(Qj x0)]),(.iptr [(Qj x1)])]),(.fn 131 [(.ptr 1 0)])]):Blk)
abbrev Qep:=fun x0 x1 x2 x3=>((.box [Ea,(.ms 4 1 0 x0 x0),(.ms 5 1 0 x1 x1),Ea,(Qe x2),(Qe x3),Ea]):Blk)
abbrev Qff:=fun x0 x1 x2=>((.box [Ea,(.ms 5 1 0 x0 x0),(.ms 6 1 0 x1 x1),Ea,(Qe (-1)),(Qe 0),(La x2)]):Blk)
abbrev Qhd:=fun x0 x1 x2=>((.box [Ea,(La x0),(.vec 1 ((List.map Qj) x1)),Ea,(Qe (-1)),(Qe 0),(La x2)]):Blk)
abbrev Qe4:=fun x0 x1 x2 x3 x4=>((.box [(La x0),(.ms 4 1 0 x1 x1),(.ms 5 1 0 x2 x2),Ea,(Qe x3),(Qe x4),Ea]):Blk)
abbrev Qfk:=((.box [(Qe 0),Ea,(Qe 0),Ea,(Qe 0),(Qe 0),Ea,(.dat (.lst (Qc.toDs [])))]):Blk)
abbrev YU:=((.box [(Qe 0),Ea,(Qe 0),Ea,(Qe 0),(Qe 0),Ea,(.dat (.lst (Qf.toDs [])))]):Blk)
abbrev Qgi:=((.box [(Qe 2),Ea,(Qe 0),Ea,(Qe 0),(Qe 0),Ea,(.dat (.lst (Qf.toDs [])))]):Blk)
abbrev QbW:=fun x0 x1 x2 x3 x4 x5=>((.dat (.agg [(Qj x0),(Qj x1),(Qj x2),(strD x3),(Lb x4),(.lst (Qa.toDs x5))])):PV)
abbrev Qfg:=fun x0 x1 x2=>((.box [Ea,(.ms 7 1 0 x0 x0),(.ms 8 1 0 x1 x1),(.arr 3 0 x2 x2),(Qe (-1)),(Qe 0),Ea]):Blk)
abbrev Qey:=fun x0=>((.box [(Qe x0),Ea,(Qe 0),Ea,(Qe 0),(Qe 0),Ea,(.dat (.lst (Qf.toDs [])))]):Blk)
abbrev Qhf:=fun x0 x1 x2=>((.dat (.agg [(Qj x0),(Lb x1),(Qj x2),Eb,(Qj 0),(Qj 0),Eb,(.lst (Qc.toDs []))])):PV)
abbrev Qge:=fun x0 x1=>((.box [(Qe x0),Ea,(Qe 0),Ea,(Qe 0),(Qe 0),(La x1),(.dat (.lst (Qf.toDs [])))]):Blk)
abbrev Jw:=((.box [(Qe 0),(Qe 0),(Qe 0),(.dat (strD ByteArray.empty)),Ea,(.dat (.lst (Qa.toDs [])))]):Blk)
abbrev Q0:=fun x0 x1 x2 x3 x4 x5=>((.box [(Qe x0),(Qe x1),(Qe x2),(.dat (strD x3)),(La x4),(.dat (.lst (Qa.toDs x5)))]):Blk)
abbrev Qfe:=fun x0 x1 x2=>((.box [Ea,(.ms 7 1 0 x0 x0),(.ms 8 1 0 x1 x1),(.vec 3 ((List.map Qj) x2)),(Qe (-1)),(Qe 0),Ea]):Blk)
abbrev Qhh:=fun x0 x1 x2=>((.box [Ea,(La x0),(.vec 1 ((List.map Qj) x1)),(.vec 2 ((List.map Qj) x2)),(Qe (-1)),(Qe 0),Ea]):Blk)
abbrev Qe9:=fun x0=>((.box [(Qe 1),(Qe 0),(Qe (-1)),(.dat (strD ByteArray.empty)),(La x0),(.dat (.lst (Qa.toDs [])))]):Blk)
abbrev Qev:=fun x0 x1 x2 x3 x4 x5 x6 x7=>((.dat (.agg [(Qj x0),(Lb x1),(Qj x2),(Lb x3),(Qj x4),(Qj x5),(Lb x6),(.lst (Qc.toDs x7))])):PV)
abbrev Zt:=fun x0 x1 x2 x3 x4 x5 x6 x7=>((.box [(Qe x0),(La x1),(Qe x2),(La x3),(Qe x4),(Qe x5),(La x6),(.dat (.lst (Qf.toDs x7)))]):Blk)
abbrev QeA:=((.box [(Qe 0),Ea,(Qe 0),Ea,(Qe 0),(Qe 0),Ea,(.dat (.lst (Qc.toDs []))),(.dat (.lst ((List.map Ql.toD) [])))]):Blk)
abbrev Qgc:=((.box [(Qe 0),Ea,(Qe 0),Ea,(Qe 0),(Qe 0),Ea,(.dat (.lst (Qf.toDs []))),(.dat (.lst ((List.map Qm.toD) [])))]):Blk)
abbrev Qfh:=fun x0 x1 x2 x3 x4 x5 x6 x7 x8=>((.dat (.agg [(Qj x0),(Lb x1),(Qj x2),(Lb x3),(Qj x4),(Qj x5),(Lb x6),(.lst (Qc.toDs x7)),(.lst ((List.map Ql.toD) x8))])):PV)
abbrev Qda:=fun x0 x1 x2 x3 x4 x5 x6 x7 x8=>((.box [(Qe x0),(La x1),(Qe x2),(La x3),(Qe x4),(Qe x5),(La x6),(.dat (.lst (Qc.toDs x7))),(.dat (.lst ((List.map Ql.toD) x8)))]):Blk)
abbrev Qgf:=((.dat (.lst ((List.map strD) ([(⟨#[226,134,145]⟩:ByteArray),(⟨#[226,134,147]⟩:ByteArray),(⟨#[226,140,189]⟩:ByteArray),(⟨#[226,141,137]⟩:ByteArray),(⟨#[226,141,180]⟩:ByteArray),(⟨#[44]⟩:ByteArray)]:List ByteArray)))):PV)
abbrev YV:=fun x0 x1 x2=>([(Q1 x0 x1),(.tok 3 x2)]:List Blk)
abbrev Qdb:=fun x0 x1 x2=>([(.box [(La x0)]),Qv,(Qcr x1 x2)]:List Blk)
abbrev QdK:=fun x0 x1 x2 x3=>([(Q1 x0 x1),Qv,(QH x2),(.box (cellsOf Qj x3))]:List Blk)
abbrev QdL:=fun x0 x1 x2 x3=>([Qv,(.tok 3 x0),(Qhd x1 x2 x3),(.tok 3 (([]:List Int).length))]:List Blk)
abbrev Qfd:=fun x0 x1 x2 x3 x4 x5=>([Qv,(QaT x0 x1),Qv,(QH x2),(QH x3),(Qdc x4 x5)]:List Blk)
abbrev Qer:=fun x0 x1 x2 x3 x4 x5=>([(Q1 x0 x1),Qv,Qv,(QH x2),(QH x3),(Qdc x4 x5)]:List Blk)
abbrev Qfj:=fun x0 x1 x2 x3 x4 x5=>([Qv,(QaT x0 x1),Qv,(QH x2),(QH x3),(Qe7 x4 x5 x0 x1)]:List Blk)
abbrev QaS:=fun x0 x1 x2 x3=>([(.map (smE x0)),(.tok 39 x1),(ZV x2),(.tok 39 (([]:List Qb).length)),(ZV x3)]:List Blk)
abbrev Qe8:=fun x0 x1 x2 x3 x4 x5 x6=>([Qv,(.box [(La x0)]),(Qde x1 x2),Qv,(QH x3),(QH x4),(Qgd x5 x6)]:List Blk)
abbrev Qe5:=fun x0 x1 x2 x3 x4 x5 x6 x7=>([(Q1 x0 x1),Qv,(QaT x2 x3),Qv,(QH x4),(QH x5),(Qgd x6 x7)]:List Blk)
abbrev JU:=fun x0 x1 x2 x3 x4=>([(Q1 x0 x1),(.box [(Qe x2)]),(.map (setE .i64 (Qdx true) x3)),(.box [(.mapv 2)]),(.tok 3 x4)]:List Blk)
abbrev Qes:=fun x0 x1 x2 x3 x4 x5 x6=>([Qv,(.box [(La x0)]),(Qde x1 x2),Qv,(QH x3),(QH x4),(Qep x5 x6 x1 x2)]:List Blk)
abbrev Qfc:=fun x0 x1 x2 x3 x4 x5 x6 x7=>([(Q1 x0 x1),Qv,(QaT x2 x3),Qv,(QH x4),(QH x5),(Qep x6 x7 x2 x3)]:List Blk)
abbrev Qfl:=fun x0 x1 x2 x3 x4 x5 x6=>([(.box [(La x0)]),Qv,(Qcr x1 x2),QdN,Qv,(QH x3),(QH x4),(Qhg x5 x6)]:List Blk)
abbrev Qe1:=fun x0 x1 x2 x3 x4 x5 x6=>([Qv,(.box [(La x0)]),(Qde x1 x2),Qv,(QH x3),(QH x4),(Qe4 x0 x5 x6 x1 x2)]:List Blk)
abbrev Qe2:=fun x0 x1 x2 x3 x4 x5 x6=>([(.box [(La x0)]),Qv,(Qcr x1 x2),QdN,Qv,(QH x3),(QH x4),(Qff x5 x6 x0)]:List Blk)
abbrev QbV:=fun x0 x1 x2 x3 x4=>([Qv,(.tok 3 x0),(.tok 3 x1),(Qhh x2 x3 x4),(.tok 3 (([]:List Int).length)),(.tok 3 (([]:List Int).length))]:List Blk)
abbrev Qe6:=fun x0 x1 x2 x3 x4 x5 x6=>([(.map (smE x0)),(.tok 39 x1),(ZV x2),(.tok 39 (([]:List Qb).length)),(Qal x3 x4 x5),(ZV x6)]:List Blk)
abbrev Qfb:=fun x0 x1 x2 x3 x4 x5 x6 x7 x8=>([(Q1 x0 x1),Qv,(.tok 3 x2),(.tok 3 x3),(Qdd x4),QaQ,Qv,(QH x5),(QH x6),(Qgh x7 x8)]:List Blk)
abbrev Qhe:=fun x0 x1 x2=>([(Q1 x0 x1),(.box [(Qe x2)]),(.map (setE .i64 (Qdx true) ([]:List Int))),(.box [(.mapv 2)]),(.tok 3 (([]:List Int).length))]:List Blk)
abbrev Qe0:=fun x0 x1 x2 x3 x4 x5 x6 x7 x8=>([(Q1 x0 x1),Qv,(.tok 3 x2),(.tok 3 x3),(Qdd x4),QaQ,Qv,(QH x5),(QH x6),(Qfe x7 x8 x4)]:List Blk)
abbrev QaR:=fun x0 x1 x2 x3 x4 x5=>([(.map (smE x0)),(.tok 39 x1),(ZV x2),(.tok 39 (([]:List Qb).length)),(ZV x3),QeA,(.tok 69 x4),(Qeq x5)]:List Blk)
abbrev Qco:=fun x0 x1 x2 x3 x4 x5=>([(.map (smE x0)),(.tok 39 x1),(ZV x2),(.tok 39 (([]:List Qb).length)),(ZV x3),QeA,(.tok 69 x4),(Qeq x5),Qfk]:List Blk)
abbrev Qfi:=fun x0 x1 x2 x3 x4 x5 x6 x7 x8=>([(Q1 x0 x1),Qv,(QH x2),(.box (cellsOf Qj x3)),(.box [(.arr 3 0 x4 x4)]),QaQ,Qv,(QH x5),(QH x6),(Qgh x7 x8)]:List Blk)
abbrev Qe3:=fun x0 x1 x2 x3 x4 x5 x6 x7 x8=>([(Q1 x0 x1),Qv,(QH x2),(.box (cellsOf Qj x3)),(.box [(.arr 3 0 x4 x4)]),QaQ,Qv,(QH x5),(QH x6),(Qfg x7 x8 x4)]:List Blk)
abbrev Qeo:=fun x0 x1 x2 x3 x4 x5 x6 x7 x8=>([(.map (smE x0)),(.tok 39 x1),(ZV x2),(.tok 39 (([]:List Qb).length)),(ZV x3),QeA,(.tok 69 x4),(Qeq x5),Qfk,(Qal x6 x7 x8)]:List Blk)
theorem QgK {P:Program} {E:Env} {ow:List (Nat × Nat)} {o:Oper} {ρ:Operand→PV} {H:List Blk} {K:PV→List Blk→Prop} {x:Operand} {t:Nat} {es:List Dat} (ho:o.op=.move x) (hx:ρ x=.vec t es) (hg:giveHint ow=true) (hk:K (.dat (.lst es)) H):SemE P E ow o ρ H K:=SemE_of (fun call=>by
 simp only [sem,ho,hg,if_true,hx,consume1,Option.map_some]) hk

def ZW (x:Int):Option Bool :=
 match x with
 | p0 =>
 (if p0≥65 then
  some (decide (p0≤90))
 else
 some false
 )>>=fun (v1:Bool) =>
 (if v1=true then
  some true
 else
 if p0≥97 then
  some (decide (p0≤122))
 else
 some false
 )>>=fun (v2:Bool) =>
 if v2=true then
  some true
 else
 some (p0 == 95)
theorem Qcx {p0 r0} (hm:ZW p0=some r0):FQ 33 [(numD .u8 p0)] (Qo r0):=by
 unfold ZW at hm
 exact fp (fn:=f33) rfl (ge 1 (Qg (Qc8 (Qh 3 (bi hm fun v1 hs hm=>Yu (j:=6) (fun d=>⟨sl d 21 [(0,(.dat (numD .u8 p0))),(2,(Qo false)),(8,(Qo v1))],[]⟩) (fun d=>Qh 1 (bi hm fun v2 hs hm=>Yu (j:=14) (fun d=>⟨sl d 21 [(0,(.dat (numD .u8 p0))),(2,(Qo false)),(16,(Qo v2))],[]⟩) (fun d=>Qh 1 (gsb 17 hm (fun hm=>re 4 ⟨kr,Qk zf⟩) (fun hm=>re 4 ⟨kr,Qk zf⟩))) (fun hJ=>gsb 9 hs (fun hm=>Qh 7 zf) (fun hm=>Qh 3 (gs 12 hm (fun hm=>Qh 4 zf) (fun hm=>Qh 4 zf)))))) (fun hJ=>gs 5 hs (fun hm=>Qh 3 zf) (fun hm=>Qh 3 zf)))))))
def Yv (x:Int):Option Bool :=
 match x with
 | p0 =>
 if p0≥48 then
  some (decide (p0≤57))
 else
 some false
theorem Qed {p0 r0} (hm:Yv p0=some r0):FQ 59 [(numD .u8 p0)] (Qo r0):=by
 unfold Yv at hm
 exact fp (fn:=f59) rfl (ge 1 (gr 3 (gs 5 hm (fun hm=>re 4 (Qk zf)) (fun hm=>re 4 (Qk zf)))))
def Zu (x:(ByteArray × Int)):Option (Int) :=
 match x with
 | (p0,v201) =>
 (if v201 < (p0.size:Int) then
  sidx p0 v201>>=fun v603 =>
  ZW v603>>=fun v604 =>
  if v604=true then
   some true
  else
  sidx p0 v201>>=fun v605 =>
  Yv v605>>=fun v606 =>
  some v606
 else
 some false
 )>>=fun (v602:Bool) =>
 if v602=true then
  Zu (p0,(W (v201+1)))
 else
 some v201
 partial_fixpoint
theorem Qcw:∀ x r,Zu x=some r→match x with|(p0,v201)=>LQ f34 34 [1,0,0,0] 0 ⟨kp 24 [(0,(.dat (strD p0))),(1,(Qe v201))],[]⟩ (P1 (.exit 0) (fun v601 d=>⟨sl d 24 [(1,(Qe v601))],[]⟩) r):=by
 refine Zu.partial_correctness _ (fun Zu Qcw x r hm=>?_)
 obtain ⟨p0,v201⟩:=x
 exact lp (Qg (Qg (bi hm fun v602 hs hm=>Ze (fun d=>⟨sl d 24 [(0,(.dat (strD p0))),(1,(Qe v201)),(20,(Qo v602))],[]⟩) (have hm:=hs;R_G (Qh 2 (QT rfl (fun _=>XG (b:=p0) kr rfl kr) (Qh 2 (gs 9 hm (fun hm=>Qh 2 (bi hm fun v603 hx hm=>QT rfl (fun _=>QaP (b:=p0) (n:=v201) (v:=v603) (k:=.i64) hx kr rfl kr kr) (bi hm fun v604 hx hm=>cp (Qcx hx) (Qh 1 (gsb 14 hm (fun hm=>re 6 zf) (fun hm=>Qh 2 (bi hm fun v605 hx hm=>QT rfl (fun _=>QaP (b:=p0) (n:=v201) (v:=v605) (k:=.i64) hx kr rfl kr kr) (bi hm fun v606 hx hm=>cp (Qed hx) (re 2 zf))))))))) (fun hm=>re 11 zf)))))) (fun d=>rib hm (fun hm=>Qi (Qp (R_G (re 3 (Qcw _ _ hm _ kr))))) (fun hm=>QO zf)))))
def Ja (x:(ByteArray × Int)):Option Int :=
 match x with
 | (p0,p1) =>
 Zu (p0,p1)>>=fun v601 =>
 some v601
theorem QdS {p0 p1 r0} (hm:Ja (p0,p1)=some r0):FQ 34 [(strD p0),(Qj p1)] (Qe r0):=by
 unfold Ja at hm
 exact fp (fn:=f34) rfl (ge 1 (Qg (Qp (ru1 hm (Qcw _) fun v601 d hm=>ge 2 (Qk zf)))))
def Jx (x:(ByteArray × Int × ByteArray)):Option Bool :=
 match x with
 | (p0,p1,p2) =>
 if (W (p1+(p2.size:Int)))≤(p0.size:Int) then
  ssub p0 p1 (W (p1+(p2.size:Int)))>>=fun v1 =>
  some (decide (v1=p2))
 else
 some false
theorem QdR {p0 p1 p2 r0} (hm:Jx (p0,p1,p2)=some r0):FQ 35 [(strD p0),(Qj p1),(strD p2)] (Qo r0):=by
 unfold Jx at hm
 exact fp (fn:=f35) rfl (ge 1 (gr 2 (QT rfl (fun _=>XG (b:=p2) kr rfl kr) (Qh 2 (QT rfl (fun _=>XG (b:=p0) kr rfl kr) (Qh 2 (gs 14 hm (fun hm=>Qh 4 (QT rfl (fun _=>XG (b:=p2) kr rfl kr) (Qh 1 (bi hm fun v1 hx hm=>QT rfl (fun _=>QdH (b:=p0) (l:=p1) (h:=(W (p1+(p2.size:Int)))) hx kr rfl kr (Or.inr ⟨_,.i64,rfl,kr⟩) (Or.inr ⟨_,.i64,rfl,kr⟩)) (Qh 1 (QT rfl (fun _=>QaO (a:=v1) (b:=p2) rfl kr kr) (re 2 (Qk zf)))))))) (fun hm=>re 11 (Qk zf)))))))))
def YJ (x:(ByteArray × Bool × Int × Int)):Option (Unit ⊕ Int) :=
 match x with
 | (p0,p1,v204,v205) =>
 if v205 < (p0.size:Int) then
  sidx p0 v205>>=fun v605 =>
  Yv v605>>=fun v606 =>
  if v606=false then
   some (Sum.inl ())
  else
  sidx p0 v205>>=fun v607 =>
  quoM (W ((-9223372036854775808)+(W ((W (v607)) - 48)))) 10>>=fun v608 =>
  if v204 < v608 then
   some (Sum.inl ())
  else
  YJ (p0,p1,(W ((W (10 * v204)) - (W ((W (v607)) - 48)))),(W (v205+1)))
 else
 some (Sum.inr v204)
 partial_fixpoint
theorem QbH:∀ x r,YJ x=some r→match x with|(p0,p1,v204,v205)=>LQ f36 36 [1,1,1,0,1,0,0] 0 ⟨kp 56 [(0,(.dat (strD p0))),(1,(Qo p1)),(6,(Qe v204)),(7,(Qe v205))],[]⟩ (P2 .ret (fun _ d=>⟨sl d 56 [(4,(Qe 0)),(5,(Qo false))],[]⟩) (.exit 0) (fun v604 d=>⟨sl d 56 [(1,(Qo p1)),(6,(Qe v604))],[]⟩) r):=by
 refine YJ.partial_correctness _ (fun YJ QbH x r hm=>?_)
 obtain ⟨p0,p1,v204,v205⟩:=x
 exact lp (Qg (gr 2 (QT rfl (fun _=>XG (b:=p0) kr rfl kr) (re 1 (ri hm (fun hm=>Qi (Qg (Qp (Qg (gr 2 (bi hm fun v605 hx hm=>QT rfl (fun _=>QaP (b:=p0) (n:=v205) (v:=v605) (k:=.i64) hx kr rfl kr kr) (bi hm fun v606 hx hm=>cp (Qed hx) (re 1 (rin hm (fun hm=>ge 2 (Qk zf)) (fun hm=>Qi (gr 2 (bi hm fun v607 hx hm=>QT rfl (fun _=>QaP (b:=p0) (n:=v205) (v:=v607) (k:=.i64) hx kr rfl kr kr) (re 3 (Qg (gr 3 (bi hm fun v608 hx hm=>QT rfl (fun _=>Qhr (a:=(W ((-9223372036854775808)+(W ((W (v607)) - 48))))) (b:=10) hx rfl kr kr) (re 1 (ri hm (fun hm=>ge 2 (Qk zf)) (fun hm=>Qi (R_G (re 5 (R_G (re 3 (QbH _ _ hm _ kr)))))))))))))))))))))))) (fun hm=>QO zf))))))
def J0 (x:(ByteArray × Bool)):Option (Int × Bool) :=
 match x with
 | (p0,p1) =>
 (if (p0.size:Int)=0 then
  some true
 else
 sidx p0 0>>=fun v2 =>
 if v2=48 then
  (if (p0.size:Int) > 1 then
   some true
  else
  some p1
  )>>=fun (v3:Bool) =>
  some v3
 else
 some false
 )>>=fun (v1:Bool) =>
 if v1=true then
  some (0,false)
 else
 (
 YJ (p0,p1,0,0)>>=fun out =>
 match out with
 | .inl _ =>
  some (0,false)
 | .inr (v604) =>
  if p1=true then
   some (v604,true)
  else
  if v604=(-9223372036854775808) then
   some (0,false)
  else
  some ((W (0 - v604)),true)
 )
theorem QfH {p0 p1 r0 r1} (hm:J0 (p0,p1)=some (r0,r1)):FQ 36 [(strD p0),(Qdx p1)] (.tup [(Qe r0),(Qo r1)]):=by
 unfold J0 at hm
 exact fp (fn:=f36) rfl (ge 2 (Qg (Qg (bi hm fun v1 hs hm=>Ze (fun d=>⟨sl d 56 [(0,(.dat (strD p0))),(1,(Qo p1)),(24,(Qo v1))],[]⟩) (have hm:=hs;Qc8 (Qh 1 (QT rfl (fun _=>XG (b:=p0) kr rfl kr) (Qh 2 (gsq 12 hm (fun hm=>re 12 ⟨kr,zf⟩) (fun hm=>Qh 1 (bi hm fun v2 hx hm=>QT rfl (fun _=>QaP (b:=p0) (n:=0) (v:=v2) (k:=.i64) hx kr rfl kr kr) (Qh 2 (gsq 16 hm (fun hm=>Qh 1 (QT rfl (fun _=>XG (b:=p0) kr rfl kr) (Qh 2 (bi hm fun v3 hs hm=>Yu (j:=14) (fun d=>⟨sl d 56 [(0,(.dat (strD p0))),(1,(Qo p1)),(12,(Qo false)),(16,(Qo true)),(22,(Qo v3))],[]⟩) (fun d=>re 2 ⟨kr,zf⟩) (fun hJ=>gs 20 hs (fun hm=>Qh 2 zf) (fun hm=>Qh 2 zf)))))) (fun hm=>re 8 ⟨kr,zf⟩)))))))))) (fun d=>rib hm (fun hm=>ge 2 (Qk zf)) (fun hm=>Qi (ge 1 (Qg (ge 1 (Qp (ru2 hm (QbH _) (fun _ d hm=>zf) fun v604 d hm=>Qg (ge 1 (rib hm (fun hm=>ge 3 (Qk zf)) (fun hm=>Qi (Qg (ge 2 (riq hm (fun hm=>ge 2 (Qk zf)) (fun hm=>Qi (ge 4 (Qk zf))))))))))))))))))))
def Qbs (x:Unit):Option (List ByteArray) :=
 match x with
 | _ =>
 some ([(⟨#[226,134,145]⟩:ByteArray),(⟨#[226,134,147]⟩:ByteArray),(⟨#[226,140,189]⟩:ByteArray),(⟨#[226,141,137]⟩:ByteArray),(⟨#[226,141,180]⟩:ByteArray),(⟨#[226,141,172]⟩:ByteArray),(⟨#[226,134,144]⟩:ByteArray),(⟨#[44]⟩:ByteArray),(⟨#[40]⟩:ByteArray),(⟨#[41]⟩:ByteArray),(⟨#[91]⟩:ByteArray),(⟨#[93]⟩:ByteArray)]:List ByteArray)
theorem Qfq {r0} (hm:Qbs ()=some r0):FQ 37 [] (QdM r0):=by
 unfold Qbs at hm
 exact fp (fn:=f37) rfl (ge 1 (ge 2 (Qk zf)))
def Z8 (x:((List ByteArray) × ByteArray × Int × (List Qn) × ByteArray × Int)):Option (ByteArray) :=
 match x with
 | (v621,p0,v202,v201,v822,v823) =>
 if v823 < (v621.length:Int) then
  idx v621 v823>>=fun v1223 =>
  Jx (p0,v202,v1223)>>=fun v1224 =>
  if v1224=true then
   idx v621 v823>>=fun v1225 =>
   Z8 (v621,p0,v202,v201,v1225,(W (v823+1)))
  else
  Z8 (v621,p0,v202,v201,v822,(W (v823+1)))
 else
 some v822
 partial_fixpoint
theorem Qag:∀ x r,Z8 x=some r→match x with|(v621,p0,v202,v201,v822,v823)=>LQ f16 16 [1,1,1,1,0,0,0,1,0,1,1,1,1,1,1,1,1,0,1,0,0] 1 ⟨kp 120 [(0,(.dat (strD p0))),(4,(Qcp v201)),(5,(Qe v202)),(12,(.dat (strD v822))),(13,(QdM v621)),(14,(Qe v823))],[(.tok 94 v201.length)]⟩ (P1 (.exit 2) (fun v1222 d=>⟨sl d 120 [(0,(.dat (strD p0))),(4,(Qcp v201)),(5,(Qe v202)),(12,(.dat (strD v1222)))],[(.tok 94 v201.length)]⟩) r):=by
 refine Z8.partial_correctness _ (fun Z8 Qag x r hm=>?_)
 obtain ⟨v621,p0,v202,v201,v822,v823⟩:=x
 exact lp (Qg (gr 2 (QZ strD v621 (re 1 (ri hm (fun hm=>Qi (Qg (Qp (gr 4 (Zj 1 strD hm fun v1223 hm=>Qh 1 (bi hm fun v1224 hx hm=>cp (QdR hx) (Y9 (rib hm (fun hm=>R_G (Qh 2 (Zj 1 strD hm fun v1225 hm=>re 2 (R_G (re 3 (Qag _ _ hm _ kr)))))) (fun hm=>Qi (R_G (re 3 (Qag _ _ hm _ kr)))))))))))) (fun hm=>QO zf))))))
def QL (x:(ByteArray × (List Qn) × Int)):Option (Nat ⊕ (List Qn)) :=
 match x with
 | (p0,v201,v202) =>
 if v202 < (p0.size:Int) then
  (sidx p0 v202>>=fun v604 =>
  (if v604=32 then
   some true
  else
  sidx p0 v202>>=fun v606 =>
  some (v606 == 9)
  )>>=fun (v605:Bool) =>
  if v605=true then
   some true
  else
  sidx p0 v202>>=fun v607 =>
  some (v607 == 13)
  )>>=fun (v603:Bool) =>
  if v603=true then
   QL (p0,v201,(W (v202+1)))
  else
  sidx p0 v202>>=fun v608 =>
  ZW v608>>=fun v609 =>
  if v609=true then
   Ja (p0,v202)>>=fun v610 =>
   ssub p0 v202 v610>>=fun v611 =>
   app 32 v201 ([(⟨1,v611,0⟩:Qn)]:List Qn)>>=fun v612 =>
   QL (p0,v612,v610)
  else
  Jx (p0,v202,(⟨#[194,175]⟩:ByteArray))>>=fun v613 =>
  (if v613=true then
   some (W (v202+2))
  else
  some v202
  )>>=fun (v614:Int) =>
  Ja (p0,v614)>>=fun v615 =>
  if v615 > v614 then
   ssub p0 v614 v615>>=fun v616 =>
   J0 (v616,v613)>>=fun (v617,v618) =>
   if v618=false then
    some (Sum.inl v201.length)
   else
   ssub p0 v202 v615>>=fun v619 =>
   app 32 v201 ([(⟨2,v619,v617⟩:Qn)]:List Qn)>>=fun v620 =>
   QL (p0,v620,v615)
  else
  Qbs ()>>=fun v621 =>
  Z8 (v621,p0,v202,v201,ByteArray.empty,0)>>=fun v1222 =>
  if v1222=ByteArray.empty then
   some (Sum.inl v201.length)
  else
  app 32 v201 ([(⟨3,v1222,0⟩:Qn)]:List Qn)>>=fun v1226 =>
  QL (p0,v1226,(W (v202+(v1222.size:Int))))
 else
 some (Sum.inr v201)
 partial_fixpoint
theorem XC:∀ x r,QL x=some r→match x with|(p0,v201,v202)=>LQ f16 16 [1,1,1,1,0,0,0] 1 ⟨kp 120 [(0,(.dat (strD p0))),(4,(Qcp v201)),(5,(Qe v202))],[(.tok 94 v201.length)]⟩ (P2 .ret (fun v601 d=>⟨sl d 120 [(2,(.dat (.lst ((List.map Qn.toD) [])))),(3,(Qo false))],[(.tok 94 v601)]⟩) (.exit 0) (fun v602 d=>⟨sl d 120 [(4,(Qcp v602))],[(.tok 94 v602.length)]⟩) r):=by
 refine QL.partial_correctness _ (fun QL XC x r hm=>?_)
 obtain ⟨p0,v201,v202⟩:=x
 exact lp (Qg (gr 2 (QT rfl (fun _=>XG (b:=p0) kr rfl kr) (re 1 (ri hm (fun hm=>Qi (Qp (Qg (Qg (bi hm fun v603 hs hm=>Ze (fun d=>⟨sl d 120 [(0,(.dat (strD p0))),(4,(Qcp v201)),(5,(Qe v202)),(37,(Qo v603))],[(.tok 94 v201.length)]⟩) (have hm:=hs;Qc8 (Qh 2 (bi hm fun v604 hx hm=>QT rfl (fun _=>QaP (b:=p0) (n:=v202) (v:=v604) (k:=.i64) hx kr rfl kr kr) (Qh 2 (bi hm fun v605 hs hm=>Yu (j:=10) (fun d=>⟨sl d 120 [(0,(.dat (strD p0))),(4,(Qcp v201)),(5,(Qe v202)),(31,(Qo v605))],[(.tok 94 v201.length)]⟩) (fun d=>Qh 1 (gsb 32 hm (fun hm=>re 5 ⟨kr,zf⟩) (fun hm=>Qh 2 (bi hm fun v607 hx hm=>QT rfl (fun _=>QaP (b:=p0) (n:=v202) (v:=v607) (k:=.i64) hx kr rfl kr kr) (re 2 ⟨kr,zf⟩))))) (fun hJ=>gsq 26 hs (fun hm=>Qh 5 zf) (fun hm=>Qh 2 (bi hm fun v606 hx hm=>QT rfl (fun _=>QaP (b:=p0) (n:=v202) (v:=v606) (k:=.i64) hx kr rfl kr kr) (Qh 2 zf))))))))) (fun d=>rib hm (fun hm=>ge 3 (QO (XC _ _ hm _ kr))) (fun hm=>Qi (Qg (gr 2 (bi hm fun v608 hx hm=>QT rfl (fun _=>QaP (b:=p0) (n:=v202) (v:=v608) (k:=.i64) hx kr rfl kr kr) (bi hm fun v609 hx hm=>cp (Qcx hx) (Y9 (rib hm (fun hm=>gr 2 (bi hm fun v610 hx hm=>cp (QdS hx) (re 1 (gr 4 (bi hm fun v611 hx hm=>QT rfl (fun _=>QdH (b:=p0) (l:=v202) (h:=v610) hx kr rfl kr (Or.inr ⟨_,.i64,rfl,kr⟩) (Or.inr ⟨_,.i64,rfl,kr⟩)) (Qh 2 (bi hm fun v612 hx hm=>Xk 94 3 32 0 Qn.toD v201 ([(⟨1,v611,0⟩:Qn)]:List Qn) v612 (xs:=(List.map Qn.toD) v201) (es:=(List.map Qn.toD) ([(⟨1,v611,0⟩:Qn)]:List Qn)) (L:=(List.map Qn.toD)) (fun _=>rfl) rfl rfl Qn.fit hx (re 1 (ge 2 (QO (XC _ _ hm _ kr))))))))))) (fun hm=>Qi (ge 2 (gr 2 (bi hm fun v613 hx hm=>cp (QdR hx) (re 1 (Qg (ge 1 (bi hm fun v614 hs hm=>Ze (fun d=>⟨sl d 120 [(0,(.dat (strD p0))),(4,(Qcp v201)),(5,(Qe v202)),(7,(Qe v614)),(8,(Qo v613))],[(.tok 94 v201.length)]⟩) (have hm:=hs;rib hm (fun hm=>R_G (re 3 zf)) (fun hm=>Qi zf)) (fun d=>Qg (gr 2 (bi hm fun v615 hx hm=>cp (QdS hx) (re 1 (ge 3 (ri hm (fun hm=>gr 3 (bi hm fun v616 hx hm=>QT rfl (fun _=>QdH (b:=p0) (l:=v614) (h:=v615) hx kr rfl kr (Or.inr ⟨_,.i64,rfl,kr⟩) (Or.inr ⟨_,.i64,rfl,kr⟩)) (Qh 1 (bi2 hm fun v617 v618 hx hm=>cp (QfH hx) (re 5 (Qg (ge 2 (rin hm (fun hm=>ge 2 (Qk zf)) (fun hm=>Qi (gr 4 (bi hm fun v619 hx hm=>QT rfl (fun _=>QdH (b:=p0) (l:=v202) (h:=v615) hx kr rfl kr (Or.inr ⟨_,.i64,rfl,kr⟩) (Or.inr ⟨_,.i64,rfl,kr⟩)) (Qh 3 (bi hm fun v620 hx hm=>Xk 94 3 32 0 Qn.toD v201 ([(⟨2,v619,v617⟩:Qn)]:List Qn) v620 (xs:=(List.map Qn.toD) v201) (es:=(List.map Qn.toD) ([(⟨2,v619,v617⟩:Qn)]:List Qn)) (L:=(List.map Qn.toD)) (fun _=>rfl) rfl rfl Qn.fit hx (re 1 (ge 2 (QO (XC _ _ hm _ kr))))))))))))))))) (fun hm=>Qi (ge 1 (Qg (R_G (bi hm fun v621 hx hm=>cp (Qfq hx) (re 1 (Qg (ge 1 (Qp (ru1 hm (Qag _) fun v1222 d hm=>Qg (gr 1 (QT rfl (fun _=>QaO (a:=v1222) (b:=ByteArray.empty) rfl kr kr) (Y9 (ri hm (fun hm=>ge 2 (Qk zf)) (fun hm=>Qi (gr 4 (bi hm fun v1226 hx hm=>Xk 94 3 32 0 Qn.toD v201 ([(⟨3,v1222,0⟩:Qn)]:List Qn) v1226 (xs:=(List.map Qn.toD) v201) (es:=(List.map Qn.toD) ([(⟨3,v1222,0⟩:Qn)]:List Qn)) (L:=(List.map Qn.toD)) (fun _=>rfl) rfl rfl Qn.fit hx (re 1 (R_G (Qh 2 (QT rfl (fun _=>XG (b:=v1222) kr rfl kr) (re 2 (XC _ _ hm _ kr)))))))))))))))))))))))))))))))))))))))))))))))))) (fun hm=>QO zf))))))
def Qar (x:ByteArray):Option ((List Qn) × Bool) :=
 match x with
 | p0 =>
 if (p0.size:Int) > 65536 then
  some (([]:(List Qn)),false)
 else
 (
 QL (p0,([]:List Qn),0)>>=fun out =>
 match out with
 | .inl v601 =>
  some (([]:(List Qn)),false)
 | .inr (v602) =>
  some (v602,true)
 )
theorem Qfr {p0 r0 r1} (hm:Qar p0=some (r0,r1)):FQ 16 [(strD p0)] (.tup [(Z7 r0),(Qo r1)]):=by
 unfold Qar at hm
 exact fp (fn:=f16) rfl (ge 2 (Qg (gr 1 (QT rfl (fun _=>XG (b:=p0) kr rfl kr) (re 1 (ri hm (fun hm=>ge 2 (Qk zf)) (fun hm=>Qi (ge 1 (ge 1 (Qg (Qp (ru2 hm (XC _) (fun v601 d hm=>zf) fun v602 d hm=>ge 3 (Qk zf)))))))))))))
def Yw (x:((List Qn) × Int × ByteArray)):Option Bool :=
 match x with
 | (p0,p1,p2) =>
 (if p1≥0 then
  some (decide (p1 < (p0.length:Int)))
 else
 some false
 )>>=fun (v1:Bool) =>
 (if v1=true then
  idx p0 p1>>=fun v3 =>
  some (v3.kind == 3)
 else
 some false
 )>>=fun (v2:Bool) =>
 if v2=true then
  idx p0 p1>>=fun v4 =>
  some (decide (v4.text=p2))
 else
 some false
theorem Jo {p0 p1 p2 r0} (hm:Yw (p0,p1,p2)=some r0):FQ 62 [(.lst ((List.map Qn.toD) p0)),(Qj p1),(strD p2)] (Qo r0):=by
 unfold Yw at hm
 exact fp (fn:=f62) rfl (ge 1 (Qg (Qc8 (Qh 3 (bi hm fun v1 hs hm=>Yu (j:=8) (fun d=>⟨sl d 32 [(0,(Z7 p0)),(1,(Qe p1)),(2,(.dat (strD p2))),(6,(Qo false)),(14,(Qo v1))],[]⟩) (fun d=>Qh 1 (bi hm fun v2 hs hm=>Yu (j:=16) (fun d=>⟨sl d 32 [(0,(Z7 p0)),(1,(Qe p1)),(2,(.dat (strD p2))),(6,(Qo false)),(22,(Qo v2))],[]⟩) (fun d=>Qh 1 (gsb 23 hm (fun hm=>Qh 2 (Zj 3 Qn.toD hm fun v4 hm=>Qh 3 (QT rfl (fun _=>QaO (a:=v4.text) (b:=p2) rfl kr kr) (re 2 ⟨kr,Qk zf⟩)))) (fun hm=>re 9 ⟨kr,Qk zf⟩))) (fun hJ=>gsb 15 hs (fun hm=>Qh 2 (Zj 3 Qn.toD hm fun v3 hm=>Qh 4 zf)) (fun hm=>Qh 7 zf)))) (fun hJ=>gs 9 hs (fun hm=>Qh 2 (QZ Qn.toD p0 (Qh 2 zf))) (fun hm=>Qh 5 zf)))))))
def YB (x:((List Qn) × Int × Int)):Option (Int ⊕ Unit) :=
 match x with
 | (p0,v201,v202) =>
 if v202≥0 then
  Yw (p0,v202,(⟨#[41]⟩:ByteArray))>>=fun v602 =>
  (if v602=true then
   some (W (v201+1))
  else
  some v201
  )>>=fun (v603:Int) =>
  Yw (p0,v202,(⟨#[40]⟩:ByteArray))>>=fun v604 =>
  (if v604=true then
   some (W (v603 - 1))
  else
  some v603
  )>>=fun (v605:Int) =>
  if v605=0 then
   some (Sum.inl v202)
  else
  YB (p0,v605,(W (v202 - 1)))
 else
 some (Sum.inr ())
 partial_fixpoint
theorem Qb9:∀ x r,YB x=some r→match x with|(p0,v201,v202)=>LQ f93 93 [1,1,0,1,0,0] 0 ⟨kp 25 [(0,(Z7 p0)),(5,(Qe v201)),(6,(Qe v202))],[]⟩ (P2 .ret (fun v601 d=>⟨sl d 25 [(4,(Qe v601))],[]⟩) (.exit 0) (fun _ d=>⟨sl d 25 [],[]⟩) r):=by
 refine YB.partial_correctness _ (fun YB Qb9 x r hm=>?_)
 obtain ⟨p0,v201,v202⟩:=x
 exact lp (Qg (ge 2 (ri hm (fun hm=>Qi (Qg (Qp (Qg (gr 2 (bi hm fun v602 hx hm=>cp (Jo hx) (Y9 (bi hm fun v603 hs hm=>Ze (fun d=>⟨sl d 25 [(0,(Z7 p0)),(5,(Qe v603)),(6,(Qe v202))],[]⟩) (have hm:=hs;rib hm (fun hm=>R_G (re 3 zf)) (fun hm=>Qi zf)) (fun d=>Qg (gr 2 (bi hm fun v604 hx hm=>cp (Jo hx) (Y9 (bi hm fun v605 hs hm=>Ze (fun d=>⟨sl d 25 [(0,(Z7 p0)),(5,(Qe v605)),(6,(Qe v202))],[]⟩) (have hm:=hs;rib hm (fun hm=>R_G (re 3 zf)) (fun hm=>Qi zf)) (fun d=>ge 2 (riq hm (fun hm=>ge 2 (Qk zf)) (fun hm=>Qi (R_G (re 3 (Qb9 _ _ hm _ kr))))))))))))))))))) (fun hm=>QO zf))))
def Qbu (x:((List Qn) × Int)):Option Int :=
 match x with
 | (p0,p1) =>
 (
 YB (p0,0,p1)>>=fun out =>
 match out with
 | .inl v601 =>
  some v601
 | .inr (_) =>
  some (-1)
 )
theorem QfS {p0 p1 r0} (hm:Qbu (p0,p1)=some r0):FQ 93 [(.lst ((List.map Qn.toD) p0)),(Qj p1)] (Qe r0):=by
 unfold Qbu at hm
 exact fp (fn:=f93) rfl (ge 1 (ge 1 (Qg (ge 2 (Qp (ru2 hm (Qb9 _) (fun v601 d hm=>zf) fun _ d hm=>ge 1 (Qk zf)))))))
def YS (x:(Qn × Int)):Option (Int ⊕ Unit) :=
 match x with
 | (p0,v201) =>
 if v201 < (([(⟨#[226,134,145]⟩:ByteArray),(⟨#[226,134,147]⟩:ByteArray),(⟨#[226,140,189]⟩:ByteArray),(⟨#[226,141,137]⟩:ByteArray),(⟨#[226,141,180]⟩:ByteArray),(⟨#[44]⟩:ByteArray)]:List ByteArray).length:Int) then
  (if p0.kind=3 then
   idx ([(⟨#[226,134,145]⟩:ByteArray),(⟨#[226,134,147]⟩:ByteArray),(⟨#[226,140,189]⟩:ByteArray),(⟨#[226,141,137]⟩:ByteArray),(⟨#[226,141,180]⟩:ByteArray),(⟨#[44]⟩:ByteArray)]:List ByteArray) v201>>=fun v603 =>
   some (decide (p0.text=v603))
  else
  some false
  )>>=fun (v602:Bool) =>
  if v602=true then
   some (Sum.inl (W (v201+1)))
  else
  YS (p0,(W (v201+1)))
 else
 some (Sum.inr ())
 partial_fixpoint
theorem Qc3:∀ x r,YS x=some r→match x with|(p0,v201)=>LQ f94 94 [1,1,0,1,0,0] 1 ⟨kp 26 [(1,(.ptr 0 0)),(3,Qgf),(4,(Qe v201))],[(Qew p0.kind p0.text p0.n)]⟩ (P2 .ret (fun v601 d=>⟨sl d 26 [(2,(Qe v601))],[(Qew p0.kind p0.text p0.n)]⟩) (.exit 0) (fun _ d=>⟨sl d 26 [],[(Qew p0.kind p0.text p0.n)]⟩) r):=by
 refine YS.partial_correctness _ (fun YS Qc3 x r hm=>?_)
 obtain ⟨p0,v201⟩:=x
 exact lp (Qg (gr 2 (QZ strD ([(⟨#[226,134,145]⟩:ByteArray),(⟨#[226,134,147]⟩:ByteArray),(⟨#[226,140,189]⟩:ByteArray),(⟨#[226,141,137]⟩:ByteArray),(⟨#[226,141,180]⟩:ByteArray),(⟨#[44]⟩:ByteArray)]:List ByteArray) (re 1 (ri hm (fun hm=>Qi (Qg (Qp (Qg (bi hm fun v602 hs hm=>Ze (fun d=>⟨sl d 26 [(1,(.ptr 0 0)),(3,Qgf),(4,(Qe v201)),(23,(Qo v602))],[(Qew p0.kind p0.text p0.n)]⟩) (have hm:=hs;X0 (Qh 4 (gsq 15 hm (fun hm=>Qh 4 (Zj 1 strD hm fun v603 hm=>Qh 1 (QT rfl (fun _=>QaO (a:=p0.text) (b:=v603) rfl kr kr) (re 1 ⟨kr,zf⟩)))) (fun hm=>re 8 ⟨kr,zf⟩)))) (fun d=>rib hm (fun hm=>ge 3 (Qk zf)) (fun hm=>Qi (R_G (re 3 (Qc3 _ _ hm _ kr)))))))))) (fun hm=>QO zf))))))
def Jn (x:Qn):Option Int :=
 match x with
 | p0 =>
 (
 YS (p0,0)>>=fun out =>
 match out with
 | .inl v601 =>
  some v601
 | .inr (_) =>
  some 0
 )
theorem QbI {p0 r0} (hm:Jn p0=some r0):FQ 94 [(Qn.toD p0)] (Qe r0):=by
 unfold Jn at hm
 exact fp (fn:=f94) rfl (ge 2 (ge 2 (Qg (ge 1 (Qp (ru2 hm (Qc3 _) (fun v601 d hm=>zf) fun _ d hm=>ge 1 (Qk zf)))))))
def Jy (x:((List Qn) × Int)):Option (Int × Int × Int × Bool) :=
 match x with
 | (p0,p1) =>
 Yw (p0,p1,(⟨#[93]⟩:ByteArray))>>=fun v1 =>
 if v1=true then
  ((if p1 < 3 then
   some true
  else
  idx p0 (W (p1 - 1))>>=fun v4 =>
  some (v4.kind != 2)
  )>>=fun (v3:Bool) =>
  (if v3=true then
   some true
  else
  idx p0 (W (p1 - 1))>>=fun v6 =>
  some (decide (v6.n < 0))
  )>>=fun (v5:Bool) =>
  (if v5=true then
   some true
  else
  idx p0 (W (p1 - 1))>>=fun v8 =>
  some (decide (v8.n > 15))
  )>>=fun (v7:Bool) =>
  if v7=true then
   some true
  else
  Yw (p0,(W (p1 - 2)),(⟨#[91]⟩:ByteArray))>>=fun v9 =>
  some (!v9)
  )>>=fun (v2:Bool) =>
  if v2=true then
   some (0,0,p1,false)
  else
  idx p0 (W (p1 - 1))>>=fun v10 =>
  ((if (W (p1 - 3)) < 0 then
   some true
  else
  idx p0 (W (p1 - 3))>>=fun v13 =>
  Jn v13>>=fun v14 =>
  some (v14 == 0)
  )>>=fun (v12:Bool) =>
  if v12=true then
   some true
  else
  (if v10.n≥0 then
   idx p0 (W (p1 - 3))>>=fun v16 =>
   Jn v16>>=fun v17 =>
   some (v17 != 3)
  else
  some false
  )>>=fun (v15:Bool) =>
  if v15=true then
   idx p0 (W (p1 - 3))>>=fun v18 =>
   Jn v18>>=fun v19 =>
   some (v19 != 6)
  else
  some false
  )>>=fun (v11:Bool) =>
  if v11=true then
   some (0,0,(W (p1 - 3)),false)
  else
  idx p0 (W (p1 - 3))>>=fun v20 =>
  Jn v20>>=fun v21 =>
  some (v21,v10.n,(W ((W (p1 - 3)) - 1)),true)
 else
 ((if p1 < 0 then
  some true
 else
 idx p0 p1>>=fun v24 =>
 Jn v24>>=fun v25 =>
 some (v25 == 0)
 )>>=fun (v23:Bool) =>
 if v23=true then
  some true
 else
 some false
 )>>=fun (v22:Bool) =>
 if v22=true then
  some (0,0,p1,false)
 else
 idx p0 p1>>=fun v26 =>
 Jn v26>>=fun v27 =>
 some (v27,(-1),(W (p1 - 1)),true)
theorem QeM {p0 p1 r0 r1 r2 r3} (hm:Jy (p0,p1)=some (r0,r1,r2,r3)):FQ 61 [(.lst ((List.map Qn.toD) p0)),(Qj p1)] (.tup [(Qe r0),(Qe r1),(Qe r2),(Qo r3)]):=by
 unfold Jy at hm
 exact fp (fn:=f61) rfl (ge 4 (ge 1 (Qg (gr 2 (bi hm fun v1 hx hm=>cp (Jo hx) (Y9 (rib hm (fun hm=>Qg (Qg (bi hm fun v2 hs hm=>Ze (fun d=>⟨sl d 96 [(0,(Z7 p0)),(1,(Qe p1)),(47,(Qo v2))],[]⟩) (have hm:=hs;Qc8 (Qh 3 (bi hm fun v3 hs hm=>Yu (j:=11) (fun d=>⟨sl d 96 [(0,(Z7 p0)),(1,(Qe p1)),(22,(Qo v3))],[]⟩) (fun d=>Qh 1 (bi hm fun v5 hs hm=>Yu (j:=20) (fun d=>⟨sl d 96 [(0,(Z7 p0)),(1,(Qe p1)),(31,(Qo v5))],[]⟩) (fun d=>Qh 1 (bi hm fun v7 hs hm=>Yu (j:=29) (fun d=>⟨sl d 96 [(0,(Z7 p0)),(1,(Qe p1)),(40,(Qo v7))],[]⟩) (fun d=>Qh 1 (gsb 41 hm (fun hm=>re 6 ⟨kr,zf⟩) (fun hm=>Qh 3 (bi hm fun v9 hx hm=>cp (Jo hx) (re 2 ⟨kr,zf⟩))))) (fun hJ=>gsb 32 hs (fun hm=>Qh 8 zf) (fun hm=>Qh 3 (Zj 3 Qn.toD hm fun v8 hm=>Qh 4 zf))))) (fun hJ=>gsb 23 hs (fun hm=>Qh 8 zf) (fun hm=>Qh 3 (Zj 3 Qn.toD hm fun v6 hm=>Qh 4 zf))))) (fun hJ=>gs 14 hs (fun hm=>Qh 8 zf) (fun hm=>Qh 3 (Zj 3 Qn.toD hm fun v4 hm=>Qh 4 zf)))))) (fun d=>rib hm (fun hm=>ge 5 (Qk zf)) (fun hm=>Qi (gr 3 (Zj 3 Qn.toD hm fun v10 hm=>re 3 (R_G (re 3 (Qg (Qg (bi hm fun v11 hs hm=>Ze (fun d=>⟨sl d 96 [(0,(Z7 p0)),(1,(Qe (W (p1 - 3)))),(8,(Qe v10.n)),(86,(Qo v11))],[]⟩) (have hm:=hs;Qc8 (Qh 3 (bi hm fun v12 hs hm=>Yu (j:=10) (fun d=>⟨sl d 96 [(0,(Z7 p0)),(1,(Qe (W (p1 - 3)))),(8,(Qe v10.n)),(66,(Qo v12))],[]⟩) (fun d=>Qh 1 (gsb 67 hm (fun hm=>re 19 ⟨kr,zf⟩) (fun hm=>Qh 3 (bi hm fun v15 hs hm=>Yu (j:=21) (fun d=>⟨sl d 96 [(0,(Z7 p0)),(1,(Qe (W (p1 - 3)))),(8,(Qe v10.n)),(67,(Qo false)),(77,(Qo v15))],[]⟩) (fun d=>Qh 1 (gsb 78 hm (fun hm=>Qh 2 (Zj 3 Qn.toD hm fun v18 hm=>Qh 1 (bi hm fun v19 hx hm=>cp (QbI hx) (re 3 ⟨kr,zf⟩)))) (fun hm=>re 8 ⟨kr,zf⟩))) (fun hJ=>gs 70 hs (fun hm=>Qh 2 (Zj 3 Qn.toD hm fun v16 hm=>Qh 1 (bi hm fun v17 hx hm=>cp (QbI hx) (Qh 2 zf)))) (fun hm=>Qh 7 zf)))))) (fun hJ=>gs 59 hs (fun hm=>Qh 7 zf) (fun hm=>Qh 2 (Zj 3 Qn.toD hm fun v13 hm=>Qh 1 (bi hm fun v14 hx hm=>cp (QbI hx) (Qh 2 zf)))))))) (fun d=>rib hm (fun hm=>ge 5 (Qk zf)) (fun hm=>Qi (gr 2 (Zj 3 Qn.toD hm fun v20 hm=>Qh 1 (bi hm fun v21 hx hm=>cp (QbI hx) (re 7 (Qk zf))))))))))))))))))) (fun hm=>Qi (Qg (Qg (bi hm fun v22 hs hm=>Ze (fun d=>⟨sl d 96 [(0,(Z7 p0)),(1,(Qe p1)),(8,(Qe (-1))),(86,(Qo v22))],[]⟩) (have hm:=hs;Qc8 (Qh 3 (bi hm fun v23 hs hm=>Yu (j:=10) (fun d=>⟨sl d 96 [(0,(Z7 p0)),(1,(Qe p1)),(8,(Qe (-1))),(66,(Qo v23))],[]⟩) (fun d=>Qh 1 (gsb 67 hm (fun hm=>re 19 ⟨kr,zf⟩) (fun hm=>re 19 ⟨kr,zf⟩))) (fun hJ=>gs 59 hs (fun hm=>Qh 7 zf) (fun hm=>Qh 2 (Zj 3 Qn.toD hm fun v24 hm=>Qh 1 (bi hm fun v25 hx hm=>cp (QbI hx) (Qh 2 zf)))))))) (fun d=>rib hm (fun hm=>ge 5 (Qk zf)) (fun hm=>Qi (gr 2 (Zj 3 Qn.toD hm fun v26 hm=>Qh 1 (bi hm fun v27 hx hm=>cp (QbI hx) (re 7 (Qk zf))))))))))))))))))
def Ye (x:((List Qn) × (List Int) × Int)):Option (((List Int) × Int)) :=
 match x with
 | (p0,v205,v206) =>
 (if v206≥0 then
  idx p0 v206>>=fun v608 =>
  some (v608.kind == 2)
 else
 some false
 )>>=fun (v607:Bool) =>
 if v607=true then
  idx p0 v206>>=fun v609 =>
  app 8 ([v609.n]:List Int) v205>>=fun v610 =>
  Ye (p0,v610,(W (v206 - 1)))
 else
 some (v205,v206)
 partial_fixpoint
theorem Qbh:∀ x r,Ye x=some r→match x with|(p0,v205,v206)=>LQ f60 60 [1,1,1,1,0,1,0,1,0,0,0] 2 ⟨kp 91 [(0,(Z7 p0)),(1,(Qe v206)),(4,(.ptr 0 0)),(7,(.ptr 1 0))],[Jw,(Qe9 v205)]⟩ (P1 (.exit 0) (fun (v605,v606) d=>⟨sl d 91 [(1,(Qe v606)),(4,(.ptr 0 0)),(7,(.ptr 1 0))],[Jw,(Qe9 v605)]⟩) r):=by
 refine Ye.partial_correctness _ (fun Ye Qbh x r hm=>?_)
 obtain ⟨p0,v205,v206⟩:=x
 exact lp (Qg (Qg (bi hm fun v607 hs hm=>Ze (fun d=>⟨sl d 91 [(0,(Z7 p0)),(1,(Qe v206)),(4,(.ptr 0 0)),(7,(.ptr 1 0)),(51,(Qo v607))],[Jw,(Qe9 v205)]⟩) (have hm:=hs;R_G (Qh 3 (gs 44 hm (fun hm=>Qh 2 (Zj 3 Qn.toD hm fun v608 hm=>re 4 zf)) (fun hm=>re 7 zf)))) (fun d=>rib hm (fun hm=>Qi (Qp (Qg (X0 (Qh 2 (Zj 3 Qn.toD hm fun v609 hm=>Qh 5 (bi hm fun v610 hx hm=>Xk 2 1 8 2 Qj ([v609.n]:List Int) v205 v610 (xs:=(List.map Qj) ([v609.n]:List Int)) (es:=(List.map Qj) v205) (L:=(List.map Qj)) (fun _=>rfl) rfl rfl (fun _=>rfl) hx (re 2 ⟨kr,R_G (re 3 (Qbh _ _ hm _ kr))⟩)))))))) (fun hm=>QO zf)))))
mutual
def ZX (x:((List Qn) × Int)):Option (Qa × Int × Bool) :=
 match x with
 | (p0,p1) =>
 if p1 < 0 then
  some ((⟨0,0,0,ByteArray.empty,([]:(List Int)),([]:(List Qa))⟩:Qa),p1,false)
 else
 idx p0 p1>>=fun v1 =>
 if v1.kind=1 then
  idx p0 p1>>=fun v2 =>
  some ((⟨2,0,(-1),v2.text,([]:(List Int)),([]:(List Qa))⟩:Qa),(W (p1 - 1)),true)
 else
 Yw (p0,p1,(⟨#[226,141,172]⟩:ByteArray))>>=fun v3 =>
 if v3=true then
  some ((⟨1,0,(-1),ByteArray.empty,([]:(List Int)),([]:(List Qa))⟩:Qa),(W (p1 - 1)),true)
 else
 idx p0 p1>>=fun v4 =>
 if v4.kind=2 then
  Ye (p0,([]:List Int),p1)>>=fun (v605,v606) =>
  some ((⟨1,0,(-1),ByteArray.empty,v605,([]:(List Qa))⟩:Qa),v606,true)
 else
 Yw (p0,p1,(⟨#[41]⟩:ByteArray))>>=fun v611 =>
 if v611=true then
  Qbu (p0,p1)>>=fun v612 =>
  if v612 < 0 then
   some ((⟨0,0,0,ByteArray.empty,([]:(List Int)),([]:(List Qa))⟩:Qa),p1,false)
  else
  sub p0 (W (v612+1)) p1>>=fun v613 =>
  Jb v613>>=fun (v614,v615) =>
  some (v614,(W (v612 - 1)),v615)
 else
 some ((⟨0,0,0,ByteArray.empty,([]:(List Int)),([]:(List Qa))⟩:Qa),p1,false)
 partial_fixpoint
def ZM (x:(Bool × (List Qn) × Int × Int × Int × ByteArray × (List Int) × (List Qa) × Int)):Option ((Int × Int × Int × ByteArray × (List Int) × (List Qa)) ⊕ (Int × Int × Int × ByteArray × (List Int) × (List Qa) × Int × Int × Int × ByteArray × (List Int) × (List Qa)) ⊕ (Int × Int × Int × ByteArray × (List Int) × (List Qa))) :=
 match x with
 | (v3,p0,v204,v205,v206,v207,v208,v209,v210) =>
 (if v3=true then
  some (decide (v210≥0))
 else
 some false
 )>>=fun (v628:Bool) =>
 if v628=true then
  Jy (p0,v210)>>=fun (v629,v630,v631,v632) =>
  if v632=false then
   some (Sum.inl (v204,v205,v206,v207,v208,v209))
  else
  ZX (p0,v631)>>=fun (v633,v634,v635) =>
  if v635=true then
   (if v629≠6 then
    some (decide (v633.kind > 2))
   else
   some false
   )>>=fun (v636:Bool) =>
   if v636=true then
    some (Sum.inr (Sum.inl (v204,v205,v206,v207,v208,v209,v633.kind,v633.fn,v633.axis,v633.name,v633.nums,v633.kids)))
   else
   ZM (v3,p0,4,v629,v630,ByteArray.empty,([]:List Int),([(⟨v633.kind,v633.fn,v633.axis,v633.name,v633.nums,v633.kids⟩:Qa),(⟨v204,v205,v206,v207,v208,v209⟩:Qa)]:List Qa),v634)
  else
  ((if v631≥0 then
   Yw (p0,v631,(⟨#[41]⟩:ByteArray))>>=fun v639 =>
   if v639=true then
    some true
   else
   idx p0 v631>>=fun v640 =>
   some (v640.kind != 3)
  else
  some false
  )>>=fun (v638:Bool) =>
  (if v638=true then
   some true
  else
  (if v629≠3 then
   some (v629 != 4)
  else
  some false
  )>>=fun (v642:Bool) =>
  if v642=true then
   some (v629 != 6)
  else
  some false
  )>>=fun (v641:Bool) =>
  if v641=true then
   some true
  else
  if v629=6 then
   some (decide (v630≥0))
  else
  some false
  )>>=fun (v637:Bool) =>
  if v637=true then
   some (Sum.inr (Sum.inl (v204,v205,v206,v207,v208,v209,v633.kind,v633.fn,v633.axis,v633.name,v633.nums,v633.kids)))
  else
  ZM (v3,p0,3,v629,v630,ByteArray.empty,([]:List Int),([(⟨v204,v205,v206,v207,v208,v209⟩:Qa)]:List Qa),v631)
 else
 some (Sum.inr (Sum.inr (v204,v205,v206,v207,v208,v209)))
 partial_fixpoint
def Jb (x:(List Qn)):Option (Qa × Bool) :=
 match x with
 | p0 =>
 ZX (p0,(W ((p0.length:Int) - 1)))>>=fun (v1,v2,v3) =>
 (
 ZM (v3,p0,v1.kind,v1.fn,v1.axis,v1.name,v1.nums,v1.kids,v2)>>=fun out =>
 match out with
 | .inl (v604,v605,v606,v607,v608,v609) =>
  some ((⟨0,0,0,ByteArray.empty,([]:(List Int)),([]:(List Qa))⟩:Qa),false)
 | .inr (.inl (v610,v611,v612,v613,v614,v615,v616,v617,v618,v619,v620,v621)) =>
  some ((⟨0,0,0,ByteArray.empty,([]:(List Int)),([]:(List Qa))⟩:Qa),false)
 | .inr (.inr ((v622,v623,v624,v625,v626,v627))) =>
  some ((⟨v622,v623,v624,v625,v626,v627⟩:Qa),v3)
 )
 partial_fixpoint
end
def Qa5:((List Qn) × Int)→(Qa × Int × Bool)→Prop:=fun x r=>match x,r with
 | (p0,p1),(r0,r1,r2)=>∀ H,PC prog env 60 ([(.lst ((List.map Qn.toD) p0)),(Qj p1)].map .dat) H (.tup [(.dat (Qa.ex r0)),(Qe r1),(Qo r2)]) H
def Qa4:(Bool × (List Qn) × Int × Int × Int × ByteArray × (List Int) × (List Qa) × Int)→((Int × Int × Int × ByteArray × (List Int) × (List Qa)) ⊕ (Int × Int × Int × ByteArray × (List Int) × (List Qa) × Int × Int × Int × ByteArray × (List Int) × (List Qa)) ⊕ (Int × Int × Int × ByteArray × (List Int) × (List Qa)))→Prop:=fun x r=>match x with
 | (v3,p0,v204,v205,v206,v207,v208,v209,v210)=>LQ f38 38 [1,1,0,0,0] 2 ⟨kp 106 [(0,(Z7 p0)),(2,(.ptr 0 0)),(4,(.ptr 1 0)),(5,(Qe v210)),(6,(Qo v3))],[Jw,(Q0 v204 v205 v206 v207 v208 v209)]⟩ (P3 .ret (fun (v604,v605,v606,v607,v608,v609) d=>⟨sl d 106 [(2,(.ptr 0 0)),(3,(Qo false))],[Jw,(Q0 v604 v605 v606 v607 v608 v609)]⟩) .ret (fun (v610,v611,v612,v613,v614,v615,v616,v617,v618,v619,v620,v621) d=>⟨sl d 106 [(2,(.ptr 0 0)),(3,(Qo false))],[Jw,(Q0 v610 v611 v612 v613 v614 v615),(Q0 v616 v617 v618 v619 v620 v621)]⟩) (.exit 0) (fun (v622,v623,v624,v625,v626,v627) d=>⟨sl d 106 [(2,(.ptr 0 0)),(4,(.ptr 1 0)),(6,(Qo v3))],[Jw,(Q0 v622 v623 v624 v625 v626 v627)]⟩) r)
def Qci:(List Qn)→(Qa × Bool)→Prop:=fun x r=>match x,r with
 | p0,(r0,r1)=>∀ H,PC prog env 38 ([(.lst ((List.map Qn.toD) p0))].map .dat) H (.tup [(.dat (Qa.ex r0)),(Qo r1)]) H
theorem g_ref09_operand:(∀ x r,ZX x=some r→Qa5 x r)∧(∀ x r,Jb x=some r→Qci x r)∧(∀ x r,ZM x=some r→Qa4 x r):=by
 refine ZX.mutual_partial_correctness Qa5 Qci Qa4 ?_ ?_ ?_
 ·intro Jb Qdr x r hm
  unfold Qa5
  obtain ⟨p0,p1⟩:=x
  obtain ⟨r0,r1,r2⟩:=r
  intro H
  refine PC_sx (ds:=[(.lst ((List.map Qn.toD) p0)),(Qj p1)]) (fn:=f60) rfl ?_
  exact ge 3 (Qg (ge 2 (ri hm (fun hm=>ge 5 (Qk zf)) (fun hm=>Qi (Qg (gr 2 (Zj 3 Qn.toD hm fun v1 hm=>re 3 (riq hm (fun hm=>gr 2 (Zj 3 Qn.toD hm fun v2 hm=>re 8 (Qk zf))) (fun hm=>Qi (Qg (gr 2 (bi hm fun v3 hx hm=>cp (Jo hx) (Y9 (rib hm (fun hm=>ge 6 (Qk zf)) (fun hm=>Qi (Qg (gr 2 (Zj 3 Qn.toD hm fun v4 hm=>re 3 (riq hm (fun hm=>ge 3 (Qg (Qp (ru1 hm (Qbh _) fun ⟨v605,v606⟩ d hm=>ge 5 (Qk zf))))) (fun hm=>Qi (Qg (gr 2 (bi hm fun v611 hx hm=>cp (Jo hx) (Y9 (rib hm (fun hm=>gr 2 (bi hm fun v612 hx hm=>cp (QfS hx) (re 1 (Qg (ge 2 (ri hm (fun hm=>ge 5 (Qk zf)) (fun hm=>Qi (gr 4 (bi hm fun v613 hx hm=>QeZ 3 Qn.toD p0 v613 (W (v612+1)) p1 (es:=(List.map Qn.toD) p0) (L:=(List.map Qn.toD)) (a:=natI (W (v612+1))) (b:=natI p1) (fun _=>rfl) rfl (fun _=>by first|rfl|exact num_of_fit (Qn.fit _)) hx rfl (Or.inl rfl) (bi2 hm fun v614 v615 hx hm=>YA (Qdr _ _ hx []) (re 6 (ge 7 (Qk zf))))))))))))) (fun hm=>Qi (ge 5 (Qk zf))))))))))))))))))))))))))))
 ·intro ZX ZM Qba JW p0 r hm
  unfold Qci
  obtain ⟨r0,r1⟩:=r
  intro H
  refine PC_sx (ds:=[(.lst ((List.map Qn.toD) p0))]) (fn:=f38) rfl ?_
  exact ge 2 (gr 2 (QZ Qn.toD p0 (Qh 1 (bi3 hm fun v1 v2 v3 hx hm=>YA (Qba _ _ hx []) (re 8 (Qg (Qp (ru3 hm (JW _) (fun ⟨v604,v605,v606,v607,v608,v609⟩ d hm=>zf) (fun ⟨v610,v611,v612,v613,v614,v615,v616,v617,v618,v619,v620,v621⟩ d hm=>zf) fun ⟨v622,v623,v624,v625,v626,v627⟩ d hm=>ge 4 (Qk zf)))))))))
 ·intro ZX ZM Qba JW x r hm
  unfold Qa4
  obtain ⟨v3,p0,v204,v205,v206,v207,v208,v209,v210⟩:=x
  exact lp (Qg (Qg (bi hm fun v628 hs hm=>Ze (fun d=>⟨sl d 106 [(0,(Z7 p0)),(2,(.ptr 0 0)),(4,(.ptr 1 0)),(5,(Qe v210)),(6,(Qo v3)),(27,(Qo v628))],[Jw,(Q0 v204 v205 v206 v207 v208 v209)]⟩) (have hm:=hs;R_G (Qh 2 (gsb 24 hm (fun hm=>re 3 zf) (fun hm=>re 3 zf)))) (fun d=>rib hm (fun hm=>Qi (Qp (gr 2 (bi4 hm fun v629 v630 v631 v632 hx hm=>cp (QeM hx) (re 9 (Qg (ge 2 (rin hm (fun hm=>ge 3 (Qk zf)) (fun hm=>Qi (gr 2 (bi3 hm fun v633 v634 v635 hx hm=>YA (Qba _ _ hx []) (re 8 (Qg (ge 1 (rib hm (fun hm=>Qg (Qg (bi hm fun v636 hs hm=>Ze (fun d=>⟨sl d 106 [(0,(Z7 p0)),(2,(.ptr 0 0)),(4,(.ptr 1 0)),(6,(Qo v3)),(7,(Qe v629)),(8,(Qe v630)),(11,(.ptr 2 0)),(12,(Qe v634)),(53,(Qo v636))],[Jw,(Q0 v204 v205 v206 v207 v208 v209),(Q0 v633.kind v633.fn v633.axis v633.name v633.nums v633.kids)]⟩) (have hm:=hs;R_G (Qh 3 (gsx 49 hm (fun hm=>re 4 zf) (fun hm=>re 4 zf)))) (fun d=>rib hm (fun hm=>ge 3 (Qk zf)) (fun hm=>Qi (ge 7 (ge 2 (QO (JW _ _ hm _ kr))))))))) (fun hm=>Qi (Qg (Qg (bi hm fun v637 hs hm=>Ze (fun d=>⟨sl d 106 [(0,(Z7 p0)),(2,(.ptr 0 0)),(4,(.ptr 1 0)),(6,(Qo v3)),(7,(Qe v629)),(8,(Qe v630)),(9,(Qe v631)),(96,(Qo v637))],[Jw,(Q0 v204 v205 v206 v207 v208 v209),(Q0 v633.kind v633.fn v633.axis v633.name v633.nums v633.kids)]⟩) (have hm:=hs;Qc8 (Qh 3 (bi hm fun v638 hs hm=>Yu (j:=15) (fun d=>⟨sl d 106 [(0,(Z7 p0)),(2,(.ptr 0 0)),(4,(.ptr 1 0)),(6,(Qo v3)),(7,(Qe v629)),(8,(Qe v630)),(9,(Qe v631)),(76,(Qo v638))],[Jw,(Q0 v204 v205 v206 v207 v208 v209),(Q0 v633.kind v633.fn v633.axis v633.name v633.nums v633.kids)]⟩) (fun d=>Qh 1 (bi hm fun v641 hs hm=>Yu (j:=27) (fun d=>⟨sl d 106 [(0,(Z7 p0)),(2,(.ptr 0 0)),(4,(.ptr 1 0)),(6,(Qo v3)),(7,(Qe v629)),(8,(Qe v630)),(9,(Qe v631)),(88,(Qo v641))],[Jw,(Q0 v204 v205 v206 v207 v208 v209),(Q0 v633.kind v633.fn v633.axis v633.name v633.nums v633.kids)]⟩) (fun d=>Qh 1 (gsb 89 hm (fun hm=>re 7 ⟨kr,zf⟩) (fun hm=>Qh 3 (gsq 92 hm (fun hm=>re 4 ⟨kr,zf⟩) (fun hm=>re 4 ⟨kr,zf⟩))))) (fun hJ=>gsb 77 hs (fun hm=>Qh 11 zf) (fun hm=>Qh 3 (bi hm fun v642 hs hm=>Yu (j:=22) (fun d=>⟨sl d 106 [(0,(Z7 p0)),(2,(.ptr 0 0)),(4,(.ptr 1 0)),(6,(Qo v3)),(7,(Qe v629)),(8,(Qe v630)),(9,(Qe v631)),(77,(Qo false)),(83,(Qo v642))],[Jw,(Q0 v204 v205 v206 v207 v208 v209),(Q0 v633.kind v633.fn v633.axis v633.name v633.nums v633.kids)]⟩) (fun d=>Qh 1 (gsb 84 hm (fun hm=>Qh 4 zf) (fun hm=>Qh 4 zf))) (fun hJ=>gsx 80 hs (fun hm=>Qh 3 zf) (fun hm=>Qh 3 zf))))))) (fun hJ=>gs 64 hs (fun hm=>Qh 2 (bi hm fun v639 hx hm=>cp (Jo hx) (Qh 1 (gsb 68 hm (fun hm=>Qh 8 zf) (fun hm=>Qh 2 (Zj 3 Qn.toD hm fun v640 hm=>Qh 5 zf)))))) (fun hm=>Qh 12 zf))))) (fun d=>rib hm (fun hm=>ge 3 (Qk zf)) (fun hm=>Qi (ge 6 (R_G (re 2 (JW _ _ hm _ kr))))))))))))))))))))))))) (fun hm=>QO zf)))))
theorem Qba:∀ x r,ZX x=some r→Qa5 x r:=g_ref09_operand.1
theorem Qdr:∀ x r,Jb x=some r→Qci x r:=g_ref09_operand.2.1
theorem JW:∀ x r,ZM x=some r→Qa4 x r:=g_ref09_operand.2.2
mutual
def Z0 (x:(Qa × Int × Int)):Option (Int) :=
 match x with
 | (p0,v201,v202) =>
 if v202 < (p0.kids.length:Int) then
  idx p0.kids v202>>=fun v602 =>
  Jl v602>>=fun v603 =>
  Z0 (p0,(if v201 < v603 then v603 else v201),(W (v202+1)))
 else
 some v201
 partial_fixpoint
def Jl (x:Qa):Option Int :=
 match x with
 | p0 =>
 Z0 (p0,0,0)>>=fun v601 =>
 some (W (v601+1))
 partial_fixpoint
end
def QaA:(Qa × Int × Int)→(Int)→Prop:=fun x r=>match x with
 | (p0,v201,v202)=>LQ f39 39 [1,1,0,1,0,0] 1 ⟨kp 22 [(1,(.ptr 0 0)),(3,(Qe v201)),(4,(Qe v202))],[(Q0 p0.kind p0.fn p0.axis p0.name p0.nums p0.kids)]⟩ (P1 (.exit 0) (fun v601 d=>⟨sl d 22 [(3,(Qe v601))],[(Q0 p0.kind p0.fn p0.axis p0.name p0.nums p0.kids)]⟩) r)
def QbO:Qa→Int→Prop:=fun x r=>match x,r with
 | p0,r0=>∀ H,PC prog env 39 ([(Qa.ex p0)].map .dat) H (Qe r0) H
theorem g_ref08_Depth_L1:(∀ x r,Z0 x=some r→QaA x r)∧(∀ x r,Jl x=some r→QbO x r):=by
 refine Z0.mutual_partial_correctness QaA QbO ?_ ?_
 ·intro Z0 Jl QaK Qc0 x r hm
  unfold QaA
  obtain ⟨p0,v201,v202⟩:=x
  exact lp (Qg (gr 3 (QcI Qa.toD p0.kids (es:=Qa.toDs p0.kids) (Qa.toDs_eq _) (re 1 (ri hm (fun hm=>Qi (Qg (Qp (R_G (Qh 4 (bi hm fun v602 hx hm=>QbU 6 Qa.toD p0.kids v202 v602 (es:=Qa.toDs p0.kids) (d:=(Qa.ex v602)) (Qa.toDs_eq _) hx (Qa.toD_eq v602) rfl (Qh 1 (bi hm fun v603 hx hm=>YA (Qc0 _ _ hx []) (QT rfl (fun _=>Qf5 (k:=.i64) (m:=v201) (n:=v603) rfl kr kr) (re 1 (R_G (re 3 (QaK _ _ hm _ kr))))))))))))) (fun hm=>QO zf))))))
 ·intro Z0 QaK p0 r0 hm
  unfold QbO
  intro H
  refine PC_sx (ds:=[(Qa.ex p0)]) (fn:=f39) rfl ?_
  exact ge 2 (ge 1 (Qg (ge 1 (Qp (ru1 hm (QaK _) fun v601 d hm=>ge 3 (Qk zf))))))
theorem QaK:∀ x r,Z0 x=some r→QaA x r:=g_ref08_Depth_L1.1
theorem Qc0:∀ x r,Jl x=some r→QbO x r:=g_ref08_Depth_L1.2
def Qbv (x:((List Qn) × Bool)):Option (Qa × Int) :=
 match x with
 | (p0,p1) =>
 if p1=false then
  some ((⟨0,0,0,ByteArray.empty,([]:(List Int)),([]:(List Qa))⟩:Qa),1)
 else
 Jb p0>>=fun (v1,v2) =>
 if v2=false then
  some ((⟨0,0,0,ByteArray.empty,([]:(List Int)),([]:(List Qa))⟩:Qa),1)
 else
 Jl v1>>=fun v3 =>
 if v3 > 100 then
  some ((⟨0,0,0,ByteArray.empty,([]:(List Int)),([]:(List Qa))⟩:Qa),7)
 else
 some (v1,0)
theorem Qft {p0 p1 r0 r1} (hm:Qbv (p0,p1)=some (r0,r1)):FQ 17 [(.lst ((List.map Qn.toD) p0)),(Qdx p1)] (.tup [(.dat (Qa.ex r0)),(Qe r1)]):=by
 unfold Qbv at hm
 exact fp (fn:=f17) rfl (ge 2 (Qg (ge 2 (rin hm (fun hm=>ge 3 (Qk zf)) (fun hm=>Qi (gr 1 (bi2 hm fun v1 v2 hx hm=>YA (Qdr _ _ hx []) (re 6 (Qg (ge 2 (rin hm (fun hm=>ge 3 (Qk zf)) (fun hm=>Qi (Qg (gr 1 (bi hm fun v3 hx hm=>YA (Qc0 _ _ hx []) (re 1 (ri hm (fun hm=>ge 3 (Qk zf)) (fun hm=>Qi (ge 3 (Qk zf))))))))))))))))))))
def Qbt (x:ByteArray):Option (Qa × Int) :=
 match x with
 | p0 =>
 Qar p0>>=fun (v1,v2) =>
 Qbv (v1,v2)>>=fun (v3,v4) =>
 some (v3,v4)
theorem QfR {p0 r0 r1} (hm:Qbt p0=some (r0,r1)):FQ 4 [(strD p0)] (.tup [(.dat (Qa.ex r0)),(Qe r1)]):=by
 unfold Qbt at hm
 exact fp (fn:=f4) rfl (ge 2 (gr 1 (bi2 hm fun v1 v2 hx hm=>cp (Qfr hx) (re 5 (gr 2 (bi2 hm fun v3 v4 hx hm=>cp (Qft hx) (re 4 (Qk zf))))))))
def QbQ (x:Unit):Option Bool:=some true
def QfB:Unit→Bool→Prop:=fun x r=>∀ H,PC prog env 5 ([].map .dat) H (Qo r) H
theorem Qeb:∀ x r,QbQ x=some r→QfB x r:=by
 intro x r hm
 cases hm
 intro H
 exact PC_of (n:=200) (by kernel_rfl)
def QcM (x:(Qq × Int)):Option Bool :=
 match x with
 | (p0,p1) =>
 if (p0.shape.length:Int)≤100 then
  some (decide ((p0.data.length:Int)≤p1))
 else
 some false
theorem Qgo {p0 p1 r0} (hm:QcM (p0,p1)=some r0):FQ 20 [(Qq.toD p0),(Qj p1)] (Qo r0):=by
 unfold QcM at hm
 exact fp (fn:=f20) rfl (ge 2 (gr 2 (QZ Qj p0.shape (Qh 2 (gs 9 hm (fun hm=>Qh 2 (QZ Qj p0.data (re 4 (Qk zf)))) (fun hm=>re 7 (Qk zf)))))))
def Xm (x:((List Qb) × Int × Int)):Option (Unit ⊕ Unit) :=
 match x with
 | (p0,p1,v201) =>
 if v201 < (p0.length:Int) then
  (idx p0 v201>>=fun v602 =>
  QcM (v602.value,p1)>>=fun v603 =>
  if v603=false then
   some true
  else
  idx p0 v201>>=fun v604 =>
  some (decide ((v604.name.size:Int) > 100))
  )>>=fun (v601:Bool) =>
  if v601=true then
   some (Sum.inl ())
  else
  Xm (p0,p1,(W (v201+1)))
 else
 some (Sum.inr ())
 partial_fixpoint
theorem Qcy:∀ x r,Xm x=some r→match x with|(p0,p1,v201)=>LQ f6 6 [1,1,0,1,0,0] 0 ⟨kp 32 [(0,(YG p0)),(1,(Qe p1)),(5,(Qe v201))],[]⟩ (P2 .ret (fun _ d=>⟨sl d 32 [(4,(Qo false))],[]⟩) (.exit 0) (fun _ d=>⟨sl d 32 [],[]⟩) r):=by
 refine Xm.partial_correctness _ (fun Xm Qcy x r hm=>?_)
 obtain ⟨p0,p1,v201⟩:=x
 exact lp (Qg (gr 2 (QZ Qb.toD p0 (re 1 (ri hm (fun hm=>Qi (Qg (Qp (Qg (bi hm fun v601 hs hm=>Ze (fun d=>⟨sl d 32 [(0,(YG p0)),(1,(Qe p1)),(5,(Qe v201)),(31,(Qo v601))],[]⟩) (have hm:=hs;R_G (Qh 2 (Zj 3 Qb.toD hm fun v602 hm=>Qh 3 (bi hm fun v603 hx hm=>cp (Qgo hx) (Qh 2 (gsn 23 hm (fun hm=>re 8 zf) (fun hm=>Qh 2 (Zj 3 Qb.toD hm fun v604 hm=>Qh 2 (QT rfl (fun _=>XG (b:=v604.name) kr rfl kr) (re 2 zf)))))))))) (fun d=>rib hm (fun hm=>ge 1 (Qk zf)) (fun hm=>Qi (R_G (re 3 (Qcy _ _ hm _ kr)))))))))) (fun hm=>QO zf))))))
def Qb0 (x:((List Qb) × Int)):Option Bool :=
 match x with
 | (p0,p1) =>
 if (p0.length:Int) > 12 then
  some false
 else
 (
 Xm (p0,p1,0)>>=fun out =>
 match out with
 | .inl _ =>
  some false
 | .inr (_) =>
  some true
 )
theorem Qgp {p0 p1 r0} (hm:Qb0 (p0,p1)=some r0):FQ 6 [(.lst ((List.map Qb.toD) p0)),(Qj p1)] (Qo r0):=by
 unfold Qb0 at hm
 exact fp (fn:=f6) rfl (ge 1 (Qg (gr 1 (QZ Qb.toD p0 (re 1 (ri hm (fun hm=>ge 1 (Qk zf)) (fun hm=>Qi (Qg (ge 1 (Qp (ru2 hm (Qcy _) (fun _ d hm=>zf) fun _ d hm=>ge 1 (Qk zf))))))))))))
def ZR (x:ByteArray):Option Bool :=
 match x with
 | p0 =>
 (if (p0.size:Int) > 0 then
  sidx p0 0>>=fun v2 =>
  ZW v2>>=fun v3 =>
  some v3
 else
 some false
 )>>=fun (v1:Bool) =>
 if v1=true then
  Ja (p0,0)>>=fun v4 =>
  some (v4 == (p0.size:Int))
 else
 some false
theorem QfQ {p0 r0} (hm:ZR p0=some r0):FQ 21 [(strD p0)] (Qo r0):=by
 unfold ZR at hm
 exact fp (fn:=f21) rfl (ge 1 (Qg (Qc8 (Qh 1 (QT rfl (fun _=>XG (b:=p0) kr rfl kr) (Qh 2 (bi hm fun v1 hs hm=>Yu (j:=8) (fun d=>⟨sl d 18 [(0,(.dat (strD p0))),(2,(Qo false)),(10,(Qo v1))],[]⟩) (fun d=>Qh 1 (gsb 11 hm (fun hm=>Qh 1 (bi hm fun v4 hx hm=>cp (QdS hx) (Qh 1 (QT rfl (fun _=>XG (b:=p0) kr rfl kr) (re 3 ⟨kr,Qk zf⟩))))) (fun hm=>re 7 ⟨kr,Qk zf⟩))) (fun hJ=>gs 6 hs (fun hm=>Qh 1 (bi hm fun v2 hx hm=>QT rfl (fun _=>QaP (b:=p0) (n:=0) (v:=v2) (k:=.i64) hx kr rfl kr kr) (bi hm fun v3 hx hm=>cp (Qcx hx) (Qh 1 zf)))) (fun hm=>Qh 4 zf)))))))))
def ZI (x:((List Int) × Bool × Int)):Option (Unit ⊕ Bool) :=
 match x with
 | (p0,v201,v202) =>
 if v202 < (p0.length:Int) then
  idx p0 v202>>=fun v602 =>
  if v602 < 0 then
   some (Sum.inl ())
  else
  if v201=true then
   ZI (p0,true,(W (v202+1)))
  else
  idx p0 v202>>=fun v603 =>
  ZI (p0,(v603 == 0),(W (v202+1)))
 else
 some (Sum.inr v201)
 partial_fixpoint
theorem JN:∀ x r,ZI x=some r→match x with|(p0,v201,v202)=>LQ f66 66 [1,1,0,1,0,0] 0 ⟨kp 55 [(0,(La p0)),(4,(Qo v201)),(5,(Qe v202))],[]⟩ (P2 .ret (fun _ d=>⟨sl d 55 [(2,(Qe 0)),(3,(Qe 6))],[]⟩) (.exit 0) (fun v601 d=>⟨sl d 55 [(0,(La p0)),(4,(Qo v601))],[]⟩) r):=by
 refine ZI.partial_correctness _ (fun ZI JN x r hm=>?_)
 obtain ⟨p0,v201,v202⟩:=x
 exact lp (Qg (gr 2 (QZ Qj p0 (re 1 (ri hm (fun hm=>Qi (Qg (Qp (Qg (gr 2 (Zj 1 Qj hm fun v602 hm=>re 2 (ri hm (fun hm=>ge 2 (Qk zf)) (fun hm=>Qi (R_G (Qh 2 (gsb 21 hm (fun hm=>re 7 (R_G (re 3 (JN _ _ hm _ kr)))) (fun hm=>Qh 2 (Zj 1 Qj hm fun v603 hm=>re 4 (R_G (re 3 (JN _ _ hm _ kr)))))))))))))))) (fun hm=>QO zf))))))
def ZP (x:((List Int) × Bool × Int)):Option (Unit ⊕ Unit) :=
 match x with
 | (p0,v601,v804) =>
 if v804 < (p0.length:Int) then
  idx p0 v804>>=fun v1204 =>
  if v1204 > 65536 then
   some (Sum.inl ())
  else
  ZP (p0,v601,(W (v804+1)))
 else
 some (Sum.inr ())
 partial_fixpoint
theorem Qbf:∀ x r,ZP x=some r→match x with|(p0,v601,v804)=>LQ f66 66 [1,1,1,0,1,0,0] 0 ⟨kp 55 [(0,(La p0)),(4,(Qo v601)),(6,(Qe v804))],[]⟩ (P2 .ret (fun _ d=>⟨sl d 55 [(2,(Qe 0)),(3,(Qe 7))],[]⟩) (.exit 2) (fun _ d=>⟨sl d 55 [(0,(La p0)),(4,(Qo v601))],[]⟩) r):=by
 refine ZP.partial_correctness _ (fun ZP Qbf x r hm=>?_)
 obtain ⟨p0,v601,v804⟩:=x
 exact lp (Qg (gr 2 (QZ Qj p0 (re 1 (ri hm (fun hm=>Qi (Qg (Qp (gr 2 (Zj 1 Qj hm fun v1204 hm=>re 2 (ri hm (fun hm=>ge 2 (Qk zf)) (fun hm=>Qi (R_G (re 3 (Qbf _ _ hm _ kr)))))))))) (fun hm=>QO zf))))))
def ZQ (x:((List Int) × Int × Int)):Option (Unit ⊕ Int) :=
 match x with
 | (p0,v1405,v1406) =>
 if v1406 < (p0.length:Int) then
  idx p0 v1406>>=fun v1806 =>
  if (W (v1405 * v1806)) > 65536 then
   some (Sum.inl ())
  else
  ZQ (p0,(W (v1405 * v1806)),(W (v1406+1)))
 else
 some (Sum.inr v1405)
 partial_fixpoint
theorem Qbg:∀ x r,ZQ x=some r→match x with|(p0,v1405,v1406)=>LQ f66 66 [1,1,1,1,1,1,0,1,0,0] 0 ⟨kp 55 [(0,(La p0)),(7,(Qe v1405)),(8,(Qe v1406))],[]⟩ (P2 .ret (fun _ d=>⟨sl d 55 [(2,(Qe 0)),(3,(Qe 7))],[]⟩) (.exit 4) (fun v1805 d=>⟨sl d 55 [(7,(Qe v1805))],[]⟩) r):=by
 refine ZQ.partial_correctness _ (fun ZQ Qbg x r hm=>?_)
 obtain ⟨p0,v1405,v1406⟩:=x
 exact lp (Qg (gr 2 (QZ Qj p0 (re 1 (ri hm (fun hm=>Qi (Qg (Qp (gr 3 (Zj 1 Qj hm fun v1806 hm=>re 3 (ge 2 (ri hm (fun hm=>ge 2 (Qk zf)) (fun hm=>Qi (R_G (re 3 (Qbg _ _ hm _ kr))))))))))) (fun hm=>QO zf))))))
def X4 (x:(List Int)):Option (Int × Int) :=
 match x with
 | p0 =>
 (
 ZI (p0,false,0)>>=fun out =>
 match out with
 | .inl _ =>
  some (0,6)
 | .inr (v601) =>
  (
  ZP (p0,v601,0)>>=fun out =>
  match out with
  | .inl _ =>
   some (0,7)
  | .inr (_) =>
   if v601=true then
    some (0,0)
   else
   (
   ZQ (p0,1,0)>>=fun out =>
   match out with
   | .inl _ =>
    some (0,7)
   | .inr (v1805) =>
    some (v1805,0)
   )
  )
 )
theorem Qdz {p0 r0 r1} (hm:X4 p0=some (r0,r1)):FQ 66 [(Lb p0)] (.tup [(Qe r0),(Qe r1)]):=by
 unfold X4 at hm
 exact fp (fn:=f66) rfl (ge 2 (ge 1 (Qg (ge 1 (Qp (ru2 hm (JN _) (fun _ d hm=>zf) fun v601 d hm=>Qg (ge 1 (Qp (ru2 hm (Qbf _) (fun _ d hm=>zf) fun _ d hm=>Qg (ge 1 (rib hm (fun hm=>ge 2 (Qk zf)) (fun hm=>Qi (ge 1 (Qg (ge 1 (Qp (ru2 hm (Qbg _) (fun _ d hm=>zf) fun v1805 d hm=>ge 3 (Qk zf))))))))))))))))))
def Yk (x:((List Int) × Int)):Option (Unit ⊕ Unit) :=
 match x with
 | (p0,v201) =>
 if v201 < (p0.length:Int) then
  idx p0 v201>>=fun v601 =>
  if v601 < 0 then
   some (Sum.inl ())
  else
  Yk (p0,(W (v201+1)))
 else
 some (Sum.inr ())
 partial_fixpoint
theorem QbE:∀ x r,Yk x=some r→match x with|(p0,v201)=>LQ f44 44 [1,0,1,0,0] 0 ⟨kp 29 [(0,(La p0)),(3,(Qe v201))],[]⟩ (P2 .ret (fun _ d=>⟨sl d 29 [(2,(Qe 6))],[]⟩) (.exit 0) (fun _ d=>⟨sl d 29 [(0,(La p0))],[]⟩) r):=by
 refine Yk.partial_correctness _ (fun Yk QbE x r hm=>?_)
 obtain ⟨p0,v201⟩:=x
 exact lp (Qg (gr 2 (QZ Qj p0 (re 1 (ri hm (fun hm=>Qi (Qg (Qp (gr 2 (Zj 1 Qj hm fun v601 hm=>re 2 (ri hm (fun hm=>ge 1 (Qk zf)) (fun hm=>Qi (R_G (re 3 (QbE _ _ hm _ kr)))))))))) (fun hm=>QO zf))))))
def YR (x:(List Int)):Option Int :=
 match x with
 | p0 =>
 (
 Yk (p0,0)>>=fun out =>
 match out with
 | .inl _ =>
  some 6
 | .inr (_) =>
  X4 p0>>=fun (v602,v603) =>
  (if (p0.length:Int) > 16 then
   some true
  else
  some (v603 != 0)
  )>>=fun (v604:Bool) =>
  if v604=true then
   some 7
  else
  some 0
 )
theorem Qa1 {p0 r0} (hm:YR p0=some r0):FQ 44 [(Lb p0)] (Qe r0):=by
 unfold YR at hm
 exact fp (fn:=f44) rfl (ge 1 (Qg (ge 1 (Qp (ru2 hm (QbE _) (fun _ d hm=>zf) fun _ d hm=>gr 1 (bi2 hm fun v602 v603 hx hm=>cp (Qdz hx) (re 5 (Qg (Qg (bi hm fun v604 hs hm=>Ze (fun d=>⟨sl d 29 [(28,(Qo v604))],[]⟩) (have hm:=hs;R_G (Qh 1 (QZ Qj p0 (Qh 2 (gs 25 hm (fun hm=>re 3 zf) (fun hm=>re 3 zf)))))) (fun d=>rib hm (fun hm=>ge 1 (Qk zf)) (fun hm=>Qi (ge 1 (Qk zf))))))))))))))
def JZ (x:(List Int)):Option Int :=
 match x with
 | p0 =>
 YR p0>>=fun v1 =>
 if v1≠0 then
  some 0
 else
 X4 p0>>=fun (v2,v3) =>
 some v2
theorem Qec {p0 r0} (hm:JZ p0=some r0):FQ 45 [(Lb p0)] (Qe r0):=by
 unfold JZ at hm
 exact fp (fn:=f45) rfl (ge 1 (Qg (gr 1 (bi hm fun v1 hx hm=>cp (Qa1 hx) (re 1 (rix hm (fun hm=>ge 1 (Qk zf)) (fun hm=>Qi (gr 1 (bi2 hm fun v2 v3 hx hm=>cp (Qdz hx) (re 5 (ge 2 (Qk zf))))))))))))
def QaW (x:Qq):Option Int :=
 match x with
 | p0 =>
 YR p0.shape>>=fun v1 =>
 (if v1=0 then
  JZ p0.shape>>=fun v3 =>
  some ((p0.data.length:Int) != v3)
 else
 some false
 )>>=fun (v2:Bool) =>
 if v2=true then
  some 5
 else
 some v1
theorem QfF {p0 r0} (hm:QaW p0=some r0):FQ 22 [(Qq.toD p0)] (Qe r0):=by
 unfold QaW at hm
 exact fp (fn:=f22) rfl (ge 2 (gr 2 (bi hm fun v1 hx hm=>cp (Qa1 hx) (re 1 (Qg (Qg (bi hm fun v2 hs hm=>Ze (fun d=>⟨sl d 19 [(3,(Qe v1)),(17,(Qo v2))],[(Qak p0.shape p0.data)]⟩) (have hm:=hs;X0 (Qh 3 (gsq 9 hm (fun hm=>Qh 2 (QZ Qj p0.data (Qh 2 (bi hm fun v3 hx hm=>cp (Qec hx) (re 2 ⟨kr,zf⟩))))) (fun hm=>re 8 ⟨kr,zf⟩)))) (fun d=>rib hm (fun hm=>ge 1 (Qk zf)) (fun hm=>Qi (ge 2 (Qk zf)))))))))))
def YM (x:(Int × (List Qb) × Int)):Option (Unit ⊕ Unit) :=
 match x with
 | (v201,p0,v806) =>
 if v806 < v201 then
  idx p0 v806>>=fun v1206 =>
  idx p0 v201>>=fun v1207 =>
  if v1206.name=v1207.name then
   some (Sum.inl ())
  else
  YM (v201,p0,(W (v806+1)))
 else
 some (Sum.inr ())
 partial_fixpoint
theorem QbK:∀ x r,YM x=some r→match x with|(v201,p0,v806)=>LQ f7 7 [1,0,1,0,0,1,0,0,1,1,0,0] 0 ⟨kp 43 [(0,(YG p0)),(3,(Qe v201)),(4,(Qe v806))],[]⟩ (P2 .ret (fun _ d=>⟨sl d 43 [(2,(Qo false))],[]⟩) (.exit 2) (fun _ d=>⟨sl d 43 [(0,(YG p0)),(3,(Qe v201))],[]⟩) r):=by
 refine YM.partial_correctness _ (fun YM QbK x r hm=>?_)
 obtain ⟨v201,p0,v806⟩:=x
 exact lp (Qg (ge 3 (ri hm (fun hm=>Qi (Qg (Qp (Qg (X0 (Qh 2 (Zj 3 Qb.toD hm fun v1206 hm=>Qh 4 (Zj 3 Qb.toD hm fun v1207 hm=>Qh 2 (QT rfl (fun _=>QaO (a:=v1206.name) (b:=v1207.name) rfl kr kr) (Y9 ⟨kr,ri hm (fun hm=>ge 1 (Qk zf)) (fun hm=>Qi (R_G (re 3 (QbK _ _ hm _ kr))))⟩)))))))))) (fun hm=>QO zf))))
def YL (x:((List Qb) × Int)):Option (Unit ⊕ Unit) :=
 match x with
 | (p0,v201) =>
 if v201 < (p0.length:Int) then
  (idx p0 v201>>=fun v602 =>
  ZR v602.name>>=fun v603 =>
  if v603=false then
   some true
  else
  idx p0 v201>>=fun v604 =>
  QaW v604.value>>=fun v605 =>
  some (v605 != 0)
  )>>=fun (v601:Bool) =>
  if v601=true then
   some (Sum.inl ())
  else
  (
  YM (v201,p0,0)>>=fun out =>
  match out with
  | .inl _ =>
   some (Sum.inl ())
  | .inr (_) =>
   YL (p0,(W (v201+1)))
  )
 else
 some (Sum.inr ())
 partial_fixpoint
theorem QbJ:∀ x r,YL x=some r→match x with|(p0,v201)=>LQ f7 7 [1,0,1,0,0] 0 ⟨kp 43 [(0,(YG p0)),(3,(Qe v201))],[]⟩ (P2 .ret (fun _ d=>⟨sl d 43 [(2,(Qo false))],[]⟩) (.exit 0) (fun _ d=>⟨sl d 43 [],[]⟩) r):=by
 refine YL.partial_correctness _ (fun YL QbJ x r hm=>?_)
 obtain ⟨p0,v201⟩:=x
 exact lp (Qg (gr 2 (QZ Qb.toD p0 (re 1 (ri hm (fun hm=>Qi (Qg (Qp (Qg (Qg (bi hm fun v601 hs hm=>Ze (fun d=>⟨sl d 43 [(0,(YG p0)),(3,(Qe v201)),(26,(Qo v601))],[]⟩) (have hm:=hs;R_G (Qh 2 (Zj 3 Qb.toD hm fun v602 hm=>Qh 2 (bi hm fun v603 hx hm=>cp (QfQ hx) (Qh 2 (gsn 18 hm (fun hm=>re 8 zf) (fun hm=>Qh 2 (Zj 3 Qb.toD hm fun v604 hm=>Qh 2 (bi hm fun v605 hx hm=>cp (QfF hx) (re 2 zf)))))))))) (fun d=>rib hm (fun hm=>ge 1 (Qk zf)) (fun hm=>Qi (ge 1 (Qp (ru2 hm (QbK _) (fun _ d hm=>zf) fun _ d hm=>R_G (re 3 (QbJ _ _ hm _ kr))))))))))))) (fun hm=>QO zf))))))
def QaZ (x:(List Qb)):Option Bool :=
 match x with
 | p0 =>
 (
 YL (p0,0)>>=fun out =>
 match out with
 | .inl _ =>
  some false
 | .inr (_) =>
  some true
 )
theorem QfJ {p0 r0} (hm:QaZ p0=some r0):FQ 7 [(.lst ((List.map Qb.toD) p0))] (Qo r0):=by
 unfold QaZ at hm
 exact fp (fn:=f7) rfl (ge 1 (Qg (ge 1 (Qp (ru2 hm (QbJ _) (fun _ d hm=>zf) fun _ d hm=>ge 1 (Qk zf))))))
mutual
def Z1 (x:(Qa × (List Qa) × Int)):Option ((List Qa)) :=
 match x with
 | (p0,v201,v202) =>
 if v202≥0 then
  idx p0.kids v202>>=fun v602 =>
  Jm v602>>=fun v603 =>
  app 88 v201 v603>>=fun v604 =>
  Z1 (p0,v604,(W (v202 - 1)))
 else
 some v201
 partial_fixpoint
def Jm (x:Qa):Option (List Qa) :=
 match x with
 | p0 =>
 Z1 (p0,([]:List Qa),(W ((p0.kids.length:Int) - 1)))>>=fun v601 =>
 app 88 v601 ([p0]:List Qa)>>=fun v605 =>
 some v605
 partial_fixpoint
end
def QaB:(Qa × (List Qa) × Int)→((List Qa))→Prop:=fun x r=>match x with
 | (p0,v201,v202)=>LQ f23 23 [1,1,0,1,0,0] 2 ⟨kp 25 [(1,(.ptr 0 0)),(3,(.vec 1 (Qa.toDs v201))),(4,(Qe v202))],[(Q0 p0.kind p0.fn p0.axis p0.name p0.nums p0.kids),(.tok 26 v201.length)]⟩ (P1 (.exit 0) (fun v601 d=>⟨sl d 25 [(1,(.ptr 0 0)),(3,(.vec 1 (Qa.toDs v601)))],[(Q0 p0.kind p0.fn p0.axis p0.name p0.nums p0.kids),(.tok 26 v601.length)]⟩) r)
def QbP:Qa→(List Qa)→Prop:=fun x r=>match x,r with
 | p0,r0=>∀ H,PC prog env 23 ([(Qa.ex p0)].map .dat) H (Qfa r0) H
theorem g_ref08_Steps_L1:(∀ x r,Z1 x=some r→QaB x r)∧(∀ x r,Jm x=some r→QbP x r):=by
 refine Z1.mutual_partial_correctness QaB QbP ?_ ?_
 ·intro Z1 Jm QaM Qc2 x r hm
  unfold QaB
  obtain ⟨p0,v201,v202⟩:=x
  exact lp (Qg (ge 2 (ri hm (fun hm=>Qi (Qg (Qp (R_G (Qh 4 (bi hm fun v602 hx hm=>QbU 6 Qa.toD p0.kids v202 v602 (es:=Qa.toDs p0.kids) (d:=(Qa.ex v602)) (Qa.toDs_eq _) hx (Qa.toD_eq v602) rfl (Qh 1 (bi hm fun v603 hx hm=>YA (Qc2 _ _ hx []) (bi hm fun v604 hx hm=>Xk 26 6 88 1 Qa.toD v201 v603 v604 (xs:=Qa.toDs v201) (es:=Qa.toDs v603) (L:=Qa.toDs) Qa.toDs_eq rfl rfl Qa.fit hx (re 1 (R_G (re 3 (QaM _ _ hm _ kr))))))))))))) (fun hm=>QO zf))))
 ·intro Z1 QaM p0 r0 hm
  unfold QbP
  intro H
  refine PC_sx (ds:=[(Qa.ex p0)]) (fn:=f23) rfl ?_
  exact ge 2 (ge 1 (Qg (gr 2 (QcI Qa.toD p0.kids (es:=Qa.toDs p0.kids) (Qa.toDs_eq _) (re 2 (Qp (ru1 hm (QaM _) fun v601 d hm=>gr 3 (bi hm fun v605 hx hm=>Xk 26 6 88 1 Qa.toD v601 ([p0]:List Qa) v605 (xs:=Qa.toDs v601) (es:=[(Qa.ex p0)]) (L:=Qa.toDs) Qa.toDs_eq rfl (by simp only [Qa.toDs,Qa.toD_eq]) Qa.fit hx (re 1 (Qk zf))))))))))
theorem QaM:∀ x r,Z1 x=some r→QaB x r:=g_ref08_Steps_L1.1
theorem Qc2:∀ x r,Jm x=some r→QbP x r:=g_ref08_Steps_L1.2
def XN (x:((List ByteArray) × ByteArray × Int)):Option (Unit ⊕ Unit) :=
 match x with
 | (p1,p0,v201) =>
 if v201 < (p1.length:Int) then
  idx p1 v201>>=fun v601 =>
  if v601=p0 then
   some (Sum.inl ())
  else
  XN (p1,p0,(W (v201+1)))
 else
 some (Sum.inr ())
 partial_fixpoint
theorem Qc1:∀ x r,XN x=some r→match x with|(p1,p0,v201)=>LQ f9 9 [1,0,1,0,0] 0 ⟨kp 18 [(0,(.dat (strD p0))),(1,(QdM p1)),(5,(Qe v201))],[]⟩ (P2 .ret (fun _ d=>⟨sl d 18 [(4,(Qo true))],[]⟩) (.exit 0) (fun _ d=>⟨sl d 18 [],[]⟩) r):=by
 refine XN.partial_correctness _ (fun XN Qc1 x r hm=>?_)
 obtain ⟨p1,p0,v201⟩:=x
 exact lp (Qg (gr 2 (QZ strD p1 (re 1 (ri hm (fun hm=>Qi (Qg (Qp (gr 2 (Zj 1 strD hm fun v601 hm=>Qh 2 (QT rfl (fun _=>QaO (a:=v601) (b:=p0) rfl kr kr) (Y9 (ri hm (fun hm=>ge 1 (Qk zf)) (fun hm=>Qi (R_G (re 3 (Qc1 _ _ hm _ kr)))))))))))) (fun hm=>QO zf))))))
def QbC (x:(ByteArray × (List ByteArray))):Option Bool :=
 match x with
 | (p0,p1) =>
 (
 XN (p1,p0,0)>>=fun out =>
 match out with
 | .inl _ =>
  some true
 | .inr (_) =>
  some false
 )
theorem Qfs {p0 p1 r0} (hm:QbC (p0,p1)=some r0):FQ 9 [(strD p0),(.lst ((List.map strD) p1))] (Qo r0):=by
 unfold QbC at hm
 exact fp (fn:=f9) rfl (ge 1 (Qg (ge 1 (Qp (ru2 hm (Qc1 _) (fun _ d hm=>zf) fun _ d hm=>ge 1 (Qk zf))))))
def Ym (x:((List Qa) × Qa × (List ByteArray) × Int)):Option ((List ByteArray)) :=
 match x with
 | (v1,p0,v202,v203) =>
 if v203 < (v1.length:Int) then
  (idx v1 v203>>=fun v604 =>
  if v604.kind=2 then
   idx v1 v203>>=fun v605 =>
   QbC (v605.name,v202)>>=fun v606 =>
   some (!v606)
  else
  some false
  )>>=fun (v603:Bool) =>
  if v603=true then
   idx v1 v203>>=fun v607 =>
   app 16 v202 ([v607.name]:List ByteArray)>>=fun v608 =>
   Ym (v1,p0,v608,(W (v203+1)))
  else
  Ym (v1,p0,v202,(W (v203+1)))
 else
 some v202
 partial_fixpoint
theorem QaL:∀ x r,Ym x=some r→match x with|(v1,p0,v202,v203)=>LQ f8 8 [1,1,1,0,1,0,0] 2 ⟨kp 39 [(3,(.vec 1 ((List.map strD) v202))),(4,(Qfa v1)),(5,(Qe v203))],[(Q0 p0.kind p0.fn p0.axis p0.name p0.nums p0.kids),(.tok 9 v202.length)]⟩ (P1 (.exit 0) (fun v602 d=>⟨sl d 39 [(3,(.vec 1 ((List.map strD) v602)))],[(Q0 p0.kind p0.fn p0.axis p0.name p0.nums p0.kids),(.tok 9 v602.length)]⟩) r):=by
 refine Ym.partial_correctness _ (fun Ym QaL x r hm=>?_)
 obtain ⟨v1,p0,v202,v203⟩:=x
 exact lp (Qg (gr 2 (QcI Qa.toD v1 (es:=Qa.toDs v1) (Qa.toDs_eq _) (re 1 (ri hm (fun hm=>Qi (Qg (Qp (Qg (bi hm fun v603 hs hm=>Ze (fun d=>⟨sl d 39 [(3,(.vec 1 ((List.map strD) v202))),(4,(Qfa v1)),(5,(Qe v203)),(29,(Qo v603))],[(Q0 p0.kind p0.fn p0.axis p0.name p0.nums p0.kids),(.tok 9 v202.length)]⟩) (have hm:=hs;R_G (Qh 2 (bi hm fun v604 hx hm=>QbU 6 Qa.toD v1 v203 v604 (es:=Qa.toDs v1) (d:=(Qa.ex v604)) (Qa.toDs_eq _) hx (Qa.toD_eq v604) rfl (Qh 4 (gsq 20 hm (fun hm=>Qh 2 (bi hm fun v605 hx hm=>QbU 6 Qa.toD v1 v203 v605 (es:=Qa.toDs v1) (d:=(Qa.ex v605)) (Qa.toDs_eq _) hx (Qa.toD_eq v605) rfl (Qh 3 (bi hm fun v606 hx hm=>cp (Qfs hx) (re 2 zf))))) (fun hm=>re 9 zf)))))) (fun d=>rib hm (fun hm=>R_G (Qh 3 (bi hm fun v607 hx hm=>QbU 6 Qa.toD v1 v203 v607 (es:=Qa.toDs v1) (d:=(Qa.ex v607)) (Qa.toDs_eq _) hx (Qa.toD_eq v607) rfl (Qh 3 (bi hm fun v608 hx hm=>Xk 9 1 16 1 strD v202 ([v607.name]:List ByteArray) v608 (xs:=(List.map strD) v202) (es:=(List.map strD) ([v607.name]:List ByteArray)) (L:=(List.map strD)) (fun _=>rfl) rfl rfl (fun _=>rfl) hx (re 1 (R_G (re 3 (QaL _ _ hm _ kr))))))))) (fun hm=>Qi (R_G (re 3 (QaL _ _ hm _ kr)))))))))) (fun hm=>QO zf))))))
def QaY (x:Qa):Option (List ByteArray) :=
 match x with
 | p0 =>
 Jm p0>>=fun v1 =>
 Ym (v1,p0,([]:List ByteArray),0)>>=fun v602 =>
 some v602
theorem QfI {p0 r0} (hm:QaY p0=some r0):FQ 8 [(Qa.ex p0)] (QdM r0):=by
 unfold QaY at hm
 exact fp (fn:=f8) rfl (ge 2 (ge 1 (gr 1 (bi hm fun v1 hx hm=>YA (Qc2 _ _ hx []) (re 1 (Qg (ge 1 (Qp (ru1 hm (QaL _) fun v602 d hm=>ge 2 (Qk zf))))))))))
def QaC (x:Int):Option Bool :=
 match x with
 | p0 =>
 (if p0≥65 then
  some (decide (p0≤90))
 else
 some false
 )>>=fun (v1:Bool) =>
 (if v1=true then
  some true
 else
 if p0≥97 then
  some (decide (p0≤122))
 else
 some false
 )>>=fun (v2:Bool) =>
 if v2=true then
  some true
 else
 some (p0 == 95)
theorem QeC {p0 r0} (hm:QaC p0=some r0):FQ 123 [(numD .i32 p0)] (Qo r0):=by
 unfold QaC at hm
 exact fp (fn:=f123) rfl (ge 1 (Qg (Qc8 (Qh 3 (bi hm fun v1 hs hm=>Yu (j:=6) (fun d=>⟨sl d 21 [(0,(.dat (numD .i32 p0))),(2,(Qo false)),(8,(Qo v1))],[]⟩) (fun d=>Qh 1 (bi hm fun v2 hs hm=>Yu (j:=14) (fun d=>⟨sl d 21 [(0,(.dat (numD .i32 p0))),(2,(Qo false)),(16,(Qo v2))],[]⟩) (fun d=>Qh 1 (gsb 17 hm (fun hm=>re 4 ⟨kr,Qk zf⟩) (fun hm=>re 4 ⟨kr,Qk zf⟩))) (fun hJ=>gsb 9 hs (fun hm=>Qh 7 zf) (fun hm=>Qh 3 (gs 12 hm (fun hm=>Qh 4 zf) (fun hm=>Qh 4 zf)))))) (fun hJ=>gs 5 hs (fun hm=>Qh 3 zf) (fun hm=>Qh 3 zf)))))))
def QcL (x:Int):Option Bool :=
 match x with
 | p0 =>
 if p0≥48 then
  some (decide (p0≤57))
 else
 some false
theorem Qgm {p0 r0} (hm:QcL p0=some r0):FQ 141 [(numD .i32 p0)] (Qo r0):=by
 unfold QcL at hm
 exact fp (fn:=f141) rfl (ge 1 (gr 3 (gs 5 hm (fun hm=>re 4 (Qk zf)) (fun hm=>re 4 (Qk zf)))))
def QbZ (x:Int):Option Bool :=
 match x with
 | p0 =>
 QaC p0>>=fun v1 =>
 if v1=true then
  some true
 else
 QcL p0>>=fun v2 =>
 some v2
theorem Qgn {p0 r0} (hm:QbZ p0=some r0):FQ 125 [(numD .i32 p0)] (Qo r0):=by
 unfold QbZ at hm
 exact fp (fn:=f125) rfl (ge 1 (gr 1 (bi hm fun v1 hx hm=>cp (QeC hx) (Qh 1 (gsb 5 hm (fun hm=>re 4 (Qk zf)) (fun hm=>Qh 1 (bi hm fun v2 hx hm=>cp (Qgm hx) (re 2 (Qk zf)))))))))
def Zz (x:(ByteArray × Nat)):Option ((Nat × ByteArray) ⊕ Nat) :=
 match x with
 | (p0,v201) =>
 if v201 < (p0).size then
  QbZ ((Utf8.decode p0 v201).1:Int)>>=fun v604 =>
  if v604=false then
   ssub p0 0 (v201:Int)>>=fun v605 =>
   some (Sum.inl ((v201+(Utf8.decode p0 v201).2),v605))
  else
  Zz (p0,(v201+(Utf8.decode p0 v201).2))
 else
 some (Sum.inr v201)
 partial_fixpoint
theorem JD:∀ x r,Zz x=some r→match x with|(p0,v201)=>LQ f124 124 [1,0,1,0,0] 1 ⟨kp 21 [(0,(.dat (strD p0))),(1,(.dat (.raw (.func (.func 125) #[] #[])))),(8,(.ptr 0 0))],[(.map (iterE p0 v201))]⟩ (P2 .ret (fun (v601,v602) d=>⟨sl d 21 [(4,(.dat (strD v602)))],[(.map (iterE p0 v601))]⟩) (.exit 0) (fun v603 d=>⟨sl d 21 [(0,(.dat (strD p0)))],[(.map (iterE p0 v603))]⟩) r):=by
 refine Zz.partial_correctness _ (fun Zz JD x r hm=>?_)
 obtain ⟨p0,v201⟩:=x
 exact lp (Qg (R_G (Qg8 (s:=p0) (pos:=v201) (j:=0) hm (fun hm=>re 1 (Qg (Qaj kr (Qi (Qp (ge 4 (gr 2 (bi hm fun v604 hx hm=>cp (Qgn hx) (re 1 (rin hm (fun hm=>gr 2 (bi hm fun v605 hx hm=>QT rfl (fun _=>QdH (b:=p0) (l:=0) (h:=(v201:Int)) hx kr rfl kr (Or.inl ⟨rfl,rfl⟩) (Or.inr ⟨_,.i64,rfl,kr⟩)) (re 1 (Qk zf)))) (fun hm=>Qi (JD _ _ hm _ (prune_of2 [(.map (iterE p0 (v201+(Utf8.decode p0 v201).2)))] (fun _=>(pg_cons (purge_it _ _ _ _) pg_nil)) rfl))))))))))))) (fun hm=>re 1 (Qg (Xt kr (QO zf)))))))
def X8 (x:ByteArray):Option ByteArray :=
 match x with
 | p0 =>
 (
 Zz (p0,0)>>=fun out =>
 match out with
 | .inl (v601,v602) =>
  some v602
 | .inr (v603) =>
  some p0
 )
theorem QdQ {p0 r0} (hm:X8 p0=some r0):FQ 124 [(strD p0),(.raw (.func (.func 125) #[] #[]))] (.dat (strD r0)):=by
 unfold X8 at hm
 exact fp (fn:=f124) rfl (ge 1 (Qg (gr 1 (re 1 (Qp (ru2 hm (JD _) (fun ⟨v601,v602⟩ d hm=>zf) (fun v603 d hm=>ge 2 (Qk zf)) (hst:=(prune_of2 [(.map (iterE p0 0))] (fun _=>(pg_cons (purge_it _ _ _ _) pg_nil)) rfl))))))))
def QbR (x:ByteArray):Option (Unit ⊕ Nat) :=
 match x with
 | p0 =>
 if (0:Nat) < (p0).size then
  QaC ((Utf8.decode p0 (0:Nat)).1:Int)>>=fun v402 =>
  if v402=false then
   some (Sum.inl ())
  else
  some (Sum.inr ((0:Nat)+(Utf8.decode p0 (0:Nat)).2))
 else
 some (Sum.inr 0)
theorem QfE:∀ p0 r,QbR p0=some r→LQ f95 95 [1,0,1,0,0] 2 ⟨kp 22 [(0,(.dat (strD p0))),(2,(.ptr 0 0)),(8,(.ptr 1 0))],[Qeu,(.map (iterE p0 0))]⟩ (P2 .ret (fun _ d=>⟨sl d 22 [(2,(.ptr 0 0)),(3,(Qe 0))],[Qeu,(.map (iterE p0 ((0:Nat)+(Utf8.decode p0 (0:Nat)).2)))]⟩) (.exit 0) (fun v401 d=>⟨sl d 22 [(0,(.dat (strD p0))),(2,(.ptr 0 0))],[Qeu,(.map (iterE p0 v401))]⟩) r):=by
 intro p0 r hm
 unfold QbR at hm
 exact lp (Qg (R_G (Qg8 (s:=p0) (pos:=(0:Nat)) (j:=1) hm (fun hm=>re 1 (Qg (Qaj kr (Qi (Qp (ge 2 (Qg (gr 1 (bi hm fun v402 hx hm=>cp (QeC hx) (re 1 (rin hm (fun hm=>ge 3 (Qk zf)) (fun hm=>Qi (QO zf))))))))))))) (fun hm=>re 1 (Qg (Xt kr (QO zf)))))))
def Qdm (x:ByteArray):Option (JG × Int) :=
 match x with
 | p0 =>
 (
 QbR p0>>=fun out =>
 match out with
 | .inl _ =>
  some ((⟨0,ByteArray.empty,0⟩:JG),0)
 | .inr (v401) =>
  X8 p0>>=fun v403 =>
  some ((⟨1,v403,0⟩:JG),(v403.size:Int))
 )
theorem QgB {p0 r0 r1} (hm:Qdm p0=some (r0,r1)):FQ 95 [(strD p0)] (.tup [(.dat (JG.toD r0)),(Qe r1)]):=by
 unfold Qdm at hm
 exact fp (fn:=f95) rfl (ge 2 (Qg (gr 1 (re 1 (Qp (ru2 hm (QfE _) (fun _ d hm=>zf) (fun v401 d hm=>gr 1 (bi hm fun v403 hx hm=>cp (QdQ hx) (re 1 (gr 3 (QT rfl (fun _=>XG (b:=v403) kr rfl kr) (re 2 (Qk zf))))))) (hst:=(prune_of2 [Qeu,(.map (iterE p0 0))] (fun _=>(pg_cons kr (pg_cons (purge_it _ _ _ _) pg_nil))) rfl))))))))
def Qcs (x:ByteArray):Option Bool :=
 match x with
 | p0 =>
 Qdm p0>>=fun (v1,v2) =>
 if v2 > 0 then
  some (v2 == (p0.size:Int))
 else
 some false
theorem QgA {p0 r0} (hm:Qcs p0=some r0):FQ 63 [(strD p0)] (Qo r0):=by
 unfold Qcs at hm
 exact fp (fn:=f63) rfl (ge 1 (gr 1 (bi2 hm fun v1 v2 hx hm=>cp (QgB hx) (re 6 (gr 3 (gs 12 hm (fun hm=>Qh 2 (QT rfl (fun _=>XG (b:=p0) kr rfl kr) (re 3 (Qk zf)))) (fun hm=>re 6 (Qk zf))))))))
def Qbz (x:Int):Option Bool :=
 match x with
 | p0 =>
 some (decide (p0 < 0))
theorem Qfy {p0 r0} (hm:Qbz p0=some r0):FQ 161 [(Qj p0)] (Qo r0):=by
 unfold Qbz at hm
 exact fp (fn:=f161) rfl (ge 1 (ge 3 (Qk zf)))
def QE (x:((List Int) × Int)):Option (Int ⊕ Unit) :=
 match x with
 | (p0,v201) =>
 if v201 < (p0.length:Int) then
  idx p0 v201>>=fun v602 =>
  Qbz v602>>=fun v603 =>
  if v603=true then
   some (Sum.inl v201)
  else
  QE (p0,(W (v201+1)))
 else
 some (Sum.inr ())
 partial_fixpoint
theorem ZT:∀ x r,QE x=some r→match x with|(p0,v201)=>LQ f171 171 [1,0,1,0,0] 0 ⟨kp 19 [(0,(La p0)),(1,(.dat (.raw (.func (.func 161) #[] #[])))),(7,(Qe (p0.length:Int))),(8,(Qe v201))],[]⟩ (P2 .ret (fun v601 d=>⟨sl d 19 [(4,(Qe v601))],[]⟩) (.exit 0) (fun _ d=>⟨sl d 19 [],[]⟩) r):=by
 refine QE.partial_correctness _ (fun QE ZT x r hm=>?_)
 obtain ⟨p0,v201⟩:=x
 exact lp (ge 1 (Qg (ri hm (fun hm=>Qi (Qg (Qp (ge 2 (gr 3 (Zj 1 Qj hm fun v602 hm=>Qh 1 (bi hm fun v603 hx hm=>cp (Qfy hx) (Y9 (rib hm (fun hm=>ge 2 (Qk zf)) (fun hm=>Qi (R_G (re 2 (ZT _ _ hm _ kr))))))))))))) (fun hm=>QO zf))))
def ZC (x:(List Int)):Option Int :=
 match x with
 | p0 =>
 (
 QE (p0,0)>>=fun out =>
 match out with
 | .inl v601 =>
  some v601
 | .inr (_) =>
  some (-1)
 )
theorem Qah {p0 r0} (hm:ZC p0=some r0):FQ 171 [(Lb p0),(.raw (.func (.func 161) #[] #[]))] (Qe r0):=by
 unfold ZC at hm
 exact fp (fn:=f171) rfl (ge 1 (Qg (gr 1 (QZ Qj p0 (re 1 (Qp (ru2 hm (ZT _) (fun v601 d hm=>zf) fun _ d hm=>ge 1 (Qk zf))))))))
def Q8 (x:(List Int)):Option Bool :=
 match x with
 | p0 =>
 ZC p0>>=fun v1 =>
 some (decide (v1≥0))
theorem JR {p0 r0} (hm:Q8 p0=some r0):FQ 160 [(Lb p0),(.raw (.func (.func 161) #[] #[]))] (Qo r0):=by
 unfold Q8 at hm
 exact fp (fn:=f160) rfl (ge 1 (gr 2 (bi hm fun v1 hx hm=>cp (Qah hx) (re 2 (Qk zf)))))
def QbA (x:Int):Option Bool :=
 match x with
 | p0 =>
 some (decide (p0 > 65536))
theorem Qfz {p0 r0} (hm:QbA p0=some r0):FQ 162 [(Qj p0)] (Qo r0):=by
 unfold QbA at hm
 exact fp (fn:=f162) rfl (ge 1 (ge 3 (Qk zf)))
def QF (x:((List Int) × Int)):Option (Int ⊕ Unit) :=
 match x with
 | (p0,v201) =>
 if v201 < (p0.length:Int) then
  idx p0 v201>>=fun v602 =>
  QbA v602>>=fun v603 =>
  if v603=true then
   some (Sum.inl v201)
  else
  QF (p0,(W (v201+1)))
 else
 some (Sum.inr ())
 partial_fixpoint
theorem ZU:∀ x r,QF x=some r→match x with|(p0,v201)=>LQ f171 171 [1,0,1,0,0] 0 ⟨kp 19 [(0,(La p0)),(1,(.dat (.raw (.func (.func 162) #[] #[])))),(7,(Qe (p0.length:Int))),(8,(Qe v201))],[]⟩ (P2 .ret (fun v601 d=>⟨sl d 19 [(4,(Qe v601))],[]⟩) (.exit 0) (fun _ d=>⟨sl d 19 [],[]⟩) r):=by
 refine QF.partial_correctness _ (fun QF ZU x r hm=>?_)
 obtain ⟨p0,v201⟩:=x
 exact lp (ge 1 (Qg (ri hm (fun hm=>Qi (Qg (Qp (ge 2 (gr 3 (Zj 1 Qj hm fun v602 hm=>Qh 1 (bi hm fun v603 hx hm=>cp (Qfz hx) (Y9 (rib hm (fun hm=>ge 2 (Qk zf)) (fun hm=>Qi (R_G (re 2 (ZU _ _ hm _ kr))))))))))))) (fun hm=>QO zf))))
def ZD (x:(List Int)):Option Int :=
 match x with
 | p0 =>
 (
 QF (p0,0)>>=fun out =>
 match out with
 | .inl v601 =>
  some v601
 | .inr (_) =>
  some (-1)
 )
theorem Qai {p0 r0} (hm:ZD p0=some r0):FQ 171 [(Lb p0),(.raw (.func (.func 162) #[] #[]))] (Qe r0):=by
 unfold ZD at hm
 exact fp (fn:=f171) rfl (ge 1 (Qg (gr 1 (QZ Qj p0 (re 1 (Qp (ru2 hm (ZU _) (fun v601 d hm=>zf) fun _ d hm=>ge 1 (Qk zf))))))))
def Q9 (x:(List Int)):Option Bool :=
 match x with
 | p0 =>
 ZD p0>>=fun v1 =>
 some (decide (v1≥0))
theorem JS {p0 r0} (hm:Q9 p0=some r0):FQ 160 [(Lb p0),(.raw (.func (.func 162) #[] #[]))] (Qo r0):=by
 unfold Q9 at hm
 exact fp (fn:=f160) rfl (ge 1 (gr 2 (bi hm fun v1 hx hm=>cp (Qai hx) (re 2 (Qk zf)))))
def JM (x:(List Int)):Option Int :=
 match x with
 | p0 =>
 Q8 p0>>=fun v1 =>
 if v1=true then
  some 6
 else
 Q9 p0>>=fun v2 =>
 if v2=true then
  some 7
 else
 some 0
theorem Qdu {p0 r0} (hm:JM p0=some r0):FQ 142 [(Lb p0)] (Qe r0):=by
 unfold JM at hm
 exact fp (fn:=f142) rfl (ge 1 (Qg (Qp (gr 1 (bi hm fun v1 hx hm=>cp (JR hx) (re 1 (rib hm (fun hm=>ge 1 (Qk zf)) (fun hm=>gr 1 (bi hm fun v2 hx hm=>cp (JS hx) (re 1 (rib hm (fun hm=>ge 1 (Qk zf)) (fun hm=>Qi (ge 1 (Qk zf))))))))))))))
def Zd (x:((List Int) × Int × Int)):Option (Int ⊕ Unit) :=
 match x with
 | (p0,p1,v201) =>
 if v201 < (p0.length:Int) then
  idx p0 v201>>=fun v602 =>
  if p1=v602 then
   some (Sum.inl v201)
  else
  Zd (p0,p1,(W (v201+1)))
 else
 some (Sum.inr ())
 partial_fixpoint
theorem X3:∀ x r,Zd x=some r→match x with|(p0,p1,v201)=>LQ f163 163 [1,0,1,0,0] 0 ⟨kp 19 [(0,(La p0)),(1,(Qe p1)),(7,(Qe (p0.length:Int))),(8,(Qe v201))],[]⟩ (P2 .ret (fun v601 d=>⟨sl d 19 [(4,(Qe v601))],[]⟩) (.exit 0) (fun _ d=>⟨sl d 19 [],[]⟩) r):=by
 refine Zd.partial_correctness _ (fun Zd X3 x r hm=>?_)
 obtain ⟨p0,p1,v201⟩:=x
 exact lp (ge 1 (Qg (ri hm (fun hm=>Qi (Qg (Qp (ge 2 (gr 3 (Zj 1 Qj hm fun v602 hm=>re 2 (riq hm (fun hm=>ge 2 (Qk zf)) (fun hm=>Qi (R_G (re 2 (X3 _ _ hm _ kr))))))))))) (fun hm=>QO zf))))
def XL (x:((List Int) × Int)):Option Int :=
 match x with
 | (p0,p1) =>
 (
 Zd (p0,p1,0)>>=fun out =>
 match out with
 | .inl v601 =>
  some v601
 | .inr (_) =>
  some (-1)
 )
theorem Qdv {p0 p1 r0} (hm:XL (p0,p1)=some r0):FQ 163 [(Lb p0),(Qj p1)] (Qe r0):=by
 unfold XL at hm
 exact fp (fn:=f163) rfl (ge 1 (Qg (gr 1 (QZ Qj p0 (re 1 (Qp (ru2 hm (X3 _) (fun v601 d hm=>zf) fun _ d hm=>ge 1 (Qk zf))))))))
def Yq (x:((List Int) × Int)):Option Bool :=
 match x with
 | (p0,p1) =>
 XL (p0,p1)>>=fun v1 =>
 some (decide (v1≥0))
theorem QcH {p0 p1 r0} (hm:Yq (p0,p1)=some r0):FQ 143 [(Lb p0),(Qj p1)] (Qo r0):=by
 unfold Yq at hm
 exact fp (fn:=f143) rfl (ge 1 (gr 2 (bi hm fun v1 hx hm=>cp (Qdv hx) (re 2 (Qk zf)))))
def Qct (x:(Int × Int × Int)):Option (Int × Bool) :=
 match x with
 | (p0,p1,p2) =>
 ((if p0 < 0 then
  some true
 else
 some (decide (p1 < 0))
 )>>=fun (v2:Bool) =>
 (if v2=true then
  some true
 else
 some (decide (p0 > p2))
 )>>=fun (v3:Bool) =>
 (if v3=true then
  some true
 else
 some (decide (p1 > p2))
 )>>=fun (v4:Bool) =>
 if v4=true then
  some true
 else
 if p1 > 0 then
  quoM p2 p1>>=fun v5 =>
  some (decide (p0 > v5))
 else
 some false
 )>>=fun (v1:Bool) =>
 if v1=true then
  some (0,false)
 else
 some ((W (p0 * p1)),true)
theorem QgD {p0 p1 p2 r0 r1} (hm:Qct (p0,p1,p2)=some (r0,r1)):FQ 146 [(Qj p0),(Qj p1),(Qj p2)] (.tup [(Qe r0),(Qo r1)]):=by
 unfold Qct at hm
 exact fp (fn:=f146) rfl (ge 2 (Qg (Qg (bi hm fun v1 hs hm=>Ze (fun d=>⟨sl d 38 [(0,(Qe p0)),(1,(Qe p1)),(34,(Qo v1))],[]⟩) (have hm:=hs;Qc8 (Qh 3 (bi hm fun v2 hs hm=>Yu (j:=6) (fun d=>⟨sl d 38 [(0,(Qe p0)),(1,(Qe p1)),(2,(Qe p2)),(13,(Qo v2))],[]⟩) (fun d=>Qh 1 (bi hm fun v3 hs hm=>Yu (j:=11) (fun d=>⟨sl d 38 [(0,(Qe p0)),(1,(Qe p1)),(2,(Qe p2)),(18,(Qo v3))],[]⟩) (fun d=>Qh 1 (bi hm fun v4 hs hm=>Yu (j:=16) (fun d=>⟨sl d 38 [(0,(Qe p0)),(1,(Qe p1)),(2,(Qe p2)),(23,(Qo v4))],[]⟩) (fun d=>Qh 1 (gsb 24 hm (fun hm=>re 10 ⟨kr,zf⟩) (fun hm=>Qh 3 (gs 27 hm (fun hm=>Qh 3 (bi hm fun v5 hx hm=>QT rfl (fun _=>Qhr (a:=p2) (b:=p1) hx rfl kr kr) (re 3 ⟨kr,zf⟩))) (fun hm=>re 7 ⟨kr,zf⟩))))) (fun hJ=>gsb 19 hs (fun hm=>Qh 4 zf) (fun hm=>Qh 4 zf)))) (fun hJ=>gsb 14 hs (fun hm=>Qh 4 zf) (fun hm=>Qh 4 zf)))) (fun hJ=>gs 10 hs (fun hm=>Qh 3 zf) (fun hm=>Qh 3 zf))))) (fun d=>rib hm (fun hm=>ge 2 (Qk zf)) (fun hm=>Qi (ge 5 (Qk zf))))))))
def QaJ (x:(Int × Int)):Option (Int × Bool) :=
 match x with
 | (p0,p1) =>
 Qct (p0,p1,65536)>>=fun (v1,v2) =>
 some (v1,v2)
theorem QeR {p0 p1 r0 r1} (hm:QaJ (p0,p1)=some (r0,r1)):FQ 145 [(Qj p0),(Qj p1)] (.tup [(Qe r0),(Qo r1)]):=by
 unfold QaJ at hm
 exact fp (fn:=f145) rfl (ge 2 (gr 2 (bi2 hm fun v1 v2 hx hm=>cp (QgD hx) (re 4 (Qk zf)))))
def QS (x:((List Int) × Int × Int)):Option (Int ⊕ Int) :=
 match x with
 | (p0,v201,v202) =>
 if v202 < (p0.length:Int) then
  idx p0 v202>>=fun v603 =>
  QaJ (v201,v603)>>=fun (v604,v605) =>
  if v605=false then
   some (Sum.inl v604)
  else
  QS (p0,v604,(W (v202+1)))
 else
 some (Sum.inr v201)
 partial_fixpoint
theorem YQ:∀ x r,QS x=some r→match x with|(p0,v201,v202)=>LQ f164 164 [1,1,0,1,0,0] 0 ⟨kp 31 [(2,(.dat (.raw (.func (.func 145) #[] #[])))),(8,(Qe v201)),(13,(La p0)),(14,(Qe (p0.length:Int))),(15,(Qe v202))],[]⟩ (P2 .ret (fun v601 d=>⟨sl d 31 [(6,(Qe v601)),(7,(Qo false))],[]⟩) (.exit 0) (fun v602 d=>⟨sl d 31 [(8,(Qe v602))],[]⟩) r):=by
 refine QS.partial_correctness _ (fun QS YQ x r hm=>?_)
 obtain ⟨p0,v201,v202⟩:=x
 exact lp (ge 1 (Qg (ri hm (fun hm=>Qi (Qg (Qp (Qg (R_G (Zj 1 Qj hm fun v603 hm=>re 2 (gr 3 (bi2 hm fun v604 v605 hx hm=>cp (QeR hx) (re 5 (ge 2 (rin hm (fun hm=>ge 3 (Qk zf)) (fun hm=>Qi (R_G (re 2 (YQ _ _ hm _ kr))))))))))))))) (fun hm=>QO zf))))
def Yo (x:((List Int) × Int)):Option (Int × Bool) :=
 match x with
 | (p0,p1) =>
 (
 QS (p0,p1,0)>>=fun out =>
 match out with
 | .inl v601 =>
  some (v601,false)
 | .inr (v602) =>
  some (v602,true)
 )
theorem QbM {p0 p1 r0 r1} (hm:Yo (p0,p1)=some (r0,r1)):FQ 164 [(Lb p0),(Qj p1),(.raw (.func (.func 145) #[] #[]))] (.tup [(Qe r0),(Qo r1)]):=by
 unfold Yo at hm
 exact fp (fn:=f164) rfl (ge 2 (ge 3 (Qg (gr 1 (QZ Qj p0 (re 1 (Qp (ru2 hm (YQ _) (fun v601 d hm=>zf) fun v602 d hm=>ge 3 (Qk zf)))))))))
def Yn (x:((List Int) × Int)):Option (Int × Int) :=
 match x with
 | (p0,p1) =>
 JM p0>>=fun v1 =>
 if v1≠0 then
  some (0,v1)
 else
 Yo (p0,p1)>>=fun (v2,v3) =>
 if v3=false then
  some (0,7)
 else
 some (v2,0)
theorem QbL {p0 p1 r0 r1} (hm:Yn (p0,p1)=some (r0,r1)):FQ 144 [(Lb p0),(Qj p1),(.raw (.func (.func 145) #[] #[]))] (.tup [(Qe r0),(Qe r1)]):=by
 unfold Yn at hm
 exact fp (fn:=f144) rfl (ge 2 (Qg (gr 1 (bi hm fun v1 hx hm=>cp (Qdu hx) (re 1 (ge 2 (rix hm (fun hm=>ge 3 (Qk zf)) (fun hm=>Qi (gr 3 (bi2 hm fun v2 v3 hx hm=>cp (QbM hx) (re 5 (Qg (ge 2 (rin hm (fun hm=>ge 2 (Qk zf)) (fun hm=>Qi (ge 3 (Qk zf)))))))))))))))))
def JB (x:(List Int)):Option (Int × Int) :=
 match x with
 | p0 =>
 JM p0>>=fun v1 =>
 (if v1=0 then
  Yq (p0,0)>>=fun v3 =>
  some v3
 else
 some false
 )>>=fun (v2:Bool) =>
 if v2=true then
  some (0,0)
 else
 Yn (p0,1)>>=fun (v4,v5) =>
 some (v4,v5)
theorem Qd0 {p0 r0 r1} (hm:JB p0=some (r0,r1)):FQ 126 [(Lb p0)] (.tup [(Qe r0),(Qe r1)]):=by
 unfold JB at hm
 exact fp (fn:=f126) rfl (ge 2 (Qg (gr 1 (bi hm fun v1 hx hm=>cp (Qdu hx) (re 1 (Qg (bi hm fun v2 hs hm=>Ze (fun d=>⟨sl d 17 [(0,(La p0)),(12,(Qo v2))],[]⟩) (have hm:=hs;R_G (Qh 3 (gsq 9 hm (fun hm=>Qh 1 (bi hm fun v3 hx hm=>cp (QcH hx) (re 1 zf))) (fun hm=>re 3 zf)))) (fun d=>rib hm (fun hm=>ge 2 (Qk zf)) (fun hm=>Qi (gr 1 (bi2 hm fun v4 v5 hx hm=>cp (QbL hx) (re 4 (Qk zf)))))))))))))
def Zo (x:(List Int)):Option Int :=
 match x with
 | p0 =>
 JB p0>>=fun (v1,v2) =>
 (if v2≠6 then
  some (decide ((p0.length:Int) > 16))
 else
 some false
 )>>=fun (v3:Bool) =>
 if v3=true then
  some 7
 else
 some v2
theorem Z3 {p0 r0} (hm:Zo p0=some r0):FQ 96 [(Lb p0)] (Qe r0):=by
 unfold Zo at hm
 exact fp (fn:=f96) rfl (ge 1 (gr 1 (bi2 hm fun v1 v2 hx hm=>cp (Qd0 hx) (re 5 (Qg (Qg (bi hm fun v3 hs hm=>Ze (fun d=>⟨sl d 18 [(4,(Qe v2)),(16,(Qo v3))],[]⟩) (have hm:=hs;R_G (Qh 3 (gsx 12 hm (fun hm=>Qh 1 (QZ Qj p0 (re 2 zf))) (fun hm=>re 4 zf)))) (fun d=>rib hm (fun hm=>ge 1 (Qk zf)) (fun hm=>Qi (ge 2 (Qk zf)))))))))))
def J3 (x:(List Int)):Option Int :=
 match x with
 | p0 =>
 Zo p0>>=fun v1 =>
 if v1≠0 then
  some 0
 else
 JB p0>>=fun (v2,v3) =>
 some v2
theorem Qeg {p0 r0} (hm:J3 p0=some r0):FQ 97 [(Lb p0)] (Qe r0):=by
 unfold J3 at hm
 exact fp (fn:=f97) rfl (ge 1 (Qg (gr 1 (bi hm fun v1 hx hm=>cp (Z3 hx) (re 1 (rix hm (fun hm=>ge 1 (Qk zf)) (fun hm=>Qi (gr 1 (bi2 hm fun v2 v3 hx hm=>cp (Qd0 hx) (re 5 (ge 2 (Qk zf))))))))))))
def Xe (x:Qq):Option Int :=
 match x with
 | p0 =>
 Zo p0.shape>>=fun v1 =>
 if v1≠0 then
  some v1
 else
 J3 p0.shape>>=fun v2 =>
 if (p0.data.length:Int)≠v2 then
  some 5
 else
 some 0
theorem Qd8 {p0 r0} (hm:Xe p0=some r0):FQ 64 [(Qq.toD p0)] (Qe r0):=by
 unfold Xe at hm
 exact fp (fn:=f64) rfl (ge 2 (Qg (gr 2 (bi hm fun v1 hx hm=>cp (Z3 hx) (re 1 (ge 2 (rix hm (fun hm=>ge 2 (Qk zf)) (fun hm=>Qi (Qg (Qg (X0 (Qh 2 (QZ Qj p0.data (Qh 2 (bi hm fun v2 hx hm=>cp (Qeg hx) (re 1 ⟨kr,rix hm (fun hm=>ge 1 (Qk zf)) (fun hm=>Qi (ge 1 (Qk zf)))⟩))))))))))))))))
def QbY (x:Qb):Option Bool :=
 match x with
 | p0 =>
 Qcs p0.name>>=fun v1 =>
 if v1=true then
  Xe (⟨p0.value.shape,p0.value.data⟩:Qq)>>=fun v2 =>
  some (v2 == 0)
 else
 some false
theorem Qgl {p0 r0} (hm:QbY p0=some r0):FQ 41 [(Qb.toD p0)] (Qo r0):=by
 unfold QbY at hm
 exact fp (fn:=f41) rfl (ge 2 (gr 2 (bi hm fun v1 hx hm=>cp (QgA hx) (Qh 1 (gsb 6 hm (fun hm=>Qh 2 (bi hm fun v2 hx hm=>cp (Qd8 hx) (re 3 (Qk zf)))) (fun hm=>re 6 (Qk zf)))))))
def XT (x:(List Int)):Option (List Int) :=
 match x with
 | p0 =>
 makeM 8 (p0.length:Int) 0>>=fun v1 =>
 Xc ((cpM v1 p0).length=v1.length)>>=fun _ =>
 some (cpM v1 p0)
theorem Qej {p0 r0} (hm:XT p0=some r0):FQ 98 [(Lb p0)] (La r0):=by
 unfold XT at hm
 exact fp (fn:=f98) rfl (ge 1 (gr 1 (QZ Qj p0 (bi hm fun v1 hx hm=>Jk (v:=.arr 0 0 v1.length v1.length) (fun H=>H++[.box (cellsOf Qj v1)]) rfl kr (by intro K hk; exact QeX 0 Qj (z:=0) (n:=(p0.length:Int)) (bytes:=8) hx (e:=3) kr kr kr kr rfl rfl kr kr hk) (re 1 (gr 2 (Jk (v:=Qe ((min p0.length v1.length:Nat):Int)) (fun H=>H.set 0 (.box (cellsOf Qj (cpM v1 p0)))) rfl kr (fun _=>QgG Qj (d:=v1) (l:=p0) (e:=3) (i:=0) (m:=v1.length) (cap:=v1.length) (fun _=>rfl) rfl kr kr rfl kr kr kr) (Y9 (ge 2 (Qk (gi hm fun hl2 hm=>(by obtain rfl:=Qhp hm; exact ⟨trivial,Xu [(.arr 0 0 v1.length v1.length)] kr (po_arr (pc_arr Qj (cpM v1 p0) hl2 (fun _=>rfl) kr))⟩))))))))))))
def YH (x:(List Int)):Option (List Int) :=
 match x with
 | p0 =>
 makeM 8 (p0.length:Int) 0>>=fun v1 =>
 Xc ((cpM v1 p0).length=v1.length)>>=fun _ =>
 some (cpM v1 p0)
theorem Qb3 {p0 r0} (hm:YH p0=some r0):FQ 99 [(Lb p0)] (La r0):=by
 unfold YH at hm
 exact fp (fn:=f99) rfl (ge 1 (gr 1 (QZ Qj p0 (bi hm fun v1 hx hm=>Jk (v:=.arr 0 0 v1.length v1.length) (fun H=>H++[.box (cellsOf Qj v1)]) rfl kr (by intro K hk; exact QeX 0 Qj (z:=0) (n:=(p0.length:Int)) (bytes:=8) hx (e:=2) kr kr kr kr rfl rfl kr kr hk) (re 1 (gr 2 (Jk (v:=Qe ((min p0.length v1.length:Nat):Int)) (fun H=>H.set 0 (.box (cellsOf Qj (cpM v1 p0)))) rfl kr (fun _=>QgG Qj (d:=v1) (l:=p0) (e:=2) (i:=0) (m:=v1.length) (cap:=v1.length) (fun _=>rfl) rfl kr kr rfl kr kr kr) (Y9 (ge 2 (Qk (gi hm fun hl2 hm=>(by obtain rfl:=Qhp hm; exact ⟨trivial,Xu [(.arr 0 0 v1.length v1.length)] kr (po_arr (pc_arr Qj (cpM v1 p0) hl2 (fun _=>rfl) kr))⟩))))))))))))
def XI (x:Qq):Option Qq :=
 match x with
 | p0 =>
 XT p0.shape>>=fun v1 =>
 YH p0.data>>=fun v2 =>
 some (⟨v1,v2⟩:Qq)
theorem QeB {p0 r0} (hm:XI p0=some r0):FQ 65 [(Qq.toD p0)] (.dat (Qq.toD r0)):=by
 unfold XI at hm
 exact fp (fn:=f65) rfl (ge 2 (Qg (X0 (Qh 2 (bi hm fun v1 hx hm=>cp (Qej hx) (Qh 2 (bi hm fun v2 hx hm=>cp (Qb3 hx) (re 2 ⟨kr,Qk zf⟩))))))))
def Qbq (x:Qb):Option Qb :=
 match x with
 | p0 =>
 XI (⟨p0.value.shape,p0.value.data⟩:Qq)>>=fun v1 =>
 some (⟨p0.name,v1⟩:Qb)
theorem QfO {p0 r0} (hm:Qbq p0=some r0):FQ 42 [(Qb.toD p0)] (.dat (Qb.toD r0)):=by
 unfold Qbq at hm
 exact fp (fn:=f42) rfl (ge 2 (Qg (X0 (Qh 4 (bi hm fun v1 hx hm=>cp (QeB hx) (re 2 ⟨kr,Qk zf⟩))))))
def XJ (x:((List Qb) × ByteArray × (List (ByteArray × Int)) × (List Int) × (List Int))):Option ((Int × Bool)) :=
 match x with
 | (q0,q1,q2,q3,q4) =>
 some (lookS q2 q1)>>=fun ((v1,v2):(Int × Bool)) =>
 some (v1,v2)
theorem Qdo {q0 q1 q2 q3 q4 v5001 v5002} (hm:XJ (q0,q1,q2,q3,q4)=some (v5001,v5002)):PC prog env 40 [(.agg [(Qet q0),(.mapv 0)]),(.dat (strD q1))] [(.map (smE q2)),(.tok 39 q0.length),(ZV q0),(.tok 39 (([]:List Qb).length)),(Qal q1 q3 q4)] (.tup [(Qe v5001),(Qo v5002)]) [(.map (smE q2)),(.tok 39 q0.length),(ZV q0),(.tok 39 (([]:List Qb).length)),(Qal q1 q3 q4),(ZV q0)]:=by
 unfold XJ at hm
 exact PC_sxB (fn:=f40) rfl (ge 3 (gr 3 (bi2 hm fun v1 v2 hx hm=>QT (v:=.tup [Qe v1,Qo v2]) rfl (fun _=>Qf8 (i:=0) (kt:=9) (e:=3) (l:=q2) (s:=q1) hx kr kr kr rfl kr kr kr) (re 5 (ge 4 (Qk zf))))))
def Yd (x:((List Qb) × (List (ByteArray × Int)) × (List Qb) × Int)):Option (((List (ByteArray × Int)) × (List Qb) × ByteArray × (List Int) × (List Int) × (List Qb)) ⊕ ((List (ByteArray × Int)) × (List Qb))) :=
 match x with
 | (q0,v201,v202,v203) =>
 if v203 < (q0.length:Int) then
  idx q0 v203>>=fun v609 =>
  XJ (v202,v609.name,v201,v609.value.shape,v609.value.data)>>=fun (v610,v611) =>
  (if v611=true then
   some true
  else
  QbY v609>>=fun v613 =>
  some (!v613)
  )>>=fun (v612:Bool) =>
  if v612=true then
   some (Sum.inl (v201,v202,v609.name,v609.value.shape,v609.value.data,v202))
  else
  Qbq v609>>=fun v614 =>
  app 64 v202 ([v614]:List Qb)>>=fun v615 =>
  Yd (q0,(setS v201 v609.name v203),v615,(W (v203+1)))
 else
 some (Sum.inr (v201,v202))
 partial_fixpoint
theorem Qbe:∀ x r,Yd x=some r→match x with|(q0,v201,v202,v203)=>LQ f18 18 [1,1,0,1,0,0] 4 ⟨kp 47 [(4,(.ptr 2 0)),(11,(YG q0)),(12,(Qe (q0.length:Int))),(13,(Qe v203))],[(.map (smE v201)),(.tok 39 v202.length),(ZV v202),(.tok 39 (([]:List Qb).length))]⟩ (P2 .ret (fun (v601,v602,v603,v604,v605,v606) d=>⟨sl d 47 [(2,(.dat (.raw (.pointer none)))),(3,(Qe 3))],(Qe6 v601 v602.length v602 v603 v604 v605 v606)⟩) (.exit 0) (fun (v607,v608) d=>⟨sl d 47 [(4,(.ptr 2 0))],[(.map (smE v607)),(.tok 39 v608.length),(ZV v608),(.tok 39 (([]:List Qb).length))]⟩) r):=by
 refine Yd.partial_correctness _ (fun Yd Qbe x r hm=>?_)
 obtain ⟨q0,v201,v202,v203⟩:=x
 exact lp (ge 1 (Qg (ri hm (fun hm=>Qi (Qg (Qp (gr 1 (Zj 3 Qb.toD hm fun v609 hm=>re 4 (Qg (gr 3 (bi2 hm fun v610 v611 hx hm=>Za (Qdo hx) (re 5 (Qg (bi hm fun v612 hs hm=>Ze (fun d=>⟨sl d 47 [(4,(.ptr 2 0)),(5,(Qe v203)),(6,(.ptr 4 0)),(11,(YG q0)),(12,(Qe (q0.length:Int))),(13,(Qe v203)),(30,(Qo v612))],[(.map (smE v201)),(.tok 39 v202.length),(ZV v202),(.tok 39 (([]:List Qb).length)),(Qal v609.name v609.value.shape v609.value.data),(ZV v202)]⟩) (have hm:=hs;R_G (Qh 2 (gsb 26 hm (fun hm=>re 4 zf) (fun hm=>Qh 1 (bi hm fun v613 hx hm=>cp (Qgl hx) (re 2 zf)))))) (fun d=>rib hm (fun hm=>ge 2 (Qk zf)) (fun hm=>Qi (X0 (Qh 7 (bi hm fun v614 hx hm=>cp (QfO hx) (Qh 1 (bi hm fun v615 hx hm=>Xk 39 3 64 1 Qb.toD v202 ([v614]:List Qb) v615 (xs:=(List.map Qb.toD) v202) (es:=(List.map Qb.toD) ([v614]:List Qb)) (L:=(List.map Qb.toD)) (fun _=>rfl) rfl rfl Qb.fit hx (Qh 3 (Jk (fun H=>H.set 0 (.map (smE (setS v201 v609.name v203)))) rfl kr (fun _=>Qhm (i:=0) (kt:=9) (e:=3) (l:=v201) (s:=v609.name) (n:=v203) kr kr rfl kr kr kr kr) (Y9 ⟨kr,R_G (re 2 (Qbe _ _ hm _ (prune_of2 [(.map (smE (setS v201 v609.name v203))),(.tok 39 v615.length),(ZV v615),(.tok 39 (([]:List Qb).length))] (fun _=>(pg_cons (purge_sm _ _ _) (pg_cons kr (pg_cons kr (pg_cons kr pg_nil))))) rfl)))⟩))))))))))))))))))))) (fun hm=>QO zf))))
def Qa7 (x:(List Qb)):Option (((List (ByteArray × Int)) × (List Qb) × ByteArray × (List Int) × (List Int) × (List Qb)) ⊕ ((List (ByteArray × Int)) × (List Qb) × (List Qb))) :=
 match x with
 | q0 =>
 (
 Yd (q0,([]:List (ByteArray × Int)),([]:List Qb),0)>>=fun out =>
 match out with
 | .inl (v601,v602,v603,v604,v605,v606) =>
  some (Sum.inl (v601,v602,v603,v604,v605,v606))
 | .inr ((v607,v608)) =>
  some (Sum.inr (v607,v608,v608))
 )
theorem Qdy {q0 r} (hm:Qa7 q0=some r):PC prog env 18 [(YG q0)] [] (match r with|.inl (v5001,v5002,v5003,v5004,v5005,v5006)=>(.tup [(.dat (.raw (.pointer none))),(Qe 3)])|.inr ((v5007,v5008,v5009))=>(.tup [(.ptr 4 0),(Qe 0)])) (match r with|.inl (v5001,v5002,v5003,v5004,v5005,v5006)=>(Qe6 v5001 v5002.length v5002 v5003 v5004 v5005 v5006)|.inr ((v5007,v5008,v5009))=>(QaS v5007 v5008.length v5008 v5009)):=by
 unfold Qa7 at hm
 exact PC_sxB (fn:=f18) rfl (ge 2 (gr 1 (re 3 (Qg (gr 1 (QZ Qb.toD q0 (re 1 (Qp (ru2 hm (Qbe _) (fun ⟨v601,v602,v603,v604,v605,v606⟩ d hm=>zf) (fun ⟨v607,v608⟩ d hm=>ge 5 (Qk zf)) (hst:=(prune_of2 [(.map (smE ([]:List (ByteArray × Int)))),(.tok 39 (([]:List Qb).length)),(.box [(.vec 1 []),(.mapv 0)]),(.tok 39 (([]:List Qb).length))] (fun _=>(pg_cons (purge_sm _ _ _) (pg_cons kr (pg_cons kr (pg_cons kr pg_nil))))) rfl)))))))))))
def YF (x:(List Qb)):Option (((List (ByteArray × Int)) × (List Qb) × ByteArray × (List Int) × (List Int) × (List Qb)) ⊕ ((List (ByteArray × Int)) × (List Qb) × (List Qb))) :=
 match x with
 | q0 =>
 (
 Qa7 q0>>=fun out =>
 match out with
 | .inl (v1,v2,v3,v4,v5,v6) =>
  some (Sum.inl (v1,v2,v3,v4,v5,v6))
 | .inr ((v7,v8,v9)) =>
  some (Sum.inr (v7,v8,v9))
 )
def Qcn:(List Qb)→(((List (ByteArray × Int)) × (List Qb) × ByteArray × (List Int) × (List Int) × (List Qb)) ⊕ ((List (ByteArray × Int)) × (List Qb) × (List Qb)))→Prop:=fun x r=>match x with
 | q0=>PC prog env 10 [(YG q0)] [] (match r with|.inl (v5001,v5002,v5003,v5004,v5005,v5006)=>(.dat (.raw (.pointer none)))|.inr ((v5007,v5008,v5009))=>(.ptr 4 0)) (match r with|.inl (v5001,v5002,v5003,v5004,v5005,v5006)=>(Qe6 v5001 v5002.length v5002 v5003 v5004 v5005 v5006)|.inr ((v5007,v5008,v5009))=>(QaS v5007 v5008.length v5008 v5009))
theorem Xd:∀ x r,YF x=some r→Qcn x r:=by
 intro q0 r hm
 unfold YF at hm
 unfold Qcn
 refine PC_sxB (fn:=f10) rfl ?_
 exact ge 1 (gr 1 (bs hm (fun ⟨v1,v2,v3,v4,v5,v6⟩ hx hm=>Za (Qdy hx) (re 5 (Qg (ge 2 (Qaj kr (ge 1 (Qk zf))))))) fun ⟨v7,v8,v9⟩ hx hm=>Za (Qdy hx) (re 5 (Qg (ge 2 (Xt kr (Qi (ge 2 (Qk zf)))))))))
def Qan (x:(List Int)):Option Qq :=
 match x with
 | p0 =>
 YH p0>>=fun v1 =>
 some (⟨([(p0.length:Int)]:List Int),v1⟩:Qq)
theorem Qfo {p0 r0} (hm:Qan p0=some r0):FQ 67 [(Lb p0)] (.dat (Qq.toD r0)):=by
 unfold Qan at hm
 exact fp (fn:=f67) rfl (ge 1 (gr 1 (QZ Qj p0 (Qh 2 (bi hm fun v1 hx hm=>cp (Qb3 hx) (re 2 (Qk zf)))))))
def Qam (x:Int):Option Qq :=
 match x with
 | p0 =>
 some (⟨([]:(List Int)),([p0]:List Int)⟩:Qq)
theorem Qfn {p0 r0} (hm:Qam p0=some r0):FQ 68 [(Qj p0)] (.dat (Qq.toD r0)):=by
 unfold Qam at hm
 exact fp (fn:=f68) rfl (ge 1 (ge 4 (Qk zf)))
def Yp (x:(ByteArray × (List Int) × (List Int) × ByteArray × (List Int) × (List Int) × (List (ByteArray × Int)) × (List Qb) × (List Qb) × (List Ql))):Option (Bool) :=
 match x with
 | (q0,q1,q2,q3,q4,q5,q6,q7,q8,q9) =>
 if q3≠ByteArray.empty then
  some (decide (q0=q3))
 else
 some false
theorem QcG {q0 q1 q2 q3 q4 q5 q6 q7 q8 q9 v5001} (hm:Yp (q0,q1,q2,q3,q4,q5,q6,q7,q8,q9)=some v5001):PC prog env 101 [(.dat (.agg [(strD q0),(Lb q1),(Lb q2)])),(.iptr [(strD q3),(Lb q4),(Lb q5)])] (Qco q6 q7.length q7 q8 q9.length q9) (Qo v5001) (Qeo q6 q7.length q7 q8 q9.length q9 q0 q1 q2):=by
 unfold Yp at hm
 exact PC_sxB (fn:=f101) rfl (ge 2 (gr 2 (QT rfl (fun _=>QeY (a:=q3) (b:=ByteArray.empty) rfl kr kr) (Qh 1 (gs 7 hm (fun hm=>Qh 4 (QT rfl (fun _=>QaO (a:=q0) (b:=q3) rfl kr kr) (re 2 (Qk zf)))) (fun hm=>re 7 (Qk zf)))))))
def QA (x:((List Ql) × ByteArray × (List Int) × (List Int) × (List (ByteArray × Int)) × (List Qb) × (List Qb) × Int)):Option ((ByteArray × (List Int) × (List Int) × Int) ⊕ Unit) :=
 match x with
 | (q0,q1,q2,q3,q4,q5,q6,v201) =>
 if v201 < (q0.length:Int) then
  idx q0 v201>>=fun v605 =>
  Yp (v605.name,v605.value.shape,v605.value.data,q1,q2,q3,q4,q5,q6,q0)>>=fun v606 =>
  if v606=true then
   some (Sum.inl (v605.name,v605.value.shape,v605.value.data,v201))
  else
  QA (q0,q1,q2,q3,q4,q5,q6,(W (v201+1)))
 else
 some (Sum.inr ())
 partial_fixpoint
theorem Zq:∀ x r,QA x=some r→match x with|(q0,q1,q2,q3,q4,q5,q6,v201)=>LQ f100 100 [1,0,1,0,0] 9 ⟨kp 19 [(0,(Qgj q0)),(1,(.fn 101 [(.iptr [(strD q1),(Lb q2),(Lb q3)])])),(7,(Qe (q0.length:Int))),(8,(Qe v201))],(Qco q4 q5.length q5 q6 q0.length q0)⟩ (P2 .ret (fun (v601,v602,v603,v604) d=>⟨sl d 19 [(4,(Qe v604))],(Qeo q4 q5.length q5 q6 q0.length q0 v601 v602 v603)⟩) (.exit 0) (fun _ d=>⟨sl d 19 [],(Qco q4 q5.length q5 q6 q0.length q0)⟩) r):=by
 refine QA.partial_correctness _ (fun QA Zq x r hm=>?_)
 obtain ⟨q0,q1,q2,q3,q4,q5,q6,v201⟩:=x
 exact lp (ge 1 (Qg (ri hm (fun hm=>Qi (Qg (Qp (ge 2 (gr 3 (Zj 3 Ql.toD hm fun v605 hm=>Qh 1 (bi hm fun v606 hx hm=>Za (QcG hx) (Y9 (rib hm (fun hm=>ge 2 (Qk zf)) (fun hm=>Qi (R_G (re 2 (Zq _ _ hm _ (prune_of2 (Qco q4 q5.length q5 q6 q0.length q0) (fun _=>(pg_cons (purge_sm _ _ _) (pg_cons kr (pg_cons kr (pg_cons kr (pg_cons kr (pg_cons kr (pg_cons kr (pg_cons kr (pg_cons kr pg_nil)))))))))) rfl)))))))))))))) (fun hm=>QO zf))))
def QX (x:((List Ql) × ByteArray × (List Int) × (List Int) × (List (ByteArray × Int)) × (List Qb) × (List Qb))):Option ((ByteArray × (List Int) × (List Int) × Int) ⊕ Unit) :=
 match x with
 | (q0,q1,q2,q3,q4,q5,q6) =>
 (
 QA (q0,q1,q2,q3,q4,q5,q6,0)>>=fun out =>
 match out with
 | .inl (v601,v602,v603,v604) =>
  some (Sum.inl (v601,v602,v603,v604))
 | .inr (_) =>
  some (Sum.inr ())
 )
theorem Yr {q0 q1 q2 q3 q4 q5 q6 r} (hm:QX (q0,q1,q2,q3,q4,q5,q6)=some r):PC prog env 100 [(Qgj q0),(.fn 101 [(.iptr [(strD q1),(Lb q2),(Lb q3)])])] (Qco q4 q5.length q5 q6 q0.length q0) (match r with|.inl (v5001,v5002,v5003,v5004)=>(Qe v5004)|.inr (_)=>(Qe (-1))) (match r with|.inl (v5001,v5002,v5003,v5004)=>(Qeo q4 q5.length q5 q6 q0.length q0 v5001 v5002 v5003)|.inr (_)=>(Qco q4 q5.length q5 q6 q0.length q0)):=by
 unfold QX at hm
 exact PC_sxB (fn:=f100) rfl (ge 1 (Qg (gr 1 (QZ Ql.toD q0 (re 1 (Qp (ru2 hm (Zq _) (fun ⟨v601,v602,v603,v604⟩ d hm=>zf) (fun _ d hm=>ge 1 (Qk zf)) (hst:=(prune_of2 (Qco q4 q5.length q5 q6 q0.length q0) (fun _=>(pg_cons (purge_sm _ _ _) (pg_cons kr (pg_cons kr (pg_cons kr (pg_cons kr (pg_cons kr (pg_cons kr (pg_cons kr (pg_cons kr pg_nil)))))))))) rfl)))))))))
def Qy (x:List Int):Option (List Int):=app 8 [] x
def cgm_slices_Clone_int_int (l:List Int):Nat:=match l with|[]=>0|_=>1
theorem QD {x r} (hm:Qy x=some r):PC prog env 43 ([.lst ((List.map Qj) x)].map .dat) [] (.ms 0 (cgm_slices_Clone_int_int r) 0 r.length r.length) [.mt 3 (cgm_slices_Clone_int_int r) (cellsOf Qj r)]:=by
 obtain ⟨hroom,hr⟩:=app_some hm
 have hr:r=x:=hr
 subst hr
 cases r with
 | nil=>exact PC_of (n:=20) (by kernel_rfl)
 | cons a l =>
  exact PC_sxB (fn:=f43) rfl (ge 1 (Qg (gr 1 (QT rfl (fun _=>Qf2 (p:=.dat (Lb (a::l))) (b:=false) rfl kr kr kr) (Y9 (Xt kr (Qi (gr 2 (Jk (v:=.ms 0 1 0 (a::l).length (a::l).length) (fun H=>H.set 0 (.mt 3 1 (cellsOf Qj (a::l)))) rfl kr (fun _ hk=>Qgv Qj (l:=[]) (es:=a::l) (bytes:=8) (e:=3) (tt:=0) (g:=0) (m:=0) hm (fun _=>rfl) kr kr kr kr rfl rfl kr rfl kr (source_lst (fun _=>rfl)) hk) (re 1 (Qk zf)))))))))))
def Zy (x:(ByteArray × (List Int) × (List Int) × (List (ByteArray × Int)) × (List Qb) × (List Qb) × (List Ql))):Option (((List Ql) × (List Int) × Int)) :=
 match x with
 | (q0,q1,q2,q3,q4,q5,q6) =>
 (
 QX (q6,q0,q1,q2,q3,q4,q5)>>=fun out =>
 match out with
 | .inl (v1,v2,v3,v4) =>
  (if v4 < 0 then
   app 64 q6 ([(⟨q0,(⟨q1,q2⟩:Qq)⟩:Ql)]:List Ql)>>=fun v7 =>
   some (v7,(q6.length:Int))
  else
  some (q6,v4)
  )>>=fun ((v5,v6):((List Ql) × Int)) =>
  Qy q1>>=fun v8 =>
  some (v5,v8,v6)
 | .inr (_) =>
  app 64 q6 ([(⟨q0,(⟨q1,q2⟩:Qq)⟩:Ql)]:List Ql)>>=fun v9 =>
  Qy q1>>=fun v10 =>
  some (v9,v10,(q6.length:Int))
 )
theorem Qbn {q0 q1 q2 q3 q4 q5 q6 v5001 v5002 v5003} (hm:Zy (q0,q1,q2,q3,q4,q5,q6)=some (v5001,v5002,v5003)):PCX prog env 69 [(.ptr 7 0),(.dat (.agg [(strD q0),(Lb q1),(Lb q2)]))] (QaR q3 q4.length q4 q5 q6.length q6) (.dat (.agg [(Qj 1),(Lb v5002),(Qj v5003),Eb,(Qj 0),(Qj 0),Eb,(.lst (Qc.toDs []))])) (QaR q3 q4.length q4 q5 v5001.length v5001):=by
 unfold Zy at hm
 exact PCX_sxB (fn:=f69) rfl (ge 2 (gr 5 (bs hm (fun ⟨v1,v2,v3,v4⟩ hx hm=>Za (Yr hx) (re 1 (Qg (ge 2 (bi2 hm fun v5 v6 hs hm=>Ze (fun d=>⟨sl d 35 [(3,(.iptr [(strD q0),(Lb q1),(Lb q2)])),(4,(.ptr 8 0)),(5,(Qe v6))],(Qeo q3 q4.length q4 q5 v5.length v5 v1 v2 v3)⟩) (have hm:=hs;ri hm (fun hm=>gr 4 (QZ Ql.toD q6 (re 1 (X0 (Qh 7 (bi hm fun v7 hx hm=>Xk 69 3 64 6 Ql.toD q6 ([(⟨q0,(⟨q1,q2⟩:Qq)⟩:Ql)]:List Ql) v7 (xs:=(List.map Ql.toD) q6) (es:=(List.map Ql.toD) ([(⟨q0,(⟨q1,q2⟩:Qq)⟩:Ql)]:List Ql)) (L:=(List.map Ql.toD)) (fun _=>rfl) rfl rfl Ql.fit hx (re 3 ⟨kr,zf⟩))))))) (fun hm=>Qi zf)) (fun d=>gr 3 (bi hm fun v8 hx hm=>QT (v:=.dat (Lb v8)) rfl (fun _=>QdG (f:=43) (first:=#[]) (cap:=#[]) (e:=3) (ow':=[]) (ds:=[.lst ((List.map Qj) q1)]) rfl kr kr kr kr (QD hx) (p1_ms (pc_ms (e:=3) Qj v8 rfl (fun _=>rfl) kr))) (re 3 (Qk zf))))))))) fun _ hx hm=>Za (Yr hx) (re 1 (Qg (ge 2 (Qaj kr (gr 4 (QZ Ql.toD q6 (re 1 (X0 (Qh 7 (bi hm fun v9 hx hm=>Xk 69 3 64 6 Ql.toD q6 ([(⟨q0,(⟨q1,q2⟩:Qq)⟩:Ql)]:List Ql) v9 (xs:=(List.map Ql.toD) q6) (es:=(List.map Ql.toD) ([(⟨q0,(⟨q1,q2⟩:Qq)⟩:Ql)]:List Ql)) (L:=(List.map Ql.toD)) (fun _=>rfl) rfl rfl Ql.fit hx (re 3 ⟨kr,gr 3 (bi hm fun v10 hx hm=>QT (v:=.dat (Lb v10)) rfl (fun _=>QdG (f:=43) (first:=#[]) (cap:=#[]) (e:=3) (ow':=[]) (ds:=[.lst ((List.map Qj) q1)]) rfl kr kr kr kr (QD hx) (p1_ms (pc_ms (e:=3) Qj v10 rfl (fun _=>rfl) kr))) (re 3 (Qk zf)))⟩))))))))))))))
def YX (x:((List Qb) × ByteArray × (List (ByteArray × Int)) × (List Qb))):Option ((Int × Bool)) :=
 match x with
 | (q0,q1,q2,q3) =>
 some (lookS q2 q1)>>=fun ((v1,v2):(Int × Bool)) =>
 some (v1,v2)
theorem Qdp {q0 q1 q2 q3 v5001 v5002} (hm:YX (q0,q1,q2,q3)=some (v5001,v5002)):PC prog env 40 [(.agg [(Qet q0),(.mapv 0)]),(.dat (strD q1))] [(.map (smE q2)),(.tok 39 q3.length),(ZV q3),(.tok 39 (([]:List Qb).length)),(ZV q0),(.box [Ea,Ea])] (.tup [(Qe v5001),(Qo v5002)]) [(.map (smE q2)),(.tok 39 q3.length),(ZV q3),(.tok 39 (([]:List Qb).length)),(ZV q0),(.box [Ea,Ea]),(ZV q0)]:=by
 unfold YX at hm
 exact PC_sxB (fn:=f40) rfl (ge 3 (gr 3 (bi2 hm fun v1 v2 hx hm=>QT (v:=.tup [Qe v1,Qo v2]) rfl (fun _=>Qf8 (i:=0) (kt:=9) (e:=3) (l:=q2) (s:=q1) hx kr kr kr rfl kr kr kr) (re 5 (ge 4 (Qk zf))))))
def Xb (x:(ByteArray × (List (ByteArray × Int)) × (List Qb) × (List Qb))):Option (((List Int) × (List Int) × Bool)) :=
 match x with
 | (q0,q1,q2,q3) =>
 YX (q3,q0,q1,q2)>>=fun (v1,v2) =>
 if v2=false then
  some (([]:List Int),([]:List Int),false)
 else
 idx q3 v1>>=fun v3 =>
 some (v3.value.shape,v3.value.data,true)
theorem QdD {q0 q1 q2 q3 v5001 v5002 v5003} (hm:Xb (q0,q1,q2,q3)=some (v5001,v5002,v5003)):PCX prog env 102 [(.ptr 4 0),(.dat (strD q0))] (QaS q1 q2.length q2 q3) (.tup [(.dat (.agg [(Lb v5001),(Lb v5002)])),(Qo v5003)]) (QaS q1 q2.length q2 q3):=by
 unfold Xb at hm
 exact PCX_sxB (fn:=f102) rfl (ge 2 (Qg (ge 2 (Xt kr (Qi (gr 5 (bi2 hm fun v1 v2 hx hm=>Za (Qdp hx) (re 5 (Qg (ge 2 (rin hm (fun hm=>ge 3 (Qk zf)) (fun hm=>Qi (gr 6 (Zj 3 Qb.toD hm fun v3 hm=>re 4 (Qk zf)))))))))))))))
def ZA (x:(ByteArray × (List (ByteArray × Int)) × (List Qb) × (List Qb))):Option (((List Int) × (List Int) × Bool)) :=
 match x with
 | (q0,q1,q2,q3) =>
 Xb (q0,q1,q2,q3)>>=fun (v1,v2,v3) =>
 if v3=false then
  some (v1,v2,false)
 else
 XI (⟨v1,v2⟩:Qq)>>=fun v4 =>
 some (v4.shape,v4.data,true)
theorem Qce {q0 q1 q2 q3 v5001 v5002 v5003} (hm:ZA (q0,q1,q2,q3)=some (v5001,v5002,v5003)):PCX prog env 70 [(.ptr 4 0),(.dat (strD q0))] (QaS q1 q2.length q2 q3) (.tup [(.dat (.agg [(Lb v5001),(Lb v5002)])),(Qo v5003)]) (QaS q1 q2.length q2 q3):=by
 unfold ZA at hm
 exact PCX_sxB (fn:=f70) rfl (ge 2 (gr 2 (bi3 hm fun v1 v2 v3 hx hm=>QbN (n:=5) (QdD hx) (re 6 (Qg (ge 2 (rin hm (fun hm=>ge 3 (Qk zf)) (fun hm=>Qi (gr 1 (bi hm fun v4 hx hm=>cp (QeB hx) (re 2 (Qk zf))))))))) (hi:=und_hi 0) (hq:=und_hq 0))))
def ZO (x:(Int × Int × Int × ByteArray × (List Int) × (List Qa) × (List (ByteArray × Int)) × (List Qb) × (List Qb) × (List Ql))):Option (((List Ql) × Int × (List Int) × Int × Int)) :=
 match x with
 | (q0,q1,q2,q3,q4,q5,q6,q7,q8,q9) =>
 if q0=1 then
  Qan q4>>=fun v1 =>
  (if (q4.length:Int)=1 then
   idx q4 0>>=fun v4 =>
   Qam v4>>=fun v5 =>
   some (v5.shape,v5.data)
  else
  some (v1.shape,v1.data)
  )>>=fun ((v2,v3):((List Int) × (List Int))) =>
  Xe (⟨v2,v3⟩:Qq)>>=fun v6 =>
  if v6≠0 then
   some (q9,0,([]:List Int),0,v6)
  else
  Zy (ByteArray.empty,v2,v3,q6,q7,q8,q9)>>=fun (v7,v8,v9) =>
  some (v7,1,v8,v9,0)
 else
 ZA (q3,q6,q7,q8)>>=fun (v10,v11,v12) =>
 if v12=false then
  some (q9,0,([]:List Int),0,2)
 else
 Zy (q3,v10,v11,q6,q7,q8,q9)>>=fun (v13,v14,v15) =>
 some (v13,1,v14,v15,0)
theorem Qdg {q0 q1 q2 q3 q4 q5 q6 q7 q8 q9 v5001 v5002 v5003 v5004 v5005} (hm:ZO (q0,q1,q2,q3,q4,q5,q6,q7,q8,q9)=some (v5001,v5002,v5003,v5004,v5005)):PCX prog env 46 [(.ptr 7 0),(QbW q0 q1 q2 q3 q4 q5)] (QaR q6 q7.length q7 q8 q9.length q9) (.tup [(Qhf v5002 v5003 v5004),(Qe v5005)]) (QaR q6 q7.length q7 q8 v5001.length v5001):=by
 unfold ZO at hm
 exact PCX_sxB (fn:=f46) rfl (ge 3 (Qg (ge 3 (riq hm (fun hm=>gr 2 (bi hm fun v1 hx hm=>cp (Qfo hx) (re 2 (Qg (gr 2 (QZ Qj q4 (re 1 (bi2 hm fun v2 v3 hs hm=>Ze (fun d=>⟨sl d 54 [(0,(.ptr 7 0)),(4,(.ptr 8 0)),(6,(.ptr 9 0))],[(.map (smE q6)),(.tok 39 q7.length),(ZV q7),(.tok 39 (([]:List Qb).length)),(ZV q8),QeA,(.tok 69 q9.length),(Qeq q9),Qfk,(Qak v2 v3)]⟩) (have hm:=hs;riq hm (fun hm=>R_G (Qh 2 (Zj 1 Qj hm fun v4 hm=>Qh 1 (bi hm fun v5 hx hm=>cp (Qfn hx) (re 1 zf))))) (fun hm=>Qi zf)) (fun d=>Qg (gr 1 (bi hm fun v6 hx hm=>cp (Qd8 hx) (re 1 (ge 2 (rix hm (fun hm=>ge 4 (Qk zf)) (fun hm=>Qi (gr 3 (bi3 hm fun v7 v8 v9 hx hm=>QbN (n:=8) (Qbn hx) (re 2 (Qk zf)) (hi:=und_hi 0) (hq:=und_hq 0)))))))))))))))))) (fun hm=>Qi (Qg (X0 (Qh 6 (bi3 hm fun v10 v11 v12 hx hm=>QgM (n:=5) (Qce hx) (re 6 ⟨kr,Qg (ge 2 (rin hm (fun hm=>ge 3 (Qk zf)) (fun hm=>Qi (gr 5 (bi3 hm fun v13 v14 v15 hx hm=>QbN (n:=8) (Qbn hx) (re 2 (Qk zf)) (hi:=und_hi 0) (hq:=und_hq 0))))))⟩) (hi:=und_hi 0))))))))))
def J2 (x:(Int × (List Int))):Option (Int × Int) :=
 match x with
 | (p0,p1) =>
 if p0=(-1) then
  some ((W ((p1.length:Int) - 1)),0)
 else
 if p0≥(p1.length:Int) then
  some (0,4)
 else
 some (p0,0)
theorem Qef {p0 p1 r0 r1} (hm:J2 (p0,p1)=some (r0,r1)):FQ 103 [(Qj p0),(Lb p1)] (.tup [(Qe r0),(Qe r1)]):=by
 unfold J2 at hm
 exact fp (fn:=f103) rfl (ge 2 (Qg (Qp (ge 3 (riq hm (fun hm=>gr 1 (QZ Qj p1 (re 3 (Qk zf)))) (fun hm=>gr 2 (QZ Qj p1 (re 2 (ri hm (fun hm=>ge 2 (Qk zf)) (fun hm=>Qi (ge 3 (Qk zf))))))))))))
def ZB (x:Int):Option (Qt × Int) :=
 match x with
 | p0 =>
 some ((⟨([]:(List Int)),([]:(List Int)),([]:(List Int)),([]:(List Int)),0,0,([]:(List Int))⟩:Qt),p0)
theorem Z2 {p0 r0 r1} (hm:ZB p0=some (r0,r1)):FQ 104 [(Qj p0)] (.tup [(.dat (Qt.toD r0)),(Qe r1)]):=by
 unfold ZB at hm
 exact fp (fn:=f104) rfl (ge 2 (ge 4 (Qk zf)))
def Xg (x:(Int × Int)):Option (Int × Int) :=
 match x with
 | (p0,p1) =>
 some (p0,p1)
theorem Qdt {p0 p1 v5001 v5002} (hm:Xg (p0,p1)=some (v5001,v5002)):FQ 106 [(Qj p0),(Qj p1)] (.fn 127 [(.iptr [(Qj v5001)]),(.iptr [(Qj v5002)])]):=by
 unfold Xg at hm
 exact fp (fn:=f106) rfl (ge 3 (ge 2 (Qk zf)))
def Qav (x:(Int × Int × (List Int) × (List Int))):Option (Unit) :=
 match x with
 | (q0,q1,q2,q3) =>
 some ()
theorem QdX {q0 q1 q2 q3} (hm:Qav (q0,q1,q2,q3)=some ()):PC prog env 127 [(.ptr 5 0),(.iptr [(Qj q0)]),(.iptr [(Qj q1)])] (Qfd q0 q1 q2 q3 q2.length q3.length) (.tup []) (Qfj q0 q1 q2 q3 q2.length q3.length):=by
 unfold Qav at hm
 exact PC_sxB (fn:=f127) rfl (X0 (re 10 ⟨kr,zf⟩))
def Je (x:((List Int) × Int × Int)):Option (Int ⊕ ((List Int) × (List Int))) :=
 match x with
 | (q0,q1,q2) =>
 Zo q0>>=fun v1 =>
 if v1≠0 then
  some (Sum.inl v1)
 else
 Qy q0>>=fun v2 =>
 Qy q0>>=fun v3 =>
 Qav (q1,q2,v2,v3)>>=fun _ =>
 some (Sum.inr (v2,v3))
theorem QcR {q0 q1 q2 r} (hm:Je (q0,q1,q2)=some r):PC prog env 105 [(La q0),(La q0),(.arr 1 0 1 1)] [Qv,(QaT q1 q2)] (match r with|.inl v5001=>(.tup [Qbo,(Qe v5001)])|.inr ((v5002,v5003))=>(.tup [(.agg [Ea,(.ms 3 1 0 v5002.length v5002.length),(.ms 4 1 0 v5003.length v5003.length),Ea,(Qe q1),(Qe q2),Ea]),(Qe 0)])) (match r with|.inl v5001=>[Qv,(QaT q1 q2),Qv]|.inr ((v5002,v5003))=>[Qv,(QaT q1 q2),(Qe7 v5002.length v5003.length q1 q2),(QH v5002),(QH v5003),(Qe7 v5002.length v5003.length q1 q2)]):=by
 unfold Je at hm
 exact PC_sxB (fn:=f105) rfl (ge 2 (Qg (gr 1 (bi hm fun v1 hx hm=>cp (Z3 hx) (re 1 (ge 2 (rix hm (fun hm=>ge 4 (Qk zf)) (fun hm=>Qi (gr 1 (bi hm fun v2 hx hm=>go 3 3 Qj (QD hx) (Qh 1 (bi hm fun v3 hx hm=>go 4 3 Qj (QD hx) (re 3 (Qg (gr 1 (Qh 1 (re 1 (Qp (Qb5 (RL_at (st':=⟨kp 33 [(6,(.ptr 2 0)),(9,(.ptr 5 0)),(23,(.arr 1 0 1 1)),(24,(Qe 1)),(25,(Qe 0))],(Qfd q1 q2 v2 v3 v2.length v3.length)⟩) (prune_of2 (Qfd q1 q2 v2 v3 v2.length v3.length) (fun _=>(pg_cons kr (pg_cons kr (pg_cons kr (pg_cons (purge_mt Qj _ _ _ _ _) (pg_cons (purge_mt Qj _ _ _ _ _) (pg_cons kr pg_nil))))))) rfl) (ge 1 (Qg (Qaj kr (Qi (Qg (Qp (gr 1 (re 2 (R_G (Qh 1 (bi hm fun _ hx hm=>Za (QdX hx) (Y9 (R_G (re 2 (RL_at (st':=⟨kp 33 [(6,(.ptr 2 0)),(9,(.ptr 5 0)),(23,(.arr 1 0 1 1)),(24,(Qe 1)),(25,(Qe 1))],(Qfj q1 q2 v2 v3 v2.length v3.length)⟩) (prune_of2 (Qfj q1 q2 v2 v3 v2.length v3.length) (fun _=>(pg_cons kr (pg_cons kr (pg_cons kr (pg_cons (purge_mt Qj _ _ _ _ _) (pg_cons (purge_mt Qj _ _ _ _ _) (pg_cons kr pg_nil))))))) rfl) (ge 1 (Qg (Xt kr (QO (ge 3 (Qk zf)))))))))))))))))))))))))))))))))))))))))
def Qat (x:(Int × (List Int))):Option (Qt × Int) :=
 match x with
 | (p0,p1) =>
 J2 (p0,p1)>>=fun (v1,v2) =>
 if v2≠0 then
  ZB v2>>=fun (v3,v4) =>
  some (v3,v4)
 else
 Xg (v1,0)>>=fun (v5,v6) =>
 (
 Je (p1,v5,v6)>>=fun out =>
 match out with
 | .inl v7 =>
  some ((⟨([]:(List Int)),([]:(List Int)),([]:(List Int)),([]:(List Int)),0,0,([]:(List Int))⟩:Qt),v7)
 | .inr ((v8,v9)) =>
  some ((⟨([]:(List Int)),v8,v9,([]:(List Int)),v5,v6,([]:(List Int))⟩:Qt),0)
 )
theorem Qfv {p0 p1 r0 r1} (hm:Qat (p0,p1)=some (r0,r1)):FQ 71 [(Qj p0),(Lb p1)] (.tup [(.dat (Qt.toD r0)),(Qe r1)]):=by
 unfold Qat at hm
 exact fp (fn:=f71) rfl (ge 2 (gr 2 (bi2 hm fun v1 v2 hx hm=>cp (Qef hx) (re 5 (Qg (ge 2 (rix hm (fun hm=>gr 1 (bi2 hm fun v3 v4 hx hm=>cp (Z2 hx) (re 4 (Qk zf)))) (fun hm=>Qi (gr 3 (bi2 hm fun v5 v6 hx hm=>cp (Qdt hx) (Qh 1 (bs hm (fun v7 hx hm=>Za (QcR hx) (re 4 (Qk zf))) fun ⟨v8,v9⟩ hx hm=>Za (QcR hx) (re 4 (Qk (by obtain ⟨rfl,rfl⟩:=QeV hm; exact ⟨trivial,Xu [(.agg [Ea,(.ms 3 1 0 v8.length v8.length),(.ms 4 1 0 v9.length v9.length),Ea,(Qe v5),(Qe v6),Ea]),(Qe 0)] kr (po_tup (ps_cons (p1_agg (pc_cons kr (pc_cons (pc_ms (e:=3) Qj v8 rfl (fun _=>rfl) kr) (pc_cons (pc_ms (e:=3) Qj v9 rfl (fun _=>rfl) kr) (pc_cons kr (pc_cons kr (pc_cons kr (pc_cons kr pc_nil)))))))) (ps_cons kr ps_nil)))⟩)))))))))))))))
def JX (x:(Int × Qt × Qc)):Option Qc :=
 match x with
 | (p0,p1,p2) =>
 if p1.axis=(-1) then
  some p2
 else
 some (⟨p0,p1.shape,0,([]:(List Int)),p1.axis,p1.amount,([]:(List Int)),([(⟨p2.kind,p2.shape,p2.buffer,p2.starts,p2.axis,p2.amount,p2.perm,p2.kids⟩:Qc)]:(List Qc))⟩:Qc)
theorem Qd9 {p0 p1 p2 r0} (hm:JX (p0,p1,p2)=some r0):FQ 72 [(Qj p0),(Qt.toD p1),(Qc.ex p2)] (.dat (Qc.ex r0)):=by
 unfold JX at hm
 exact fp (fn:=f72) rfl (ge 3 (Qg (ge 3 (riq hm (fun hm=>ge 2 (Qk zf)) (fun hm=>Qi (ge 11 (Qk zf)))))))
def XA (x:((List Int) × Nat × (List Int) × (List Int) × (List Int))):Option (Unit) :=
 match x with
 | (q0,q1,q2,q3,q4) =>
 some ()
theorem Qdj {q0 q1 q2 q3 q4} (hm:XA (q0,q1,q2,q3,q4)=some ()):PC prog env 128 [(.ptr 7 0),(.ptr 0 0)] (Qfl q0 q1 q2 q3 q4 q3.length q4.length) (.tup []) (Qe2 q0 q1 q2 q3 q4 q3.length q4.length):=by
 unfold XA at hm
 exact PC_sxB (fn:=f128) rfl (R_G (re 5 zf))
def J7 (x:((List Int) × Nat × (List Int) × Nat × (List Int))):Option (Int ⊕ ((List Int) × (List Int))) :=
 match x with
 | (q0,q1,q2,q3,q4) =>
 Xc (q2.length=q3)>>=fun _ =>
 Zo q2>>=fun v2 =>
 if v2≠0 then
  some (Sum.inl v2)
 else
 Qy q0>>=fun v3 =>
 Xc (q2.length=q3)>>=fun _ =>
 Qy q2>>=fun v5 =>
 XA (q4,q1,q2,v3,v5)>>=fun _ =>
 some (Sum.inr (v3,v5))
theorem QcS {q0 q1 q2 q3 q4 r} (hm:J7 (q0,q1,q2,q3,q4)=some r):PC prog env 105 [(La q0),(.ms 2 q1 0 q3 q3),(.arr 3 0 1 1)] [(.box [(La q4)]),Qv,(Qcr q1 q2),QdN] (match r with|.inl v5001=>(.tup [Qbo,(Qe v5001)])|.inr ((v5002,v5003))=>(.tup [(.agg [Ea,(.ms 5 1 0 v5002.length v5002.length),(.ms 6 1 0 v5003.length v5003.length),Ea,(Qe (-1)),(Qe 0),(La q4)]),(Qe 0)])) (match r with|.inl v5001=>[(.box [(La q4)]),Qv,(Qcr q1 q2),QdN,Qv]|.inr ((v5002,v5003))=>[(.box [(La q4)]),Qv,(Qcr q1 q2),QdN,(Qff v5002.length v5003.length q4),(QH v5002),(QH v5003),(Qff v5002.length v5003.length q4)]):=by
 unfold J7 at hm
 exact PC_sxB (fn:=f105) rfl (ge 2 (Qg (gr 1 (gi hm fun hl1 hm=>bi hm fun v2 hx hm=>QgL (args:=[(.ms 2 q1 0 q3 q3)]) (Z3 hx []) (ps_cons (p1_ms (pc_ms (e:=3) Qj q2 hl1 (fun _=>rfl) kr)) ps_nil) (re 1 (ge 2 (rix hm (fun hm=>ge 4 (Qk zf)) (fun hm=>Qi (gr 1 (bi hm fun v3 hx hm=>go 5 3 Qj (QD hx) (Qh 1 (gi hm fun hl4 hm=>bi hm fun v5 hx hm=>gol 6 3 Qj (args:=[(.ms 2 q1 0 q3 q3)]) (QD hx) (Qa8 kr) (ps_cons (p1_ms (pc_ms (e:=3) Qj q2 hl4 (fun _=>rfl) kr)) ps_nil) (plain_or (cellsOf_plain (fun _=>rfl) _)) (re 3 (Qg (gr 1 (Qh 1 (re 1 (Qp (Qb5 (RL_at (st':=⟨kp 33 [(6,(.ptr 4 0)),(9,(.ptr 7 0)),(23,(.arr 3 0 1 1)),(24,(Qe 1)),(25,(Qe 0))],(Qfl q4 q1 q2 v3 v5 v3.length v5.length)⟩) (prune_of2 (Qfl q4 q1 q2 v3 v5 v3.length v5.length) (fun _=>(pg_cons kr (pg_cons kr (pg_cons (purge_mt Qj _ _ _ _ _) (pg_cons kr (pg_cons kr (pg_cons (purge_mt Qj _ _ _ _ _) (pg_cons (purge_mt Qj _ _ _ _ _) (pg_cons kr pg_nil))))))))) rfl) (ge 1 (Qg (Qaj kr (Qi (Qg (Qp (gr 1 (re 2 (R_G (Qh 1 (bi hm fun _ hx hm=>Za (Qdj hx) (Y9 (R_G (re 2 (RL_at (st':=⟨kp 33 [(6,(.ptr 4 0)),(9,(.ptr 7 0)),(23,(.arr 3 0 1 1)),(24,(Qe 1)),(25,(Qe 1))],(Qe2 q4 q1 q2 v3 v5 v3.length v5.length)⟩) (prune_of2 (Qe2 q4 q1 q2 v3 v5 v3.length v5.length) (fun _=>(pg_cons kr (pg_cons kr (pg_cons (purge_mt Qj _ _ _ _ _) (pg_cons kr (pg_cons kr (pg_cons (purge_mt Qj _ _ _ _ _) (pg_cons (purge_mt Qj _ _ _ _ _) (pg_cons kr pg_nil))))))))) rfl) (ge 1 (Qg (Xt kr (QO (ge 3 (Qk zf)))))))))))))))))))))))))))))))))))))))))
def Yf (x:(Int × (List Int) × Int × (List Int) × Nat × (List Int) × Nat)):Option ((Nat × (List Int) × Nat)) :=
 match x with
 | (v604,p1,v204,p0,v805,v806,v807) =>
 if (v807:Int)≤v604 then
  Xc (v806.length=v807)>>=fun _ =>
  app 8 v806 ([65536]:List Int)>>=fun v1209 =>
  Yf (v604,p1,v204,p0,(gb v805 ([65536]:List Int).isEmpty),v1209,v1209.length)
 else
 some (v805,v806,v807)
 partial_fixpoint
theorem Qbj:∀ x r,Yf x=some r→match x with|(v604,p1,v204,p0,v805,v806,v807)=>LQ f107 107 [1,1,0,1,0,0,1,1,0,0,1,0,0,0] 3 ⟨kp 43 [(1,(La p1)),(2,(.ptr 0 0)),(4,(.ptr 1 0)),(6,(.ms 2 v805 0 v807 v807)),(7,(Qe v204)),(8,(Qe v604)),(9,(La p0)),(10,(Qe (p0.length:Int))),(11,(Qe v204))],(Qdb p0 v805 v806)⟩ (P1 (.exit 2) (fun (v1205,v1206,v1207) d=>⟨sl d 43 [(1,(La p1)),(2,(.ptr 0 0)),(4,(.ptr 1 0)),(6,(.ms 2 v1205 0 v1207 v1207)),(7,(Qe v204)),(8,(Qe v604)),(9,(La p0)),(10,(Qe (p0.length:Int))),(11,(Qe v204))],(Qdb p0 v1205 v1206)⟩) r):=by
 refine Yf.partial_correctness _ (fun Yf Qbj x r hm=>?_)
 obtain ⟨v604,p1,v204,p0,v805,v806,v807⟩:=x
 exact lp (Qg (gr 1 (Qh 1 (re 2 (ri hm (fun hm=>Qi (Qp (R_G (Qh 2 (gi hm fun hl1208 hm=>bi hm fun v1209 hx hm=>Jk (v:=.ms 2 (gb v805 ([65536]:List Int).isEmpty) 0 v1209.length v1209.length) (fun H=>H.set 2 (.mt 3 (gb v805 ([65536]:List Int).isEmpty) (cellsOf Qj v1209))) rfl kr (fun _ hk=>Qgv Qj (l:=v806) (es:=([65536]:List Int)) (bytes:=8) (e:=3) (tt:=2) (g:=v805) (m:=v807) hx (fun _=>rfl) kr kr kr kr rfl rfl kr hl1208 kr kr hk) (re 1 (Qbj _ _ hm _ (prune_of2 [(.box [(La p0)]),Qv,(.mt 3 (gb v805 ([65536]:List Int).isEmpty) (cellsOf Qj v1209))] (fun _=>(pg_cons kr (pg_cons kr (pg_cons (purge_mt Qj _ _ _ _ _) pg_nil)))) rfl)))))))) (fun hm=>QO zf))))))
def ZS (x:((List Int) × (List Int) × Nat × (List Int) × Nat × Int)):Option ((Nat × (List Int) × Nat)) :=
 match x with
 | (p0,p1,v201,v202,v203,v204) =>
 if v204 < (p0.length:Int) then
  idx p0 v204>>=fun v604 =>
  Yf (v604,p1,v204,p0,v201,v202,v203)>>=fun (v1205,v1206,v1207) =>
  Xc (v1206.length=v1207)>>=fun _ =>
  idx v1206 v604>>=fun v1210 =>
  idx v1206 v604>>=fun v1212 =>
  idx p1 v204>>=fun v1213 =>
  Xc (v1206.length=v1207)>>=fun _ =>
  idx v1206 v604>>=fun v1214 =>
  setM v1206 v604 (if v1213 < v1212 then v1213 else v1212)>>=fun v1216 =>
  ZS (p0,p1,v1205,v1216,v1207,(W (v204+1)))
 else
 some (v201,v202,v203)
 partial_fixpoint
theorem Qbi:∀ x r,ZS x=some r→match x with|(p0,p1,v201,v202,v203,v204)=>LQ f107 107 [1,1,0,1,0,0] 3 ⟨kp 43 [(1,(La p1)),(2,(.ptr 0 0)),(4,(.ptr 1 0)),(6,(.ms 2 v201 0 v203 v203)),(9,(La p0)),(10,(Qe (p0.length:Int))),(11,(Qe v204))],(Qdb p0 v201 v202)⟩ (P1 (.exit 0) (fun (v601,v602,v603) d=>⟨sl d 43 [(1,(La p1)),(2,(.ptr 0 0)),(4,(.ptr 1 0)),(6,(.ms 2 v601 0 v603 v603))],(Qdb p0 v601 v602)⟩) r):=by
 refine ZS.partial_correctness _ (fun ZS Qbi x r hm=>?_)
 obtain ⟨p0,p1,v201,v202,v203,v204⟩:=x
 exact lp (ge 1 (Qg (ri hm (fun hm=>Qi (Qg (Qp (gr 1 (Zj 1 Qj hm fun v604 hm=>re 3 (Qg (Qp (ru1 hm (Qbj _) (fun ⟨v1205,v1206,v1207⟩ d hm=>X0 (Qh 4 (gi hm fun hl1211 hm=>bi hm fun v1210 hx hm=>QT rfl (fun _=>QeL (e:=3) (n:=v604) (j:=(v604).toNat) (tt:=2) (g:=v1205) (lo:=0) (len:=v1207) (cap:=v1207) (k:=.i64) kr kr rfl kr kr (idx_nat hx) (Nat.lt_of_lt_of_eq (idx_lt hx) hl1211)) (bi hm fun v1212 hx hm=>QT rfl (fun _=>Qg1 (tt:=2) (g:=v1205) (j:=(0+(v604).toNat)) (e:=3) (cs:=cellsOf Qj v1206) (v:=.dat (Qj v1212)) kr kr rfl kr (Qa8 kr) (cells_idx Qj hx)) (Qh 2 (Zj 1 Qj hm fun v1213 hm=>Qh 1 (QT rfl (fun _=>Qg4 (k:=.i64) (m:=v1212) (n:=v1213) rfl kr kr) (gi hm fun hl1215 hm=>bi hm fun v1214 hx hm=>QT rfl (fun _=>QeL (e:=3) (n:=v604) (j:=(v604).toNat) (tt:=2) (g:=v1205) (lo:=0) (len:=v1207) (cap:=v1207) (k:=.i64) kr kr rfl kr kr (idx_nat hx) (Nat.lt_of_lt_of_eq (idx_lt hx) hl1215)) (bi hm fun v1216 hx hm=>Jk (fun H=>H.set 2 (Qcr v1205 v1216)) rfl kr (fun _=>Qg7 Qj (l:=v1206) (n:=v604) (y:=(if v1213 < v1212 then v1213 else v1212)) hx (fun _=>rfl) kr rfl kr kr kr kr) (Y9 ⟨kr,R_G (re 2 (Qbi _ _ hm _ (prune_of2 (Qdb p0 v1205 v1216) (fun _=>(pg_cons kr (pg_cons kr (pg_cons (purge_mt Qj _ _ _ _ _) pg_nil)))) rfl)))⟩)))))))))) (hst:=(prune_of2 (Qdb p0 v201 v202) (fun _=>(pg_cons kr (pg_cons kr (pg_cons (purge_mt Qj _ _ _ _ _) pg_nil)))) rfl)))))))))) (fun hm=>QO zf))))
def X6 (x:((List Int) × (List Int))):Option (Qt × Int) :=
 match x with
 | (p0,p1) =>
 ZS (p0,p1,0,([]:List Int),([]:List Int).length,0)>>=fun (v601,v602,v603) =>
 (
 J7 (p1,v601,v602,v603,p0)>>=fun out =>
 match out with
 | .inl v1217 =>
  some ((⟨([]:(List Int)),([]:(List Int)),([]:(List Int)),([]:(List Int)),0,0,([]:(List Int))⟩:Qt),v1217)
 | .inr ((v1218,v1219)) =>
  some ((⟨([]:(List Int)),v1218,v1219,([]:(List Int)),(-1),0,p0⟩:Qt),0)
 )
theorem QdB {p0 p1 r0 r1} (hm:X6 (p0,p1)=some (r0,r1)):FQ 107 [(Lb p0),(Lb p1)] (.tup [(.dat (Qt.toD r0)),(Qe r1)]):=by
 unfold X6 at hm
 exact fp (fn:=f107) rfl (ge 3 (ge 1 (Qg (gr 1 (QZ Qj p0 (re 1 (Qp (ru1 hm (Qbi _) (fun ⟨v601,v602,v603⟩ d hm=>gr 4 (bs hm (fun v1217 hx hm=>Za (QcS hx) (re 4 (Qk zf))) fun ⟨v1218,v1219⟩ hx hm=>Za (QcS hx) (re 4 (Qk (by obtain ⟨rfl,rfl⟩:=QeV hm; exact ⟨trivial,Xu [(.agg [Ea,(.ms 5 1 0 v1218.length v1218.length),(.ms 6 1 0 v1219.length v1219.length),Ea,(Qe (-1)),(Qe 0),(La p0)]),(Qe 0)] kr (po_tup (ps_cons (p1_agg (pc_cons kr (pc_cons (pc_ms (e:=3) Qj v1218 rfl (fun _=>rfl) kr) (pc_cons (pc_ms (e:=3) Qj v1219 rfl (fun _=>rfl) kr) (pc_cons kr (pc_cons kr (pc_cons kr (pc_cons kr pc_nil)))))))) (ps_cons kr ps_nil)))⟩))))) (hst:=(prune_of2 [(.box [(La p0)]),Qv,(.mt 3 0 (cellsOf Qj ([]:List Int)))] (fun _=>(pg_cons kr (pg_cons kr (pg_cons (purge_mt Qj _ _ _ _ _) pg_nil)))) rfl))))))))))
def Xo (x:((List Int) × (List Int) × Int)):Option ((List Int)) :=
 match x with
 | (p0,v201,v202) =>
 if v202 < (p0.length:Int) then
  app 8 v201 ([(W ((W ((p0.length:Int) - 1)) - v202))]:List Int)>>=fun v602 =>
  Xo (p0,v602,(W (v202+1)))
 else
 some v201
 partial_fixpoint
theorem QcB:∀ x r,Xo x=some r→match x with|(p0,v201,v202)=>LQ f73 73 [1,1,0,1,0,0] 2 ⟨kp 25 [(0,(La p0)),(2,(.ptr 0 0)),(4,(Xl v201)),(7,(Qe (p0.length:Int))),(8,(Qe v202))],[Qv,(.tok 3 v201.length)]⟩ (P1 (.exit 0) (fun v601 d=>⟨sl d 25 [(0,(La p0)),(2,(.ptr 0 0)),(4,(Xl v601))],[Qv,(.tok 3 v601.length)]⟩) r):=by
 refine Xo.partial_correctness _ (fun Xo QcB x r hm=>?_)
 obtain ⟨p0,v201,v202⟩:=x
 exact lp (ge 1 (Qg (ri hm (fun hm=>Qi (Qg (Qp (ge 2 (R_G (Qh 2 (QZ Qj p0 (Qh 4 (bi hm fun v602 hx hm=>Xk 3 1 8 1 Qj v201 ([(W ((W ((p0.length:Int) - 1)) - v202))]:List Int) v602 (xs:=(List.map Qj) v201) (es:=(List.map Qj) ([(W ((W ((p0.length:Int) - 1)) - v202))]:List Int)) (L:=(List.map Qj)) (fun _=>rfl) rfl rfl (fun _=>rfl) hx (re 1 (R_G (re 2 (QcB _ _ hm _ kr))))))))))))) (fun hm=>QO zf))))
def Qb1 (x:(List Int)):Option (Qt × Int) :=
 match x with
 | p0 =>
 Xo (p0,([]:List Int),0)>>=fun v601 =>
 X6 (v601,p0)>>=fun (v603,v604) =>
 some (v603,v604)
theorem Qgs {p0 r0 r1} (hm:Qb1 p0=some (r0,r1)):FQ 73 [(Lb p0)] (.tup [(.dat (Qt.toD r0)),(Qe r1)]):=by
 unfold Qb1 at hm
 exact fp (fn:=f73) rfl (ge 2 (ge 1 (Qg (gr 1 (QZ Qj p0 (re 1 (Qp (ru1 hm (QcB _) fun v601 d hm=>gr 2 (bi2 hm fun v603 v604 hx hm=>cp (QdB hx) (re 4 (Qk zf)))))))))))
def Xv (x:(Qt × Qc)):Option Qc :=
 match x with
 | (p0,p1) =>
 some (⟨5,p0.shape,0,([]:(List Int)),0,0,p0.perm,([(⟨p1.kind,p1.shape,p1.buffer,p1.starts,p1.axis,p1.amount,p1.perm,p1.kids⟩:Qc)]:(List Qc))⟩:Qc)
theorem QcP {p0 p1 r0} (hm:Xv (p0,p1)=some r0):FQ 74 [(Qt.toD p0),(Qc.ex p1)] (.dat (Qc.ex r0)):=by
 unfold Xv at hm
 exact fp (fn:=f74) rfl (ge 3 (ge 8 (Qk zf)))
def J8 (x:((List Int) × (List Int))):Option (Int ⊕ ((List Int) × (List Int))) :=
 match x with
 | (q0,q1) =>
 Zo q1>>=fun v1 =>
 if v1≠0 then
  some (Sum.inl v1)
 else
 Qy q0>>=fun v2 =>
 Qy q1>>=fun v3 =>
 some (Sum.inr (v2,v3))
theorem QcT {q0 q1 r} (hm:J8 (q0,q1)=some r):PC prog env 105 [(La q0),(La q1),(.dat (.lst []))] [Qv] (match r with|.inl v5001=>(.tup [Qbo,(Qe v5001)])|.inr ((v5002,v5003))=>(.tup [(.agg [Ea,(.ms 2 1 0 v5002.length v5002.length),(.ms 3 1 0 v5003.length v5003.length),Ea,(Qe (-1)),(Qe 0),Ea]),(Qe 0)])) (match r with|.inl v5001=>[Qv,Qv]|.inr ((v5002,v5003))=>[Qv,(Qez v5002.length v5003.length),(QH v5002),(QH v5003),(Qez v5002.length v5003.length)]):=by
 unfold J8 at hm
 exact PC_sxB (fn:=f105) rfl (ge 2 (Qg (gr 1 (bi hm fun v1 hx hm=>cp (Z3 hx) (re 1 (ge 2 (rix hm (fun hm=>ge 4 (Qk zf)) (fun hm=>Qi (gr 1 (bi hm fun v2 hx hm=>go 2 3 Qj (QD hx) (Qh 1 (bi hm fun v3 hx hm=>go 3 3 Qj (QD hx) (re 3 (Qg (gr 1 (Qh 1 (re 1 (Qp (Qb5 (RL_at (st':=⟨kp 33 [(6,(.ptr 1 0)),(9,(.ptr 4 0)),(23,(.dat (.lst []))),(24,(Qe 0)),(25,(Qe 0))],[Qv,Qv,(QH v2),(QH v3),(Qez v2.length v3.length)]⟩) (prune_of2 [Qv,Qv,(QH v2),(QH v3),(Qez v2.length v3.length)] (fun _=>(pg_cons kr (pg_cons kr (pg_cons (purge_mt Qj _ _ _ _ _) (pg_cons (purge_mt Qj _ _ _ _ _) (pg_cons kr pg_nil)))))) rfl) (ge 1 (Qg (Xt kr (QO (ge 3 (Qk zf))))))))))))))))))))))))))
def Qbx (x:(List Int)):Option (Qt × Int) :=
 match x with
 | p0 =>
 J3 p0>>=fun v1 =>
 (
 J8 (p0,([v1]:List Int))>>=fun out =>
 match out with
 | .inl v2 =>
  some ((⟨([]:(List Int)),([]:(List Int)),([]:(List Int)),([]:(List Int)),0,0,([]:(List Int))⟩:Qt),v2)
 | .inr ((v3,v4)) =>
  some ((⟨([]:(List Int)),v3,v4,([]:(List Int)),(-1),0,([]:(List Int))⟩:Qt),0)
 )
theorem QfX {p0 r0 r1} (hm:Qbx p0=some (r0,r1)):FQ 75 [(Lb p0)] (.tup [(.dat (Qt.toD r0)),(Qe r1)]):=by
 unfold Qbx at hm
 exact fp (fn:=f75) rfl (ge 2 (gr 2 (bi hm fun v1 hx hm=>cp (Qeg hx) (Qh 1 (bs hm (fun v2 hx hm=>Za (QcT hx) (re 4 (Qk zf))) fun ⟨v3,v4⟩ hx hm=>Za (QcT hx) (re 4 (Qk (by obtain ⟨rfl,rfl⟩:=QeV hm; exact ⟨trivial,Xu [(.agg [Ea,(.ms 2 1 0 v3.length v3.length),(.ms 3 1 0 v4.length v4.length),Ea,(Qe (-1)),(Qe 0),Ea]),(Qe 0)] kr (po_tup (ps_cons (p1_agg (pc_cons kr (pc_cons (pc_ms (e:=3) Qj v3 rfl (fun _=>rfl) kr) (pc_cons (pc_ms (e:=3) Qj v4 rfl (fun _=>rfl) kr) (pc_cons kr (pc_cons kr (pc_cons kr (pc_cons kr pc_nil)))))))) (ps_cons kr ps_nil)))⟩))))))))
def XD (x:(Qc × (List Int))):Option Qc :=
 match x with
 | (p0,p1) =>
 some (⟨6,p1,0,([]:(List Int)),0,0,([]:(List Int)),([(⟨p0.kind,p0.shape,p0.buffer,p0.starts,p0.axis,p0.amount,p0.perm,p0.kids⟩:Qc)]:(List Qc))⟩:Qc)
theorem Qb7 {p0 p1 r0} (hm:XD (p0,p1)=some r0):FQ 76 [(Qc.ex p0),(Lb p1)] (.dat (Qc.ex r0)):=by
 unfold XD at hm
 exact fp (fn:=f76) rfl (ge 2 (ge 5 (Qk zf)))
def Qbp (x:(Qa × Qc)):Option (Qc × Int) :=
 match x with
 | (p0,p1) =>
 if p0.fn=3 then
  Qat (p0.axis,p1.shape)>>=fun (v1,v2) =>
  JX (3,v1,p1)>>=fun v3 =>
  some (v3,v2)
 else
 if p0.fn=4 then
  Qb1 p1.shape>>=fun (v4,v5) =>
  Xv (v4,p1)>>=fun v6 =>
  some (v6,v5)
 else
 Qbx p1.shape>>=fun (v7,v8) =>
 XD ((⟨p1.kind,p1.shape,p1.buffer,p1.starts,p1.axis,p1.amount,p1.perm,p1.kids⟩:Qc),v7.shape)>>=fun v9 =>
 some (v9,v8)
theorem QfN {p0 p1 r0 r1} (hm:Qbp (p0,p1)=some (r0,r1)):FQ 47 [(Qa.ex p0),(Qc.ex p1)] (.tup [(.dat (Qc.ex r0)),(Qe r1)]):=by
 unfold Qbp at hm
 exact fp (fn:=f47) rfl (ge 4 (Qg (ge 2 (Qp (ge 2 (riq hm (fun hm=>gr 4 (bi2 hm fun v1 v2 hx hm=>cp (Qfv hx) (re 6 (gr 2 (bi hm fun v3 hx hm=>cp (Qd9 hx) (re 3 (Qk zf))))))) (fun hm=>ge 2 (riq hm (fun hm=>gr 2 (bi2 hm fun v4 v5 hx hm=>cp (Qgs hx) (re 6 (gr 2 (bi hm fun v6 hx hm=>cp (QcP hx) (re 3 (Qk zf))))))) (fun hm=>Qi (gr 2 (bi2 hm fun v7 v8 hx hm=>cp (QfX hx) (re 6 (gr 3 (bi hm fun v9 hx hm=>cp (Qb7 hx) (re 3 (Qk zf))))))))))))))))
def YE (x:Unit):Option (Unit) :=
 match x with
 | _ =>
 some ()
theorem Qek (hm:YE ()=some ()):PC prog env 48 [] [] (.mapv 0) [(.map [(.bool true,(.dat (.raw (.func (.func 77) #[] #[])))),(.bool false,(.dat (.raw (.func (.func 78) #[] #[]))))])]:=by
 unfold YE at hm
 exact PC_sxB (fn:=f48) rfl (ge 1 (gr 1 (Qh 1 (Qh 1 (re 2 (Qk zf))))))
def Qbm (x:Int):Option Int :=
 match x with
 | p0 =>
 some p0
theorem QeU {p0 v5001} (hm:Qbm p0=some v5001):FQ 166 [(Qj p0)] (.fn 173 [(.iptr [(Qj v5001)])]):=by
 unfold Qbm at hm
 exact fp (fn:=f166) rfl (ge 2 (ge 2 (Qk zf)))
def Y4 (x:Int):Option (Unit) :=
 match x with
 | q0 =>
 some ()
theorem Qcf {q0} (hm:Y4 q0=some ()):PC prog env 173 [(.iptr [(Qj q0)])] [] (La ([q0]:List Int)) []:=by
 unfold Y4 at hm
 exact PC_sxB (fn:=f173) rfl (ge 1 (ge 3 (Qk zf)))
def Xi (x:((List Int) × Int × Int)):Option (((List Int) × Int)) :=
 match x with
 | (q0,q1,q2) =>
 ((if q1 < 0 then
  some true
 else
 some (decide (q1 > (q0.length:Int)))
 )>>=fun (v2:Bool) =>
 if v2=true then
  some true
 else
 some (decide (q1 > q1))
 )>>=fun (v1:Bool) =>
 if v1=true then
  some (([]:List Int),4)
 else
 sub q0 0 q1>>=fun v3 =>
 Y4 q2>>=fun _ =>
 sub q0 q1 (q0.length:Int)>>=fun v4 =>
 Yb ([v3,([q2]:List Int),v4]:List (List Int))>>=fun v5 =>
 some (v5,0)
theorem Qc5 {q0 q1 q2 v5001 v5002} (hm:Xi (q0,q1,q2)=some (v5001,v5002)):PC prog env 165 [(La q0),(Qe q1),(Qe q1),(.fn 173 [(.iptr [(Qj q2)])])] [] (.tup [(La v5001),(Qe v5002)]) []:=by
 unfold Xi at hm
 exact PC_sxB (fn:=f165) rfl (ge 2 (Qg (Qg (bi hm fun v1 hs hm=>Ze (fun d=>⟨sl d 33 [(0,(La q0)),(1,(Qe q1)),(2,(Qe q1)),(3,(.fn 173 [(.iptr [(Qj q2)])])),(22,(Qo v1))],[]⟩) (have hm:=hs;Qc8 (Qh 3 (bi hm fun v2 hs hm=>Yu (j:=8) (fun d=>⟨sl d 33 [(0,(La q0)),(1,(Qe q1)),(2,(Qe q1)),(3,(.fn 173 [(.iptr [(Qj q2)])])),(17,(Qo v2))],[]⟩) (fun d=>Qh 1 (gsb 18 hm (fun hm=>re 4 ⟨kr,zf⟩) (fun hm=>re 4 ⟨kr,zf⟩))) (fun hJ=>gs 12 hs (fun hm=>Qh 5 zf) (fun hm=>Qh 2 (QZ Qj q0 (Qh 2 zf))))))) (fun d=>rib hm (fun hm=>ge 2 (Qk zf)) (fun hm=>Qi (Qg (X0 (Qh 2 (bi hm fun v3 hx hm=>QeZ 1 Qj q0 v3 0 q1 (es:=(List.map Qj) q0) (L:=(List.map Qj)) (a:=natI 0) (b:=natI q1) (fun _=>rfl) rfl (fun _=>by first|rfl|exact num_of_fit ((fun _=>rfl) _)) hx rfl (Or.inl rfl) (Qh 1 (bi hm fun _ hx hm=>Za (Qcf hx) (Qh 2 (bi hm fun v4 hx hm=>QeZ 1 Qj q0 v4 q1 (q0.length:Int) (es:=(List.map Qj) q0) (L:=(List.map Qj)) (a:=natI q1) (b:=some ((List.map Qj) q0).length) (fun _=>rfl) rfl (fun _=>by first|rfl|exact num_of_fit ((fun _=>rfl) _)) hx rfl (Or.inr ⟨rfl,rfl⟩) (Qh 1 (bi hm fun v5 hx hm=>YA (JE _ _ hx []) (re 2 ⟨kr,Qk zf⟩)))))))))))))))))
def Qay (x:((List Int) × Int × Int)):Option ((List Int) × Int) :=
 match x with
 | (p0,p1,p2) =>
 Qbm p2>>=fun v1 =>
 Xi (p0,p1,v1)>>=fun (v2,v3) =>
 some (v2,v3)
theorem Qfx {p0 p1 p2 r0 r1} (hm:Qay (p0,p1,p2)=some (r0,r1)):FQ 147 [(Lb p0),(Qj p1),(Qj p2)] (.tup [(La r0),(Qe r1)]):=by
 unfold Qay at hm
 exact fp (fn:=f147) rfl (ge 2 (gr 4 (bi hm fun v1 hx hm=>cp (QeU hx) (bi2 hm fun v2 v3 hx hm=>Za (Qc5 hx) (re 4 (Qk zf))))))
def Xj (x:((List Int) × Int × Int × Int)):Option (((List Int) × Int)) :=
 match x with
 | (q0,q1,q2,q3) =>
 ((if q1 < 0 then
  some true
 else
 some (decide (q2 > (q0.length:Int)))
 )>>=fun (v2:Bool) =>
 if v2=true then
  some true
 else
 some (decide (q1 > q2))
 )>>=fun (v1:Bool) =>
 if v1=true then
  some (([]:List Int),4)
 else
 sub q0 0 q1>>=fun v3 =>
 Y4 q3>>=fun _ =>
 sub q0 q2 (q0.length:Int)>>=fun v4 =>
 Yb ([v3,([q3]:List Int),v4]:List (List Int))>>=fun v5 =>
 some (v5,0)
theorem Qc6 {q0 q1 q2 q3 v5001 v5002} (hm:Xj (q0,q1,q2,q3)=some (v5001,v5002)):PC prog env 165 [(La q0),(Qe q1),(Qe q2),(.fn 173 [(.iptr [(Qj q3)])])] [] (.tup [(La v5001),(Qe v5002)]) []:=by
 unfold Xj at hm
 exact PC_sxB (fn:=f165) rfl (ge 2 (Qg (Qg (bi hm fun v1 hs hm=>Ze (fun d=>⟨sl d 33 [(0,(La q0)),(1,(Qe q1)),(2,(Qe q2)),(3,(.fn 173 [(.iptr [(Qj q3)])])),(22,(Qo v1))],[]⟩) (have hm:=hs;Qc8 (Qh 3 (bi hm fun v2 hs hm=>Yu (j:=8) (fun d=>⟨sl d 33 [(0,(La q0)),(1,(Qe q1)),(2,(Qe q2)),(3,(.fn 173 [(.iptr [(Qj q3)])])),(17,(Qo v2))],[]⟩) (fun d=>Qh 1 (gsb 18 hm (fun hm=>re 4 ⟨kr,zf⟩) (fun hm=>re 4 ⟨kr,zf⟩))) (fun hJ=>gs 12 hs (fun hm=>Qh 5 zf) (fun hm=>Qh 2 (QZ Qj q0 (Qh 2 zf))))))) (fun d=>rib hm (fun hm=>ge 2 (Qk zf)) (fun hm=>Qi (Qg (X0 (Qh 2 (bi hm fun v3 hx hm=>QeZ 1 Qj q0 v3 0 q1 (es:=(List.map Qj) q0) (L:=(List.map Qj)) (a:=natI 0) (b:=natI q1) (fun _=>rfl) rfl (fun _=>by first|rfl|exact num_of_fit ((fun _=>rfl) _)) hx rfl (Or.inl rfl) (Qh 1 (bi hm fun _ hx hm=>Za (Qcf hx) (Qh 2 (bi hm fun v4 hx hm=>QeZ 1 Qj q0 v4 q2 (q0.length:Int) (es:=(List.map Qj) q0) (L:=(List.map Qj)) (a:=natI q2) (b:=some ((List.map Qj) q0).length) (fun _=>rfl) rfl (fun _=>by first|rfl|exact num_of_fit ((fun _=>rfl) _)) hx rfl (Or.inr ⟨rfl,rfl⟩) (Qh 1 (bi hm fun v5 hx hm=>YA (JE _ _ hx []) (re 2 ⟨kr,Qk zf⟩)))))))))))))))))
def XF (x:((List Int) × Int × Int)):Option ((List Int) × Int) :=
 match x with
 | (p0,p1,p2) =>
 if p1≥(p0.length:Int) then
  some (([]:(List Int)),4)
 else
 Qbm p2>>=fun v1 =>
 Xj (p0,p1,(W (p1+1)),v1)>>=fun (v2,v3) =>
 some (v2,v3)
theorem QdC {p0 p1 p2 r0 r1} (hm:XF (p0,p1,p2)=some (r0,r1)):FQ 148 [(Lb p0),(Qj p1),(Qj p2)] (.tup [(La r0),(Qe r1)]):=by
 unfold XF at hm
 exact fp (fn:=f148) rfl (ge 2 (Qg (gr 2 (QZ Qj p0 (re 1 (ri hm (fun hm=>ge 2 (Qk zf)) (fun hm=>Qi (gr 5 (bi hm fun v1 hx hm=>cp (QeU hx) (bi2 hm fun v2 v3 hx hm=>Za (Qc6 hx) (re 4 (Qk zf))))))))))))
def Yg (x:((List Int) × (List Int) × Int × Int)):Option ((List Int) × Int) :=
 match x with
 | (p0,p1,p2,p3) =>
 if (p0.length:Int)=p2 then
  Qy p0>>=fun v1 =>
  some (v1,0)
 else
 if (p0.length:Int)=(W (p2 - 1)) then
  Qay (p0,p3,1)>>=fun (v2,v3) =>
  some (v2,v3)
 else
 if (p0.length:Int)=0 then
  XF (p1,p3,1)>>=fun (v4,v5) =>
  some (v4,v5)
 else
 some (([]:(List Int)),4)
theorem QdY {p0 p1 p2 p3 r0 r1} (hm:Yg (p0,p1,p2,p3)=some (r0,r1)):FQ 129 [(Lb p0),(Lb p1),(Qj p2),(Qj p3)] (.tup [(La r0),(Qe r1)]):=by
 unfold Yg at hm
 exact fp (fn:=f129) rfl (ge 2 (Qg (gr 1 (QZ Qj p0 (Y9 (Qp (ge 3 (riq hm (fun hm=>gr 1 (bi hm fun v1 hx hm=>go 0 3 Qj (QD hx) (re 2 (Qk (by obtain ⟨rfl,rfl⟩:=QeV hm; exact ⟨trivial,Xu [(.ms 0 1 0 v1.length v1.length),(Qe 0)] kr (po_tup (ps_cons (p1_ms (pc_ms (e:=3) Qj v1 rfl (fun _=>rfl) kr)) (ps_cons kr ps_nil)))⟩))))) (fun hm=>ge 4 (riq hm (fun hm=>gr 2 (bi2 hm fun v2 v3 hx hm=>cp (Qfx hx) (re 4 (Qk zf)))) (fun hm=>ge 2 (riq hm (fun hm=>gr 2 (bi2 hm fun v4 v5 hx hm=>cp (QdC hx) (re 4 (Qk zf)))) (fun hm=>Qi (ge 2 (Qk zf)))))))))))))))
def QaH (x:Unit):Option (List Int) :=
 match x with
 | _ =>
 some ([]:(List Int))
theorem QeP {r0} (hm:QaH ()=some r0):FQ 167 [] (La r0):=by
 unfold QaH at hm
 exact fp (fn:=f167) rfl (ge 1 (ge 1 (Qk zf)))
def Xh (x:((List Int) × Int × Int)):Option (((List Int) × Int)) :=
 match x with
 | (q0,q1,q2) =>
 ((if q1 < 0 then
  some true
 else
 some (decide (q2 > (q0.length:Int)))
 )>>=fun (v2:Bool) =>
 if v2=true then
  some true
 else
 some (decide (q1 > q2))
 )>>=fun (v1:Bool) =>
 if v1=true then
  some (([]:List Int),4)
 else
 sub q0 0 q1>>=fun v3 =>
 QaH ()>>=fun v4 =>
 sub q0 q2 (q0.length:Int)>>=fun v5 =>
 Yb ([v3,v4,v5]:List (List Int))>>=fun v6 =>
 some (v6,0)
theorem Qc4 {q0 q1 q2 v5001 v5002} (hm:Xh (q0,q1,q2)=some (v5001,v5002)):PC prog env 165 [(La q0),(Qe q1),(Qe q2),(.dat (.raw (.func (.func 167) #[] #[])))] [] (.tup [(La v5001),(Qe v5002)]) []:=by
 unfold Xh at hm
 exact PC_sxB (fn:=f165) rfl (ge 2 (Qg (Qg (bi hm fun v1 hs hm=>Ze (fun d=>⟨sl d 33 [(0,(La q0)),(1,(Qe q1)),(2,(Qe q2)),(3,(.dat (.raw (.func (.func 167) #[] #[])))),(22,(Qo v1))],[]⟩) (have hm:=hs;Qc8 (Qh 3 (bi hm fun v2 hs hm=>Yu (j:=8) (fun d=>⟨sl d 33 [(0,(La q0)),(1,(Qe q1)),(2,(Qe q2)),(3,(.dat (.raw (.func (.func 167) #[] #[])))),(17,(Qo v2))],[]⟩) (fun d=>Qh 1 (gsb 18 hm (fun hm=>re 4 ⟨kr,zf⟩) (fun hm=>re 4 ⟨kr,zf⟩))) (fun hJ=>gs 12 hs (fun hm=>Qh 5 zf) (fun hm=>Qh 2 (QZ Qj q0 (Qh 2 zf))))))) (fun d=>rib hm (fun hm=>ge 2 (Qk zf)) (fun hm=>Qi (Qg (X0 (Qh 2 (bi hm fun v3 hx hm=>QeZ 1 Qj q0 v3 0 q1 (es:=(List.map Qj) q0) (L:=(List.map Qj)) (a:=natI 0) (b:=natI q1) (fun _=>rfl) rfl (fun _=>by first|rfl|exact num_of_fit ((fun _=>rfl) _)) hx rfl (Or.inl rfl) (Qh 1 (bi hm fun v4 hx hm=>cp (QeP hx) (Qh 2 (bi hm fun v5 hx hm=>QeZ 1 Qj q0 v5 q2 (q0.length:Int) (es:=(List.map Qj) q0) (L:=(List.map Qj)) (a:=natI q2) (b:=some ((List.map Qj) q0).length) (fun _=>rfl) rfl (fun _=>by first|rfl|exact num_of_fit ((fun _=>rfl) _)) hx rfl (Or.inr ⟨rfl,rfl⟩) (Qh 1 (bi hm fun v6 hx hm=>YA (JE _ _ hx []) (re 2 ⟨kr,Qk zf⟩)))))))))))))))))
def Xp (x:((List Int) × Int)):Option ((List Int) × Int) :=
 match x with
 | (p0,p1) =>
 if p1≥(p0.length:Int) then
  some (([]:(List Int)),4)
 else
 Xh (p0,p1,(W (p1+1)))>>=fun (v1,v2) =>
 some (v1,v2)
theorem QdZ {p0 p1 r0 r1} (hm:Xp (p0,p1)=some (r0,r1)):FQ 149 [(Lb p0),(Qj p1)] (.tup [(La r0),(Qe r1)]):=by
 unfold Xp at hm
 exact fp (fn:=f149) rfl (ge 2 (Qg (gr 2 (QZ Qj p0 (re 1 (ri hm (fun hm=>ge 2 (Qk zf)) (fun hm=>Qi (gr 4 (bi2 hm fun v1 v2 hx hm=>Za (Qc4 hx) (re 4 (Qk zf)))))))))))
def Zb (x:((List Int) × (List Int) × Int)):Option (Unit ⊕ Unit) :=
 match x with
 | (p0,p1,v201) =>
 if v201 < (p0.length:Int) then
  idx p0 v201>>=fun v601 =>
  idx p1 v201>>=fun v602 =>
  if v601≠v602 then
   some (Sum.inl ())
  else
  Zb (p0,p1,(W (v201+1)))
 else
 some (Sum.inr ())
 partial_fixpoint
theorem X1:∀ x r,Zb x=some r→match x with|(p0,p1,v201)=>LQ f56 56 [1,1,0,1,0,0] 0 ⟨kp 26 [(0,(La p0)),(1,(La p1)),(12,(Qe (p0.length:Int))),(13,(Qe v201))],[]⟩ (P2 .ret (fun _ d=>⟨sl d 26 [(4,(Qo false))],[]⟩) (.exit 0) (fun _ d=>⟨sl d 26 [],[]⟩) r):=by
 refine Zb.partial_correctness _ (fun Zb X1 x r hm=>?_)
 obtain ⟨p0,p1,v201⟩:=x
 exact lp (ge 1 (Qg (ri hm (fun hm=>Qi (Qg (Qp (ge 2 (Qg (X0 (Qh 2 (Zj 1 Qj hm fun v601 hm=>Qh 3 (Zj 1 Qj hm fun v602 hm=>re 2 ⟨kr,rix hm (fun hm=>ge 1 (Qk zf)) (fun hm=>Qi (R_G (re 2 (X1 _ _ hm _ kr))))⟩))))))))) (fun hm=>QO zf))))
def ZH (x:((List Int) × (List Int))):Option Bool :=
 match x with
 | (p0,p1) =>
 if (p0.length:Int)≠(p1.length:Int) then
  some false
 else
 (
 Zb (p0,p1,0)>>=fun out =>
 match out with
 | .inl _ =>
  some false
 | .inr (_) =>
  some true
 )
theorem JT {p0 p1 r0} (hm:ZH (p0,p1)=some r0):FQ 56 [(Lb p0),(Lb p1)] (Qo r0):=by
 unfold ZH at hm
 exact fp (fn:=f56) rfl (ge 1 (Qg (gr 1 (QZ Qj p0 (Qh 1 (QZ Qj p1 (re 1 (rix hm (fun hm=>ge 1 (Qk zf)) (fun hm=>Qi (Qg (gr 1 (QZ Qj p0 (re 1 (Qp (ru2 hm (X1 _) (fun _ d hm=>zf) fun _ d hm=>ge 1 (Qk zf))))))))))))))))
def YT (x:((List Int) × (List Int))):Option Bool :=
 match x with
 | (p0,p1) =>
 ZH (p0,p1)>>=fun v1 =>
 some v1
theorem QbT {p0 p1 r0} (hm:YT (p0,p1)=some r0):FQ 55 [(Lb p0),(Lb p1)] (Qo r0):=by
 unfold YT at hm
 exact fp (fn:=f55) rfl (ge 1 (gr 2 (bi hm fun v1 hx hm=>cp (JT hx) (re 1 (Qk zf)))))
def Qby (x:(Int × Int)):Option (Int × Bool) :=
 match x with
 | (p0,p1) =>
 some ((W (p0+p1)),(decide ((W (p0+p1))≤65536)))
theorem QfY {p0 p1 r0 r1} (hm:Qby (p0,p1)=some (r0,r1)):FQ 168 [(Qj p0),(Qj p1)] (.tup [(Qe r0),(Qo r1)]):=by
 unfold Qby at hm
 exact fp (fn:=f168) rfl (ge 2 (ge 9 (Qk zf)))
def QY (x:((List Int) × Int × Int)):Option (Int ⊕ Int) :=
 match x with
 | (p0,v201,v202) =>
 if v202 < (p0.length:Int) then
  idx p0 v202>>=fun v603 =>
  Qby (v201,v603)>>=fun (v604,v605) =>
  if v605=false then
   some (Sum.inl v604)
  else
  QY (p0,v604,(W (v202+1)))
 else
 some (Sum.inr v201)
 partial_fixpoint
theorem Xq:∀ x r,QY x=some r→match x with|(p0,v201,v202)=>LQ f164 164 [1,1,0,1,0,0] 0 ⟨kp 31 [(2,(.dat (.raw (.func (.func 168) #[] #[])))),(8,(Qe v201)),(13,(La p0)),(14,(Qe (p0.length:Int))),(15,(Qe v202))],[]⟩ (P2 .ret (fun v601 d=>⟨sl d 31 [(6,(Qe v601)),(7,(Qo false))],[]⟩) (.exit 0) (fun v602 d=>⟨sl d 31 [(8,(Qe v602))],[]⟩) r):=by
 refine QY.partial_correctness _ (fun QY Xq x r hm=>?_)
 obtain ⟨p0,v201,v202⟩:=x
 exact lp (ge 1 (Qg (ri hm (fun hm=>Qi (Qg (Qp (Qg (R_G (Zj 1 Qj hm fun v603 hm=>re 2 (gr 3 (bi2 hm fun v604 v605 hx hm=>cp (QfY hx) (re 5 (ge 2 (rin hm (fun hm=>ge 3 (Qk zf)) (fun hm=>Qi (R_G (re 2 (Xq _ _ hm _ kr))))))))))))))) (fun hm=>QO zf))))
def Y1 (x:((List Int) × Int)):Option (Int × Bool) :=
 match x with
 | (p0,p1) =>
 (
 QY (p0,p1,0)>>=fun out =>
 match out with
 | .inl v601 =>
  some (v601,false)
 | .inr (v602) =>
  some (v602,true)
 )
theorem QcD {p0 p1 r0 r1} (hm:Y1 (p0,p1)=some (r0,r1)):FQ 164 [(Lb p0),(Qj p1),(.raw (.func (.func 168) #[] #[]))] (.tup [(Qe r0),(Qo r1)]):=by
 unfold Y1 at hm
 exact fp (fn:=f164) rfl (ge 2 (ge 3 (Qg (gr 1 (QZ Qj p0 (re 1 (Qp (ru2 hm (Xq _) (fun v601 d hm=>zf) fun v602 d hm=>ge 3 (Qk zf)))))))))
def Y0 (x:((List Int) × Int)):Option (Int × Int) :=
 match x with
 | (p0,p1) =>
 JM p0>>=fun v1 =>
 if v1≠0 then
  some (0,v1)
 else
 Y1 (p0,p1)>>=fun (v2,v3) =>
 if v3=false then
  some (0,7)
 else
 some (v2,0)
theorem QcC {p0 p1 r0 r1} (hm:Y0 (p0,p1)=some (r0,r1)):FQ 144 [(Lb p0),(Qj p1),(.raw (.func (.func 168) #[] #[]))] (.tup [(Qe r0),(Qe r1)]):=by
 unfold Y0 at hm
 exact fp (fn:=f144) rfl (ge 2 (Qg (gr 1 (bi hm fun v1 hx hm=>cp (Qdu hx) (re 1 (ge 2 (rix hm (fun hm=>ge 3 (Qk zf)) (fun hm=>Qi (gr 3 (bi2 hm fun v2 v3 hx hm=>cp (QcD hx) (re 5 (Qg (ge 2 (rin hm (fun hm=>ge 2 (Qk zf)) (fun hm=>Qi (ge 3 (Qk zf)))))))))))))))))
def Qcu (x:(List Int)):Option (Int × Int) :=
 match x with
 | p0 =>
 Y0 (p0,0)>>=fun (v1,v2) =>
 some (v1,v2)
theorem QgE {p0 r0 r1} (hm:Qcu p0=some (r0,r1)):FQ 150 [(Lb p0)] (.tup [(Qe r0),(Qe r1)]):=by
 unfold Qcu at hm
 exact fp (fn:=f150) rfl (ge 2 (gr 1 (bi2 hm fun v1 v2 hx hm=>cp (QcC hx) (re 4 (Qk zf)))))
def QbS (x:((List Int) × (List Int) × Int)):Option ((List Int) × Int) :=
 match x with
 | (p0,p1,p2) =>
 Xp (p0,p2)>>=fun (v1,v2) =>
 Xp (p1,p2)>>=fun (v3,v4) =>
 YT (v1,v3)>>=fun v5 =>
 if v5=false then
  some (([]:(List Int)),5)
 else
 idx p0 p2>>=fun v6 =>
 idx p1 p2>>=fun v7 =>
 Qcu ([v6,v7]:List Int)>>=fun (v8,v9) =>
 if v9≠0 then
  some (([]:(List Int)),v9)
 else
 XF (p0,p2,v8)>>=fun (v10,v11) =>
 some (v10,v11)
theorem QfL {p0 p1 p2 r0 r1} (hm:QbS (p0,p1,p2)=some (r0,r1)):FQ 130 [(Lb p0),(Lb p1),(Qj p2)] (.tup [(La r0),(Qe r1)]):=by
 unfold QbS at hm
 exact fp (fn:=f130) rfl (ge 2 (gr 2 (bi2 hm fun v1 v2 hx hm=>cp (QdZ hx) (re 5 (gr 2 (bi2 hm fun v3 v4 hx hm=>cp (QdZ hx) (re 5 (Qg (gr 2 (bi hm fun v5 hx hm=>cp (QbT hx) (re 1 (rin hm (fun hm=>ge 2 (Qk zf)) (fun hm=>Qi (Qg (X0 (Qh 2 (Zj 1 Qj hm fun v6 hm=>Qh 3 (Zj 1 Qj hm fun v7 hm=>Qh 2 (bi2 hm fun v8 v9 hx hm=>cp (QgE hx) (re 5 ⟨kr,Qg (ge 2 (rix hm (fun hm=>ge 3 (Qk zf)) (fun hm=>Qi (gr 3 (bi2 hm fun v10 v11 hx hm=>cp (QdC hx) (re 4 (Qk zf)))))))⟩))))))))))))))))))))
def Jd (x:(Int × Int × (List Int) × (List Int) × (List Int))):Option (Unit) :=
 match x with
 | (q0,q1,q2,q3,q4) =>
 some ()
theorem QdV {q0 q1 q2 q3 q4} (hm:Jd (q0,q1,q2,q3,q4)=some ()):PC prog env 127 [(.ptr 6 0),(.iptr [(Qj q0)]),(.iptr [(Qj q1)])] (Qe8 q2 q0 q1 q3 q4 q3.length q4.length) (.tup []) (Qes q2 q0 q1 q3 q4 q3.length q4.length):=by
 unfold Jd at hm
 exact PC_sxB (fn:=f127) rfl (X0 (re 10 ⟨kr,zf⟩))
def Xx (x:((List Int) × Int × Int × (List Int) × (List Int))):Option (Unit) :=
 match x with
 | (q0,q1,q2,q3,q4) =>
 some ()
theorem Qdi {q0 q1 q2 q3 q4} (hm:Xx (q0,q1,q2,q3,q4)=some ()):PC prog env 131 [(.ptr 6 0),(.ptr 1 0)] (Qes q0 q1 q2 q3 q4 q3.length q4.length) (.tup []) (Qe1 q0 q1 q2 q3 q4 q3.length q4.length):=by
 unfold Xx at hm
 exact PC_sxB (fn:=f131) rfl (R_G (re 5 zf))
def J9 (x:((List Int) × (List Int) × (List Int) × Int × Int)):Option (Int ⊕ ((List Int) × (List Int))) :=
 match x with
 | (q0,q1,q2,q3,q4) =>
 Zo q1>>=fun v1 =>
 if v1≠0 then
  some (Sum.inl v1)
 else
 Qy q0>>=fun v2 =>
 Qy q1>>=fun v3 =>
 Jd (q3,q4,q2,v2,v3)>>=fun _ =>
 Xx (q2,q3,q4,v2,v3)>>=fun _ =>
 some (Sum.inr (v2,v3))
theorem QcV {q0 q1 q2 q3 q4 r} (hm:J9 (q0,q1,q2,q3,q4)=some r):PC prog env 105 [(La q0),(La q1),(.arr 2 0 2 2)] [Qv,(.box [(La q2)]),(Qde q3 q4)] (match r with|.inl v5001=>(.tup [Qbo,(Qe v5001)])|.inr ((v5002,v5003))=>(.tup [(.agg [(La q2),(.ms 4 1 0 v5002.length v5002.length),(.ms 5 1 0 v5003.length v5003.length),Ea,(Qe q3),(Qe q4),Ea]),(Qe 0)])) (match r with|.inl v5001=>[Qv,(.box [(La q2)]),(Qde q3 q4),Qv]|.inr ((v5002,v5003))=>[Qv,(.box [(La q2)]),(Qde q3 q4),(Qe4 q2 v5002.length v5003.length q3 q4),(QH v5002),(QH v5003),(Qe4 q2 v5002.length v5003.length q3 q4)]):=by
 unfold J9 at hm
 exact PC_sxB (fn:=f105) rfl (ge 2 (Qg (gr 1 (bi hm fun v1 hx hm=>cp (Z3 hx) (re 1 (ge 2 (rix hm (fun hm=>ge 4 (Qk zf)) (fun hm=>Qi (gr 1 (bi hm fun v2 hx hm=>go 4 3 Qj (QD hx) (Qh 1 (bi hm fun v3 hx hm=>go 5 3 Qj (QD hx) (re 3 (Qg (gr 1 (Qh 1 (re 1 (Qp (Qb5 (RL_at (st':=⟨kp 33 [(6,(.ptr 3 0)),(9,(.ptr 6 0)),(23,(.arr 2 0 2 2)),(24,(Qe 2)),(25,(Qe 0))],(Qe8 q2 q3 q4 v2 v3 v2.length v3.length)⟩) (prune_of2 (Qe8 q2 q3 q4 v2 v3 v2.length v3.length) (fun _=>(pg_cons kr (pg_cons kr (pg_cons kr (pg_cons kr (pg_cons (purge_mt Qj _ _ _ _ _) (pg_cons (purge_mt Qj _ _ _ _ _) (pg_cons kr pg_nil)))))))) rfl) (ge 1 (Qg (Qaj kr (Qi (Qg (Qp (gr 1 (re 2 (R_G (Qh 1 (bi hm fun _ hx hm=>Za (QdV hx) (Y9 (R_G (re 2 (RL_at (st':=⟨kp 33 [(6,(.ptr 3 0)),(9,(.ptr 6 0)),(23,(.arr 2 0 2 2)),(24,(Qe 2)),(25,(Qe 1))],(Qes q2 q3 q4 v2 v3 v2.length v3.length)⟩) (prune_of2 (Qes q2 q3 q4 v2 v3 v2.length v3.length) (fun _=>(pg_cons kr (pg_cons kr (pg_cons kr (pg_cons kr (pg_cons (purge_mt Qj _ _ _ _ _) (pg_cons (purge_mt Qj _ _ _ _ _) (pg_cons kr pg_nil)))))))) rfl) (ge 1 (Qg (Qaj kr (Qi (Qg (Qp (gr 1 (re 2 (R_G (Qh 1 (bi hm fun _ hx hm=>Za (Qdi hx) (Y9 (R_G (re 2 (RL_at (st':=⟨kp 33 [(6,(.ptr 3 0)),(9,(.ptr 6 0)),(23,(.arr 2 0 2 2)),(24,(Qe 2)),(25,(Qe 2))],(Qe1 q2 q3 q4 v2 v3 v2.length v3.length)⟩) (prune_of2 (Qe1 q2 q3 q4 v2 v3 v2.length v3.length) (fun _=>(pg_cons kr (pg_cons kr (pg_cons kr (pg_cons kr (pg_cons (purge_mt Qj _ _ _ _ _) (pg_cons (purge_mt Qj _ _ _ _ _) (pg_cons kr pg_nil)))))))) rfl) (ge 1 (Qg (Xt kr (QO (ge 3 (Qk zf))))))))))))))))))))))))))))))))))))))))))))))))))))))))
def Y8 (x:(Int × (List Int) × (List Int))):Option (Qt × Int) :=
 match x with
 | (p0,p1,p2) =>
 (if p0=(-1) then
  some (W ((max (max (p1.length:Int) (p2.length:Int)) 1) - 1))
 else
 some p0
 )>>=fun (v1:Int) =>
 if v1≥(max (max (p1.length:Int) (p2.length:Int)) 1) then
  ZB 4>>=fun (v2,v3) =>
  some (v2,v3)
 else
 Yg (p1,p2,(max (max (p1.length:Int) (p2.length:Int)) 1),v1)>>=fun (v4,v5) =>
 Yg (p2,p1,(max (max (p1.length:Int) (p2.length:Int)) 1),v1)>>=fun (v6,v7) =>
 (if v5≠0 then
  some true
 else
 some (v7 != 0)
 )>>=fun (v8:Bool) =>
 if v8=true then
  ZB 4>>=fun (v9,v10) =>
  some (v9,v10)
 else
 QbS (v4,v6,v1)>>=fun (v11,v12) =>
 if v12≠0 then
  ZB v12>>=fun (v13,v14) =>
  some (v13,v14)
 else
 Xg (v1,0)>>=fun (v15,v16) =>
 (
 J9 (v6,v11,v4,v15,v16)>>=fun out =>
 match out with
 | .inl v17 =>
  some ((⟨([]:(List Int)),([]:(List Int)),([]:(List Int)),([]:(List Int)),0,0,([]:(List Int))⟩:Qt),v17)
 | .inr ((v18,v19)) =>
  some ((⟨v4,v18,v19,([]:(List Int)),v15,v16,([]:(List Int))⟩:Qt),0)
 )
theorem QeW {p0 p1 p2 r0 r1} (hm:Y8 (p0,p1,p2)=some (r0,r1)):FQ 108 [(Qj p0),(Lb p1),(Lb p2)] (.tup [(.dat (Qt.toD r0)),(Qe r1)]):=by
 unfold Y8 at hm
 exact fp (fn:=f108) rfl (ge 2 (gr 1 (QZ Qj p1 (Qh 1 (QZ Qj p2 (QT rfl (fun _=>Qg3 (k:=.i64) (m:=(p1.length:Int)) (n:=(p2.length:Int)) (q:=1) rfl kr kr kr) (re 1 (Qg (ge 2 (bi hm fun v1 hs hm=>Ze (fun d=>⟨sl d 76 [(0,(Qe v1)),(1,(La p1)),(2,(La p2)),(6,(.ptr 0 0)),(8,(Qe (max (max (p1.length:Int) (p2.length:Int)) 1)))],[Qv]⟩) (have hm:=hs;riq hm (fun hm=>R_G (re 3 zf)) (fun hm=>Qi zf)) (fun d=>Qg (ge 3 (ri hm (fun hm=>Qg (R_G (bi2 hm fun v2 v3 hx hm=>cp (Z2 hx) (re 4 (Qk zf))))) (fun hm=>Qi (gr 4 (bi2 hm fun v4 v5 hx hm=>cp (QdY hx) (re 6 (gr 4 (bi2 hm fun v6 v7 hx hm=>cp (QdY hx) (re 5 (Qg (Qg (bi hm fun v8 hs hm=>Ze (fun d=>⟨sl d 76 [(0,(Qe v1)),(6,(.ptr 0 0)),(9,(.ptr 1 0)),(11,(La v6)),(50,(Qo v8))],[Qv,(.box [(La v4)])]⟩) (have hm:=hs;R_G (Qh 3 (gsx 47 hm (fun hm=>re 3 zf) (fun hm=>re 3 zf)))) (fun d=>rib hm (fun hm=>Qg (R_G (bi2 hm fun v9 v10 hx hm=>cp (Z2 hx) (re 4 (Qk zf))))) (fun hm=>Qi (gr 3 (bi2 hm fun v11 v12 hx hm=>cp (QfL hx) (re 5 (Qg (ge 2 (rix hm (fun hm=>gr 1 (bi2 hm fun v13 v14 hx hm=>cp (Z2 hx) (re 4 (Qk zf)))) (fun hm=>Qi (gr 3 (bi2 hm fun v15 v16 hx hm=>cp (Qdt hx) (Qh 2 (bs hm (fun v17 hx hm=>Za (QcV hx) (re 4 (Qk zf))) fun ⟨v18,v19⟩ hx hm=>Za (QcV hx) (re 4 (Qk (by obtain ⟨rfl,rfl⟩:=QeV hm; exact ⟨trivial,Xu [(.agg [(La v4),(.ms 4 1 0 v18.length v18.length),(.ms 5 1 0 v19.length v19.length),Ea,(Qe v15),(Qe v16),Ea]),(Qe 0)] kr (po_tup (ps_cons (p1_agg (pc_cons kr (pc_cons (pc_ms (e:=3) Qj v18 rfl (fun _=>rfl) kr) (pc_cons (pc_ms (e:=3) Qj v19 rfl (fun _=>rfl) kr) (pc_cons kr (pc_cons kr (pc_cons kr (pc_cons kr pc_nil)))))))) (ps_cons kr ps_nil)))⟩)))))))))))))))))))))))))))))))))))))))
def Qap (x:(Qc × (List Int))):Option Qc :=
 match x with
 | (p0,p1) =>
 YT (p0.shape,p1)>>=fun v1 =>
 if v1=true then
  some p0
 else
 XD (p0,p1)>>=fun v2 =>
 some v2
theorem QdP {p0 p1 r0} (hm:Qap (p0,p1)=some r0):FQ 109 [(Qc.ex p0),(Lb p1)] (.dat (Qc.ex r0)):=by
 unfold Qap at hm
 exact fp (fn:=f109) rfl (ge 2 (Qg (gr 3 (bi hm fun v1 hx hm=>cp (QbT hx) (Y9 (rib hm (fun hm=>ge 2 (Qk zf)) (fun hm=>Qi (gr 2 (bi hm fun v2 hx hm=>cp (Qb7 hx) (re 1 (Qk zf)))))))))))
def Yh (x:List Int):Option (List Int):=app 8 [] x
def cgm_slices_Clone_int64_int64 (l:List Int):Nat:=match l with|[]=>0|_=>1
theorem Qaz {x r} (hm:Yh x=some r):PC prog env 132 ([.lst ((List.map Qj) x)].map .dat) [] (.ms 0 (cgm_slices_Clone_int64_int64 r) 0 r.length r.length) [.mt 2 (cgm_slices_Clone_int64_int64 r) (cellsOf Qj r)]:=by
 obtain ⟨hroom,hr⟩:=app_some hm
 have hr:r=x:=hr
 subst hr
 cases r with
 | nil=>exact PC_of (n:=20) (by kernel_rfl)
 | cons a l =>
  exact PC_sxB (fn:=f132) rfl (ge 1 (Qg (gr 1 (QT rfl (fun _=>Qf2 (p:=.dat (Lb (a::l))) (b:=false) rfl kr kr kr) (Y9 (Xt kr (Qi (gr 2 (Jk (v:=.ms 0 1 0 (a::l).length (a::l).length) (fun H=>H.set 0 (.mt 2 1 (cellsOf Qj (a::l)))) rfl kr (fun _ hk=>Qgv Qj (l:=[]) (es:=a::l) (bytes:=8) (e:=2) (tt:=0) (g:=0) (m:=0) hm (fun _=>rfl) kr kr kr kr rfl rfl kr rfl kr (source_lst (fun _=>rfl)) hk) (re 1 (Qk zf)))))))))))
def Yt (x:(Int × Int × Int × ByteArray × (List Int) × (List Qa) × (List (ByteArray × Int)) × (List Qb) × (List Qb))):Option (((List Int) × Bool × Int)) :=
 match x with
 | (q0,q1,q2,q3,q4,q5,q6,q7,q8) =>
 if q0=1 then
  Yh q4>>=fun v1 =>
  some (v1,((q4.length:Int) == 1),0)
 else
 ZA (q3,q6,q7,q8)>>=fun (v2,v3,v4) =>
 if v4=false then
  some (([]:List Int),false,2)
 else
 if (v2.length:Int) > 1 then
  some (([]:List Int),false,4)
 else
 some (v3,((v2.length:Int) == 0),0)
theorem QeK {q0 q1 q2 q3 q4 q5 q6 q7 q8 v5001 v5002 v5003} (hm:Yt (q0,q1,q2,q3,q4,q5,q6,q7,q8)=some (v5001,v5002,v5003)):PCX prog env 110 [(.ptr 4 0),(QbW q0 q1 q2 q3 q4 q5)] (QaS q6 q7.length q7 q8) (.tup [(.dat (.agg [(Lb v5001),(Qdx v5002)])),(Qe v5003)]) (QaS q6 q7.length q7 q8):=by
 unfold Yt at hm
 exact PCX_sxB (fn:=f110) rfl (ge 3 (Qg (ge 3 (riq hm (fun hm=>Qg (X0 (Qh 2 (bi hm fun v1 hx hm=>QT (v:=.dat (Lb v1)) rfl (fun _=>QdG (f:=132) (first:=#[]) (cap:=#[]) (e:=2) (ow':=[]) (ds:=[.lst ((List.map Qj) q4)]) rfl kr kr kr kr (Qaz hx) (p1_ms (pc_ms (e:=2) Qj v1 rfl (fun _=>rfl) kr))) (Qh 2 (QZ Qj q4 (re 4 ⟨kr,Qk zf⟩))))))) (fun hm=>Qi (gr 3 (bi3 hm fun v2 v3 v4 hx hm=>QbN (n:=5) (Qce hx) (re 6 (Qg (Qp (ge 3 (rin hm (fun hm=>ge 3 (Qk zf)) (fun hm=>gr 2 (QZ Qj v2 (re 2 (ri hm (fun hm=>ge 3 (Qk zf)) (fun hm=>Qi (gr 4 (QZ Qj v2 (re 4 (Qk zf)))))))))))))) (hi:=und_hi 0) (hq:=und_hq 0))))))))
def XB (x:Int × Int):Option (List Int):=match x with
 | (a,n)=>if (a=1∨a=-1)∧0≤n∧n≤16 then some (List.replicate n.toNat a) else none
def Qbk:Int × Int→List Int→Prop:=fun x r=>match x with
 | (a,n)=>PC prog env 169 [(La ([a]:List Int)),(Qe n)] [] (.arr 0 0 r.length r.length) [(.box (cellsOf Qj r))]
theorem Qdl:∀ x r,XB x=some r→Qbk x r:=by
 intro x r hm
 obtain ⟨a,n⟩:=x
 unfold XB at hm
 simp only at hm
 split at hm
 ·rename_i hc
  cases hm
  obtain ⟨ha,h0,h1⟩:=hc
  obtain ⟨k,rfl⟩:=Int.eq_ofNat_of_zero_le h0
  have hk:k≤16:=by omega
  unfold Qbk
  skip
  rcases ha with rfl|rfl
  ·match k,hk with
   | 0,_=>refine PC_of (n:=60) ?_; kernel_rfl
   | 1,_=>refine PC_of (n:=60) ?_; kernel_rfl
   | 2,_=>refine PC_of (n:=60) ?_; kernel_rfl
   | 3,_=>refine PC_of (n:=60) ?_; kernel_rfl
   | 4,_=>refine PC_of (n:=60) ?_; kernel_rfl
   | 5,_=>refine PC_of (n:=60) ?_; kernel_rfl
   | 6,_=>refine PC_of (n:=60) ?_; kernel_rfl
   | 7,_=>refine PC_of (n:=60) ?_; kernel_rfl
   | 8,_=>refine PC_of (n:=60) ?_; kernel_rfl
   | 9,_=>refine PC_of (n:=60) ?_; kernel_rfl
   | 10,_=>refine PC_of (n:=60) ?_; kernel_rfl
   | 11,_=>refine PC_of (n:=60) ?_; kernel_rfl
   | 12,_=>refine PC_of (n:=60) ?_; kernel_rfl
   | 13,_=>refine PC_of (n:=60) ?_; kernel_rfl
   | 14,_=>refine PC_of (n:=60) ?_; kernel_rfl
   | 15,_=>refine PC_of (n:=60) ?_; kernel_rfl
   | 16,_=>refine PC_of (n:=60) ?_; kernel_rfl
  ·match k,hk with
   | 0,_=>refine PC_of (n:=60) ?_; kernel_rfl
   | 1,_=>refine PC_of (n:=60) ?_; kernel_rfl
   | 2,_=>refine PC_of (n:=60) ?_; kernel_rfl
   | 3,_=>refine PC_of (n:=60) ?_; kernel_rfl
   | 4,_=>refine PC_of (n:=60) ?_; kernel_rfl
   | 5,_=>refine PC_of (n:=60) ?_; kernel_rfl
   | 6,_=>refine PC_of (n:=60) ?_; kernel_rfl
   | 7,_=>refine PC_of (n:=60) ?_; kernel_rfl
   | 8,_=>refine PC_of (n:=60) ?_; kernel_rfl
   | 9,_=>refine PC_of (n:=60) ?_; kernel_rfl
   | 10,_=>refine PC_of (n:=60) ?_; kernel_rfl
   | 11,_=>refine PC_of (n:=60) ?_; kernel_rfl
   | 12,_=>refine PC_of (n:=60) ?_; kernel_rfl
   | 13,_=>refine PC_of (n:=60) ?_; kernel_rfl
   | 14,_=>refine PC_of (n:=60) ?_; kernel_rfl
   | 15,_=>refine PC_of (n:=60) ?_; kernel_rfl
   | 16,_=>refine PC_of (n:=60) ?_; kernel_rfl
 ·cases hm
def QcN (x:Int):Option (List Int) :=
 match x with
 | p0 =>
 XB (1,p0)>>=fun v1 =>
 some v1
theorem Qgu {p0 r0} (hm:QcN p0=some r0):FQ 151 [(Qj p0)] (La r0):=by
 unfold QcN at hm
 exact fp (fn:=f151) rfl (ge 1 (gr 2 (bi hm fun v1 hx hm=>Za (Qdl _ _ hx) (re 1 (Qk (by obtain rfl:=Qhp hm; exact ⟨trivial,Xu [(.arr 0 0 v1.length v1.length)] kr (po_arr (pc_arr Qj v1 rfl (fun _=>rfl) kr))⟩))))))
def Qax (x:((List Int) × Int)):Option ((List Int) × Int) :=
 match x with
 | (p0,p1) =>
 if (p0.length:Int) > 0 then
  some (p0,0)
 else
 if p1 > 16 then
  some (([]:(List Int)),7)
 else
 QcN p1>>=fun v1 =>
 some (v1,0)
theorem QeT {p0 p1 r0 r1} (hm:Qax (p0,p1)=some (r0,r1)):FQ 133 [(Lb p0),(Qj p1)] (.tup [(La r0),(Qe r1)]):=by
 unfold Qax at hm
 exact fp (fn:=f133) rfl (ge 2 (Qg (Qp (gr 1 (QZ Qj p0 (re 2 (ri hm (fun hm=>ge 3 (Qk zf)) (fun hm=>ge 3 (ri hm (fun hm=>ge 2 (Qk zf)) (fun hm=>Qi (gr 1 (bi hm fun v1 hx hm=>cp (Qgu hx) (re 2 (Qk zf))))))))))))))
def XQ (x:Int):Option (Int × Int) :=
 match x with
 | p0 =>
 (if p0 > 65536 then
  some true
 else
 some (decide (p0 < (-65536)))
 )>>=fun (v1:Bool) =>
 if v1=true then
  some (0,7)
 else
 some ((if p0 < (W (0 - p0)) then (W (0 - p0)) else p0),0)
theorem Qdk {p0 r0 r1} (hm:XQ p0=some (r0,r1)):FQ 134 [(Qj p0)] (.tup [(Qe r0),(Qe r1)]):=by
 unfold XQ at hm
 exact fp (fn:=f134) rfl (ge 2 (Qg (Qg (bi hm fun v1 hs hm=>Ze (fun d=>⟨sl d 14 [(0,(Qe p0)),(9,(Qo v1))],[]⟩) (have hm:=hs;R_G (Qh 3 (gs 6 hm (fun hm=>re 3 zf) (fun hm=>re 3 zf)))) (fun d=>rib hm (fun hm=>ge 2 (Qk zf)) (fun hm=>Qi (gr 3 (QT rfl (fun _=>Qf5 (k:=.i64) (m:=p0) (n:=(W (0 - p0))) rfl kr kr) (re 2 (Qk zf))))))))))
def Jq (x:((List Int) × (List Int) × Bool × Nat)):Option (Unit) :=
 match x with
 | (q0,q1,q2,q3) =>
 some ()
theorem Qd5 {q0 q1 q2 q3} (hm:Jq (q0,q1,q2,q3)=some ()):PC prog env 135 [(QdJ q0)] [(Q1 q1 q2),Qv,(.tok 3 q3),(.tok 3 q0.length)] (.fn 152 [(.ptr 4 0)]) [(Q1 q1 q2),Qv,(.tok 3 q3),(.tok 3 q0.length),(Qdd q0)]:=by
 unfold Jq at hm
 exact PC_sxB (fn:=f135) rfl (ge 2 (ge 2 (Qk zf)))
def XY (x:((List Int) × Bool × (List Int) × (List Int) × (List Int) × Nat)):Option (Unit) :=
 match x with
 | (q0,q1,q2,q3,q4,q5) =>
 some ()
theorem QdE {q0 q1 q2 q3 q4 q5} (hm:XY (q0,q1,q2,q3,q4,q5)=some ()):PC prog env 152 [(.ptr 9 0),(.ptr 4 0)] (Qfb q0 q1 q5 q2.length q2 q3 q4 q3.length q4.length) (.tup []) (Qe0 q0 q1 q5 q2.length q2 q3 q4 q3.length q4.length):=by
 unfold XY at hm
 exact PC_sxB (fn:=f152) rfl (R_G (re 5 zf))
def Qaa (x:((List Int) × (List Int) × (List Int) × Bool × (List Int))):Option (Int ⊕ ((List Int) × (List Int))) :=
 match x with
 | (q0,q1,q2,q3,q4) =>
 Zo q1>>=fun v1 =>
 if v1≠0 then
  some (Sum.inl v1)
 else
 Qy q0>>=fun v2 =>
 Qy q1>>=fun v3 =>
 XY (q2,q3,q4,v2,v3,q1.length)>>=fun _ =>
 some (Sum.inr (v2,v3))
theorem QcW {q0 q1 q2 q3 q4 r} (hm:Qaa (q0,q1,q2,q3,q4)=some r):PC prog env 105 [(La q0),(Qfm q1),(.arr 5 0 1 1)] [(Q1 q2 q3),Qv,(.tok 3 q1.length),(.tok 3 q4.length),(Qdd q4),QaQ] (match r with|.inl v5001=>(.tup [Qbo,(Qe v5001)])|.inr ((v5002,v5003))=>(.tup [(.agg [Ea,(.ms 7 1 0 v5002.length v5002.length),(.ms 8 1 0 v5003.length v5003.length),(QdJ q4),(Qe (-1)),(Qe 0),Ea]),(Qe 0)])) (match r with|.inl v5001=>[(Q1 q2 q3),Qv,(.tok 3 q1.length),(.tok 3 q4.length),(Qdd q4),QaQ,Qv]|.inr ((v5002,v5003))=>[(Q1 q2 q3),Qv,(.tok 3 q1.length),(.tok 3 q4.length),(Qdd q4),QaQ,(Qfe v5002.length v5003.length q4),(QH v5002),(QH v5003),(Qfe v5002.length v5003.length q4)]):=by
 unfold Qaa at hm
 exact PC_sxB (fn:=f105) rfl (ge 2 (Qg (gr 1 (bi hm fun v1 hx hm=>cp (Z3 hx) (re 1 (ge 2 (rix hm (fun hm=>ge 4 (Qk zf)) (fun hm=>Qi (gr 1 (bi hm fun v2 hx hm=>go 7 3 Qj (QD hx) (Qh 1 (bi hm fun v3 hx hm=>go 8 3 Qj (QD hx) (re 3 (Qg (gr 1 (Qh 1 (re 1 (Qp (Qb5 (RL_at (st':=⟨kp 33 [(6,(.ptr 6 0)),(9,(.ptr 9 0)),(23,(.arr 5 0 1 1)),(24,(Qe 1)),(25,(Qe 0))],(Qfb q2 q3 q1.length q4.length q4 v2 v3 v2.length v3.length)⟩) (prune_of2 (Qfb q2 q3 q1.length q4.length q4 v2 v3 v2.length v3.length) (fun _=>(pg_cons kr (pg_cons kr (pg_cons kr (pg_cons kr (pg_cons kr (pg_cons kr (pg_cons kr (pg_cons (purge_mt Qj _ _ _ _ _) (pg_cons (purge_mt Qj _ _ _ _ _) (pg_cons kr pg_nil))))))))))) rfl) (ge 1 (Qg (Qaj kr (Qi (Qg (Qp (gr 1 (re 2 (R_G (Qh 1 (bi hm fun _ hx hm=>Za (QdE hx) (Y9 (R_G (re 2 (RL_at (st':=⟨kp 33 [(6,(.ptr 6 0)),(9,(.ptr 9 0)),(23,(.arr 5 0 1 1)),(24,(Qe 1)),(25,(Qe 1))],(Qe0 q2 q3 q1.length q4.length q4 v2 v3 v2.length v3.length)⟩) (prune_of2 (Qe0 q2 q3 q1.length q4.length q4 v2 v3 v2.length v3.length) (fun _=>(pg_cons kr (pg_cons kr (pg_cons kr (pg_cons kr (pg_cons kr (pg_cons kr (pg_cons kr (pg_cons (purge_mt Qj _ _ _ _ _) (pg_cons (purge_mt Qj _ _ _ _ _) (pg_cons kr pg_nil))))))))))) rfl) (ge 1 (Qg (Xt kr (QO (ge 3 (Qk zf)))))))))))))))))))))))))))))))))))))))))
def Yx (x:(QV × (List Int) × (List Int) × (List Int) × Int)):Option (((List Int) × (List Int) × (List Int) × (List Int) × Int × Int × (List Int) × Int × Nat × Nat) ⊕ ((List Int) × (List Int))) :=
 match x with
 | (p0,v1,v207,v208,v209) =>
 if v209 < (p0.values.length:Int) then
  idx p0.values v209>>=fun v619 =>
  XQ v619>>=fun (v620,v621) =>
  if v621≠0 then
   ZB v621>>=fun (v622,v623) =>
   some (Sum.inl (v622.left,v622.right,v622.shape,v622.starts,v622.axis,v622.amount,v622.perm,v623,v207.length,v208.length))
  else
  app 8 v207 ([v620]:List Int)>>=fun v624 =>
  if v619 < 0 then
   idx v1 v209>>=fun v625 =>
   app 8 v208 ([(W (v625 - v620))]:List Int)>>=fun v626 =>
   Yx (p0,v1,v624,v626,(W (v209+1)))
  else
  app 8 v208 ([0]:List Int)>>=fun v627 =>
  Yx (p0,v1,v624,v627,(W (v209+1)))
 else
 some (Sum.inr (v207,v208))
 partial_fixpoint
theorem QbB:∀ x r,Yx x=some r→match x with|(p0,v1,v207,v208,v209)=>LQ f111 111 [1,1,1,1,1,0,1,0,0] 4 ⟨kp 83 [(4,(.ptr 1 0)),(6,(La v1)),(8,(Qfm v207)),(9,(QdJ v208)),(38,(La p0.values)),(39,(Qe (p0.values.length:Int))),(40,(Qe v209))],[(Q1 p0.values p0.scalar),Qv,(.tok 3 v207.length),(.tok 3 v208.length)]⟩ (P2 .ret (fun (v607,v608,v609,v610,v611,v612,v613,v614,v615,v616) d=>⟨sl d 83 [(4,(.ptr 1 0)),(5,(Qe v614))],[(Q1 p0.values p0.scalar),(JV v607 v608 v609 v610 v611 v612 v613),(.tok 3 v615),(.tok 3 v616)]⟩) (.exit 0) (fun (v617,v618) d=>⟨sl d 83 [(4,(.ptr 1 0)),(6,(La v1)),(8,(Qfm v617)),(9,(QdJ v618))],[(Q1 p0.values p0.scalar),Qv,(.tok 3 v617.length),(.tok 3 v618.length)]⟩) r):=by
 refine Yx.partial_correctness _ (fun Yx QbB x r hm=>?_)
 obtain ⟨p0,v1,v207,v208,v209⟩:=x
 exact lp (ge 1 (Qg (ri hm (fun hm=>Qi (Qg (Qp (gr 1 (Zj 1 Qj hm fun v619 hm=>re 3 (gr 1 (bi2 hm fun v620 v621 hx hm=>cp (Qdk hx) (re 5 (Qg (ge 2 (rix hm (fun hm=>gr 1 (bi2 hm fun v622 v623 hx hm=>cp (Z2 hx) (re 4 (Qk zf)))) (fun hm=>Qi (gr 3 (bi hm fun v624 hx hm=>Xk 3 1 8 2 Qj v207 ([v620]:List Int) v624 (xs:=(List.map Qj) v207) (es:=(List.map Qj) ([v620]:List Int)) (L:=(List.map Qj)) (fun _=>rfl) rfl rfl (fun _=>rfl) hx (re 1 (ge 2 (ri hm (fun hm=>R_G (Qh 3 (Zj 1 Qj hm fun v625 hm=>Qh 4 (bi hm fun v626 hx hm=>Xk 3 1 8 3 Qj v208 ([(W (v625 - v620))]:List Int) v626 (xs:=(List.map Qj) v208) (es:=(List.map Qj) ([(W (v625 - v620))]:List Int)) (L:=(List.map Qj)) (fun _=>rfl) rfl rfl (fun _=>rfl) hx (re 1 (R_G (re 2 (QbB _ _ hm _ kr)))))))) (fun hm=>R_G (Qh 2 (bi hm fun v627 hx hm=>Xk 3 1 8 3 Qj v208 ([0]:List Int) v627 (xs:=(List.map Qj) v208) (es:=(List.map Qj) ([0]:List Int)) (L:=(List.map Qj)) (fun _=>rfl) rfl rfl (fun _=>rfl) hx (re 1 (R_G (re 2 (QbB _ _ hm _ kr)))))))))))))))))))))))) (fun hm=>QO zf))))
def Qb2 (x:(QV × (List Int))):Option (Qt × Int) :=
 match x with
 | (p0,p1) =>
 Qax (p1,(p0.values.length:Int))>>=fun (v1,v2) =>
 if v2≠0 then
  ZB v2>>=fun (v3,v4) =>
  some (v3,v4)
 else
 if (p0.values.length:Int)≠(v1.length:Int) then
  ZB 5>>=fun (v5,v6) =>
  some (v5,v6)
 else
 (
 Yx (p0,v1,([]:List Int),([]:List Int),0)>>=fun out =>
 match out with
 | .inl (v607,v608,v609,v610,v611,v612,v613,v614,v615,v616) =>
  some ((⟨v607,v608,v609,v610,v611,v612,v613⟩:Qt),v614)
 | .inr ((v617,v618)) =>
  Jq (v618,p0.values,p0.scalar,v617.length)>>=fun _ =>
  (
  Qaa (v1,v617,p0.values,p0.scalar,v618)>>=fun out =>
  match out with
  | .inl v628 =>
   some ((⟨([]:(List Int)),([]:(List Int)),([]:(List Int)),([]:(List Int)),0,0,([]:(List Int))⟩:Qt),v628)
  | .inr ((v629,v630)) =>
   some ((⟨([]:(List Int)),v629,v630,v618,(-1),0,([]:(List Int))⟩:Qt),0)
  )
 )
theorem Qgt {p0 p1 r0 r1} (hm:Qb2 (p0,p1)=some (r0,r1)):FQ 111 [(QV.toD p0),(Lb p1)] (.tup [(.dat (Qt.toD r0)),(Qe r1)]):=by
 unfold Qb2 at hm
 exact fp (fn:=f111) rfl (ge 3 (gr 3 (QZ Qj p0.values (bi2 hm fun v1 v2 hx hm=>cp (QeT hx) (re 5 (Qg (ge 2 (rix hm (fun hm=>gr 1 (bi2 hm fun v3 v4 hx hm=>cp (Z2 hx) (re 4 (Qk zf)))) (fun hm=>Qi (Qg (gr 2 (QZ Qj p0.values (Qh 1 (QZ Qj v1 (re 1 (rix hm (fun hm=>Qg (R_G (bi2 hm fun v5 v6 hx hm=>cp (Z2 hx) (re 4 (Qk zf))))) (fun hm=>Qi (ge 2 (Qg (gr 2 (QZ Qj p0.values (re 1 (Qp (ru2 hm (QbB _) (fun ⟨v607,v608,v609,v610,v611,v612,v613,v614,v615,v616⟩ d hm=>zf) fun ⟨v617,v618⟩ d hm=>gr 3 (bi hm fun _ hx hm=>Za (Qd5 hx) (Qh 1 (bs hm (fun v628 hx hm=>Za (QcW hx) (re 4 (Qk zf))) fun ⟨v629,v630⟩ hx hm=>Za (QcW hx) (re 4 (Qk (by obtain ⟨rfl,rfl⟩:=QeV hm; exact ⟨trivial,Xu [(.agg [Ea,(.ms 7 1 0 v629.length v629.length),(.ms 8 1 0 v630.length v630.length),(QdJ v618),(Qe (-1)),(Qe 0),Ea]),(Qe 0)] kr (po_tup (ps_cons (p1_agg (pc_cons kr (pc_cons (pc_ms (e:=3) Qj v629 rfl (fun _=>rfl) kr) (pc_cons (pc_ms (e:=3) Qj v630 rfl (fun _=>rfl) kr) (pc_cons kr (pc_cons kr (pc_cons kr (pc_cons kr pc_nil)))))))) (ps_cons kr ps_nil)))⟩))))))))))))))))))))))))))))))
end Go.Proofs.Tryz
