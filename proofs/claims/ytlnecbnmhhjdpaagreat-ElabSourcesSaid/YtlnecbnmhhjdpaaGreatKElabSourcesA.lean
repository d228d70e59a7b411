/-
 Models of functions, their walks, and plain laws.
-/
import Derived.Test.YtlnecbnmhhjdpaaGreatPmSx
import Derived.Test.YtlnecbnmhhjdpaaGreatProg
import Derived.Test.YtlnecbnmhhjdpaaGreatPmMap
import Derived.Test.YtlnecbnmhhjdpaaGreatPmMs
import Derived.KernelRfl
namespace Go.Proofs.Tryz
open Go Go.Pm
set_option linter.unusedVariables false
set_option linter.unusedSimpArgs false
set_option maxRecDepth 2000
def Sm (n:Nat):Prop:=n≤9223372036854775807
theorem Sm_of {n m:Nat} (h:n≤m) (hm:m≤9223372036854775807:=by decide):Sm n:=Nat.le_trans h hm
theorem idx_ok {α:Type} {l:List α} {j:Nat} (h:j < l.length):idx l (j:Int)=some l[j]:=by simp [idx,h]
theorem app_ok {α:Type} {b:Nat} {l es:List α} (h:(l.length+es.length) * b≤room):app b l es=some (l++es):=if_pos h
theorem W_ok {n:Int} (h1:-9223372036854775808≤n) (h2:n < 9223372036854775808):W n=n:=by
 simp only [W,IntKind.wrap,IntKind.bits,IntKind.signed]; simp; split <;> omega
theorem W_succ {j:Nat} (h:j < 9223372036854775807):W ((j:Int)+1)=((j+1:Nat):Int):=by rw [W_ok (by omega) (by omega)]; omega
section
variable {α:Type} {p s:List α} {x:α}
theorem Yg:((p.length:Int) < ((p++x::s).length:Int)):=by simp; omega
theorem YX:¬ ((p.length:Int) < ((p++([]:List α)).length:Int)):=by simp
theorem Zo:idx (p++x::s) (p.length:Int)=some x:=by simp [idx]
theorem QS:p++x::s=(p++[x])++s:=by simp
theorem mid_W (hs:Sm (p++x::s).length):W ((p.length:Int)+1)=((p++[x]).length:Int):=by
 unfold Sm at hs
 rw [W_ok (by omega) (by simp at hs; omega)]; simp
end
theorem Ql {α β:Type} (a:α) (f:α→Option β):(some a>>=f)=f a:=rfl
set_option maxHeartbeats 2000000
def hintOf:FuncId→Hint
 | 3=>{ own:=[((5,0),[(0,39)])],keep:=[(7,[0,5,7,8,9])] }
 | 4=>{ own:=[((0,0),[(9000,3)])],keep:=[(13,[3,6,8,9,10,11]),(19,[3,6,8,10,12,13]),(24,[3,6,8,10,12,13,14,15]),(29,[3,6,8,10,13,14,15,16])] }
 | 7=>{ own:=[],keep:=[(4,[0,1,5])] }
 | 8=>{ own:=[],keep:=[(2,[0,3]),(7,[0,3,4])] }
 | 9=>{ own:=[((1,0),[(0,9)])],keep:=[(4,[3,4,5])] }
 | 10=>{ own:=[],keep:=[(2,[0,1,5])] }
 | 12=>{ own:=[((0,0),[(9000,3)]),((1,1),[(1,65)]),((2,2),[(12000,0)]),((5,5),[(5000,3)])],keep:=[] }
 | 15=>{ own:=[((1,3),[(8,89)]),((1,4),[(8,89)])],keep:=[(3,[1,2,3,4])] }
 | 18=>{ own:=[((1,0),[(0,26)])],keep:=[(3,[1,3,4])] }
 | 19=>{ own:=[],keep:=[(4,[1,2,5])] }
 | 20=>{ own:=[((3,0),[(0,98)])],keep:=[(5,[0,4,5]),(26,[0,4,5,12,13,14])] }
 | 22=>{ own:=[((1,1),[(0,39)]),((1,2),[(0,39)])],keep:=[(3,[4,11,12,13])],late:=[(8,3),(8,12)] }
 | 23=>{ own:=[((1,0),[(0,35)]),((5,4),[(7000,3)])],keep:=[(3,[3,7,8,9])] }
 | 27=>{ own:=[((0,0),[(9000,3)]),((2,2),[(12000,0)]),((3,9),[(12000,0)]),((8,0),[(0,3)]),((8,8),[(12000,0)])],keep:=[] }
 | 29=>{ own:=[],keep:=[(4,[2,3,5])] }
 | 30=>{ own:=[],keep:=[(4,[0,1,5])] }
 | 31=>{ own:=[((1,14),[(7,53)]),((1,15),[(7,53)])],keep:=[(3,[1,2,3,4])] }
 | 33=>{ own:=[],keep:=[(4,[1,2,15,16,17])] }
 | 39=>{ own:=[],keep:=[(1,[0,1])] }
 | 41=>{ own:=[],keep:=[(5,[0,1,6,7])] }
 | 43=>{ own:=[],keep:=[(2,[0,2,4,5,6])] }
 | 44=>{ own:=[],keep:=[(3,[1,3,4])] }
 | 48=>{ own:=[((2,0),[(1000,3)]),((3,0),[(1000,3)])],keep:=[] }
 | 49=>{ own:=[],keep:=[(2,[0,3])] }
 | 51=>{ own:=[((0,0),[(9000,3)]),((8,3),[(12000,0)]),((9,6),[(13000,0)]),((12,5),[(12000,0)])],keep:=[] }
 | 52=>{ own:=[((0,0),[(9000,3)]),((0,1),[(9000,3)])],keep:=[] }
 | 56=>{ own:=[],keep:=[(19,[0,6,8,10,11,12])] }
 | 58=>{ own:=[],keep:=[(4,[0,1,5])] }
 | 59=>{ own:=[],keep:=[(4,[2,3,5])] }
 | 61=>{ own:=[],keep:=[(4,[0,1,12,13])] }
 | 62=>{ own:=[],keep:=[(4,[1,2,15,16,17])] }
 | 63=>{ own:=[],keep:=[(4,[0,1,12,13])] }
 | 64=>{ own:=[],keep:=[(3,[1,2,5])] }
 | 65=>{ own:=[],keep:=[(3,[1,3,4])] }
 | 66=>{ own:=[],keep:=[(4,[1,3])] }
 | 68=>{ own:=[((10,5),[(0,2)])],keep:=[(9,[0,1,4,7])] }
 | 74=>{ own:=[],keep:=[(3,[0,4,5]),(9,[0,4,6]),(17,[0,7,8])] }
 | 77=>{ own:=[((0,0),[(9000,3)]),((5,3),[(7000,3)])],keep:=[] }
 | 78=>{ own:=[((1,2),[(12000,0)])],keep:=[] }
 | 79=>{ own:=[((4,4),[(0,180)])],keep:=[] }
 | 81=>{ own:=[((1,0),[(0,3)])],keep:=[(3,[0,2,4,7,8])] }
 | 85=>{ own:=[((0,0),[(9000,3)]),((0,1),[(9000,3)]),((1,5),[(12000,0)])],keep:=[] }
 | 86=>{ own:=[((0,0),[(9000,3)]),((0,1),[(9000,3)]),((1,8),[(13000,0)])],keep:=[] }
 | 87=>{ own:=[],keep:=[(2,[0,1,4,6])] }
 | 88=>{ own:=[((8,0),[(0,89)])],keep:=[(3,[0,3,4,6,7])] }
 | 90=>{ own:=[((3,4),[(2,3),(3,3)]),((3,5),[(2,3),(3,3)])],keep:=[(7,[0,4,6,7])] }
 | 91=>{ own:=[((3,4),[(2,3),(3,3)]),((3,5),[(2,3),(3,3)])],keep:=[(7,[0,4,6,7])] }
 | 94=>{ own:=[((1,0),[(0,3)])],keep:=[(3,[0,2,3,4])] }
 | 99=>{ own:=[((1,0),[(0,3)])],keep:=[(3,[0,1,2,7,8])] }
 | 102=>{ own:=[],keep:=[(3,[0,5,6])] }
 | 103=>{ own:=[],keep:=[(3,[1,3,4])] }
 | 104=>{ own:=[],keep:=[(2,[0,2,8])] }
 | 109=>{ own:=[],keep:=[(2,[0,1,7,8])] }
 | 114=>{ own:=[((4,1),[(0,3)]),((4,3),[(0,3)])],keep:=[(6,[6,9,23,24,25])] }
 | 116=>{ own:=[((1,0),[(1000,3)]),((9,3),[(0,180)])],keep:=[(3,[1,2,4,6,9,10,11]),(5,[1,2,4,6,7,8,9,10,11])] }
 | 117=>{ own:=[((13,5),[(0,180)])],keep:=[] }
 | 119=>{ own:=[((0,0),[(9000,3)]),((2,2),[(7000,2)]),((3,3),[(12000,0)])],keep:=[] }
 | 120=>{ own:=[((6,0),[(0,3)]),((6,1),[(0,3)]),((18,4),[(0,180)])],keep:=[(8,[4,6,8,9,38,39,40])] }
 | 122=>{ own:=[((6,1),[(0,3)]),((12,4),[(0,180)])],keep:=[(8,[4,6,8,9,41,42,43])] }
 | 123=>{ own:=[((9,10),[(0,180)])],keep:=[] }
 | 126=>{ own:=[((3,0),[(0,3)])],keep:=[(5,[1,5,6])] }
 | 128=>{ own:=[((1,2),[(2,3)]),((1,3),[(2,3)])],keep:=[(3,[0,1,4,5,6]),(7,[0,1,4,5,6,7,8])] }
 | 129=>{ own:=[((3,0),[(0,3)])],keep:=[(6,[1,2,6,7,8]),(13,[1,6,7,9]),(17,[1,6,7,9,10,11])] }
 | 130=>{ own:=[((6,0),[(0,3)])],keep:=[(2,[1,4]),(8,[1,5,6])] }
 | 131=>{ own:=[((1,0),[(0,3)])],keep:=[(3,[0,1,5,6])] }
 | 133=>{ own:=[],keep:=[(2,[0,1,8])] }
 | 138=>{ own:=[((3,1),[(0,3)])],keep:=[] }
 | 141=>{ own:=[((2,0),[(1000,2)]),((3,0),[(1000,2)])],keep:=[] }
 | 162=>{ own:=[((3,2),[(0,2)])],keep:=[] }
 | 163=>{ own:=[((1,2),[(0,3)])],keep:=[(3,[1,6,14,15,16])] }
 | 165=>{ own:=[],keep:=[(5,[0,3,4])] }
 | 172=>{ own:=[],keep:=[(2,[0,1,7,8])] }
 | 173=>{ own:=[],keep:=[(3,[2,8,13,14,15])] }
 | 178=>{ own:=[],keep:=[(8,[7,8])] }
 | 179=>{ own:=[],keep:=[(2,[0,1,7,8])] }
 | 180=>{ own:=[],keep:=[(2,[0,1,7,8])] }
 | 181=>{ own:=[((9,1),[(2000,3)])],keep:=[(3,[0,3,9,10,11]),(11,[6,25,26,27])] }
 | _=>{}
def env:Env where
 summ:=fun _=>none
 hint:=hintOf
 pure:=fun f=>f != 11 && f != 12 && f != 22 && f != 27 && f != 45 && f != 48 && f != 51 && f != 53 && f != 77 && f != 78 && f != 85 && f != 86 && f != 109 && f != 110 && f != 111 && f != 114 && f != 119 && f != 136 && f != 137 && f != 140 && f != 141 && f != 144 && f != 161 && f != 163 && f != 164 && f != 174 && f != 178 && f != 182 && f != 184
 split:=fun f=>f == 48 || f == 141

theorem ag35:aggT prog 35=some false:=by kernel_rfl
theorem by3:bytesOf prog 3=some 8:=by kernel_rfl
theorem el35:elemOfSlice prog 35=some 3:=by kernel_rfl
theorem el74:elemOfSlice prog 74=some 35:=by kernel_rfl
theorem sz3:szOf prog 3=some 1:=by kernel_rfl
theorem sz35:szOf prog 35=some 1:=by kernel_rfl
theorem un3:prog.underlying 3=some (TypeDesc.int IntKind.i64):=by kernel_rfl
theorem un35:prog.underlying 35=some (TypeDesc.slice 3):=by kernel_rfl
theorem un74:prog.underlying 74=some (TypeDesc.slice 35):=by kernel_rfl
theorem ze3:zeroOf prog 3=some (Dat.raw (Value.int IntKind.i64 (0))):=by kernel_rfl
theorem zn3:(zeroOf prog 3).map Dat.num=some 1:=by kernel_rfl
theorem wrap_i64 {n:Int} (h1:-9223372036854775808≤n) (h2:n < 9223372036854775808):IntKind.i64.wrap n=n:=by
 simp only [IntKind.wrap,IntKind.bits,IntKind.signed]; simp; split <;> omega
theorem wrap_succ {j:Nat} (h:j < 9223372036854775807):IntKind.i64.wrap ((j:Int)+1)=((j+1:Nat):Int):=by rw [wrap_i64 (by omega) (by omega)]; omega

def intsD (l:List Int):Dat:=.lst (l.map Qj)
theorem take_next {α:Type} {l:List α} {j:Nat} (h:j < l.length):l.take (j+1)=l.take j++[l[j]]:=List.take_succ_eq_append_getElem h
def zg (n:Nat):Nat:=if n=0 then 0 else 1
theorem c_Grow (n:Nat) (hn:n≤1000000):PC prog env 184 [.ms 0 0 0 0 0,.dat (Qj (n:Int))] [.mt 3 0 []] (.ms 0 (zg n) 0 0 n) [.mt 3 (zg n) (cellsOf Qj (List.replicate n 0))]:=by
 refine PC_body (fn:=f184) (by kernel_rfl) rfl rfl (by kernel_rfl) rfl ?_
 refine Qgk (st':=⟨[.ms 0 0 0 0 0,.dat (Qj (n:Int)),.tup [],.tup [],.tup [],.tup [],.tup [],.tup [],.tup [],.tup [],.tup [],.tup [],.tup [],.tup [],.tup [],.tup [],.tup [],.tup [],.tup [],.tup [],.tup [],.tup [],.tup [],.tup [],.tup [],.tup [],.tup []],[.mt 3 0 []]⟩) rfl ?_
 repeat (first|refine Qd ?_|refine Qu ?_|refine Qp ?_)
 refine ZN ?_
 (refine OpsE_do rfl ?_; refine XU rfl rfl ?_; refine OpsE_eq (st':=_) (by first|dsimp only [n0,n1,n2,n3,n4,n5,n6,n7,n8,n9,m0,m1,m2,m3,m4,m5,m6,m7,m8,m9,o0,o1,o2,o3,o4,↓reduceIte]|rfl) ?_)
 refine OpsE_nil ?_
 have h0:¬ ((n:Int) < 0):=by omega
 repeat (first|refine Qd ?_|refine Qu ?_|refine Qp ?_)
 refine ZN ?_
 iterate 2 ((refine OpsE_do rfl ?_; first|refine X8 rfl ?_|refine QcI rfl rfl rfl rfl ?_); refine OpsE_eq (st':=_) (by first|(simp only [n0,n1,n2,n3,n4,n5,n6,n7,n8,n9,m0,m1,m2,m3,m4,m5,m6,m7,m8,m9,o0,o1,o2,o3,o4,↓reduceIte,decide_eq_false h0] <;> rfl)|rfl) ?_)
 refine OpsE_nil ?_
 repeat (first|refine Qd ?_|refine Qu ?_|refine Qp ?_)
 refine YN rfl ?_
 have w1:IntKind.i64.wrap ((n:Int) - IntKind.i64.wrap (0 - ((0:Nat):Int)))=(n:Int):=by rw [wrap_i64 (n:=0 - ((0:Nat):Int)) (by omega) (by omega),wrap_i64 (by omega) (by omega)]; omega
 repeat (first|refine Qd ?_|refine Qu ?_|refine Qp ?_)
 refine ZN ?_
 iterate 2 ((refine OpsE_do rfl ?_; refine X8 rfl ?_); refine OpsE_eq (st':=_) (by first|dsimp only [n0,n1,n2,n3,n4,n5,n6,n7,n8,n9,m0,m1,m2,m3,m4,m5,m6,m7,m8,m9,o0,o1,o2,o3,o4,↓reduceIte]|rfl) ?_)
 (refine OpsE_do rfl ?_; refine Qga un35 rfl rfl (ZD rfl) ?_; refine OpsE_eq (st':=_) (by first|dsimp only [n0,n1,n2,n3,n4,n5,n6,n7,n8,n9,m0,m1,m2,m3,m4,m5,m6,m7,m8,m9,o0,o1,o2,o3,o4,↓reduceIte]|rfl) ?_)
 iterate 5 ((refine OpsE_do rfl ?_; first|refine X8 rfl ?_|refine Qff un35 rfl rfl ?_|refine QcI rfl rfl rfl rfl ?_|refine XU rfl rfl ?_); refine OpsE_eq (st':=_) (by first|dsimp only [n0,n1,n2,n3,n4,n5,n6,n7,n8,n9,m0,m1,m2,m3,m4,m5,m6,m7,m8,m9,o0,o1,o2,o3,o4,↓reduceIte]|rfl) ?_)
 refine OpsE_nil ?_
 rw [w1]
 by_cases hz:n=0
 ·subst hz
  repeat (first|refine Qd ?_|refine Qu ?_|refine Qp ?_)
  refine ZN ?_
  iterate 2 ((refine OpsE_do rfl ?_; first|refine X8 rfl ?_|refine QcI rfl rfl rfl rfl ?_); refine OpsE_eq (st':=_) (by first|dsimp only [n0,n1,n2,n3,n4,n5,n6,n7,n8,n9,m0,m1,m2,m3,m4,m5,m6,m7,m8,m9,o0,o1,o2,o3,o4,↓reduceIte]|rfl) ?_)
  refine OpsE_nil ?_
  repeat (first|refine Qd ?_|refine Qu ?_|refine Qp ?_)
  refine YN rfl ?_
  repeat (first|refine Qd ?_|refine Qu ?_|refine Qp ?_)
  refine ZN ?_
  iterate 2 ((refine OpsE_do rfl ?_; first|refine X8 rfl ?_|refine XU rfl rfl ?_); refine OpsE_eq (st':=_) (by first|dsimp only [n0,n1,n2,n3,n4,n5,n6,n7,n8,n9,m0,m1,m2,m3,m4,m5,m6,m7,m8,m9,o0,o1,o2,o3,o4,↓reduceIte]|rfl) ?_)
  refine OpsE_nil ?_
  repeat (first|refine Qd ?_|refine Qu ?_|refine Qp ?_)
  refine Qo ?_
  exact ⟨trivial,_,rfl,rfl,rfl⟩
 ·have hp:((n:Int)) > 0:=by omega
  repeat (first|refine Qd ?_|refine Qu ?_|refine Qp ?_)
  refine ZN ?_
  iterate 2 ((refine OpsE_do rfl ?_; first|refine X8 rfl ?_|refine QcI rfl rfl rfl rfl ?_); refine OpsE_eq (st':=_) (by first|(simp only [n0,n1,n2,n3,n4,n5,n6,n7,n8,n9,m0,m1,m2,m3,m4,m5,m6,m7,m8,m9,o0,o1,o2,o3,o4,↓reduceIte,decide_eq_true hp] <;> rfl)|rfl) ?_)
  refine OpsE_nil ?_
  repeat (first|refine Qd ?_|refine Qu ?_|refine Qp ?_)
  refine QaA rfl ?_
  repeat (first|refine Qd ?_|refine Qu ?_|refine Qp ?_)
  refine ZN ?_
  iterate 2 ((refine OpsE_do rfl ?_; refine X8 rfl ?_); refine OpsE_eq (st':=_) (by first|dsimp only [n0,n1,n2,n3,n4,n5,n6,n7,n8,n9,m0,m1,m2,m3,m4,m5,m6,m7,m8,m9,o0,o1,o2,o3,o4,↓reduceIte]|rfl) ?_)
  (refine OpsE_do rfl ?_; refine Qga un35 rfl rfl (ZD rfl) ?_; refine OpsE_eq (st':=_) (by first|dsimp only [n0,n1,n2,n3,n4,n5,n6,n7,n8,n9,m0,m1,m2,m3,m4,m5,m6,m7,m8,m9,o0,o1,o2,o3,o4,↓reduceIte]|rfl) ?_)
  (refine OpsE_do rfl ?_; refine Qe6 el35 sz3 rfl rfl (cutMs_of (l:=0) (h:=0) rfl rfl (Nat.le_refl _) (Nat.zero_le _) (Or.inl rfl)) ?_; refine OpsE_eq (st':=_) (by first|dsimp only [n0,n1,n2,n3,n4,n5,n6,n7,n8,n9,m0,m1,m2,m3,m4,m5,m6,m7,m8,m9,o0,o1,o2,o3,o4,↓reduceIte]|rfl) ?_)
  (refine OpsE_do rfl ?_; refine X8 rfl ?_; refine OpsE_eq (st':=_) (by first|dsimp only [n0,n1,n2,n3,n4,n5,n6,n7,n8,n9,m0,m1,m2,m3,m4,m5,m6,m7,m8,m9,o0,o1,o2,o3,o4,↓reduceIte]|rfl) ?_)
  (refine OpsE_do rfl ?_; refine QeV (n:=n) el35 un3 sz3 by3 ze3 rfl (by decide) rfl rfl rfl (ZD rfl) (by omega) (by simp [room]; omega) ?_; refine OpsE_eq (st':=_) (by first|dsimp only [n0,n1,n2,n3,n4,n5,n6,n7,n8,n9,m0,m1,m2,m3,m4,m5,m6,m7,m8,m9,o0,o1,o2,o3,o4,↓reduceIte]|rfl) ?_)
  iterate 2 ((refine OpsE_do rfl ?_; first|refine X8 rfl ?_|refine Qff un35 rfl rfl ?_); refine OpsE_eq (st':=_) (by first|dsimp only [n0,n1,n2,n3,n4,n5,n6,n7,n8,n9,m0,m1,m2,m3,m4,m5,m6,m7,m8,m9,o0,o1,o2,o3,o4,↓reduceIte]|rfl) ?_)
  (refine OpsE_do rfl ?_; refine Qe6 el35 sz3 rfl rfl (cutMs_of (l:=0) (h:=0) rfl rfl (Nat.le_refl _) (Nat.zero_le _) (Or.inl rfl)) ?_; refine OpsE_eq (st':=_) (by first|dsimp only [n0,n1,n2,n3,n4,n5,n6,n7,n8,n9,m0,m1,m2,m3,m4,m5,m6,m7,m8,m9,o0,o1,o2,o3,o4,↓reduceIte]|rfl) ?_)
  (refine OpsE_do rfl ?_; refine XU rfl rfl ?_; refine OpsE_eq (st':=_) (by first|dsimp only [n0,n1,n2,n3,n4,n5,n6,n7,n8,n9,m0,m1,m2,m3,m4,m5,m6,m7,m8,m9,o0,o1,o2,o3,o4,↓reduceIte]|rfl) ?_)
  refine OpsE_nil ?_
  repeat (first|refine Qd ?_|refine Qu ?_|refine Qp ?_)
  refine ZN ?_
  iterate 2 ((refine OpsE_do rfl ?_; first|refine X8 rfl ?_|refine XU rfl rfl ?_); refine OpsE_eq (st':=_) (by first|dsimp only [n0,n1,n2,n3,n4,n5,n6,n7,n8,n9,m0,m1,m2,m3,m4,m5,m6,m7,m8,m9,o0,o1,o2,o3,o4,↓reduceIte]|rfl) ?_)
  refine OpsE_nil ?_
  repeat (first|refine Qd ?_|refine Qu ?_|refine Qp ?_)
  refine Qo ?_
  refine ⟨trivial,_,rfl,?_,?_⟩
  ·simp [zg,hz,tupOf]
  ·simp [zg,hz,cellsOf,Qj]
def intssD (ls:List (List Int)):Dat:=.lst (ls.map intsD)
theorem flat_next {ls:List (List Int)} {j:Nat} (h:j < ls.length):(ls.take (j+1)).flatten=(ls.take j).flatten++ls[j]:=by
 rw [take_next h,List.flatten_append]; simp
theorem flat_le {ls:List (List Int)} (j:Nat):(ls.take j).flatten.length≤ls.flatten.length:=by
 have:ls.flatten=(ls.take j).flatten++(ls.drop j).flatten:=by rw [← List.flatten_append,List.take_append_drop]
 rw [this,List.length_append]; omega

theorem c_Concat (ls:List (List Int)) (H:List Blk) (hls:ls.length≤1000) (hfl:ls.flatten.length≤1000000):PC prog env 181 [.dat (intssD ls)] H (.dat (intsD ls.flatten)) H:=by
 refine PC_pure (fn:=f181) (by kernel_rfl) rfl rfl (by kernel_rfl) rfl rfl ?_ (by simp [PV.lends])
 refine Qgk (st':=⟨[.dat (intssD ls),.tup [],.tup [],.tup [],.tup [],.tup [],.tup [],.tup [],.tup [],.tup [],.tup [],.tup [],.tup [],.tup [],.tup [],.tup [],.tup [],.tup [],.tup [],.tup [],.tup [],.tup [],.tup [],.tup [],.tup [],.tup [],.tup [],.tup [],.tup [],.tup [],.tup [],.tup [],.tup [],.tup [],.tup [],.tup []],[]⟩) rfl ?_
 repeat (first|refine Qd ?_|refine Qu ?_|refine Qp ?_)
 refine ZN ?_
 (refine OpsE_do rfl ?_; refine XU rfl rfl ?_; refine OpsE_eq (st':=_) (by first|dsimp only [n0,n1,n2,n3,n4,n5,n6,n7,n8,n9,m0,m1,m2,m3,m4,m5,m6,m7,m8,m9,o0,o1,o2,o3,o4,↓reduceIte]|rfl) ?_)
 refine OpsE_nil ?_
 repeat (first|refine Qd ?_|refine Qu ?_|refine Qp ?_)
 refine ZN ?_
 (refine OpsE_do rfl ?_; refine XU rfl rfl ?_; refine OpsE_eq (st':=_) (by first|dsimp only [n0,n1,n2,n3,n4,n5,n6,n7,n8,n9,m0,m1,m2,m3,m4,m5,m6,m7,m8,m9,o0,o1,o2,o3,o4,↓reduceIte]|rfl) ?_)
 refine OpsE_nil ?_
 repeat (first|refine Qd ?_|refine Qu ?_|refine Qp ?_)
 refine ZN ?_
 iterate 3 ((refine OpsE_do rfl ?_; first|refine X8 rfl ?_|refine Qff un74 rfl rfl ?_); refine OpsE_eq (st':=_) (by first|dsimp only [n0,n1,n2,n3,n4,n5,n6,n7,n8,n9,m0,m1,m2,m3,m4,m5,m6,m7,m8,m9,o0,o1,o2,o3,o4,↓reduceIte]|rfl) ?_)
 refine OpsE_nil ?_
 repeat (first|refine Qd ?_|refine Qu ?_|refine Qp ?_)
 refine Za ?_
 refine RL_ind (fun (j:Nat)=>⟨[.dat (intssD ls),.undef,.undef,Qe ((ls.take j).flatten.length:Int),.undef,.undef,.undef,.undef,.undef,.dat (intssD ls),Qe (ls.length:Int),Qe (j:Int),.undef,.undef,.undef,.undef,.undef,.undef,.undef,.undef,.undef,.undef,.undef,.undef,.undef,.undef,.undef,.undef,.undef,.undef,.undef,.undef,.undef,.undef,.undef,.undef],[]⟩)
  (fun j=>j≤ls.length) (fun j=>ls.length - j) (fun j hj=>?_) _ 0 _ (Nat.lt_succ_self _) (Nat.zero_le _) (by simp only [intssD,List.length_map]; rfl)
 repeat (first|refine Qd ?_|refine Qu ?_|refine Qp ?_)
 refine ZN ?_
 (refine OpsE_do rfl ?_; (first|refine QcI rfl rfl rfl rfl ?_|refine E_bin rfl rfl rfl rfl ?_); refine OpsE_eq (st':=_) (by first|dsimp only [n0,n1,n2,n3,n4,n5,n6,n7,n8,n9,m0,m1,m2,m3,m4,m5,m6,m7,m8,m9,o0,o1,o2,o3,o4,↓reduceIte]|rfl) ?_)
 refine OpsE_nil ?_
 repeat (first|refine Qd ?_|refine Qu ?_|refine Qp ?_)
 refine Qgg rfl (fun h=>?_) (fun h=>?_)
 ·have hj':j < ls.length:=by simpa using h
  have hf:=flat_le (ls:=ls) (j+1)
  rw [flat_next hj',List.length_append] at hf
  repeat (first|refine Qd ?_|refine Qu ?_|refine Qp ?_)
  refine ZN ?_
  (refine OpsE_do rfl ?_; (first|refine QfJ el74 sz35 rfl rfl rfl rfl (map_get _ (by first|assumption|omega)) rfl ?_|refine Qfe el74 sz35 rfl rfl rfl rfl (map_get _ (by first|assumption|omega)) ?_|refine QdW el74 sz35 rfl rfl rfl rfl (map_get _ (by first|assumption|omega)) ?_); refine OpsE_eq (st':=_) (by first|dsimp only [n0,n1,n2,n3,n4,n5,n6,n7,n8,n9,m0,m1,m2,m3,m4,m5,m6,m7,m8,m9,o0,o1,o2,o3,o4,↓reduceIte]|rfl) ?_)
  iterate 2 ((refine OpsE_do rfl ?_; first|refine QfK (ds:=[_]) ag35 sz35 rfl rfl rfl rfl ?_|refine QfL (ds:=[_]) ag35 sz35 rfl rfl rfl rfl rfl ?_|refine XU rfl rfl ?_); refine OpsE_eq (st':=_) (by first|dsimp only [n0,n1,n2,n3,n4,n5,n6,n7,n8,n9,m0,m1,m2,m3,m4,m5,m6,m7,m8,m9,o0,o1,o2,o3,o4,↓reduceIte]|rfl) ?_)
  refine OpsE_nil ?_
  have w1:IntKind.i64.wrap (((ls.take j).flatten.length:Int)+((ls[j].map Qj).length:Int))=((ls.take (j+1)).flatten.length:Int):=by
   rw [flat_next hj',List.length_append,List.length_map,wrap_i64 (by omega) (by omega)]; omega
  have h0:¬ (((ls.take (j+1)).flatten.length:Int) < 0):=by omega
  repeat (first|refine Qd ?_|refine Qu ?_|refine Qp ?_)
  refine ZN ?_
  iterate 5 ((refine OpsE_do rfl ?_; first|refine X8 rfl ?_|refine Qff un35 rfl rfl ?_|refine QcI rfl rfl rfl rfl ?_|refine XU rfl rfl ?_); refine OpsE_eq (st':=_) (by first|(simp only [n0,n1,n2,n3,n4,n5,n6,n7,n8,n9,m0,m1,m2,m3,m4,m5,m6,m7,m8,m9,o0,o1,o2,o3,o4,↓reduceIte,w1] <;> rfl)|rfl) ?_)
  refine OpsE_nil ?_
  repeat (first|refine Qd ?_|refine Qu ?_|refine Qp ?_)
  refine ZN ?_
  iterate 2 ((refine OpsE_do rfl ?_; first|refine X8 rfl ?_|refine QcI rfl rfl rfl rfl ?_); refine OpsE_eq (st':=_) (by first|(simp only [n0,n1,n2,n3,n4,n5,n6,n7,n8,n9,m0,m1,m2,m3,m4,m5,m6,m7,m8,m9,o0,o1,o2,o3,o4,↓reduceIte,decide_eq_false h0] <;> rfl)|rfl) ?_)
  refine OpsE_nil ?_
  repeat (first|refine Qd ?_|refine Qu ?_|refine Qp ?_)
  refine YN rfl ?_
  repeat (first|refine Qd ?_|refine Qu ?_|refine Qp ?_)
  refine ZN ?_
  iterate 2 ((refine OpsE_do rfl ?_; first|refine QcI rfl rfl rfl rfl ?_|refine X8 rfl ?_); refine OpsE_eq (st':=_) (by first|dsimp only [n0,n1,n2,n3,n4,n5,n6,n7,n8,n9,m0,m1,m2,m3,m4,m5,m6,m7,m8,m9,o0,o1,o2,o3,o4,↓reduceIte]|rfl) ?_)
  refine OpsE_nil ?_
  refine ⟨j+1,?_,by omega,hj'⟩
  rw [wrap_succ (by omega)]
  rfl
 ·have hj':j=ls.length:=by simp at h; omega
  subst hj'
  rw [List.take_length]
  repeat (first|refine Qd ?_|refine Qu ?_|refine Qp ?_)
  refine Q7 ?_
  repeat (first|refine Qd ?_|refine Qu ?_|refine Qp ?_)
  refine ZN ?_
  (refine OpsE_do rfl ?_; refine X8 rfl ?_; refine OpsE_eq (st':=_) (by first|dsimp only [n0,n1,n2,n3,n4,n5,n6,n7,n8,n9,m0,m1,m2,m3,m4,m5,m6,m7,m8,m9,o0,o1,o2,o3,o4,↓reduceIte]|rfl) ?_)
  (refine OpsE_do rfl ?_; refine QfR rfl rfl rfl rfl (c_Grow ls.flatten.length hfl) ?_; refine OpsE_eq (st':=_) (by first|dsimp only [n0,n1,n2,n3,n4,n5,n6,n7,n8,n9,m0,m1,m2,m3,m4,m5,m6,m7,m8,m9,o0,o1,o2,o3,o4,↓reduceIte]|rfl) ?_)
  (refine OpsE_do rfl ?_; refine XU rfl rfl ?_; refine OpsE_eq (st':=_) (by first|dsimp only [n0,n1,n2,n3,n4,n5,n6,n7,n8,n9,m0,m1,m2,m3,m4,m5,m6,m7,m8,m9,o0,o1,o2,o3,o4,↓reduceIte]|rfl) ?_)
  refine OpsE_nil ?_
  repeat (first|refine Qd ?_|refine Qu ?_|refine Qp ?_)
  refine ZN ?_
  iterate 3 ((refine OpsE_do rfl ?_; first|refine X8 rfl ?_|refine Qff un74 rfl rfl ?_); refine OpsE_eq (st':=_) (by first|dsimp only [n0,n1,n2,n3,n4,n5,n6,n7,n8,n9,m0,m1,m2,m3,m4,m5,m6,m7,m8,m9,o0,o1,o2,o3,o4,↓reduceIte]|rfl) ?_)
  refine OpsE_nil ?_
  repeat (first|refine Qd ?_|refine Qu ?_|refine Qp ?_)
  refine Za ?_
  refine RL_h0 (h1:=1) rfl ?_
  refine RL_ind (fun (j:Nat)=>⟨[.undef,.undef,.undef,.undef,.undef,.undef,.ms 0 (zg ls.flatten.length) 0 (ls.take j).flatten.length ls.flatten.length,.undef,.undef,.undef,.undef,.undef,.undef,.undef,.undef,.undef,.undef,.undef,.undef,.undef,.undef,.undef,.undef,.undef,.undef,.dat (intssD ls),Qe (ls.length:Int),Qe (j:Int),.undef,.undef,.undef,.undef,.undef,.undef,.undef,.undef],[.mt 3 (zg ls.flatten.length) (cellsOf Qj ((ls.take j).flatten++List.replicate (ls.flatten.length - (ls.take j).flatten.length) 0))]⟩)
   (fun j=>j≤ls.length) (fun j=>ls.length - j) (fun j hj=>?_) _ 0 _ (Nat.lt_succ_self _) (Nat.zero_le _) ?_
  ·repeat (first|refine Qd ?_|refine Qu ?_|refine Qp ?_)
   refine ZN ?_
   (refine OpsE_do rfl ?_; (first|refine QcI rfl rfl rfl rfl ?_|refine E_bin rfl rfl rfl rfl ?_); refine OpsE_eq (st':=_) (by first|dsimp only [n0,n1,n2,n3,n4,n5,n6,n7,n8,n9,m0,m1,m2,m3,m4,m5,m6,m7,m8,m9,o0,o1,o2,o3,o4,↓reduceIte]|rfl) ?_)
   refine OpsE_nil ?_
   repeat (first|refine Qd ?_|refine Qu ?_|refine Qp ?_)
   refine Qgg rfl (fun h=>?_) (fun h=>?_)
   ·have hj':j < ls.length:=by simpa using h
    have hf:=flat_le (ls:=ls) (j+1)
    rw [flat_next hj',List.length_append] at hf
    repeat (first|refine Qd ?_|refine Qu ?_|refine Qp ?_)
    refine ZN ?_
    (refine OpsE_do rfl ?_; (first|refine QfJ el74 sz35 rfl rfl rfl rfl (map_get _ (by first|assumption|omega)) rfl ?_|refine Qfe el74 sz35 rfl rfl rfl rfl (map_get _ (by first|assumption|omega)) ?_|refine QdW el74 sz35 rfl rfl rfl rfl (map_get _ (by first|assumption|omega)) ?_); refine OpsE_eq (st':=_) (by first|dsimp only [n0,n1,n2,n3,n4,n5,n6,n7,n8,n9,m0,m1,m2,m3,m4,m5,m6,m7,m8,m9,o0,o1,o2,o3,o4,↓reduceIte]|rfl) ?_)
    iterate 2 ((refine OpsE_do rfl ?_; first|refine QfK (ds:=[_]) ag35 sz35 rfl rfl rfl rfl ?_|refine QfL (ds:=[_]) ag35 sz35 rfl rfl rfl rfl rfl ?_|refine XU rfl rfl ?_); refine OpsE_eq (st':=_) (by first|dsimp only [n0,n1,n2,n3,n4,n5,n6,n7,n8,n9,m0,m1,m2,m3,m4,m5,m6,m7,m8,m9,o0,o1,o2,o3,o4,↓reduceIte]|rfl) ?_)
    refine OpsE_nil ?_
    have ha:appendMs [.mt 3 (zg ls.flatten.length) (cellsOf Qj ((ls.take j).flatten++List.replicate (ls.flatten.length - (ls.take j).flatten.length) 0))] 3 8 0 (zg ls.flatten.length) 0 (ls.take j).flatten.length ls.flatten.length (cellsOf Qj ls[j]) =
      some (.ms 0 (zg ls.flatten.length) 0 (ls.take (j+1)).flatten.length ls.flatten.length,[.mt 3 (zg ls.flatten.length) (cellsOf Qj ((ls.take (j+1)).flatten++List.replicate (ls.flatten.length - (ls.take (j+1)).flatten.length) 0))]):=by
     rw [flat_next hj']
     generalize (ls.take j).flatten=A at hf ⊢
     generalize ls[j]=B at hf ⊢
     generalize ls.flatten.length=m at hf ⊢
     cases B with
     | nil=>simp only [List.append_nil]; exact appendMs_nil
     | cons x B =>
      rw [ms_append_in (H:=[.mt 3 (zg m) (cellsOf Qj (A++List.replicate (m - A.length) 0))]) (t:=0) (len:=A.length) (es:=x::B) (f:=Qj) (l:=A++List.replicate (m - A.length) 0) (fun _=>rfl) (ZD rfl) (Nat.succ_pos _) (by simp only [List.length_append,List.length_replicate]; omega)]
      have e1:(A++List.replicate (m - A.length) (0:Int)).take A.length=A:=List.take_left' rfl
      have e2:(A++List.replicate (m - A.length) (0:Int)).drop (A.length+(x::B).length)=List.replicate (m - (A++x::B).length) 0:=by
       rw [List.drop_append,List.drop_of_length_le (by omega),List.nil_append,List.drop_replicate,List.length_append]
       congr 1; omega
      rw [e1,e2,Nat.max_eq_left (by omega),List.length_append]
      rfl
    repeat (first|refine Qd ?_|refine Qu ?_|refine Qp ?_)
    refine ZN ?_
    iterate 2 ((refine OpsE_do rfl ?_; refine X8 rfl ?_); refine OpsE_eq (st':=_) (by first|dsimp only [n0,n1,n2,n3,n4,n5,n6,n7,n8,n9,m0,m1,m2,m3,m4,m5,m6,m7,m8,m9,o0,o1,o2,o3,o4,↓reduceIte]|rfl) ?_)
    (refine OpsE_do rfl ?_; refine QdV el35 sz3 by3 zn3 (by decide) rfl rfl (source_lst (f:=Qj) (fun _=>rfl)) ha ?_; refine OpsE_eq (st':=_) (by first|dsimp only [n0,n1,n2,n3,n4,n5,n6,n7,n8,n9,m0,m1,m2,m3,m4,m5,m6,m7,m8,m9,o0,o1,o2,o3,o4,↓reduceIte]|rfl) ?_)
    (refine OpsE_do rfl ?_; refine XU rfl rfl ?_; refine OpsE_eq (st':=_) (by first|dsimp only [n0,n1,n2,n3,n4,n5,n6,n7,n8,n9,m0,m1,m2,m3,m4,m5,m6,m7,m8,m9,o0,o1,o2,o3,o4,↓reduceIte]|rfl) ?_)
    refine OpsE_nil ?_
    repeat (first|refine Qd ?_|refine Qu ?_|refine Qp ?_)
    refine ZN ?_
    iterate 2 ((refine OpsE_do rfl ?_; first|refine QcI rfl rfl rfl rfl ?_|refine X8 rfl ?_); refine OpsE_eq (st':=_) (by first|dsimp only [n0,n1,n2,n3,n4,n5,n6,n7,n8,n9,m0,m1,m2,m3,m4,m5,m6,m7,m8,m9,o0,o1,o2,o3,o4,↓reduceIte]|rfl) ?_)
    refine OpsE_nil ?_
    refine ⟨j+1,?_,by omega,hj'⟩
    rw [wrap_succ (by omega)]
    refine (prune_some rfl).trans ?_
    dsimp only [m6,m7,o0,o1]
    rw [purge_mt]
    rfl
   ·have hj':j=ls.length:=by simp at h; omega
    subst hj'
    rw [List.take_length,Nat.sub_self,List.replicate_zero,List.append_nil]
    repeat (first|refine Qd ?_|refine Qu ?_|refine Qp ?_)
    refine Q7 ?_
    repeat (first|refine Qd ?_|refine Qu ?_|refine Qp ?_)
    refine ZN ?_
    iterate 2 ((refine OpsE_do rfl ?_; first|refine X8 rfl ?_|refine XU rfl rfl ?_); refine OpsE_eq (st':=_) (by first|dsimp only [n0,n1,n2,n3,n4,n5,n6,n7,n8,n9,m0,m1,m2,m3,m4,m5,m6,m7,m8,m9,o0,o1,o2,o3,o4,↓reduceIte]|rfl) ?_)
    refine OpsE_nil ?_
    repeat (first|refine Qd ?_|refine Qu ?_|refine Qp ?_)
    refine Qo ?_
    refine ⟨trivial,_,rfl,?_⟩
    have r1:=pure_ms (H:=[.mt 3 (zg ls.flatten.length) (cellsOf Qj ls.flatten)]) (g:=zg ls.flatten.length) (t:=0) (cap:=ls.flatten.length) (f:=Qj) (fun _=>rfl) (ZD rfl) (Nat.le_refl _)
    rw [List.take_length] at r1
    show (pureC [.mt 3 (zg ls.flatten.length) (cellsOf Qj ls.flatten)] (.ms 0 (zg ls.flatten.length) 0 ls.flatten.length ls.flatten.length)).map PV.dat=_
    rw [r1]
    rfl
  ·refine (prune_some rfl).trans ?_
   dsimp only [m6,m7,o0,o1]
   rw [purge_mt]
   simp only [intssD,List.length_map]
   rfl

def ZV (x:List (List Int)):Option (List Int):=if x.length≤1000∧x.flatten.length≤1000000 then some x.flatten else none
def Qcr:List (List Int)→List Int→Prop:=fun x r=>∀ H,PC prog env 181 ([.lst ((List.map (fun l=>Dat.lst ((List.map Qj) l))) x)].map .dat) H (.dat (.lst ((List.map Qj) r))) H
theorem X5:∀ x r,ZV x=some r→Qcr x r:=by
 intro x r hm
 unfold ZV at hm
 split at hm
 ·rename_i h
  cases hm
  intro H
  exact c_Concat x H h.1 h.2
 ·cases hm
structure Qw where
 shape:(List Int)
 data:(List Int)
def Qw.toD (x:Qw):Dat:=.agg [(.lst ((List.map Qj) x.shape)),(.lst ((List.map Qj) x.data))]
theorem Qw.fit (x:Qw):Dat.fits 2 x.toD=true:=rfl
structure Qa where
 name:ByteArray
 value:Qw
def Qa.toD (x:Qa):Dat:=.agg [(strD x.name),(.lst ((List.map Qj) x.value.shape)),(.lst ((List.map Qj) x.value.data))]
theorem Qa.fit (x:Qa):Dat.fits 3 x.toD=true:=rfl
structure Qc where
 kind:Int
 fn:Int
 axis:Int
 name:ByteArray
 nums:(List Int)
 kids:(List Qc)
mutual
def Qc.toD:Qc→Dat
 | ⟨kind,fn,axis,name,nums,kids⟩=>.agg [(Qj kind),(Qj fn),(Qj axis),(strD name),(.lst ((List.map Qj) nums)),(.lst (Qc.toDs kids))]
def Qc.toDs:List Qc→List Dat
 | []=>[]
 | k::ks=>Qc.toD k::Qc.toDs ks
end
theorem Qc.toDs_eq:∀ l:List Qc,Qc.toDs l=l.map Qc.toD
 | []=>rfl
 | k::ks=>by rw [Qc.toDs,Qc.toDs_eq ks]; rfl
def Qc.ex (x:Qc):Dat:=.agg [(Qj x.kind),(Qj x.fn),(Qj x.axis),(strD x.name),(.lst ((List.map Qj) x.nums)),(.lst (Qc.toDs x.kids))]
theorem Qc.toD_eq (x:Qc):x.toD=x.ex:=by cases x; rfl
theorem Qc.fit (x:Qc):Dat.fits 6 x.toD=true:=by cases x; rfl
structure Xd where
 kind:Int
 text:ByteArray
 n:Int
def Xd.toD (x:Xd):Dat:=.agg [(Qj x.kind),(strD x.text),(Qj x.n)]
theorem Xd.fit (x:Xd):Dat.fits 3 x.toD=true:=rfl
structure Qg where
 name:ByteArray
 value:Qw
def Qg.toD (x:Qg):Dat:=.agg [(strD x.name),(.lst ((List.map Qj) x.value.shape)),(.lst ((List.map Qj) x.value.data))]
theorem Qg.fit (x:Qg):Dat.fits 3 x.toD=true:=rfl
structure Qh where
 kind:Int
 shape:(List Int)
 buffer:Int
 starts:(List Int)
 axis:Int
 amount:Int
 perm:(List Int)
 kids:(List Qh)
mutual
def Qh.toD:Qh→Dat
 | ⟨kind,shape,buffer,starts,axis,amount,perm,kids⟩=>.agg [(Qj kind),(.lst ((List.map Qj) shape)),(Qj buffer),(.lst ((List.map Qj) starts)),(Qj axis),(Qj amount),(.lst ((List.map Qj) perm)),(.lst (Qh.toDs kids))]
def Qh.toDs:List Qh→List Dat
 | []=>[]
 | k::ks=>Qh.toD k::Qh.toDs ks
end
theorem Qh.toDs_eq:∀ l:List Qh,Qh.toDs l=l.map Qh.toD
 | []=>rfl
 | k::ks=>by rw [Qh.toDs,Qh.toDs_eq ks]; rfl
def Qh.ex (x:Qh):Dat:=.agg [(Qj x.kind),(.lst ((List.map Qj) x.shape)),(Qj x.buffer),(.lst ((List.map Qj) x.starts)),(Qj x.axis),(Qj x.amount),(.lst ((List.map Qj) x.perm)),(.lst (Qh.toDs x.kids))]
theorem Qh.toD_eq (x:Qh):x.toD=x.ex:=by cases x; rfl
theorem Qh.fit (x:Qh):Dat.fits 8 x.toD=true:=by cases x; rfl
structure Qm where
 left:(List Int)
 right:(List Int)
 shape:(List Int)
 starts:(List Int)
 axis:Int
 amount:Int
 perm:(List Int)
def Qm.toD (x:Qm):Dat:=.agg [(.lst ((List.map Qj) x.left)),(.lst ((List.map Qj) x.right)),(.lst ((List.map Qj) x.shape)),(.lst ((List.map Qj) x.starts)),(Qj x.axis),(Qj x.amount),(.lst ((List.map Qj) x.perm))]
theorem Qm.fit (x:Qm):Dat.fits 7 x.toD=true:=rfl
structure QE where
 values:(List Int)
 scalar:Bool
def QE.toD (x:QE):Dat:=.agg [(.lst ((List.map Qj) x.values)),(Qam x.scalar)]
theorem QE.fit (x:QE):Dat.fits 2 x.toD=true:=rfl
abbrev Ju:Blk:=(.box [(.fn 161 [(.ptr 4 0)])])
abbrev Qcy:Blk:=(.box [(.fn 137 [(.ptr 0 0)])])
abbrev QeM:Blk:=(.box [(Qe 0),(.dat (strD ByteArray.empty)),(Qe 0)])
abbrev Qv:Blk:=(.box [Ea,Ea,Ea,Ea,(Qe 0),(Qe 0),Ea])
abbrev Xn:Blk:=(.box [(Qe 0),Ea,(Qe 0),Ea,(Qe 0),(Qe 0),Ea,(.dat (.lst (Qh.toDs []))),(.dat (.lst ((List.map Qg.toD) [])))])
abbrev Qa0:Blk:=(.box [(Qe 0),Ea,(Qe 0),Ea,(Qe 0),(Qe 0),Ea,(.dat (.lst (Qh.toDs [])))])
def Qa9 (x:Unit):Option Bool:=some true
def QeW:Unit→Bool→Prop:=fun x r=>∀ H,PC prog env 6 ([].map .dat) H (Qn r) H
theorem QdP:∀ x r,Qa9 x=some r→QeW x r:=by
 intro x r hm
 cases hm
 intro H
 exact PC_of (n:=200) (by kernel_rfl)
def Qb1 (x:(Qw × Int)):Option Bool :=
 match x with
 | (p0,p1) =>
 if (p0.shape.length:Int)≤100 then
  some (decide ((p0.data.length:Int)≤p1))
 else
 some false
def Qep:(Qw × Int)→Bool→Prop:=fun x r=>match x,r with
 | (p0,p1),r0=>∀ H,PC prog env 24 ([(Qw.toD p0),(Qj p1)].map .dat) H (Qn r0) H
theorem Qfp:∀ x r,Qb1 x=some r→Qep x r:=by
 intro x r0 hm
 unfold Qb1 at hm
 unfold Qep
 obtain ⟨p0,p1⟩:=x
 intro H
 refine PC_sx (ds:=[(Qw.toD p0),(Qj p1)]) (fn:=f24) rfl ?_
 refine Qd (R_G (Qb 2 (Qf (Qd (R_G (Qb 2 ?_))))))
 refine QV Qj p0.shape (es:=(List.map Qj) p0.shape) rfl ?_
 refine Qb 2 ?_
 refine Qz 9 hm (rfl) (fun hm=>?_) (fun hm=>?_)
 ·refine Qb 2 ?_
  refine QV Qj p0.data (es:=(List.map Qj) p0.data) rfl ?_
  refine Qb 4 (Qf (Qo ?_))
  obtain rfl:=Qs hm
  exact ⟨trivial,Qk⟩
 refine Qb 7 (Qf (Qo ?_))
 obtain rfl:=Qs hm
 exact ⟨trivial,Qk⟩
def YJ (x:((List Qa) × Int × Int)):Option (Unit ⊕ Unit) :=
 match x with
 | (p0,p1,v201) =>
 if v201 < (p0.length:Int) then
  (idx p0 v201>>=fun v602 =>
  Qb1 (v602.value,p1)>>=fun (v603:Bool) =>
  if v603=false then
   some true
  else
  idx p0 v201>>=fun v604 =>
  some (decide ((v604.name.size:Int) > 100))
  )>>=fun (v601:Bool) =>
  if v601=true then
   some (Sum.inl ())
  else
  YJ (p0,p1,(W (v201+1)))
 else
 some (Sum.inr ())
 partial_fixpoint
def Qc1:((List Qa) × Int × Int)→(Unit ⊕ Unit)→Prop:=fun x r=>match x with
 | (p0,p1,v201)=>∀ st,prune 0 ((QB (QJ [1,1,0,1,0,0] (QO f7))).bind (env.hint 7).keepAt) st=⟨kp 32 [(0,(.dat (.lst ((List.map Qa.toD) p0)))),(1,(Qe p1)),(5,(Qe v201))],[]⟩ →
  RL prog env (env.hint 7) true (QJ [1,1,0,1,0,0] (QO f7)) 0 st (fun e s=>match r with|.inl _=>e=.ret∧∃ d,s=⟨sl d 32 [(4,(Qn false))],[]⟩|.inr (_)=>e=.exit 0∧∃ d,s=⟨sl d 32 [],[]⟩)
theorem QaZ:∀ x r,YJ x=some r→Qc1 x r:=by
 refine YJ.partial_correctness _ (fun YJ QaZ x r hm=>?_)
 unfold Qc1
 obtain ⟨p0,p1,v201⟩:=x
 intro st hst
 refine RL_at hst ?_
 clear hst
 refine Qd (Qd (R_G (Qb 2 ?_)))
 refine QV Qa.toD p0 (es:=(List.map Qa.toD) p0) rfl ?_
 refine Qb 1 (Qf ?_)
 refine Qx hm (rfl) (fun hm=>?_) (fun hm=>?_)
 ·refine Qp (Qd (Qu (Qd ?_)))
  obtain ⟨v601,hs,hm⟩:=Qi hm
  refine Xc (fun d=>⟨sl d 32 [(0,(.dat (.lst ((List.map Qa.toD) p0)))),(1,(Qe p1)),(5,(Qe v201)),(31,(Qn v601))],[]⟩) ?_ (fun d=>?_)
  ·replace hm:=hs
   clear hs
   refine R_G (Qb 2 ?_)
   refine Zt 3 Qa.toD hm rfl (fun _=>rfl) (fun v602 hm=>?_)
   refine Qb 3 ?_
   obtain ⟨v603,hx,hm⟩:=Qi hm
   have hq:=Qfp _ _ hx []
   refine Qq hq ?_
   refine Qb 2 ?_
   refine Qz 23 hm (XH _) (fun hm=>?_) (fun hm=>?_)
   ·refine Qb 8 (Qf ?_)
    obtain rfl:=Qs hm
    exact Qr
   refine Qb 2 ?_
   refine Zt 3 Qa.toD hm rfl (fun _=>rfl) (fun v604 hm=>?_)
   refine Qb 2 ?_
   refine Zq rfl (fun _=>Qch (b:=v604.name) (by kernel_rfl) rfl (by kernel_rfl)) ?_
   refine Qb 2 (Qf ?_)
   obtain rfl:=Qs hm
   exact Qr
  clear hs
  refine Qx hm (QG _) (fun hm=>?_) (fun hm=>?_)
  ·refine Qd (R_G (Qb 1 (Qf (Qo ?_))))
   obtain rfl:=Qs hm
   exact ⟨rfl,Qr⟩
  refine Qp (R_G (Qb 3 (Qf ?_)))
  exact QaZ _ _ hm _ (by kernel_rfl)
 refine Q7 ?_
 obtain rfl:=Qs hm
 exact ⟨rfl,Qr⟩
def Qbo (x:((List Qa) × Int)):Option Bool :=
 match x with
 | (p0,p1) =>
 if (p0.length:Int) > 12 then
  some false
 else
 (
 YJ (p0,p1,0)>>=fun (out:Unit ⊕ Unit) =>
 match out with
 | .inl _ =>
  some false
 | .inr (_) =>
  some true
 )
def Qes:((List Qa) × Int)→Bool→Prop:=fun x r=>match x,r with
 | (p0,p1),r0=>∀ H,PC prog env 7 ([(.lst ((List.map Qa.toD) p0)),(Qj p1)].map .dat) H (Qn r0) H
theorem Qfs:∀ x r,Qbo x=some r→Qes x r:=by
 intro x r0 hm
 unfold Qbo at hm
 unfold Qes
 obtain ⟨p0,p1⟩:=x
 intro H
 refine PC_sx (ds:=[(.lst ((List.map Qa.toD) p0)),(Qj p1)]) (fn:=f7) rfl ?_
 refine Qd (R_G (Qb 1 (Qf (Qd (Qd (R_G (Qb 1 ?_)))))))
 refine QV Qa.toD p0 (es:=(List.map Qa.toD) p0) rfl ?_
 refine Qb 1 (Qf ?_)
 refine Qx hm (rfl) (fun hm=>?_) (fun hm=>?_)
 ·refine Qd (R_G (Qb 1 (Qf (Qo ?_))))
  obtain rfl:=Qs hm
  exact ⟨trivial,Qk⟩
 refine Qp (Qd (Qd (R_G (Qb 1 (Qf (Qu ?_))))))
 obtain ⟨out,hs,hm⟩:=Qi hm
 refine Za ?_
 rcases out with _|_
 ·refine RL_use (QaZ _ _ hs) (by kernel_rfl) ?_
  clear hs
  intro e s hp
  obtain ⟨rfl,d,rfl⟩:=hp
  obtain rfl:=Qs hm
  exact ⟨trivial,Qk⟩
 ·refine RL_use (QaZ _ _ hs) (by kernel_rfl) ?_
  clear hs
  intro e s hp
  obtain ⟨rfl,d,rfl⟩:=hp
  refine Qd (R_G (Qb 1 (Qf (Qo ?_))))
  obtain rfl:=Qs hm
  exact ⟨trivial,Qk⟩
def Ys (x:Int):Option Bool :=
 match x with
 | p0 =>
 (if p0≥65 then
  some (decide (p0≤90))
 else
 some false
 )>>=fun (v1:Bool) =>
 (if v1=true then
  some true
 else
 if p0≥97 then
  some (decide (p0≤122))
 else
 some false
 )>>=fun (v2:Bool) =>
 if v2=true then
  some true
 else
 some (p0 == 95)
def Qc0:Int→Bool→Prop:=fun x r=>match x,r with
 | p0,r0=>∀ H,PC prog env 38 ([(numD .u8 p0)].map .dat) H (Qn r0) H
theorem Qdh:∀ x r,Ys x=some r→Qc0 x r:=by
 intro p0 r0 hm
 unfold Ys at hm
 unfold Qc0
 intro H
 refine PC_sx (ds:=[(numD .u8 p0)]) (fn:=f38) rfl ?_
 refine Qd (R_G (Qb 1 (Qf (Qd ?_))))
 refine Qcx ?_
 refine Qb 3 ?_
 obtain ⟨v1,hs,hm⟩:=Qi hm
 refine Y1 (j:=6) (fun d=>⟨sl d 21 [(0,(.dat (numD .u8 p0))),(2,(Qn false)),(8,(Qn v1))],[]⟩) (fun d=>?_) (fun hJ=>?_)
 ·clear hs
  refine Qb 1 ?_
  obtain ⟨v2,hs,hm⟩:=Qi hm
  refine Y1 (j:=14) (fun d=>⟨sl d 21 [(0,(.dat (numD .u8 p0))),(2,(Qn false)),(16,(Qn v2))],[]⟩) (fun d=>?_) (fun hJ=>?_)
  ·clear hs
   refine Qb 1 ?_
   refine Qz 17 hm (QG _) (fun hm=>?_) (fun hm=>?_)
   ·refine Qb 4 ?_
    refine Qf ⟨by kernel_rfl,?_⟩
    refine Qo ?_
    obtain rfl:=Qs hm
    exact ⟨trivial,Qk⟩
   refine Qb 4 ?_
   refine Qf ⟨by kernel_rfl,?_⟩
   refine Qo ?_
   obtain rfl:=Qs hm
   exact ⟨trivial,Qk⟩
  clear hm
  refine Qz 9 hs (QG _) (fun hm=>?_) (fun hm=>?_)
  ·refine Qb 7 ?_
   obtain rfl:=Qs hm
   exact hJ _ _
  refine Qb 3 ?_
  refine Qz 12 hm (rfl) (fun hm=>?_) (fun hm=>?_)
  ·refine Qb 4 ?_
   obtain rfl:=Qs hm
   exact hJ _ _
  refine Qb 4 ?_
  obtain rfl:=Qs hm
  exact hJ _ _
 clear hm
 refine Qz 5 hs (rfl) (fun hm=>?_) (fun hm=>?_)
 ·refine Qb 3 ?_
  obtain rfl:=Qs hm
  exact hJ _ _
 refine Qb 3 ?_
 obtain rfl:=Qs hm
 exact hJ _ _
def Xf (x:Int):Option Bool :=
 match x with
 | p0 =>
 if p0≥48 then
  some (decide (p0≤57))
 else
 some false
def Qdz:Int→Bool→Prop:=fun x r=>match x,r with
 | p0,r0=>∀ H,PC prog env 67 ([(numD .u8 p0)].map .dat) H (Qn r0) H
theorem QeZ:∀ x r,Xf x=some r→Qdz x r:=by
 intro p0 r0 hm
 unfold Xf at hm
 unfold Qdz
 intro H
 refine PC_sx (ds:=[(numD .u8 p0)]) (fn:=f67) rfl ?_
 refine Qd (R_G (Qb 1 (Qf (Qd (R_G (Qb 3 ?_))))))
 refine Qz 5 hm (rfl) (fun hm=>?_) (fun hm=>?_)
 ·refine Qb 4 (Qf (Qo ?_))
  obtain rfl:=Qs hm
  exact ⟨trivial,Qk⟩
 refine Qb 4 (Qf (Qo ?_))
 obtain rfl:=Qs hm
 exact ⟨trivial,Qk⟩
def ZC (x:(ByteArray × Int)):Option (Int) :=
 match x with
 | (p0,v201) =>
 (if v201 < (p0.size:Int) then
  sidx p0 v201>>=fun v603 =>
  Ys v603>>=fun (v604:Bool) =>
  if v604=true then
   some true
  else
  sidx p0 v201>>=fun v605 =>
  Xf v605>>=fun (v606:Bool) =>
  some v606
 else
 some false
 )>>=fun (v602:Bool) =>
 if v602=true then
  ZC (p0,(W (v201+1)))
 else
 some v201
 partial_fixpoint
def QcZ:(ByteArray × Int)→Int→Prop:=fun x r=>match x with
 | (p0,v201)=>∀ st,prune 0 ((QB (QJ [1,0,0,0] (QO f39))).bind (env.hint 39).keepAt) st=⟨kp 24 [(0,(.dat (strD p0))),(1,(Qe v201))],[]⟩ →
  RL prog env (env.hint 39) true (QJ [1,0,0,0] (QO f39)) 0 st (fun e s=>match r with|v601=>e=.exit 0∧∃ d,s=⟨sl d 24 [(1,(Qe v601))],[]⟩)
theorem QbQ:∀ x r,ZC x=some r→QcZ x r:=by
 refine ZC.partial_correctness _ (fun ZC QbQ x r hm=>?_)
 unfold QcZ
 obtain ⟨p0,v201⟩:=x
 intro st hst
 refine RL_at hst ?_
 clear hst
 refine Qd (Qd ?_)
 obtain ⟨v602,hs,hm⟩:=Qi hm
 refine Xc (fun d=>⟨sl d 24 [(0,(.dat (strD p0))),(1,(Qe v201)),(20,(Qn v602))],[]⟩) ?_ (fun d=>?_)
 ·replace hm:=hs
  clear hs
  refine R_G (Qb 2 ?_)
  refine Zq rfl (fun _=>Qch (b:=p0) (by kernel_rfl) rfl (by kernel_rfl)) ?_
  refine Qb 2 ?_
  refine Qz 9 hm (rfl) (fun hm=>?_) (fun hm=>?_)
  ·refine Qb 2 ?_
   obtain ⟨v603,hx,hm⟩:=Qi hm
   refine Zq rfl (fun _=>QeC (b:=p0) (n:=v201) (v:=v603) (k:=.i64) hx (by kernel_rfl) rfl (by kernel_rfl) (by kernel_rfl)) ?_
   obtain ⟨v604,hx,hm⟩:=Qi hm
   have hq:=Qdh _ _ hx []
   refine Qq hq ?_
   refine Qb 1 ?_
   refine Qz 14 hm (QG _) (fun hm=>?_) (fun hm=>?_)
   ·refine Qb 6 (Qf ?_)
    obtain rfl:=Qs hm
    exact Qr
   refine Qb 2 ?_
   obtain ⟨v605,hx,hm⟩:=Qi hm
   refine Zq rfl (fun _=>QeC (b:=p0) (n:=v201) (v:=v605) (k:=.i64) hx (by kernel_rfl) rfl (by kernel_rfl) (by kernel_rfl)) ?_
   obtain ⟨v606,hx,hm⟩:=Qi hm
   have hq:=QeZ _ _ hx []
   refine Qq hq ?_
   refine Qb 2 (Qf ?_)
   obtain rfl:=Qs hm
   exact Qr
  refine Qb 11 (Qf ?_)
  obtain rfl:=Qs hm
  exact Qr
 clear hs
 refine Qx hm (QG _) (fun hm=>?_) (fun hm=>?_)
 ·refine Qp (Qu (R_G (Qb 3 (Qf ?_))))
  exact QbQ _ _ hm _ (by kernel_rfl)
 refine Q7 ?_
 obtain rfl:=Qs hm
 exact ⟨rfl,Qr⟩
def Qbm (x:(ByteArray × Int)):Option Int :=
 match x with
 | (p0,p1) =>
 ZC (p0,p1)>>=fun (v601:Int) =>
 some v601
def Qeq:(ByteArray × Int)→Int→Prop:=fun x r=>match x,r with
 | (p0,p1),r0=>∀ H,PC prog env 39 ([(strD p0),(Qj p1)].map .dat) H (Qe r0) H
theorem Qfq:∀ x r,Qbm x=some r→Qeq x r:=by
 intro x r0 hm
 unfold Qbm at hm
 unfold Qeq
 obtain ⟨p0,p1⟩:=x
 intro H
 refine PC_sx (ds:=[(strD p0),(Qj p1)]) (fn:=f39) rfl ?_
 refine Qd (R_G (Qb 1 (Qf (Qd (Qu ?_)))))
 obtain ⟨v601,hs,hm⟩:=Qi hm
 refine Za ?_
 refine RL_use (QbQ _ _ hs) (by kernel_rfl) ?_
 clear hs
 intro e s hp
 obtain ⟨rfl,d,rfl⟩:=hp
 refine Qd (R_G (Qb 2 (Qf (Qo ?_))))
 obtain rfl:=Qs hm
 exact ⟨trivial,Qk⟩
def Yf (x:ByteArray):Option Bool :=
 match x with
 | p0 =>
 (if (p0.size:Int) > 0 then
  sidx p0 0>>=fun v2 =>
  Ys v2>>=fun (v3:Bool) =>
  some v3
 else
 some false
 )>>=fun (v1:Bool) =>
 if v1=true then
  Qbm (p0,0)>>=fun (v4:Int) =>
  some (v4 == (p0.size:Int))
 else
 some false
def Qd4:ByteArray→Bool→Prop:=fun x r=>match x,r with
 | p0,r0=>∀ H,PC prog env 25 ([(strD p0)].map .dat) H (Qn r0) H
theorem Qed:∀ x r,Yf x=some r→Qd4 x r:=by
 intro p0 r0 hm
 unfold Yf at hm
 unfold Qd4
 intro H
 refine PC_sx (ds:=[(strD p0)]) (fn:=f25) rfl ?_
 refine Qd (R_G (Qb 1 (Qf (Qd ?_))))
 refine Qcx ?_
 refine Qb 1 ?_
 refine Zq rfl (fun _=>Qch (b:=p0) (by kernel_rfl) rfl (by kernel_rfl)) ?_
 refine Qb 2 ?_
 obtain ⟨v1,hs,hm⟩:=Qi hm
 refine Y1 (j:=8) (fun d=>⟨sl d 18 [(0,(.dat (strD p0))),(2,(Qn false)),(10,(Qn v1))],[]⟩) (fun d=>?_) (fun hJ=>?_)
 ·clear hs
  refine Qb 1 ?_
  refine Qz 11 hm (QG _) (fun hm=>?_) (fun hm=>?_)
  ·refine Qb 1 ?_
   obtain ⟨v4,hx,hm⟩:=Qi hm
   have hq:=Qfq _ _ hx []
   refine Qq hq ?_
   refine Qb 1 ?_
   refine Zq rfl (fun _=>Qch (b:=p0) (by kernel_rfl) rfl (by kernel_rfl)) ?_
   refine Qb 3 ?_
   refine Qf ⟨by kernel_rfl,?_⟩
   refine Qo ?_
   obtain rfl:=Qs hm
   exact ⟨trivial,Qk⟩
  refine Qb 7 ?_
  refine Qf ⟨by kernel_rfl,?_⟩
  refine Qo ?_
  obtain rfl:=Qs hm
  exact ⟨trivial,Qk⟩
 clear hm
 refine Qz 6 hs (rfl) (fun hm=>?_) (fun hm=>?_)
 ·refine Qb 1 ?_
  obtain ⟨v2,hx,hm⟩:=Qi hm
  refine Zq rfl (fun _=>QeC (b:=p0) (n:=0) (v:=v2) (k:=.i64) hx (by kernel_rfl) rfl (by kernel_rfl) (by kernel_rfl)) ?_
  obtain ⟨v3,hx,hm⟩:=Qi hm
  have hq:=Qdh _ _ hx []
  refine Qq hq ?_
  refine Qb 1 ?_
  obtain rfl:=Qs hm
  exact hJ _ _
 refine Qb 4 ?_
 obtain rfl:=Qs hm
 exact hJ _ _
def Zr (x:((List Int) × Bool × Int)):Option (Unit ⊕ Bool) :=
 match x with
 | (p0,v201,v202) =>
 if v202 < (p0.length:Int) then
  idx p0 v202>>=fun v602 =>
  if v602 < 0 then
   some (Sum.inl ())
  else
  if v201=true then
   Zr (p0,true,(W (v202+1)))
  else
  idx p0 v202>>=fun v603 =>
  Zr (p0,(v603 == 0),(W (v202+1)))
 else
 some (Sum.inr v201)
 partial_fixpoint
def QbF:((List Int) × Bool × Int)→(Unit ⊕ Bool)→Prop:=fun x r=>match x with
 | (p0,v201,v202)=>∀ st,prune 0 ((QB (QJ [1,1,0,1,0,0] (QO f74))).bind (env.hint 74).keepAt) st=⟨kp 55 [(0,(La p0)),(4,(Qn v201)),(5,(Qe v202))],[]⟩ →
  RL prog env (env.hint 74) true (QJ [1,1,0,1,0,0] (QO f74)) 0 st (fun e s=>match r with|.inl _=>e=.ret∧∃ d,s=⟨sl d 55 [(2,(Qe 0)),(3,(Qe 6))],[]⟩|.inr (v601)=>e=.exit 0∧∃ d,s=⟨sl d 55 [(0,(La p0)),(4,(Qn v601))],[]⟩)
theorem Xs:∀ x r,Zr x=some r→QbF x r:=by
 refine Zr.partial_correctness _ (fun Zr Xs x r hm=>?_)
 unfold QbF
 obtain ⟨p0,v201,v202⟩:=x
 intro st hst
 refine RL_at hst ?_
 clear hst
 refine Qd (Qd (R_G (Qb 2 ?_)))
 refine QV Qj p0 (es:=(List.map Qj) p0) rfl ?_
 refine Qb 1 (Qf ?_)
 refine Qx hm (rfl) (fun hm=>?_) (fun hm=>?_)
 ·refine Qp (Qd (Qu (Qd (Qd (R_G (Qb 2 ?_))))))
  refine Zt 1 Qj hm rfl (fun _=>rfl) (fun v602 hm=>?_)
  refine Qb 2 (Qf ?_)
  refine Qx hm (rfl) (fun hm=>?_) (fun hm=>?_)
  ·refine Qd (R_G (Qb 2 (Qf (Qo ?_))))
   obtain rfl:=Qs hm
   exact ⟨rfl,Qr⟩
  refine Qp (R_G (Qb 2 ?_))
  refine Qz 21 hm (QG _) (fun hm=>?_) (fun hm=>?_)
  ·refine Qb 7 (Qf (R_G (Qb 3 (Qf ?_))))
   exact Xs _ _ hm _ (by kernel_rfl)
  refine Qb 2 ?_
  refine Zt 1 Qj hm rfl (fun _=>rfl) (fun v603 hm=>?_)
  refine Qb 4 (Qf (R_G (Qb 3 (Qf ?_))))
  exact Xs _ _ hm _ (by kernel_rfl)
 refine Q7 ?_
 obtain rfl:=Qs hm
 exact ⟨rfl,Qr⟩
def Zy (x:((List Int) × Bool × Int)):Option (Unit ⊕ Unit) :=
 match x with
 | (p0,v601,v804) =>
 if v804 < (p0.length:Int) then
  idx p0 v804>>=fun v1204 =>
  if v1204 > 65536 then
   some (Sum.inl ())
  else
  Zy (p0,v601,(W (v804+1)))
 else
 some (Sum.inr ())
 partial_fixpoint
def QbG:((List Int) × Bool × Int)→(Unit ⊕ Unit)→Prop:=fun x r=>match x with
 | (p0,v601,v804)=>∀ st,prune 0 ((QB (QJ [1,1,1,0,1,0,0] (QO f74))).bind (env.hint 74).keepAt) st=⟨kp 55 [(0,(La p0)),(4,(Qn v601)),(6,(Qe v804))],[]⟩ →
  RL prog env (env.hint 74) true (QJ [1,1,1,0,1,0,0] (QO f74)) 0 st (fun e s=>match r with|.inl _=>e=.ret∧∃ d,s=⟨sl d 55 [(2,(Qe 0)),(3,(Qe 7))],[]⟩|.inr (_)=>e=.exit 2∧∃ d,s=⟨sl d 55 [(0,(La p0)),(4,(Qn v601))],[]⟩)
theorem Jh:∀ x r,Zy x=some r→QbG x r:=by
 refine Zy.partial_correctness _ (fun Zy Jh x r hm=>?_)
 unfold QbG
 obtain ⟨p0,v601,v804⟩:=x
 intro st hst
 refine RL_at hst ?_
 clear hst
 refine Qd (Qd (R_G (Qb 2 ?_)))
 refine QV Qj p0 (es:=(List.map Qj) p0) rfl ?_
 refine Qb 1 (Qf ?_)
 refine Qx hm (rfl) (fun hm=>?_) (fun hm=>?_)
 ·refine Qp (Qd (Qu (Qd (R_G (Qb 2 ?_)))))
  refine Zt 1 Qj hm rfl (fun _=>rfl) (fun v1204 hm=>?_)
  refine Qb 2 (Qf ?_)
  refine Qx hm (rfl) (fun hm=>?_) (fun hm=>?_)
  ·refine Qd (R_G (Qb 2 (Qf (Qo ?_))))
   obtain rfl:=Qs hm
   exact ⟨rfl,Qr⟩
  refine Qp (R_G (Qb 3 (Qf ?_)))
  exact Jh _ _ hm _ (by kernel_rfl)
 refine Q7 ?_
 obtain rfl:=Qs hm
 exact ⟨rfl,Qr⟩
def Zz (x:((List Int) × Int × Int)):Option (Unit ⊕ Int) :=
 match x with
 | (p0,v1405,v1406) =>
 if v1406 < (p0.length:Int) then
  idx p0 v1406>>=fun v1806 =>
  if (W (v1405 * v1806)) > 65536 then
   some (Sum.inl ())
  else
  Zz (p0,(W (v1405 * v1806)),(W (v1406+1)))
 else
 some (Sum.inr v1405)
 partial_fixpoint
def QbH:((List Int) × Int × Int)→(Unit ⊕ Int)→Prop:=fun x r=>match x with
 | (p0,v1405,v1406)=>∀ st,prune 0 ((QB (QJ [1,1,1,1,1,1,0,1,0,0] (QO f74))).bind (env.hint 74).keepAt) st=⟨kp 55 [(0,(La p0)),(7,(Qe v1405)),(8,(Qe v1406))],[]⟩ →
  RL prog env (env.hint 74) true (QJ [1,1,1,1,1,1,0,1,0,0] (QO f74)) 0 st (fun e s=>match r with|.inl _=>e=.ret∧∃ d,s=⟨sl d 55 [(2,(Qe 0)),(3,(Qe 7))],[]⟩|.inr (v1805)=>e=.exit 4∧∃ d,s=⟨sl d 55 [(7,(Qe v1805))],[]⟩)
theorem Ji:∀ x r,Zz x=some r→QbH x r:=by
 refine Zz.partial_correctness _ (fun Zz Ji x r hm=>?_)
 unfold QbH
 obtain ⟨p0,v1405,v1406⟩:=x
 intro st hst
 refine RL_at hst ?_
 clear hst
 refine Qd (Qd (R_G (Qb 2 ?_)))
 refine QV Qj p0 (es:=(List.map Qj) p0) rfl ?_
 refine Qb 1 (Qf ?_)
 refine Qx hm (rfl) (fun hm=>?_) (fun hm=>?_)
 ·refine Qp (Qd (Qu (Qd (R_G (Qb 3 ?_)))))
  refine Zt 1 Qj hm rfl (fun _=>rfl) (fun v1806 hm=>?_)
  refine Qb 3 (Qf (Qd (R_G (Qb 2 (Qf ?_)))))
  refine Qx hm (rfl) (fun hm=>?_) (fun hm=>?_)
  ·refine Qd (R_G (Qb 2 (Qf (Qo ?_))))
   obtain rfl:=Qs hm
   exact ⟨rfl,Qr⟩
  refine Qp (R_G (Qb 3 (Qf ?_)))
  exact Ji _ _ hm _ (by kernel_rfl)
 refine Q7 ?_
 obtain rfl:=Qs hm
 exact ⟨rfl,Qr⟩
def Xz (x:(List Int)):Option (Int × Int) :=
 match x with
 | p0 =>
 (
 Zr (p0,false,0)>>=fun (out:Unit ⊕ Bool) =>
 match out with
 | .inl _ =>
  some (0,6)
 | .inr (v601) =>
  (
  Zy (p0,v601,0)>>=fun (out:Unit ⊕ Unit) =>
  match out with
  | .inl _ =>
   some (0,7)
  | .inr (_) =>
   if v601=true then
    some (0,0)
   else
   (
   Zz (p0,1,0)>>=fun (out:Unit ⊕ Int) =>
   match out with
   | .inl _ =>
    some (0,7)
   | .inr (v1805) =>
    some (v1805,0)
   )
  )
 )
def QcL:(List Int)→(Int × Int)→Prop:=fun x r=>match x,r with
 | p0,(r0,r1)=>∀ H,PC prog env 74 ([(Lb p0)].map .dat) H (.tup [(Qe r0),(Qe r1)]) H
theorem QcQ:∀ x r,Xz x=some r→QcL x r:=by
 intro p0 r hm
 unfold Xz at hm
 unfold QcL
 obtain ⟨r0,r1⟩:=r
 intro H
 refine PC_sx (ds:=[(Lb p0)]) (fn:=f74) rfl ?_
 refine Qd (R_G (Qb 2 (Qf (Qd (R_G (Qb 1 (Qf (Qd (Qd (R_G (Qb 1 ?_)))))))))))
 refine Qf (Qu ?_)
 obtain ⟨out,hs,hm⟩:=Qi hm
 refine Za ?_
 rcases out with _|v601
 ·refine RL_use (Xs _ _ hs) (by kernel_rfl) ?_
  clear hs
  intro e s hp
  obtain ⟨rfl,d,rfl⟩:=hp
  obtain ⟨rfl,rfl⟩:=Q8 hm
  exact ⟨trivial,Qk⟩
 ·refine RL_use (Xs _ _ hs) (by kernel_rfl) ?_
  clear hs
  intro e s hp
  obtain ⟨rfl,d,rfl⟩:=hp
  refine Qd (Qd (R_G (Qb 1 (Qf (Qu ?_)))))
  obtain ⟨out,hs,hm⟩:=Qi hm
  refine Za ?_
  rcases out with _|_
  ·refine RL_use (Jh _ _ hs) (by kernel_rfl) ?_
   clear hs
   intro e s hp
   obtain ⟨rfl,d,rfl⟩:=hp
   obtain ⟨rfl,rfl⟩:=Q8 hm
   exact ⟨trivial,Qk⟩
  ·refine RL_use (Jh _ _ hs) (by kernel_rfl) ?_
   clear hs
   intro e s hp
   obtain ⟨rfl,d,rfl⟩:=hp
   refine Qd (Qd (R_G (Qb 1 (Qf ?_))))
   refine Qx hm (QG _) (fun hm=>?_) (fun hm=>?_)
   ·refine Qd (R_G (Qb 2 (Qf (Qo ?_))))
    obtain ⟨rfl,rfl⟩:=Q8 hm
    exact ⟨trivial,Qk⟩
   refine Qp (Qd (R_G (Qb 1 (Qf (Qd (Qd (R_G (Qb 1 (Qf (Qu ?_))))))))))
   obtain ⟨out,hs,hm⟩:=Qi hm
   refine Za ?_
   rcases out with _|v1805
   ·refine RL_use (Ji _ _ hs) (by kernel_rfl) ?_
    clear hs
    intro e s hp
    obtain ⟨rfl,d,rfl⟩:=hp
    obtain ⟨rfl,rfl⟩:=Q8 hm
    exact ⟨trivial,Qk⟩
   ·refine RL_use (Ji _ _ hs) (by kernel_rfl) ?_
    clear hs
    intro e s hp
    obtain ⟨rfl,d,rfl⟩:=hp
    refine Qd (R_G (Qb 3 (Qf (Qo ?_))))
    obtain ⟨rfl,rfl⟩:=Q8 hm
    exact ⟨trivial,Qk⟩
def Z3 (x:((List Int) × Int)):Option (Unit ⊕ Unit) :=
 match x with
 | (p0,v201) =>
 if v201 < (p0.length:Int) then
  idx p0 v201>>=fun v601 =>
  if v601 < 0 then
   some (Sum.inl ())
  else
  Z3 (p0,(W (v201+1)))
 else
 some (Sum.inr ())
 partial_fixpoint
def Qci:((List Int) × Int)→(Unit ⊕ Unit)→Prop:=fun x r=>match x with
 | (p0,v201)=>∀ st,prune 0 ((QB (QJ [1,0,1,0,0] (QO f49))).bind (env.hint 49).keepAt) st=⟨kp 29 [(0,(La p0)),(3,(Qe v201))],[]⟩ →
  RL prog env (env.hint 49) true (QJ [1,0,1,0,0] (QO f49)) 0 st (fun e s=>match r with|.inl _=>e=.ret∧∃ d,s=⟨sl d 29 [(2,(Qe 6))],[]⟩|.inr (_)=>e=.exit 0∧∃ d,s=⟨sl d 29 [(0,(La p0))],[]⟩)
theorem Qab:∀ x r,Z3 x=some r→Qci x r:=by
 refine Z3.partial_correctness _ (fun Z3 Qab x r hm=>?_)
 unfold Qci
 obtain ⟨p0,v201⟩:=x
 intro st hst
 refine RL_at hst ?_
 clear hst
 refine Qd (Qd (R_G (Qb 2 ?_)))
 refine QV Qj p0 (es:=(List.map Qj) p0) rfl ?_
 refine Qb 1 (Qf ?_)
 refine Qx hm (rfl) (fun hm=>?_) (fun hm=>?_)
 ·refine Qp (Qd (Qu (Qd (R_G (Qb 2 ?_)))))
  refine Zt 1 Qj hm rfl (fun _=>rfl) (fun v601 hm=>?_)
  refine Qb 2 (Qf ?_)
  refine Qx hm (rfl) (fun hm=>?_) (fun hm=>?_)
  ·refine Qd (R_G (Qb 1 (Qf (Qo ?_))))
   obtain rfl:=Qs hm
   exact ⟨rfl,Qr⟩
  refine Qp (R_G (Qb 3 (Qf ?_)))
  exact Qab _ _ hm _ (by kernel_rfl)
 refine Q7 ?_
 obtain rfl:=Qs hm
 exact ⟨rfl,Qr⟩
def Jo (x:(List Int)):Option Int :=
 match x with
 | p0 =>
 (
 Z3 (p0,0)>>=fun (out:Unit ⊕ Unit) =>
 match out with
 | .inl _ =>
  some 6
 | .inr (_) =>
  Xz p0>>=fun ((v602,v603):(Int × Int)) =>
  (if (p0.length:Int) > 16 then
   some true
  else
  some (v603 != 0)
  )>>=fun (v604:Bool) =>
  if v604=true then
   some 7
  else
  some 0
 )
def Qdx:(List Int)→Int→Prop:=fun x r=>match x,r with
 | p0,r0=>∀ H,PC prog env 49 ([(Lb p0)].map .dat) H (Qe r0) H
theorem QdR:∀ x r,Jo x=some r→Qdx x r:=by
 intro p0 r0 hm
 unfold Jo at hm
 unfold Qdx
 intro H
 refine PC_sx (ds:=[(Lb p0)]) (fn:=f49) rfl ?_
 refine Qd (R_G (Qb 1 (Qf (Qd (Qd (R_G (Qb 1 (Qf (Qu ?_)))))))))
 obtain ⟨out,hs,hm⟩:=Qi hm
 refine Za ?_
 rcases out with _|_
 ·refine RL_use (Qab _ _ hs) (by kernel_rfl) ?_
  clear hs
  intro e s hp
  obtain ⟨rfl,d,rfl⟩:=hp
  obtain rfl:=Qs hm
  exact ⟨trivial,Qk⟩
 ·refine RL_use (Qab _ _ hs) (by kernel_rfl) ?_
  clear hs
  intro e s hp
  obtain ⟨rfl,d,rfl⟩:=hp
  refine Qd (R_G (Qb 1 ?_))
  obtain ⟨⟨v602,v603⟩,hx,hm⟩:=Qi hm
  have hq:=QcQ _ _ hx []
  refine Qq hq ?_
  refine Qb 5 (Qf (Qd (Qd ?_)))
  obtain ⟨v604,hs,hm⟩:=Qi hm
  refine Xc (fun d=>⟨sl d 29 [(28,(Qn v604))],[]⟩) ?_ (fun d=>?_)
  ·replace hm:=hs
   clear hs
   refine R_G (Qb 1 ?_)
   refine QV Qj p0 (es:=(List.map Qj) p0) rfl ?_
   refine Qb 2 ?_
   refine Qz 25 hm (rfl) (fun hm=>?_) (fun hm=>?_)
   ·refine Qb 3 (Qf ?_)
    obtain rfl:=Qs hm
    exact Qr
   refine Qb 3 (Qf ?_)
   obtain rfl:=Qs hm
   exact Qr
  clear hs
  refine Qx hm (QG _) (fun hm=>?_) (fun hm=>?_)
  ·refine Qd (R_G (Qb 1 (Qf (Qo ?_))))
   obtain rfl:=Qs hm
   exact ⟨trivial,Qk⟩
  refine Qp (Qd (R_G (Qb 1 (Qf (Qo ?_)))))
  obtain rfl:=Qs hm
  exact ⟨trivial,Qk⟩
def Qan (x:(List Int)):Option Int :=
 match x with
 | p0 =>
 Jo p0>>=fun (v1:Int) =>
 if v1≠0 then
  some 0
 else
 Xz p0>>=fun ((v2,v3):(Int × Int)) =>
 some v2
def Qdw:(List Int)→Int→Prop:=fun x r=>match x,r with
 | p0,r0=>∀ H,PC prog env 50 ([(Lb p0)].map .dat) H (Qe r0) H
theorem QeX:∀ x r,Qan x=some r→Qdw x r:=by
 intro p0 r0 hm
 unfold Qan at hm
 unfold Qdw
 intro H
 refine PC_sx (ds:=[(Lb p0)]) (fn:=f50) rfl ?_
 refine Qd (R_G (Qb 1 (Qf (Qd (Qd (R_G (Qb 1 ?_)))))))
 obtain ⟨v1,hx,hm⟩:=Qi hm
 have hq:=QdR _ _ hx []
 refine Qq hq ?_
 refine Qb 1 (Qf ?_)
 refine Qx hm (ne_dec _ _) (fun hm=>?_) (fun hm=>?_)
 ·refine Qd (R_G (Qb 1 (Qf (Qo ?_))))
  obtain rfl:=Qs hm
  exact ⟨trivial,Qk⟩
 refine Qp (Qd (R_G (Qb 1 ?_)))
 obtain ⟨⟨v2,v3⟩,hx,hm⟩:=Qi hm
 have hq:=QcQ _ _ hx []
 refine Qq hq ?_
 refine Qb 5 (Qf (Qd (R_G (Qb 2 (Qf (Qo ?_))))))
 obtain rfl:=Qs hm
 exact ⟨trivial,Qk⟩
def Qao (x:Qw):Option Int :=
 match x with
 | p0 =>
 Jo p0.shape>>=fun (v1:Int) =>
 (if v1=0 then
  Qan p0.shape>>=fun (v3:Int) =>
  some ((p0.data.length:Int) != v3)
 else
 some false
 )>>=fun (v2:Bool) =>
 if v2=true then
  some 5
 else
 some v1
def Qdy:Qw→Int→Prop:=fun x r=>match x,r with
 | p0,r0=>∀ H,PC prog env 26 ([(Qw.toD p0)].map .dat) H (Qe r0) H
theorem QeY:∀ x r,Qao x=some r→Qdy x r:=by
 intro p0 r0 hm
 unfold Qao at hm
 unfold Qdy
 intro H
 refine PC_sx (ds:=[(Qw.toD p0)]) (fn:=f26) rfl ?_
 refine Qd (R_G (Qb 2 (Qf (Qd (R_G (Qb 2 ?_))))))
 obtain ⟨v1,hx,hm⟩:=Qi hm
 have hq:=QdR _ _ hx []
 refine Qq hq ?_
 refine Qb 1 (Qf (Qd (Qd ?_)))
 obtain ⟨v2,hs,hm⟩:=Qi hm
 refine Xc (fun d=>⟨sl d 19 [(3,(Qe v1)),(17,(Qn v2))],[(.box [(La p0.shape),(La p0.data)])]⟩) ?_ (fun d=>?_)
 ·replace hm:=hs
  clear hs
  refine Qbt ?_
  refine Qb 3 ?_
  refine Qz 9 hm (ZW _ _) (fun hm=>?_) (fun hm=>?_)
  ·refine Qb 2 ?_
   refine QV Qj p0.data (es:=(List.map Qj) p0.data) rfl ?_
   refine Qb 2 ?_
   obtain ⟨v3,hx,hm⟩:=Qi hm
   have hq:=QeX _ _ hx []
   refine Qq hq ?_
   refine Qb 2 ?_
   refine Qf ⟨by kernel_rfl,?_⟩
   obtain rfl:=Qs hm
   exact Qr
  refine Qb 8 ?_
  refine Qf ⟨by kernel_rfl,?_⟩
  obtain rfl:=Qs hm
  exact Qr
 clear hs
 refine Qx hm (QG _) (fun hm=>?_) (fun hm=>?_)
 ·refine Qd (R_G (Qb 1 (Qf (Qo ?_))))
  obtain rfl:=Qs hm
  exact ⟨trivial,Qk⟩
 refine Qp (Qd (R_G (Qb 2 (Qf (Qo ?_)))))
 obtain rfl:=Qs hm
 exact ⟨trivial,Qk⟩
def Yk (x:(Int × (List Qa) × Int)):Option (Unit ⊕ Unit) :=
 match x with
 | (v201,p0,v806) =>
 if v806 < v201 then
  idx p0 v806>>=fun v1206 =>
  idx p0 v201>>=fun v1207 =>
  if v1206.name=v1207.name then
   some (Sum.inl ())
  else
  Yk (v201,p0,(W (v806+1)))
 else
 some (Sum.inr ())
 partial_fixpoint
def Qcl:(Int × (List Qa) × Int)→(Unit ⊕ Unit)→Prop:=fun x r=>match x with
 | (v201,p0,v806)=>∀ st,prune 0 ((QB (QJ [1,0,1,0,0,1,0,0,1,1,0,0] (QO f8))).bind (env.hint 8).keepAt) st=⟨kp 43 [(0,(.dat (.lst ((List.map Qa.toD) p0)))),(3,(Qe v201)),(4,(Qe v806))],[]⟩ →
  RL prog env (env.hint 8) true (QJ [1,0,1,0,0,1,0,0,1,1,0,0] (QO f8)) 0 st (fun e s=>match r with|.inl _=>e=.ret∧∃ d,s=⟨sl d 43 [(2,(Qn false))],[]⟩|.inr (_)=>e=.exit 2∧∃ d,s=⟨sl d 43 [(0,(.dat (.lst ((List.map Qa.toD) p0)))),(3,(Qe v201))],[]⟩)
theorem Qag:∀ x r,Yk x=some r→Qcl x r:=by
 refine Yk.partial_correctness _ (fun Yk Qag x r hm=>?_)
 unfold Qcl
 obtain ⟨v201,p0,v806⟩:=x
 intro st hst
 refine RL_at hst ?_
 clear hst
 refine Qd (Qd (R_G (Qb 3 (Qf ?_))))
 refine Qx hm (rfl) (fun hm=>?_) (fun hm=>?_)
 ·refine Qp (Qd (Qu (Qd ?_)))
  refine Qbt ?_
  refine Qb 2 ?_
  refine Zt 3 Qa.toD hm rfl (fun _=>rfl) (fun v1206 hm=>?_)
  refine Qb 4 ?_
  refine Zt 3 Qa.toD hm rfl (fun _=>rfl) (fun v1207 hm=>?_)
  refine Qb 2 ?_
  refine Zq rfl (fun _=>Qbf (a:=v1206.name) (b:=v1207.name) rfl (by kernel_rfl) (by kernel_rfl)) ?_
  refine Qf ⟨by kernel_rfl,?_⟩
  refine Qx hm (rfl) (fun hm=>?_) (fun hm=>?_)
  ·refine Qd (R_G (Qb 1 (Qf (Qo ?_))))
   obtain rfl:=Qs hm
   exact ⟨rfl,Qr⟩
  refine Qp (R_G (Qb 3 (Qf ?_)))
  exact Qag _ _ hm _ (by kernel_rfl)
 refine Q7 ?_
 obtain rfl:=Qs hm
 exact ⟨rfl,Qr⟩
def Yj (x:((List Qa) × Int)):Option (Unit ⊕ Unit) :=
 match x with
 | (p0,v201) =>
 if v201 < (p0.length:Int) then
  (idx p0 v201>>=fun v602 =>
  Yf v602.name>>=fun (v603:Bool) =>
  if v603=false then
   some true
  else
  idx p0 v201>>=fun v604 =>
  Qao v604.value>>=fun (v605:Int) =>
  some (v605 != 0)
  )>>=fun (v601:Bool) =>
  if v601=true then
   some (Sum.inl ())
  else
  (
  Yk (v201,p0,0)>>=fun (out:Unit ⊕ Unit) =>
  match out with
  | .inl _ =>
   some (Sum.inl ())
  | .inr (_) =>
   Yj (p0,(W (v201+1)))
  )
 else
 some (Sum.inr ())
 partial_fixpoint
def Qck:((List Qa) × Int)→(Unit ⊕ Unit)→Prop:=fun x r=>match x with
 | (p0,v201)=>∀ st,prune 0 ((QB (QJ [1,0,1,0,0] (QO f8))).bind (env.hint 8).keepAt) st=⟨kp 43 [(0,(.dat (.lst ((List.map Qa.toD) p0)))),(3,(Qe v201))],[]⟩ →
  RL prog env (env.hint 8) true (QJ [1,0,1,0,0] (QO f8)) 0 st (fun e s=>match r with|.inl _=>e=.ret∧∃ d,s=⟨sl d 43 [(2,(Qn false))],[]⟩|.inr (_)=>e=.exit 0∧∃ d,s=⟨sl d 43 [],[]⟩)
theorem Qaf:∀ x r,Yj x=some r→Qck x r:=by
 refine Yj.partial_correctness _ (fun Yj Qaf x r hm=>?_)
 unfold Qck
 obtain ⟨p0,v201⟩:=x
 intro st hst
 refine RL_at hst ?_
 clear hst
 refine Qd (Qd (R_G (Qb 2 ?_)))
 refine QV Qa.toD p0 (es:=(List.map Qa.toD) p0) rfl ?_
 refine Qb 1 (Qf ?_)
 refine Qx hm (rfl) (fun hm=>?_) (fun hm=>?_)
 ·refine Qp (Qd (Qu (Qd (Qd ?_))))
  obtain ⟨v601,hs,hm⟩:=Qi hm
  refine Xc (fun d=>⟨sl d 43 [(0,(.dat (.lst ((List.map Qa.toD) p0)))),(3,(Qe v201)),(26,(Qn v601))],[]⟩) ?_ (fun d=>?_)
  ·replace hm:=hs
   clear hs
   refine R_G (Qb 2 ?_)
   refine Zt 3 Qa.toD hm rfl (fun _=>rfl) (fun v602 hm=>?_)
   refine Qb 2 ?_
   obtain ⟨v603,hx,hm⟩:=Qi hm
   have hq:=Qed _ _ hx []
   refine Qq hq ?_
   refine Qb 2 ?_
   refine Qz 18 hm (XH _) (fun hm=>?_) (fun hm=>?_)
   ·refine Qb 8 (Qf ?_)
    obtain rfl:=Qs hm
    exact Qr
   refine Qb 2 ?_
   refine Zt 3 Qa.toD hm rfl (fun _=>rfl) (fun v604 hm=>?_)
   refine Qb 2 ?_
   obtain ⟨v605,hx,hm⟩:=Qi hm
   have hq:=QeY _ _ hx []
   refine Qq hq ?_
   refine Qb 2 (Qf ?_)
   obtain rfl:=Qs hm
   exact Qr
  clear hs
  refine Qx hm (QG _) (fun hm=>?_) (fun hm=>?_)
  ·refine Qd (R_G (Qb 1 (Qf (Qo ?_))))
   obtain rfl:=Qs hm
   exact ⟨rfl,Qr⟩
  refine Qp (Qd (R_G (Qb 1 (Qf (Qu ?_)))))
  obtain ⟨out,hs,hm⟩:=Qi hm
  refine Za ?_
  rcases out with _|_
  ·refine RL_use (Qag _ _ hs) (by kernel_rfl) ?_
   clear hs
   intro e s hp
   obtain ⟨rfl,d,rfl⟩:=hp
   obtain rfl:=Qs hm
   exact ⟨rfl,Qr⟩
  ·refine RL_use (Qag _ _ hs) (by kernel_rfl) ?_
   clear hs
   intro e s hp
   obtain ⟨rfl,d,rfl⟩:=hp
   refine R_G (Qb 3 (Qf ?_))
   exact Qaf _ _ hm _ (by kernel_rfl)
 refine Q7 ?_
 obtain rfl:=Qs hm
 exact ⟨rfl,Qr⟩
def Qas (x:(List Qa)):Option Bool :=
 match x with
 | p0 =>
 (
 Yj (p0,0)>>=fun (out:Unit ⊕ Unit) =>
 match out with
 | .inl _ =>
  some false
 | .inr (_) =>
  some true
 )
def QdE:(List Qa)→Bool→Prop:=fun x r=>match x,r with
 | p0,r0=>∀ H,PC prog env 8 ([(.lst ((List.map Qa.toD) p0))].map .dat) H (Qn r0) H
theorem Qe3:∀ x r,Qas x=some r→QdE x r:=by
 intro p0 r0 hm
 unfold Qas at hm
 unfold QdE
 intro H
 refine PC_sx (ds:=[(.lst ((List.map Qa.toD) p0))]) (fn:=f8) rfl ?_
 refine Qd (R_G (Qb 1 (Qf (Qd (Qd (R_G (Qb 1 (Qf (Qu ?_)))))))))
 obtain ⟨out,hs,hm⟩:=Qi hm
 refine Za ?_
 rcases out with _|_
 ·refine RL_use (Qaf _ _ hs) (by kernel_rfl) ?_
  clear hs
  intro e s hp
  obtain ⟨rfl,d,rfl⟩:=hp
  obtain rfl:=Qs hm
  exact ⟨trivial,Qk⟩
 ·refine RL_use (Qaf _ _ hs) (by kernel_rfl) ?_
  clear hs
  intro e s hp
  obtain ⟨rfl,d,rfl⟩:=hp
  refine Qd (R_G (Qb 1 (Qf (Qo ?_))))
  obtain rfl:=Qs hm
  exact ⟨trivial,Qk⟩
mutual
def Z1 (x:(Qc × Int × Int)):Option (Int) :=
 match x with
 | (p0,v201,v202) =>
 (if v202 < (p0.kids.length:Int) then
  some (decide (v201≥0))
 else
 some false
 )>>=fun (v602:Bool) =>
 if v602=true then
  idx p0.kids v202>>=fun v603 =>
  Jd (v603,v201)>>=fun (v604:Int) =>
  Z1 (p0,v604,(W (v202+1)))
 else
 some v201
 partial_fixpoint
def Jd (x:(Qc × Int)):Option Int :=
 match x with
 | (p0,p1) =>
 Z1 (p0,(W (p1 - 1)),0)>>=fun (v601:Int) =>
 some v601
 partial_fixpoint
end
def Qav:(Qc × Int × Int)→Int→Prop:=fun x r=>match x with
 | (p0,v201,v202)=>∀ st,prune 1 ((QB (QJ [1,1,0,1,0,0] (QO f64))).bind (env.hint 64).keepAt) st=⟨kp 27 [(1,(Qe v201)),(2,(.ptr 0 0)),(5,(Qe v202))],[(.box [(Qe p0.kind),(Qe p0.fn),(Qe p0.axis),(.dat (strD p0.name)),(La p0.nums),(.dat (.lst (Qc.toDs p0.kids)))])]⟩ →
  RL prog env (env.hint 64) true (QJ [1,1,0,1,0,0] (QO f64)) 1 st (fun e s=>match r with|v601=>e=.exit 0∧∃ d,s=⟨sl d 27 [(1,(Qe v601))],[(.box [(Qe p0.kind),(Qe p0.fn),(Qe p0.axis),(.dat (strD p0.name)),(La p0.nums),(.dat (.lst (Qc.toDs p0.kids)))])]⟩)
def QbB:(Qc × Int)→Int→Prop:=fun x r=>match x,r with
 | (p0,p1),r0=>∀ H,PC prog env 64 ([(Qc.ex p0),(Qj p1)].map .dat) H (Qe r0) H
theorem g_ref08_left_L1:(∀ x r,Z1 x=some r→Qav x r)∧(∀ x r,Jd x=some r→QbB x r):=by
 refine Z1.mutual_partial_correctness Qav QbB ?_ ?_
 ·intro Z1 Jd Qay QcD x r hm
  unfold Qav
  obtain ⟨p0,v201,v202⟩:=x
  intro st hst
  refine RL_at hst ?_
  clear hst
  refine Qd (Qd ?_)
  obtain ⟨v602,hs,hm⟩:=Qi hm
  refine Xc (fun d=>⟨sl d 27 [(1,(Qe v201)),(2,(.ptr 0 0)),(5,(Qe v202)),(16,(Qn v602))],[(.box [(Qe p0.kind),(Qe p0.fn),(Qe p0.axis),(.dat (strD p0.name)),(La p0.nums),(.dat (.lst (Qc.toDs p0.kids)))])]⟩) ?_ (fun d=>?_)
  ·replace hm:=hs
   clear hs
   refine R_G (Qb 3 ?_)
   refine QV Qc.toD p0.kids (es:=Qc.toDs p0.kids) (Qc.toDs_eq _) ?_
   refine Qb 2 ?_
   refine Qz 13 hm (rfl) (fun hm=>?_) (fun hm=>?_)
   ·refine Qb 3 (Qf ?_)
    obtain rfl:=Qs hm
    exact Qr
   refine Qb 3 (Qf ?_)
   obtain rfl:=Qs hm
   exact Qr
  clear hs
  refine Qx hm (QG _) (fun hm=>?_) (fun hm=>?_)
  ·refine Qp (Qd (Qu (R_G (Qb 3 ?_))))
   obtain ⟨v603,hx,hm⟩:=Qi hm
   refine Qbg 6 Qc.toD p0.kids v202 v603 (es:=Qc.toDs p0.kids) (d:=(Qc.ex v603)) (Qc.toDs_eq _) hx (Qc.toD_eq v603) rfl ?_
   refine Qb 2 ?_
   obtain ⟨v604,hx,hm⟩:=Qi hm
   have hq:=QcD _ _ hx []
   refine Qq hq ?_
   refine Qb 1 (Qf (R_G (Qb 3 (Qf ?_))))
   exact Qay _ _ hm _ (by kernel_rfl)
  refine Q7 ?_
  obtain rfl:=Qs hm
  exact ⟨rfl,Qr⟩
 ·intro Z1 Qay x r0 hm
  unfold QbB
  obtain ⟨p0,p1⟩:=x
  intro H
  refine PC_sx (ds:=[(Qc.ex p0),(Qj p1)]) (fn:=f64) rfl ?_
  refine Qd (R_G (Qb 2 (Qf (Qd (R_G (Qb 3 (Qf (Qd (Qd (R_G (Qb 1 ?_)))))))))))
  refine Qf (Qu ?_)
  obtain ⟨v601,hs,hm⟩:=Qi hm
  refine Za ?_
  refine RL_use (Qay _ _ hs) (by kernel_rfl) ?_
  clear hs
  intro e s hp
  obtain ⟨rfl,d,rfl⟩:=hp
  refine Qd (R_G (Qb 2 (Qf (Qo ?_))))
  obtain rfl:=Qs hm
  exact ⟨trivial,Qk⟩
theorem Qay:∀ x r,Z1 x=some r→Qav x r:=g_ref08_left_L1.1
theorem QcD:∀ x r,Jd x=some r→QbB x r:=g_ref08_left_L1.2
mutual
def ZF (x:(Qc × Int × Int)):Option (Int) :=
 match x with
 | (p0,v201,v202) =>
 if v202 < (p0.kids.length:Int) then
  idx p0.kids v202>>=fun v602 =>
  Xg v602>>=fun (v603:Int) =>
  ZF (p0,(if v201 < v603 then v603 else v201),(W (v202+1)))
 else
 some v201
 partial_fixpoint
def Xg (x:Qc):Option Int :=
 match x with
 | p0 =>
 ZF (p0,0,0)>>=fun (v601:Int) =>
 some (W (v601+1))
 partial_fixpoint
end
def J4:(Qc × Int × Int)→Int→Prop:=fun x r=>match x with
 | (p0,v201,v202)=>∀ st,prune 1 ((QB (QJ [1,1,0,1,0,0] (QO f44))).bind (env.hint 44).keepAt) st=⟨kp 22 [(1,(.ptr 0 0)),(3,(Qe v201)),(4,(Qe v202))],[(.box [(Qe p0.kind),(Qe p0.fn),(Qe p0.axis),(.dat (strD p0.name)),(La p0.nums),(.dat (.lst (Qc.toDs p0.kids)))])]⟩ →
  RL prog env (env.hint 44) true (QJ [1,1,0,1,0,0] (QO f44)) 1 st (fun e s=>match r with|v601=>e=.exit 0∧∃ d,s=⟨sl d 22 [(3,(Qe v601))],[(.box [(Qe p0.kind),(Qe p0.fn),(Qe p0.axis),(.dat (strD p0.name)),(La p0.nums),(.dat (.lst (Qc.toDs p0.kids)))])]⟩)
def Qa6:Qc→Int→Prop:=fun x r=>match x,r with
 | p0,r0=>∀ H,PC prog env 44 ([(Qc.ex p0)].map .dat) H (Qe r0) H
theorem g_ref08_Depth_L1:(∀ x r,ZF x=some r→J4 x r)∧(∀ x r,Xg x=some r→Qa6 x r):=by
 refine ZF.mutual_partial_correctness J4 Qa6 ?_ ?_
 ·intro ZF Xg Qac Qbc x r hm
  unfold J4
  obtain ⟨p0,v201,v202⟩:=x
  intro st hst
  refine RL_at hst ?_
  clear hst
  refine Qd (Qd (R_G (Qb 3 ?_)))
  refine QV Qc.toD p0.kids (es:=Qc.toDs p0.kids) (Qc.toDs_eq _) ?_
  refine Qb 1 (Qf ?_)
  refine Qx hm (rfl) (fun hm=>?_) (fun hm=>?_)
  ·refine Qp (Qd (Qu (R_G (Qb 4 ?_))))
   obtain ⟨v602,hx,hm⟩:=Qi hm
   refine Qbg 6 Qc.toD p0.kids v202 v602 (es:=Qc.toDs p0.kids) (d:=(Qc.ex v602)) (Qc.toDs_eq _) hx (Qc.toD_eq v602) rfl ?_
   refine Qb 1 ?_
   obtain ⟨v603,hx,hm⟩:=Qi hm
   have hq:=Qbc _ _ hx []
   refine Qq hq ?_
   refine Zq rfl (fun _=>QfZ (k:=.i64) (m:=v201) (n:=v603) rfl (by kernel_rfl) (by kernel_rfl)) ?_
   refine Qb 1 (Qf (R_G (Qb 3 (Qf ?_))))
   exact Qac _ _ hm _ (by kernel_rfl)
  refine Q7 ?_
  obtain rfl:=Qs hm
  exact ⟨rfl,Qr⟩
 ·intro ZF Qac p0 r0 hm
  unfold Qa6
  intro H
  refine PC_sx (ds:=[(Qc.ex p0)]) (fn:=f44) rfl ?_
  refine Qd (R_G (Qb 2 (Qf (Qd (R_G (Qb 1 (Qf (Qd (Qd (R_G (Qb 1 ?_)))))))))))
  refine Qf (Qu ?_)
  obtain ⟨v601,hs,hm⟩:=Qi hm
  refine Za ?_
  refine RL_use (Qac _ _ hs) (by kernel_rfl) ?_
  clear hs
  intro e s hp
  obtain ⟨rfl,d,rfl⟩:=hp
  refine Qd (R_G (Qb 3 (Qf (Qo ?_))))
  obtain rfl:=Qs hm
  exact ⟨trivial,Qk⟩
theorem Qac:∀ x r,ZF x=some r→J4 x r:=g_ref08_Depth_L1.1
theorem Qbc:∀ x r,Xg x=some r→Qa6 x r:=g_ref08_Depth_L1.2
mutual
def Zs (x:(Qc × Int × Int)):Option (Int) :=
 match x with
 | (p0,v201,v202) =>
 if v202 < (p0.kids.length:Int) then
  idx p0.kids v202>>=fun v602 =>
  YZ v602>>=fun (v603:Int) =>
  Zs (p0,(W (v201+v603)),(W (v202+1)))
 else
 some v201
 partial_fixpoint
def YZ (x:Qc):Option Int :=
 match x with
 | p0 =>
 Zs (p0,(p0.nums.length:Int),0)>>=fun (v601:Int) =>
 some v601
 partial_fixpoint
end
def Jc:(Qc × Int × Int)→Int→Prop:=fun x r=>match x with
 | (p0,v201,v202)=>∀ st,prune 1 ((QB (QJ [1,1,0,1,0,0] (QO f65))).bind (env.hint 65).keepAt) st=⟨kp 24 [(1,(.ptr 0 0)),(3,(Qe v201)),(4,(Qe v202))],[(.box [(Qe p0.kind),(Qe p0.fn),(Qe p0.axis),(.dat (strD p0.name)),(La p0.nums),(.dat (.lst (Qc.toDs p0.kids)))])]⟩ →
  RL prog env (env.hint 65) true (QJ [1,1,0,1,0,0] (QO f65)) 1 st (fun e s=>match r with|v601=>e=.exit 0∧∃ d,s=⟨sl d 24 [(3,(Qe v601))],[(.box [(Qe p0.kind),(Qe p0.fn),(Qe p0.axis),(.dat (strD p0.name)),(La p0.nums),(.dat (.lst (Qc.toDs p0.kids)))])]⟩)
def Qaw:Qc→Int→Prop:=fun x r=>match x,r with
 | p0,r0=>∀ H,PC prog env 65 ([(Qc.ex p0)].map .dat) H (Qe r0) H
theorem g_ref08_numbers_L1:(∀ x r,Zs x=some r→Jc x r)∧(∀ x r,YZ x=some r→Qaw x r):=by
 refine Zs.mutual_partial_correctness Jc Qaw ?_ ?_
 ·intro Zs YZ Jj Qbv x r hm
  unfold Jc
  obtain ⟨p0,v201,v202⟩:=x
  intro st hst
  refine RL_at hst ?_
  clear hst
  refine Qd (Qd (R_G (Qb 3 ?_)))
  refine QV Qc.toD p0.kids (es:=Qc.toDs p0.kids) (Qc.toDs_eq _) ?_
  refine Qb 1 (Qf ?_)
  refine Qx hm (rfl) (fun hm=>?_) (fun hm=>?_)
  ·refine Qp (Qd (Qu (R_G (Qb 4 ?_))))
   obtain ⟨v602,hx,hm⟩:=Qi hm
   refine Qbg 6 Qc.toD p0.kids v202 v602 (es:=Qc.toDs p0.kids) (d:=(Qc.ex v602)) (Qc.toDs_eq _) hx (Qc.toD_eq v602) rfl ?_
   refine Qb 1 ?_
   obtain ⟨v603,hx,hm⟩:=Qi hm
   have hq:=Qbv _ _ hx []
   refine Qq hq ?_
   refine Qb 2 (Qf (R_G (Qb 3 (Qf ?_))))
   exact Jj _ _ hm _ (by kernel_rfl)
  refine Q7 ?_
  obtain rfl:=Qs hm
  exact ⟨rfl,Qr⟩
 ·intro Zs Jj p0 r0 hm
  unfold Qaw
  intro H
  refine PC_sx (ds:=[(Qc.ex p0)]) (fn:=f65) rfl ?_
  refine Qd (R_G (Qb 2 (Qf (Qd (R_G (Qb 2 ?_))))))
  refine QV Qj p0.nums (es:=(List.map Qj) p0.nums) rfl ?_
  refine Qb 1 (Qf (Qd (Qd (R_G (Qb 1 (Qf (Qu ?_)))))))
  obtain ⟨v601,hs,hm⟩:=Qi hm
  refine Za ?_
  refine RL_use (Jj _ _ hs) (by kernel_rfl) ?_
  clear hs
  intro e s hp
  obtain ⟨rfl,d,rfl⟩:=hp
  refine Qd (R_G (Qb 2 (Qf (Qo ?_))))
  obtain rfl:=Qs hm
  exact ⟨trivial,Qk⟩
theorem Jj:∀ x r,Zs x=some r→Jc x r:=g_ref08_numbers_L1.1
theorem Qbv:∀ x r,YZ x=some r→Qaw x r:=g_ref08_numbers_L1.2
def Qbn (x:(Qc × Int)):Option Bool :=
 match x with
 | (p0,p1) =>
 Jd (p0,p1)>>=fun (v1:Int) =>
 (if v1≥0 then
  Xg p0>>=fun (v3:Int) =>
  some (decide (v3≤150))
 else
 some false
 )>>=fun (v2:Bool) =>
 if v2=true then
  YZ p0>>=fun (v4:Int) =>
  some (decide (v4≤(W (10 * p1))))
 else
 some false
def Qer:(Qc × Int)→Bool→Prop:=fun x r=>match x,r with
 | (p0,p1),r0=>∀ H,PC prog env 36 ([(Qc.ex p0),(Qj p1)].map .dat) H (Qn r0) H
theorem Qfr:∀ x r,Qbn x=some r→Qer x r:=by
 intro x r0 hm
 unfold Qbn at hm
 unfold Qer
 obtain ⟨p0,p1⟩:=x
 intro H
 refine PC_sx (ds:=[(Qc.ex p0),(Qj p1)]) (fn:=f36) rfl ?_
 refine Qd (R_G (Qb 2 (Qf (Qd ?_))))
 refine Qcx ?_
 refine Qb 2 ?_
 obtain ⟨v1,hx,hm⟩:=Qi hm
 have hq:=QcD _ _ hx []
 refine Qq hq ?_
 refine Qb 2 ?_
 obtain ⟨v2,hs,hm⟩:=Qi hm
 refine Y1 (j:=9) (fun d=>⟨sl d 21 [(1,(Qe p1)),(2,(.ptr 0 0)),(4,(Qn false)),(13,(Qn v2))],[(.box [(Qe p0.kind),(Qe p0.fn),(Qe p0.axis),(.dat (strD p0.name)),(La p0.nums),(.dat (.lst (Qc.toDs p0.kids)))])]⟩) (fun d=>?_) (fun hJ=>?_)
 ·clear hs
  refine Qb 1 ?_
  refine Qz 14 hm (QG _) (fun hm=>?_) (fun hm=>?_)
  ·refine Qb 1 ?_
   obtain ⟨v4,hx,hm⟩:=Qi hm
   have hq:=Qbv _ _ hx []
   refine Qq hq ?_
   refine Qb 5 ?_
   refine Qf ⟨by kernel_rfl,?_⟩
   refine Qo ?_
   obtain rfl:=Qs hm
   exact ⟨trivial,Qk⟩
  refine Qb 7 ?_
  refine Qf ⟨by kernel_rfl,?_⟩
  refine Qo ?_
  obtain rfl:=Qs hm
  exact ⟨trivial,Qk⟩
 clear hm
 refine Qz 9 hs (rfl) (fun hm=>?_) (fun hm=>?_)
 ·refine Qb 1 ?_
  obtain ⟨v3,hx,hm⟩:=Qi hm
  have hq:=Qbc _ _ hx []
  refine Qq hq ?_
  refine Qb 2 ?_
  obtain rfl:=Qs hm
  exact hJ _ _
 refine Qb 4 ?_
 obtain rfl:=Qs hm
 exact hJ _ _
def QaU (x:Qc):Option Bool :=
 match x with
 | p0 =>
 (if p0.axis≥0 then
  some (decide (p0.axis≤15))
 else
 some false
 )>>=fun (v1:Bool) =>
 if p0.kind=1 then
  (if p0.fn=0 then
   some (p0.axis == (-1))
  else
  some false
  )>>=fun (v2:Bool) =>
  (if v2=true then
   some (decide (p0.name=ByteArray.empty))
  else
  some false
  )>>=fun (v3:Bool) =>
  if v3=true then
   some ((p0.kids.length:Int) == 0)
  else
  some false
 else
 if p0.kind=2 then
  (if p0.fn=0 then
   some (p0.axis == (-1))
  else
  some false
  )>>=fun (v4:Bool) =>
  (if v4=true then
   Yf p0.name>>=fun (v6:Bool) =>
   some v6
  else
  some false
  )>>=fun (v5:Bool) =>
  (if v5=true then
   some ((p0.nums.length:Int) == 0)
  else
  some false
  )>>=fun (v7:Bool) =>
  if v7=true then
   some ((p0.kids.length:Int) == 0)
  else
  some false
 else
 if p0.kind=3 then
  (if p0.name=ByteArray.empty then
   some ((p0.nums.length:Int) == 0)
  else
  some false
  )>>=fun (v8:Bool) =>
  (if v8=true then
   some ((p0.kids.length:Int) == 1)
  else
  some false
  )>>=fun (v9:Bool) =>
  if v9=true then
   (if p0.fn=3 then
    (if p0.axis=(-1) then
     some true
    else
    some v1
    )>>=fun (v11:Bool) =>
    some v11
   else
   some false
   )>>=fun (v10:Bool) =>
   if v10=true then
    some true
   else
   (if p0.fn=4 then
    some true
   else
   some (p0.fn == 6)
   )>>=fun (v12:Bool) =>
   (if v12=true then
    some (p0.axis == (-1))
   else
   some false
   )>>=fun (v13:Bool) =>
   some v13
  else
  some false
 else
 if p0.kind=4 then
  ((if p0.name≠ByteArray.empty then
   some true
  else
  some (decide ((p0.nums.length:Int) > 0))
  )>>=fun (v15:Bool) =>
  (if v15=true then
   some true
  else
  some ((p0.kids.length:Int) != 2)
  )>>=fun (v16:Bool) =>
  (if v16=true then
   some true
  else
  some (decide (p0.fn < 1))
  )>>=fun (v17:Bool) =>
  if v17=true then
   some true
  else
  some (decide (p0.fn > 6))
  )>>=fun (v14:Bool) =>
  if v14=true then
   some false
  else
  (if p0.axis≠(-1) then
   if v1=false then
    some true
   else
   (if p0.fn≠3 then
    some (p0.fn != 6)
   else
   some false
   )>>=fun (v19:Bool) =>
   some v19
  else
  some false
  )>>=fun (v18:Bool) =>
  if v18=true then
   some false
  else
  (if p0.fn=6 then
   some true
  else
  idx p0.kids 0>>=fun v21 =>
  some (v21.kind == 1)
  )>>=fun (v20:Bool) =>
  if v20=true then
   some true
  else
  idx p0.kids 0>>=fun v22 =>
  some (v22.kind == 2)
 else
 some false
def Qd5:Qc→Bool→Prop:=fun x r=>match x,r with
 | p0,r0=>∀ H,PC prog env 101 ([(Qc.ex p0)].map .dat) H (Qn r0) H
theorem Qfa:∀ x r,QaU x=some r→Qd5 x r:=by
 intro p0 r0 hm
 unfold QaU at hm
 unfold Qd5
 intro H
 refine PC_sx (ds:=[(Qc.ex p0)]) (fn:=f101) rfl ?_
 refine Qd (R_G (Qb 2 (Qf (Qd ?_))))
 obtain ⟨v1,hs,hm⟩:=Qi hm
 refine Xc (fun d=>⟨sl d 170 [(1,(.ptr 0 0)),(3,(Qn v1))],[(.box [(Qe p0.kind),(Qe p0.fn),(Qe p0.axis),(.dat (strD p0.name)),(La p0.nums),(.dat (.lst (Qc.toDs p0.kids)))])]⟩) ?_ (fun d=>?_)
 ·replace hm:=hs
  clear hs
  refine R_G (Qb 4 ?_)
  refine Qz 7 hm (rfl) (fun hm=>?_) (fun hm=>?_)
  ·refine Qb 5 (Qf ?_)
   obtain rfl:=Qs hm
   exact Qr
  refine Qb 5 (Qf ?_)
  obtain rfl:=Qs hm
  exact Qr
 clear hs
 refine Qd (Qd (R_G (Qb 2 (Qf (Qu (Qd (R_G (Qb 2 (Qf ?_)))))))))
 refine Qx hm (ZW _ _) (fun hm=>?_) (fun hm=>?_)
 ·refine Qd ?_
  refine Qcx ?_
  refine Qb 4 ?_
  obtain ⟨v2,hs,hm⟩:=Qi hm
  refine Y1 (j:=8) (fun d=>⟨sl d 170 [(1,(.ptr 0 0)),(23,(Qn v2))],[(.box [(Qe p0.kind),(Qe p0.fn),(Qe p0.axis),(.dat (strD p0.name)),(La p0.nums),(.dat (.lst (Qc.toDs p0.kids)))])]⟩) (fun d=>?_) (fun hJ=>?_)
  ·clear hs
   refine Qb 1 ?_
   obtain ⟨v3,hs,hm⟩:=Qi hm
   refine Y1 (j:=13) (fun d=>⟨sl d 170 [(1,(.ptr 0 0)),(28,(Qn v3))],[(.box [(Qe p0.kind),(Qe p0.fn),(Qe p0.axis),(.dat (strD p0.name)),(La p0.nums),(.dat (.lst (Qc.toDs p0.kids)))])]⟩) (fun d=>?_) (fun hJ=>?_)
   ·clear hs
    refine Qb 1 ?_
    refine Qz 29 hm (QG _) (fun hm=>?_) (fun hm=>?_)
    ·refine Qb 2 ?_
     refine QV Qc.toD p0.kids (es:=Qc.toDs p0.kids) (Qc.toDs_eq _) ?_
     refine Qb 3 ?_
     refine Qf ⟨by kernel_rfl,?_⟩
     refine Qo ?_
     obtain rfl:=Qs hm
     exact ⟨trivial,Qk⟩
    refine Qb 6 ?_
    refine Qf ⟨by kernel_rfl,?_⟩
    refine Qo ?_
    obtain rfl:=Qs hm
    exact ⟨trivial,Qk⟩
   clear hm
   refine Qz 24 hs (QG _) (fun hm=>?_) (fun hm=>?_)
   ·refine Qb 2 ?_
    refine Zq rfl (fun _=>Qbf (a:=p0.name) (b:=ByteArray.empty) rfl (by kernel_rfl) (by kernel_rfl)) ?_
    refine Qb 1 ?_
    obtain rfl:=Qs hm
    exact hJ _ _
   refine Qb 4 ?_
   obtain rfl:=Qs hm
   exact hJ _ _
  clear hm
  refine Qz 19 hs (ZW _ _) (fun hm=>?_) (fun hm=>?_)
  ·refine Qb 4 ?_
   obtain rfl:=Qs hm
   exact hJ _ _
  refine Qb 4 ?_
  obtain rfl:=Qs hm
  exact hJ _ _
 refine Qd (R_G (Qb 2 (Qf ?_)))
 refine Qx hm (ZW _ _) (fun hm=>?_) (fun hm=>?_)
 ·refine Qd ?_
  refine Qcx ?_
  refine Qb 4 ?_
  obtain ⟨v4,hs,hm⟩:=Qi hm
  refine Y1 (j:=8) (fun d=>⟨sl d 170 [(1,(.ptr 0 0)),(44,(Qn v4))],[(.box [(Qe p0.kind),(Qe p0.fn),(Qe p0.axis),(.dat (strD p0.name)),(La p0.nums),(.dat (.lst (Qc.toDs p0.kids)))])]⟩) (fun d=>?_) (fun hJ=>?_)
  ·clear hs
   refine Qb 1 ?_
   obtain ⟨v5,hs,hm⟩:=Qi hm
   refine Y1 (j:=13) (fun d=>⟨sl d 170 [(1,(.ptr 0 0)),(49,(Qn v5))],[(.box [(Qe p0.kind),(Qe p0.fn),(Qe p0.axis),(.dat (strD p0.name)),(La p0.nums),(.dat (.lst (Qc.toDs p0.kids)))])]⟩) (fun d=>?_) (fun hJ=>?_)
   ·clear hs
    refine Qb 1 ?_
    obtain ⟨v7,hs,hm⟩:=Qi hm
    refine Y1 (j:=19) (fun d=>⟨sl d 170 [(1,(.ptr 0 0)),(55,(Qn v7))],[(.box [(Qe p0.kind),(Qe p0.fn),(Qe p0.axis),(.dat (strD p0.name)),(La p0.nums),(.dat (.lst (Qc.toDs p0.kids)))])]⟩) (fun d=>?_) (fun hJ=>?_)
    ·clear hs
     refine Qb 1 ?_
     refine Qz 56 hm (QG _) (fun hm=>?_) (fun hm=>?_)
     ·refine Qb 2 ?_
      refine QV Qc.toD p0.kids (es:=Qc.toDs p0.kids) (Qc.toDs_eq _) ?_
      refine Qb 3 ?_
      refine Qf ⟨by kernel_rfl,?_⟩
      refine Qo ?_
      obtain rfl:=Qs hm
      exact ⟨trivial,Qk⟩
     refine Qb 6 ?_
     refine Qf ⟨by kernel_rfl,?_⟩
     refine Qo ?_
     obtain rfl:=Qs hm
     exact ⟨trivial,Qk⟩
    clear hm
    refine Qz 50 hs (QG _) (fun hm=>?_) (fun hm=>?_)
    ·refine Qb 2 ?_
     refine QV Qj p0.nums (es:=(List.map Qj) p0.nums) rfl ?_
     refine Qb 2 ?_
     obtain rfl:=Qs hm
     exact hJ _ _
    refine Qb 5 ?_
    obtain rfl:=Qs hm
    exact hJ _ _
   clear hm
   refine Qz 45 hs (QG _) (fun hm=>?_) (fun hm=>?_)
   ·refine Qb 2 ?_
    obtain ⟨v6,hx,hm⟩:=Qi hm
    have hq:=Qed _ _ hx []
    refine Qq hq ?_
    refine Qb 1 ?_
    obtain rfl:=Qs hm
    exact hJ _ _
   refine Qb 4 ?_
   obtain rfl:=Qs hm
   exact hJ _ _
  clear hm
  refine Qz 40 hs (ZW _ _) (fun hm=>?_) (fun hm=>?_)
  ·refine Qb 4 ?_
   obtain rfl:=Qs hm
   exact hJ _ _
  refine Qb 4 ?_
  obtain rfl:=Qs hm
  exact hJ _ _
 refine Qd (R_G (Qb 2 (Qf ?_)))
 refine Qx hm (ZW _ _) (fun hm=>?_) (fun hm=>?_)
 ·refine Qd ?_
  refine Qcx ?_
  refine Qb 2 ?_
  refine Zq rfl (fun _=>Qbf (a:=p0.name) (b:=ByteArray.empty) rfl (by kernel_rfl) (by kernel_rfl)) ?_
  refine Qb 1 ?_
  obtain ⟨v8,hs,hm⟩:=Qi hm
  refine Y1 (j:=9) (fun d=>⟨sl d 170 [(1,(.ptr 0 0)),(3,(Qn v1)),(72,(Qn v8))],[(.box [(Qe p0.kind),(Qe p0.fn),(Qe p0.axis),(.dat (strD p0.name)),(La p0.nums),(.dat (.lst (Qc.toDs p0.kids)))])]⟩) (fun d=>?_) (fun hJ=>?_)
  ·clear hs
   refine Qb 1 ?_
   obtain ⟨v9,hs,hm⟩:=Qi hm
   refine Y1 (j:=15) (fun d=>⟨sl d 170 [(1,(.ptr 0 0)),(3,(Qn v1)),(78,(Qn v9))],[(.box [(Qe p0.kind),(Qe p0.fn),(Qe p0.axis),(.dat (strD p0.name)),(La p0.nums),(.dat (.lst (Qc.toDs p0.kids)))])]⟩) (fun d=>?_) (fun hJ=>?_)
   ·clear hs
    refine Qb 1 ?_
    refine Qz 79 hm (QG _) (fun hm=>?_) (fun hm=>?_)
    ·refine Qb 4 ?_
     obtain ⟨v10,hs,hm⟩:=Qi hm
     refine Y1 (j:=27) (fun d=>⟨sl d 170 [(1,(.ptr 0 0)),(79,(Qn true)),(90,(Qn v10))],[(.box [(Qe p0.kind),(Qe p0.fn),(Qe p0.axis),(.dat (strD p0.name)),(La p0.nums),(.dat (.lst (Qc.toDs p0.kids)))])]⟩) (fun d=>?_) (fun hJ=>?_)
     ·clear hs
      refine Qb 1 ?_
      refine Qz 91 hm (QG _) (fun hm=>?_) (fun hm=>?_)
      ·refine Qb 16 ?_
       refine Qf ⟨by kernel_rfl,?_⟩
       refine Qo ?_
       obtain rfl:=Qs hm
       exact ⟨trivial,Qk⟩
      refine Qb 4 ?_
      obtain ⟨v12,hs,hm⟩:=Qi hm
      refine Y1 (j:=36) (fun d=>⟨sl d 170 [(1,(.ptr 0 0)),(79,(Qn true)),(91,(Qn false)),(99,(Qn v12))],[(.box [(Qe p0.kind),(Qe p0.fn),(Qe p0.axis),(.dat (strD p0.name)),(La p0.nums),(.dat (.lst (Qc.toDs p0.kids)))])]⟩) (fun d=>?_) (fun hJ=>?_)
      ·clear hs
       refine Qb 1 ?_
       obtain ⟨v13,hs,hm⟩:=Qi hm
       refine Y1 (j:=41) (fun d=>⟨sl d 170 [(79,(Qn true)),(91,(Qn false)),(104,(Qn v13))],[(.box [(Qe p0.kind),(Qe p0.fn),(Qe p0.axis),(.dat (strD p0.name)),(La p0.nums),(.dat (.lst (Qc.toDs p0.kids)))])]⟩) (fun d=>?_) (fun hJ=>?_)
       ·clear hs
        refine Qb 3 ?_
        refine Qf ⟨by kernel_rfl,?_⟩
        refine Qo ?_
        obtain rfl:=Qs hm
        exact ⟨trivial,Qk⟩
       clear hm
       refine Qz 100 hs (QG _) (fun hm=>?_) (fun hm=>?_)
       ·refine Qb 4 ?_
        obtain rfl:=Qs hm
        exact hJ _ _
       refine Qb 4 ?_
       obtain rfl:=Qs hm
       exact hJ _ _
      clear hm
      refine Qz 95 hs (ZW _ _) (fun hm=>?_) (fun hm=>?_)
      ·refine Qb 4 ?_
       obtain rfl:=Qs hm
       exact hJ _ _
      refine Qb 4 ?_
      obtain rfl:=Qs hm
      exact hJ _ _
     clear hm
     refine Qz 83 hs (ZW _ _) (fun hm=>?_) (fun hm=>?_)
     ·refine Qb 4 ?_
      obtain ⟨v11,hs,hm⟩:=Qi hm
      refine Y1 (j:=26) (fun d=>⟨sl d 170 [(1,(.ptr 0 0)),(79,(Qn true)),(83,(Qn true)),(89,(Qn v11))],[(.box [(Qe p0.kind),(Qe p0.fn),(Qe p0.axis),(.dat (strD p0.name)),(La p0.nums),(.dat (.lst (Qc.toDs p0.kids)))])]⟩) (fun d=>?_) (fun hJ=>?_)
      ·clear hs
       refine Qb 1 ?_
       obtain rfl:=Qs hm
       exact hJ _ _
      clear hm
      refine Qz 87 hs (ZW _ _) (fun hm=>?_) (fun hm=>?_)
      ·refine Qb 2 ?_
       obtain rfl:=Qs hm
       exact hJ _ _
      refine Qb 2 ?_
      obtain rfl:=Qs hm
      exact hJ _ _
     refine Qb 7 ?_
     obtain rfl:=Qs hm
     exact hJ _ _
    refine Qb 28 ?_
    refine Qf ⟨by kernel_rfl,?_⟩
    refine Qo ?_
    obtain rfl:=Qs hm
    exact ⟨trivial,Qk⟩
   clear hm
   refine Qz 73 hs (QG _) (fun hm=>?_) (fun hm=>?_)
   ·refine Qb 2 ?_
    refine QV Qc.toD p0.kids (es:=Qc.toDs p0.kids) (Qc.toDs_eq _) ?_
    refine Qb 2 ?_
    obtain rfl:=Qs hm
    exact hJ _ _
   refine Qb 5 ?_
   obtain rfl:=Qs hm
   exact hJ _ _
  clear hm
  refine Qz 67 hs (rfl) (fun hm=>?_) (fun hm=>?_)
  ·refine Qb 2 ?_
   refine QV Qj p0.nums (es:=(List.map Qj) p0.nums) rfl ?_
   refine Qb 2 ?_
   obtain rfl:=Qs hm
   exact hJ _ _
  refine Qb 5 ?_
  obtain rfl:=Qs hm
  exact hJ _ _
 refine Qd (R_G (Qb 2 (Qf ?_)))
 refine Qx hm (ZW _ _) (fun hm=>?_) (fun hm=>?_)
 ·refine Qd (Qd ?_)
  obtain ⟨v14,hs,hm⟩:=Qi hm
  refine Xc (fun d=>⟨sl d 170 [(1,(.ptr 0 0)),(3,(Qn v1)),(133,(Qn v14))],[(.box [(Qe p0.kind),(Qe p0.fn),(Qe p0.axis),(.dat (strD p0.name)),(La p0.nums),(.dat (.lst (Qc.toDs p0.kids)))])]⟩) ?_ (fun d=>?_)
  ·replace hm:=hs
   clear hs
   refine Qcx ?_
   refine Qb 2 ?_
   refine Zq rfl (fun _=>QeE (a:=p0.name) (b:=ByteArray.empty) rfl (by kernel_rfl) (by kernel_rfl)) ?_
   refine Qb 1 ?_
   obtain ⟨v15,hs,hm⟩:=Qi hm
   refine Y1 (j:=9) (fun d=>⟨sl d 170 [(1,(.ptr 0 0)),(3,(Qn v1)),(117,(Qn v15))],[(.box [(Qe p0.kind),(Qe p0.fn),(Qe p0.axis),(.dat (strD p0.name)),(La p0.nums),(.dat (.lst (Qc.toDs p0.kids)))])]⟩) (fun d=>?_) (fun hJ=>?_)
   ·clear hs
    refine Qb 1 ?_
    obtain ⟨v16,hs,hm⟩:=Qi hm
    refine Y1 (j:=15) (fun d=>⟨sl d 170 [(1,(.ptr 0 0)),(3,(Qn v1)),(123,(Qn v16))],[(.box [(Qe p0.kind),(Qe p0.fn),(Qe p0.axis),(.dat (strD p0.name)),(La p0.nums),(.dat (.lst (Qc.toDs p0.kids)))])]⟩) (fun d=>?_) (fun hJ=>?_)
    ·clear hs
     refine Qb 1 ?_
     obtain ⟨v17,hs,hm⟩:=Qi hm
     refine Y1 (j:=20) (fun d=>⟨sl d 170 [(1,(.ptr 0 0)),(3,(Qn v1)),(128,(Qn v17))],[(.box [(Qe p0.kind),(Qe p0.fn),(Qe p0.axis),(.dat (strD p0.name)),(La p0.nums),(.dat (.lst (Qc.toDs p0.kids)))])]⟩) (fun d=>?_) (fun hJ=>?_)
     ·clear hs
      refine Qb 1 ?_
      refine Qz 129 hm (QG _) (fun hm=>?_) (fun hm=>?_)
      ·refine Qb 4 ?_
       refine Qf ⟨by kernel_rfl,?_⟩
       obtain rfl:=Qs hm
       exact Qr
      refine Qb 4 ?_
      refine Qf ⟨by kernel_rfl,?_⟩
      obtain rfl:=Qs hm
      exact Qr
     clear hm
     refine Qz 124 hs (QG _) (fun hm=>?_) (fun hm=>?_)
     ·refine Qb 4 ?_
      obtain rfl:=Qs hm
      exact hJ _ _
     refine Qb 4 ?_
     obtain rfl:=Qs hm
     exact hJ _ _
    clear hm
    refine Qz 118 hs (QG _) (fun hm=>?_) (fun hm=>?_)
    ·refine Qb 5 ?_
     obtain rfl:=Qs hm
     exact hJ _ _
    refine Qb 2 ?_
    refine QV Qc.toD p0.kids (es:=Qc.toDs p0.kids) (Qc.toDs_eq _) ?_
    refine Qb 2 ?_
    obtain rfl:=Qs hm
    exact hJ _ _
   clear hm
   refine Qz 112 hs (rfl) (fun hm=>?_) (fun hm=>?_)
   ·refine Qb 5 ?_
    obtain rfl:=Qs hm
    exact hJ _ _
   refine Qb 2 ?_
   refine QV Qj p0.nums (es:=(List.map Qj) p0.nums) rfl ?_
   refine Qb 2 ?_
   obtain rfl:=Qs hm
   exact hJ _ _
  clear hs
  refine Qx hm (QG _) (fun hm=>?_) (fun hm=>?_)
  ·refine Qd (R_G (Qb 1 (Qf (Qo ?_))))
   obtain rfl:=Qs hm
   exact ⟨trivial,Qk⟩
  refine Qp (Qd (Qd ?_))
  obtain ⟨v18,hs,hm⟩:=Qi hm
  refine Xc (fun d=>⟨sl d 170 [(1,(.ptr 0 0)),(150,(Qn v18))],[(.box [(Qe p0.kind),(Qe p0.fn),(Qe p0.axis),(.dat (strD p0.name)),(La p0.nums),(.dat (.lst (Qc.toDs p0.kids)))])]⟩) ?_ (fun d=>?_)
  ·replace hm:=hs
   clear hs
   refine Qcx ?_
   refine Qb 4 ?_
   refine Qz 137 hm (ne_dec _ _) (fun hm=>?_) (fun hm=>?_)
   ·refine Qb 3 ?_
    refine Qz 140 hm (XH _) (fun hm=>?_) (fun hm=>?_)
    ·refine Qb 10 ?_
     refine Qf ⟨by kernel_rfl,?_⟩
     obtain rfl:=Qs hm
     exact Qr
    refine Qb 4 ?_
    obtain ⟨v19,hs,hm⟩:=Qi hm
    refine Y1 (j:=15) (fun d=>⟨sl d 170 [(1,(.ptr 0 0)),(137,(Qn true)),(140,(Qn false)),(148,(Qn v19))],[(.box [(Qe p0.kind),(Qe p0.fn),(Qe p0.axis),(.dat (strD p0.name)),(La p0.nums),(.dat (.lst (Qc.toDs p0.kids)))])]⟩) (fun d=>?_) (fun hJ=>?_)
    ·clear hs
     refine Qb 2 ?_
     refine Qf ⟨by kernel_rfl,?_⟩
     obtain rfl:=Qs hm
     exact Qr
    clear hm
    refine Qz 144 hs (ne_dec _ _) (fun hm=>?_) (fun hm=>?_)
    ·refine Qb 4 ?_
     obtain rfl:=Qs hm
     exact hJ _ _
    refine Qb 4 ?_
    obtain rfl:=Qs hm
    exact hJ _ _
   refine Qb 13 ?_
   refine Qf ⟨by kernel_rfl,?_⟩
   obtain rfl:=Qs hm
   exact Qr
  clear hs
  refine Qx hm (QG _) (fun hm=>?_) (fun hm=>?_)
  ·refine Qd (R_G (Qb 1 (Qf (Qo ?_))))
   obtain rfl:=Qs hm
   exact ⟨trivial,Qk⟩
  refine Qp (Qd ?_)
  refine Qcx ?_
  refine Qb 4 ?_
  obtain ⟨v20,hs,hm⟩:=Qi hm
  refine Y1 (j:=11) (fun d=>⟨sl d 170 [(1,(.ptr 0 0)),(161,(Qn v20))],[(.box [(Qe p0.kind),(Qe p0.fn),(Qe p0.axis),(.dat (strD p0.name)),(La p0.nums),(.dat (.lst (Qc.toDs p0.kids)))])]⟩) (fun d=>?_) (fun hJ=>?_)
  ·clear hs
   refine Qb 1 ?_
   refine Qz 162 hm (QG _) (fun hm=>?_) (fun hm=>?_)
   ·refine Qb 8 ?_
    refine Qf ⟨by kernel_rfl,?_⟩
    refine Qo ?_
    obtain rfl:=Qs hm
    exact ⟨trivial,Qk⟩
   refine Qb 2 ?_
   obtain ⟨v22,hx,hm⟩:=Qi hm
   refine Qbg 6 Qc.toD p0.kids 0 v22 (es:=Qc.toDs p0.kids) (d:=(Qc.ex v22)) (Qc.toDs_eq _) hx (Qc.toD_eq v22) rfl ?_
   refine Qb 5 ?_
   refine Qf ⟨by kernel_rfl,?_⟩
   refine Qo ?_
   obtain rfl:=Qs hm
   exact ⟨trivial,Qk⟩
  clear hm
  refine Qz 154 hs (ZW _ _) (fun hm=>?_) (fun hm=>?_)
  ·refine Qb 7 ?_
   obtain rfl:=Qs hm
   exact hJ _ _
  refine Qb 2 ?_
  obtain ⟨v21,hx,hm⟩:=Qi hm
  refine Qbg 6 Qc.toD p0.kids 0 v21 (es:=Qc.toDs p0.kids) (d:=(Qc.ex v21)) (Qc.toDs_eq _) hx (Qc.toD_eq v21) rfl ?_
  refine Qb 4 ?_
  obtain rfl:=Qs hm
  exact hJ _ _
 refine Qp (Qd (R_G (Qb 1 (Qf (Qo ?_)))))
 obtain rfl:=Qs hm
 exact ⟨trivial,Qk⟩
mutual
def ZH (x:(Qc × Int)):Option (Unit ⊕ Unit) :=
 match x with
 | (p0,v202) =>
 if v202 < (p0.kids.length:Int) then
  idx p0.kids v202>>=fun v602 =>
  XN v602>>=fun (v603:Bool) =>
  if v603=false then
   some (Sum.inl ())
  else
  ZH (p0,(W (v202+1)))
 else
 some (Sum.inr ())
 partial_fixpoint
def XN (x:Qc):Option Bool :=
 match x with
 | p0 =>
 QaU p0>>=fun (v1:Bool) =>
 if v1=false then
  some false
 else
 (
 ZH (p0,0)>>=fun (out:Unit ⊕ Unit) =>
 match out with
 | .inl _ =>
  some false
 | .inr (_) =>
  some true
 )
 partial_fixpoint
end
def J6:(Qc × Int)→(Unit ⊕ Unit)→Prop:=fun x r=>match x with
 | (p0,v202)=>∀ st,prune 1 ((QB (QJ [1,1,0,1,0,0] (QO f66))).bind (env.hint 66).keepAt) st=⟨kp 21 [(1,(.ptr 0 0)),(3,(Qe v202))],[(.box [(Qe p0.kind),(Qe p0.fn),(Qe p0.axis),(.dat (strD p0.name)),(La p0.nums),(.dat (.lst (Qc.toDs p0.kids)))])]⟩ →
  RL prog env (env.hint 66) true (QJ [1,1,0,1,0,0] (QO f66)) 1 st (fun e s=>match r with|.inl _=>e=.ret∧∃ d,s=⟨sl d 21 [(2,(Qn false))],[(.box [(Qe p0.kind),(Qe p0.fn),(Qe p0.axis),(.dat (strD p0.name)),(La p0.nums),(.dat (.lst (Qc.toDs p0.kids)))])]⟩|.inr (_)=>e=.exit 0∧∃ d,s=⟨sl d 21 [],[(.box [(Qe p0.kind),(Qe p0.fn),(Qe p0.axis),(.dat (strD p0.name)),(La p0.nums),(.dat (.lst (Qc.toDs p0.kids)))])]⟩)
def Qa8:Qc→Bool→Prop:=fun x r=>match x,r with
 | p0,r0=>∀ H,PC prog env 66 ([(Qc.ex p0)].map .dat) H (Qn r0) H
theorem g_ref08_nodes_L1:(∀ x r,ZH x=some r→J6 x r)∧(∀ x r,XN x=some r→Qa8 x r):=by
 refine ZH.mutual_partial_correctness J6 Qa8 ?_ ?_
 ·intro ZH XN X4 Qcd x r hm
  unfold J6
  obtain ⟨p0,v202⟩:=x
  intro st hst
  refine RL_at hst ?_
  clear hst
  refine Qd (Qd (R_G (Qb 3 ?_)))
  refine QV Qc.toD p0.kids (es:=Qc.toDs p0.kids) (Qc.toDs_eq _) ?_
  refine Qb 1 (Qf ?_)
  refine Qx hm (rfl) (fun hm=>?_) (fun hm=>?_)
  ·refine Qp (Qd (Qu (Qd (R_G (Qb 3 ?_)))))
   obtain ⟨v602,hx,hm⟩:=Qi hm
   refine Qbg 6 Qc.toD p0.kids v202 v602 (es:=Qc.toDs p0.kids) (d:=(Qc.ex v602)) (Qc.toDs_eq _) hx (Qc.toD_eq v602) rfl ?_
   refine Qb 1 ?_
   obtain ⟨v603,hx,hm⟩:=Qi hm
   have hq:=Qcd _ _ hx []
   refine Qq hq ?_
   refine Qb 1 (Qf ?_)
   refine Qx hm (XH _) (fun hm=>?_) (fun hm=>?_)
   ·refine Qd (R_G (Qb 1 (Qf (Qo ?_))))
    obtain rfl:=Qs hm
    exact ⟨rfl,Qr⟩
   refine Qp (R_G (Qb 3 (Qf ?_)))
   exact X4 _ _ hm _ (by kernel_rfl)
  refine Q7 ?_
  obtain rfl:=Qs hm
  exact ⟨rfl,Qr⟩
 ·intro ZH X4 p0 r0 hm
  unfold Qa8
  intro H
  refine PC_sx (ds:=[(Qc.ex p0)]) (fn:=f66) rfl ?_
  refine Qd (R_G (Qb 2 (Qf (Qd (Qd (R_G (Qb 1 ?_)))))))
  obtain ⟨v1,hx,hm⟩:=Qi hm
  have hq:=Qfa _ _ hx []
  refine Qq hq ?_
  refine Qb 1 (Qf ?_)
  refine Qx hm (XH _) (fun hm=>?_) (fun hm=>?_)
  ·refine Qd (R_G (Qb 1 (Qf (Qo ?_))))
   obtain rfl:=Qs hm
   exact ⟨trivial,Qk⟩
  refine Qp (Qd (Qd (R_G (Qb 1 (Qf (Qu ?_))))))
  obtain ⟨out,hs,hm⟩:=Qi hm
  refine Za ?_
  rcases out with _|_
  ·refine RL_use (X4 _ _ hs) (by kernel_rfl) ?_
   clear hs
   intro e s hp
   obtain ⟨rfl,d,rfl⟩:=hp
   obtain rfl:=Qs hm
   exact ⟨trivial,Qk⟩
  ·refine RL_use (X4 _ _ hs) (by kernel_rfl) ?_
   clear hs
   intro e s hp
   obtain ⟨rfl,d,rfl⟩:=hp
   refine Qd (R_G (Qb 1 (Qf (Qo ?_))))
   obtain rfl:=Qs hm
   exact ⟨trivial,Qk⟩
theorem X4:∀ x r,ZH x=some r→J6 x r:=g_ref08_nodes_L1.1
theorem Qcd:∀ x r,XN x=some r→Qa8 x r:=g_ref08_nodes_L1.2
def Qaq (x:Qc):Option Bool :=
 match x with
 | p0 =>
 Xg p0>>=fun (v1:Int) =>
 if v1≤100 then
  XN p0>>=fun (v2:Bool) =>
  some v2
 else
 some false
def QdC:Qc→Bool→Prop:=fun x r=>match x,r with
 | p0,r0=>∀ H,PC prog env 37 ([(Qc.ex p0)].map .dat) H (Qn r0) H
theorem Qe1:∀ x r,Qaq x=some r→QdC x r:=by
 intro p0 r0 hm
 unfold Qaq at hm
 unfold QdC
 intro H
 refine PC_sx (ds:=[(Qc.ex p0)]) (fn:=f37) rfl ?_
 refine Qd (R_G (Qb 2 (Qf (Qd (R_G (Qb 1 ?_))))))
 obtain ⟨v1,hx,hm⟩:=Qi hm
 have hq:=Qbc _ _ hx []
 refine Qq hq ?_
 refine Qb 2 ?_
 refine Qz 6 hm (rfl) (fun hm=>?_) (fun hm=>?_)
 ·refine Qb 1 ?_
  obtain ⟨v2,hx,hm⟩:=Qi hm
  have hq:=Qcd _ _ hx []
  refine Qq hq ?_
  refine Qb 2 (Qf (Qo ?_))
  obtain rfl:=Qs hm
  exact ⟨trivial,Qk⟩
 refine Qb 4 (Qf (Qo ?_))
 obtain rfl:=Qs hm
 exact ⟨trivial,Qk⟩
def Qar (x:(Qc × Int)):Option Bool :=
 match x with
 | (p0,p1) =>
 Qbn (p0,p1)>>=fun (v1:Bool) =>
 if v1=true then
  Qaq p0>>=fun (v2:Bool) =>
  some v2
 else
 some false
def QdD:(Qc × Int)→Bool→Prop:=fun x r=>match x,r with
 | (p0,p1),r0=>∀ H,PC prog env 17 ([(Qc.ex p0),(Qj p1)].map .dat) H (Qn r0) H
theorem Qe2:∀ x r,Qar x=some r→QdD x r:=by
 intro x r0 hm
 unfold Qar at hm
 unfold QdD
 obtain ⟨p0,p1⟩:=x
 intro H
 refine PC_sx (ds:=[(Qc.ex p0),(Qj p1)]) (fn:=f17) rfl ?_
 refine Qd (R_G (Qb 2 (Qf (Qd (R_G (Qb 2 ?_))))))
 obtain ⟨v1,hx,hm⟩:=Qi hm
 have hq:=Qfr _ _ hx []
 refine Qq hq ?_
 refine Qb 1 ?_
 refine Qz 8 hm (QG _) (fun hm=>?_) (fun hm=>?_)
 ·refine Qb 1 ?_
  obtain ⟨v2,hx,hm⟩:=Qi hm
  have hq:=Qe1 _ _ hx []
  refine Qq hq ?_
  refine Qb 2 (Qf (Qo ?_))
  obtain rfl:=Qs hm
  exact ⟨trivial,Qk⟩
 refine Qb 4 (Qf (Qo ?_))
 obtain rfl:=Qs hm
 exact ⟨trivial,Qk⟩
def J7 (x:Int):Option Bool :=
 match x with
 | p0 =>
 (if p0≥65 then
  some (decide (p0≤90))
 else
 some false
 )>>=fun (v1:Bool) =>
 (if v1=true then
  some true
 else
 if p0≥97 then
  some (decide (p0≤122))
 else
 some false
 )>>=fun (v2:Bool) =>
 if v2=true then
  some true
 else
 some (p0 == 95)
def Qd3:Int→Bool→Prop:=fun x r=>match x,r with
 | p0,r0=>∀ H,PC prog env 132 ([(numD .i32 p0)].map .dat) H (Qn r0) H
theorem Qec:∀ x r,J7 x=some r→Qd3 x r:=by
 intro p0 r0 hm
 unfold J7 at hm
 unfold Qd3
 intro H
 refine PC_sx (ds:=[(numD .i32 p0)]) (fn:=f132) rfl ?_
 refine Qd (R_G (Qb 1 (Qf (Qd ?_))))
 refine Qcx ?_
 refine Qb 3 ?_
 obtain ⟨v1,hs,hm⟩:=Qi hm
 refine Y1 (j:=6) (fun d=>⟨sl d 21 [(0,(.dat (numD .i32 p0))),(2,(Qn false)),(8,(Qn v1))],[]⟩) (fun d=>?_) (fun hJ=>?_)
 ·clear hs
  refine Qb 1 ?_
  obtain ⟨v2,hs,hm⟩:=Qi hm
  refine Y1 (j:=14) (fun d=>⟨sl d 21 [(0,(.dat (numD .i32 p0))),(2,(Qn false)),(16,(Qn v2))],[]⟩) (fun d=>?_) (fun hJ=>?_)
  ·clear hs
   refine Qb 1 ?_
   refine Qz 17 hm (QG _) (fun hm=>?_) (fun hm=>?_)
   ·refine Qb 4 ?_
    refine Qf ⟨by kernel_rfl,?_⟩
    refine Qo ?_
    obtain rfl:=Qs hm
    exact ⟨trivial,Qk⟩
   refine Qb 4 ?_
   refine Qf ⟨by kernel_rfl,?_⟩
   refine Qo ?_
   obtain rfl:=Qs hm
   exact ⟨trivial,Qk⟩
  clear hm
  refine Qz 9 hs (QG _) (fun hm=>?_) (fun hm=>?_)
  ·refine Qb 7 ?_
   obtain rfl:=Qs hm
   exact hJ _ _
  refine Qb 3 ?_
  refine Qz 12 hm (rfl) (fun hm=>?_) (fun hm=>?_)
  ·refine Qb 4 ?_
   obtain rfl:=Qs hm
   exact hJ _ _
  refine Qb 4 ?_
  obtain rfl:=Qs hm
  exact hJ _ _
 clear hm
 refine Qz 5 hs (rfl) (fun hm=>?_) (fun hm=>?_)
 ·refine Qb 3 ?_
  obtain rfl:=Qs hm
  exact hJ _ _
 refine Qb 3 ?_
 obtain rfl:=Qs hm
 exact hJ _ _
def Qb0 (x:Int):Option Bool :=
 match x with
 | p0 =>
 if p0≥48 then
  some (decide (p0≤57))
 else
 some false
def Qen:Int→Bool→Prop:=fun x r=>match x,r with
 | p0,r0=>∀ H,PC prog env 150 ([(numD .i32 p0)].map .dat) H (Qn r0) H
theorem Qfn:∀ x r,Qb0 x=some r→Qen x r:=by
 intro p0 r0 hm
 unfold Qb0 at hm
 unfold Qen
 intro H
 refine PC_sx (ds:=[(numD .i32 p0)]) (fn:=f150) rfl ?_
 refine Qd (R_G (Qb 1 (Qf (Qd (R_G (Qb 3 ?_))))))
 refine Qz 5 hm (rfl) (fun hm=>?_) (fun hm=>?_)
 ·refine Qb 4 (Qf (Qo ?_))
  obtain rfl:=Qs hm
  exact ⟨trivial,Qk⟩
 refine Qb 4 (Qf (Qo ?_))
 obtain rfl:=Qs hm
 exact ⟨trivial,Qk⟩
def Qbl (x:Int):Option Bool :=
 match x with
 | p0 =>
 J7 p0>>=fun (v1:Bool) =>
 if v1=true then
  some true
 else
 Qb0 p0>>=fun (v2:Bool) =>
 some v2
def Qeo:Int→Bool→Prop:=fun x r=>match x,r with
 | p0,r0=>∀ H,PC prog env 134 ([(numD .i32 p0)].map .dat) H (Qn r0) H
theorem Qfo:∀ x r,Qbl x=some r→Qeo x r:=by
 intro p0 r0 hm
 unfold Qbl at hm
 unfold Qeo
 intro H
 refine PC_sx (ds:=[(numD .i32 p0)]) (fn:=f134) rfl ?_
 refine Qd (R_G (Qb 1 (Qf (Qd (R_G (Qb 1 ?_))))))
 obtain ⟨v1,hx,hm⟩:=Qi hm
 have hq:=Qec _ _ hx []
 refine Qq hq ?_
 refine Qb 1 ?_
 refine Qz 5 hm (QG _) (fun hm=>?_) (fun hm=>?_)
 ·refine Qb 4 (Qf (Qo ?_))
  obtain rfl:=Qs hm
  exact ⟨trivial,Qk⟩
 refine Qb 1 ?_
 obtain ⟨v2,hx,hm⟩:=Qi hm
 have hq:=Qfn _ _ hx []
 refine Qq hq ?_
 refine Qb 2 (Qf (Qo ?_))
 obtain rfl:=Qs hm
 exact ⟨trivial,Qk⟩
def Zh (x:(ByteArray × Nat)):Option ((Nat × ByteArray) ⊕ Nat) :=
 match x with
 | (p0,v201) =>
 if v201 < (p0).size then
  Qbl ((Utf8.decode p0 v201).1:Int)>>=fun (v604:Bool) =>
  if v604=false then
   ssub p0 0 (v201:Int)>>=fun v605 =>
   some (Sum.inl ((v201+(Utf8.decode p0 v201).2),v605))
  else
  Zh (p0,(v201+(Utf8.decode p0 v201).2))
 else
 some (Sum.inr v201)
 partial_fixpoint
def QaD:(ByteArray × Nat)→((Nat × ByteArray) ⊕ Nat)→Prop:=fun x r=>match x with
 | (p0,v201)=>∀ st,prune 1 ((QB (QJ [1,0,1,0,0] (QO f133))).bind (env.hint 133).keepAt) st=⟨kp 21 [(0,(.dat (strD p0))),(1,(.dat (.raw (.func (.func 134) #[] #[])))),(8,(.ptr 0 0))],[(.map (iterE p0 v201))]⟩ →
  RL prog env (env.hint 133) true (QJ [1,0,1,0,0] (QO f133)) 1 st (fun e s=>match r with|.inl (v601,v602)=>e=.ret∧∃ d,s=⟨sl d 21 [(4,(.dat (strD v602)))],[(.map (iterE p0 v601))]⟩|.inr (v603)=>e=.exit 0∧∃ d,s=⟨sl d 21 [(0,(.dat (strD p0)))],[(.map (iterE p0 v603))]⟩)
theorem YW:∀ x r,Zh x=some r→QaD x r:=by
 refine Zh.partial_correctness _ (fun Zh YW x r hm=>?_)
 unfold QaD
 obtain ⟨p0,v201⟩:=x
 intro st hst
 refine RL_at hst ?_
 clear hst
 refine Qd (R_G ?_)
 refine Qf3 (s:=p0) (pos:=v201) (j:=0) hm (fun hm=>?_) (fun hm=>?_)
 ·refine Qb 1 (Qf (Qd ?_))
  refine QaA (by kernel_rfl) ?_
  refine Qp (Qu (Qd (R_G (Qb 4 (Qf (Qd (R_G (Qb 2 ?_))))))))
  obtain ⟨v604,hx,hm⟩:=Qi hm
  have hq:=Qfo _ _ hx []
  refine Qq hq ?_
  refine Qb 1 (Qf ?_)
  refine Qx hm (XH _) (fun hm=>?_) (fun hm=>?_)
  ·refine Qd (R_G (Qb 2 ?_))
   obtain ⟨v605,hx,hm⟩:=Qi hm
   refine Zq rfl (fun _=>Qf2 (b:=p0) (l:=0) (h:=(v201:Int)) hx (by kernel_rfl) rfl (by kernel_rfl) (Or.inl ⟨rfl,rfl⟩) (Or.inr ⟨_,.i64,rfl,(by kernel_rfl)⟩)) ?_
   refine Qb 1 (Qf (Qo ?_))
   obtain rfl:=Qs hm
   exact ⟨rfl,Qr⟩
  refine Qp ?_
  exact YW _ _ hm _ (prune_of2 [(.map (iterE p0 (v201+(Utf8.decode p0 v201).2)))] (fun _=>(pg_cons (purge_it _ _ _ _) pg_nil)) rfl)
 refine Qb 1 (Qf (Qd ?_))
 refine YN (by kernel_rfl) ?_
 refine Q7 ?_
 obtain rfl:=Qs hm
 exact ⟨rfl,Qr⟩
def XC (x:ByteArray):Option ByteArray :=
 match x with
 | p0 =>
 (
 Zh (p0,0)>>=fun (out:(Nat × ByteArray) ⊕ Nat) =>
 match out with
 | .inl (v601,v602) =>
  some v602
 | .inr (v603) =>
  some p0
 )
def Qbi:ByteArray→ByteArray→Prop:=fun x r=>match x,r with
 | p0,r0=>∀ H,PC prog env 133 ([(strD p0),(.raw (.func (.func 134) #[] #[]))].map .dat) H (.dat (strD r0)) H
theorem Qdg:∀ x r,XC x=some r→Qbi x r:=by
 intro p0 r0 hm
 unfold XC at hm
 unfold Qbi
 intro H
 refine PC_sx (ds:=[(strD p0),(.raw (.func (.func 134) #[] #[]))]) (fn:=f133) rfl ?_
 refine Qd (R_G (Qb 1 (Qf (Qd (Qd (R_G (Qb 1 (Qb 1 (Qf (Qu ?_))))))))))
 obtain ⟨out,hs,hm⟩:=Qi hm
 refine Za ?_
 rcases out with ⟨v601,v602⟩|v603
 ·refine RL_use (YW _ _ hs) (prune_of2 [(.map (iterE p0 0))] (fun _=>(pg_cons (purge_it _ _ _ _) pg_nil)) rfl) ?_
  clear hs
  intro e s hp
  obtain ⟨rfl,d,rfl⟩:=hp
  obtain rfl:=Qs hm
  exact ⟨trivial,Qk⟩
 ·refine RL_use (YW _ _ hs) (prune_of2 [(.map (iterE p0 0))] (fun _=>(pg_cons (purge_it _ _ _ _) pg_nil)) rfl) ?_
  clear hs
  intro e s hp
  obtain ⟨rfl,d,rfl⟩:=hp
  refine Qd (R_G (Qb 2 (Qf (Qo ?_))))
  obtain rfl:=Qs hm
  exact ⟨trivial,Qk⟩
def Qba (x:ByteArray):Option (Unit ⊕ Nat) :=
 match x with
 | p0 =>
 if (0:Nat) < (p0).size then
  J7 ((Utf8.decode p0 (0:Nat)).1:Int)>>=fun (v402:Bool) =>
  if v402=false then
   some (Sum.inl ())
  else
  some (Sum.inr ((0:Nat)+(Utf8.decode p0 (0:Nat)).2))
 else
 some (Sum.inr 0)
def Qdv:ByteArray→(Unit ⊕ Nat)→Prop:=fun x r=>match x with
 | p0=>∀ st,prune 2 ((QB (QJ [1,0,1,0,0] (QO f104))).bind (env.hint 104).keepAt) st=⟨kp 22 [(0,(.dat (strD p0))),(2,(.ptr 0 0)),(8,(.ptr 1 0))],[QeM,(.map (iterE p0 0))]⟩ →
  RL prog env (env.hint 104) true (QJ [1,0,1,0,0] (QO f104)) 2 st (fun e s=>match r with|.inl _=>e=.ret∧∃ d,s=⟨sl d 22 [(2,(.ptr 0 0)),(3,(Qe 0))],[QeM,(.map (iterE p0 ((0:Nat)+(Utf8.decode p0 (0:Nat)).2)))]⟩|.inr (v401)=>e=.exit 0∧∃ d,s=⟨sl d 22 [(0,(.dat (strD p0))),(2,(.ptr 0 0))],[QeM,(.map (iterE p0 v401))]⟩)
theorem QdQ:∀ x r,Qba x=some r→Qdv x r:=by
 intro p0 r hm
 unfold Qba at hm
 unfold Qdv
 show ∀ st,_→_
 intro st hst
 refine RL_at hst ?_
 clear hst
 refine Qd (R_G ?_)
 refine Qf3 (s:=p0) (pos:=(0:Nat)) (j:=1) hm (fun hm=>?_) (fun hm=>?_)
 ·refine Qb 1 (Qf (Qd ?_))
  refine QaA (by kernel_rfl) ?_
  refine Qp (Qu (Qd (R_G (Qb 2 (Qf (Qd (Qd (R_G (Qb 1 ?_)))))))))
  obtain ⟨v402,hx,hm⟩:=Qi hm
  have hq:=Qec _ _ hx []
  refine Qq hq ?_
  refine Qb 1 (Qf ?_)
  refine Qx hm (XH _) (fun hm=>?_) (fun hm=>?_)
  ·refine Qd (R_G (Qb 3 (Qf (Qo ?_))))
   obtain rfl:=Qs hm
   exact ⟨rfl,Qr⟩
  refine Qp (Q7 ?_)
  obtain rfl:=Qs hm
  exact ⟨rfl,Qr⟩
 refine Qb 1 (Qf (Qd ?_))
 refine YN (by kernel_rfl) ?_
 refine Q7 ?_
 obtain rfl:=Qs hm
 exact ⟨rfl,Qr⟩
def Qcz (x:ByteArray):Option (Xd × Int) :=
 match x with
 | p0 =>
 (
 Qba p0>>=fun (out:Unit ⊕ Nat) =>
 match out with
 | .inl _ =>
  some ((⟨0,ByteArray.empty,0⟩:Xd),0)
 | .inr (v401) =>
  XC p0>>=fun (v403:ByteArray) =>
  some ((⟨1,v403,0⟩:Xd),(v403.size:Int))
 )
def QeG:ByteArray→(Xd × Int)→Prop:=fun x r=>match x,r with
 | p0,(r0,r1)=>∀ H,PC prog env 104 ([(strD p0)].map .dat) H (.tup [(.dat (Xd.toD r0)),(Qe r1)]) H
theorem QfC:∀ x r,Qcz x=some r→QeG x r:=by
 intro p0 r hm
 unfold Qcz at hm
 unfold QeG
 obtain ⟨r0,r1⟩:=r
 intro H
 refine PC_sx (ds:=[(strD p0)]) (fn:=f104) rfl ?_
 refine Qd (R_G (Qb 2 (Qf (Qd (Qd (R_G (Qb 1 (Qb 1 (Qf (Qu ?_))))))))))
 obtain ⟨out,hs,hm⟩:=Qi hm
 refine Za ?_
 rcases out with _|v401
 ·refine RL_use (QdQ _ _ hs) (prune_of2 [QeM,(.map (iterE p0 0))] (fun _=>(pg_cons (by kernel_rfl) (pg_cons (purge_it _ _ _ _) pg_nil))) rfl) ?_
  clear hs
  intro e s hp
  obtain ⟨rfl,d,rfl⟩:=hp
  obtain ⟨rfl,rfl⟩:=Q8 hm
  exact ⟨trivial,Qk⟩
 ·refine RL_use (QdQ _ _ hs) (prune_of2 [QeM,(.map (iterE p0 0))] (fun _=>(pg_cons (by kernel_rfl) (pg_cons (purge_it _ _ _ _) pg_nil))) rfl) ?_
  clear hs
  intro e s hp
  obtain ⟨rfl,d,rfl⟩:=hp
  refine Qd (R_G (Qb 1 ?_))
  obtain ⟨v403,hx,hm⟩:=Qi hm
  have hq:=Qdg _ _ hx []
  refine Qq hq ?_
  refine Qb 1 (Qf (Qd (R_G (Qb 3 ?_))))
  refine Zq rfl (fun _=>Qch (b:=v403) (by kernel_rfl) rfl (by kernel_rfl)) ?_
  refine Qb 2 (Qf (Qo ?_))
  obtain ⟨rfl,rfl⟩:=Q8 hm
  exact ⟨trivial,Qk⟩
def QbL (x:ByteArray):Option Bool :=
 match x with
 | p0 =>
 Qcz p0>>=fun ((v1,v2):(Xd × Int)) =>
 if v2 > 0 then
  some (v2 == (p0.size:Int))
 else
 some false
def QeF:ByteArray→Bool→Prop:=fun x r=>match x,r with
 | p0,r0=>∀ H,PC prog env 71 ([(strD p0)].map .dat) H (Qn r0) H
theorem QfB:∀ x r,QbL x=some r→QeF x r:=by
 intro p0 r0 hm
 unfold QbL at hm
 unfold QeF
 intro H
 refine PC_sx (ds:=[(strD p0)]) (fn:=f71) rfl ?_
 refine Qd (R_G (Qb 1 (Qf (Qd (R_G (Qb 1 ?_))))))
 obtain ⟨⟨v1,v2⟩,hx,hm⟩:=Qi hm
 have hq:=QfC _ _ hx []
 refine Qq hq ?_
 refine Qb 6 (Qf (Qd (R_G (Qb 3 ?_))))
 refine Qz 12 hm (rfl) (fun hm=>?_) (fun hm=>?_)
 ·refine Qb 2 ?_
  refine Zq rfl (fun _=>Qch (b:=p0) (by kernel_rfl) rfl (by kernel_rfl)) ?_
  refine Qb 3 (Qf (Qo ?_))
  obtain rfl:=Qs hm
  exact ⟨trivial,Qk⟩
 refine Qb 6 (Qf (Qo ?_))
 obtain rfl:=Qs hm
 exact ⟨trivial,Qk⟩
def QaX (x:Int):Option Bool :=
 match x with
 | p0 =>
 some (decide (p0 < 0))
def Qdc:Int→Bool→Prop:=fun x r=>match x,r with
 | p0,r0=>∀ H,PC prog env 170 ([(Qj p0)].map .dat) H (Qn r0) H
theorem QeT:∀ x r,QaX x=some r→Qdc x r:=by
 intro p0 r0 hm
 unfold QaX at hm
 unfold Qdc
 intro H
 refine PC_sx (ds:=[(Qj p0)]) (fn:=f170) rfl ?_
 refine Qd (R_G (Qb 1 (Qf (Qd (R_G (Qb 3 (Qf (Qo ?_))))))))
 obtain rfl:=Qs hm
 exact ⟨trivial,Qk⟩
def QH (x:((List Int) × Int)):Option (Int ⊕ Unit) :=
 match x with
 | (p0,v201) =>
 if v201 < (p0.length:Int) then
  idx p0 v201>>=fun v602 =>
  QaX v602>>=fun (v603:Bool) =>
  if v603=true then
   some (Sum.inl v201)
  else
  QH (p0,(W (v201+1)))
 else
 some (Sum.inr ())
 partial_fixpoint
def Yq:((List Int) × Int)→(Int ⊕ Unit)→Prop:=fun x r=>match x with
 | (p0,v201)=>∀ st,prune 0 ((QB (QJ [1,0,1,0,0] (QO f180))).bind (env.hint 180).keepAt) st=⟨kp 19 [(0,(La p0)),(1,(.dat (.raw (.func (.func 170) #[] #[])))),(7,(Qe (p0.length:Int))),(8,(Qe v201))],[]⟩ →
  RL prog env (env.hint 180) true (QJ [1,0,1,0,0] (QO f180)) 0 st (fun e s=>match r with|.inl v601=>e=.ret∧∃ d,s=⟨sl d 19 [(4,(Qe v601))],[]⟩|.inr (_)=>e=.exit 0∧∃ d,s=⟨sl d 19 [],[]⟩)
theorem Ze:∀ x r,QH x=some r→Yq x r:=by
 refine QH.partial_correctness _ (fun QH Ze x r hm=>?_)
 unfold Yq
 obtain ⟨p0,v201⟩:=x
 intro st hst
 refine RL_at hst ?_
 clear hst
 refine Qd (R_G (Qb 1 (Qf (Qd ?_))))
 refine Qx hm (rfl) (fun hm=>?_) (fun hm=>?_)
 ·refine Qp (Qd (Qu (Qd (R_G (Qb 2 (Qf (Qd (R_G (Qb 3 ?_)))))))))
  refine Zt 1 Qj hm rfl (fun _=>rfl) (fun v602 hm=>?_)
  refine Qb 1 ?_
  obtain ⟨v603,hx,hm⟩:=Qi hm
  have hq:=QeT _ _ hx []
  refine Qq hq ?_
  refine Qf ?_
  refine Qx hm (QG _) (fun hm=>?_) (fun hm=>?_)
  ·refine Qd (R_G (Qb 2 (Qf (Qo ?_))))
   obtain rfl:=Qs hm
   exact ⟨rfl,Qr⟩
  refine Qp (R_G (Qb 2 (Qf ?_)))
  exact Ze _ _ hm _ (by kernel_rfl)
 refine Q7 ?_
 obtain rfl:=Qs hm
 exact ⟨rfl,Qr⟩
def Zk (x:(List Int)):Option Int :=
 match x with
 | p0 =>
 (
 QH (p0,0)>>=fun (out:Int ⊕ Unit) =>
 match out with
 | .inl v601 =>
  some v601
 | .inr (_) =>
  some (-1)
 )
def YC:(List Int)→Int→Prop:=fun x r=>match x,r with
 | p0,r0=>∀ H,PC prog env 180 ([(Lb p0),(.raw (.func (.func 170) #[] #[]))].map .dat) H (Qe r0) H
theorem JM:∀ x r,Zk x=some r→YC x r:=by
 intro p0 r0 hm
 unfold Zk at hm
 unfold YC
 intro H
 refine PC_sx (ds:=[(Lb p0),(.raw (.func (.func 170) #[] #[]))]) (fn:=f180) rfl ?_
 refine Qd (R_G (Qb 1 (Qf (Qd (Qd (R_G (Qb 1 ?_)))))))
 refine QV Qj p0 (es:=(List.map Qj) p0) rfl ?_
 refine Qb 1 (Qf (Qu ?_))
 obtain ⟨out,hs,hm⟩:=Qi hm
 refine Za ?_
 rcases out with v601|_
 ·refine RL_use (Ze _ _ hs) (by kernel_rfl) ?_
  clear hs
  intro e s hp
  obtain ⟨rfl,d,rfl⟩:=hp
  obtain rfl:=Qs hm
  exact ⟨trivial,Qk⟩
 ·refine RL_use (Ze _ _ hs) (by kernel_rfl) ?_
  clear hs
  intro e s hp
  obtain ⟨rfl,d,rfl⟩:=hp
  refine Qd (R_G (Qb 1 (Qf (Qo ?_))))
  obtain rfl:=Qs hm
  exact ⟨trivial,Qk⟩
def Q0 (x:(List Int)):Option Bool :=
 match x with
 | p0 =>
 Zk p0>>=fun (v1:Int) =>
 some (decide (v1≥0))
def Yo:(List Int)→Bool→Prop:=fun x r=>match x,r with
 | p0,r0=>∀ H,PC prog env 169 ([(Lb p0),(.raw (.func (.func 170) #[] #[]))].map .dat) H (Qn r0) H
theorem Jk:∀ x r,Q0 x=some r→Yo x r:=by
 intro p0 r0 hm
 unfold Q0 at hm
 unfold Yo
 intro H
 refine PC_sx (ds:=[(Lb p0),(.raw (.func (.func 170) #[] #[]))]) (fn:=f169) rfl ?_
 refine Qd (R_G (Qb 1 (Qf (Qd (R_G (Qb 2 ?_))))))
 obtain ⟨v1,hx,hm⟩:=Qi hm
 have hq:=JM _ _ hx []
 refine Qq hq ?_
 refine Qb 2 (Qf (Qo ?_))
 obtain rfl:=Qs hm
 exact ⟨trivial,Qk⟩
def QaY (x:Int):Option Bool :=
 match x with
 | p0 =>
 some (decide (p0 > 65536))
def Qdd:Int→Bool→Prop:=fun x r=>match x,r with
 | p0,r0=>∀ H,PC prog env 171 ([(Qj p0)].map .dat) H (Qn r0) H
theorem QeU:∀ x r,QaY x=some r→Qdd x r:=by
 intro p0 r0 hm
 unfold QaY at hm
 unfold Qdd
 intro H
 refine PC_sx (ds:=[(Qj p0)]) (fn:=f171) rfl ?_
 refine Qd (R_G (Qb 1 (Qf (Qd (R_G (Qb 3 (Qf (Qo ?_))))))))
 obtain rfl:=Qs hm
 exact ⟨trivial,Qk⟩
def QI (x:((List Int) × Int)):Option (Int ⊕ Unit) :=
 match x with
 | (p0,v201) =>
 if v201 < (p0.length:Int) then
  idx p0 v201>>=fun v602 =>
  QaY v602>>=fun (v603:Bool) =>
  if v603=true then
   some (Sum.inl v201)
  else
  QI (p0,(W (v201+1)))
 else
 some (Sum.inr ())
 partial_fixpoint
def Yr:((List Int) × Int)→(Int ⊕ Unit)→Prop:=fun x r=>match x with
 | (p0,v201)=>∀ st,prune 0 ((QB (QJ [1,0,1,0,0] (QO f180))).bind (env.hint 180).keepAt) st=⟨kp 19 [(0,(La p0)),(1,(.dat (.raw (.func (.func 171) #[] #[])))),(7,(Qe (p0.length:Int))),(8,(Qe v201))],[]⟩ →
  RL prog env (env.hint 180) true (QJ [1,0,1,0,0] (QO f180)) 0 st (fun e s=>match r with|.inl v601=>e=.ret∧∃ d,s=⟨sl d 19 [(4,(Qe v601))],[]⟩|.inr (_)=>e=.exit 0∧∃ d,s=⟨sl d 19 [],[]⟩)
theorem Zf:∀ x r,QI x=some r→Yr x r:=by
 refine QI.partial_correctness _ (fun QI Zf x r hm=>?_)
 unfold Yr
 obtain ⟨p0,v201⟩:=x
 intro st hst
 refine RL_at hst ?_
 clear hst
 refine Qd (R_G (Qb 1 (Qf (Qd ?_))))
 refine Qx hm (rfl) (fun hm=>?_) (fun hm=>?_)
 ·refine Qp (Qd (Qu (Qd (R_G (Qb 2 (Qf (Qd (R_G (Qb 3 ?_)))))))))
  refine Zt 1 Qj hm rfl (fun _=>rfl) (fun v602 hm=>?_)
  refine Qb 1 ?_
  obtain ⟨v603,hx,hm⟩:=Qi hm
  have hq:=QeU _ _ hx []
  refine Qq hq ?_
  refine Qf ?_
  refine Qx hm (QG _) (fun hm=>?_) (fun hm=>?_)
  ·refine Qd (R_G (Qb 2 (Qf (Qo ?_))))
   obtain rfl:=Qs hm
   exact ⟨rfl,Qr⟩
  refine Qp (R_G (Qb 2 (Qf ?_)))
  exact Zf _ _ hm _ (by kernel_rfl)
 refine Q7 ?_
 obtain rfl:=Qs hm
 exact ⟨rfl,Qr⟩
def Zl (x:(List Int)):Option Int :=
 match x with
 | p0 =>
 (
 QI (p0,0)>>=fun (out:Int ⊕ Unit) =>
 match out with
 | .inl v601 =>
  some v601
 | .inr (_) =>
  some (-1)
 )
def YD:(List Int)→Int→Prop:=fun x r=>match x,r with
 | p0,r0=>∀ H,PC prog env 180 ([(Lb p0),(.raw (.func (.func 171) #[] #[]))].map .dat) H (Qe r0) H
theorem JN:∀ x r,Zl x=some r→YD x r:=by
 intro p0 r0 hm
 unfold Zl at hm
 unfold YD
 intro H
 refine PC_sx (ds:=[(Lb p0),(.raw (.func (.func 171) #[] #[]))]) (fn:=f180) rfl ?_
 refine Qd (R_G (Qb 1 (Qf (Qd (Qd (R_G (Qb 1 ?_)))))))
 refine QV Qj p0 (es:=(List.map Qj) p0) rfl ?_
 refine Qb 1 (Qf (Qu ?_))
 obtain ⟨out,hs,hm⟩:=Qi hm
 refine Za ?_
 rcases out with v601|_
 ·refine RL_use (Zf _ _ hs) (by kernel_rfl) ?_
  clear hs
  intro e s hp
  obtain ⟨rfl,d,rfl⟩:=hp
  obtain rfl:=Qs hm
  exact ⟨trivial,Qk⟩
 ·refine RL_use (Zf _ _ hs) (by kernel_rfl) ?_
  clear hs
  intro e s hp
  obtain ⟨rfl,d,rfl⟩:=hp
  refine Qd (R_G (Qb 1 (Qf (Qo ?_))))
  obtain rfl:=Qs hm
  exact ⟨trivial,Qk⟩
def Q1 (x:(List Int)):Option Bool :=
 match x with
 | p0 =>
 Zl p0>>=fun (v1:Int) =>
 some (decide (v1≥0))
def Yp:(List Int)→Bool→Prop:=fun x r=>match x,r with
 | p0,r0=>∀ H,PC prog env 169 ([(Lb p0),(.raw (.func (.func 171) #[] #[]))].map .dat) H (Qn r0) H
theorem Jl:∀ x r,Q1 x=some r→Yp x r:=by
 intro p0 r0 hm
 unfold Q1 at hm
 unfold Yp
 intro H
 refine PC_sx (ds:=[(Lb p0),(.raw (.func (.func 171) #[] #[]))]) (fn:=f169) rfl ?_
 refine Qd (R_G (Qb 1 (Qf (Qd (R_G (Qb 2 ?_))))))
 obtain ⟨v1,hx,hm⟩:=Qi hm
 have hq:=JN _ _ hx []
 refine Qq hq ?_
 refine Qb 2 (Qf (Qo ?_))
 obtain rfl:=Qs hm
 exact ⟨trivial,Qk⟩
def Je (x:(List Int)):Option Int :=
 match x with
 | p0 =>
 Q0 p0>>=fun (v1:Bool) =>
 if v1=true then
  some 6
 else
 Q1 p0>>=fun (v2:Bool) =>
 if v2=true then
  some 7
 else
 some 0
def Qd9:(List Int)→Int→Prop:=fun x r=>match x,r with
 | p0,r0=>∀ H,PC prog env 151 ([(Lb p0)].map .dat) H (Qe r0) H
theorem QcF:∀ x r,Je x=some r→Qd9 x r:=by
 intro p0 r0 hm
 unfold Je at hm
 unfold Qd9
 intro H
 refine PC_sx (ds:=[(Lb p0)]) (fn:=f151) rfl ?_
 refine Qd (R_G (Qb 1 (Qf (Qd (Qu (Qd (R_G (Qb 1 ?_))))))))
 obtain ⟨v1,hx,hm⟩:=Qi hm
 have hq:=Jk _ _ hx []
 refine Qq hq ?_
 refine Qb 1 (Qf ?_)
 refine Qx hm (QG _) (fun hm=>?_) (fun hm=>?_)
 ·refine Qd (R_G (Qb 1 (Qf (Qo ?_))))
  obtain rfl:=Qs hm
  exact ⟨trivial,Qk⟩
 refine Qd (R_G (Qb 1 ?_))
 obtain ⟨v2,hx,hm⟩:=Qi hm
 have hq:=Jl _ _ hx []
 refine Qq hq ?_
 refine Qb 1 (Qf ?_)
 refine Qx hm (QG _) (fun hm=>?_) (fun hm=>?_)
 ·refine Qd (R_G (Qb 1 (Qf (Qo ?_))))
  obtain rfl:=Qs hm
  exact ⟨trivial,Qk⟩
 refine Qp (Qd (R_G (Qb 1 (Qf (Qo ?_)))))
 obtain rfl:=Qs hm
 exact ⟨trivial,Qk⟩
def Q6 (x:((List Int) × Int × Int)):Option (Int ⊕ Unit) :=
 match x with
 | (p0,p1,v201) =>
 if v201 < (p0.length:Int) then
  idx p0 v201>>=fun v602 =>
  if p1=v602 then
   some (Sum.inl v201)
  else
  Q6 (p0,p1,(W (v201+1)))
 else
 some (Sum.inr ())
 partial_fixpoint
def Qaj:((List Int) × Int × Int)→(Int ⊕ Unit)→Prop:=fun x r=>match x with
 | (p0,p1,v201)=>∀ st,prune 0 ((QB (QJ [1,0,1,0,0] (QO f172))).bind (env.hint 172).keepAt) st=⟨kp 19 [(0,(La p0)),(1,(Qe p1)),(7,(Qe (p0.length:Int))),(8,(Qe v201))],[]⟩ →
  RL prog env (env.hint 172) true (QJ [1,0,1,0,0] (QO f172)) 0 st (fun e s=>match r with|.inl v601=>e=.ret∧∃ d,s=⟨sl d 19 [(4,(Qe v601))],[]⟩|.inr (_)=>e=.exit 0∧∃ d,s=⟨sl d 19 [],[]⟩)
theorem YB:∀ x r,Q6 x=some r→Qaj x r:=by
 refine Q6.partial_correctness _ (fun Q6 YB x r hm=>?_)
 unfold Qaj
 obtain ⟨p0,p1,v201⟩:=x
 intro st hst
 refine RL_at hst ?_
 clear hst
 refine Qd (R_G (Qb 1 (Qf (Qd ?_))))
 refine Qx hm (rfl) (fun hm=>?_) (fun hm=>?_)
 ·refine Qp (Qd (Qu (Qd (R_G (Qb 2 (Qf (Qd (R_G (Qb 3 ?_)))))))))
  refine Zt 1 Qj hm rfl (fun _=>rfl) (fun v602 hm=>?_)
  refine Qb 2 (Qf ?_)
  refine Qx hm (ZW _ _) (fun hm=>?_) (fun hm=>?_)
  ·refine Qd (R_G (Qb 2 (Qf (Qo ?_))))
   obtain rfl:=Qs hm
   exact ⟨rfl,Qr⟩
  refine Qp (R_G (Qb 2 (Qf ?_)))
  exact YB _ _ hm _ (by kernel_rfl)
 refine Q7 ?_
 obtain rfl:=Qs hm
 exact ⟨rfl,Qr⟩
def Y7 (x:((List Int) × Int)):Option Int :=
 match x with
 | (p0,p1) =>
 (
 Q6 (p0,p1,0)>>=fun (out:Int ⊕ Unit) =>
 match out with
 | .inl v601 =>
  some v601
 | .inr (_) =>
  some (-1)
 )
def QaO:((List Int) × Int)→Int→Prop:=fun x r=>match x,r with
 | (p0,p1),r0=>∀ H,PC prog env 172 ([(Lb p0),(Qj p1)].map .dat) H (Qe r0) H
theorem QcH:∀ x r,Y7 x=some r→QaO x r:=by
 intro x r0 hm
 unfold Y7 at hm
 unfold QaO
 obtain ⟨p0,p1⟩:=x
 intro H
 refine PC_sx (ds:=[(Lb p0),(Qj p1)]) (fn:=f172) rfl ?_
 refine Qd (R_G (Qb 1 (Qf (Qd (Qd (R_G (Qb 1 ?_)))))))
 refine QV Qj p0 (es:=(List.map Qj) p0) rfl ?_
 refine Qb 1 (Qf (Qu ?_))
 obtain ⟨out,hs,hm⟩:=Qi hm
 refine Za ?_
 rcases out with v601|_
 ·refine RL_use (YB _ _ hs) (by kernel_rfl) ?_
  clear hs
  intro e s hp
  obtain ⟨rfl,d,rfl⟩:=hp
  obtain rfl:=Qs hm
  exact ⟨trivial,Qk⟩
 ·refine RL_use (YB _ _ hs) (by kernel_rfl) ?_
  clear hs
  intro e s hp
  obtain ⟨rfl,d,rfl⟩:=hp
  refine Qd (R_G (Qb 1 (Qf (Qo ?_))))
  obtain rfl:=Qs hm
  exact ⟨trivial,Qk⟩
def Ya (x:((List Int) × Int)):Option Bool :=
 match x with
 | (p0,p1) =>
 Y7 (p0,p1)>>=fun (v1:Int) =>
 some (decide (v1≥0))
def Qah:((List Int) × Int)→Bool→Prop:=fun x r=>match x,r with
 | (p0,p1),r0=>∀ H,PC prog env 152 ([(Lb p0),(Qj p1)].map .dat) H (Qn r0) H
theorem QbX:∀ x r,Ya x=some r→Qah x r:=by
 intro x r0 hm
 unfold Ya at hm
 unfold Qah
 obtain ⟨p0,p1⟩:=x
 intro H
 refine PC_sx (ds:=[(Lb p0),(Qj p1)]) (fn:=f152) rfl ?_
 refine Qd (R_G (Qb 1 (Qf (Qd (R_G (Qb 2 ?_))))))
 obtain ⟨v1,hx,hm⟩:=Qi hm
 have hq:=QcH _ _ hx []
 refine Qq hq ?_
 refine Qb 2 (Qf (Qo ?_))
 obtain rfl:=Qs hm
 exact ⟨trivial,Qk⟩
def QbN (x:(Int × Int × Int)):Option (Int × Bool) :=
 match x with
 | (p0,p1,p2) =>
 ((if p0 < 0 then
  some true
 else
 some (decide (p1 < 0))
 )>>=fun (v2:Bool) =>
 (if v2=true then
  some true
 else
 some (decide (p0 > p2))
 )>>=fun (v3:Bool) =>
 (if v3=true then
  some true
 else
 some (decide (p1 > p2))
 )>>=fun (v4:Bool) =>
 if v4=true then
  some true
 else
 if p1 > 0 then
  quoM p2 p1>>=fun v5 =>
  some (decide (p0 > v5))
 else
 some false
 )>>=fun (v1:Bool) =>
 if v1=true then
  some (0,false)
 else
 some ((W (p0 * p1)),true)
def QeJ:(Int × Int × Int)→(Int × Bool)→Prop:=fun x r=>match x,r with
 | (p0,p1,p2),(r0,r1)=>∀ H,PC prog env 155 ([(Qj p0),(Qj p1),(Qj p2)].map .dat) H (.tup [(Qe r0),(Qn r1)]) H
theorem QfF:∀ x r,QbN x=some r→QeJ x r:=by
 intro x r hm
 unfold QbN at hm
 unfold QeJ
 obtain ⟨p0,p1,p2⟩:=x
 obtain ⟨r0,r1⟩:=r
 intro H
 refine PC_sx (ds:=[(Qj p0),(Qj p1),(Qj p2)]) (fn:=f155) rfl ?_
 refine Qd (R_G (Qb 2 (Qf (Qd (Qd ?_)))))
 obtain ⟨v1,hs,hm⟩:=Qi hm
 refine Xc (fun d=>⟨sl d 38 [(0,(Qe p0)),(1,(Qe p1)),(34,(Qn v1))],[]⟩) ?_ (fun d=>?_)
 ·replace hm:=hs
  clear hs
  refine Qcx ?_
  refine Qb 3 ?_
  obtain ⟨v2,hs,hm⟩:=Qi hm
  refine Y1 (j:=6) (fun d=>⟨sl d 38 [(0,(Qe p0)),(1,(Qe p1)),(2,(Qe p2)),(13,(Qn v2))],[]⟩) (fun d=>?_) (fun hJ=>?_)
  ·clear hs
   refine Qb 1 ?_
   obtain ⟨v3,hs,hm⟩:=Qi hm
   refine Y1 (j:=11) (fun d=>⟨sl d 38 [(0,(Qe p0)),(1,(Qe p1)),(2,(Qe p2)),(18,(Qn v3))],[]⟩) (fun d=>?_) (fun hJ=>?_)
   ·clear hs
    refine Qb 1 ?_
    obtain ⟨v4,hs,hm⟩:=Qi hm
    refine Y1 (j:=16) (fun d=>⟨sl d 38 [(0,(Qe p0)),(1,(Qe p1)),(2,(Qe p2)),(23,(Qn v4))],[]⟩) (fun d=>?_) (fun hJ=>?_)
    ·clear hs
     refine Qb 1 ?_
     refine Qz 24 hm (QG _) (fun hm=>?_) (fun hm=>?_)
     ·refine Qb 10 ?_
      refine Qf ⟨by kernel_rfl,?_⟩
      obtain rfl:=Qs hm
      exact Qr
     refine Qb 3 ?_
     refine Qz 27 hm (rfl) (fun hm=>?_) (fun hm=>?_)
     ·refine Qb 3 ?_
      obtain ⟨v5,hx,hm⟩:=Qi hm
      refine Zq rfl (fun _=>Qgi (a:=p2) (b:=p1) hx rfl (by kernel_rfl) (by kernel_rfl)) ?_
      refine Qb 3 ?_
      refine Qf ⟨by kernel_rfl,?_⟩
      obtain rfl:=Qs hm
      exact Qr
     refine Qb 7 ?_
     refine Qf ⟨by kernel_rfl,?_⟩
     obtain rfl:=Qs hm
     exact Qr
    clear hm
    refine Qz 19 hs (QG _) (fun hm=>?_) (fun hm=>?_)
    ·refine Qb 4 ?_
     obtain rfl:=Qs hm
     exact hJ _ _
    refine Qb 4 ?_
    obtain rfl:=Qs hm
    exact hJ _ _
   clear hm
   refine Qz 14 hs (QG _) (fun hm=>?_) (fun hm=>?_)
   ·refine Qb 4 ?_
    obtain rfl:=Qs hm
    exact hJ _ _
   refine Qb 4 ?_
   obtain rfl:=Qs hm
   exact hJ _ _
  clear hm
  refine Qz 10 hs (rfl) (fun hm=>?_) (fun hm=>?_)
  ·refine Qb 3 ?_
   obtain rfl:=Qs hm
   exact hJ _ _
  refine Qb 3 ?_
  obtain rfl:=Qs hm
  exact hJ _ _
 clear hs
 refine Qx hm (QG _) (fun hm=>?_) (fun hm=>?_)
 ·refine Qd (R_G (Qb 2 (Qf (Qo ?_))))
  obtain ⟨rfl,rfl⟩:=Q8 hm
  exact ⟨trivial,Qk⟩
 refine Qp (Qd (R_G (Qb 5 (Qf (Qo ?_)))))
 obtain ⟨rfl,rfl⟩:=Q8 hm
 exact ⟨trivial,Qk⟩
def Qaa (x:(Int × Int)):Option (Int × Bool) :=
 match x with
 | (p0,p1) =>
 QbN (p0,p1,65536)>>=fun ((v1,v2):(Int × Bool)) =>
 some (v1,v2)
def Qcq:(Int × Int)→(Int × Bool)→Prop:=fun x r=>match x,r with
 | (p0,p1),(r0,r1)=>∀ H,PC prog env 154 ([(Qj p0),(Qj p1)].map .dat) H (.tup [(Qe r0),(Qn r1)]) H
theorem Qek:∀ x r,Qaa x=some r→Qcq x r:=by
 intro x r hm
 unfold Qaa at hm
 unfold Qcq
 obtain ⟨p0,p1⟩:=x
 obtain ⟨r0,r1⟩:=r
 intro H
 refine PC_sx (ds:=[(Qj p0),(Qj p1)]) (fn:=f154) rfl ?_
 refine Qd (R_G (Qb 2 (Qf (Qd (R_G (Qb 2 ?_))))))
 obtain ⟨⟨v1,v2⟩,hx,hm⟩:=Qi hm
 have hq:=QfF _ _ hx []
 refine Qq hq ?_
 refine Qb 4 (Qf (Qo ?_))
 obtain ⟨rfl,rfl⟩:=Q8 hm
 exact ⟨trivial,Qk⟩
def QP (x:((List Int) × Int × Int)):Option (Int ⊕ Int) :=
 match x with
 | (p0,v201,v202) =>
 if v202 < (p0.length:Int) then
  idx p0 v202>>=fun v603 =>
  Qaa (v201,v603)>>=fun ((v604,v605):(Int × Bool)) =>
  if v605=false then
   some (Sum.inl v604)
  else
  QP (p0,v604,(W (v202+1)))
 else
 some (Sum.inr v201)
 partial_fixpoint
def Xw:((List Int) × Int × Int)→(Int ⊕ Int)→Prop:=fun x r=>match x with
 | (p0,v201,v202)=>∀ st,prune 0 ((QB (QJ [1,1,0,1,0,0] (QO f173))).bind (env.hint 173).keepAt) st=⟨kp 31 [(2,(.dat (.raw (.func (.func 154) #[] #[])))),(8,(Qe v201)),(13,(La p0)),(14,(Qe (p0.length:Int))),(15,(Qe v202))],[]⟩ →
  RL prog env (env.hint 173) true (QJ [1,1,0,1,0,0] (QO f173)) 0 st (fun e s=>match r with|.inl v601=>e=.ret∧∃ d,s=⟨sl d 31 [(6,(Qe v601)),(7,(Qn false))],[]⟩|.inr (v602)=>e=.exit 0∧∃ d,s=⟨sl d 31 [(8,(Qe v602))],[]⟩)
theorem ZE:∀ x r,QP x=some r→Xw x r:=by
 refine QP.partial_correctness _ (fun QP ZE x r hm=>?_)
 unfold Xw
 obtain ⟨p0,v201,v202⟩:=x
 intro st hst
 refine RL_at hst ?_
 clear hst
 refine Qd (R_G (Qb 1 (Qf (Qd ?_))))
 refine Qx hm (rfl) (fun hm=>?_) (fun hm=>?_)
 ·refine Qp (Qd (Qu (Qd (R_G ?_))))
  refine Zt 1 Qj hm rfl (fun _=>rfl) (fun v603 hm=>?_)
  refine Qb 2 (Qf (Qd (R_G (Qb 3 ?_))))
  obtain ⟨⟨v604,v605⟩,hx,hm⟩:=Qi hm
  have hq:=Qek _ _ hx []
  refine Qq hq ?_
  refine Qb 5 (Qf (Qd (R_G (Qb 2 (Qf ?_)))))
  refine Qx hm (XH _) (fun hm=>?_) (fun hm=>?_)
  ·refine Qd (R_G (Qb 3 (Qf (Qo ?_))))
   obtain rfl:=Qs hm
   exact ⟨rfl,Qr⟩
  refine Qp (R_G (Qb 2 (Qf ?_)))
  exact ZE _ _ hm _ (by kernel_rfl)
 refine Q7 ?_
 obtain rfl:=Qs hm
 exact ⟨rfl,Qr⟩
def Z6 (x:((List Int) × Int)):Option (Int × Bool) :=
 match x with
 | (p0,p1) =>
 (
 QP (p0,p1,0)>>=fun (out:Int ⊕ Int) =>
 match out with
 | .inl v601 =>
  some (v601,false)
 | .inr (v602) =>
  some (v602,true)
 )
def XZ:((List Int) × Int)→(Int × Bool)→Prop:=fun x r=>match x,r with
 | (p0,p1),(r0,r1)=>∀ H,PC prog env 173 ([(Lb p0),(Qj p1),(.raw (.func (.func 154) #[] #[]))].map .dat) H (.tup [(Qe r0),(Qn r1)]) H
theorem Qa4:∀ x r,Z6 x=some r→XZ x r:=by
 intro x r hm
 unfold Z6 at hm
 unfold XZ
 obtain ⟨p0,p1⟩:=x
 obtain ⟨r0,r1⟩:=r
 intro H
 refine PC_sx (ds:=[(Lb p0),(Qj p1),(.raw (.func (.func 154) #[] #[]))]) (fn:=f173) rfl ?_
 refine Qd (R_G (Qb 2 (Qf (Qd (R_G (Qb 3 (Qf (Qd (Qd (R_G (Qb 1 ?_)))))))))))
 refine QV Qj p0 (es:=(List.map Qj) p0) rfl ?_
 refine Qb 1 (Qf (Qu ?_))
 obtain ⟨out,hs,hm⟩:=Qi hm
 refine Za ?_
 rcases out with v601|v602
 ·refine RL_use (ZE _ _ hs) (by kernel_rfl) ?_
  clear hs
  intro e s hp
  obtain ⟨rfl,d,rfl⟩:=hp
  obtain ⟨rfl,rfl⟩:=Q8 hm
  exact ⟨trivial,Qk⟩
 ·refine RL_use (ZE _ _ hs) (by kernel_rfl) ?_
  clear hs
  intro e s hp
  obtain ⟨rfl,d,rfl⟩:=hp
  refine Qd (R_G (Qb 3 (Qf (Qo ?_))))
  obtain ⟨rfl,rfl⟩:=Q8 hm
  exact ⟨trivial,Qk⟩
def Z5 (x:((List Int) × Int)):Option (Int × Int) :=
 match x with
 | (p0,p1) =>
 Je p0>>=fun (v1:Int) =>
 if v1≠0 then
  some (0,v1)
 else
 Z6 (p0,p1)>>=fun ((v2,v3):(Int × Bool)) =>
 if v3=false then
  some (0,7)
 else
 some (v2,0)
def XY:((List Int) × Int)→(Int × Int)→Prop:=fun x r=>match x,r with
 | (p0,p1),(r0,r1)=>∀ H,PC prog env 153 ([(Lb p0),(Qj p1),(.raw (.func (.func 154) #[] #[]))].map .dat) H (.tup [(Qe r0),(Qe r1)]) H
theorem Qa3:∀ x r,Z5 x=some r→XY x r:=by
 intro x r hm
 unfold Z5 at hm
 unfold XY
 obtain ⟨p0,p1⟩:=x
 obtain ⟨r0,r1⟩:=r
 intro H
 refine PC_sx (ds:=[(Lb p0),(Qj p1),(.raw (.func (.func 154) #[] #[]))]) (fn:=f153) rfl ?_
 refine Qd (R_G (Qb 2 (Qf (Qd (Qd (R_G (Qb 1 ?_)))))))
 obtain ⟨v1,hx,hm⟩:=Qi hm
 have hq:=QcF _ _ hx []
 refine Qq hq ?_
 refine Qb 1 (Qf (Qd (R_G (Qb 2 (Qf ?_)))))
 refine Qx hm (ne_dec _ _) (fun hm=>?_) (fun hm=>?_)
 ·refine Qd (R_G (Qb 3 (Qf (Qo ?_))))
  obtain ⟨rfl,rfl⟩:=Q8 hm
  exact ⟨trivial,Qk⟩
 refine Qp (Qd (R_G (Qb 3 ?_)))
 obtain ⟨⟨v2,v3⟩,hx,hm⟩:=Qi hm
 have hq:=Qa4 _ _ hx []
 refine Qq hq ?_
 refine Qb 5 (Qf (Qd (Qd (R_G (Qb 2 (Qf ?_))))))
 refine Qx hm (XH _) (fun hm=>?_) (fun hm=>?_)
 ·refine Qd (R_G (Qb 2 (Qf (Qo ?_))))
  obtain ⟨rfl,rfl⟩:=Q8 hm
  exact ⟨trivial,Qk⟩
 refine Qp (Qd (R_G (Qb 3 (Qf (Qo ?_)))))
 obtain ⟨rfl,rfl⟩:=Q8 hm
 exact ⟨trivial,Qk⟩
def X2 (x:(List Int)):Option (Int × Int) :=
 match x with
 | p0 =>
 Je p0>>=fun (v1:Int) =>
 (if v1=0 then
  Ya (p0,0)>>=fun (v3:Bool) =>
  some v3
 else
 some false
 )>>=fun (v2:Bool) =>
 if v2=true then
  some (0,0)
 else
 Z5 (p0,1)>>=fun ((v4,v5):(Int × Int)) =>
 some (v4,v5)
def Qdb:(List Int)→(Int × Int)→Prop:=fun x r=>match x,r with
 | p0,(r0,r1)=>∀ H,PC prog env 135 ([(Lb p0)].map .dat) H (.tup [(Qe r0),(Qe r1)]) H
theorem Qdn:∀ x r,X2 x=some r→Qdb x r:=by
 intro p0 r hm
 unfold X2 at hm
 unfold Qdb
 obtain ⟨r0,r1⟩:=r
 intro H
 refine PC_sx (ds:=[(Lb p0)]) (fn:=f135) rfl ?_
 refine Qd (R_G (Qb 2 (Qf (Qd (Qd (R_G (Qb 1 ?_)))))))
 obtain ⟨v1,hx,hm⟩:=Qi hm
 have hq:=QcF _ _ hx []
 refine Qq hq ?_
 refine Qb 1 (Qf (Qd ?_))
 obtain ⟨v2,hs,hm⟩:=Qi hm
 refine Xc (fun d=>⟨sl d 17 [(0,(La p0)),(12,(Qn v2))],[]⟩) ?_ (fun d=>?_)
 ·replace hm:=hs
  clear hs
  refine R_G (Qb 3 ?_)
  refine Qz 9 hm (ZW _ _) (fun hm=>?_) (fun hm=>?_)
  ·refine Qb 1 ?_
   obtain ⟨v3,hx,hm⟩:=Qi hm
   have hq:=QbX _ _ hx []
   refine Qq hq ?_
   refine Qb 1 (Qf ?_)
   obtain rfl:=Qs hm
   exact Qr
  refine Qb 3 (Qf ?_)
  obtain rfl:=Qs hm
  exact Qr
 clear hs
 refine Qx hm (QG _) (fun hm=>?_) (fun hm=>?_)
 ·refine Qd (R_G (Qb 2 (Qf (Qo ?_))))
  obtain ⟨rfl,rfl⟩:=Q8 hm
  exact ⟨trivial,Qk⟩
 refine Qp (Qd (R_G (Qb 1 ?_)))
 obtain ⟨⟨v4,v5⟩,hx,hm⟩:=Qi hm
 have hq:=Qa3 _ _ hx []
 refine Qq hq ?_
 refine Qb 4 (Qf (Qo ?_))
 obtain ⟨rfl,rfl⟩:=Q8 hm
 exact ⟨trivial,Qk⟩
def Zg (x:(List Int)):Option Int :=
 match x with
 | p0 =>
 X2 p0>>=fun ((v1,v2):(Int × Int)) =>
 (if v2≠6 then
  some (decide ((p0.length:Int) > 16))
 else
 some false
 )>>=fun (v3:Bool) =>
 if v3=true then
  some 7
 else
 some v2
def QdK:(List Int)→Int→Prop:=fun x r=>match x,r with
 | p0,r0=>∀ H,PC prog env 105 ([(Lb p0)].map .dat) H (Qe r0) H
theorem ZJ:∀ x r,Zg x=some r→QdK x r:=by
 intro p0 r0 hm
 unfold Zg at hm
 unfold QdK
 intro H
 refine PC_sx (ds:=[(Lb p0)]) (fn:=f105) rfl ?_
 refine Qd (R_G (Qb 1 (Qf (Qd (R_G (Qb 1 ?_))))))
 obtain ⟨⟨v1,v2⟩,hx,hm⟩:=Qi hm
 have hq:=Qdn _ _ hx []
 refine Qq hq ?_
 refine Qb 5 (Qf (Qd (Qd ?_)))
 obtain ⟨v3,hs,hm⟩:=Qi hm
 refine Xc (fun d=>⟨sl d 18 [(4,(Qe v2)),(16,(Qn v3))],[]⟩) ?_ (fun d=>?_)
 ·replace hm:=hs
  clear hs
  refine R_G (Qb 3 ?_)
  refine Qz 12 hm (ne_dec _ _) (fun hm=>?_) (fun hm=>?_)
  ·refine Qb 1 ?_
   refine QV Qj p0 (es:=(List.map Qj) p0) rfl ?_
   refine Qb 2 (Qf ?_)
   obtain rfl:=Qs hm
   exact Qr
  refine Qb 4 (Qf ?_)
  obtain rfl:=Qs hm
  exact Qr
 clear hs
 refine Qx hm (QG _) (fun hm=>?_) (fun hm=>?_)
 ·refine Qd (R_G (Qb 1 (Qf (Qo ?_))))
  obtain rfl:=Qs hm
  exact ⟨trivial,Qk⟩
 refine Qp (Qd (R_G (Qb 2 (Qf (Qo ?_)))))
 obtain rfl:=Qs hm
 exact ⟨trivial,Qk⟩
def Jq (x:(List Int)):Option Int :=
 match x with
 | p0 =>
 Zg p0>>=fun (v1:Int) =>
 if v1≠0 then
  some 0
 else
 X2 p0>>=fun ((v2,v3):(Int × Int)) =>
 some v2
def QdJ:(List Int)→Int→Prop:=fun x r=>match x,r with
 | p0,r0=>∀ H,PC prog env 106 ([(Lb p0)].map .dat) H (Qe r0) H
theorem QdT:∀ x r,Jq x=some r→QdJ x r:=by
 intro p0 r0 hm
 unfold Jq at hm
 unfold QdJ
 intro H
 refine PC_sx (ds:=[(Lb p0)]) (fn:=f106) rfl ?_
 refine Qd (R_G (Qb 1 (Qf (Qd (Qd (R_G (Qb 1 ?_)))))))
 obtain ⟨v1,hx,hm⟩:=Qi hm
 have hq:=ZJ _ _ hx []
 refine Qq hq ?_
 refine Qb 1 (Qf ?_)
 refine Qx hm (ne_dec _ _) (fun hm=>?_) (fun hm=>?_)
 ·refine Qd (R_G (Qb 1 (Qf (Qo ?_))))
  obtain rfl:=Qs hm
  exact ⟨trivial,Qk⟩
 refine Qp (Qd (R_G (Qb 1 ?_)))
 obtain ⟨⟨v2,v3⟩,hx,hm⟩:=Qi hm
 have hq:=Qdn _ _ hx []
 refine Qq hq ?_
 refine Qb 5 (Qf (Qd (R_G (Qb 2 (Qf (Qo ?_))))))
 obtain rfl:=Qs hm
 exact ⟨trivial,Qk⟩
def Xe (x:Qw):Option Int :=
 match x with
 | p0 =>
 Zg p0.shape>>=fun (v1:Int) =>
 if v1≠0 then
  some v1
 else
 Jq p0.shape>>=fun (v2:Int) =>
 if (p0.data.length:Int)≠v2 then
  some 5
 else
 some 0
def Qds:Qw→Int→Prop:=fun x r=>match x,r with
 | p0,r0=>∀ H,PC prog env 72 ([(Qw.toD p0)].map .dat) H (Qe r0) H
theorem QdM:∀ x r,Xe x=some r→Qds x r:=by
 intro p0 r0 hm
 unfold Xe at hm
 unfold Qds
 intro H
 refine PC_sx (ds:=[(Qw.toD p0)]) (fn:=f72) rfl ?_
 refine Qd (R_G (Qb 2 (Qf (Qd (Qd (R_G (Qb 2 ?_)))))))
 obtain ⟨v1,hx,hm⟩:=Qi hm
 have hq:=ZJ _ _ hx []
 refine Qq hq ?_
 refine Qb 1 (Qf (Qd (R_G (Qb 2 (Qf ?_)))))
 refine Qx hm (ne_dec _ _) (fun hm=>?_) (fun hm=>?_)
 ·refine Qd (R_G (Qb 2 (Qf (Qo ?_))))
  obtain rfl:=Qs hm
  exact ⟨trivial,Qk⟩
 refine Qp (Qd (Qd ?_))
 refine Qbt ?_
 refine Qb 2 ?_
 refine QV Qj p0.data (es:=(List.map Qj) p0.data) rfl ?_
 refine Qb 2 ?_
 obtain ⟨v2,hx,hm⟩:=Qi hm
 have hq:=QdT _ _ hx []
 refine Qq hq ?_
 refine Qb 1 ?_
 refine Qf ⟨by kernel_rfl,?_⟩
 refine Qx hm (ne_dec _ _) (fun hm=>?_) (fun hm=>?_)
 ·refine Qd (R_G (Qb 1 (Qf (Qo ?_))))
  obtain rfl:=Qs hm
  exact ⟨trivial,Qk⟩
 refine Qp (Qd (R_G (Qb 1 (Qf (Qo ?_)))))
 obtain rfl:=Qs hm
 exact ⟨trivial,Qk⟩
def Qbk (x:Qa):Option Bool :=
 match x with
 | p0 =>
 QbL p0.name>>=fun (v1:Bool) =>
 if v1=true then
  Xe (⟨p0.value.shape,p0.value.data⟩:Qw)>>=fun (v2:Int) =>
  some (v2 == 0)
 else
 some false
def Qem:Qa→Bool→Prop:=fun x r=>match x,r with
 | p0,r0=>∀ H,PC prog env 46 ([(Qa.toD p0)].map .dat) H (Qn r0) H
theorem Qfm:∀ x r,Qbk x=some r→Qem x r:=by
 intro p0 r0 hm
 unfold Qbk at hm
 unfold Qem
 intro H
 refine PC_sx (ds:=[(Qa.toD p0)]) (fn:=f46) rfl ?_
 refine Qd (R_G (Qb 2 (Qf (Qd (R_G (Qb 2 ?_))))))
 obtain ⟨v1,hx,hm⟩:=Qi hm
 have hq:=QfB _ _ hx []
 refine Qq hq ?_
 refine Qb 1 ?_
 refine Qz 6 hm (QG _) (fun hm=>?_) (fun hm=>?_)
 ·refine Qb 2 ?_
  obtain ⟨v2,hx,hm⟩:=Qi hm
  have hq:=QdM _ _ hx []
  refine Qq hq ?_
  refine Qb 3 (Qf (Qo ?_))
  obtain rfl:=Qs hm
  exact ⟨trivial,Qk⟩
 refine Qb 6 (Qf (Qo ?_))
 obtain rfl:=Qs hm
 exact ⟨trivial,Qk⟩
def Xo (x:(List Int)):Option (List Int) :=
 match x with
 | p0 =>
 makeM 8 (p0.length:Int) 0>>=fun v1 =>
 YI ((cpM v1 p0).length=v1.length)>>=fun (_:Unit) =>
 some (cpM v1 p0)
def QbD:(List Int)→(List Int)→Prop:=fun x r=>match x,r with
 | p0,r0=>∀ H,PC prog env 107 ([(Lb p0)].map .dat) H (La r0) H
theorem QdX:∀ x r,Xo x=some r→QbD x r:=by
 intro p0 r0 hm
 unfold Xo at hm
 unfold QbD
 intro H
 refine PC_sx (ds:=[(Lb p0)]) (fn:=f107) rfl ?_
 refine Qd (R_G (Qb 1 (Qf (Qd (R_G (Qb 1 ?_))))))
 refine QV Qj p0 (es:=(List.map Qj) p0) rfl ?_
 obtain ⟨v1,hx,hm⟩:=Qi hm
 refine ZB (v:=.arr 0 0 v1.length v1.length) (fun H=>H++[.box (cellsOf Qj v1)]) rfl (by kernel_rfl) ?_ ?_
 ·intro K hk
  exact QeD 0 Qj (z:=0) (n:=(p0.length:Int)) (bytes:=8) hx (e:=3) (by kernel_rfl) (by kernel_rfl) (by kernel_rfl) (by kernel_rfl) rfl rfl (by kernel_rfl) (by kernel_rfl) hk
 refine Qb 1 (Qf (Qd (R_G (Qb 2 ?_))))
 refine ZB (v:=Qe ((min p0.length v1.length:Nat):Int)) (fun H=>H.set 0 (.box (cellsOf Qj (cpM v1 p0)))) rfl (by kernel_rfl) (fun _=>QfI Qj (d:=v1) (l:=p0) (e:=3) (i:=0) (m:=v1.length) (cap:=v1.length) (fun _=>rfl) rfl (by kernel_rfl) (by kernel_rfl) rfl (by kernel_rfl) (by kernel_rfl) (by kernel_rfl)) ?_
 refine Qf (Qd (R_G (Qb 2 (Qf (Qo ?_)))))
 obtain ⟨_,hl2,hm⟩:=Qi hm
 replace hl2:=YP hl2
 obtain rfl:=Qs hm
 exact ⟨trivial,YO [(.arr 0 0 v1.length v1.length)] (by kernel_rfl) (po_arr (pc_arr Qj (cpM v1 p0) hl2 (fun _=>rfl) (by kernel_rfl)))⟩
def Yh (x:(List Int)):Option (List Int) :=
 match x with
 | p0 =>
 makeM 8 (p0.length:Int) 0>>=fun v1 =>
 YI ((cpM v1 p0).length=v1.length)>>=fun (_:Unit) =>
 some (cpM v1 p0)
def Qbh:(List Int)→(List Int)→Prop:=fun x r=>match x,r with
 | p0,r0=>∀ H,PC prog env 108 ([(Lb p0)].map .dat) H (La r0) H
theorem Qbr:∀ x r,Yh x=some r→Qbh x r:=by
 intro p0 r0 hm
 unfold Yh at hm
 unfold Qbh
 intro H
 refine PC_sx (ds:=[(Lb p0)]) (fn:=f108) rfl ?_
 refine Qd (R_G (Qb 1 (Qf (Qd (R_G (Qb 1 ?_))))))
 refine QV Qj p0 (es:=(List.map Qj) p0) rfl ?_
 obtain ⟨v1,hx,hm⟩:=Qi hm
 refine ZB (v:=.arr 0 0 v1.length v1.length) (fun H=>H++[.box (cellsOf Qj v1)]) rfl (by kernel_rfl) ?_ ?_
 ·intro K hk
  exact QeD 0 Qj (z:=0) (n:=(p0.length:Int)) (bytes:=8) hx (e:=2) (by kernel_rfl) (by kernel_rfl) (by kernel_rfl) (by kernel_rfl) rfl rfl (by kernel_rfl) (by kernel_rfl) hk
 refine Qb 1 (Qf (Qd (R_G (Qb 2 ?_))))
 refine ZB (v:=Qe ((min p0.length v1.length:Nat):Int)) (fun H=>H.set 0 (.box (cellsOf Qj (cpM v1 p0)))) rfl (by kernel_rfl) (fun _=>QfI Qj (d:=v1) (l:=p0) (e:=2) (i:=0) (m:=v1.length) (cap:=v1.length) (fun _=>rfl) rfl (by kernel_rfl) (by kernel_rfl) rfl (by kernel_rfl) (by kernel_rfl) (by kernel_rfl)) ?_
 refine Qf (Qd (R_G (Qb 2 (Qf (Qo ?_)))))
 obtain ⟨_,hl2,hm⟩:=Qi hm
 replace hl2:=YP hl2
 obtain rfl:=Qs hm
 exact ⟨trivial,YO [(.arr 0 0 v1.length v1.length)] (by kernel_rfl) (po_arr (pc_arr Qj (cpM v1 p0) hl2 (fun _=>rfl) (by kernel_rfl)))⟩
def XB (x:Qw):Option Qw :=
 match x with
 | p0 =>
 Xo p0.shape>>=fun (v1:(List Int)) =>
 Yh p0.data>>=fun (v2:(List Int)) =>
 some (⟨v1,v2⟩:Qw)
def Qd0:Qw→Qw→Prop:=fun x r=>match x,r with
 | p0,r0=>∀ H,PC prog env 73 ([(Qw.toD p0)].map .dat) H (.dat (Qw.toD r0)) H
theorem Qea:∀ x r,XB x=some r→Qd0 x r:=by
 intro p0 r0 hm
 unfold XB at hm
 unfold Qd0
 intro H
 refine PC_sx (ds:=[(Qw.toD p0)]) (fn:=f73) rfl ?_
 refine Qd (R_G (Qb 2 (Qf (Qd ?_))))
 refine Qbt ?_
 refine Qb 2 ?_
 obtain ⟨v1,hx,hm⟩:=Qi hm
 have hq:=QdX _ _ hx []
 refine Qq hq ?_
 refine Qb 2 ?_
 obtain ⟨v2,hx,hm⟩:=Qi hm
 have hq:=Qbr _ _ hx []
 refine Qq hq ?_
 refine Qb 2 ?_
 refine Qf ⟨by kernel_rfl,?_⟩
 refine Qo ?_
 obtain rfl:=Qs hm
 exact ⟨trivial,Qk⟩
def QaT (x:Qa):Option Qa :=
 match x with
 | p0 =>
 XB (⟨p0.value.shape,p0.value.data⟩:Qw)>>=fun (v1:Qw) =>
 some (⟨p0.name,v1⟩:Qa)
def Qd2:Qa→Qa→Prop:=fun x r=>match x,r with
 | p0,r0=>∀ H,PC prog env 47 ([(Qa.toD p0)].map .dat) H (.dat (Qa.toD r0)) H
theorem Qe9:∀ x r,QaT x=some r→Qd2 x r:=by
 intro p0 r0 hm
 unfold QaT at hm
 unfold Qd2
 intro H
 refine PC_sx (ds:=[(Qa.toD p0)]) (fn:=f47) rfl ?_
 refine Qd (R_G (Qb 2 (Qf (Qd ?_))))
 refine Qbt ?_
 refine Qb 4 ?_
 obtain ⟨v1,hx,hm⟩:=Qi hm
 have hq:=Qea _ _ hx []
 refine Qq hq ?_
 refine Qb 2 ?_
 refine Qf ⟨by kernel_rfl,?_⟩
 refine Qo ?_
 obtain rfl:=Qs hm
 exact ⟨trivial,Qk⟩
def Y5 (x:((List Qa) × ByteArray × (List (ByteArray × Int)) × (List Int) × (List Int))):Option ((Int × Bool)) :=
 match x with
 | (q0,q1,q2,q3,q4) =>
 some (lookS q2 q1)>>=fun ((v1,v2):(Int × Bool)) =>
 some (v1,v2)
def X9:((List Qa) × ByteArray × (List (ByteArray × Int)) × (List Int) × (List Int))→(Int × Bool)→Prop:=fun x r=>match x with
 | (q0,q1,q2,q3,q4)=>PC prog env 45 [(.agg [(.vec 1 ((List.map Qa.toD) q0)),(.mapv 0)]),(.dat (strD q1))] [(.map (smE q2)),(.tok 39 q0.length),(.box [(.vec 1 ((List.map Qa.toD) q0)),(.mapv 0)]),(.tok 39 (([]:List Qa).length)),(.box [(.dat (strD q1)),(La q3),(La q4)])] (match r with|(v5001,v5002)=>(.tup [(Qe v5001),(Qn v5002)])) (match r with|(v5001,v5002)=>[(.map (smE q2)),(.tok 39 q0.length),(.box [(.vec 1 ((List.map Qa.toD) q0)),(.mapv 0)]),(.tok 39 (([]:List Qa).length)),(.box [(.dat (strD q1)),(La q3),(La q4)]),(.box [(.vec 1 ((List.map Qa.toD) q0)),(.mapv 0)])])
theorem QcB:∀ x r,Y5 x=some r→X9 x r:=by
 intro x r hm
 unfold Y5 at hm
 unfold X9
 obtain ⟨q0,q1,q2,q3,q4⟩:=x
 refine PC_sxB (fn:=f45) rfl ?_
 refine Qd (R_G (Qb 3 (Qf (Qd (R_G (Qb 3 ?_))))))
 obtain ⟨⟨v1,v2⟩,hx,hm⟩:=Qi hm
 refine Zq (v:=.tup [Qe v1,Qn v2]) rfl (fun _=>Qfl (i:=0) (kt:=9) (e:=3) (l:=q2) (s:=q1) hx (by kernel_rfl) (by kernel_rfl) (by kernel_rfl) rfl (by kernel_rfl) (by kernel_rfl) (by kernel_rfl)) ?_
 refine Qb 5 (Qf (Qd (R_G (Qb 4 (Qf (Qo ?_))))))
 obtain rfl:=Qs hm
 exact ⟨trivial,QK (by kernel_rfl) (by kernel_rfl)⟩
def ZX (x:((List Qa) × (List (ByteArray × Int)) × (List Qa) × Int)):Option (((List (ByteArray × Int)) × (List Qa) × ByteArray × (List Int) × (List Int) × (List Qa)) ⊕ ((List (ByteArray × Int)) × (List Qa))) :=
 match x with
 | (q0,v201,v202,v203) =>
 if v203 < (q0.length:Int) then
  idx q0 v203>>=fun v609 =>
  Y5 (v202,v609.name,v201,v609.value.shape,v609.value.data)>>=fun ((v610,v611):(Int × Bool)) =>
  (if v611=true then
   some true
  else
  Qbk v609>>=fun (v613:Bool) =>
  some (!v613)
  )>>=fun (v612:Bool) =>
  if v612=true then
   some (Sum.inl (v201,v202,v609.name,v609.value.shape,v609.value.data,v202))
  else
  QaT v609>>=fun (v614:Qa) =>
  app 64 v202 ([v614]:List Qa)>>=fun v615 =>
  ZX (q0,(setS v201 v609.name v203),v615,(W (v203+1)))
 else
 some (Sum.inr (v201,v202))
 partial_fixpoint
def QbE:((List Qa) × (List (ByteArray × Int)) × (List Qa) × Int)→(((List (ByteArray × Int)) × (List Qa) × ByteArray × (List Int) × (List Int) × (List Qa)) ⊕ ((List (ByteArray × Int)) × (List Qa)))→Prop:=fun x r=>match x with
 | (q0,v201,v202,v203)=>∀ st,prune 4 ((QB (QJ [1,1,0,1,0,0] (QO f22))).bind (env.hint 22).keepAt) st=⟨kp 47 [(4,(.ptr 2 0)),(11,(.dat (.lst ((List.map Qa.toD) q0)))),(12,(Qe (q0.length:Int))),(13,(Qe v203))],[(.map (smE v201)),(.tok 39 v202.length),(.box [(.vec 1 ((List.map Qa.toD) v202)),(.mapv 0)]),(.tok 39 (([]:List Qa).length))]⟩ →
  RL prog env (env.hint 22) true (QJ [1,1,0,1,0,0] (QO f22)) 4 st (fun e s=>match r with|.inl (v601,v602,v603,v604,v605,v606)=>e=.ret∧∃ d,s=⟨sl d 47 [(2,(.dat (.raw (.pointer none)))),(3,(Qe 3))],[(.map (smE v601)),(.tok 39 v602.length),(.box [(.vec 1 ((List.map Qa.toD) v602)),(.mapv 0)]),(.tok 39 (([]:List Qa).length)),(.box [(.dat (strD v603)),(La v604),(La v605)]),(.box [(.vec 1 ((List.map Qa.toD) v606)),(.mapv 0)])]⟩|.inr ((v607,v608))=>e=.exit 0∧∃ d,s=⟨sl d 47 [(4,(.ptr 2 0))],[(.map (smE v607)),(.tok 39 v608.length),(.box [(.vec 1 ((List.map Qa.toD) v608)),(.mapv 0)]),(.tok 39 (([]:List Qa).length))]⟩)
theorem Jf:∀ x r,ZX x=some r→QbE x r:=by
 refine ZX.partial_correctness _ (fun ZX Jf x r hm=>?_)
 unfold QbE
 obtain ⟨q0,v201,v202,v203⟩:=x
 intro st hst
 refine RL_at hst ?_
 clear hst
 refine Qd (R_G (Qb 1 (Qf (Qd ?_))))
 refine Qx hm (rfl) (fun hm=>?_) (fun hm=>?_)
 ·refine Qp (Qd (Qu (Qd (R_G (Qb 1 ?_)))))
  refine Zt 3 Qa.toD hm rfl (fun _=>rfl) (fun v609 hm=>?_)
  refine Qb 4 (Qf (Qd (Qd (R_G (Qb 3 ?_)))))
  obtain ⟨⟨v610,v611⟩,hx,hm⟩:=Qi hm
  have hq:=QcB _ _ hx
  dsimp only [X9] at hq
  refine QX hq ?_
  refine Qb 5 (Qf (Qd ?_))
  obtain ⟨v612,hs,hm⟩:=Qi hm
  refine Xc (fun d=>⟨sl d 47 [(4,(.ptr 2 0)),(5,(Qe v203)),(6,(.ptr 4 0)),(11,(.dat (.lst ((List.map Qa.toD) q0)))),(12,(Qe (q0.length:Int))),(13,(Qe v203)),(30,(Qn v612))],[(.map (smE v201)),(.tok 39 v202.length),(.box [(.vec 1 ((List.map Qa.toD) v202)),(.mapv 0)]),(.tok 39 (([]:List Qa).length)),(.box [(.dat (strD v609.name)),(La v609.value.shape),(La v609.value.data)]),(.box [(.vec 1 ((List.map Qa.toD) v202)),(.mapv 0)])]⟩) ?_ (fun d=>?_)
  ·replace hm:=hs
   clear hs
   refine R_G (Qb 2 ?_)
   refine Qz 26 hm (QG _) (fun hm=>?_) (fun hm=>?_)
   ·refine Qb 4 (Qf ?_)
    obtain rfl:=Qs hm
    exact Qr
   refine Qb 1 ?_
   obtain ⟨v613,hx,hm⟩:=Qi hm
   have hq:=Qfm _ _ hx []
   refine Qq hq ?_
   refine Qb 2 (Qf ?_)
   obtain rfl:=Qs hm
   exact Qr
  clear hs
  refine Qx hm (QG _) (fun hm=>?_) (fun hm=>?_)
  ·refine Qd (R_G (Qb 2 (Qf (Qo ?_))))
   obtain rfl:=Qs hm
   exact ⟨rfl,Qr⟩
  refine Qp ?_
  refine Qbt ?_
  refine Qb 7 ?_
  obtain ⟨v614,hx,hm⟩:=Qi hm
  have hq:=Qe9 _ _ hx []
  refine Qq hq ?_
  refine Qb 1 ?_
  obtain ⟨v615,hx,hm⟩:=Qi hm
  refine QcJ 39 3 64 1 Qa.toD v202 ([v614]:List Qa) v615 (xs:=(List.map Qa.toD) v202) (es:=(List.map Qa.toD) ([v614]:List Qa)) (L:=(List.map Qa.toD)) (fun _=>rfl) rfl rfl Qa.fit hx ?_
  refine Qb 3 ?_
  refine ZB (fun H=>H.set 0 (.map (smE (setS v201 v609.name v203)))) rfl (by kernel_rfl) (fun _=>Qf7 (i:=0) (kt:=9) (e:=3) (l:=v201) (s:=v609.name) (n:=v203) (by kernel_rfl) (by kernel_rfl) rfl (by kernel_rfl) (by kernel_rfl) (by kernel_rfl) (by kernel_rfl)) ?_
  refine Qf ⟨by kernel_rfl,?_⟩
  refine R_G (Qb 2 (Qf ?_))
  exact Jf _ _ hm _ (prune_of2 [(.map (smE (setS v201 v609.name v203))),(.tok 39 v615.length),(.box [(.vec 1 ((List.map Qa.toD) v615)),(.mapv 0)]),(.tok 39 (([]:List Qa).length))] (fun _=>(pg_cons (purge_sm _ _ _) (pg_cons (by kernel_rfl) (pg_cons (by kernel_rfl) (pg_cons (by kernel_rfl) pg_nil))))) rfl)
 refine Q7 ?_
 obtain rfl:=Qs hm
 exact ⟨rfl,Qr⟩
def Qax (x:(List Qa)):Option (((List (ByteArray × Int)) × (List Qa) × ByteArray × (List Int) × (List Int) × (List Qa)) ⊕ ((List (ByteArray × Int)) × (List Qa) × (List Qa))) :=
 match x with
 | q0 =>
 (
 ZX (q0,([]:List (ByteArray × Int)),([]:List Qa),0)>>=fun (out:((List (ByteArray × Int)) × (List Qa) × ByteArray × (List Int) × (List Int) × (List Qa)) ⊕ ((List (ByteArray × Int)) × (List Qa))) =>
 match out with
 | .inl (v601,v602,v603,v604,v605,v606) =>
  some (Sum.inl (v601,v602,v603,v604,v605,v606))
 | .inr ((v607,v608)) =>
  some (Sum.inr (v607,v608,v608))
 )
def Qau:(List Qa)→(((List (ByteArray × Int)) × (List Qa) × ByteArray × (List Int) × (List Int) × (List Qa)) ⊕ ((List (ByteArray × Int)) × (List Qa) × (List Qa)))→Prop:=fun x r=>match x with
 | q0=>PC prog env 22 [(.dat (.lst ((List.map Qa.toD) q0)))] [] (match r with|.inl (v5001,v5002,v5003,v5004,v5005,v5006)=>(.tup [(.dat (.raw (.pointer none))),(Qe 3)])|.inr ((v5007,v5008,v5009))=>(.tup [(.ptr 4 0),(Qe 0)])) (match r with|.inl (v5001,v5002,v5003,v5004,v5005,v5006)=>[(.map (smE v5001)),(.tok 39 v5002.length),(.box [(.vec 1 ((List.map Qa.toD) v5002)),(.mapv 0)]),(.tok 39 (([]:List Qa).length)),(.box [(.dat (strD v5003)),(La v5004),(La v5005)]),(.box [(.vec 1 ((List.map Qa.toD) v5006)),(.mapv 0)])]|.inr ((v5007,v5008,v5009))=>[(.map (smE v5007)),(.tok 39 v5008.length),(.box [(.vec 1 ((List.map Qa.toD) v5008)),(.mapv 0)]),(.tok 39 (([]:List Qa).length)),(.box [(.vec 1 ((List.map Qa.toD) v5009)),(.mapv 0)])])
theorem QcP:∀ x r,Qax x=some r→Qau x r:=by
 intro q0 r hm
 unfold Qax at hm
 unfold Qau
 refine PC_sxB (fn:=f22) rfl ?_
 refine Qd (R_G (Qb 2 (Qf (Qd (R_G (Qb 1 (Qb 3 (Qf (Qd (Qd (R_G ?_)))))))))))
 refine Qb 1 ?_
 refine QV Qa.toD q0 (es:=(List.map Qa.toD) q0) rfl ?_
 refine Qb 1 (Qf (Qu ?_))
 obtain ⟨out,hs,hm⟩:=Qi hm
 refine Za ?_
 rcases out with ⟨v601,v602,v603,v604,v605,v606⟩|⟨v607,v608⟩
 ·refine RL_use (Jf _ _ hs) (prune_of2 [(.map (smE ([]:List (ByteArray × Int)))),(.tok 39 (([]:List Qa).length)),(.box [(.vec 1 []),(.mapv 0)]),(.tok 39 (([]:List Qa).length))] (fun _=>(pg_cons (purge_sm _ _ _) (pg_cons (by kernel_rfl) (pg_cons (by kernel_rfl) (pg_cons (by kernel_rfl) pg_nil))))) rfl) ?_
  clear hs
  intro e s hp
  obtain ⟨rfl,d,rfl⟩:=hp
  obtain rfl:=Qs hm
  exact ⟨trivial,QK (by kernel_rfl) (by kernel_rfl)⟩
 ·refine RL_use (Jf _ _ hs) (prune_of2 [(.map (smE ([]:List (ByteArray × Int)))),(.tok 39 (([]:List Qa).length)),(.box [(.vec 1 []),(.mapv 0)]),(.tok 39 (([]:List Qa).length))] (fun _=>(pg_cons (purge_sm _ _ _) (pg_cons (by kernel_rfl) (pg_cons (by kernel_rfl) (pg_cons (by kernel_rfl) pg_nil))))) rfl) ?_
  clear hs
  intro e s hp
  obtain ⟨rfl,d,rfl⟩:=hp
  refine Qd (R_G (Qb 5 (Qf (Qo ?_))))
  obtain rfl:=Qs hm
  exact ⟨trivial,QK (by kernel_rfl) (by kernel_rfl)⟩
def Xq (x:(List Qa)):Option (((List (ByteArray × Int)) × (List Qa) × ByteArray × (List Int) × (List Int) × (List Qa)) ⊕ ((List (ByteArray × Int)) × (List Qa) × (List Qa))) :=
 match x with
 | q0 =>
 (
 Qax q0>>=fun (out:((List (ByteArray × Int)) × (List Qa) × ByteArray × (List Int) × (List Int) × (List Qa)) ⊕ ((List (ByteArray × Int)) × (List Qa) × (List Qa))) =>
 match out with
 | .inl (v1,v2,v3,v4,v5,v6) =>
  some (Sum.inl (v1,v2,v3,v4,v5,v6))
 | .inr ((v7,v8,v9)) =>
  some (Sum.inr (v7,v8,v9))
 )
def Jb:(List Qa)→(((List (ByteArray × Int)) × (List Qa) × ByteArray × (List Int) × (List Int) × (List Qa)) ⊕ ((List (ByteArray × Int)) × (List Qa) × (List Qa)))→Prop:=fun x r=>match x with
 | q0=>PC prog env 11 [(.dat (.lst ((List.map Qa.toD) q0)))] [] (match r with|.inl (v5001,v5002,v5003,v5004,v5005,v5006)=>(.dat (.raw (.pointer none)))|.inr ((v5007,v5008,v5009))=>(.ptr 4 0)) (match r with|.inl (v5001,v5002,v5003,v5004,v5005,v5006)=>[(.map (smE v5001)),(.tok 39 v5002.length),(.box [(.vec 1 ((List.map Qa.toD) v5002)),(.mapv 0)]),(.tok 39 (([]:List Qa).length)),(.box [(.dat (strD v5003)),(La v5004),(La v5005)]),(.box [(.vec 1 ((List.map Qa.toD) v5006)),(.mapv 0)])]|.inr ((v5007,v5008,v5009))=>[(.map (smE v5007)),(.tok 39 v5008.length),(.box [(.vec 1 ((List.map Qa.toD) v5008)),(.mapv 0)]),(.tok 39 (([]:List Qa).length)),(.box [(.vec 1 ((List.map Qa.toD) v5009)),(.mapv 0)])])
theorem QbP:∀ x r,Xq x=some r→Jb x r:=by
 intro q0 r hm
 unfold Xq at hm
 unfold Jb
 refine PC_sxB (fn:=f11) rfl ?_
 refine Qd (R_G (Qb 1 (Qf (Qd (R_G (Qb 1 ?_))))))
 obtain ⟨out,hx,hm⟩:=Qi hm
 rcases out with ⟨v1,v2,v3,v4,v5,v6⟩|⟨v7,v8,v9⟩
 ·have hq:=QcP _ _ hx
  dsimp only [Qau] at hq
  refine QX hq ?_
  refine Qb 5 (Qf (Qd (Qd (R_G (Qb 2 (Qf ?_))))))
  refine QaA (by kernel_rfl) ?_
  refine Qd (R_G (Qb 1 (Qf (Qo ?_))))
  obtain rfl:=Qs hm
  exact ⟨trivial,QK (by kernel_rfl) (by kernel_rfl)⟩
 ·have hq:=QcP _ _ hx
  dsimp only [Qau] at hq
  refine QX hq ?_
  refine Qb 5 (Qf (Qd (Qd (R_G (Qb 2 (Qf ?_))))))
  refine YN (by kernel_rfl) ?_
  refine Qp (Qd (R_G (Qb 2 (Qf (Qo ?_)))))
  obtain rfl:=Qs hm
  exact ⟨trivial,QK (by kernel_rfl) (by kernel_rfl)⟩
def QaR (x:(List Int)):Option Qw :=
 match x with
 | p0 =>
 Yh p0>>=fun (v1:(List Int)) =>
 some (⟨([(p0.length:Int)]:List Int),v1⟩:Qw)
def QcY:(List Int)→Qw→Prop:=fun x r=>match x,r with
 | p0,r0=>∀ H,PC prog env 75 ([(Lb p0)].map .dat) H (.dat (Qw.toD r0)) H
theorem QeO:∀ x r,QaR x=some r→QcY x r:=by
 intro p0 r0 hm
 unfold QaR at hm
 unfold QcY
 intro H
 refine PC_sx (ds:=[(Lb p0)]) (fn:=f75) rfl ?_
 refine Qd (R_G (Qb 1 (Qf (Qd (R_G (Qb 1 ?_))))))
 refine QV Qj p0 (es:=(List.map Qj) p0) rfl ?_
 refine Qb 2 ?_
 obtain ⟨v1,hx,hm⟩:=Qi hm
 have hq:=Qbr _ _ hx []
 refine Qq hq ?_
 refine Qb 2 (Qf (Qo ?_))
 obtain rfl:=Qs hm
 exact ⟨trivial,Qk⟩
def QaQ (x:Int):Option Qw :=
 match x with
 | p0 =>
 some (⟨([]:(List Int)),([p0]:List Int)⟩:Qw)
def QcX:Int→Qw→Prop:=fun x r=>match x,r with
 | p0,r0=>∀ H,PC prog env 76 ([(Qj p0)].map .dat) H (.dat (Qw.toD r0)) H
theorem QeN:∀ x r,QaQ x=some r→QcX x r:=by
 intro p0 r0 hm
 unfold QaQ at hm
 unfold QcX
 intro H
 refine PC_sx (ds:=[(Qj p0)]) (fn:=f76) rfl ?_
 refine Qd (R_G (Qb 1 (Qf (Qd (R_G (Qb 4 (Qf (Qo ?_))))))))
 obtain rfl:=Qs hm
 exact ⟨trivial,Qk⟩
def Z9 (x:(ByteArray × (List Int) × (List Int) × ByteArray × (List Int) × (List Int) × (List (ByteArray × Int)) × (List Qa) × (List Qa) × (List Qg))):Option (Bool) :=
 match x with
 | (q0,q1,q2,q3,q4,q5,q6,q7,q8,q9) =>
 if q3≠ByteArray.empty then
  some (decide (q0=q3))
 else
 some false
def Xx:(ByteArray × (List Int) × (List Int) × ByteArray × (List Int) × (List Int) × (List (ByteArray × Int)) × (List Qa) × (List Qa) × (List Qg))→Bool→Prop:=fun x r=>match x with
 | (q0,q1,q2,q3,q4,q5,q6,q7,q8,q9)=>PC prog env 110 [(.dat (.agg [(strD q0),(Lb q1),(Lb q2)])),(.iptr [(strD q3),(Lb q4),(Lb q5)])] [(.map (smE q6)),(.tok 39 q7.length),(.box [(.vec 1 ((List.map Qa.toD) q7)),(.mapv 0)]),(.tok 39 (([]:List Qa).length)),(.box [(.vec 1 ((List.map Qa.toD) q8)),(.mapv 0)]),Xn,(.tok 65 q9.length),(.box [(.ptr 4 0),(.vec 6 ((List.map Qg.toD) q9))]),Qa0] (match r with|v5001=>(Qn v5001)) (match r with|v5001=>[(.map (smE q6)),(.tok 39 q7.length),(.box [(.vec 1 ((List.map Qa.toD) q7)),(.mapv 0)]),(.tok 39 (([]:List Qa).length)),(.box [(.vec 1 ((List.map Qa.toD) q8)),(.mapv 0)]),Xn,(.tok 65 q9.length),(.box [(.ptr 4 0),(.vec 6 ((List.map Qg.toD) q9))]),Qa0,(.box [(.dat (strD q0)),(La q1),(La q2)])])
theorem QbW:∀ x r,Z9 x=some r→Xx x r:=by
 intro x r hm
 unfold Z9 at hm
 unfold Xx
 obtain ⟨q0,q1,q2,q3,q4,q5,q6,q7,q8,q9⟩:=x
 refine PC_sxB (fn:=f110) rfl ?_
 refine Qd (R_G (Qb 2 (Qf (Qd (R_G (Qb 2 ?_))))))
 refine Zq rfl (fun _=>QeE (a:=q3) (b:=ByteArray.empty) rfl (by kernel_rfl) (by kernel_rfl)) ?_
 refine Qb 1 ?_
 refine Qz 7 hm (rfl) (fun hm=>?_) (fun hm=>?_)
 ·refine Qb 4 ?_
  refine Zq rfl (fun _=>Qbf (a:=q0) (b:=q3) rfl (by kernel_rfl) (by kernel_rfl)) ?_
  refine Qb 2 (Qf (Qo ?_))
  obtain rfl:=Qs hm
  exact ⟨trivial,QK (by kernel_rfl) (by kernel_rfl)⟩
 refine Qb 7 (Qf (Qo ?_))
 obtain rfl:=Qs hm
 exact ⟨trivial,QK (by kernel_rfl) (by kernel_rfl)⟩
def QC (x:((List Qg) × ByteArray × (List Int) × (List Int) × (List (ByteArray × Int)) × (List Qa) × (List Qa) × Int)):Option ((ByteArray × (List Int) × (List Int) × Int) ⊕ Unit) :=
 match x with
 | (q0,q1,q2,q3,q4,q5,q6,v201) =>
 if v201 < (q0.length:Int) then
  idx q0 v201>>=fun v605 =>
  Z9 (v605.name,v605.value.shape,v605.value.data,q1,q2,q3,q4,q5,q6,q0)>>=fun (v606:Bool) =>
  if v606=true then
   some (Sum.inl (v605.name,v605.value.shape,v605.value.data,v201))
  else
  QC (q0,q1,q2,q3,q4,q5,q6,(W (v201+1)))
 else
 some (Sum.inr ())
 partial_fixpoint
def ZS:((List Qg) × ByteArray × (List Int) × (List Int) × (List (ByteArray × Int)) × (List Qa) × (List Qa) × Int)→((ByteArray × (List Int) × (List Int) × Int) ⊕ Unit)→Prop:=fun x r=>match x with
 | (q0,q1,q2,q3,q4,q5,q6,v201)=>∀ st,prune 9 ((QB (QJ [1,0,1,0,0] (QO f109))).bind (env.hint 109).keepAt) st=⟨kp 19 [(0,(.vec 6 ((List.map Qg.toD) q0))),(1,(.fn 110 [(.iptr [(strD q1),(Lb q2),(Lb q3)])])),(7,(Qe (q0.length:Int))),(8,(Qe v201))],[(.map (smE q4)),(.tok 39 q5.length),(.box [(.vec 1 ((List.map Qa.toD) q5)),(.mapv 0)]),(.tok 39 (([]:List Qa).length)),(.box [(.vec 1 ((List.map Qa.toD) q6)),(.mapv 0)]),Xn,(.tok 65 q0.length),(.box [(.ptr 4 0),(.vec 6 ((List.map Qg.toD) q0))]),Qa0]⟩ →
  RL prog env (env.hint 109) true (QJ [1,0,1,0,0] (QO f109)) 9 st (fun e s=>match r with|.inl (v601,v602,v603,v604)=>e=.ret∧∃ d,s=⟨sl d 19 [(4,(Qe v604))],[(.map (smE q4)),(.tok 39 q5.length),(.box [(.vec 1 ((List.map Qa.toD) q5)),(.mapv 0)]),(.tok 39 (([]:List Qa).length)),(.box [(.vec 1 ((List.map Qa.toD) q6)),(.mapv 0)]),Xn,(.tok 65 q0.length),(.box [(.ptr 4 0),(.vec 6 ((List.map Qg.toD) q0))]),Qa0,(.box [(.dat (strD v601)),(La v602),(La v603)])]⟩|.inr (_)=>e=.exit 0∧∃ d,s=⟨sl d 19 [],[(.map (smE q4)),(.tok 39 q5.length),(.box [(.vec 1 ((List.map Qa.toD) q5)),(.mapv 0)]),(.tok 39 (([]:List Qa).length)),(.box [(.vec 1 ((List.map Qa.toD) q6)),(.mapv 0)]),Xn,(.tok 65 q0.length),(.box [(.ptr 4 0),(.vec 6 ((List.map Qg.toD) q0))]),Qa0]⟩)
theorem QY:∀ x r,QC x=some r→ZS x r:=by
 refine QC.partial_correctness _ (fun QC QY x r hm=>?_)
 unfold ZS
 obtain ⟨q0,q1,q2,q3,q4,q5,q6,v201⟩:=x
 intro st hst
 refine RL_at hst ?_
 clear hst
 refine Qd (R_G (Qb 1 (Qf (Qd ?_))))
 refine Qx hm (rfl) (fun hm=>?_) (fun hm=>?_)
 ·refine Qp (Qd (Qu (Qd (R_G (Qb 2 (Qf (Qd (R_G (Qb 3 ?_)))))))))
  refine Zt 3 Qg.toD hm rfl (fun _=>rfl) (fun v605 hm=>?_)
  refine Qb 1 ?_
  obtain ⟨v606,hx,hm⟩:=Qi hm
  have hq:=QbW _ _ hx
  dsimp only [Xx] at hq
  refine QX hq ?_
  refine Qf ?_
  refine Qx hm (QG _) (fun hm=>?_) (fun hm=>?_)
  ·refine Qd (R_G (Qb 2 (Qf (Qo ?_))))
   obtain rfl:=Qs hm
   exact ⟨rfl,Qr⟩
  refine Qp (R_G (Qb 2 (Qf ?_)))
  exact QY _ _ hm _ (prune_of2 [(.map (smE q4)),(.tok 39 q5.length),(.box [(.vec 1 ((List.map Qa.toD) q5)),(.mapv 0)]),(.tok 39 (([]:List Qa).length)),(.box [(.vec 1 ((List.map Qa.toD) q6)),(.mapv 0)]),Xn,(.tok 65 q0.length),(.box [(.ptr 4 0),(.vec 6 ((List.map Qg.toD) q0))]),Qa0] (fun _=>(pg_cons (purge_sm _ _ _) (pg_cons (by kernel_rfl) (pg_cons (by kernel_rfl) (pg_cons (by kernel_rfl) (pg_cons (by kernel_rfl) (pg_cons (by kernel_rfl) (pg_cons (by kernel_rfl) (pg_cons (by kernel_rfl) (pg_cons (by kernel_rfl) pg_nil)))))))))) rfl)
 refine Q7 ?_
 obtain rfl:=Qs hm
 exact ⟨rfl,Qr⟩
def Q4 (x:((List Qg) × ByteArray × (List Int) × (List Int) × (List (ByteArray × Int)) × (List Qa) × (List Qa))):Option ((ByteArray × (List Int) × (List Int) × Int) ⊕ Unit) :=
 match x with
 | (q0,q1,q2,q3,q4,q5,q6) =>
 (
 QC (q0,q1,q2,q3,q4,q5,q6,0)>>=fun (out:(ByteArray × (List Int) × (List Int) × Int) ⊕ Unit) =>
 match out with
 | .inl (v601,v602,v603,v604) =>
  some (Sum.inl (v601,v602,v603,v604))
 | .inr (_) =>
  some (Sum.inr ())
 )
def Q2:((List Qg) × ByteArray × (List Int) × (List Int) × (List (ByteArray × Int)) × (List Qa) × (List Qa))→((ByteArray × (List Int) × (List Int) × Int) ⊕ Unit)→Prop:=fun x r=>match x with
 | (q0,q1,q2,q3,q4,q5,q6)=>PC prog env 109 [(.vec 6 ((List.map Qg.toD) q0)),(.fn 110 [(.iptr [(strD q1),(Lb q2),(Lb q3)])])] [(.map (smE q4)),(.tok 39 q5.length),(.box [(.vec 1 ((List.map Qa.toD) q5)),(.mapv 0)]),(.tok 39 (([]:List Qa).length)),(.box [(.vec 1 ((List.map Qa.toD) q6)),(.mapv 0)]),Xn,(.tok 65 q0.length),(.box [(.ptr 4 0),(.vec 6 ((List.map Qg.toD) q0))]),Qa0] (match r with|.inl (v5001,v5002,v5003,v5004)=>(Qe v5004)|.inr (_)=>(Qe (-1))) (match r with|.inl (v5001,v5002,v5003,v5004)=>[(.map (smE q4)),(.tok 39 q5.length),(.box [(.vec 1 ((List.map Qa.toD) q5)),(.mapv 0)]),(.tok 39 (([]:List Qa).length)),(.box [(.vec 1 ((List.map Qa.toD) q6)),(.mapv 0)]),Xn,(.tok 65 q0.length),(.box [(.ptr 4 0),(.vec 6 ((List.map Qg.toD) q0))]),Qa0,(.box [(.dat (strD v5001)),(La v5002),(La v5003)])]|.inr (_)=>[(.map (smE q4)),(.tok 39 q5.length),(.box [(.vec 1 ((List.map Qa.toD) q5)),(.mapv 0)]),(.tok 39 (([]:List Qa).length)),(.box [(.vec 1 ((List.map Qa.toD) q6)),(.mapv 0)]),Xn,(.tok 65 q0.length),(.box [(.ptr 4 0),(.vec 6 ((List.map Qg.toD) q0))]),Qa0])
theorem Yb:∀ x r,Q4 x=some r→Q2 x r:=by
 intro x r hm
 unfold Q4 at hm
 unfold Q2
 obtain ⟨q0,q1,q2,q3,q4,q5,q6⟩:=x
 refine PC_sxB (fn:=f109) rfl ?_
 refine Qd (R_G (Qb 1 (Qf (Qd (Qd (R_G (Qb 1 ?_)))))))
 refine QV Qg.toD q0 (es:=(List.map Qg.toD) q0) rfl ?_
 refine Qb 1 (Qf (Qu ?_))
 obtain ⟨out,hs,hm⟩:=Qi hm
 refine Za ?_
 rcases out with ⟨v601,v602,v603,v604⟩|_
 ·refine RL_use (QY _ _ hs) (prune_of2 [(.map (smE q4)),(.tok 39 q5.length),(.box [(.vec 1 ((List.map Qa.toD) q5)),(.mapv 0)]),(.tok 39 (([]:List Qa).length)),(.box [(.vec 1 ((List.map Qa.toD) q6)),(.mapv 0)]),Xn,(.tok 65 q0.length),(.box [(.ptr 4 0),(.vec 6 ((List.map Qg.toD) q0))]),Qa0] (fun _=>(pg_cons (purge_sm _ _ _) (pg_cons (by kernel_rfl) (pg_cons (by kernel_rfl) (pg_cons (by kernel_rfl) (pg_cons (by kernel_rfl) (pg_cons (by kernel_rfl) (pg_cons (by kernel_rfl) (pg_cons (by kernel_rfl) (pg_cons (by kernel_rfl) pg_nil)))))))))) rfl) ?_
  clear hs
  intro e s hp
  obtain ⟨rfl,d,rfl⟩:=hp
  obtain rfl:=Qs hm
  exact ⟨trivial,QK (by kernel_rfl) (by kernel_rfl)⟩
 ·refine RL_use (QY _ _ hs) (prune_of2 [(.map (smE q4)),(.tok 39 q5.length),(.box [(.vec 1 ((List.map Qa.toD) q5)),(.mapv 0)]),(.tok 39 (([]:List Qa).length)),(.box [(.vec 1 ((List.map Qa.toD) q6)),(.mapv 0)]),Xn,(.tok 65 q0.length),(.box [(.ptr 4 0),(.vec 6 ((List.map Qg.toD) q0))]),Qa0] (fun _=>(pg_cons (purge_sm _ _ _) (pg_cons (by kernel_rfl) (pg_cons (by kernel_rfl) (pg_cons (by kernel_rfl) (pg_cons (by kernel_rfl) (pg_cons (by kernel_rfl) (pg_cons (by kernel_rfl) (pg_cons (by kernel_rfl) (pg_cons (by kernel_rfl) pg_nil)))))))))) rfl) ?_
  clear hs
  intro e s hp
  obtain ⟨rfl,d,rfl⟩:=hp
  refine Qd (R_G (Qb 1 (Qf (Qo ?_))))
  obtain rfl:=Qs hm
  exact ⟨trivial,QK (by kernel_rfl) (by kernel_rfl)⟩
def Qy (x:List Int):Option (List Int):=app 8 [] x
def cgm_slices_Clone_int_int (l:List Int):Nat:=match l with|[]=>0|_=>1
def QA:List Int→List Int→Prop:=fun x r=>PC prog env 48 [.dat (Lb x)] [] (.ms 0 (cgm_slices_Clone_int_int r) 0 r.length r.length) [.mt 3 (cgm_slices_Clone_int_int r) (cellsOf Qj r)]
theorem QF:∀ x r,Qy x=some r→QA x r:=by
 intro x r hm
 obtain ⟨hroom,hr⟩:=app_some hm
 have hr:r=x:=hr
 subst hr
 unfold QA
 cases r with
 | nil=>exact PC_of (n:=20) (by kernel_rfl)
 | cons a l =>
  refine PC_sxB (fn:=f48) rfl ?_
  refine Qd (R_G (Qb 1 (Qf (Qd (Qd (R_G (Qb 1 ?_)))))))
  refine Zq rfl (fun _=>Qfg (p:=.dat (Lb (a::l))) (b:=false) rfl (by kernel_rfl) (by kernel_rfl) (by kernel_rfl)) ?_
  refine Qf ?_
  refine YN (by kernel_rfl) ?_
  refine Qp (Qd (R_G (Qb 2 ?_)))
  refine ZB (v:=.ms 0 1 0 (a::l).length (a::l).length) (fun H=>H.set 0 (.mt 3 1 (cellsOf Qj (a::l)))) rfl (by kernel_rfl) (fun _ hk=>Qfx Qj (l:=[]) (es:=a::l) (bytes:=8) (e:=3) (tt:=0) (g:=0) (m:=0) hm (fun _=>rfl) (by kernel_rfl) (by kernel_rfl) (by kernel_rfl) (by kernel_rfl) rfl rfl (by kernel_rfl) rfl (by kernel_rfl) (source_lst (fun _=>rfl)) hk) ?_
  refine Qb 1 (Qf (Qo ?_))
  exact ⟨trivial,QK (by kernel_rfl) (by kernel_rfl)⟩
def ZU (x:(ByteArray × (List Int) × (List Int) × (List (ByteArray × Int)) × (List Qa) × (List Qa) × (List Qg))):Option (((List Qg) × (List Int) × Int)) :=
 match x with
 | (q0,q1,q2,q3,q4,q5,q6) =>
 (
 Q4 (q6,q0,q1,q2,q3,q4,q5)>>=fun (out:(ByteArray × (List Int) × (List Int) × Int) ⊕ Unit) =>
 match out with
 | .inl (v1,v2,v3,v4) =>
  (if v4 < 0 then
   app 64 q6 ([(⟨q0,(⟨q1,q2⟩:Qw)⟩:Qg)]:List Qg)>>=fun v7 =>
   some (v7,(q6.length:Int))
  else
  some (q6,v4)
  )>>=fun ((v5,v6):((List Qg) × Int)) =>
  Qy q1>>=fun v8 =>
  some (v5,v8,v6)
 | .inr (_) =>
  app 64 q6 ([(⟨q0,(⟨q1,q2⟩:Qw)⟩:Qg)]:List Qg)>>=fun v9 =>
  Qy q1>>=fun v10 =>
  some (v9,v10,(q6.length:Int))
 )
def YM:(ByteArray × (List Int) × (List Int) × (List (ByteArray × Int)) × (List Qa) × (List Qa) × (List Qg))→((List Qg) × (List Int) × Int)→Prop:=fun x r=>match x with
 | (q0,q1,q2,q3,q4,q5,q6)=>PCX prog env 77 [(.ptr 7 0),(.dat (.agg [(strD q0),(Lb q1),(Lb q2)]))] [(.map (smE q3)),(.tok 39 q4.length),(.box [(.vec 1 ((List.map Qa.toD) q4)),(.mapv 0)]),(.tok 39 (([]:List Qa).length)),(.box [(.vec 1 ((List.map Qa.toD) q5)),(.mapv 0)]),Xn,(.tok 65 q6.length),(.box [(.ptr 4 0),(.vec 6 ((List.map Qg.toD) q6))])] (match r with|(v5001,v5002,v5003)=>(.dat (.agg [(Qj 1),(Lb v5002),(Qj v5003),Eb,(Qj 0),(Qj 0),Eb,(.lst (Qh.toDs []))]))) (match r with|(v5001,v5002,v5003)=>[(.map (smE q3)),(.tok 39 q4.length),(.box [(.vec 1 ((List.map Qa.toD) q4)),(.mapv 0)]),(.tok 39 (([]:List Qa).length)),(.box [(.vec 1 ((List.map Qa.toD) q5)),(.mapv 0)]),Xn,(.tok 65 v5001.length),(.box [(.ptr 4 0),(.vec 6 ((List.map Qg.toD) v5001))])])
theorem QaH:∀ x r,ZU x=some r→YM x r:=by
 intro x r hm
 unfold ZU at hm
 unfold YM
 obtain ⟨q0,q1,q2,q3,q4,q5,q6⟩:=x
 refine PCX_sxB (fn:=f77) rfl ?_
 refine Qd (R_G (Qb 2 (Qf (Qd (R_G (Qb 5 ?_))))))
 obtain ⟨out,hx,hm⟩:=Qi hm
 rcases out with ⟨v1,v2,v3,v4⟩|_
 ·have hq:=Yb _ _ hx
  dsimp only [Q2] at hq
  refine QX hq ?_
  refine Qb 1 (Qf (Qd (Qd (R_G (Qb 2 (Qf ?_))))))
  obtain ⟨⟨v5,v6⟩,hs,hm⟩:=Qi hm
  refine Xc (fun d=>⟨sl d 35 [(3,(.iptr [(strD q0),(Lb q1),(Lb q2)])),(4,(.ptr 8 0)),(5,(Qe v6))],[(.map (smE q3)),(.tok 39 q4.length),(.box [(.vec 1 ((List.map Qa.toD) q4)),(.mapv 0)]),(.tok 39 (([]:List Qa).length)),(.box [(.vec 1 ((List.map Qa.toD) q5)),(.mapv 0)]),Xn,(.tok 65 v5.length),(.box [(.ptr 4 0),(.vec 6 ((List.map Qg.toD) v5))]),Qa0,(.box [(.dat (strD v1)),(La v2),(La v3)])]⟩) ?_ (fun d=>?_)
  ·replace hm:=hs
   clear hs
   refine Qx hm (rfl) (fun hm=>?_) (fun hm=>?_)
   ·refine Qd (R_G (Qb 4 ?_))
    refine QV Qg.toD q6 (es:=(List.map Qg.toD) q6) rfl ?_
    refine Qb 1 (Qf ?_)
    refine Qbt ?_
    refine Qb 7 ?_
    obtain ⟨v7,hx,hm⟩:=Qi hm
    refine QcJ 65 3 64 6 Qg.toD q6 ([(⟨q0,(⟨q1,q2⟩:Qw)⟩:Qg)]:List Qg) v7 (xs:=(List.map Qg.toD) q6) (es:=(List.map Qg.toD) ([(⟨q0,(⟨q1,q2⟩:Qw)⟩:Qg)]:List Qg)) (L:=(List.map Qg.toD)) (fun _=>rfl) rfl rfl Qg.fit hx ?_
    refine Qb 3 ?_
    refine Qf ⟨by kernel_rfl,?_⟩
    obtain ⟨rfl,rfl⟩:=Q8 hm
    exact Qr
   refine Qp ?_
   obtain ⟨rfl,rfl⟩:=Q8 hm
   exact Qr
  clear hs
  refine Qd (R_G (Qb 3 ?_))
  obtain ⟨v8,hx,hm⟩:=Qi hm
  have hq:=QF _ _ hx
  dsimp only [QA] at hq
  refine Zq (v:=.dat (Lb v8)) rfl (fun _=>QcW (f:=48) (first:=#[]) (cap:=#[]) (e:=3) (ow':=[]) (ds:=[.lst ((List.map Qj) q1)]) rfl (by kernel_rfl) (by kernel_rfl) (by kernel_rfl) (by kernel_rfl) hq (p1_ms (pc_ms (e:=3) Qj v8 rfl (fun _=>rfl) (by kernel_rfl)))) ?_
  refine Qb 3 (Qf (Qo ?_))
  obtain rfl:=Qs hm
  exact ⟨trivial,fin_bodyX 8 (by kernel_rfl) (by kernel_rfl)⟩
 ·have hq:=Yb _ _ hx
  dsimp only [Q2] at hq
  refine QX hq ?_
  refine Qb 1 (Qf (Qd (Qd (R_G (Qb 2 (Qf ?_))))))
  refine QaA (by kernel_rfl) ?_
  refine Qd (R_G (Qb 4 ?_))
  refine QV Qg.toD q6 (es:=(List.map Qg.toD) q6) rfl ?_
  refine Qb 1 (Qf ?_)
  refine Qbt ?_
  refine Qb 7 ?_
  obtain ⟨v9,hx,hm⟩:=Qi hm
  refine QcJ 65 3 64 6 Qg.toD q6 ([(⟨q0,(⟨q1,q2⟩:Qw)⟩:Qg)]:List Qg) v9 (xs:=(List.map Qg.toD) q6) (es:=(List.map Qg.toD) ([(⟨q0,(⟨q1,q2⟩:Qw)⟩:Qg)]:List Qg)) (L:=(List.map Qg.toD)) (fun _=>rfl) rfl rfl Qg.fit hx ?_
  refine Qb 3 ?_
  refine Qf ⟨by kernel_rfl,?_⟩
  refine Qd (R_G (Qb 3 ?_))
  obtain ⟨v10,hx,hm⟩:=Qi hm
  have hq:=QF _ _ hx
  dsimp only [QA] at hq
  refine Zq (v:=.dat (Lb v10)) rfl (fun _=>QcW (f:=48) (first:=#[]) (cap:=#[]) (e:=3) (ow':=[]) (ds:=[.lst ((List.map Qj) q1)]) rfl (by kernel_rfl) (by kernel_rfl) (by kernel_rfl) (by kernel_rfl) hq (p1_ms (pc_ms (e:=3) Qj v10 rfl (fun _=>rfl) (by kernel_rfl)))) ?_
  refine Qb 3 (Qf (Qo ?_))
  obtain rfl:=Qs hm
  exact ⟨trivial,fin_bodyX 8 (by kernel_rfl) (by kernel_rfl)⟩
def Y6 (x:((List Qa) × ByteArray × (List (ByteArray × Int)) × (List Qa))):Option ((Int × Bool)) :=
 match x with
 | (q0,q1,q2,q3) =>
 some (lookS q2 q1)>>=fun ((v1,v2):(Int × Bool)) =>
 some (v1,v2)
def Ja:((List Qa) × ByteArray × (List (ByteArray × Int)) × (List Qa))→(Int × Bool)→Prop:=fun x r=>match x with
 | (q0,q1,q2,q3)=>PC prog env 45 [(.agg [(.vec 1 ((List.map Qa.toD) q0)),(.mapv 0)]),(.dat (strD q1))] [(.map (smE q2)),(.tok 39 q3.length),(.box [(.vec 1 ((List.map Qa.toD) q3)),(.mapv 0)]),(.tok 39 (([]:List Qa).length)),(.box [(.vec 1 ((List.map Qa.toD) q0)),(.mapv 0)]),(.box [Ea,Ea])] (match r with|(v5001,v5002)=>(.tup [(Qe v5001),(Qn v5002)])) (match r with|(v5001,v5002)=>[(.map (smE q2)),(.tok 39 q3.length),(.box [(.vec 1 ((List.map Qa.toD) q3)),(.mapv 0)]),(.tok 39 (([]:List Qa).length)),(.box [(.vec 1 ((List.map Qa.toD) q0)),(.mapv 0)]),(.box [Ea,Ea]),(.box [(.vec 1 ((List.map Qa.toD) q0)),(.mapv 0)])])
theorem QcC:∀ x r,Y6 x=some r→Ja x r:=by
 intro x r hm
 unfold Y6 at hm
 unfold Ja
 obtain ⟨q0,q1,q2,q3⟩:=x
 refine PC_sxB (fn:=f45) rfl ?_
 refine Qd (R_G (Qb 3 (Qf (Qd (R_G (Qb 3 ?_))))))
 obtain ⟨⟨v1,v2⟩,hx,hm⟩:=Qi hm
 refine Zq (v:=.tup [Qe v1,Qn v2]) rfl (fun _=>Qfl (i:=0) (kt:=9) (e:=3) (l:=q2) (s:=q1) hx (by kernel_rfl) (by kernel_rfl) (by kernel_rfl) rfl (by kernel_rfl) (by kernel_rfl) (by kernel_rfl)) ?_
 refine Qb 5 (Qf (Qd (R_G (Qb 4 (Qf (Qo ?_))))))
 obtain rfl:=Qs hm
 exact ⟨trivial,QK (by kernel_rfl) (by kernel_rfl)⟩
def Xt (x:(ByteArray × (List (ByteArray × Int)) × (List Qa) × (List Qa))):Option (((List Int) × (List Int) × Bool)) :=
 match x with
 | (q0,q1,q2,q3) =>
 Y6 (q3,q0,q1,q2)>>=fun ((v1,v2):(Int × Bool)) =>
 if v2=false then
  some (([]:List Int),([]:List Int),false)
 else
 idx q3 v1>>=fun v3 =>
 some (v3.value.shape,v3.value.data,true)
def Jr:(ByteArray × (List (ByteArray × Int)) × (List Qa) × (List Qa))→((List Int) × (List Int) × Bool)→Prop:=fun x r=>match x with
 | (q0,q1,q2,q3)=>PCX prog env 111 [(.ptr 4 0),(.dat (strD q0))] [(.map (smE q1)),(.tok 39 q2.length),(.box [(.vec 1 ((List.map Qa.toD) q2)),(.mapv 0)]),(.tok 39 (([]:List Qa).length)),(.box [(.vec 1 ((List.map Qa.toD) q3)),(.mapv 0)])] (match r with|(v5001,v5002,v5003)=>(.tup [(.dat (.agg [(Lb v5001),(Lb v5002)])),(Qn v5003)])) (match r with|(v5001,v5002,v5003)=>[(.map (smE q1)),(.tok 39 q2.length),(.box [(.vec 1 ((List.map Qa.toD) q2)),(.mapv 0)]),(.tok 39 (([]:List Qa).length)),(.box [(.vec 1 ((List.map Qa.toD) q3)),(.mapv 0)])])
theorem QcT:∀ x r,Xt x=some r→Jr x r:=by
 intro x r hm
 unfold Xt at hm
 unfold Jr
 obtain ⟨q0,q1,q2,q3⟩:=x
 refine PCX_sxB (fn:=f111) rfl ?_
 refine Qd (R_G (Qb 2 (Qf (Qd (Qd (R_G (Qb 2 (Qf ?_))))))))
 refine YN (by kernel_rfl) ?_
 refine Qp (Qd (R_G (Qb 5 ?_)))
 obtain ⟨⟨v1,v2⟩,hx,hm⟩:=Qi hm
 have hq:=QcC _ _ hx
 dsimp only [Ja] at hq
 refine QX hq ?_
 refine Qb 5 (Qf (Qd (Qd (R_G (Qb 2 (Qf ?_))))))
 refine Qx hm (XH _) (fun hm=>?_) (fun hm=>?_)
 ·refine Qd (R_G (Qb 3 (Qf (Qo ?_))))
  obtain rfl:=Qs hm
  exact ⟨trivial,fin_bodyX 5 (by kernel_rfl) (by kernel_rfl)⟩
 refine Qp (Qd (R_G (Qb 6 ?_)))
 refine Zt 3 Qa.toD hm rfl (fun _=>rfl) (fun v3 hm=>?_)
 refine Qb 4 (Qf (Qo ?_))
 obtain rfl:=Qs hm
 exact ⟨trivial,fin_bodyX 5 (by kernel_rfl) (by kernel_rfl)⟩
def Yc (x:(ByteArray × (List (ByteArray × Int)) × (List Qa) × (List Qa))):Option (((List Int) × (List Int) × Bool)) :=
 match x with
 | (q0,q1,q2,q3) =>
 Xt (q0,q1,q2,q3)>>=fun ((v1,v2,v3):((List Int) × (List Int) × Bool)) =>
 if v3=false then
  some (v1,v2,false)
 else
 XB (⟨v1,v2⟩:Qw)>>=fun (v4:Qw) =>
 some (v4.shape,v4.data,true)
def XO:(ByteArray × (List (ByteArray × Int)) × (List Qa) × (List Qa))→((List Int) × (List Int) × Bool)→Prop:=fun x r=>match x with
 | (q0,q1,q2,q3)=>PCX prog env 78 [(.ptr 4 0),(.dat (strD q0))] [(.map (smE q1)),(.tok 39 q2.length),(.box [(.vec 1 ((List.map Qa.toD) q2)),(.mapv 0)]),(.tok 39 (([]:List Qa).length)),(.box [(.vec 1 ((List.map Qa.toD) q3)),(.mapv 0)])] (match r with|(v5001,v5002,v5003)=>(.tup [(.dat (.agg [(Lb v5001),(Lb v5002)])),(Qn v5003)])) (match r with|(v5001,v5002,v5003)=>[(.map (smE q1)),(.tok 39 q2.length),(.box [(.vec 1 ((List.map Qa.toD) q2)),(.mapv 0)]),(.tok 39 (([]:List Qa).length)),(.box [(.vec 1 ((List.map Qa.toD) q3)),(.mapv 0)])])
theorem Qby:∀ x r,Yc x=some r→XO x r:=by
 intro x r hm
 unfold Yc at hm
 unfold XO
 obtain ⟨q0,q1,q2,q3⟩:=x
 refine PCX_sxB (fn:=f78) rfl ?_
 refine Qd (R_G (Qb 2 (Qf (Qd (R_G (Qb 2 ?_))))))
 obtain ⟨⟨v1,v2,v3⟩,hx,hm⟩:=Qi hm
 have hq:=QcT _ _ hx
 dsimp only [Jr] at hq
 refine Qa5 (n:=5) hq ?_ (hi:=und_hi 0) (hq:=und_hq 0)
 refine Qb 6 (Qf (Qd (Qd (R_G (Qb 2 (Qf ?_))))))
 refine Qx hm (XH _) (fun hm=>?_) (fun hm=>?_)
 ·refine Qd (R_G (Qb 3 (Qf (Qo ?_))))
  obtain rfl:=Qs hm
  exact ⟨trivial,fin_bodyX 5 (by kernel_rfl) (by kernel_rfl)⟩
 refine Qp (Qd (R_G (Qb 1 ?_)))
 obtain ⟨v4,hx,hm⟩:=Qi hm
 have hq:=Qea _ _ hx []
 refine Qq hq ?_
 refine Qb 2 (Qf (Qo ?_))
 obtain rfl:=Qs hm
 exact ⟨trivial,fin_bodyX 5 (by kernel_rfl) (by kernel_rfl)⟩
def Yi (x:(Int × Int × Int × ByteArray × (List Int) × (List Qc) × (List (ByteArray × Int)) × (List Qa) × (List Qa) × (List Qg))):Option (((List Qg) × Int × (List Int) × Int × Int)) :=
 match x with
 | (q0,q1,q2,q3,q4,q5,q6,q7,q8,q9) =>
 if q0=1 then
  QaR q4>>=fun (v1:Qw) =>
  (if (q4.length:Int)=1 then
   idx q4 0>>=fun v4 =>
   QaQ v4>>=fun (v5:Qw) =>
   some (v5.shape,v5.data)
  else
  some (v1.shape,v1.data)
  )>>=fun ((v2,v3):((List Int) × (List Int))) =>
  Xe (⟨v2,v3⟩:Qw)>>=fun (v6:Int) =>
  if v6≠0 then
   some (q9,0,([]:List Int),0,v6)
  else
  ZU (ByteArray.empty,v2,v3,q6,q7,q8,q9)>>=fun ((v7,v8,v9):((List Qg) × (List Int) × Int)) =>
  some (v7,1,v8,v9,0)
 else
 Yc (q3,q6,q7,q8)>>=fun ((v10,v11,v12):((List Int) × (List Int) × Bool)) =>
 if v12=false then
  some (q9,0,([]:List Int),0,2)
 else
 ZU (q3,v10,v11,q6,q7,q8,q9)>>=fun ((v13,v14,v15):((List Qg) × (List Int) × Int)) =>
 some (v13,1,v14,v15,0)
def XV:(Int × Int × Int × ByteArray × (List Int) × (List Qc) × (List (ByteArray × Int)) × (List Qa) × (List Qa) × (List Qg))→((List Qg) × Int × (List Int) × Int × Int)→Prop:=fun x r=>match x with
 | (q0,q1,q2,q3,q4,q5,q6,q7,q8,q9)=>PCX prog env 51 [(.ptr 7 0),(.dat (.agg [(Qj q0),(Qj q1),(Qj q2),(strD q3),(Lb q4),(.lst (Qc.toDs q5))]))] [(.map (smE q6)),(.tok 39 q7.length),(.box [(.vec 1 ((List.map Qa.toD) q7)),(.mapv 0)]),(.tok 39 (([]:List Qa).length)),(.box [(.vec 1 ((List.map Qa.toD) q8)),(.mapv 0)]),Xn,(.tok 65 q9.length),(.box [(.ptr 4 0),(.vec 6 ((List.map Qg.toD) q9))])] (match r with|(v5001,v5002,v5003,v5004,v5005)=>(.tup [(.dat (.agg [(Qj v5002),(Lb v5003),(Qj v5004),Eb,(Qj 0),(Qj 0),Eb,(.lst (Qh.toDs []))])),(Qe v5005)])) (match r with|(v5001,v5002,v5003,v5004,v5005)=>[(.map (smE q6)),(.tok 39 q7.length),(.box [(.vec 1 ((List.map Qa.toD) q7)),(.mapv 0)]),(.tok 39 (([]:List Qa).length)),(.box [(.vec 1 ((List.map Qa.toD) q8)),(.mapv 0)]),Xn,(.tok 65 v5001.length),(.box [(.ptr 4 0),(.vec 6 ((List.map Qg.toD) v5001))])])
theorem Qcs:∀ x r,Yi x=some r→XV x r:=by
 intro x r hm
 unfold Yi at hm
 unfold XV
 obtain ⟨q0,q1,q2,q3,q4,q5,q6,q7,q8,q9⟩:=x
 refine PCX_sxB (fn:=f51) rfl ?_
 refine Qd (R_G (Qb 3 (Qf (Qd (Qd (R_G (Qb 3 (Qf ?_))))))))
 refine Qx hm (ZW _ _) (fun hm=>?_) (fun hm=>?_)
 ·refine Qd (R_G (Qb 2 ?_))
  obtain ⟨v1,hx,hm⟩:=Qi hm
  have hq:=QeO _ _ hx []
  refine Qq hq ?_
  refine Qb 2 (Qf (Qd (Qd (R_G (Qb 2 ?_)))))
  refine QV Qj q4 (es:=(List.map Qj) q4) rfl ?_
  refine Qb 1 (Qf ?_)
  obtain ⟨⟨v2,v3⟩,hs,hm⟩:=Qi hm
  refine Xc (fun d=>⟨sl d 54 [(0,(.ptr 7 0)),(4,(.ptr 8 0)),(6,(.ptr 9 0))],[(.map (smE q6)),(.tok 39 q7.length),(.box [(.vec 1 ((List.map Qa.toD) q7)),(.mapv 0)]),(.tok 39 (([]:List Qa).length)),(.box [(.vec 1 ((List.map Qa.toD) q8)),(.mapv 0)]),Xn,(.tok 65 q9.length),(.box [(.ptr 4 0),(.vec 6 ((List.map Qg.toD) q9))]),Qa0,(.box [(La v2),(La v3)])]⟩) ?_ (fun d=>?_)
  ·replace hm:=hs
   clear hs
   refine Qx hm (ZW _ _) (fun hm=>?_) (fun hm=>?_)
   ·refine R_G (Qb 2 ?_)
    refine Zt 1 Qj hm rfl (fun _=>rfl) (fun v4 hm=>?_)
    refine Qb 1 ?_
    obtain ⟨v5,hx,hm⟩:=Qi hm
    have hq:=QeN _ _ hx []
    refine Qq hq ?_
    refine Qb 1 (Qf ?_)
    obtain ⟨rfl,rfl⟩:=Q8 hm
    exact Qr
   refine Qp ?_
   obtain ⟨rfl,rfl⟩:=Q8 hm
   exact Qr
  clear hs
  refine Qd (Qd (R_G (Qb 1 ?_)))
  obtain ⟨v6,hx,hm⟩:=Qi hm
  have hq:=QdM _ _ hx []
  refine Qq hq ?_
  refine Qb 1 (Qf (Qd (R_G (Qb 2 (Qf ?_)))))
  refine Qx hm (ne_dec _ _) (fun hm=>?_) (fun hm=>?_)
  ·refine Qd (R_G (Qb 4 (Qf (Qo ?_))))
   obtain rfl:=Qs hm
   exact ⟨trivial,fin_bodyX 8 (by kernel_rfl) (by kernel_rfl)⟩
  refine Qp (Qd (R_G (Qb 3 ?_)))
  obtain ⟨⟨v7,v8,v9⟩,hx,hm⟩:=Qi hm
  have hq:=QaH _ _ hx
  dsimp only [YM] at hq
  refine Qa5 (n:=8) hq ?_ (hi:=und_hi 0) (hq:=und_hq 0)
  refine Qb 2 (Qf (Qo ?_))
  obtain rfl:=Qs hm
  exact ⟨trivial,fin_bodyX 8 (by kernel_rfl) (by kernel_rfl)⟩
 refine Qp (Qd ?_)
 refine Qbt ?_
 refine Qb 6 ?_
 obtain ⟨⟨v10,v11,v12⟩,hx,hm⟩:=Qi hm
 have hq:=Qby _ _ hx
 dsimp only [XO] at hq
 refine QfN (n:=5) hq ?_ (hi:=und_hi 0)
 refine Qb 6 ?_
 refine Qf ⟨by kernel_rfl,?_⟩
 refine Qd (Qd (R_G (Qb 2 (Qf ?_))))
 refine Qx hm (XH _) (fun hm=>?_) (fun hm=>?_)
 ·refine Qd (R_G (Qb 3 (Qf (Qo ?_))))
  obtain rfl:=Qs hm
  exact ⟨trivial,fin_bodyX 8 (by kernel_rfl) (by kernel_rfl)⟩
 refine Qp (Qd (R_G (Qb 5 ?_)))
 obtain ⟨⟨v13,v14,v15⟩,hx,hm⟩:=Qi hm
 have hq:=QaH _ _ hx
 dsimp only [YM] at hq
 refine Qa5 (n:=8) hq ?_ (hi:=und_hi 0) (hq:=und_hq 0)
 refine Qb 2 (Qf (Qo ?_))
 obtain rfl:=Qs hm
 exact ⟨trivial,fin_bodyX 8 (by kernel_rfl) (by kernel_rfl)⟩
def Jp (x:(Int × (List Int))):Option (Int × Int) :=
 match x with
 | (p0,p1) =>
 if p0=(-1) then
  some ((W ((p1.length:Int) - 1)),0)
 else
 if p0≥(p1.length:Int) then
  some (0,4)
 else
 some (p0,0)
def QdG:(Int × (List Int))→(Int × Int)→Prop:=fun x r=>match x,r with
 | (p0,p1),(r0,r1)=>∀ H,PC prog env 112 ([(Qj p0),(Lb p1)].map .dat) H (.tup [(Qe r0),(Qe r1)]) H
theorem QdS:∀ x r,Jp x=some r→QdG x r:=by
 intro x r hm
 unfold Jp at hm
 unfold QdG
 obtain ⟨p0,p1⟩:=x
 obtain ⟨r0,r1⟩:=r
 intro H
 refine PC_sx (ds:=[(Qj p0),(Lb p1)]) (fn:=f112) rfl ?_
 refine Qd (R_G (Qb 2 (Qf (Qd (Qu (Qd (R_G (Qb 3 (Qf ?_)))))))))
 refine Qx hm (ZW _ _) (fun hm=>?_) (fun hm=>?_)
 ·refine Qd (R_G (Qb 1 ?_))
  refine QV Qj p1 (es:=(List.map Qj) p1) rfl ?_
  refine Qb 3 (Qf (Qo ?_))
  obtain ⟨rfl,rfl⟩:=Q8 hm
  exact ⟨trivial,Qk⟩
 refine Qd (R_G (Qb 2 ?_))
 refine QV Qj p1 (es:=(List.map Qj) p1) rfl ?_
 refine Qb 2 (Qf ?_)
 refine Qx hm (rfl) (fun hm=>?_) (fun hm=>?_)
 ·refine Qd (R_G (Qb 2 (Qf (Qo ?_))))
  obtain ⟨rfl,rfl⟩:=Q8 hm
  exact ⟨trivial,Qk⟩
 refine Qp (Qd (R_G (Qb 3 (Qf (Qo ?_)))))
 obtain ⟨rfl,rfl⟩:=Q8 hm
 exact ⟨trivial,Qk⟩
def Zj (x:Int):Option (Qm × Int) :=
 match x with
 | p0 =>
 some ((⟨([]:(List Int)),([]:(List Int)),([]:(List Int)),([]:(List Int)),0,0,([]:(List Int))⟩:Qm),p0)
def QdH:Int→(Qm × Int)→Prop:=fun x r=>match x,r with
 | p0,(r0,r1)=>∀ H,PC prog env 113 ([(Qj p0)].map .dat) H (.tup [(.dat (Qm.toD r0)),(Qe r1)]) H
theorem ZI:∀ x r,Zj x=some r→QdH x r:=by
 intro p0 r hm
 unfold Zj at hm
 unfold QdH
 obtain ⟨r0,r1⟩:=r
 intro H
 refine PC_sx (ds:=[(Qj p0)]) (fn:=f113) rfl ?_
 refine Qd (R_G (Qb 2 (Qf (Qd (R_G (Qb 4 (Qf (Qo ?_))))))))
 obtain ⟨rfl,rfl⟩:=Q8 hm
 exact ⟨trivial,Qk⟩
def YE (x:(Int × Int)):Option (Int × Int) :=
 match x with
 | (p0,p1) =>
 some (p0,p1)
def Qd7:(Int × Int)→(Int × Int)→Prop:=fun x r=>match x,r with
 | (p0,p1),(v5001,v5002)=>∀ H,PC prog env 115 ([(Qj p0),(Qj p1)].map .dat) H (.fn 136 [(.iptr [(Qj v5001)]),(.iptr [(Qj v5002)])]) H
theorem QcE:∀ x r,YE x=some r→Qd7 x r:=by
 intro x r hm
 unfold YE at hm
 unfold Qd7
 obtain ⟨p0,p1⟩:=x
 obtain ⟨v5001,v5002⟩:=r
 intro H
 refine PC_sx (ds:=[(Qj p0),(Qj p1)]) (fn:=f115) rfl ?_
 refine Qd (R_G (Qb 3 (Qf (Qd (R_G (Qb 2 (Qf (Qo ?_))))))))
 obtain ⟨rfl,rfl⟩:=Q8 hm
 exact ⟨trivial,Qk⟩
def JX (x:(Int × Int × (List Int) × (List Int))):Option (Unit) :=
 match x with
 | (q0,q1,q2,q3) =>
 some ()
def JQ:(Int × Int × (List Int) × (List Int))→Unit→Prop:=fun x r=>match x with
 | (q0,q1,q2,q3)=>PC prog env 136 [(.ptr 5 0),(.iptr [(Qj q0)]),(.iptr [(Qj q1)])] [Qv,(.box [(.fn 136 [(.iptr [(Qj q0)]),(.iptr [(Qj q1)])])]),Qv,(.mt 3 1 (cellsOf Qj q2)),(.mt 3 1 (cellsOf Qj q3)),(.box [Ea,(.ms 3 1 0 q2.length q2.length),(.ms 4 1 0 q3.length q3.length),Ea,(Qe (-1)),(Qe 0),Ea])] (match r with|_=>(.tup [])) (match r with|_=>[Qv,(.box [(.fn 136 [(.iptr [(Qj q0)]),(.iptr [(Qj q1)])])]),Qv,(.mt 3 1 (cellsOf Qj q2)),(.mt 3 1 (cellsOf Qj q3)),(.box [Ea,(.ms 3 1 0 q2.length q2.length),(.ms 4 1 0 q3.length q3.length),Ea,(Qe q0),(Qe q1),Ea])])
theorem Qdk:∀ x r,JX x=some r→JQ x r:=by
 intro x r hm
 unfold JX at hm
 unfold JQ
 obtain ⟨q0,q1,q2,q3⟩:=x
 refine PC_sxB (fn:=f136) rfl ?_
 refine Qbt ?_
 refine Qb 10 ?_
 refine Qf ⟨by kernel_rfl,?_⟩
 obtain rfl:=Qs hm
 exact ⟨trivial,QK (by kernel_rfl) (by kernel_rfl)⟩
def XE (x:((List Int) × Int × Int)):Option (Int ⊕ ((List Int) × (List Int))) :=
 match x with
 | (q0,q1,q2) =>
 Zg q0>>=fun (v1:Int) =>
 if v1≠0 then
  some (Sum.inl v1)
 else
 Qy q0>>=fun v2 =>
 Qy q0>>=fun v3 =>
 JX (q1,q2,v2,v3)>>=fun (_:Unit) =>
 some (Sum.inr (v2,v3))
def Jv:((List Int) × Int × Int)→(Int ⊕ ((List Int) × (List Int)))→Prop:=fun x r=>match x with
 | (q0,q1,q2)=>PC prog env 114 [(La q0),(La q0),(.arr 1 0 1 1)] [Qv,(.box [(.fn 136 [(.iptr [(Qj q1)]),(.iptr [(Qj q2)])])])] (match r with|.inl v5001=>(.tup [(.dat (.agg [Eb,Eb,Eb,Eb,(Qj 0),(Qj 0),Eb])),(Qe v5001)])|.inr ((v5002,v5003))=>(.tup [(.agg [Ea,(.ms 3 1 0 v5002.length v5002.length),(.ms 4 1 0 v5003.length v5003.length),Ea,(Qe q1),(Qe q2),Ea]),(Qe 0)])) (match r with|.inl v5001=>[Qv,(.box [(.fn 136 [(.iptr [(Qj q1)]),(.iptr [(Qj q2)])])]),Qv]|.inr ((v5002,v5003))=>[Qv,(.box [(.fn 136 [(.iptr [(Qj q1)]),(.iptr [(Qj q2)])])]),(.box [Ea,(.ms 3 1 0 v5002.length v5002.length),(.ms 4 1 0 v5003.length v5003.length),Ea,(Qe q1),(Qe q2),Ea]),(.mt 3 1 (cellsOf Qj v5002)),(.mt 3 1 (cellsOf Qj v5003)),(.box [Ea,(.ms 3 1 0 v5002.length v5002.length),(.ms 4 1 0 v5003.length v5003.length),Ea,(Qe q1),(Qe q2),Ea])])
theorem Qb4:∀ x r,XE x=some r→Jv x r:=by
 intro x r hm
 unfold XE at hm
 unfold Jv
 obtain ⟨q0,q1,q2⟩:=x
 refine PC_sxB (fn:=f114) rfl ?_
 refine Qd (R_G (Qb 2 (Qf (Qd (Qd (R_G (Qb 1 ?_)))))))
 obtain ⟨v1,hx,hm⟩:=Qi hm
 have hq:=ZJ _ _ hx []
 refine Qq hq ?_
 refine Qb 1 (Qf (Qd (R_G (Qb 2 (Qf ?_)))))
 refine Qx hm (ne_dec _ _) (fun hm=>?_) (fun hm=>?_)
 ·refine Qd (R_G (Qb 4 (Qf (Qo ?_))))
  obtain rfl:=Qs hm
  exact ⟨trivial,QK (by kernel_rfl) (by kernel_rfl)⟩
 refine Qp (Qd (R_G (Qb 1 ?_)))
 obtain ⟨v2,hx,hm⟩:=Qi hm
 have hq:=QF _ _ hx
 dsimp only [QA] at hq
 have hl9:mtOf [Blk.mt 3 (cgm_slices_Clone_int_int v2) (cellsOf Qj v2)] 0=some (3,cgm_slices_Clone_int_int v2,cellsOf Qj v2):=ZD (by kernel_rfl)
 refine ZB (v:=.ms 3 1 0 v2.length v2.length) (fun H=>H++[.mt 3 1 (cellsOf Qj v2)]) rfl (by kernel_rfl) ?_ ?_
 ·intro K hk
  refine Zp 3 (first:=#[]) (cap:=#[]) (j:=(0,3)) (ow':=[]) (f0:=Qj) (l:=v2) rfl ?_ ?_ ?_ (ds:=[.lst ((List.map Qj) q0)]) ?_ hq hl9 ?_ ?_ ?_
  ·kernel_rfl
  ·kernel_rfl
  ·kernel_rfl
  ·kernel_rfl
  ·exact hk
  ·kernel_rfl
  ·decide
 refine Qb 1 ?_
 obtain ⟨v3,hx,hm⟩:=Qi hm
 have hq:=QF _ _ hx
 dsimp only [QA] at hq
 have hl9:mtOf [Blk.mt 3 (cgm_slices_Clone_int_int v3) (cellsOf Qj v3)] 0=some (3,cgm_slices_Clone_int_int v3,cellsOf Qj v3):=ZD (by kernel_rfl)
 refine ZB (v:=.ms 4 1 0 v3.length v3.length) (fun H=>H++[.mt 3 1 (cellsOf Qj v3)]) rfl (by kernel_rfl) ?_ ?_
 ·intro K hk
  refine Zp 4 (first:=#[]) (cap:=#[]) (j:=(0,3)) (ow':=[]) (f0:=Qj) (l:=v3) rfl ?_ ?_ ?_ (ds:=[.lst ((List.map Qj) q0)]) ?_ hq hl9 ?_ ?_ ?_
  ·kernel_rfl
  ·kernel_rfl
  ·kernel_rfl
  ·kernel_rfl
  ·exact hk
  ·kernel_rfl
  ·decide
 refine Qb 3 (Qf (Qd (Qd (R_G (Qb 1 (Qb 1 (Qb 1 (Qf (Qu ?_)))))))))
 refine Za ?_
 refine RL_at (st':=⟨kp 33 [(6,(.ptr 2 0)),(9,(.ptr 5 0)),(23,(.arr 1 0 1 1)),(24,(Qe 1)),(25,(Qe 0))],[Qv,(.box [(.fn 136 [(.iptr [(Qj q1)]),(.iptr [(Qj q2)])])]),Qv,(.mt 3 1 (cellsOf Qj v2)),(.mt 3 1 (cellsOf Qj v3)),(.box [Ea,(.ms 3 1 0 v2.length v2.length),(.ms 4 1 0 v3.length v3.length),Ea,(Qe (-1)),(Qe 0),Ea])]⟩) (prune_of2 [Qv,(.box [(.fn 136 [(.iptr [(Qj q1)]),(.iptr [(Qj q2)])])]),Qv,(.mt 3 1 (cellsOf Qj v2)),(.mt 3 1 (cellsOf Qj v3)),(.box [Ea,(.ms 3 1 0 v2.length v2.length),(.ms 4 1 0 v3.length v3.length),Ea,(Qe (-1)),(Qe 0),Ea])] (fun _=>(pg_cons (by kernel_rfl) (pg_cons (by kernel_rfl) (pg_cons (by kernel_rfl) (pg_cons (purge_mt Qj _ _ _ _ _) (pg_cons (purge_mt Qj _ _ _ _ _) (pg_cons (by kernel_rfl) pg_nil))))))) rfl) ?_
 refine Qd (R_G (Qb 1 (Qf (Qd ?_))))
 refine QaA (by kernel_rfl) ?_
 refine Qp (Qd (Qu (Qd (R_G (Qb 1 (Qb 2 (Qf (R_G (Qb 1 ?_)))))))))
 obtain ⟨_,hx,hm⟩:=Qi hm
 have hq:=Qdk _ _ hx
 dsimp only [JQ] at hq
 refine QX hq ?_
 refine Qf (R_G (Qb 2 (Qf ?_)))
 refine RL_at (st':=⟨kp 33 [(6,(.ptr 2 0)),(9,(.ptr 5 0)),(23,(.arr 1 0 1 1)),(24,(Qe 1)),(25,(Qe 1))],[Qv,(.box [(.fn 136 [(.iptr [(Qj q1)]),(.iptr [(Qj q2)])])]),Qv,(.mt 3 1 (cellsOf Qj v2)),(.mt 3 1 (cellsOf Qj v3)),(.box [Ea,(.ms 3 1 0 v2.length v2.length),(.ms 4 1 0 v3.length v3.length),Ea,(Qe q1),(Qe q2),Ea])]⟩) (prune_of2 [Qv,(.box [(.fn 136 [(.iptr [(Qj q1)]),(.iptr [(Qj q2)])])]),Qv,(.mt 3 1 (cellsOf Qj v2)),(.mt 3 1 (cellsOf Qj v3)),(.box [Ea,(.ms 3 1 0 v2.length v2.length),(.ms 4 1 0 v3.length v3.length),Ea,(Qe q1),(Qe q2),Ea])] (fun _=>(pg_cons (by kernel_rfl) (pg_cons (by kernel_rfl) (pg_cons (by kernel_rfl) (pg_cons (purge_mt Qj _ _ _ _ _) (pg_cons (purge_mt Qj _ _ _ _ _) (pg_cons (by kernel_rfl) pg_nil))))))) rfl) ?_
 refine Qd (R_G (Qb 1 (Qf (Qd ?_))))
 refine YN (by kernel_rfl) ?_
 refine Q7 (Qd (R_G (Qb 3 (Qf (Qo ?_)))))
 obtain rfl:=Qs hm
 exact ⟨trivial,QK (by kernel_rfl) (by kernel_rfl)⟩
def JV (x:(Int × (List Int))):Option (Qm × Int) :=
 match x with
 | (p0,p1) =>
 Jp (p0,p1)>>=fun ((v1,v2):(Int × Int)) =>
 if v2≠0 then
  Zj v2>>=fun ((v3,v4):(Qm × Int)) =>
  some (v3,v4)
 else
 YE (v1,0)>>=fun ((v5,v6):(Int × Int)) =>
 (
 XE (p1,v5,v6)>>=fun (out:Int ⊕ ((List Int) × (List Int))) =>
 match out with
 | .inl v7 =>
  some ((⟨([]:(List Int)),([]:(List Int)),([]:(List Int)),([]:(List Int)),0,0,([]:(List Int))⟩:Qm),v7)
 | .inr ((v8,v9)) =>
  some ((⟨([]:(List Int)),v8,v9,([]:(List Int)),v5,v6,([]:(List Int))⟩:Qm),0)
 )
def Qc5:(Int × (List Int))→(Qm × Int)→Prop:=fun x r=>match x,r with
 | (p0,p1),(r0,r1)=>∀ H,PC prog env 79 ([(Qj p0),(Lb p1)].map .dat) H (.tup [(.dat (Qm.toD r0)),(Qe r1)]) H
theorem QeQ:∀ x r,JV x=some r→Qc5 x r:=by
 intro x r hm
 unfold JV at hm
 unfold Qc5
 obtain ⟨p0,p1⟩:=x
 obtain ⟨r0,r1⟩:=r
 intro H
 refine PC_sx (ds:=[(Qj p0),(Lb p1)]) (fn:=f79) rfl ?_
 refine Qd (R_G (Qb 2 (Qf (Qd (R_G (Qb 2 ?_))))))
 obtain ⟨⟨v1,v2⟩,hx,hm⟩:=Qi hm
 have hq:=QdS _ _ hx []
 refine Qq hq ?_
 refine Qb 5 (Qf (Qd (Qd (R_G (Qb 2 (Qf ?_))))))
 refine Qx hm (ne_dec _ _) (fun hm=>?_) (fun hm=>?_)
 ·refine Qd (R_G (Qb 1 ?_))
  obtain ⟨⟨v3,v4⟩,hx,hm⟩:=Qi hm
  have hq:=ZI _ _ hx []
  refine Qq hq ?_
  refine Qb 4 (Qf (Qo ?_))
  obtain ⟨rfl,rfl⟩:=Q8 hm
  exact ⟨trivial,Qk⟩
 refine Qp (Qd (R_G (Qb 3 ?_)))
 obtain ⟨⟨v5,v6⟩,hx,hm⟩:=Qi hm
 have hq:=QcE _ _ hx []
 refine Qq hq ?_
 refine Qb 1 ?_
 obtain ⟨out,hx,hm⟩:=Qi hm
 rcases out with v7|⟨v8,v9⟩
 ·have hq:=Qb4 _ _ hx
  dsimp only [Jv] at hq
  refine QX hq ?_
  refine Qb 4 (Qf (Qo ?_))
  obtain ⟨rfl,rfl⟩:=Q8 hm
  exact ⟨trivial,Qk⟩
 ·have hq:=Qb4 _ _ hx
  dsimp only [Jv] at hq
  refine QX hq ?_
  refine Qb 4 (Qf (Qo ?_))
  obtain ⟨rfl,rfl⟩:=Q8 hm
  exact ⟨trivial,YO [(.agg [Ea,(.ms 3 1 0 v8.length v8.length),(.ms 4 1 0 v9.length v9.length),Ea,(Qe v5),(Qe v6),Ea]),(Qe 0)] (by kernel_rfl) (po_tup (ps_cons (p1_agg (pc_cons (by kernel_rfl) (pc_cons (pc_ms (e:=3) Qj v8 rfl (fun _=>rfl) (by kernel_rfl)) (pc_cons (pc_ms (e:=3) Qj v9 rfl (fun _=>rfl) (by kernel_rfl)) (pc_cons (by kernel_rfl) (pc_cons (by kernel_rfl) (pc_cons (by kernel_rfl) (pc_cons (by kernel_rfl) pc_nil)))))))) (ps_cons (by kernel_rfl) ps_nil)))⟩
def Jm (x:(Int × Qm × Qh)):Option Qh :=
 match x with
 | (p0,p1,p2) =>
 if p1.axis=(-1) then
  some p2
 else
 some (⟨p0,p1.shape,0,([]:(List Int)),p1.axis,p1.amount,([]:(List Int)),([(⟨p2.kind,p2.shape,p2.buffer,p2.starts,p2.axis,p2.amount,p2.perm,p2.kids⟩:Qh)]:(List Qh))⟩:Qh)
def Qdt:(Int × Qm × Qh)→Qh→Prop:=fun x r=>match x,r with
 | (p0,p1,p2),r0=>∀ H,PC prog env 80 ([(Qj p0),(Qm.toD p1),(Qh.ex p2)].map .dat) H (.dat (Qh.ex r0)) H
theorem QdN:∀ x r,Jm x=some r→Qdt x r:=by
 intro x r0 hm
 unfold Jm at hm
 unfold Qdt
 obtain ⟨p0,p1,p2⟩:=x
 intro H
 refine PC_sx (ds:=[(Qj p0),(Qm.toD p1),(Qh.ex p2)]) (fn:=f80) rfl ?_
 refine Qd (R_G (Qb 3 (Qf (Qd (Qd (R_G (Qb 3 (Qf ?_))))))))
 refine Qx hm (ZW _ _) (fun hm=>?_) (fun hm=>?_)
 ·refine Qd (R_G (Qb 2 (Qf (Qo ?_))))
  obtain rfl:=Qs hm
  exact ⟨trivial,Qk⟩
 refine Qp (Qd (R_G (Qb 11 (Qf (Qo ?_)))))
 obtain rfl:=Qs hm
 exact ⟨trivial,Qk⟩
def YU (x:((List Int) × Nat × (List Int) × (List Int) × (List Int))):Option (Unit) :=
 match x with
 | (q0,q1,q2,q3,q4) =>
 some ()
def XX:((List Int) × Nat × (List Int) × (List Int) × (List Int))→Unit→Prop:=fun x r=>match x with
 | (q0,q1,q2,q3,q4)=>PC prog env 137 [(.ptr 7 0),(.ptr 0 0)] [(.box [(La q0)]),Qv,(.mt 3 q1 (cellsOf Qj q2)),Qcy,Qv,(.mt 3 1 (cellsOf Qj q3)),(.mt 3 1 (cellsOf Qj q4)),(.box [Ea,(.ms 5 1 0 q3.length q3.length),(.ms 6 1 0 q4.length q4.length),Ea,(Qe (-1)),(Qe 0),Ea])] (match r with|_=>(.tup [])) (match r with|_=>[(.box [(La q0)]),Qv,(.mt 3 q1 (cellsOf Qj q2)),Qcy,Qv,(.mt 3 1 (cellsOf Qj q3)),(.mt 3 1 (cellsOf Qj q4)),(.box [Ea,(.ms 5 1 0 q3.length q3.length),(.ms 6 1 0 q4.length q4.length),Ea,(Qe (-1)),(Qe 0),(La q0)])])
theorem Qcu:∀ x r,YU x=some r→XX x r:=by
 intro x r hm
 unfold YU at hm
 unfold XX
 obtain ⟨q0,q1,q2,q3,q4⟩:=x
 refine PC_sxB (fn:=f137) rfl ?_
 refine R_G (Qb 5 (Qf ?_))
 obtain rfl:=Qs hm
 exact ⟨trivial,QK (by kernel_rfl) (by kernel_rfl)⟩
def JF (x:((List Int) × Nat × (List Int) × Nat × (List Int))):Option (Int ⊕ ((List Int) × (List Int))) :=
 match x with
 | (q0,q1,q2,q3,q4) =>
 YI (q2.length=q3)>>=fun (_:Unit) =>
 Zg q2>>=fun (v2:Int) =>
 if v2≠0 then
  some (Sum.inl v2)
 else
 Qy q0>>=fun v3 =>
 YI (q2.length=q3)>>=fun (_:Unit) =>
 Qy q2>>=fun v5 =>
 YU (q4,q1,q2,v3,v5)>>=fun (_:Unit) =>
 some (Sum.inr (v3,v5))
def Jw:((List Int) × Nat × (List Int) × Nat × (List Int))→(Int ⊕ ((List Int) × (List Int)))→Prop:=fun x r=>match x with
 | (q0,q1,q2,q3,q4)=>PC prog env 114 [(La q0),(.ms 2 q1 0 q3 q3),(.arr 3 0 1 1)] [(.box [(La q4)]),Qv,(.mt 3 q1 (cellsOf Qj q2)),Qcy] (match r with|.inl v5001=>(.tup [(.dat (.agg [Eb,Eb,Eb,Eb,(Qj 0),(Qj 0),Eb])),(Qe v5001)])|.inr ((v5002,v5003))=>(.tup [(.agg [Ea,(.ms 5 1 0 v5002.length v5002.length),(.ms 6 1 0 v5003.length v5003.length),Ea,(Qe (-1)),(Qe 0),(La q4)]),(Qe 0)])) (match r with|.inl v5001=>[(.box [(La q4)]),Qv,(.mt 3 q1 (cellsOf Qj q2)),Qcy,Qv]|.inr ((v5002,v5003))=>[(.box [(La q4)]),Qv,(.mt 3 q1 (cellsOf Qj q2)),Qcy,(.box [Ea,(.ms 5 1 0 v5002.length v5002.length),(.ms 6 1 0 v5003.length v5003.length),Ea,(Qe (-1)),(Qe 0),(La q4)]),(.mt 3 1 (cellsOf Qj v5002)),(.mt 3 1 (cellsOf Qj v5003)),(.box [Ea,(.ms 5 1 0 v5002.length v5002.length),(.ms 6 1 0 v5003.length v5003.length),Ea,(Qe (-1)),(Qe 0),(La q4)])])
theorem Qb5:∀ x r,JF x=some r→Jw x r:=by
 intro x r hm
 unfold JF at hm
 unfold Jw
 obtain ⟨q0,q1,q2,q3,q4⟩:=x
 refine PC_sxB (fn:=f114) rfl ?_
 refine Qd (R_G (Qb 2 (Qf (Qd (Qd (R_G (Qb 1 ?_)))))))
 obtain ⟨_,hl1,hm⟩:=Qi hm
 replace hl1:=YP hl1
 obtain ⟨v2,hx,hm⟩:=Qi hm
 have hq:=ZJ _ _ hx []
 refine QfM (args:=[(.ms 2 q1 0 q3 q3)]) hq (ps_cons (p1_ms (pc_ms (e:=3) Qj q2 hl1 (fun _=>rfl) (by kernel_rfl))) ps_nil) ?_
 refine Qb 1 (Qf (Qd (R_G (Qb 2 (Qf ?_)))))
 refine Qx hm (ne_dec _ _) (fun hm=>?_) (fun hm=>?_)
 ·refine Qd (R_G (Qb 4 (Qf (Qo ?_))))
  obtain rfl:=Qs hm
  exact ⟨trivial,QK (by kernel_rfl) (by kernel_rfl)⟩
 refine Qp (Qd (R_G (Qb 1 ?_)))
 obtain ⟨v3,hx,hm⟩:=Qi hm
 have hq:=QF _ _ hx
 dsimp only [QA] at hq
 have hl9:mtOf [Blk.mt 3 (cgm_slices_Clone_int_int v3) (cellsOf Qj v3)] 0=some (3,cgm_slices_Clone_int_int v3,cellsOf Qj v3):=ZD (by kernel_rfl)
 refine ZB (v:=.ms 5 1 0 v3.length v3.length) (fun H=>H++[.mt 3 1 (cellsOf Qj v3)]) rfl (by kernel_rfl) ?_ ?_
 ·intro K hk
  refine Zp 5 (first:=#[]) (cap:=#[]) (j:=(0,3)) (ow':=[]) (f0:=Qj) (l:=v3) rfl ?_ ?_ ?_ (ds:=[.lst ((List.map Qj) q0)]) ?_ hq hl9 ?_ ?_ ?_
  ·kernel_rfl
  ·kernel_rfl
  ·kernel_rfl
  ·kernel_rfl
  ·exact hk
  ·kernel_rfl
  ·decide
 refine Qb 1 ?_
 obtain ⟨_,hl4,hm⟩:=Qi hm
 replace hl4:=YP hl4
 obtain ⟨v5,hx,hm⟩:=Qi hm
 have hq:=QF _ _ hx
 dsimp only [QA] at hq
 have hl9:mtOf [Blk.mt 3 (cgm_slices_Clone_int_int v5) (cellsOf Qj v5)] 0=some (3,cgm_slices_Clone_int_int v5,cellsOf Qj v5):=ZD (by kernel_rfl)
 refine ZB (v:=.ms 6 1 0 v5.length v5.length) (fun H=>H++[.mt 3 1 (cellsOf Qj v5)]) rfl (by kernel_rfl) ?_ ?_
 ·intro K hk
  refine Zp 6 (first:=#[]) (cap:=#[]) (j:=(0,3)) (ow':=[]) (f0:=Qj) (l:=v5) rfl ?_ ?_ ?_ (ds:=[.lst ((List.map Qj) q2)]) ?_ hq hl9 ?_ ?_ ?_
  ·kernel_rfl
  ·kernel_rfl
  ·exact plain_or (cellsOf_plain (fun _=>rfl) _)
  ·exact ps_one (v:=(.ms 2 q1 0 q3 q3)) (by kernel_rfl) (p1_ms (pc_ms (e:=3) Qj q2 hl4 (fun _=>rfl) (by kernel_rfl)))
  ·exact hk
  ·kernel_rfl
  ·decide
 refine Qb 3 (Qf (Qd (Qd (R_G (Qb 1 (Qb 1 (Qb 1 (Qf (Qu ?_)))))))))
 refine Za ?_
 refine RL_at (st':=⟨kp 33 [(6,(.ptr 4 0)),(9,(.ptr 7 0)),(23,(.arr 3 0 1 1)),(24,(Qe 1)),(25,(Qe 0))],[(.box [(La q4)]),Qv,(.mt 3 q1 (cellsOf Qj q2)),Qcy,Qv,(.mt 3 1 (cellsOf Qj v3)),(.mt 3 1 (cellsOf Qj v5)),(.box [Ea,(.ms 5 1 0 v3.length v3.length),(.ms 6 1 0 v5.length v5.length),Ea,(Qe (-1)),(Qe 0),Ea])]⟩) (prune_of2 [(.box [(La q4)]),Qv,(.mt 3 q1 (cellsOf Qj q2)),Qcy,Qv,(.mt 3 1 (cellsOf Qj v3)),(.mt 3 1 (cellsOf Qj v5)),(.box [Ea,(.ms 5 1 0 v3.length v3.length),(.ms 6 1 0 v5.length v5.length),Ea,(Qe (-1)),(Qe 0),Ea])] (fun _=>(pg_cons (by kernel_rfl) (pg_cons (by kernel_rfl) (pg_cons (purge_mt Qj _ _ _ _ _) (pg_cons (by kernel_rfl) (pg_cons (by kernel_rfl) (pg_cons (purge_mt Qj _ _ _ _ _) (pg_cons (purge_mt Qj _ _ _ _ _) (pg_cons (by kernel_rfl) pg_nil))))))))) rfl) ?_
 refine Qd (R_G (Qb 1 (Qf (Qd ?_))))
 refine QaA (by kernel_rfl) ?_
 refine Qp (Qd (Qu (Qd (R_G (Qb 1 (Qb 2 (Qf (R_G (Qb 1 ?_)))))))))
 obtain ⟨_,hx,hm⟩:=Qi hm
 have hq:=Qcu _ _ hx
 dsimp only [XX] at hq
 refine QX hq ?_
 refine Qf (R_G (Qb 2 (Qf ?_)))
 refine RL_at (st':=⟨kp 33 [(6,(.ptr 4 0)),(9,(.ptr 7 0)),(23,(.arr 3 0 1 1)),(24,(Qe 1)),(25,(Qe 1))],[(.box [(La q4)]),Qv,(.mt 3 q1 (cellsOf Qj q2)),Qcy,Qv,(.mt 3 1 (cellsOf Qj v3)),(.mt 3 1 (cellsOf Qj v5)),(.box [Ea,(.ms 5 1 0 v3.length v3.length),(.ms 6 1 0 v5.length v5.length),Ea,(Qe (-1)),(Qe 0),(La q4)])]⟩) (prune_of2 [(.box [(La q4)]),Qv,(.mt 3 q1 (cellsOf Qj q2)),Qcy,Qv,(.mt 3 1 (cellsOf Qj v3)),(.mt 3 1 (cellsOf Qj v5)),(.box [Ea,(.ms 5 1 0 v3.length v3.length),(.ms 6 1 0 v5.length v5.length),Ea,(Qe (-1)),(Qe 0),(La q4)])] (fun _=>(pg_cons (by kernel_rfl) (pg_cons (by kernel_rfl) (pg_cons (purge_mt Qj _ _ _ _ _) (pg_cons (by kernel_rfl) (pg_cons (by kernel_rfl) (pg_cons (purge_mt Qj _ _ _ _ _) (pg_cons (purge_mt Qj _ _ _ _ _) (pg_cons (by kernel_rfl) pg_nil))))))))) rfl) ?_
 refine Qd (R_G (Qb 1 (Qf (Qd ?_))))
 refine YN (by kernel_rfl) ?_
 refine Q7 (Qd (R_G (Qb 3 (Qf (Qo ?_)))))
 obtain rfl:=Qs hm
 exact ⟨trivial,QK (by kernel_rfl) (by kernel_rfl)⟩
end Go.Proofs.Tryz
