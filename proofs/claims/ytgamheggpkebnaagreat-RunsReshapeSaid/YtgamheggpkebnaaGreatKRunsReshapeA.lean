/-
 Models of functions, their walks, and plain laws.
-/
import Derived.Test.YtgamheggpkebnaaGreatPmSx
import Derived.Test.YtgamheggpkebnaaGreatProg
import Derived.Test.YtgamheggpkebnaaGreatPmMap
import Derived.Test.YtgamheggpkebnaaGreatPmPk
import Derived.Test.YtgamheggpkebnaaGreatPmFx
namespace Go.Proofs.Tryz
open Go Go.Pm
set_option linter.unusedVariables false
set_option linter.unusedSimpArgs false
set_option maxRecDepth 2000
def Sm (n:Nat):Prop:=n≤9223372036854775807
theorem Sm_of {n m:Nat} (h:n≤m) (hm:m≤9223372036854775807:=by decide):Sm n:=Nat.le_trans h hm
theorem idx_ok {α:Type} {l:List α} {j:Nat} (h:j < l.length):idx l (j:Int)=some l[j]:=by simp [idx,h]
theorem app_ok {α:Type} {b:Nat} {l es:List α} (h:(l.length+es.length) * b≤room):app b l es=some (l++es):=if_pos h
theorem W_ok {n:Int} (h1:-9223372036854775808≤n) (h2:n < 9223372036854775808):W n=n:=by
 simp only [W,IntKind.wrap,IntKind.bits,IntKind.signed]; simp; split <;> omega
theorem W_succ {j:Nat} (h:j < 9223372036854775807):W ((j:Int)+1)=((j+1:Nat):Int):=by rw [W_ok (by omega) (by omega)]; omega
section
variable {α:Type} {p s:List α} {x:α}
theorem Zy:((p.length:Int) < ((p++x::s).length:Int)):=by simp; omega
theorem Z6:¬ ((p.length:Int) < ((p++([]:List α)).length:Int)):=by simp
theorem QJ:idx (p++x::s) (p.length:Int)=some x:=by simp [idx]
theorem QB:p++x::s=(p++[x])++s:=by simp
theorem mid_W (hs:Sm (p++x::s).length):W ((p.length:Int)+1)=((p++[x]).length:Int):=by
 unfold Sm at hs
 rw [W_ok (by omega) (by simp at hs; omega)]; simp
end
theorem Qg {α β:Type} (a:α) (f:α→Option β):(some a>>=f)=f a:=rfl
set_option maxHeartbeats 2000000
def hintOf:FuncId→Hint
 | 3=>{ own:=[],keep:=[(10,[7,8,9])] }
 | 4=>{ own:=[((5,0),[(0,3)])],keep:=[(7,[0,1,7,8,9,10]),(19,[12,14])] }
 | 5=>{ own:=[],keep:=[(9,[0,6,7,8])] }
 | 6=>{ own:=[],keep:=[(8,[1,5,6,7,8,9])] }
 | 12=>{ own:=[((1,14),[(7,33)]),((1,15),[(7,33)])],keep:=[(3,[1,2,3,4])] }
 | 14=>{ own:=[],keep:=[(4,[0,1,5])] }
 | 15=>{ own:=[((1,0),[(0,58)])],keep:=[(3,[0,3,4])] }
 | 16=>{ own:=[((1,0),[(0,56)])],keep:=[(3,[0,1,5,6])] }
 | 17=>{ own:=[((1,0),[(0,84)])],keep:=[(3,[0,1,5,8,9,10])] }
 | 18=>{ own:=[((1,0),[(0,45)])],keep:=[(4,[1,5,6,7])] }
 | 19=>{ own:=[((1,0),[(0,45)])],keep:=[(4,[1,3,4,5])] }
 | 21=>{ own:=[],keep:=[(5,[0,1,5,6])] }
 | 23=>{ own:=[((1,0),[(0,86)])],keep:=[(3,[1,2,3,9,18,19,20]),(7,[1,2,3,9,11,12,18,19,20,26,27,28]),(15,[9,63,64,65])] }
 | 25=>{ own:=[((1,0),[(0,86)])],keep:=[(3,[1,5,7,10,11,12])] }
 | 28=>{ own:=[],keep:=[(4,[0,5])] }
 | 29=>{ own:=[((10,0),[(0,86)])],keep:=[(12,[0,1,5,6,7,8,9])] }
 | 30=>{ own:=[((1,0),[(0,134)])],keep:=[(3,[0,3,4]),(5,[0,3,4,5])] }
 | 31=>{ own:=[((1,0),[(0,115)])],keep:=[(3,[0,3,4])] }
 | 32=>{ own:=[((0,0),[(1000,3)]),((14,0),[(1000,58)]),((25,4),[(1,3)]),((25,5),[(1,3)]),((30,0),[(3,3)]),((32,26),[(1000,3)]),((36,2),[(5000,3)])],keep:=[(18,[0,1,5,7,8,9,10]),(27,[0,1,5,7,8,9,10,11,12,14,15])],flat:=[(24,[(5,[1]),(6,[1])]),(25,[(4,[2,1,0,1])]),(36,[(4,[3]),(5,[4])]),(37,[(0,[5])])] }
 | 33=>{ own:=[((1,0),[(0,143)])],keep:=[(3,[0,3,4]),(5,[0,3,4,5])] }
 | 34=>{ own:=[((5,0),[(0,22)]),((12,1),[(0,3)])],keep:=[(3,[0,3,4]),(7,[0,3,4,5,6]),(10,[0,3,4,5,6,7])] }
 | 35=>{ own:=[],keep:=[(2,[0,1,4,6])] }
 | 36=>{ own:=[((1,0),[(0,86)])],keep:=[(3,[0,3,4])] }
 | 37=>{ own:=[],keep:=[(3,[3,7,8,9])] }
 | 38=>{ own:=[],keep:=[(2,[0,1,5])] }
 | 39=>{ own:=[],keep:=[(3,[2,3,6,7,8])] }
 | 40=>{ own:=[],keep:=[(3,[0,1,5,6])] }
 | 41=>{ own:=[],keep:=[(4,[1,3])] }
 | 43=>{ own:=[],keep:=[(4,[1,3])] }
 | 44=>{ own:=[],keep:=[(7,[6,7,8])] }
 | 45=>{ own:=[],keep:=[(4,[0,1,5])] }
 | 48=>{ own:=[],keep:=[(4,[1,2,5])] }
 | 50=>{ own:=[((1,0),[(0,29)])],keep:=[(3,[1,2,3,5,9,10,11])] }
 | 52=>{ own:=[((6,0),[(0,3),(1,3)]),((6,1),[(0,3),(1,3)]),((14,0),[(0,3),(1,3)]),((14,1),[(0,3),(1,3)])],keep:=[(3,[0,1,2,3,9,10]),(8,[0,1,2,3,9,10,11,12,13]),(16,[1,2,3,9,14,15]),(22,[9,16,17])] }
 | 53=>{ own:=[],keep:=[(3,[0,1,2,7,8])] }
 | 54=>{ own:=[],keep:=[(3,[0,1,2,3,9,10])] }
 | 55=>{ own:=[((5,0),[(0,3),(1,3)]),((5,1),[(0,3),(1,3)])],keep:=[(3,[0,1,2,7,8]),(7,[0,1,2,7,8,9,10]),(12,[0,1,2,7,8,9,10,11,12,13])] }
 | 56=>{ own:=[],keep:=[(3,[0,1,2,3,9,10]),(7,[1,2,3,9,11])] }
 | 59=>{ own:=[],keep:=[(4,[1,3])] }
 | 60=>{ own:=[],keep:=[(2,[1,3])] }
 | 62=>{ own:=[],keep:=[(2,[0,1,5])] }
 | 63=>{ own:=[],keep:=[(2,[0,1,5]),(7,[0,1,5,6]),(13,[1,7,8]),(17,[1,7,8,9,10])] }
 | 64=>{ own:=[],keep:=[(4,[1,19,20,21])] }
 | 66=>{ own:=[((1,17),[(0,3)])],keep:=[] }
 | 69=>{ own:=[],keep:=[(3,[0,1,5,12,13,14]),(9,[0,1,5,7,12,13,14,29,30,31])] }
 | 72=>{ own:=[((1,0),[(0,86)])],keep:=[(3,[1,2,3,9,12,13,14])] }
 | 73=>{ own:=[((1,0),[(0,86)])],keep:=[(3,[1,2,7,13,14,15]),(7,[1,2,7,9,10,13,14,15,21,22,23])] }
 | 74=>{ own:=[((1,1),[(0,86)])],keep:=[(3,[0,2,3,9,16,17,18]),(8,[2,9,33,34,35])] }
 | 75=>{ own:=[],keep:=[(2,[0,3])] }
 | 77=>{ own:=[((1,2),[(8000,3)]),((1,4),[(0,3)])],keep:=[] }
 | 79=>{ own:=[((1,0),[(0,3),(1,3)])],keep:=[(3,[0,1,2,8,9,13,14,15])] }
 | 80=>{ own:=[((3,2),[(0,3)]),((3,5),[(0,3)]),((4,0),[(0,84)])],keep:=[(7,[2,5,7,8,30,31])] }
 | 82=>{ own:=[((1,3),[(0,3)]),((1,7),[(0,3)])],keep:=[] }
 | 85=>{ own:=[((6,0),[(0,58)])],keep:=[(4,[0,3,5])] }
 | 87=>{ own:=[((1,0),[(0,45)])],keep:=[(3,[0,3,4])] }
 | 89=>{ own:=[((1,2),[(1000,115)])],keep:=[(3,[3,5,16,17,18,29])] }
 | 93=>{ own:=[((1,0),[(0,86)]),((5,1),[(0,3)]),((5,3),[(0,3)]),((17,1),[(5000,86)])],keep:=[(2,[0,1,2,3,4,11]),(7,[0,1,2,3,4,11,12,13,15,16,44,45])] }
 | 96=>{ own:=[],keep:=[(3,[0,3,4])] }
 | 97=>{ own:=[((1,2),[(8000,3)])],keep:=[] }
 | 98=>{ own:=[((1,1),[(0,3)])],keep:=[(3,[1,5,6])] }
 | 99=>{ own:=[],keep:=[(2,[0,1,5])] }
 | 100=>{ own:=[],keep:=[(2,[0,3])] }
 | 101=>{ own:=[],keep:=[(4,[1,2,5])] }
 | 105=>{ own:=[],keep:=[(3,[0,4,5]),(9,[0,4,6]),(17,[0,7,8])] }
 | 106=>{ own:=[],keep:=[(5,[1,2,5])] }
 | 107=>{ own:=[],keep:=[(3,[1,3,4])] }
 | 108=>{ own:=[],keep:=[(4,[1,2,5])] }
 | 119=>{ own:=[((6,0),[(0,56)]),((13,0),[(0,3),(1,3)])],keep:=[(8,[2,5,7,8]),(11,[2,5,7,8,9]),(15,[2,5,7,8,9,10,11])] }
 | 120=>{ own:=[((1,0),[(0,3)]),((1,4),[(0,3)])],keep:=[] }
 | 121=>{ own:=[((3,0),[(0,3)])],keep:=[] }
 | 122=>{ own:=[((3,0),[(0,3)])],keep:=[(5,[1,2,3,6,7,8]),(9,[1,2,3,6,7,8,9,10])] }
 | 123=>{ own:=[],keep:=[(2,[1,2,5])] }
 | 124=>{ own:=[],keep:=[(3,[0,1,5,9,10]),(9,[0,1,5,24,25])] }
 | 127=>{ own:=[((0,0),[(9000,3)]),((0,1),[(9000,3)])],keep:=[] }
 | 128=>{ own:=[],keep:=[(2,[0,1,9,10,11])] }
 | 130=>{ own:=[],keep:=[(4,[0,19,20,21])] }
 | 132=>{ own:=[],keep:=[(5,[0,1,5,6])] }
 | 133=>{ own:=[((3,0),[(1000,3)]),((18,0),[(0,3)])],keep:=[(8,[2,7,8,9]),(20,[1,2,7,8,10])] }
 | 134=>{ own:=[],keep:=[(2,[0,1,7,8])] }
 | 136=>{ own:=[],keep:=[(4,[2,13,14,15])] }
 | 140=>{ own:=[((2,0),[(1000,86)]),((3,0),[(1000,86)])],keep:=[] }
 | 141=>{ own:=[((1,0),[(0,86)])],keep:=[(3,[1,5,8,9,10])] }
 | 144=>{ own:=[((2,0),[(1000,3)]),((3,0),[(1000,3)])],keep:=[] }
 | 149=>{ own:=[((1,2),[(0,3)]),((1,5),[(0,3)])],keep:=[] }
 | 150=>{ own:=[],keep:=[(8,[0,3,4,18,19])] }
 | 154=>{ own:=[((1,1),[(0,3)]),((1,3),[(0,3)])],keep:=[] }
 | 156=>{ own:=[((1,0),[(0,3)])],keep:=[(3,[1,5,8,9,10])] }
 | 158=>{ own:=[],keep:=[(3,[1,5,13,14,15])] }
 | 160=>{ own:=[((2,0),[(1000,3)]),((3,0),[(1000,3)])],keep:=[(5,[0,3,4]),(11,[0,3,4,5,6])] }
 | 161=>{ own:=[],keep:=[(3,[0,1,5,6])] }
 | 164=>{ own:=[],keep:=[(1,[0,5])] }
 | 165=>{ own:=[],keep:=[(15,[2,6])] }
 | 168=>{ own:=[],keep:=[(2,[1,3])] }
 | 169=>{ own:=[((3,0),[(0,3),(1,3)])],keep:=[(5,[2,3,4,6,7])] }
 | 171=>{ own:=[],keep:=[(2,[0,1,7,8])] }
 | 172=>{ own:=[],keep:=[(4,[0,1,12,13])] }
 | 179=>{ own:=[((1,0),[(0,3)])],keep:=[(3,[1,2,7,10,11,12])] }
 | 182=>{ own:=[],keep:=[(4,[0,1,5])] }
 | 183=>{ own:=[],keep:=[(3,[0,1,5,6])] }
 | 184=>{ own:=[((1,4),[(0,3)])],keep:=[] }
 | 189=>{ own:=[],keep:=[(2,[0,6,11,12,13])] }
 | 190=>{ own:=[],keep:=[(2,[0,1,2,3,4,10,11])] }
 | 193=>{ own:=[],keep:=[(5,[0,1,5,6])] }
 | 195=>{ own:=[],keep:=[(3,[0,1,2,8,9,10])] }
 | 197=>{ own:=[((0,1),[(0,3)]),((4,2),[(5000,3)])],keep:=[(2,[0,1,2,4,5])] }
 | 198=>{ own:=[],keep:=[(2,[0,1,2,7])] }
 | 199=>{ own:=[],keep:=[(4,[0,12,13,14])] }
 | 202=>{ own:=[],keep:=[(2,[0,1,2,3,8,9])] }
 | 204=>{ own:=[],keep:=[(5,[1,3,4]),(10,[1,3,5]),(14,[1,3,5,6,7])] }
 | 205=>{ own:=[],keep:=[(6,[1,3,4,5])] }
 | 209=>{ own:=[],keep:=[(2,[0,1,7,8])] }
 | 210=>{ own:=[],keep:=[(3,[2,8,13,14,15])] }
 | 211=>{ own:=[],keep:=[(3,[0,1,5,11,12])] }
 | 212=>{ own:=[],keep:=[(3,[3,6,7,8])] }
 | 213=>{ own:=[],keep:=[(1,[0,1,2,3,8]),(4,[0,1,2,3,8,9])] }
 | 214=>{ own:=[],keep:=[(4,[0,3,8,9,10,11]),(8,[0,3,8,9,12])] }
 | 215=>{ own:=[],keep:=[(5,[0,1,8,9,10,11])] }
 | 217=>{ own:=[],keep:=[(2,[0,8,9])] }
 | 218=>{ own:=[],keep:=[(3,[0,1,2,3,9,10]),(5,[0,1,2,3,9,10]),(14,[0,1,2,3,9,10,11]),(20,[0,1,2,3,9,10,12])] }
 | 219=>{ own:=[],keep:=[(3,[0,1,4,11,12]),(5,[0,1,4,11,12])] }
 | 220=>{ own:=[],keep:=[(3,[0,1,4,12,13]),(5,[0,1,4,12,13]),(13,[0,1,4,12,13]),(15,[0,1,4,12,13])] }
 | 223=>{ own:=[],keep:=[(2,[0,1,7,8])] }
 | 224=>{ own:=[],keep:=[(1,[0,1,2,6]),(4,[0,1,2,6,7])] }
 | 225=>{ own:=[],keep:=[(4,[0,6,7,8,9]),(8,[0,6,7,10])] }
 | 226=>{ own:=[],keep:=[(5,[0,1,6,7,8,9])] }
 | 228=>{ own:=[],keep:=[(2,[0,6,7])] }
 | 229=>{ own:=[],keep:=[(3,[0,1,2,7,8]),(5,[0,1,2,7,8]),(14,[0,1,2,7,8,9]),(20,[0,1,2,7,8,10])] }
 | _=>{}
def env:Env where
 summ:=fun _=>none
 hint:=hintOf
 pure:=fun f=>f != 92 && f != 93 && f != 140 && f != 144 && f != 145 && f != 146 && f != 147 && f != 158 && f != 160 && f != 184 && f != 192 && f != 198
 split:=fun f=>f == 144 || f == 140
abbrev FQ:=FP prog env
abbrev LQ:=LP prog env
abbrev FFQ:=FF prog env

structure Qb where
 fill:Bool
 buffer:Int
 offset:Int
def Qb.toD (x:Qb):Dat:=.agg [(J2 x.fill),(Qj x.buffer),(Qj x.offset)]
theorem Qb.fit (x:Qb):Dat.fits 3 x.toD=true:=rfl
structure Qs where
 fill:Bool
 buffer:Int
 offset:Int
def Qs.toD (x:Qs):Dat:=.agg [(J2 x.fill),(Qj x.buffer),(Qj x.offset)]
theorem Qs.fit (x:Qs):Dat.fits 3 x.toD=true:=rfl
structure Qk where
 at0_:Int
 len:Int
 fill:Bool
 buffer:Int
 offset:Int
 step:Int
def Qk.toD (x:Qk):Dat:=.agg [(Qj x.at0_),(Qj x.len),(J2 x.fill),(Qj x.buffer),(Qj x.offset),(Qj x.step)]
theorem Qk.fit (x:Qk):Dat.fits 6 x.toD=true:=rfl
structure ZE where
 lo:(List Int)
 hi:(List Int)
def ZE.toD (x:ZE):Dat:=.agg [(.lst ((List.map Qj) x.lo)),(.lst ((List.map Qj) x.hi))]
theorem ZE.fit (x:ZE):Dat.fits 2 x.toD=true:=rfl
structure QH where
 kind:Int
 buffer:Int
 base:Int
 strides:(List Int)
 start:Int
 step:Int
 mod:Int
def QH.toD (x:QH):Dat:=.agg [(Qj x.kind),(Qj x.buffer),(Qj x.base),(.lst ((List.map Qj) x.strides)),(Qj x.start),(Qj x.step),(Qj x.mod)]
theorem QH.fit (x:QH):Dat.fits 7 x.toD=true:=rfl
structure Qd where
 box:ZE
 access:QH
def Qd.toD (x:Qd):Dat:=.agg [(.lst ((List.map Qj) x.box.lo)),(.lst ((List.map Qj) x.box.hi)),(Qj x.access.kind),(Qj x.access.buffer),(Qj x.access.base),(.lst ((List.map Qj) x.access.strides)),(Qj x.access.start),(Qj x.access.step),(Qj x.access.mod)]
theorem Qd.fit (x:Qd):Dat.fits 9 x.toD=true:=rfl
structure Yi where
 strides:(List Int)
 dims:(List Int)
def Yi.toD (x:Yi):Dat:=.agg [(.lst ((List.map Qj) x.strides)),(.lst ((List.map Qj) x.dims))]
theorem Yi.fit (x:Yi):Dat.fits 2 x.toD=true:=rfl
structure Qe where
 at0_:Int
 len:Int
 fill:Bool
 buffer:Int
 offset:Int
 step:Int
def Qe.toD (x:Qe):Dat:=.agg [(Qj x.at0_),(Qj x.len),(J2 x.fill),(Qj x.buffer),(Qj x.offset),(Qj x.step)]
theorem Qe.fit (x:Qe):Dat.fits 6 x.toD=true:=rfl
structure Qo where
 lo:(List Int)
 hi:(List Int)
def Qo.toD (x:Qo):Dat:=.agg [(.lst ((List.map Qj) x.lo)),(.lst ((List.map Qj) x.hi))]
theorem Qo.fit (x:Qo):Dat.fits 2 x.toD=true:=rfl
structure Qr where
 kind:Int
 buffer:Int
 base:Int
 strides:(List Int)
 start:Int
 step:Int
 mod:Int
def Qr.toD (x:Qr):Dat:=.agg [(Qj x.kind),(Qj x.buffer),(Qj x.base),(.lst ((List.map Qj) x.strides)),(Qj x.start),(Qj x.step),(Qj x.mod)]
theorem Qr.fit (x:Qr):Dat.fits 7 x.toD=true:=rfl
structure Qa where
 box:Qo
 access:Qr
def Qa.toD (x:Qa):Dat:=.agg [(.lst ((List.map Qj) x.box.lo)),(.lst ((List.map Qj) x.box.hi)),(Qj x.access.kind),(Qj x.access.buffer),(Qj x.access.base),(.lst ((List.map Qj) x.access.strides)),(Qj x.access.start),(Qj x.access.step),(Qj x.access.mod)]
theorem Qa.fit (x:Qa):Dat.fits 9 x.toD=true:=rfl
abbrev Zg:=fun x0 x1=>((.box [(La x0),(La x1)]):Blk)
abbrev ZF:=fun x0=>((.mt 3 1 (cellsOf Qj x0)):Blk)
abbrev Ya:=fun x0 x1=>((.mt 3 x0 (cellsOf Qj x1)):Blk)
abbrev JH:=fun x0=>((.vec 0 ((List.map Qk.toD) x0)):PV)
abbrev JE:=((.mt 3 0 (cellsOf Qj ([]:List Int))):Blk)
abbrev JK:=fun x0 x1 x2=>((.box [(La x0),(.ms 0 x1 0 x2 x2)]):Blk)
abbrev XW:=fun x0=>((.vec 0 ((List.map Qe.toD) x0)):PV)
abbrev JD:=fun x0=>((.vec 0 ((List.map Qo.toD) x0)):PV)
abbrev J3:=fun x0=>((.vec 0 ((List.map Qd.toD) x0)):PV)
abbrev JF:=fun x0=>((.vec 1 ((List.map Qd.toD) x0)):PV)
abbrev Jq:=fun x0=>((.vec 3 ((List.map Qd.toD) x0)):PV)
abbrev XV:=fun x0=>((.dat (.lst ((List.map Qs.toD) x0))):PV)
abbrev Z0:=fun x0=>((.dat (.lst ((List.map Qk.toD) x0))):PV)
abbrev Yz:=fun x0=>((.dat (.lst ((List.map Qe.toD) x0))):PV)
abbrev XX:=fun x0=>((.dat (.lst ((List.map Qo.toD) x0))):PV)
abbrev YH:=fun x0 x1 x2=>((.box [(Ql x0),(Qc x1),(Qc x2)]):Blk)
abbrev Zm:=fun x0=>((.dat (.lst ((List.map Qb.toD) x0))):PV)
abbrev Jr:=fun x0=>((.dat (.lst ((List.map Qd.toD) x0))):PV)
abbrev Z9:=fun x0=>((.dat (.lst ((List.map Qa.toD) x0))):PV)
abbrev Qbr:=fun x0 x1=>((.box [(.ms 3 1 0 x0 x0),(.ms 4 1 0 x1 x1)]):Blk)
abbrev JJ:=fun x0 x1=>((.box [(.ms 5 1 0 x0 x0),(.ms 6 1 0 x1 x1)]):Blk)
abbrev Qbs:=fun x0 x1 x2 x3=>((.mt 58 x0 (flC Qa.toD 1 0 x1 x2 x3)):Blk)
abbrev J4:=fun x0=>((.vec 0 ((List.map (fun l=>Dat.lst ((List.map Qj) l))) x0)):PV)
abbrev ZL:=fun x0=>((.dat (.lst ((List.map (fun l=>Dat.lst ((List.map Qj) l))) x0))):PV)
abbrev JG:=((.box [(Qc 0),(Qc 0),(Ql false),(Qc 0),(Qc 0),(Qc 0)]):Blk)
abbrev Qas:=fun x0 x1 x2 x3=>((.box [(Qc x0),(Qc 1),(Ql x1),(Qc x2),(Qc x3),(Qc 0)]):Blk)
abbrev YU:=fun x0 x1 x2 x3 x4 x5=>((.box [(Qc x0),(Qc x1),(Ql x2),(Qc x3),(Qc x4),(Qc x5)]):Blk)
abbrev Q9:=fun x0 x1 x2 x3 x4 x5 x6=>((.box [(Qc x0),(Qc x1),(Qc x2),(La x3),(Qc x4),(Qc x5),(Qc x6)]):Blk)
abbrev QaY:=fun x0 x1 x2 x3 x4 x5 x6 x7 x8=>((.dat (.agg [(Lb x0),(Lb x1),(Qj x2),(Qj x3),(Qj x4),(Lb x5),(Qj x6),(Qj x7),(Qj x8)])):PV)
abbrev JI:=fun x0 x1 x2=>((.mt 58 x0 (flA Qa.toD (flP (fun (p_:Qa) (h_:List Int)=>(⟨⟨p_.box.lo,h_⟩,p_.access⟩:Qa)) x1 x2))):Blk)
abbrev Jp:=fun x0 x1 x2 x3 x4=>([(Ya x0 x1),(Qbs x2 x0 x3 x4)]:List Blk)
abbrev X8:=fun x0 x1 x2 x3=>([(.tok 86 x0),(Zg x1 x2),(.box (cellsOf Qj x3))]:List Blk)
abbrev J6:=fun x0 x1 x2 x3 x4=>([(.tok 86 x0),(Zg x1 x2),(.box (cellsOf Qj x3)),(.tok 86 x4)]:List Blk)
abbrev J5:=fun x0 x1 x2 x3 x4 x5 x6 x7 x8 x9 x10 x11=>([(.tok 86 x0),(.tok 86 x1),(YU x2 x3 x4 x5 x6 x7),(ZF x8),(ZF x9),(Qbr x10 x11)]:List Blk)
def XS (x:Unit):Option Bool:=some true
def QaA:Unit→Bool→Prop:=fun x r=>∀ H,PC prog env 27 ([].map .dat) H (Ql r) H
theorem JR:∀ x r,XS x=some r→QaA x r:=by
 intro x r hm
 cases hm
 intro H
 exact PC_of (n:=200) (by kernel_rfl)
def Zr (x:((List Qb) × Int)):Option ((Bool × Int × Int) ⊕ Unit) :=
 match x with
 | (p0,v201) =>
 if v201 < (p0.length:Int) then
  idx p0 v201>>=fun v604 =>
  ((if v604.buffer < 0 then
   some true
  else
  some (decide (v604.offset < 0))
  )>>=fun (v606:Bool) =>
  (if v606=true then
   some true
  else
  some (decide (v604.buffer > 100000))
  )>>=fun (v607:Bool) =>
  (if v607=true then
   some true
  else
  some (decide (v604.offset > 100000))
  )>>=fun (v608:Bool) =>
  if v608=true then
   some true
  else
  if v604.fill=true then
   (if v604.buffer≠0 then
    some true
   else
   some (v604.offset != 0)
   )>>=fun (v609:Bool) =>
   some v609
  else
  some false
  )>>=fun (v605:Bool) =>
  if v605=true then
   some (Sum.inl (v604.fill,v604.buffer,v604.offset))
  else
  Zr (p0,(W (v201+1)))
 else
 some (Sum.inr ())
 partial_fixpoint
theorem XG:∀ x r,Zr x=some r→match x with|(p0,v201)=>LQ f28 28 [1,1,0,1,0,0] 0 ⟨kp 53 [(0,(Zm p0)),(5,(Qc v201))],[]⟩ (P2 .ret (fun (v601,v602,v603) d=>⟨sl d 53 [(4,(Ql false))],[(YH v601 v602 v603)]⟩) (.exit 0) (fun _ d=>⟨sl d 53 [],[]⟩) r):=by
 refine Zr.partial_correctness _ (fun Zr XG x r hm=>?_)
 obtain ⟨p0,v201⟩:=x
 exact lp (Qh (gr 2 (Q2 Qb.toD p0 (re 1 (ri hm (fun hm=>Qp (Qh (Qn (gr 2 (QK 3 Qb.toD hm fun v604 hm=>re 3 (Qh (bi hm fun v605 hs hm=>ZD (fun d=>⟨sl d 53 [(0,(Zm p0)),(5,(Qc v201)),(52,(Ql v605))],[(YH v604.fill v604.buffer v604.offset)]⟩) (have hm:=hs;QaB (Qf 4 (bi hm fun v606 hs hm=>Z8 (j:=8) (fun d=>⟨sl d 53 [(0,(Zm p0)),(5,(Qc v201)),(6,(.ptr 0 0)),(28,(Ql v606))],[(YH v604.fill v604.buffer v604.offset)]⟩) (fun d=>Qf 1 (bi hm fun v607 hs hm=>Z8 (j:=13) (fun d=>⟨sl d 53 [(0,(Zm p0)),(5,(Qc v201)),(6,(.ptr 0 0)),(33,(Ql v607))],[(YH v604.fill v604.buffer v604.offset)]⟩) (fun d=>Qf 1 (bi hm fun v608 hs hm=>Z8 (j:=18) (fun d=>⟨sl d 53 [(0,(Zm p0)),(5,(Qc v201)),(6,(.ptr 0 0)),(38,(Ql v608))],[(YH v604.fill v604.buffer v604.offset)]⟩) (fun d=>Qf 1 (gsb 39 hm (fun hm=>re 13 ⟨kr,zf⟩) (fun hm=>Qf 3 (gsb 42 hm (fun hm=>Qf 4 (bi hm fun v609 hs hm=>Z8 (j:=30) (fun d=>⟨sl d 53 [(0,(Zm p0)),(5,(Qc v201)),(39,(Ql false)),(42,(Ql true)),(50,(Ql v609))],[(YH v604.fill v604.buffer v604.offset)]⟩) (fun d=>re 2 ⟨kr,zf⟩) (fun hJ=>gsx 46 hs (fun hm=>Qf 4 zf) (fun hm=>Qf 4 zf)))) (fun hm=>re 10 ⟨kr,zf⟩))))) (fun hJ=>gsb 34 hs (fun hm=>Qf 4 zf) (fun hm=>Qf 4 zf)))) (fun hJ=>gsb 29 hs (fun hm=>Qf 4 zf) (fun hm=>Qf 4 zf)))) (fun hJ=>gs 24 hs (fun hm=>Qf 4 zf) (fun hm=>Qf 4 zf))))) (fun d=>rib hm (fun hm=>ge 1 (Qq zf)) (fun hm=>Qp (R_G (re 3 (XG _ _ hm _ kr)))))))))))) (fun hm=>QL zf))))))
def Xg (x:((List Qb) × Int)):Option Bool :=
 match x with
 | (p0,p1) =>
 if (p0.length:Int) > p1 then
  some false
 else
 (
 Zr (p0,0)>>=fun out =>
 match out with
 | .inl (v601,v602,v603) =>
  some false
 | .inr (_) =>
  some true
 )
def JQ:((List Qb) × Int)→Bool→Prop:=fun x r=>match x,r with
 | (p0,p1),r0=>∀ H,PC prog env 28 ([(.lst ((List.map Qb.toD) p0)),(Qj p1)].map .dat) H (Ql r0) H
theorem QaD:∀ x r,Xg x=some r→JQ x r:=by
 intro x r0 hm
 unfold Xg at hm
 unfold JQ
 obtain ⟨p0,p1⟩:=x
 intro H
 refine PC_sx (ds:=[(.lst ((List.map Qb.toD) p0)),(Qj p1)]) (fn:=f28) rfl ?_
 exact ge 1 (Qh (gr 1 (Q2 Qb.toD p0 (re 2 (ri hm (fun hm=>ge 1 (Qq zf)) (fun hm=>Qp (Qh (ge 1 (Qn (ru2 hm (XG _) (fun ⟨v601,v602,v603⟩ d hm=>zf) fun _ d hm=>ge 1 (Qq zf)))))))))))
def Q1 (x:((List Int) × Bool × Int)):Option (Unit ⊕ Bool) :=
 match x with
 | (p0,v201,v202) =>
 if v202 < (p0.length:Int) then
  idx p0 v202>>=fun v602 =>
  if v602 < 0 then
   some (Sum.inl ())
  else
  if v201=true then
   Q1 (p0,true,(W (v202+1)))
  else
  idx p0 v202>>=fun v603 =>
  Q1 (p0,(v603 == 0),(W (v202+1)))
 else
 some (Sum.inr v201)
 partial_fixpoint
theorem YE:∀ x r,Q1 x=some r→match x with|(p0,v201,v202)=>LQ f105 105 [1,1,0,1,0,0] 0 ⟨kp 55 [(0,(La p0)),(4,(Ql v201)),(5,(Qc v202))],[]⟩ (P2 .ret (fun _ d=>⟨sl d 55 [(2,(Qc 0)),(3,(Qc 6))],[]⟩) (.exit 0) (fun v601 d=>⟨sl d 55 [(0,(La p0)),(4,(Ql v601))],[]⟩) r):=by
 refine Q1.partial_correctness _ (fun Q1 YE x r hm=>?_)
 obtain ⟨p0,v201,v202⟩:=x
 exact lp (Qh (gr 2 (Q2 Qj p0 (re 1 (ri hm (fun hm=>Qp (Qh (Qn (Qh (gr 2 (QK 1 Qj hm fun v602 hm=>re 2 (ri hm (fun hm=>ge 2 (Qq zf)) (fun hm=>Qp (R_G (Qf 2 (gsb 21 hm (fun hm=>re 7 (R_G (re 3 (YE _ _ hm _ kr)))) (fun hm=>Qf 2 (QK 1 Qj hm fun v603 hm=>re 4 (R_G (re 3 (YE _ _ hm _ kr)))))))))))))))) (fun hm=>QL zf))))))
def Za (x:((List Int) × Bool × Int)):Option (Unit ⊕ Unit) :=
 match x with
 | (p0,v601,v804) =>
 if v804 < (p0.length:Int) then
  idx p0 v804>>=fun v1204 =>
  if v1204 > 65536 then
   some (Sum.inl ())
  else
  Za (p0,v601,(W (v804+1)))
 else
 some (Sum.inr ())
 partial_fixpoint
theorem Xm:∀ x r,Za x=some r→match x with|(p0,v601,v804)=>LQ f105 105 [1,1,1,0,1,0,0] 0 ⟨kp 55 [(0,(La p0)),(4,(Ql v601)),(6,(Qc v804))],[]⟩ (P2 .ret (fun _ d=>⟨sl d 55 [(2,(Qc 0)),(3,(Qc 7))],[]⟩) (.exit 2) (fun _ d=>⟨sl d 55 [(0,(La p0)),(4,(Ql v601))],[]⟩) r):=by
 refine Za.partial_correctness _ (fun Za Xm x r hm=>?_)
 obtain ⟨p0,v601,v804⟩:=x
 exact lp (Qh (gr 2 (Q2 Qj p0 (re 1 (ri hm (fun hm=>Qp (Qh (Qn (gr 2 (QK 1 Qj hm fun v1204 hm=>re 2 (ri hm (fun hm=>ge 2 (Qq zf)) (fun hm=>Qp (R_G (re 3 (Xm _ _ hm _ kr)))))))))) (fun hm=>QL zf))))))
def Zb (x:((List Int) × Int × Int)):Option (Unit ⊕ Int) :=
 match x with
 | (p0,v1405,v1406) =>
 if v1406 < (p0.length:Int) then
  idx p0 v1406>>=fun v1806 =>
  if (W (v1405 * v1806)) > 65536 then
   some (Sum.inl ())
  else
  Zb (p0,(W (v1405 * v1806)),(W (v1406+1)))
 else
 some (Sum.inr v1405)
 partial_fixpoint
theorem Xn:∀ x r,Zb x=some r→match x with|(p0,v1405,v1406)=>LQ f105 105 [1,1,1,1,1,1,0,1,0,0] 0 ⟨kp 55 [(0,(La p0)),(7,(Qc v1405)),(8,(Qc v1406))],[]⟩ (P2 .ret (fun _ d=>⟨sl d 55 [(2,(Qc 0)),(3,(Qc 7))],[]⟩) (.exit 4) (fun v1805 d=>⟨sl d 55 [(7,(Qc v1805))],[]⟩) r):=by
 refine Zb.partial_correctness _ (fun Zb Xn x r hm=>?_)
 obtain ⟨p0,v1405,v1406⟩:=x
 exact lp (Qh (gr 2 (Q2 Qj p0 (re 1 (ri hm (fun hm=>Qp (Qh (Qn (gr 3 (QK 1 Qj hm fun v1806 hm=>re 3 (ge 2 (ri hm (fun hm=>ge 2 (Qq zf)) (fun hm=>Qp (R_G (re 3 (Xn _ _ hm _ kr))))))))))) (fun hm=>QL zf))))))
def Yl (x:(List Int)):Option (Int × Int) :=
 match x with
 | p0 =>
 (
 Q1 (p0,false,0)>>=fun out =>
 match out with
 | .inl _ =>
  some (0,6)
 | .inr (v601) =>
  (
  Za (p0,v601,0)>>=fun out =>
  match out with
  | .inl _ =>
   some (0,7)
  | .inr (_) =>
   if v601=true then
    some (0,0)
   else
   (
   Zb (p0,1,0)>>=fun out =>
   match out with
   | .inl _ =>
    some (0,7)
   | .inr (v1805) =>
    some (v1805,0)
   )
  )
 )
theorem Jz {p0 r0 r1} (hm:Yl p0=some (r0,r1)):FQ 105 [(Lb p0)] (.tup [(Qc r0),(Qc r1)]):=by
 unfold Yl at hm
 exact fp (fn:=f105) rfl (ge 2 (ge 1 (Qh (ge 1 (Qn (ru2 hm (YE _) (fun _ d hm=>zf) fun v601 d hm=>Qh (ge 1 (Qn (ru2 hm (Xm _) (fun _ d hm=>zf) fun _ d hm=>Qh (ge 1 (rib hm (fun hm=>ge 2 (Qq zf)) (fun hm=>Qp (ge 1 (Qh (ge 1 (Qn (ru2 hm (Xn _) (fun _ d hm=>zf) fun v1805 d hm=>ge 3 (Qq zf))))))))))))))))))
def Zs (x:((List Int) × Int)):Option (Unit ⊕ Unit) :=
 match x with
 | (p0,v201) =>
 if v201 < (p0.length:Int) then
  idx p0 v201>>=fun v601 =>
  if v601 < 0 then
   some (Sum.inl ())
  else
  Zs (p0,(W (v201+1)))
 else
 some (Sum.inr ())
 partial_fixpoint
theorem XH:∀ x r,Zs x=some r→match x with|(p0,v201)=>LQ f75 75 [1,0,1,0,0] 0 ⟨kp 29 [(0,(La p0)),(3,(Qc v201))],[]⟩ (P2 .ret (fun _ d=>⟨sl d 29 [(2,(Qc 6))],[]⟩) (.exit 0) (fun _ d=>⟨sl d 29 [(0,(La p0))],[]⟩) r):=by
 refine Zs.partial_correctness _ (fun Zs XH x r hm=>?_)
 obtain ⟨p0,v201⟩:=x
 exact lp (Qh (gr 2 (Q2 Qj p0 (re 1 (ri hm (fun hm=>Qp (Qh (Qn (gr 2 (QK 1 Qj hm fun v601 hm=>re 2 (ri hm (fun hm=>ge 1 (Qq zf)) (fun hm=>Qp (R_G (re 3 (XH _ _ hm _ kr)))))))))) (fun hm=>QL zf))))))
def Yr (x:(List Int)):Option Int :=
 match x with
 | p0 =>
 (
 Zs (p0,0)>>=fun out =>
 match out with
 | .inl _ =>
  some 6
 | .inr (_) =>
  Yl p0>>=fun (v602,v603) =>
  (if (p0.length:Int) > 16 then
   some true
  else
  some (v603 != 0)
  )>>=fun (v604:Bool) =>
  if v604=true then
   some 7
  else
  some 0
 )
theorem Jk {p0 r0} (hm:Yr p0=some r0):FQ 75 [(Lb p0)] (Qc r0):=by
 unfold Yr at hm
 exact fp (fn:=f75) rfl (ge 1 (Qh (ge 1 (Qn (ru2 hm (XH _) (fun _ d hm=>zf) fun _ d hm=>gr 1 (bi2 hm fun v602 v603 hx hm=>cp (Jz hx) (re 5 (Qh (Qh (bi hm fun v604 hs hm=>ZD (fun d=>⟨sl d 29 [(28,(Ql v604))],[]⟩) (have hm:=hs;R_G (Qf 1 (Q2 Qj p0 (Qf 2 (gs 25 hm (fun hm=>re 3 zf) (fun hm=>re 3 zf)))))) (fun d=>rib hm (fun hm=>ge 1 (Qq zf)) (fun hm=>Qp (ge 1 (Qq zf))))))))))))))
def ZW (x:(List Int)):Option Int :=
 match x with
 | p0 =>
 Yr p0>>=fun v1 =>
 if v1≠0 then
  some 0
 else
 Yl p0>>=fun (v2,v3) =>
 some v2
theorem XT {p0 r0} (hm:ZW p0=some r0):FQ 42 [(Lb p0)] (Qc r0):=by
 unfold ZW at hm
 exact fp (fn:=f42) rfl (ge 1 (Qh (gr 1 (bi hm fun v1 hx hm=>cp (Jk hx) (re 1 (rix hm (fun hm=>ge 1 (Qq zf)) (fun hm=>Qp (gr 1 (bi2 hm fun v2 v3 hx hm=>cp (Jz hx) (re 5 (ge 2 (Qq zf))))))))))))
def Zu (x:((List Int) × Int × Int × Int)):Option (Unit ⊕ Unit) :=
 match x with
 | (p0,p1,v205,v206) =>
 if v206 < (p0.length:Int) then
  idx p0 v206>>=fun v605 =>
  if (W (v205 * (if v605 < 1 then 1 else v605))) > (W (100 * p1)) then
   some (Sum.inl ())
  else
  Zu (p0,p1,(W (v205 * (if v605 < 1 then 1 else v605))),(W (v206+1)))
 else
 some (Sum.inr ())
 partial_fixpoint
theorem XJ:∀ x r,Zu x=some r→match x with|(p0,p1,v205,v206)=>LQ f21 21 [1,1,1,0,1,0,0] 0 ⟨kp 38 [(0,(La p0)),(1,(Qc p1)),(5,(Qc v205)),(6,(Qc v206))],[]⟩ (P2 .ret (fun _ d=>⟨sl d 38 [(4,(Ql false))],[]⟩) (.exit 0) (fun _ d=>⟨sl d 38 [],[]⟩) r):=by
 refine Zu.partial_correctness _ (fun Zu XJ x r hm=>?_)
 obtain ⟨p0,p1,v205,v206⟩:=x
 exact lp (Qh (gr 2 (Q2 Qj p0 (re 1 (ri hm (fun hm=>Qp (Qh (Qn (gr 3 (QK 1 Qj hm fun v605 hm=>Qf 1 (Q4 rfl (fun _=>QbM (k:=.i64) (m:=v605) (n:=1) rfl kr kr) (re 2 (ge 4 (ri hm (fun hm=>ge 1 (Qq zf)) (fun hm=>Qp (R_G (re 3 (XJ _ _ hm _ kr))))))))))))) (fun hm=>QL zf))))))
def Xh (x:((List Int) × Int)):Option Bool :=
 match x with
 | (p0,p1) =>
 ((if (p0.length:Int) > 6 then
  some true
 else
 Yr p0>>=fun v3 =>
 some (v3 != 0)
 )>>=fun (v2:Bool) =>
 if v2=true then
  some true
 else
 ZW p0>>=fun v4 =>
 some (decide (v4 > p1))
 )>>=fun (v1:Bool) =>
 if v1=true then
  some false
 else
 (
 Zu (p0,p1,1,0)>>=fun out =>
 match out with
 | .inl _ =>
  some false
 | .inr (_) =>
  some true
 )
theorem QaE {p0 p1 r0} (hm:Xh (p0,p1)=some r0):FQ 21 [(Lb p0),(Qj p1)] (Ql r0):=by
 unfold Xh at hm
 exact fp (fn:=f21) rfl (ge 1 (Qh (Qh (bi hm fun v1 hs hm=>ZD (fun d=>⟨sl d 38 [(0,(La p0)),(1,(Qc p1)),(20,(Ql v1))],[]⟩) (have hm:=hs;QaB (Qf 1 (Q2 Qj p0 (Qf 2 (bi hm fun v2 hs hm=>Z8 (j:=8) (fun d=>⟨sl d 38 [(0,(La p0)),(1,(Qc p1)),(14,(Ql v2))],[]⟩) (fun d=>Qf 1 (gsb 15 hm (fun hm=>re 5 ⟨kr,zf⟩) (fun hm=>Qf 1 (bi hm fun v4 hx hm=>cp (XT hx) (re 3 ⟨kr,zf⟩))))) (fun hJ=>gs 10 hs (fun hm=>Qf 4 zf) (fun hm=>Qf 1 (bi hm fun v3 hx hm=>cp (Jk hx) (Qf 2 zf))))))))) (fun d=>rib hm (fun hm=>ge 1 (Qq zf)) (fun hm=>Qp (ge 1 (Qh (ge 1 (Qn (ru2 hm (XJ _) (fun _ d hm=>zf) fun _ d hm=>ge 1 (Qq zf))))))))))))
def Zq (x:((List Qb) × (List Qs) × Int)):Option ((List Qs)) :=
 match x with
 | (p0,v201,v202) =>
 if v202 < (p0.length:Int) then
  idx p0 v202>>=fun v602 =>
  app 24 v201 ([(⟨v602.fill,v602.buffer,v602.offset⟩:Qs)]:List Qs)>>=fun v603 =>
  Zq (p0,v603,(W (v202+1)))
 else
 some v201
 partial_fixpoint
theorem XF:∀ x r,Zq x=some r→match x with|(p0,v201,v202)=>LQ f31 31 [1,1,0,1,0,0] 1 ⟨kp 19 [(0,(Zm p0)),(3,(.vec 0 ((List.map Qs.toD) v201))),(4,(Qc v202))],[(.tok 115 v201.length)]⟩ (P1 (.exit 0) (fun v601 d=>⟨sl d 19 [(3,(.vec 0 ((List.map Qs.toD) v601)))],[(.tok 115 v601.length)]⟩) r):=by
 refine Zq.partial_correctness _ (fun Zq XF x r hm=>?_)
 obtain ⟨p0,v201,v202⟩:=x
 exact lp (Qh (gr 2 (Q2 Qb.toD p0 (re 1 (ri hm (fun hm=>Qp (Qh (Qn (R_G (Qf 3 (QK 3 Qb.toD hm fun v602 hm=>Qf 2 (bi hm fun v603 hx hm=>Ji 115 3 24 0 Qs.toD v201 ([(⟨v602.fill,v602.buffer,v602.offset⟩:Qs)]:List Qs) v603 (xs:=(List.map Qs.toD) v201) (es:=(List.map Qs.toD) ([(⟨v602.fill,v602.buffer,v602.offset⟩:Qs)]:List Qs)) (L:=(List.map Qs.toD)) (fun _=>rfl) rfl rfl Qs.fit hx (re 1 (R_G (re 3 (XF _ _ hm _ kr))))))))))) (fun hm=>QL zf))))))
def Xf (x:(List Qb)):Option (List Qs) :=
 match x with
 | p0 =>
 Zq (p0,([]:List Qs),0)>>=fun v601 =>
 some v601
def JP:(List Qb)→(List Qs)→Prop:=fun x r=>match x,r with
 | p0,r0=>∀ H,PC prog env 31 ([(.lst ((List.map Qb.toD) p0))].map .dat) H (XV r0) H
theorem QaC:∀ x r,Xf x=some r→JP x r:=by
 intro p0 r0 hm
 unfold Xf at hm
 unfold JP
 intro H
 refine PC_sx (ds:=[(.lst ((List.map Qb.toD) p0))]) (fn:=f31) rfl ?_
 exact ge 1 (ge 1 (Qh (ge 1 (Qn (ru1 hm (XF _) fun v601 d hm=>ge 2 (Qq zf))))))
def Xv (x:((List Qs) × Int)):Option Qk :=
 match x with
 | (p0,p1) =>
 idx p0 0>>=fun v1 =>
 idx p0 0>>=fun v2 =>
 idx p0 0>>=fun v3 =>
 ((if (p0.length:Int) > 1 then
  some (!v1.fill)
 else
 some false
 )>>=fun (v5:Bool) =>
 (if v5=true then
  idx p0 1>>=fun v7 =>
  some (!v7.fill)
 else
 some false
 )>>=fun (v6:Bool) =>
 if v6=true then
  idx p0 1>>=fun v8 =>
  some (v8.buffer == v2.buffer)
 else
 some false
 )>>=fun (v4:Bool) =>
 if v4=true then
  idx p0 1>>=fun v9 =>
  some (⟨p1,1,v1.fill,v2.buffer,v3.offset,(W (v9.offset - v3.offset))⟩:Qk)
 else
 some (⟨p1,1,v1.fill,v2.buffer,v3.offset,0⟩:Qk)
theorem QaS {p0 p1 r0} (hm:Xv (p0,p1)=some r0):FQ 94 [(.lst ((List.map Qs.toD) p0)),(Qj p1)] (.dat (Qk.toD r0)):=by
 unfold Xv at hm
 exact fp (fn:=f94) rfl (ge 1 (Qh (YS (Qf 2 (QK 3 Qs.toD hm fun v1 hm=>Qf 3 (QK 3 Qs.toD hm fun v2 hm=>Qf 3 (QK 3 Qs.toD hm fun v3 hm=>re 5 ⟨kr,Qh (Qh (bi hm fun v4 hs hm=>ZD (fun d=>⟨sl d 53 [(0,(XV p0)),(4,(.ptr 0 0)),(5,(.ptr 1 0)),(43,(Ql v4))],[JG,(Qas p1 v1.fill v2.buffer v3.offset)]⟩) (have hm:=hs;Qbz (Qf 1 (Q2 Qs.toD p0 (Qf 2 (bi hm fun v5 hs hm=>Z8 (j:=8) (fun d=>⟨sl d 53 [(0,(XV p0)),(4,(.ptr 0 0)),(5,(.ptr 1 0)),(27,(Ql v5))],[JG,(Qas p1 v1.fill v2.buffer v3.offset)]⟩) (fun d=>Qf 1 (bi hm fun v6 hs hm=>Z8 (j:=15) (fun d=>⟨sl d 53 [(0,(XV p0)),(4,(.ptr 0 0)),(5,(.ptr 1 0)),(34,(Ql v6))],[JG,(Qas p1 v1.fill v2.buffer v3.offset)]⟩) (fun d=>Qf 1 (gsb 35 hm (fun hm=>Qf 1 (QK 3 Qs.toD hm fun v8 hm=>re 6 ⟨kr,zf⟩)) (fun hm=>re 8 ⟨kr,zf⟩))) (fun hJ=>gsb 28 hs (fun hm=>Qf 1 (QK 3 Qs.toD hm fun v7 hm=>Qf 4 zf)) (fun hm=>Qf 6 zf)))) (fun hJ=>gs 23 hs (fun hm=>Qf 4 zf) (fun hm=>Qf 4 zf))))))) (fun d=>rib hm (fun hm=>YS (Qf 1 (QK 3 Qs.toD hm fun v9 hm=>re 7 ⟨kr,ge 2 (Qq zf)⟩))) (fun hm=>Qp (ge 2 (Qq zf))))))⟩)))))))
def YL (x:(Qk × Int)):Option Qs :=
 match x with
 | (p0,p1) =>
 if p0.fill=true then
  some (⟨true,0,0⟩:Qs)
 else
 some (⟨false,p0.buffer,(W (p0.offset+(W (p1 * p0.step))))⟩:Qs)
theorem Qao {p0 p1 r0} (hm:YL (p0,p1)=some r0):FQ 95 [(Qk.toD p0),(Qj p1)] (.dat (Qs.toD r0)):=by
 unfold YL at hm
 exact fp (fn:=f95) rfl (ge 2 (Qh (ge 2 (rib hm (fun hm=>ge 2 (Qq zf)) (fun hm=>Qp (ge 11 (Qq zf)))))))
def Ye (x:((List Qs) × Qk × (List Qk) × Int × Int)):Option ((Int × (List Qk) × Int)) :=
 match x with
 | (p0,v603,v201,v804,v805) =>
 (if (W (v805+1))=(p0.length:Int) then
  some true
 else
 idx p0 (W (v805+1))>>=fun v1208 =>
 YL ((⟨v603.at0_,v804,v603.fill,v603.buffer,v603.offset,v603.step⟩:Qk),v804)>>=fun v1209 =>
 some (!((v1208.fill == v1209.fill) && ((v1208.buffer == v1209.buffer) && ((v1208.offset == v1209.offset) && true))))
 )>>=fun (v1207:Bool) =>
 if v1207=true then
  app 48 v201 ([(⟨v603.at0_,v804,v603.fill,v603.buffer,v603.offset,v603.step⟩:Qk)]:List Qk)>>=fun v1210 =>
  some (v804,v1210,(W (v805+1)))
 else
 Ye (p0,v603,v201,(W (v804+1)),(W (v805+1)))
 partial_fixpoint
theorem Jw:∀ x r,Ye x=some r→match x with|(p0,v603,v201,v804,v805)=>LQ f30 30 [1,0,1,1,0,1,0,0,1,0,1,0,0] 2 ⟨kp 41 [(0,(XV p0)),(3,(JH v201)),(4,(Qc v805)),(5,(.ptr 1 0))],[(.tok 134 v201.length),(YU v603.at0_ v804 v603.fill v603.buffer v603.offset v603.step)]⟩ (P1 (.exit 1) (fun (v1204,v1205,v1206) d=>⟨sl d 41 [(0,(XV p0)),(3,(JH v1205)),(4,(Qc v1206))],[(.tok 134 v1205.length),(YU v603.at0_ v1204 v603.fill v603.buffer v603.offset v603.step)]⟩) r):=by
 refine Ye.partial_correctness _ (fun Ye Jw x r hm=>?_)
 obtain ⟨p0,v603,v201,v804,v805⟩:=x
 exact lp (Qn (Qh (ge 3 (Qh (bi hm fun v1207 hs hm=>ZD (fun d=>⟨sl d 41 [(0,(XV p0)),(3,(JH v201)),(4,(Qc (W (v805+1)))),(5,(.ptr 1 0)),(31,(Ql v1207))],[(.tok 134 v201.length),(YU v603.at0_ v804 v603.fill v603.buffer v603.offset v603.step)]⟩) (have hm:=hs;YS (Qf 2 (Q2 Qs.toD p0 (Qf 2 (gsq 21 hm (fun hm=>re 10 ⟨kr,zf⟩) (fun hm=>Qf 2 (QK 3 Qs.toD hm fun v1208 hm=>Qf 4 (bi hm fun v1209 hx hm=>cp (Qao hx) (Q4 rfl (fun _=>Qbk (t:=115) (xs:=#[.bool v1208.fill,.int .i64 v1208.buffer,.int .i64 v1208.offset]) (ys:=#[.bool v1209.fill,.int .i64 v1209.buffer,.int .i64 v1209.offset]) (b:=((v1208.fill == v1209.fill) && ((v1208.buffer == v1209.buffer) && ((v1208.offset == v1209.offset) && true)))) rfl kr kr (SEq_of (fs:=prog.fieldsOf 115) kr kr kr kr)) (re 1 ⟨kr,zf⟩)))))))))) (fun d=>rib hm (fun hm=>gr 3 (bi hm fun v1210 hx hm=>Ji 134 6 48 0 Qk.toD v201 ([(⟨v603.at0_,v804,v603.fill,v603.buffer,v603.offset,v603.step⟩:Qk)]:List Qk) v1210 (xs:=(List.map Qk.toD) v201) (es:=(List.map Qk.toD) ([(⟨v603.at0_,v804,v603.fill,v603.buffer,v603.offset,v603.step⟩:Qk)]:List Qk)) (L:=(List.map Qk.toD)) (fun _=>rfl) rfl rfl Qk.fit hx (re 1 (QL zf)))) (fun hm=>Qp (R_G (re 5 (Jw _ _ hm _ kr))))))))))
def Yd (x:((List Qs) × (List Qk) × Int)):Option ((List Qk)) :=
 match x with
 | (p0,v201,v202) =>
 if v202 < (p0.length:Int) then
  sub p0 v202 (p0.length:Int)>>=fun v602 =>
  Xv (v602,v202)>>=fun v603 =>
  Ye (p0,v603,v201,v603.len,v202)>>=fun (v1204,v1205,v1206) =>
  Yd (p0,v1205,v1206)
 else
 some v201
 partial_fixpoint
theorem Jv:∀ x r,Yd x=some r→match x with|(p0,v201,v202)=>LQ f30 30 [1,0,1,1,0,1,0,0] 1 ⟨kp 41 [(0,(XV p0)),(3,(JH v201)),(4,(Qc v202))],[(.tok 134 v201.length)]⟩ (P1 (.exit 0) (fun v601 d=>⟨sl d 41 [(3,(JH v601))],[(.tok 134 v601.length)]⟩) r):=by
 refine Yd.partial_correctness _ (fun Yd Jv x r hm=>?_)
 obtain ⟨p0,v201,v202⟩:=x
 exact lp (Qh (gr 2 (Q2 Qs.toD p0 (re 1 (ri hm (fun hm=>Qp (Qn (gr 2 (bi hm fun v602 hx hm=>QbF 3 Qs.toD p0 v602 v202 (p0.length:Int) (es:=(List.map Qs.toD) p0) (L:=(List.map Qs.toD)) (a:=natI v202) (b:=some ((List.map Qs.toD) p0).length) (fun _=>rfl) rfl (fun _=>by first|rfl|exact num_of_fit (Qs.fit _)) hx rfl (Or.inr ⟨rfl,rfl⟩) (Qf 1 (bi hm fun v603 hx hm=>cp (QaS hx) (re 2 (Qn (ru1 hm (Jw _) fun ⟨v1204,v1205,v1206⟩ d hm=>Jv _ _ hm _ kr))))))))) (fun hm=>QL zf))))))
def Js (x:(List Qs)):Option (List Qk) :=
 match x with
 | p0 =>
 Yd (p0,([]:List Qk),0)>>=fun v601 =>
 some v601
theorem Qbg {p0 r0} (hm:Js p0=some r0):FQ 30 [(.lst ((List.map Qs.toD) p0))] (Z0 r0):=by
 unfold Js at hm
 exact fp (fn:=f30) rfl (ge 1 (QbB (ge 1 (Qh (QbA (Qh (ge 1 (Qn (ru1 hm (Jv _) fun v601 d hm=>ge 2 (Qq zf))))))))))
def Xx (x:Int):Option Bool :=
 match x with
 | p0 =>
 some (decide (p0 < 0))
theorem Qay {p0 r0} (hm:Xx p0=some r0):FQ 207 [(Qj p0)] (Ql r0):=by
 unfold Xx at hm
 exact fp (fn:=f207) rfl (ge 1 (ge 3 (Qq zf)))
def Qu (x:((List Int) × Int)):Option (Int ⊕ Unit) :=
 match x with
 | (p0,v201) =>
 if v201 < (p0.length:Int) then
  idx p0 v201>>=fun v602 =>
  Xx v602>>=fun v603 =>
  if v603=true then
   some (Sum.inl v201)
  else
  Qu (p0,(W (v201+1)))
 else
 some (Sum.inr ())
 partial_fixpoint
theorem Zd:∀ x r,Qu x=some r→match x with|(p0,v201)=>LQ f171 171 [1,0,1,0,0] 0 ⟨kp 19 [(0,(La p0)),(1,(.dat (.raw (.func (.func 207) #[] #[])))),(7,(Qc (p0.length:Int))),(8,(Qc v201))],[]⟩ (P2 .ret (fun v601 d=>⟨sl d 19 [(4,(Qc v601))],[]⟩) (.exit 0) (fun _ d=>⟨sl d 19 [],[]⟩) r):=by
 refine Qu.partial_correctness _ (fun Qu Zd x r hm=>?_)
 obtain ⟨p0,v201⟩:=x
 exact lp (ge 1 (Qh (ri hm (fun hm=>Qp (Qh (Qn (ge 2 (gr 3 (QK 1 Qj hm fun v602 hm=>Qf 1 (bi hm fun v603 hx hm=>cp (Qay hx) (Xr (rib hm (fun hm=>ge 2 (Qq zf)) (fun hm=>Qp (R_G (re 2 (Zd _ _ hm _ kr))))))))))))) (fun hm=>QL zf))))
def QV (x:(List Int)):Option Int :=
 match x with
 | p0 =>
 (
 Qu (p0,0)>>=fun out =>
 match out with
 | .inl v601 =>
  some v601
 | .inr (_) =>
  some (-1)
 )
theorem YQ {p0 r0} (hm:QV p0=some r0):FQ 171 [(Lb p0),(.raw (.func (.func 207) #[] #[]))] (Qc r0):=by
 unfold QV at hm
 exact fp (fn:=f171) rfl (ge 1 (Qh (gr 1 (Q2 Qj p0 (re 1 (Qn (ru2 hm (Zd _) (fun v601 d hm=>zf) fun _ d hm=>ge 1 (Qq zf))))))))
def QF (x:(List Int)):Option Bool :=
 match x with
 | p0 =>
 QV p0>>=fun v1 =>
 some (decide (v1≥0))
theorem YF {p0 r0} (hm:QF p0=some r0):FQ 125 [(Lb p0),(.raw (.func (.func 207) #[] #[]))] (Ql r0):=by
 unfold QF at hm
 exact fp (fn:=f125) rfl (ge 1 (gr 2 (bi hm fun v1 hx hm=>cp (YQ hx) (re 2 (Qq zf)))))
def Xy (x:Int):Option Bool :=
 match x with
 | p0 =>
 some (decide (p0 > 65536))
theorem Qaz {p0 r0} (hm:Xy p0=some r0):FQ 208 [(Qj p0)] (Ql r0):=by
 unfold Xy at hm
 exact fp (fn:=f208) rfl (ge 1 (ge 3 (Qq zf)))
def Qv (x:((List Int) × Int)):Option (Int ⊕ Unit) :=
 match x with
 | (p0,v201) =>
 if v201 < (p0.length:Int) then
  idx p0 v201>>=fun v602 =>
  Xy v602>>=fun v603 =>
  if v603=true then
   some (Sum.inl v201)
  else
  Qv (p0,(W (v201+1)))
 else
 some (Sum.inr ())
 partial_fixpoint
theorem Ze:∀ x r,Qv x=some r→match x with|(p0,v201)=>LQ f171 171 [1,0,1,0,0] 0 ⟨kp 19 [(0,(La p0)),(1,(.dat (.raw (.func (.func 208) #[] #[])))),(7,(Qc (p0.length:Int))),(8,(Qc v201))],[]⟩ (P2 .ret (fun v601 d=>⟨sl d 19 [(4,(Qc v601))],[]⟩) (.exit 0) (fun _ d=>⟨sl d 19 [],[]⟩) r):=by
 refine Qv.partial_correctness _ (fun Qv Ze x r hm=>?_)
 obtain ⟨p0,v201⟩:=x
 exact lp (ge 1 (Qh (ri hm (fun hm=>Qp (Qh (Qn (ge 2 (gr 3 (QK 1 Qj hm fun v602 hm=>Qf 1 (bi hm fun v603 hx hm=>cp (Qaz hx) (Xr (rib hm (fun hm=>ge 2 (Qq zf)) (fun hm=>Qp (R_G (re 2 (Ze _ _ hm _ kr))))))))))))) (fun hm=>QL zf))))
def QX (x:(List Int)):Option Int :=
 match x with
 | p0 =>
 (
 Qv (p0,0)>>=fun out =>
 match out with
 | .inl v601 =>
  some v601
 | .inr (_) =>
  some (-1)
 )
theorem YR {p0 r0} (hm:QX p0=some r0):FQ 171 [(Lb p0),(.raw (.func (.func 208) #[] #[]))] (Qc r0):=by
 unfold QX at hm
 exact fp (fn:=f171) rfl (ge 1 (Qh (gr 1 (Q2 Qj p0 (re 1 (Qn (ru2 hm (Ze _) (fun v601 d hm=>zf) fun _ d hm=>ge 1 (Qq zf))))))))
def QG (x:(List Int)):Option Bool :=
 match x with
 | p0 =>
 QX p0>>=fun v1 =>
 some (decide (v1≥0))
theorem YG {p0 r0} (hm:QG p0=some r0):FQ 125 [(Lb p0),(.raw (.func (.func 208) #[] #[]))] (Ql r0):=by
 unfold QG at hm
 exact fp (fn:=f125) rfl (ge 1 (gr 2 (bi hm fun v1 hx hm=>cp (YR hx) (re 2 (Qq zf)))))
def Y5 (x:(List Int)):Option Int :=
 match x with
 | p0 =>
 QF p0>>=fun v1 =>
 if v1=true then
  some 6
 else
 QG p0>>=fun v2 =>
 if v2=true then
  some 7
 else
 some 0
theorem J9 {p0 r0} (hm:Y5 p0=some r0):FQ 174 [(Lb p0)] (Qc r0):=by
 unfold Y5 at hm
 exact fp (fn:=f174) rfl (ge 1 (Qh (Qn (gr 1 (bi hm fun v1 hx hm=>cp (YF hx) (re 1 (rib hm (fun hm=>ge 1 (Qq zf)) (fun hm=>gr 1 (bi hm fun v2 hx hm=>cp (YG hx) (re 1 (rib hm (fun hm=>ge 1 (Qq zf)) (fun hm=>Qp (ge 1 (Qq zf))))))))))))))
def QI (x:((List Int) × Int × Int)):Option (Int ⊕ Unit) :=
 match x with
 | (p0,p1,v201) =>
 if v201 < (p0.length:Int) then
  idx p0 v201>>=fun v602 =>
  if p1=v602 then
   some (Sum.inl v201)
  else
  QI (p0,p1,(W (v201+1)))
 else
 some (Sum.inr ())
 partial_fixpoint
theorem Yk:∀ x r,QI x=some r→match x with|(p0,p1,v201)=>LQ f209 209 [1,0,1,0,0] 0 ⟨kp 19 [(0,(La p0)),(1,(Qc p1)),(7,(Qc (p0.length:Int))),(8,(Qc v201))],[]⟩ (P2 .ret (fun v601 d=>⟨sl d 19 [(4,(Qc v601))],[]⟩) (.exit 0) (fun _ d=>⟨sl d 19 [],[]⟩) r):=by
 refine QI.partial_correctness _ (fun QI Yk x r hm=>?_)
 obtain ⟨p0,p1,v201⟩:=x
 exact lp (ge 1 (Qh (ri hm (fun hm=>Qp (Qh (Qn (ge 2 (gr 3 (QK 1 Qj hm fun v602 hm=>re 2 (riq hm (fun hm=>ge 2 (Qq zf)) (fun hm=>Qp (R_G (re 2 (Yk _ _ hm _ kr))))))))))) (fun hm=>QL zf))))
def Yf (x:((List Int) × Int)):Option Int :=
 match x with
 | (p0,p1) =>
 (
 QI (p0,p1,0)>>=fun out =>
 match out with
 | .inl v601 =>
  some v601
 | .inr (_) =>
  some (-1)
 )
theorem Jx {p0 p1 r0} (hm:Yf (p0,p1)=some r0):FQ 209 [(Lb p0),(Qj p1)] (Qc r0):=by
 unfold Yf at hm
 exact fp (fn:=f209) rfl (ge 1 (Qh (gr 1 (Q2 Qj p0 (re 1 (Qn (ru2 hm (Yk _) (fun v601 d hm=>zf) fun _ d hm=>ge 1 (Qq zf))))))))
def Zx (x:((List Int) × Int)):Option Bool :=
 match x with
 | (p0,p1) =>
 Yf (p0,p1)>>=fun v1 =>
 some (decide (v1≥0))
theorem Jh {p0 p1 r0} (hm:Zx (p0,p1)=some r0):FQ 175 [(Lb p0),(Qj p1)] (Ql r0):=by
 unfold Zx at hm
 exact fp (fn:=f175) rfl (ge 1 (gr 2 (bi hm fun v1 hx hm=>cp (Jx hx) (re 2 (Qq zf)))))
def Ja (x:(Int × Int × Int)):Option (Int × Bool) :=
 match x with
 | (p0,p1,p2) =>
 ((if p0 < 0 then
  some true
 else
 some (decide (p1 < 0))
 )>>=fun (v2:Bool) =>
 (if v2=true then
  some true
 else
 some (decide (p0 > p2))
 )>>=fun (v3:Bool) =>
 (if v3=true then
  some true
 else
 some (decide (p1 > p2))
 )>>=fun (v4:Bool) =>
 if v4=true then
  some true
 else
 if p1 > 0 then
  quoM p2 p1>>=fun v5 =>
  some (decide (p0 > v5))
 else
 some false
 )>>=fun (v1:Bool) =>
 if v1=true then
  some (0,false)
 else
 some ((W (p0 * p1)),true)
theorem Qa7 {p0 p1 p2 r0 r1} (hm:Ja (p0,p1,p2)=some (r0,r1)):FQ 178 [(Qj p0),(Qj p1),(Qj p2)] (.tup [(Qc r0),(Ql r1)]):=by
 unfold Ja at hm
 exact fp (fn:=f178) rfl (ge 2 (Qh (Qh (bi hm fun v1 hs hm=>ZD (fun d=>⟨sl d 38 [(0,(Qc p0)),(1,(Qc p1)),(34,(Ql v1))],[]⟩) (have hm:=hs;QaB (Qf 3 (bi hm fun v2 hs hm=>Z8 (j:=6) (fun d=>⟨sl d 38 [(0,(Qc p0)),(1,(Qc p1)),(2,(Qc p2)),(13,(Ql v2))],[]⟩) (fun d=>Qf 1 (bi hm fun v3 hs hm=>Z8 (j:=11) (fun d=>⟨sl d 38 [(0,(Qc p0)),(1,(Qc p1)),(2,(Qc p2)),(18,(Ql v3))],[]⟩) (fun d=>Qf 1 (bi hm fun v4 hs hm=>Z8 (j:=16) (fun d=>⟨sl d 38 [(0,(Qc p0)),(1,(Qc p1)),(2,(Qc p2)),(23,(Ql v4))],[]⟩) (fun d=>Qf 1 (gsb 24 hm (fun hm=>re 10 ⟨kr,zf⟩) (fun hm=>Qf 3 (gs 27 hm (fun hm=>Qf 3 (bi hm fun v5 hx hm=>Q4 rfl (fun _=>QbE (a:=p2) (b:=p1) hx rfl kr kr) (re 3 ⟨kr,zf⟩))) (fun hm=>re 7 ⟨kr,zf⟩))))) (fun hJ=>gsb 19 hs (fun hm=>Qf 4 zf) (fun hm=>Qf 4 zf)))) (fun hJ=>gsb 14 hs (fun hm=>Qf 4 zf) (fun hm=>Qf 4 zf)))) (fun hJ=>gs 10 hs (fun hm=>Qf 3 zf) (fun hm=>Qf 3 zf))))) (fun d=>rib hm (fun hm=>ge 2 (Qq zf)) (fun hm=>Qp (ge 5 (Qq zf))))))))
def Y4 (x:(Int × Int)):Option (Int × Bool) :=
 match x with
 | (p0,p1) =>
 Ja (p0,p1,65536)>>=fun (v1,v2) =>
 some (v1,v2)
theorem Qag {p0 p1 r0 r1} (hm:Y4 (p0,p1)=some (r0,r1)):FQ 177 [(Qj p0),(Qj p1)] (.tup [(Qc r0),(Ql r1)]):=by
 unfold Y4 at hm
 exact fp (fn:=f177) rfl (ge 2 (gr 2 (bi2 hm fun v1 v2 hx hm=>cp (Qa7 hx) (re 4 (Qq zf)))))
def QA (x:((List Int) × Int × Int)):Option (Int ⊕ Int) :=
 match x with
 | (p0,v201,v202) =>
 if v202 < (p0.length:Int) then
  idx p0 v202>>=fun v603 =>
  Y4 (v201,v603)>>=fun (v604,v605) =>
  if v605=false then
   some (Sum.inl v604)
  else
  QA (p0,v604,(W (v202+1)))
 else
 some (Sum.inr v201)
 partial_fixpoint
theorem ZK:∀ x r,QA x=some r→match x with|(p0,v201,v202)=>LQ f210 210 [1,1,0,1,0,0] 0 ⟨kp 31 [(2,(.dat (.raw (.func (.func 177) #[] #[])))),(8,(Qc v201)),(13,(La p0)),(14,(Qc (p0.length:Int))),(15,(Qc v202))],[]⟩ (P2 .ret (fun v601 d=>⟨sl d 31 [(6,(Qc v601)),(7,(Ql false))],[]⟩) (.exit 0) (fun v602 d=>⟨sl d 31 [(8,(Qc v602))],[]⟩) r):=by
 refine QA.partial_correctness _ (fun QA ZK x r hm=>?_)
 obtain ⟨p0,v201,v202⟩:=x
 exact lp (ge 1 (Qh (ri hm (fun hm=>Qp (Qh (Qn (Qh (R_G (QK 1 Qj hm fun v603 hm=>re 2 (gr 3 (bi2 hm fun v604 v605 hx hm=>cp (Qag hx) (re 5 (ge 2 (rin hm (fun hm=>ge 3 (Qq zf)) (fun hm=>Qp (R_G (re 2 (ZK _ _ hm _ kr))))))))))))))) (fun hm=>QL zf))))
def Zw (x:((List Int) × Int)):Option (Int × Bool) :=
 match x with
 | (p0,p1) =>
 (
 QA (p0,p1,0)>>=fun out =>
 match out with
 | .inl v601 =>
  some (v601,false)
 | .inr (v602) =>
  some (v602,true)
 )
theorem XR {p0 p1 r0 r1} (hm:Zw (p0,p1)=some (r0,r1)):FQ 210 [(Lb p0),(Qj p1),(.raw (.func (.func 177) #[] #[]))] (.tup [(Qc r0),(Ql r1)]):=by
 unfold Zw at hm
 exact fp (fn:=f210) rfl (ge 2 (ge 3 (Qh (gr 1 (Q2 Qj p0 (re 1 (Qn (ru2 hm (ZK _) (fun v601 d hm=>zf) fun v602 d hm=>ge 3 (Qq zf)))))))))
def Zv (x:((List Int) × Int)):Option (Int × Int) :=
 match x with
 | (p0,p1) =>
 Y5 p0>>=fun v1 =>
 if v1≠0 then
  some (0,v1)
 else
 Zw (p0,p1)>>=fun (v2,v3) =>
 if v3=false then
  some (0,7)
 else
 some (v2,0)
theorem XQ {p0 p1 r0 r1} (hm:Zv (p0,p1)=some (r0,r1)):FQ 176 [(Lb p0),(Qj p1),(.raw (.func (.func 177) #[] #[]))] (.tup [(Qc r0),(Qc r1)]):=by
 unfold Zv at hm
 exact fp (fn:=f176) rfl (ge 2 (Qh (gr 1 (bi hm fun v1 hx hm=>cp (J9 hx) (re 1 (ge 2 (rix hm (fun hm=>ge 3 (Qq zf)) (fun hm=>Qp (gr 3 (bi2 hm fun v2 v3 hx hm=>cp (XR hx) (re 5 (Qh (ge 2 (rin hm (fun hm=>ge 2 (Qq zf)) (fun hm=>Qp (ge 3 (Qq zf)))))))))))))))))
def YB (x:(List Int)):Option (Int × Int) :=
 match x with
 | p0 =>
 Y5 p0>>=fun v1 =>
 (if v1=0 then
  Zx (p0,0)>>=fun v3 =>
  some v3
 else
 some false
 )>>=fun (v2:Bool) =>
 if v2=true then
  some (0,0)
 else
 Zv (p0,1)>>=fun (v4,v5) =>
 some (v4,v5)
theorem JN {p0 r0 r1} (hm:YB p0=some (r0,r1)):FQ 129 [(Lb p0)] (.tup [(Qc r0),(Qc r1)]):=by
 unfold YB at hm
 exact fp (fn:=f129) rfl (ge 2 (Qh (gr 1 (bi hm fun v1 hx hm=>cp (J9 hx) (re 1 (Qh (bi hm fun v2 hs hm=>ZD (fun d=>⟨sl d 17 [(0,(La p0)),(12,(Ql v2))],[]⟩) (have hm:=hs;R_G (Qf 3 (gsq 9 hm (fun hm=>Qf 1 (bi hm fun v3 hx hm=>cp (Jh hx) (re 1 zf))) (fun hm=>re 3 zf)))) (fun d=>rib hm (fun hm=>ge 2 (Qq zf)) (fun hm=>Qp (gr 1 (bi2 hm fun v4 v5 hx hm=>cp (XQ hx) (re 4 (Qq zf)))))))))))))
def YO (x:(List Int)):Option Int :=
 match x with
 | p0 =>
 YB p0>>=fun (v1,v2) =>
 (if v2≠6 then
  some (decide ((p0.length:Int) > 16))
 else
 some false
 )>>=fun (v3:Bool) =>
 if v3=true then
  some 7
 else
 some v2
theorem JV {p0 r0} (hm:YO p0=some r0):FQ 68 [(Lb p0)] (Qc r0):=by
 unfold YO at hm
 exact fp (fn:=f68) rfl (ge 1 (gr 1 (bi2 hm fun v1 v2 hx hm=>cp (JN hx) (re 5 (Qh (Qh (bi hm fun v3 hs hm=>ZD (fun d=>⟨sl d 18 [(4,(Qc v2)),(16,(Ql v3))],[]⟩) (have hm:=hs;R_G (Qf 3 (gsx 12 hm (fun hm=>Qf 1 (Q2 Qj p0 (re 2 zf))) (fun hm=>re 4 zf)))) (fun d=>rib hm (fun hm=>ge 1 (Qq zf)) (fun hm=>Qp (ge 2 (Qq zf)))))))))))
def Yg (x:(List Int)):Option Int :=
 match x with
 | p0 =>
 YO p0>>=fun v1 =>
 if v1≠0 then
  some 0
 else
 YB p0>>=fun (v2,v3) =>
 some v2
theorem XU {p0 r0} (hm:Yg p0=some r0):FQ 90 [(Lb p0)] (Qc r0):=by
 unfold Yg at hm
 exact fp (fn:=f90) rfl (ge 1 (Qh (gr 1 (bi hm fun v1 hx hm=>cp (JV hx) (re 1 (rix hm (fun hm=>ge 1 (Qq zf)) (fun hm=>Qp (gr 1 (bi2 hm fun v2 v3 hx hm=>cp (JN hx) (re 5 (ge 2 (Qq zf))))))))))))
def Q0 (x:List Int):Option (List Int):=app 8 [] x
def cgm_slices_Clone_int_int (l:List Int):Nat:=match l with|[]=>0|_=>1
theorem ZQ {x r} (hm:Q0 x=some r):PC prog env 144 ([.lst ((List.map Qj) x)].map .dat) [] (.ms 0 (cgm_slices_Clone_int_int r) 0 r.length r.length) [.mt 3 (cgm_slices_Clone_int_int r) (cellsOf Qj r)]:=by
 obtain ⟨hroom,hr⟩:=app_some hm
 have hr:r=x:=hr
 subst hr
 cases r with
 | nil=>exact PC_of (n:=20) (by kernel_rfl)
 | cons a l =>
  exact PC_sxB (fn:=f144) rfl (ge 1 (Qh (gr 1 (Q4 rfl (fun _=>Qbj (p:=.dat (Lb (a::l))) (b:=false) rfl kr kr kr) (Xr (QaM kr (Qp (gr 2 (Yq (v:=.ms 0 1 0 (a::l).length (a::l).length) (fun H=>H.set 0 (.mt 3 1 (cellsOf Qj (a::l)))) rfl kr (fun _ hk=>Qa0 Qj (l:=[]) (es:=a::l) (bytes:=8) (e:=3) (tt:=0) (g:=0) (m:=0) hm (fun _=>rfl) kr kr kr kr rfl rfl kr rfl kr (source_lst (fun _=>rfl)) hk) (re 1 (Qq zf)))))))))))
def Xs (x:(List Int)):Option ZE :=
 match x with
 | p0 =>
 makeM 8 (p0.length:Int) 0>>=fun v1 =>
 Q0 p0>>=fun v2 =>
 some (⟨v1,v2⟩:ZE)
theorem Qai {p0 r0} (hm:Xs p0=some r0):FQ 77 [(Lb p0)] (.dat (ZE.toD r0)):=by
 unfold Xs at hm
 exact fp (fn:=f77) rfl (ge 1 (Qh (YS (Qf 1 (Q2 Qj p0 (bi hm fun v1 hx hm=>Q4 (v:=.dat (.lst (List.map Qj v1))) rfl (by intro K hk; exact Qa8 Qj (z:=0) (n:=(p0.length:Int)) (bytes:=8) (j:=8000) (e':=3) (os:=[]) hx (e:=3) kr kr kr kr rfl rfl kr kr kr hk) (Qf 1 (bi hm fun v2 hx hm=>go 1 3 Qj (ZQ hx) (re 2 ⟨kr,Qq (by obtain rfl:=Qa3 hm; exact ⟨trivial,JO [(.agg [(La v1),(.ms 1 1 0 v2.length v2.length)])] kr (po_agg (pc_cons kr (pc_cons (pc_ms (e:=3) Qj v2 rfl (fun _=>rfl) kr) pc_nil)))⟩)⟩)))))))))
def Zj (x:((List Int) × (List Int) × Int)):Option (Unit ⊕ Unit) :=
 match x with
 | (p0,p1,v201) =>
 if v201 < (p0.length:Int) then
  idx p0 v201>>=fun v601 =>
  idx p1 v201>>=fun v602 =>
  if v601≥v602 then
   some (Sum.inl ())
  else
  Zj (p0,p1,(W (v201+1)))
 else
 some (Sum.inr ())
 partial_fixpoint
theorem Y9:∀ x r,Zj x=some r→match x with|(p0,p1,v201)=>LQ f124 124 [1,1,0,1,0,0] 0 ⟨kp 41 [(0,(La p0)),(1,(La p1)),(5,(Qc 1)),(9,(Qc (p0.length:Int))),(10,(Qc v201))],[]⟩ (P2 .ret (fun _ d=>⟨sl d 41 [(4,(Qc 0))],[]⟩) (.exit 0) (fun _ d=>⟨sl d 41 [(0,(La p0)),(1,(La p1)),(5,(Qc 1))],[]⟩) r):=by
 refine Zj.partial_correctness _ (fun Zj Y9 x r hm=>?_)
 obtain ⟨p0,p1,v201⟩:=x
 exact lp (ge 1 (Qh (ri hm (fun hm=>Qp (Qh (Qn (ge 2 (Qh (YS (Qf 2 (QK 1 Qj hm fun v601 hm=>Qf 3 (QK 1 Qj hm fun v602 hm=>re 2 ⟨kr,ri hm (fun hm=>ge 1 (Qq zf)) (fun hm=>Qp (R_G (re 2 (Y9 _ _ hm _ kr))))⟩))))))))) (fun hm=>QL zf))))
def Zk (x:((List Int) × (List Int) × Int × Int)):Option (Int) :=
 match x with
 | (p0,p1,v803,v804) =>
 if v804 < (p0.length:Int) then
  idx p1 v804>>=fun v1204 =>
  idx p0 v804>>=fun v1205 =>
  Zk (p0,p1,(W (v803 * (W (v1204 - v1205)))),(W (v804+1)))
 else
 some v803
 partial_fixpoint
theorem Xa:∀ x r,Zk x=some r→match x with|(p0,p1,v803,v804)=>LQ f124 124 [1,1,1,0,1,0,0] 0 ⟨kp 41 [(0,(La p0)),(1,(La p1)),(5,(Qc v803)),(24,(Qc (p0.length:Int))),(25,(Qc v804))],[]⟩ (P1 (.exit 2) (fun v1203 d=>⟨sl d 41 [(5,(Qc v1203))],[]⟩) r):=by
 refine Zk.partial_correctness _ (fun Zk Xa x r hm=>?_)
 obtain ⟨p0,p1,v803,v804⟩:=x
 exact lp (ge 1 (Qh (ri hm (fun hm=>Qp (Qh (Qn (ge 2 (YS (Qf 3 (QK 1 Qj hm fun v1204 hm=>Qf 3 (QK 1 Qj hm fun v1205 hm=>re 4 ⟨kr,R_G (re 2 (Xa _ _ hm _ kr))⟩)))))))) (fun hm=>QL zf))))
def Yh (x:((List Int) × (List Int))):Option Int :=
 match x with
 | (p0,p1) =>
 (
 Zj (p0,p1,0)>>=fun out =>
 match out with
 | .inl _ =>
  some 0
 | .inr (_) =>
  Zk (p0,p1,1,0)>>=fun v1203 =>
  some v1203
 )
theorem Qac {p0 p1 r0} (hm:Yh (p0,p1)=some r0):FQ 124 [(Lb p0),(Lb p1)] (Qc r0):=by
 unfold Yh at hm
 exact fp (fn:=f124) rfl (ge 1 (ge 1 (Qh (gr 1 (Q2 Qj p0 (re 1 (Qn (ru2 hm (Y9 _) (fun _ d hm=>zf) fun _ d hm=>Qh (gr 1 (Q2 Qj p0 (re 1 (Qn (ru1 hm (Xa _) fun v1203 d hm=>ge 2 (Qq zf))))))))))))))
def Ju (x:ZE):Option Int :=
 match x with
 | p0 =>
 Yh (p0.lo,p0.hi)>>=fun v1 =>
 some v1
theorem Qa4 {p0 r0} (hm:Ju p0=some r0):FQ 65 [(ZE.toD p0)] (Qc r0):=by
 unfold Ju at hm
 exact fp (fn:=f65) rfl (ge 2 (gr 4 (bi hm fun v1 hx hm=>cp (Qac hx) (re 1 (Qq zf)))))
def Y1 (x:Qd):Option Bool :=
 match x with
 | p0 =>
 Ju (⟨p0.box.lo,p0.box.hi⟩:ZE)>>=fun v1 =>
 some (decide (v1 > 0))
theorem Qad {p0 r0} (hm:Y1 p0=some r0):FQ 142 [(Qd.toD p0)] (Ql r0):=by
 unfold Y1 at hm
 exact fp (fn:=f142) rfl (ge 2 (gr 2 (bi hm fun v1 hx hm=>cp (Qa4 hx) (re 2 (Qq zf)))))
def Qt (x:((List Qd) × (List Qd) × Int)):Option ((List Qd)) :=
 match x with
 | (p0,v201,v202) =>
 if v202 < (p0.length:Int) then
  idx p0 v202>>=fun v602 =>
  Y1 v602>>=fun v603 =>
  if v603=true then
   app 120 v201 ([v602]:List Qd)>>=fun v604 =>
   Qt (p0,v604,(W (v202+1)))
  else
  Qt (p0,v201,(W (v202+1)))
 else
 some v201
 partial_fixpoint
theorem QP:∀ x r,Qt x=some r→match x with|(p0,v201,v202)=>LQ f141 141 [1,1,0,1,0,0] 1 ⟨kp 23 [(1,(.dat (.raw (.func (.func 142) #[] #[])))),(5,(J3 v201)),(8,(Jr p0)),(9,(Qc (p0.length:Int))),(10,(Qc v202))],[(.tok 86 v201.length)]⟩ (P1 (.exit 0) (fun v601 d=>⟨sl d 23 [(5,(J3 v601))],[(.tok 86 v601.length)]⟩) r):=by
 refine Qt.partial_correctness _ (fun Qt QP x r hm=>?_)
 obtain ⟨p0,v201,v202⟩:=x
 exact lp (ge 1 (Qh (ri hm (fun hm=>Qp (Qh (Qn (Qh (R_G (QK 9 Qd.toD hm fun v602 hm=>re 3 (gr 2 (bi hm fun v603 hx hm=>cp (Qad hx) (Xr (rib hm (fun hm=>R_G (Qf 3 (bi hm fun v604 hx hm=>Ji 86 9 120 0 Qd.toD v201 ([v602]:List Qd) v604 (xs:=(List.map Qd.toD) v201) (es:=(List.map Qd.toD) ([v602]:List Qd)) (L:=(List.map Qd.toD)) (fun _=>rfl) rfl rfl Qd.fit hx (re 1 (R_G (re 2 (QP _ _ hm _ kr))))))) (fun hm=>Qp (R_G (re 2 (QP _ _ hm _ kr)))))))))))))) (fun hm=>QL zf))))
def QU (x:(List Qd)):Option (List Qd) :=
 match x with
 | p0 =>
 Qt (p0,([]:List Qd),0)>>=fun v601 =>
 some v601
theorem YP {p0 r0} (hm:QU p0=some r0):FQ 141 [(.lst ((List.map Qd.toD) p0)),(.raw (.func (.func 142) #[] #[]))] (Jr r0):=by
 unfold QU at hm
 exact fp (fn:=f141) rfl (ge 1 (ge 1 (Qh (gr 1 (Q2 Qd.toD p0 (re 1 (Qn (ru1 hm (QP _) fun v601 d hm=>ge 2 (Qq zf)))))))))
def Qy (x:(List Qd)):Option Unit:=if x.length≤1 then some () else none
def Z4:(List Qd)→Unit→Prop:=fun x _=>∀ H,PC prog env 143 ([(.lst ((List.map Qd.toD) x)),(.raw (.func (.func 67) #[] #[]))].map .dat) H (.tup []) H
theorem Z5:∀ x r,Qy x=some r→Z4 x r:=by
 intro x r hm
 unfold Qy at hm
 match x,hm with
 | [],_=>exact fun H=>PC_of (n:=60) (by kernel_rfl)
 | [a],_=>exact fun H=>PC_of (n:=60) (by kernel_rfl)
 | _::_::_,hm=>simp at hm
def YW (x:(List Qd)):Option (List Qd) :=
 match x with
 | p0 =>
 QU p0>>=fun v1 =>
 Qy v1>>=fun _ =>
 some v1
theorem Qau {p0 r0} (hm:YW p0=some r0):FQ 76 [(.lst ((List.map Qd.toD) p0))] (Jr r0):=by
 unfold YW at hm
 exact fp (fn:=f76) rfl (ge 1 (gr 1 (bi hm fun v1 hx hm=>cp (YP hx) (re 1 (gr 1 (bi hm fun _ hx hm=>Jt (Z5 _ _ hx []) (Xr (ge 2 (Qq zf)))))))))
def YV (x:(List Int)):Option (List Qd) :=
 match x with
 | p0 =>
 Xs p0>>=fun v1 =>
 YW ([(⟨v1,(⟨1,0,0,([]:(List Int)),0,0,0⟩:QH)⟩:Qd)]:List Qd)>>=fun v2 =>
 some v2
theorem Qat {p0 r0} (hm:YV p0=some r0):FQ 22 [(Lb p0)] (Jr r0):=by
 unfold YV at hm
 exact fp (fn:=f22) rfl (ge 1 (gr 1 (bi hm fun v1 hx hm=>cp (Qai hx) (Qf 3 (bi hm fun v2 hx hm=>cp (Qau hx) (re 1 (Qq zf)))))))
def Zo (x:((List Int) × (List Int) × (List Int) × Int × Int)):Option ((List Int)) :=
 match x with
 | (p0,v2,v204,v205,v206) =>
 if v206 < (p0.length:Int) then
  Zf (v204.length=v2.length)>>=fun _ =>
  idx v204 (W ((W ((p0.length:Int) - 1)) - v206))>>=fun v605 =>
  setM v204 (W ((W ((p0.length:Int) - 1)) - v206)) v205>>=fun v607 =>
  idx p0 (W ((W ((p0.length:Int) - 1)) - v206))>>=fun v608 =>
  Zo (p0,v2,v607,(W (v205 * v608)),(W (v206+1)))
 else
 some v204
 partial_fixpoint
theorem Xq:∀ x r,Zo x=some r→match x with|(p0,v2,v204,v205,v206)=>LQ f150 150 [1,1,1,1,1,0,1,0,0] 1 ⟨kp 39 [(0,(La p0)),(3,(.arr 0 0 v2.length v2.length)),(4,(Qc v205)),(18,(Qc (p0.length:Int))),(19,(Qc v206))],[(.box (cellsOf Qj v204))]⟩ (P1 (.exit 0) (fun v604 d=>⟨sl d 39 [(3,(.arr 0 0 v2.length v2.length))],[(.box (cellsOf Qj v604))]⟩) r):=by
 refine Zo.partial_correctness _ (fun Zo Xq x r hm=>?_)
 obtain ⟨p0,v2,v204,v205,v206⟩:=x
 exact lp (ge 1 (Qh (ri hm (fun hm=>Qp (Qh (Qn (ge 2 (gr 1 (Q2 Qj p0 (re 4 (gr 3 (gi hm fun hl606 hm=>bi hm fun v605 hx hm=>Q4 rfl (fun _=>JX (e:=3) (l:=v204) (n:=(W ((W ((p0.length:Int) - 1)) - v206))) (i:=0) (cap:=v2.length) (m:=v2.length) hx hl606 kr kr rfl kr kr) (bi hm fun v607 hx hm=>Yq (fun H=>H.set 0 (.box (cellsOf Qj v607))) rfl kr (fun _=>Qap Qj (l:=v204) (n:=(W ((W ((p0.length:Int) - 1)) - v206))) (y:=v205) hx (fun _=>rfl) kr rfl kr kr kr kr) (Xr (R_G (Qf 3 (QK 1 Qj hm fun v608 hm=>re 3 (R_G (re 2 (Xq _ _ hm _ (prune_of2 [(.box (cellsOf Qj v607))] (fun _=>(pg_cons (purge_box Qj _ _ _) pg_nil)) rfl)))))))))))))))))) (fun hm=>QL zf))))
def Ym (x:(List Int)):Option (List Int) :=
 match x with
 | p0 =>
 YO p0>>=fun v1 =>
 if v1≠0 then
  some ([]:(List Int))
 else
 makeM 8 (p0.length:Int) 0>>=fun v2 =>
 Yg p0>>=fun v3 =>
 if v3=0 then
  some v2
 else
 Zo (p0,v2,v2,1,0)>>=fun v604 =>
 Zf (v604.length=v2.length)>>=fun _ =>
 some v604
theorem JA {p0 r0} (hm:Ym p0=some r0):FQ 150 [(Lb p0)] (La r0):=by
 unfold Ym at hm
 exact fp (fn:=f150) rfl (ge 1 (Qh (gr 1 (bi hm fun v1 hx hm=>cp (JV hx) (re 1 (rix hm (fun hm=>ge 1 (Qq zf)) (fun hm=>Qp (gr 1 (Q2 Qj p0 (bi hm fun v2 hx hm=>Yq (v:=.arr 0 0 v2.length v2.length) (fun H=>H++[.box (cellsOf Qj v2)]) rfl kr (by intro K hk; exact Qar 0 Qj (z:=0) (n:=(p0.length:Int)) (bytes:=8) hx (e:=3) kr kr kr kr rfl rfl kr kr hk) (re 1 (Qh (gr 1 (bi hm fun v3 hx hm=>cp (XU hx) (re 1 (riq hm (fun hm=>ge 2 (Qq (by obtain rfl:=Qa3 hm; exact ⟨trivial,JO [(.arr 0 0 v2.length v2.length)] kr (po_arr (pc_arr Qj v2 rfl (fun _=>rfl) kr))⟩))) (fun hm=>Qp (ge 1 (Qh (gr 1 (Q2 Qj p0 (re 1 (Qn (ru1 hm (Xq _) (fun v604 d hm=>ge 2 (Qq (gi hm fun hl609 hm=>(by obtain rfl:=Qa3 hm; exact ⟨trivial,JO [(.arr 0 0 v2.length v2.length)] kr (po_arr (pc_arr Qj v604 hl609 (fun _=>rfl) kr))⟩)))) (hst:=(prune_of2 [(.box (cellsOf Qj v2))] (fun _=>(pg_cons (purge_box Qj _ _ _) pg_nil)) rfl))))))))))))))))))))))))))
def ZC (x:((List Int) × Int × (List Int) × Int)):Option ((List Int)) :=
 match x with
 | (p0,p1,v201,v202) =>
 if v202 < (p0.length:Int) then
  idx p0 v202>>=fun v602 =>
  app 8 v201 ([(W (v602 * p1))]:List Int)>>=fun v603 =>
  ZC (p0,p1,v603,(W (v202+1)))
 else
 some v201
 partial_fixpoint
theorem X3:∀ x r,ZC x=some r→match x with|(p0,p1,v201,v202)=>LQ f156 156 [1,1,0,1,0,0] 1 ⟨kp 22 [(1,(Qc p1)),(5,(.vec 0 ((List.map Qj) v201))),(8,(La p0)),(9,(Qc (p0.length:Int))),(10,(Qc v202))],[(.tok 3 v201.length)]⟩ (P1 (.exit 0) (fun v601 d=>⟨sl d 22 [(5,(.vec 0 ((List.map Qj) v601)))],[(.tok 3 v601.length)]⟩) r):=by
 refine ZC.partial_correctness _ (fun ZC X3 x r hm=>?_)
 obtain ⟨p0,p1,v201,v202⟩:=x
 exact lp (ge 1 (Qh (ri hm (fun hm=>Qp (Qh (Qn (Qh (R_G (QK 1 Qj hm fun v602 hm=>re 2 (R_G (Qf 5 (bi hm fun v603 hx hm=>Ji 3 1 8 0 Qj v201 ([(W (v602 * p1))]:List Int) v603 (xs:=(List.map Qj) v201) (es:=(List.map Qj) ([(W (v602 * p1))]:List Int)) (L:=(List.map Qj)) (fun _=>rfl) rfl rfl (fun _=>rfl) hx (re 1 (R_G (re 2 (X3 _ _ hm _ kr))))))))))))) (fun hm=>QL zf))))
def Xw (x:((List Int) × Int)):Option (List Int) :=
 match x with
 | (p0,p1) =>
 ZC (p0,p1,([]:List Int),0)>>=fun v601 =>
 some v601
theorem QaT {p0 p1 r0} (hm:Xw (p0,p1)=some r0):FQ 156 [(Lb p0),(Qj p1)] (La r0):=by
 unfold Xw at hm
 exact fp (fn:=f156) rfl (ge 1 (ge 1 (Qh (gr 1 (Q2 Qj p0 (re 1 (Qn (ru1 hm (X3 _) fun v601 d hm=>ge 2 (Qq zf)))))))))
def Xk (x:(Qk × (List Int))):Option QH :=
 match x with
 | (p0,p1) =>
 Ym p1>>=fun v1 =>
 if p0.fill=true then
  some (⟨1,0,0,([]:(List Int)),0,0,0⟩:QH)
 else
 (if p0.step=0 then
  some true
 else
 Yg p1>>=fun v3 =>
 some (decide (v3≤p0.len))
 )>>=fun (v2:Bool) =>
 if v2=true then
  Xw (v1,p0.step)>>=fun v4 =>
  some (⟨2,p0.buffer,p0.offset,v4,0,0,0⟩:QH)
 else
 some (⟨3,p0.buffer,p0.offset,v1,0,p0.step,p0.len⟩:QH)
theorem QaK {p0 p1 r0} (hm:Xk (p0,p1)=some r0):FQ 91 [(Qk.toD p0),(Lb p1)] (.dat (QH.toD r0)):=by
 unfold Xk at hm
 exact fp (fn:=f91) rfl (ge 2 (gr 1 (bi hm fun v1 hx hm=>cp (JA hx) (re 1 (Qh (Qn (ge 3 (rib hm (fun hm=>ge 2 (Qq zf)) (fun hm=>Qh (bi hm fun v2 hs hm=>ZD (fun d=>⟨sl d 42 [(2,(.ptr 0 0)),(4,(.ptr 1 0)),(5,(La v1)),(12,(Ql v2))],[(YU p0.at0_ p0.len p0.fill p0.buffer p0.offset p0.step),(.box [(Qc 0),(Qc 0),(Qc 0),Ea,(Qc 0),(Qc 0),(Qc 0)])]⟩) (have hm:=hs;YS (Qf 4 (gsq 16 hm (fun hm=>re 7 ⟨kr,zf⟩) (fun hm=>Qf 1 (bi hm fun v3 hx hm=>cp (XU hx) (re 5 ⟨kr,zf⟩)))))) (fun d=>rib hm (fun hm=>Qh (YS (Qf 7 (bi hm fun v4 hx hm=>cp (QaT hx) (re 2 ⟨kr,Qq zf⟩))))) (fun hm=>Qp (ge 11 (Qq zf))))))))))))))
def YZ (x:(List Int)):Option Yi :=
 match x with
 | p0 =>
 Ym p0>>=fun v1 =>
 some (⟨v1,p0⟩:Yi)
theorem Qab {p0 r0} (hm:YZ p0=some r0):FQ 157 [(Lb p0)] (.dat (Yi.toD r0)):=by
 unfold YZ at hm
 exact fp (fn:=f157) rfl (ge 1 (gr 1 (bi hm fun v1 hx hm=>cp (JA hx) (re 3 (Qq zf)))))
def YI (x:Int):Option Bool :=
 match x with
 | p0 =>
 some (p0 != p0)
theorem Jy {p0 r0} (hm:YI p0=some r0):FQ 206 [(Qj p0)] (Ql r0):=by
 unfold YI at hm
 exact fp (fn:=f206) rfl (ge 1 (ge 4 (Qq zf)))
def Yn (x:(Int × Int)):Option Int :=
 match x with
 | (p0,p1) =>
 YI p0>>=fun v1 =>
 YI p1>>=fun v2 =>
 if v1=true then
  if v2=true then
   some 0
  else
  some (-1)
 else
 if v2=true then
  some 1
 else
 if p0 < p1 then
  some (-1)
 else
 if p0 > p1 then
  some 1
 else
 some 0
theorem J7 {p0 p1 r0} (hm:Yn (p0,p1)=some r0):FQ 173 [(Qj p0),(Qj p1)] (Qc r0):=by
 unfold Yn at hm
 exact fp (fn:=f173) rfl (ge 1 (gr 1 (bi hm fun v1 hx hm=>cp (Jy hx) (re 1 (gr 1 (bi hm fun v2 hx hm=>cp (Jy hx) (re 1 (Qh (ge 1 (rib hm (fun hm=>Qh (ge 1 (rib hm (fun hm=>ge 1 (Qq zf)) (fun hm=>Qp (ge 1 (Qq zf)))))) (fun hm=>Qp (Qh (ge 1 (rib hm (fun hm=>ge 1 (Qq zf)) (fun hm=>Qp (Qh (ge 3 (ri hm (fun hm=>ge 1 (Qq zf)) (fun hm=>Qp (Qh (ge 3 (ri hm (fun hm=>ge 1 (Qq zf)) (fun hm=>Qp (ge 1 (Qq zf)))))))))))))))))))))))))
def Yu (x:(Qk × Int)):Option Int :=
 match x with
 | (p0,p1) =>
 Yn (p0.at0_,p1)>>=fun v1 =>
 some v1
theorem JU {p0 p1 r0} (hm:Yu (p0,p1)=some r0):FQ 196 [(Qk.toD p0),(Qj p1)] (Qc r0):=by
 unfold Yu at hm
 exact fp (fn:=f196) rfl (ge 2 (gr 3 (bi hm fun v1 hx hm=>cp (J7 hx) (re 1 (Qq zf)))))
def Qm (x:((List Qk) × Int × Int × Int)):Option (Int) :=
 match x with
 | (p0,p1,v201,v202) =>
 if v201 < v202 then
  idx p0 (W ((Int.fdiv (IntKind.u64.wrap ((W (v201+v202)))) 2)))>>=fun v602 =>
  Yu (v602,p1)>>=fun v603 =>
  if v603 < 0 then
   Qm (p0,p1,(W ((W ((Int.fdiv (IntKind.u64.wrap ((W (v201+v202)))) 2)))+1)),v202)
  else
  Qm (p0,p1,v201,(W ((Int.fdiv (IntKind.u64.wrap ((W (v201+v202)))) 2))))
 else
 some v201
 partial_fixpoint
theorem QC:∀ x r,Qm x=some r→match x with|(p0,p1,v201,v202)=>LQ f195 195 [1,1,1,0,0,0] 0 ⟨kp 49 [(0,(Z0 p0)),(1,(Qc p1)),(2,(.dat (.raw (.func (.func 196) #[] #[])))),(8,(Qc (p0.length:Int))),(9,(Qc v201)),(10,(Qc v202))],[]⟩ (P1 (.exit 0) (fun v601 d=>⟨sl d 49 [(0,(Z0 p0)),(1,(Qc p1)),(2,(.dat (.raw (.func (.func 196) #[] #[])))),(8,(Qc (p0.length:Int))),(9,(Qc v601))],[]⟩) r):=by
 refine Qm.partial_correctness _ (fun Qm QC x r hm=>?_)
 obtain ⟨p0,p1,v201,v202⟩:=x
 exact lp (Qh (ge 3 (ri hm (fun hm=>Qp (Qn (ge 7 (gr 3 (QK 6 Qk.toD hm fun v602 hm=>Qf 2 (bi hm fun v603 hx hm=>cp (JU hx) (re 1 (ri hm (fun hm=>R_G (re 3 (QC _ _ hm _ kr))) (fun hm=>R_G (re 2 (QC _ _ hm _ kr))))))))))) (fun hm=>QL zf))))
def Qx (x:((List Qk) × Int)):Option (Int × Bool) :=
 match x with
 | (p0,p1) =>
 Qm (p0,p1,0,(p0.length:Int))>>=fun v601 =>
 if v601 < (p0.length:Int) then
  idx p0 v601>>=fun v604 =>
  Yu (v604,p1)>>=fun v605 =>
  some (v601,(v605 == 0))
 else
 some (v601,false)
theorem ZV {p0 p1 r0 r1} (hm:Qx (p0,p1)=some (r0,r1)):FQ 195 [(.lst ((List.map Qk.toD) p0)),(Qj p1),(.raw (.func (.func 196) #[] #[]))] (.tup [(Qc r0),(Ql r1)]):=by
 unfold Qx at hm
 exact fp (fn:=f195) rfl (ge 2 (gr 1 (Q2 Qk.toD p0 (re 1 (ge 3 (Qh (Qn (ru1 hm (QC _) fun v601 d hm=>gr 5 (gs 39 hm (fun hm=>Qf 3 (QK 6 Qk.toD hm fun v604 hm=>Qf 2 (bi hm fun v605 hx hm=>cp (JU hx) (re 4 (Qq zf))))) (fun hm=>re 11 (Qq zf)))))))))))
def YY (x:((List Qk) × Int)):Option (Qk × Int × Bool) :=
 match x with
 | (p0,p1) =>
 Qx (p0,p1)>>=fun (v1,v2) =>
 (if v2=false then
  some (W (v1 - 1))
 else
 some v1
 )>>=fun (v3:Int) =>
 (if v3 < 0 then
  some true
 else
 idx p0 v3>>=fun v5 =>
 idx p0 v3>>=fun v6 =>
 some (decide (p1≥(W (v5.at0_+v6.len))))
 )>>=fun (v4:Bool) =>
 if v4=true then
  some ((⟨0,0,false,0,0,0⟩:Qk),0,false)
 else
 idx p0 v3>>=fun v7 =>
 idx p0 v3>>=fun v8 =>
 some (v7,(W (p1 - v8.at0_)),true)
theorem Qak {p0 p1 r0 r1 r2} (hm:YY (p0,p1)=some (r0,r1,r2)):FQ 153 [(.lst ((List.map Qk.toD) p0)),(Qj p1)] (.tup [(.dat (Qk.toD r0)),(Qc r1),(Ql r2)]):=by
 unfold YY at hm
 exact fp (fn:=f153) rfl (ge 3 (gr 2 (bi2 hm fun v1 v2 hx hm=>cp (ZV hx) (re 5 (Qh (ge 2 (bi hm fun v3 hs hm=>ZD (fun d=>⟨sl d 48 [(0,(Z0 p0)),(1,(Qc p1)),(4,(.ptr 0 0)),(7,(Qc v3))],[JG]⟩) (have hm:=hs;rin hm (fun hm=>R_G (re 3 zf)) (fun hm=>Qp zf)) (fun d=>Qh (Qh (bi hm fun v4 hs hm=>ZD (fun d=>⟨sl d 48 [(0,(Z0 p0)),(1,(Qc p1)),(4,(.ptr 0 0)),(7,(Qc v3)),(35,(Ql v4))],[JG]⟩) (have hm:=hs;YS (Qf 3 (gs 21 hm (fun hm=>re 14 ⟨kr,zf⟩) (fun hm=>Qf 3 (QK 6 Qk.toD hm fun v5 hm=>Qf 4 (QK 6 Qk.toD hm fun v6 hm=>re 5 ⟨kr,zf⟩)))))) (fun d=>rib hm (fun hm=>ge 4 (Qq zf)) (fun hm=>Qp (Qh (YS (Qf 2 (QK 6 Qk.toD hm fun v7 hm=>Qf 4 (QK 6 Qk.toD hm fun v8 hm=>re 6 ⟨kr,Qq zf⟩)))))))))))))))))
def YC (x:(Qk × Int × (List Int))):Option QH :=
 match x with
 | (p0,p1,p2) =>
 if p0.fill=true then
  some (⟨1,0,0,([]:(List Int)),0,0,0⟩:QH)
 else
 makeM 8 (p2.length:Int) 0>>=fun v1 =>
 if (W ((p2.length:Int) - 1))≥0 then
  idx v1 (W ((p2.length:Int) - 1))>>=fun v2 =>
  setM v1 (W ((p2.length:Int) - 1)) p0.step>>=fun v3 =>
  idx p2 (W ((p2.length:Int) - 1))>>=fun v4 =>
  Zf (v3.length=v1.length)>>=fun _ =>
  some (⟨2,p0.buffer,(W ((W (p0.offset+(W (p1 * p0.step)))) - (W (p0.step * v4)))),v3,0,0,0⟩:QH)
 else
 some (⟨2,p0.buffer,(W (p0.offset+(W (p1 * p0.step)))),v1,0,0,0⟩:QH)
theorem Qal {p0 p1 p2 r0} (hm:YC (p0,p1,p2)=some r0):FFQ 159 [(Qk.toD p0),(Qj p1),(Lb p2)] (.dat (QH.toD r0)):=by
 unfold YC at hm
 exact fpF (fn:=f159) rfl (ge 2 (Qh (ge 2 (rib hm (fun hm=>ge 2 (Qq zf)) (fun hm=>Qp (Qh (YS (Qf 10 (Q2 Qj p2 (bi hm fun v1 hx hm=>Yq (v:=.arr 2 0 v1.length v1.length) (fun H=>H++[.box (cellsOf Qj v1)]) rfl kr (by intro K hk; exact Qar 2 Qj (z:=0) (n:=(p2.length:Int)) (bytes:=8) hx (e:=3) kr kr kr kr rfl rfl kr kr hk) (re 3 ⟨kr,Qh (gr 1 (Q2 Qj p2 (re 2 (ge 2 (ri hm (fun hm=>gr 5 (bi hm fun v2 hx hm=>Q4 rfl (fun _=>JX (e:=3) (l:=v1) (n:=(W ((p2.length:Int) - 1))) (i:=2) (cap:=v1.length) (m:=v1.length) hx rfl kr kr rfl kr kr) (bi hm fun v3 hx hm=>Yq (fun H=>H.set 2 (.box (cellsOf Qj v3))) rfl kr (fun _=>Qap Qj (l:=v1) (n:=(W ((p2.length:Int) - 1))) (y:=p0.step) hx (fun _=>rfl) kr rfl kr kr kr kr) (Xr (YS (Qf 6 (QK 1 Qj hm fun v4 hm=>re 5 ⟨kr,ge 2 (Qq (gi hm fun hl5 hm=>(by obtain rfl:=Qa3 hm; exact ⟨trivial,fin_freshX [(.agg [(Qc 2),(Qc p0.buffer),(Qc (W ((W (p0.offset+(W (p1 * p0.step)))) - (W (p0.step * v4))))),(.arr 2 0 v1.length v1.length),(Qc 0),(Qc 0),(Qc 0)])] kr (po_agg (pc_cons kr (pc_cons kr (pc_cons kr (pc_cons (pc_arr Qj v3 hl5 (fun _=>rfl) kr) (pc_cons kr (pc_cons kr (pc_cons kr pc_nil)))))))) (fo_agg (fc_cons kr (fc_cons kr (fc_cons kr (fc_cons (fc_arr Qj v3 hl5 (fun _=>rfl) kr) (fc_cons kr (fc_cons kr (fc_cons kr fc_nil))))))))⟩)))⟩))))))) (fun hm=>Qp (ge 2 (Qq (by obtain rfl:=Qa3 hm; exact ⟨trivial,fin_freshX [(.agg [(Qc 2),(Qc p0.buffer),(Qc (W (p0.offset+(W (p1 * p0.step))))),(.arr 2 0 v1.length v1.length),(Qc 0),(Qc 0),(Qc 0)])] kr (po_agg (pc_cons kr (pc_cons kr (pc_cons kr (pc_cons (pc_arr Qj v1 rfl (fun _=>rfl) kr) (pc_cons kr (pc_cons kr (pc_cons kr pc_nil)))))))) (fo_agg (fc_cons kr (fc_cons kr (fc_cons kr (fc_cons (fc_arr Qj v1 rfl (fun _=>rfl) kr) (fc_cons kr (fc_cons kr (fc_cons kr fc_nil))))))))⟩)))))))))⟩)))))))))))
def QD (x:((List Int) × (List Int) × Nat × (List Int) × (List Int) × Int × Int)):Option ((List Int)) :=
 match x with
 | (q0,v1,q3,q1,v202,v203,v204) =>
 if v204 < (q0.length:Int) then
  idx q0 v204>>=fun v603 =>
  quoM v203 v603>>=fun v604 =>
  Zf (v202.length=v1.length)>>=fun _ =>
  idx v202 v204>>=fun v605 =>
  setM v202 v204 v604>>=fun v607 =>
  remM v203 v603>>=fun v608 =>
  QD (q0,v1,q3,q1,v607,v608,(W (v204+1)))
 else
 some v202
 partial_fixpoint
theorem Z3:∀ x r,QD x=some r→match x with|(q0,v1,q3,q1,v202,v203,v204)=>LQ f158 158 [1,1,0,1,0,0] 3 ⟨kp 31 [(1,(Qc v203)),(5,(.arr 2 0 v1.length v1.length)),(13,(La q0)),(14,(Qc (q0.length:Int))),(15,(Qc v204))],(X8 q3 q0 q1 v202)⟩ (P1 (.exit 0) (fun v602 d=>⟨sl d 31 [(5,(.arr 2 0 v1.length v1.length))],(X8 q3 q0 q1 v602)⟩) r):=by
 refine QD.partial_correctness _ (fun QD Z3 x r hm=>?_)
 obtain ⟨q0,v1,q3,q1,v202,v203,v204⟩:=x
 exact lp (ge 1 (Qh (ri hm (fun hm=>Qp (Qh (Qn (gr 1 (QK 1 Qj hm fun v603 hm=>re 3 (gr 4 (bi hm fun v604 hx hm=>Q4 rfl (fun _=>QbE (a:=v203) (b:=v603) hx rfl kr kr) (gi hm fun hl606 hm=>bi hm fun v605 hx hm=>Q4 rfl (fun _=>JX (e:=3) (l:=v202) (n:=v204) (i:=2) (cap:=v1.length) (m:=v1.length) hx hl606 kr kr rfl kr kr) (bi hm fun v607 hx hm=>Yq (fun H=>H.set 2 (.box (cellsOf Qj v607))) rfl kr (fun _=>Qap Qj (l:=v202) (n:=v204) (y:=v604) hx (fun _=>rfl) kr rfl kr kr kr kr) (Xr (R_G (Qf 2 (bi hm fun v608 hx hm=>Q4 rfl (fun _=>QaL (a:=v203) (b:=v603) hx rfl kr kr) (re 1 (R_G (re 2 (Z3 _ _ hm _ (prune_of2 (X8 q3 q0 q1 v607) (fun _=>(pg_cons kr (pg_cons kr (pg_cons (purge_box Qj _ _ _) pg_nil)))) rfl)))))))))))))))))) (fun hm=>QL zf))))
def ZM (x:((List Int) × (List Int) × Int × Nat)):Option (((List Int) × Nat)) :=
 match x with
 | (q0,q1,q2,q3) =>
 makeM 8 (q1.length:Int) 0>>=fun v1 =>
 QD (q0,v1,q3,q1,v1,q2,0)>>=fun v602 =>
 some (v602,v1.length)
theorem Jb {q0 q1 q2 q3 v5001 v5002} (hm:ZM (q0,q1,q2,q3)=some (v5001,v5002)):PC prog env 158 [(.dat (.agg [(Lb q0),(Lb q1)])),(Qc q2)] [(.tok 86 q3)] (.arr 2 0 v5002 v5002) (X8 q3 q0 q1 v5001):=by
 unfold ZM at hm
 exact PC_sxB (fn:=f158) rfl (ge 2 (gr 2 (Q2 Qj q1 (bi hm fun v1 hx hm=>Yq (v:=.arr 2 0 v1.length v1.length) (fun H=>H++[.box (cellsOf Qj v1)]) rfl kr (by intro K hk; exact Qar 2 Qj (z:=0) (n:=(q1.length:Int)) (bytes:=8) hx (e:=3) kr kr kr kr rfl rfl kr kr hk) (re 1 (Qh (gr 2 (Q2 Qj q0 (re 1 (Qn (ru1 hm (Z3 _) (fun v602 d hm=>ge 2 (Qq zf)) (hst:=(prune_of2 (X8 q3 q0 q1 v1) (fun _=>(pg_cons kr (pg_cons kr (pg_cons (purge_box Qj _ _ _) pg_nil)))) rfl)))))))))))))
def ZR (x:((List Int) × Int × Nat)):Option (Unit ⊕ ((List Int) × (List Int) × (List Int) × Nat)) :=
 match x with
 | (q0,q1,q2) =>
 (if q1 < 0 then
  some true
 else
 Yg q0>>=fun v2 =>
 some (decide (q1≥v2))
 )>>=fun (v1:Bool) =>
 if v1=true then
  some (Sum.inl ())
 else
 YZ q0>>=fun v3 =>
 ZM (v3.strides,v3.dims,q1,q2)>>=fun (v4,v5) =>
 some (Sum.inr (v4,v3.strides,v3.dims,v5))
theorem X5 {q0 q1 q2 r} (hm:ZR (q0,q1,q2)=some r):PC prog env 92 [(La q0),(Qc q1)] [(.tok 86 q2)] (match r with|.inl _=>(.tup [Ea,(Ql false)])|.inr ((v5001,v5002,v5003,v5004))=>(.tup [(.arr 2 0 v5004 v5004),(Ql true)])) (match r with|.inl _=>[(.tok 86 q2)]|.inr ((v5001,v5002,v5003,v5004))=>(X8 q2 v5002 v5003 v5001)):=by
 unfold ZR at hm
 exact PC_sxB (fn:=f92) rfl (ge 2 (Qh (Qh (bi hm fun v1 hs hm=>ZD (fun d=>⟨sl d 18 [(0,(La q0)),(1,(Qc q1)),(13,(Ql v1))],[(.tok 86 q2)]⟩) (have hm:=hs;R_G (Qf 3 (gs 8 hm (fun hm=>re 5 zf) (fun hm=>Qf 2 (bi hm fun v2 hx hm=>cp (XU hx) (re 2 zf)))))) (fun d=>rib hm (fun hm=>ge 2 (Qq zf)) (fun hm=>Qp (gr 1 (bi hm fun v3 hx hm=>cp (Qab hx) (Qf 1 (bi2 hm fun v4 v5 hx hm=>J0 (Jb hx) (re 2 (Qq zf))))))))))))
def Yc (x:((List Int) × (List Qk) × Int × Int × Int × (List Qd) × Int × Qk × Nat × (List Int) × (List Int) × Int)):Option ((List Int)) :=
 match x with
 | (v607,q0,q1,v201,v202,v203,v604,v603,q4,v606,v808,v809) =>
 if v809 < (v607.length:Int) then
  Zf (v808.length=v607.length)>>=fun _ =>
  idx v808 v809>>=fun v1209 =>
  idx v808 v809>>=fun v1211 =>
  Zf (v808.length=v607.length)>>=fun _ =>
  idx v808 v809>>=fun v1212 =>
  setM v808 v809 (W (v1211+1))>>=fun v1214 =>
  Yc (v607,q0,q1,v201,v202,v203,v604,v603,q4,v606,v1214,(W (v809+1)))
 else
 some v808
 partial_fixpoint
theorem Xc:∀ x r,Yc x=some r→match x with|(v607,q0,q1,v201,v202,v203,v604,v603,q4,v606,v808,v809)=>LQ f93 93 [1,1,0,0,0,1,0,1,1,1,0,1,0,0] 6 ⟨kp 96 [(0,(Z0 q0)),(1,(Qc q1)),(2,(Qc v201)),(3,(Qc v202)),(4,Ea),(11,(JF v203)),(12,(.ptr 2 0)),(13,(Qc v604)),(15,(Qc (if (W (v603.len - v604)) < v202 then (W (v603.len - v604)) else v202))),(16,(.ptr 5 0)),(44,(Qc (v607.length:Int))),(45,(Qc v809))],(J5 q4 v203.length v603.at0_ v603.len v603.fill v603.buffer v603.offset v603.step v606 v808 v606.length v607.length)⟩ (P1 (.exit 2) (fun v1208 d=>⟨sl d 96 [(0,(Z0 q0)),(1,(Qc q1)),(2,(Qc v201)),(3,(Qc v202)),(4,Ea),(11,(JF v203)),(12,(.ptr 2 0)),(13,(Qc v604)),(15,(Qc (if (W (v603.len - v604)) < v202 then (W (v603.len - v604)) else v202))),(16,(.ptr 5 0))],(J5 q4 v203.length v603.at0_ v603.len v603.fill v603.buffer v603.offset v603.step v606 v1208 v606.length v607.length)⟩) r):=by
 refine Yc.partial_correctness _ (fun Yc Xc x r hm=>?_)
 obtain ⟨v607,q0,q1,v201,v202,v203,v604,v603,q4,v606,v808,v809⟩:=x
 exact lp (ge 1 (Qh (ri hm (fun hm=>Qp (Qh (Qn (ge 2 (R_G (Qf 3 (gi hm fun hl1210 hm=>bi hm fun v1209 hx hm=>Q4 rfl (fun _=>Yy (e:=3) (n:=v809) (j:=(v809).toNat) (tt:=4) (g:=1) (lo:=0) (len:=v607.length) (cap:=v607.length) (k:=.i64) kr kr rfl kr kr (idx_nat hx) (Nat.lt_of_lt_of_eq (idx_lt hx) hl1210)) (bi hm fun v1211 hx hm=>Q4 rfl (fun _=>Jo (tt:=4) (g:=1) (j:=(0+(v809).toNat)) (e:=3) (cs:=cellsOf Qj v808) (v:=.dat (Qj v1211)) kr kr rfl kr (Xz kr) (cells_idx Qj hx)) (Qf 1 (gi hm fun hl1213 hm=>bi hm fun v1212 hx hm=>Q4 rfl (fun _=>Yy (e:=3) (n:=v809) (j:=(v809).toNat) (tt:=4) (g:=1) (lo:=0) (len:=v607.length) (cap:=v607.length) (k:=.i64) kr kr rfl kr kr (idx_nat hx) (Nat.lt_of_lt_of_eq (idx_lt hx) hl1213)) (bi hm fun v1214 hx hm=>Yq (fun H=>H.set 4 (ZF v1214)) rfl kr (fun _=>Qaa Qj (l:=v808) (n:=v809) (y:=(W (v1211+1))) hx (fun _=>rfl) kr rfl kr kr kr kr) (Xr (R_G (re 2 (Xc _ _ hm _ (prune_of2 (J5 q4 v203.length v603.at0_ v603.len v603.fill v603.buffer v603.offset v603.step v606 v1214 v606.length v607.length) (fun _=>(pg_cons kr (pg_cons kr (pg_cons kr (pg_cons (purge_mt Qj _ _ _ _ _) (pg_cons (purge_mt Qj _ _ _ _ _) (pg_cons kr pg_nil))))))) rfl)))))))))))))))) (fun hm=>QL zf))))
def Yb (x:(Int × (List Qk) × Nat × Int × Int × (List Qd))):Option ((List Qd)) :=
 match x with
 | (q1,q0,q4,v201,v202,v203) =>
 if v202 > 0 then
  remM v201 q1>>=fun v602 =>
  YY (q0,v602)>>=fun (v603,v604,v605) =>
  Q0 ([]:List Int)>>=fun v606 =>
  Q0 ([]:List Int)>>=fun v607 =>
  Yc (v607,q0,q1,v201,v202,v203,v604,v603,q4,v606,v607,0)>>=fun v1208 =>
  YC (v603,v604,([]:(List Int)))>>=fun v1215 =>
  Zf (v1208.length=v607.length)>>=fun _ =>
  app 120 v203 ([(⟨(⟨v606,v1208⟩:ZE),v1215⟩:Qd)]:List Qd)>>=fun v1217 =>
  Yb (q1,q0,q4,(W (v201+(if (W (v603.len - v604)) < v202 then (W (v603.len - v604)) else v202))),(W (v202 - (if (W (v603.len - v604)) < v202 then (W (v603.len - v604)) else v202))),v1217)
 else
 some v203
 partial_fixpoint
theorem Xb:∀ x r,Yb x=some r→match x with|(q1,q0,q4,v201,v202,v203)=>LQ f93 93 [1,1,0,0,0] 2 ⟨kp 96 [(0,(Z0 q0)),(1,(Qc q1)),(2,(Qc v201)),(3,(Qc v202)),(4,Ea),(11,(JF v203))],[(.tok 86 q4),(.tok 86 v203.length)]⟩ (P1 (.exit 0) (fun v601 d=>⟨sl d 96 [(11,(JF v601))],[(.tok 86 q4),(.tok 86 v601.length)]⟩) r):=by
 refine Yb.partial_correctness _ (fun Yb Xb x r hm=>?_)
 obtain ⟨q1,q0,q4,v201,v202,v203⟩:=x
 exact lp (Qh (ge 2 (ri hm (fun hm=>Qp (Qn (gr 3 (bi hm fun v602 hx hm=>Q4 rfl (fun _=>QaL (a:=v201) (b:=q1) hx rfl kr kr) (bi3 hm fun v603 v604 v605 hx hm=>cp (Qak hx) (re 8 (gr 5 (Q4 rfl (fun _=>QbD (k:=.i64) (m:=v202) (n:=(W (v603.len - v604))) rfl kr kr) (re 1 (gr 1 (bi hm fun v606 hx hm=>go 3 3 Qj (ZQ hx) (Qf 1 (bi hm fun v607 hx hm=>go 4 3 Qj (ZQ hx) (re 3 (Qh (gr 2 (Qf 1 (re 1 (Qn (ru1 hm (Xc _) (fun v1208 d hm=>Qh (YS (Qf 4 (bi hm fun v1215 hx hm=>cp (fpo (Qal hx)) (re 3 ⟨kr,ge 8 (Qh (gr 1 (Qf 1 (re 2 (ge 2 (QaM kr (Qp (R_G (Qf 1 (gi hm fun hl1216 hm=>Yq (v:=(QaY v606 v1208 v1215.kind v1215.buffer v1215.base v1215.strides v1215.start v1215.step v1215.mod)) (fun H=>((H.set 3 (.mt 3 (1+1) [])).set 4 (.mt 3 (1+1) []))) rfl kr (fun _=>JY (n:=9) (i:=6) (off:=0) (bs:=[(.ms 3 1 0 v606.length v606.length),(.ms 4 1 0 v607.length v607.length),(Qc v1215.kind),(Qc v1215.buffer),(Qc v1215.base),(La v1215.strides),(Qc v1215.start),(Qc v1215.step),(Qc v1215.mod)]) (cs:=[(.ms 3 1 0 v606.length v606.length),(.ms 4 1 0 v607.length v607.length),(Qc v1215.kind),(Qc v1215.buffer),(Qc v1215.base),(La v1215.strides),(Qc v1215.start),(Qc v1215.step),(Qc v1215.mod)]) rfl rfl kr kr kr kr kr rfl (cl_ms Qj (fun _=>rfl) kr rfl (cl_ms Qj (fun _=>rfl) kr hl1216 (cl_dat (cl_dat (cl_dat (cl_dat (cl_dat (cl_dat (cl_dat cl_nil)))))))))) (Qf 1 (bi hm fun v1217 hx hm=>Ji 86 9 120 1 Qd.toD v203 ([(⟨(⟨v606,v1208⟩:ZE),v1215⟩:Qd)]:List Qd) v1217 (xs:=(List.map Qd.toD) v203) (es:=(List.map Qd.toD) ([(⟨(⟨v606,v1208⟩:ZE),v1215⟩:Qd)]:List Qd)) (L:=(List.map Qd.toD)) (fun _=>rfl) rfl rfl Qd.fit hx (re 1 (Xb _ _ hm _ kr))))))))))))))⟩))))) (hst:=(prune_of2 (J5 q4 v203.length v603.at0_ v603.len v603.fill v603.buffer v603.offset v603.step v606 v607 v606.length v607.length) (fun _=>(pg_cons kr (pg_cons kr (pg_cons kr (pg_cons (purge_mt Qj _ _ _ _ _) (pg_cons (purge_mt Qj _ _ _ _ _) (pg_cons kr pg_nil))))))) rfl)))))))))))))))))))))) (fun hm=>QL zf))))
def XE (x:((List Qk) × Int × Int × Int × Nat)):Option ((List Qd)) :=
 match x with
 | (q0,q1,q2,q3,q4) =>
 Yb (q1,q0,q4,q2,q3,([]:List Qd))>>=fun v601 =>
 some v601
theorem Qae {q0 q1 q2 q3 q4 v5001} (hm:XE (q0,q1,q2,q3,q4)=some v5001):PC prog env 93 [(Z0 q0),(Qc q1),(Qc q2),(Qc q3),Ea] [(.tok 86 q4)] (JF v5001) [(.tok 86 q4),(.tok 86 v5001.length)]:=by
 unfold XE at hm
 exact PC_sxB (fn:=f93) rfl (ge 1 (ge 1 (Qh (Qn (ru1 hm (Xb _) fun v601 d hm=>ge 2 (Qq zf))))))
def Q3 (x:((List Int) × (List Qk) × Int × Int × Int × Nat × (List Qd) × Int × Qk × Nat × (List Int) × (List Int) × (List Int) × (List Int) × (List Int) × Int)):Option ((List Int)) :=
 match x with
 | (v610,q0,q1,v202,v203,q4,v204,v605,v604,q8,q5,q6,v201,v608,v811,v812) =>
 if v812 < (v610.length:Int) then
  Zf (v811.length=v610.length)>>=fun _ =>
  idx v811 v812>>=fun v1212 =>
  idx v811 v812>>=fun v1214 =>
  Zf (v811.length=v610.length)>>=fun _ =>
  idx v811 v812>>=fun v1215 =>
  setM v811 v812 (W (v1214+1))>>=fun v1217 =>
  Q3 (v610,q0,q1,v202,v203,q4,v204,v605,v604,q8,q5,q6,v201,v608,v1217,(W (v812+1)))
 else
 some v811
 partial_fixpoint
theorem Xe:∀ x r,Q3 x=some r→match x with|(v610,q0,q1,v202,v203,q4,v204,v605,v604,q8,q5,q6,v201,v608,v811,v812)=>LQ f93 93 [1,1,0,0,0,1,0,1,1,1,0,1,0,0] 8 ⟨kp 96 [(0,(Z0 q0)),(1,(Qc q1)),(2,(Qc v202)),(3,(Qc v203)),(4,(.arr 2 0 q4 q4)),(11,(Jq v204)),(12,(.ptr 4 0)),(13,(Qc v605)),(15,(Qc (if (W (v604.len - v605)) < v203 then (W (v604.len - v605)) else v203))),(16,(.ptr 7 0)),(44,(Qc (v610.length:Int))),(45,(Qc v812))],[(.tok 86 q8),(Zg q5 q6),(.box (cellsOf Qj v201)),(.tok 86 v204.length),(YU v604.at0_ v604.len v604.fill v604.buffer v604.offset v604.step),(ZF v608),(ZF v811),(JJ v608.length v610.length)]⟩ (P1 (.exit 2) (fun v1211 d=>⟨sl d 96 [(0,(Z0 q0)),(1,(Qc q1)),(2,(Qc v202)),(3,(Qc v203)),(4,(.arr 2 0 q4 q4)),(11,(Jq v204)),(12,(.ptr 4 0)),(13,(Qc v605)),(15,(Qc (if (W (v604.len - v605)) < v203 then (W (v604.len - v605)) else v203))),(16,(.ptr 7 0))],[(.tok 86 q8),(Zg q5 q6),(.box (cellsOf Qj v201)),(.tok 86 v204.length),(YU v604.at0_ v604.len v604.fill v604.buffer v604.offset v604.step),(ZF v608),(ZF v1211),(JJ v608.length v610.length)]⟩) r):=by
 refine Q3.partial_correctness _ (fun Q3 Xe x r hm=>?_)
 obtain ⟨v610,q0,q1,v202,v203,q4,v204,v605,v604,q8,q5,q6,v201,v608,v811,v812⟩:=x
 exact lp (ge 1 (Qh (ri hm (fun hm=>Qp (Qh (Qn (ge 2 (R_G (Qf 3 (gi hm fun hl1213 hm=>bi hm fun v1212 hx hm=>Q4 rfl (fun _=>Yy (e:=3) (n:=v812) (j:=(v812).toNat) (tt:=6) (g:=1) (lo:=0) (len:=v610.length) (cap:=v610.length) (k:=.i64) kr kr rfl kr kr (idx_nat hx) (Nat.lt_of_lt_of_eq (idx_lt hx) hl1213)) (bi hm fun v1214 hx hm=>Q4 rfl (fun _=>Jo (tt:=6) (g:=1) (j:=(0+(v812).toNat)) (e:=3) (cs:=cellsOf Qj v811) (v:=.dat (Qj v1214)) kr kr rfl kr (Xz kr) (cells_idx Qj hx)) (Qf 1 (gi hm fun hl1216 hm=>bi hm fun v1215 hx hm=>Q4 rfl (fun _=>Yy (e:=3) (n:=v812) (j:=(v812).toNat) (tt:=6) (g:=1) (lo:=0) (len:=v610.length) (cap:=v610.length) (k:=.i64) kr kr rfl kr kr (idx_nat hx) (Nat.lt_of_lt_of_eq (idx_lt hx) hl1216)) (bi hm fun v1217 hx hm=>Yq (fun H=>H.set 6 (ZF v1217)) rfl kr (fun _=>Qaa Qj (l:=v811) (n:=v812) (y:=(W (v1214+1))) hx (fun _=>rfl) kr rfl kr kr kr kr) (Xr (R_G (re 2 (Xe _ _ hm _ (prune_of2 [(.tok 86 q8),(Zg q5 q6),(.box (cellsOf Qj v201)),(.tok 86 v204.length),(YU v604.at0_ v604.len v604.fill v604.buffer v604.offset v604.step),(ZF v608),(ZF v1217),(JJ v608.length v610.length)] (fun _=>(pg_cons kr (pg_cons kr (pg_cons (purge_box Qj _ _ _) (pg_cons kr (pg_cons kr (pg_cons (purge_mt Qj _ _ _ _ _) (pg_cons (purge_mt Qj _ _ _ _ _) (pg_cons kr pg_nil))))))))) rfl)))))))))))))))) (fun hm=>QL zf))))
def QO (x:(Int × (List Qk) × Nat × Nat × (List Int) × (List Int) × (List Int) × Int × Int × (List Qd))):Option (((List Int) × (List Qd))) :=
 match x with
 | (q1,q0,q4,q8,q5,q6,v201,v202,v203,v204) =>
 if v203 > 0 then
  remM v202 q1>>=fun v603 =>
  YY (q0,v603)>>=fun (v604,v605,v606) =>
  Zf (v201.length=q4)>>=fun _ =>
  Q0 v201>>=fun v608 =>
  Zf (v201.length=q4)>>=fun _ =>
  Q0 v201>>=fun v610 =>
  Q3 (v610,q0,q1,v202,v203,q4,v204,v605,v604,q8,q5,q6,v201,v608,v610,0)>>=fun v1211 =>
  Zf (v201.length=q4)>>=fun _ =>
  YC (v604,v605,v201)>>=fun v1219 =>
  (if (W ((q4:Int) - 1))≥0 then
   idx v608 (W ((q4:Int) - 1))>>=fun v1222 =>
   idx v608 (W ((q4:Int) - 1))>>=fun v1223 =>
   Zf (v1211.length=v610.length)>>=fun _ =>
   idx v1211 (W ((q4:Int) - 1))>>=fun v1224 =>
   setM v1211 (W ((q4:Int) - 1)) (W (v1223+(if (W (v604.len - v605)) < v203 then (W (v604.len - v605)) else v203)))>>=fun v1226 =>
   Zf (v201.length=q4)>>=fun _ =>
   idx v201 (W ((q4:Int) - 1))>>=fun v1227 =>
   idx v201 (W ((q4:Int) - 1))>>=fun v1229 =>
   Zf (v201.length=q4)>>=fun _ =>
   idx v201 (W ((q4:Int) - 1))>>=fun v1230 =>
   setM v201 (W ((q4:Int) - 1)) (W (v1229+(if (W (v604.len - v605)) < v203 then (W (v604.len - v605)) else v203)))>>=fun v1232 =>
   some (v1232,v1226)
  else
  some (v201,v1211)
  )>>=fun ((v1220,v1221):((List Int) × (List Int))) =>
  Zf (v1221.length=v610.length)>>=fun _ =>
  app 120 v204 ([(⟨(⟨v608,v1221⟩:ZE),v1219⟩:Qd)]:List Qd)>>=fun v1234 =>
  QO (q1,q0,q4,q8,q5,q6,v1220,(W (v202+(if (W (v604.len - v605)) < v203 then (W (v604.len - v605)) else v203))),(W (v203 - (if (W (v604.len - v605)) < v203 then (W (v604.len - v605)) else v203))),v1234)
 else
 some (v201,v204)
 partial_fixpoint
theorem Xd:∀ x r,QO x=some r→match x with|(q1,q0,q4,q8,q5,q6,v201,v202,v203,v204)=>LQ f93 93 [1,1,0,0,0] 4 ⟨kp 96 [(0,(Z0 q0)),(1,(Qc q1)),(2,(Qc v202)),(3,(Qc v203)),(4,(.arr 2 0 q4 q4)),(11,(Jq v204))],(J6 q8 q5 q6 v201 v204.length)⟩ (P1 (.exit 0) (fun (v601,v602) d=>⟨sl d 96 [(11,(Jq v602))],(J6 q8 q5 q6 v601 v602.length)⟩) r):=by
 refine QO.partial_correctness _ (fun QO Xd x r hm=>?_)
 obtain ⟨q1,q0,q4,q8,q5,q6,v201,v202,v203,v204⟩:=x
 exact lp (Qh (ge 2 (ri hm (fun hm=>Qp (Qn (gr 3 (bi hm fun v603 hx hm=>Q4 rfl (fun _=>QaL (a:=v202) (b:=q1) hx rfl kr kr) (bi3 hm fun v604 v605 v606 hx hm=>cp (Qak hx) (re 8 (gr 5 (Q4 rfl (fun _=>QbD (k:=.i64) (m:=v203) (n:=(W (v604.len - v605))) rfl kr kr) (re 1 (gr 1 (gi hm fun hl607 hm=>bi hm fun v608 hx hm=>gol 5 3 Qj (args:=[(.arr 2 0 q4 q4)]) (ZQ hx) (Xz kr) (ps_cons (p1_arr (pc_arr Qj v201 hl607 (fun _=>rfl) kr)) ps_nil) (plain_or (cellsOf_plain (fun _=>rfl) _)) (Qf 1 (gi hm fun hl609 hm=>bi hm fun v610 hx hm=>gol 6 3 Qj (args:=[(.arr 2 0 q4 q4)]) (ZQ hx) (Xz kr) (ps_cons (p1_arr (pc_arr Qj v201 hl609 (fun _=>rfl) kr)) ps_nil) (plain_or (cellsOf_plain (fun _=>rfl) _)) (re 3 (Qh (gr 2 (Qf 1 (re 1 (Qn (ru1 hm (Xe _) (fun v1211 d hm=>Qh (YS (Qf 4 (gi hm fun hl1218 hm=>bi hm fun v1219 hx hm=>Qbe (args:=[(.dat (.agg [(Qj v604.at0_),(Qj v604.len),(J2 v604.fill),(Qj v604.buffer),(Qj v604.offset),(Qj v604.step)])),(Qc v605),(.arr 2 0 q4 q4)]) (Qal hx) (ps_cons kr (ps_cons kr (ps_cons (p1_arr (pc_arr Qj v201 hl1218 (fun _=>rfl) kr)) ps_nil))) (re 3 ⟨kr,ge 8 (Qh (gr 1 (Qf 1 (re 2 (ge 2 (bi2 hm fun v1220 v1221 hs hm=>ZD (fun d=>⟨sl d 96 [(0,(Z0 q0)),(1,(Qc q1)),(2,(Qc (W (v202+(if (W (v604.len - v605)) < v203 then (W (v604.len - v605)) else v203))))),(3,(Qc (W (v203 - (if (W (v604.len - v605)) < v203 then (W (v604.len - v605)) else v203))))),(4,(.arr 2 0 q4 q4)),(11,(Jq v204)),(18,(.ptr 8 0))],[(.tok 86 q8),(Zg q5 q6),(.box (cellsOf Qj v1220)),(.tok 86 v204.length),(YU v604.at0_ v604.len v604.fill v604.buffer v604.offset v604.step),(ZF v608),(ZF v1221),(JJ v608.length v610.length),(.box [(.ms 5 1 0 v608.length v608.length),(.ms 6 1 0 v610.length v610.length),(Qc v1219.kind),(Qc v1219.buffer),(Qc v1219.base),(La v1219.strides),(Qc v1219.start),(Qc v1219.step),(Qc v1219.mod)])]⟩) (have hm:=hs;ri hm (fun hm=>Qh (YS (Qf 6 (bi hm fun v1222 hx hm=>Q4 rfl (fun _=>Yy (e:=3) (n:=(W ((q4:Int) - 1))) (j:=((W ((q4:Int) - 1))).toNat) (tt:=5) (g:=1) (lo:=0) (len:=v608.length) (cap:=v608.length) (k:=.i64) kr kr rfl kr kr (idx_nat hx) (Nat.lt_of_lt_of_eq (idx_lt hx) rfl)) (bi hm fun v1223 hx hm=>Q4 rfl (fun _=>Jo (tt:=5) (g:=1) (j:=(0+((W ((q4:Int) - 1))).toNat)) (e:=3) (cs:=cellsOf Qj v608) (v:=.dat (Qj v1223)) kr kr rfl kr (Xz kr) (cells_idx Qj hx)) (Qf 2 (gi hm fun hl1225 hm=>bi hm fun v1224 hx hm=>Q4 rfl (fun _=>Yy (e:=3) (n:=(W ((q4:Int) - 1))) (j:=((W ((q4:Int) - 1))).toNat) (tt:=6) (g:=1) (lo:=0) (len:=v610.length) (cap:=v610.length) (k:=.i64) kr kr rfl kr kr (idx_nat hx) (Nat.lt_of_lt_of_eq (idx_lt hx) hl1225)) (bi hm fun v1226 hx hm=>Yq (fun H=>H.set 6 (ZF v1226)) rfl kr (fun _=>Qaa Qj (l:=v1211) (n:=(W ((q4:Int) - 1))) (y:=(W (v1223+(if (W (v604.len - v605)) < v203 then (W (v604.len - v605)) else v203)))) hx (fun _=>rfl) kr rfl kr kr kr kr) (Xr ⟨kr,R_G (Qf 2 (gi hm fun hl1228 hm=>bi hm fun v1227 hx hm=>Q4 rfl (fun _=>JX (e:=3) (l:=v201) (n:=(W ((q4:Int) - 1))) (i:=2) (cap:=q4) (m:=q4) hx hl1228 kr kr rfl kr kr) (bi hm fun v1229 hx hm=>Q4 rfl (fun _=>Qbt Qj (l:=v201) (n:=(W ((q4:Int) - 1))) (i:=2) hx kr kr rfl kr kr) (Qf 2 (gi hm fun hl1231 hm=>bi hm fun v1230 hx hm=>Q4 rfl (fun _=>JX (e:=3) (l:=v201) (n:=(W ((q4:Int) - 1))) (i:=2) (cap:=q4) (m:=q4) hx hl1231 kr kr rfl kr kr) (bi hm fun v1232 hx hm=>Yq (fun H=>H.set 2 (.box (cellsOf Qj v1232))) rfl kr (fun _=>Qap Qj (l:=v201) (n:=(W ((q4:Int) - 1))) (y:=(W (v1229+(if (W (v604.len - v605)) < v203 then (W (v604.len - v605)) else v203)))) hx (fun _=>rfl) kr rfl kr kr kr kr) (Xr zf)))))))⟩))))))))) (fun hm=>Qp zf)) (fun d=>R_G (Qf 1 (gi hm fun hl1233 hm=>Yq (v:=(QaY v608 v1221 v1219.kind v1219.buffer v1219.base v1219.strides v1219.start v1219.step v1219.mod)) (fun H=>((H.set 5 (.mt 3 (1+1) [])).set 6 (.mt 3 (1+1) []))) rfl kr (fun _=>JY (n:=9) (i:=8) (off:=0) (bs:=[(.ms 5 1 0 v608.length v608.length),(.ms 6 1 0 v610.length v610.length),(Qc v1219.kind),(Qc v1219.buffer),(Qc v1219.base),(La v1219.strides),(Qc v1219.start),(Qc v1219.step),(Qc v1219.mod)]) (cs:=[(.ms 5 1 0 v608.length v608.length),(.ms 6 1 0 v610.length v610.length),(Qc v1219.kind),(Qc v1219.buffer),(Qc v1219.base),(La v1219.strides),(Qc v1219.start),(Qc v1219.step),(Qc v1219.mod)]) rfl rfl kr kr kr kr kr rfl (cl_ms Qj (fun _=>rfl) kr rfl (cl_ms Qj (fun _=>rfl) kr hl1233 (cl_dat (cl_dat (cl_dat (cl_dat (cl_dat (cl_dat (cl_dat cl_nil)))))))))) (Qf 1 (bi hm fun v1234 hx hm=>Ji 86 9 120 3 Qd.toD v204 ([(⟨(⟨v608,v1221⟩:ZE),v1219⟩:Qd)]:List Qd) v1234 (xs:=(List.map Qd.toD) v204) (es:=(List.map Qd.toD) ([(⟨(⟨v608,v1221⟩:ZE),v1219⟩:Qd)]:List Qd)) (L:=(List.map Qd.toD)) (fun _=>rfl) rfl rfl Qd.fit hx (re 1 (Xd _ _ hm _ (prune_of2 (J6 q8 q5 q6 v1220 v1234.length) (fun _=>(pg_cons kr (pg_cons kr (pg_cons (purge_box Qj _ _ _) (pg_cons kr pg_nil))))) rfl))))))))))))))⟩))))) (hst:=(prune_of2 [(.tok 86 q8),(Zg q5 q6),(.box (cellsOf Qj v201)),(.tok 86 v204.length),(YU v604.at0_ v604.len v604.fill v604.buffer v604.offset v604.step),(ZF v608),(ZF v610),(JJ v608.length v610.length)] (fun _=>(pg_cons kr (pg_cons kr (pg_cons (purge_box Qj _ _ _) (pg_cons kr (pg_cons kr (pg_cons (purge_mt Qj _ _ _ _ _) (pg_cons (purge_mt Qj _ _ _ _ _) (pg_cons kr pg_nil))))))))) rfl)))))))))))))))))))))) (fun hm=>QL zf))))
def ZJ (x:((List Qk) × Int × Int × Int × Nat × (List Int) × (List Int) × (List Int) × Nat)):Option (((List Int) × (List Qd))) :=
 match x with
 | (q0,q1,q2,q3,q4,q5,q6,q7,q8) =>
 QO (q1,q0,q4,q8,q5,q6,q7,q2,q3,([]:List Qd))>>=fun (v601,v602) =>
 some (v601,v602)
theorem Qaf {q0 q1 q2 q3 q4 q5 q6 q7 q8 v5001 v5002} (hm:ZJ (q0,q1,q2,q3,q4,q5,q6,q7,q8)=some (v5001,v5002)):PC prog env 93 [(Z0 q0),(Qc q1),(Qc q2),(Qc q3),(.arr 2 0 q4 q4)] (X8 q8 q5 q6 q7) (Jq v5002) (J6 q8 q5 q6 v5001 v5002.length):=by
 unfold ZJ at hm
 exact PC_sxB (fn:=f93) rfl (ge 1 (ge 1 (Qh (Qn (ru1 hm (Xd _) (fun ⟨v601,v602⟩ d hm=>ge 2 (Qq zf)) (hst:=(prune_of2 [(.tok 86 q8),(Zg q5 q6),(.box (cellsOf Qj q7)),(.tok 86 (([]:List Qd).length))] (fun _=>(pg_cons kr (pg_cons kr (pg_cons (purge_box Qj _ _ _) (pg_cons kr pg_nil))))) rfl)))))))
def QS (x:(Int × (List Int) × (List Qk) × Qk × Qk × Int × (List Qd) × Int)):Option ((List Qd)) :=
 match x with
 | (v1,p1,p0,v9,v10,v7,v211,v212) =>
 if v212 < v1 then
  (
  ZR (p1,v212,v211.length)>>=fun out =>
  match out with
  | .inl _ =>
   XE (p0,(W (v9.at0_+v10.len)),v212,v7,v211.length)>>=fun v616 =>
   app 120 v211 v616>>=fun v617 =>
   QS (v1,p1,p0,v9,v10,v7,v617,(W (v212+v7)))
  | .inr ((v612,v613,v614,v615)) =>
   ZJ (p0,(W (v9.at0_+v10.len)),v212,v7,v615,v613,v614,v612,v211.length)>>=fun (v618,v619) =>
   app 120 v211 v619>>=fun v620 =>
   QS (v1,p1,p0,v9,v10,v7,v620,(W (v212+v7)))
  )
 else
 some v211
 partial_fixpoint
theorem Y8:∀ x r,QS x=some r→match x with|(v1,p1,p0,v9,v10,v7,v211,v212)=>LQ f29 29 [1,1,1,1,1,1,1,0,1,0,0] 1 ⟨kp 82 [(0,(Z0 p0)),(1,(La p1)),(5,(Qc v1)),(6,(Qc v7)),(7,(Qc (W (v9.at0_+v10.len)))),(8,(J3 v211)),(9,(Qc v212))],[(.tok 86 v211.length)]⟩ (P1 (.exit 1) (fun v611 d=>⟨sl d 82 [(8,(J3 v611))],[(.tok 86 v611.length)]⟩) r):=by
 refine QS.partial_correctness _ (fun QS Y8 x r hm=>?_)
 obtain ⟨v1,p1,p0,v9,v10,v7,v211,v212⟩:=x
 exact lp (Qh (ge 3 (ri hm (fun hm=>Qp (Qh (Qn (gr 2 (bs hm (fun _ hx hm=>J0 (X5 hx) (re 5 (R_G (Qf 6 (bi hm fun v616 hx hm=>J0 (Qae hx) (bi hm fun v617 hx hm=>Ji 86 9 120 0 Qd.toD v211 v616 v617 (xs:=(List.map Qd.toD) v211) (es:=(List.map Qd.toD) v616) (L:=(List.map Qd.toD)) (fun _=>rfl) rfl rfl Qd.fit hx (re 1 (R_G (re 4 (Y8 _ _ hm _ kr)))))))))) fun ⟨v612,v613,v614,v615⟩ hx hm=>J0 (X5 hx) (re 5 (R_G (Qf 6 (bi2 hm fun v618 v619 hx hm=>J0 (Qaf hx) (bi hm fun v620 hx hm=>Ji 86 9 120 0 Qd.toD v211 v619 v620 (xs:=(List.map Qd.toD) v211) (es:=(List.map Qd.toD) v619) (L:=(List.map Qd.toD)) (fun _=>rfl) rfl rfl Qd.fit hx (re 1 (R_G (re 4 (Y8 _ _ hm _ kr)))))))))))))) (fun hm=>QL zf))))
def Zi (x:((List Qk) × (List Int))):Option (List Qd) :=
 match x with
 | (p0,p1) =>
 Yg p1>>=fun v1 =>
 (if v1=0 then
  some true
 else
 some ((p0.length:Int) == 0)
 )>>=fun (v2:Bool) =>
 if v2=true then
  YV p1>>=fun v3 =>
  some v3
 else
 if (p0.length:Int)=1 then
  Xs p1>>=fun v4 =>
  idx p0 0>>=fun v5 =>
  Xk (v5,p1)>>=fun v6 =>
  some ([(⟨v4,v6⟩:Qd)]:List Qd)
 else
 (if (p1.length:Int) > 0 then
  idx p1 (W ((p1.length:Int) - 1))>>=fun v8 =>
  some v8
 else
 some 1
 )>>=fun (v7:Int) =>
 idx p0 (W ((p0.length:Int) - 1))>>=fun v9 =>
 idx p0 (W ((p0.length:Int) - 1))>>=fun v10 =>
 QS (v1,p1,p0,v9,v10,v7,([]:List Qd),0)>>=fun v611 =>
 some v611
theorem QaJ {p0 p1 r0} (hm:Zi (p0,p1)=some r0):FQ 29 [(.lst ((List.map Qk.toD) p0)),(Lb p1)] (Jr r0):=by
 unfold Zi at hm
 exact fp (fn:=f29) rfl (ge 1 (gr 1 (bi hm fun v1 hx hm=>cp (XU hx) (re 1 (Qh (Qn (Qh (bi hm fun v2 hs hm=>ZD (fun d=>⟨sl d 82 [(0,(Z0 p0)),(1,(La p1)),(5,(Qc v1)),(14,(Ql v2))],[]⟩) (have hm:=hs;R_G (Qf 3 (gsq 17 hm (fun hm=>re 5 zf) (fun hm=>Qf 1 (Q2 Qk.toD p0 (re 3 zf)))))) (fun d=>rib hm (fun hm=>gr 1 (bi hm fun v3 hx hm=>cp (Qat hx) (re 1 (Qq zf)))) (fun hm=>gr 1 (Q2 Qk.toD p0 (re 2 (riq hm (fun hm=>Qh (YS (Qf 1 (bi hm fun v4 hx hm=>cp (Qai hx) (Qf 1 (QK 6 Qk.toD hm fun v5 hm=>Qf 2 (bi hm fun v6 hx hm=>cp (QaK hx) (re 3 ⟨kr,Qq zf⟩)))))))) (fun hm=>Qp (ge 1 (Qh (gr 1 (Q2 Qj p1 (re 1 (bi hm fun v7 hs hm=>ZD (fun d=>⟨sl d 82 [(0,(Z0 p0)),(1,(La p1)),(5,(Qc v1)),(6,(Qc v7))],[]⟩) (have hm:=hs;ri hm (fun hm=>R_G (Qf 2 (Q2 Qj p1 (Qf 1 (QK 1 Qj hm fun v8 hm=>re 2 zf))))) (fun hm=>Qp zf)) (fun d=>Qh (YS (Qf 2 (Q2 Qk.toD p0 (Qf 1 (QK 6 Qk.toD hm fun v9 hm=>Qf 4 (Q2 Qk.toD p0 (Qf 1 (QK 6 Qk.toD hm fun v10 hm=>re 4 ⟨kr,ge 1 (Qh (ge 1 (Qn (ru1 hm (Y8 _) fun v611 d hm=>ge 2 (Qq zf)))))⟩)))))))))))))))))))))))))))))
def Zc (x:((List Qb) × Int)):Option (Unit ⊕ Unit) :=
 match x with
 | (p0,v201) =>
 if v201 < (p0.length:Int) then
  (idx p0 v201>>=fun v602 =>
  idx p0 0>>=fun v603 =>
  (if (v602.fill != v603.fill)=true then
   some true
  else
  idx p0 v201>>=fun v605 =>
  idx p0 0>>=fun v606 =>
  some (v605.buffer != v606.buffer)
  )>>=fun (v604:Bool) =>
  if v604=true then
   some true
  else
  idx p0 v201>>=fun v607 =>
  idx p0 (W (v201 - 1))>>=fun v608 =>
  idx p0 1>>=fun v609 =>
  idx p0 0>>=fun v610 =>
  some ((W (v607.offset - v608.offset)) != (W (v609.offset - v610.offset)))
  )>>=fun (v601:Bool) =>
  if v601=true then
   some (Sum.inl ())
  else
  Zc (p0,(W (v201+1)))
 else
 some (Sum.inr ())
 partial_fixpoint
theorem Xp:∀ x r,Zc x=some r→match x with|(p0,v201)=>LQ f100 100 [1,0,1,0,0] 0 ⟨kp 56 [(0,(Zm p0)),(3,(Qc v201))],[]⟩ (P2 .ret (fun _ d=>⟨sl d 56 [(2,(Ql false))],[]⟩) (.exit 0) (fun _ d=>⟨sl d 56 [],[]⟩) r):=by
 refine Zc.partial_correctness _ (fun Zc Xp x r hm=>?_)
 obtain ⟨p0,v201⟩:=x
 exact lp (Qh (gr 2 (Q2 Qb.toD p0 (re 1 (ri hm (fun hm=>Qp (Qh (Qn (Qh (bi hm fun v601 hs hm=>ZD (fun d=>⟨sl d 56 [(0,(Zm p0)),(3,(Qc v201)),(55,(Ql v601))],[]⟩) (have hm:=hs;Qbz (Qf 2 (QK 3 Qb.toD hm fun v602 hm=>Qf 3 (QK 3 Qb.toD hm fun v603 hm=>Qf 2 (Q4 rfl (fun _=>QbG (a:=v602.fill) (b:=v603.fill) kr rfl kr kr) (Qf 1 (bi hm fun v604 hs hm=>Z8 (j:=22) (fun d=>⟨sl d 56 [(0,(Zm p0)),(3,(Qc v201)),(31,(Ql v604))],[]⟩) (fun d=>Qf 1 (gsb 32 hm (fun hm=>re 23 ⟨kr,zf⟩) (fun hm=>Qf 2 (QK 3 Qb.toD hm fun v607 hm=>Qf 5 (QK 3 Qb.toD hm fun v608 hm=>Qf 4 (QK 3 Qb.toD hm fun v609 hm=>Qf 3 (QK 3 Qb.toD hm fun v610 hm=>re 5 ⟨kr,zf⟩))))))) (fun hJ=>gsb 20 hs (fun hm=>Qf 11 zf) (fun hm=>Qf 2 (QK 3 Qb.toD hm fun v605 hm=>Qf 3 (QK 3 Qb.toD hm fun v606 hm=>Qf 4 zf))))))))))) (fun d=>rib hm (fun hm=>ge 1 (Qq zf)) (fun hm=>Qp (R_G (re 3 (Xp _ _ hm _ kr)))))))))) (fun hm=>QL zf))))))
def YK (x:(List Qb)):Option Bool :=
 match x with
 | p0 =>
 (
 Zc (p0,1)>>=fun out =>
 match out with
 | .inl _ =>
  some false
 | .inr (_) =>
  some true
 )
theorem Qan {p0 r0} (hm:YK p0=some r0):FQ 100 [(.lst ((List.map Qb.toD) p0))] (Ql r0):=by
 unfold YK at hm
 exact fp (fn:=f100) rfl (ge 1 (Qh (ge 1 (Qn (ru2 hm (Xp _) (fun _ d hm=>zf) fun _ d hm=>ge 1 (Qq zf))))))
def ZZ (x:(Int × (List Qb) × (List Qe) × Int)):Option (Int) :=
 match x with
 | (v202,p0,v201,v802) =>
 (if (W (v202+v802)) < (p0.length:Int) then
  sub p0 v202 (W ((W (v202+v802))+1))>>=fun v1204 =>
  YK v1204>>=fun v1205 =>
  some v1205
 else
 some false
 )>>=fun (v1203:Bool) =>
 if v1203=true then
  ZZ (v202,p0,v201,(W (v802+1)))
 else
 some v802
 partial_fixpoint
theorem Jn:∀ x r,ZZ x=some r→match x with|(v202,p0,v201,v802)=>LQ f33 33 [1,1,0,1,0,0,1,0,1,0,0,0] 1 ⟨kp 80 [(0,(Zm p0)),(3,(XW v201)),(4,(Qc v202)),(5,(Qc v802))],[(.tok 143 v201.length)]⟩ (P1 (.exit 2) (fun v1202 d=>⟨sl d 80 [(0,(Zm p0)),(3,(XW v201)),(4,(Qc v202)),(5,(Qc v1202))],[(.tok 143 v201.length)]⟩) r):=by
 refine ZZ.partial_correctness _ (fun ZZ Jn x r hm=>?_)
 obtain ⟨v202,p0,v201,v802⟩:=x
 exact lp (Qh (Qh (bi hm fun v1203 hs hm=>ZD (fun d=>⟨sl d 80 [(0,(Zm p0)),(3,(XW v201)),(4,(Qc v202)),(5,(Qc v802)),(26,(Ql v1203))],[(.tok 143 v201.length)]⟩) (have hm:=hs;R_G (Qf 4 (Q2 Qb.toD p0 (Qf 2 (gs 17 hm (fun hm=>Qf 6 (bi hm fun v1204 hx hm=>QbF 3 Qb.toD p0 v1204 v202 (W ((W (v202+v802))+1)) (es:=(List.map Qb.toD) p0) (L:=(List.map Qb.toD)) (a:=natI v202) (b:=natI (W ((W (v202+v802))+1))) (fun _=>rfl) rfl (fun _=>by first|rfl|exact num_of_fit (Qb.fit _)) hx rfl (Or.inl rfl) (bi hm fun v1205 hx hm=>cp (Qan hx) (re 1 zf)))) (fun hm=>re 9 zf)))))) (fun d=>rib hm (fun hm=>Qp (Qn (R_G (re 3 (Jn _ _ hm _ kr))))) (fun hm=>QL zf)))))
def ZY (x:((List Qb) × (List Qe) × Int)):Option ((List Qe)) :=
 match x with
 | (p0,v201,v202) =>
 if v202 < (p0.length:Int) then
  ZZ (v202,p0,v201,1)>>=fun v1202 =>
  idx p0 v202>>=fun v1206 =>
  (if v1206.fill=false then
   idx p0 v202>>=fun v1209 =>
   idx p0 v202>>=fun v1210 =>
   some (v1209.buffer,v1210.offset)
  else
  some ((0:Int),(0:Int))
  )>>=fun ((v1207,v1208):(Int × Int)) =>
  (if v1206.fill=false then
   some (decide (v1202 > 1))
  else
  some false
  )>>=fun (v1211:Bool) =>
  (if v1211=true then
   idx p0 (W (v202+1))>>=fun v1213 =>
   idx p0 v202>>=fun v1214 =>
   some (W (v1213.offset - v1214.offset))
  else
  some 0
  )>>=fun (v1212:Int) =>
  app 48 v201 ([(⟨v202,v1202,v1206.fill,v1207,v1208,v1212⟩:Qe)]:List Qe)>>=fun v1215 =>
  ZY (p0,v1215,(W (v202+v1202)))
 else
 some v201
 partial_fixpoint
theorem Jm:∀ x r,ZY x=some r→match x with|(p0,v201,v202)=>LQ f33 33 [1,1,0,1,0,0] 1 ⟨kp 80 [(0,(Zm p0)),(3,(XW v201)),(4,(Qc v202))],[(.tok 143 v201.length)]⟩ (P1 (.exit 0) (fun v601 d=>⟨sl d 80 [(3,(XW v601))],[(.tok 143 v601.length)]⟩) r):=by
 refine ZY.partial_correctness _ (fun ZY Jm x r hm=>?_)
 obtain ⟨p0,v201,v202⟩:=x
 exact lp (Qh (gr 2 (Q2 Qb.toD p0 (re 1 (ri hm (fun hm=>Qp (Qn (ge 1 (Qh (Qn (ru1 hm (Jn _) fun v1202 d hm=>gr 4 (QK 3 Qb.toD hm fun v1206 hm=>re 5 (Qh (ge 3 (bi2 hm fun v1207 v1208 hs hm=>ZD (fun d=>⟨sl d 80 [(0,(Zm p0)),(3,(XW v201)),(4,(Qc v202)),(5,(Qc v1202)),(6,(.ptr 1 0))],[(.tok 143 v201.length),(.box [(Qc v202),(Qc v1202),(Ql v1206.fill),(Qc v1207),(Qc v1208),(Qc 0)])]⟩) (have hm:=hs;rin hm (fun hm=>gr 2 (QK 3 Qb.toD hm fun v1209 hm=>re 4 (R_G (Qf 2 (QK 3 Qb.toD hm fun v1210 hm=>re 4 zf))))) (fun hm=>Qp zf)) (fun d=>Qh (Qh (bi hm fun v1211 hs hm=>ZD (fun d=>⟨sl d 80 [(0,(Zm p0)),(3,(XW v201)),(4,(Qc v202)),(5,(Qc v1202)),(6,(.ptr 1 0)),(58,(Ql v1211))],[(.tok 143 v201.length),(.box [(Qc v202),(Qc v1202),(Ql v1206.fill),(Qc v1207),(Qc v1208),(Qc 0)])]⟩) (have hm:=hs;R_G (Qf 4 (gsn 55 hm (fun hm=>re 3 zf) (fun hm=>re 3 zf)))) (fun d=>bi hm fun v1212 hs hm=>ZD (fun d=>⟨sl d 80 [(0,(Zm p0)),(3,(XW v201)),(4,(Qc v202)),(5,(Qc v1202)),(6,(.ptr 1 0))],[(.tok 143 v201.length),(YU v202 v1202 v1206.fill v1207 v1208 v1212)]⟩) (have hm:=hs;rib hm (fun hm=>YS (Qf 3 (QK 3 Qb.toD hm fun v1213 hm=>Qf 4 (QK 3 Qb.toD hm fun v1214 hm=>re 5 ⟨kr,zf⟩)))) (fun hm=>Qp zf)) (fun d=>gr 3 (bi hm fun v1215 hx hm=>Ji 143 6 48 0 Qe.toD v201 ([(⟨v202,v1202,v1206.fill,v1207,v1208,v1212⟩:Qe)]:List Qe) v1215 (xs:=(List.map Qe.toD) v201) (es:=(List.map Qe.toD) ([(⟨v202,v1202,v1206.fill,v1207,v1208,v1212⟩:Qe)]:List Qe)) (L:=(List.map Qe.toD)) (fun _=>rfl) rfl rfl Qe.fit hx (re 1 (R_G (re 4 (Jm _ _ hm _ kr)))))))))))))))))))) (fun hm=>QL zf))))))
def X9 (x:(List Qb)):Option (List Qe) :=
 match x with
 | p0 =>
 ZY (p0,([]:List Qe),0)>>=fun v601 =>
 some v601
theorem Qa6 {p0 r0} (hm:X9 p0=some r0):FQ 33 [(.lst ((List.map Qb.toD) p0))] (Yz r0):=by
 unfold X9 at hm
 exact fp (fn:=f33) rfl (ge 1 (ge 1 (Qh (ge 1 (Qn (ru1 hm (Jm _) fun v601 d hm=>ge 2 (Qq zf)))))))
def Zh (x:((List Qe) × Int × Int)):Option (Int) :=
 match x with
 | (p0,v201,v202) =>
 if v202 < (p0.length:Int) then
  idx p0 v202>>=fun v602 =>
  Zh (p0,(W (v201+v602.len)),(W (v202+1)))
 else
 some v201
 partial_fixpoint
theorem XP:∀ x r,Zh x=some r→match x with|(p0,v201,v202)=>LQ f96 96 [1,1,0,1,0,0] 0 ⟨kp 19 [(0,(Yz p0)),(3,(Qc v201)),(4,(Qc v202))],[]⟩ (P1 (.exit 0) (fun v601 d=>⟨sl d 19 [(3,(Qc v601))],[]⟩) r):=by
 refine Zh.partial_correctness _ (fun Zh XP x r hm=>?_)
 obtain ⟨p0,v201,v202⟩:=x
 exact lp (Qh (gr 2 (Q2 Qe.toD p0 (re 1 (ri hm (fun hm=>Qp (Qh (Qn (R_G (Qf 3 (QK 6 Qe.toD hm fun v602 hm=>re 4 (R_G (re 3 (XP _ _ hm _ kr))))))))) (fun hm=>QL zf))))))
def Yt (x:(List Qe)):Option Int :=
 match x with
 | p0 =>
 Zh (p0,0,0)>>=fun v601 =>
 some v601
theorem QaI {p0 r0} (hm:Yt p0=some r0):FQ 96 [(.lst ((List.map Qe.toD) p0))] (Qc r0):=by
 unfold Yt at hm
 exact fp (fn:=f96) rfl (ge 1 (ge 1 (Qh (ge 1 (Qn (ru1 hm (XP _) fun v601 d hm=>ge 2 (Qq zf)))))))
def YN (x:((List Int) × Qr)):Option (List Qa) :=
 match x with
 | (p0,p1) =>
 makeM 8 (p0.length:Int) 0>>=fun v1 =>
 some ([(⟨(⟨v1,p0⟩:Qo),p1⟩:Qa)]:List Qa)
theorem JT {p0 p1 r0} (hm:YN (p0,p1)=some r0):FQ 97 [(Lb p0),(Qr.toD p1)] (Z9 r0):=by
 unfold YN at hm
 exact fp (fn:=f97) rfl (ge 2 (Qh (YS (Qf 1 (Q2 Qj p0 (bi hm fun v1 hx hm=>Q4 (v:=.dat (.lst (List.map Qj v1))) rfl (by intro K hk; exact Qa8 Qj (z:=0) (n:=(p0.length:Int)) (bytes:=8) (j:=8000) (e':=3) (os:=[]) hx (e:=3) kr kr kr kr rfl rfl kr kr kr hk) (re 6 ⟨kr,Qq zf⟩)))))))
def QR (x:((List Int) × Nat × (List Int) × Int × Int × Int)):Option (Int) :=
 match x with
 | (q0,v202,v203,v204,v806,v807) =>
 (if v807 < (q0.length:Int) then
  some (decide (v806 > 0))
 else
 some false
 )>>=fun (v1207:Bool) =>
 if v1207=true then
  idx q0 v807>>=fun v1208 =>
  QR (q0,v202,v203,v204,(W (v806 * v1208)),(W (v807+1)))
 else
 some v806
 partial_fixpoint
theorem Yw:∀ x r,QR x=some r→match x with|(q0,v202,v203,v204,v806,v807)=>LQ f160 160 [1,1,1,0,1,0,0,1,0,0,1,1,0,1,0,0] 1 ⟨kp 42 [(0,(La q0)),(3,(.ms 0 v202 0 v203.length v203.length)),(4,(Qc v204)),(5,(Qc v806)),(6,(Qc v807))],[(Ya v202 v203)]⟩ (P1 (.exit 2) (fun v1206 d=>⟨sl d 42 [(0,(La q0)),(3,(.ms 0 v202 0 v203.length v203.length)),(4,(Qc v204)),(5,(Qc v1206))],[(Ya v202 v203)]⟩) r):=by
 refine QR.partial_correctness _ (fun QR Yw x r hm=>?_)
 obtain ⟨q0,v202,v203,v204,v806,v807⟩:=x
 exact lp (Qh (Qh (bi hm fun v1207 hs hm=>ZD (fun d=>⟨sl d 42 [(0,(La q0)),(3,(.ms 0 v202 0 v203.length v203.length)),(4,(Qc v204)),(5,(Qc v806)),(6,(Qc v807)),(28,(Ql v1207))],[(Ya v202 v203)]⟩) (have hm:=hs;R_G (Qf 2 (Q2 Qj q0 (Qf 2 (gs 25 hm (fun hm=>re 3 zf) (fun hm=>re 3 zf)))))) (fun d=>rib hm (fun hm=>Qp (Qh (Qn (R_G (Qf 3 (QK 1 Qj hm fun v1208 hm=>re 3 (R_G (re 3 (Yw _ _ hm _ (prune_of2 [(Ya v202 v203)] (fun _=>(pg_cons (purge_mt Qj _ _ _ _ _) pg_nil)) rfl)))))))))) (fun hm=>QL zf)))))
def QM (x:((List Int) × Nat × (List Int) × Int)):Option ((Nat × (List Int))) :=
 match x with
 | (q0,v202,v203,v204) =>
 if v204 < (q0.length:Int) then
  ZW q0>>=fun v604 =>
  (if v604=0 then
   some 0
  else
  some 1
  )>>=fun (v605:Int) =>
  QR (q0,v202,v203,v204,v605,(W (v204+1)))>>=fun v1206 =>
  app 8 v203 ([v1206]:List Int)>>=fun v1209 =>
  QM (q0,(gb v202 ([v1206]:List Int).isEmpty),v1209,(W (v204+1)))
 else
 some (v202,v203)
 partial_fixpoint
theorem Yv:∀ x r,QM x=some r→match x with|(q0,v202,v203,v204)=>LQ f160 160 [1,1,1,0,1,0,0] 1 ⟨kp 42 [(0,(La q0)),(3,(.ms 0 v202 0 v203.length v203.length)),(4,(Qc v204))],[(Ya v202 v203)]⟩ (P1 (.exit 0) (fun (v602,v603) d=>⟨sl d 42 [(3,(.ms 0 v602 0 v603.length v603.length))],[(Ya v602 v603)]⟩) r):=by
 refine QM.partial_correctness _ (fun QM Yv x r hm=>?_)
 obtain ⟨q0,v202,v203,v204⟩:=x
 exact lp (Qh (gr 2 (Q2 Qj q0 (re 1 (ri hm (fun hm=>Qp (Qh (Qn (ge 1 (Qh (gr 1 (bi hm fun v604 hx hm=>cp (XT hx) (re 1 (bi hm fun v605 hs hm=>ZD (fun d=>⟨sl d 42 [(0,(La q0)),(3,(.ms 0 v202 0 v203.length v203.length)),(4,(Qc v204)),(5,(Qc v605))],[(Ya v202 v203)]⟩) (have hm:=hs;riq hm (fun hm=>R_G (re 1 zf)) (fun hm=>Qp zf)) (fun d=>Qh (ge 3 (Qn (ru1 hm (Yw _) (fun v1206 d hm=>R_G (Qf 3 (bi hm fun v1209 hx hm=>Yq (v:=.ms 0 (gb v202 ([v1206]:List Int).isEmpty) 0 v1209.length v1209.length) (fun H=>H.set 0 (.mt 3 (gb v202 ([v1206]:List Int).isEmpty) (cellsOf Qj v1209))) rfl kr (fun _ hk=>Qa0 Qj (l:=v203) (es:=([v1206]:List Int)) (bytes:=8) (e:=3) (tt:=0) (g:=v202) (m:=v203.length) hx (fun _=>rfl) kr kr kr kr rfl rfl kr rfl kr kr hk) (re 1 (R_G (re 3 (Yv _ _ hm _ (prune_of2 [(.mt 3 (gb v202 ([v1206]:List Int).isEmpty) (cellsOf Qj v1209))] (fun _=>(pg_cons (purge_mt Qj _ _ _ _ _) pg_nil)) rfl)))))))) (hst:=(prune_of2 [(Ya v202 v203)] (fun _=>(pg_cons (purge_mt Qj _ _ _ _ _) pg_nil)) rfl))))))))))))))) (fun hm=>QL zf))))))
def ZU (x:(List Int)):Option ((Nat × (List Int))) :=
 match x with
 | q0 =>
 Yr q0>>=fun v1 =>
 if v1≠0 then
  some (0,([]:List Int))
 else
 QM (q0,0,([]:List Int),0)>>=fun (v602,v603) =>
 some (v602,v603)
theorem JB {q0 v5001 v5002} (hm:ZU q0=some (v5001,v5002)):PC prog env 160 [(La q0)] [] (.ms 0 v5001 0 v5002.length v5002.length) [(Ya v5001 v5002)]:=by
 unfold ZU at hm
 exact PC_sxB (fn:=f160) rfl (ge 1 (Qh (gr 1 (bi hm fun v1 hx hm=>cp (Jk hx) (re 1 (rix hm (fun hm=>ge 1 (Qq zf)) (fun hm=>Qp (ge 1 (Qh (ge 1 (Qn (ru1 hm (Yv _) (fun ⟨v602,v603⟩ d hm=>ge 2 (Qq zf)) (hst:=(prune_of2 [JE] (fun _=>(pg_cons (purge_mt Qj _ _ _ _ _) pg_nil)) rfl))))))))))))))
def Zl (x:((List Int) × Int × (List Int) × Int)):Option ((List Int)) :=
 match x with
 | (v2,p1,v203,v204) =>
 if v204 < (v2.length:Int) then
  Zf (v203.length=v2.length)>>=fun _ =>
  idx v203 v204>>=fun v604 =>
  idx v203 v204>>=fun v606 =>
  Zf (v203.length=v2.length)>>=fun _ =>
  idx v203 v204>>=fun v607 =>
  setM v203 v204 (W (v606 * p1))>>=fun v609 =>
  Zl (v2,p1,v609,(W (v204+1)))
 else
 some v203
 partial_fixpoint
theorem XD:∀ x r,Zl x=some r→match x with|(v2,p1,v203,v204)=>LQ f98 98 [1,1,0,1,0,0] 1 ⟨kp 25 [(1,(Qc p1)),(5,(.ms 0 1 0 v2.length v2.length)),(6,(Qc v204))],[(ZF v203)]⟩ (P1 (.exit 0) (fun v603 d=>⟨sl d 25 [(5,(.ms 0 1 0 v2.length v2.length))],[(ZF v603)]⟩) r):=by
 refine Zl.partial_correctness _ (fun Zl XD x r hm=>?_)
 obtain ⟨v2,p1,v203,v204⟩:=x
 exact lp (Qh (gr 2 (Qf 1 (re 1 (ri hm (fun hm=>Qp (Qh (Qn (R_G (Qf 4 (gi hm fun hl605 hm=>bi hm fun v604 hx hm=>Q4 rfl (fun _=>Yy (e:=3) (n:=v204) (j:=(v204).toNat) (tt:=0) (g:=1) (lo:=0) (len:=v2.length) (cap:=v2.length) (k:=.i64) kr kr rfl kr kr (idx_nat hx) (Nat.lt_of_lt_of_eq (idx_lt hx) hl605)) (bi hm fun v606 hx hm=>Q4 rfl (fun _=>Jo (tt:=0) (g:=1) (j:=(0+(v204).toNat)) (e:=3) (cs:=cellsOf Qj v203) (v:=.dat (Qj v606)) kr kr rfl kr (Xz kr) (cells_idx Qj hx)) (Qf 2 (gi hm fun hl608 hm=>bi hm fun v607 hx hm=>Q4 rfl (fun _=>Yy (e:=3) (n:=v204) (j:=(v204).toNat) (tt:=0) (g:=1) (lo:=0) (len:=v2.length) (cap:=v2.length) (k:=.i64) kr kr rfl kr kr (idx_nat hx) (Nat.lt_of_lt_of_eq (idx_lt hx) hl608)) (bi hm fun v609 hx hm=>Yq (fun H=>H.set 0 (ZF v609)) rfl kr (fun _=>Qaa Qj (l:=v203) (n:=v204) (y:=(W (v606 * p1))) hx (fun _=>rfl) kr rfl kr kr kr kr) (Xr (R_G (re 3 (XD _ _ hm _ (prune_of2 [(ZF v609)] (fun _=>(pg_cons (purge_mt Qj _ _ _ _ _) pg_nil)) rfl))))))))))))))) (fun hm=>QL zf))))))
def YA (x:((List Int) × Int)):Option (List Int) :=
 match x with
 | (p0,p1) =>
 ZU p0>>=fun (v1,v2) =>
 Zl (v2,p1,v2,0)>>=fun v603 =>
 Zf (v603.length=v2.length)>>=fun _ =>
 some v603
theorem JM {p0 p1 r0} (hm:YA (p0,p1)=some r0):FQ 98 [(Lb p0),(Qj p1)] (La r0):=by
 unfold YA at hm
 exact fp (fn:=f98) rfl (ge 1 (gr 1 (bi2 hm fun v1 v2 hx hm=>go 0 3 Qj (ds:=[(Lb p0)]) (JB hx) (re 1 (Qh (ge 1 (Qn (ru1 hm (XD _) (fun v603 d hm=>ge 2 (Qq (gi hm fun hl610 hm=>(by obtain rfl:=Qa3 hm; exact ⟨trivial,JO [(.ms 0 1 0 v2.length v2.length)] kr (po_ms (pc_ms (e:=3) Qj v603 hl610 (fun _=>rfl) kr))⟩)))) (hst:=(prune_of2 [(ZF v2)] (fun _=>(pg_cons (purge_mt Qj _ _ _ _ _) pg_nil)) rfl))))))))))
def Z1 (x:((List Int) × Int × (List (List Int)) × Int × (List (List Int)) × Int)):Option ((List (List Int))) :=
 match x with
 | (p0,v202,v201,v803,v1403,v1404) =>
 idx p0 v202>>=fun v1804 =>
 if v1404 < v1804 then
  idx v201 v803>>=fun v1805 =>
  app 8 ([]:List Int) v1805>>=fun v1806 =>
  app 8 v1806 ([v1404]:List Int)>>=fun v1807 =>
  app 24 v1403 ([v1807]:List (List Int))>>=fun v1808 =>
  Z1 (p0,v202,v201,v803,v1808,(W (v1404+1)))
 else
 some v1403
 partial_fixpoint
theorem Je:∀ x r,Z1 x=some r→match x with|(p0,v202,v201,v803,v1403,v1404)=>LQ f34 34 [1,1,0,1,0,0,1,0,0,1,0,1,0,0,1,0,0,1,0,0] 1 ⟨kp 44 [(0,(La p0)),(3,(ZL v201)),(4,(Qc v202)),(5,(J4 v1403)),(6,(Qc v803)),(7,(Qc v1404))],[(.tok 22 v1403.length)]⟩ (P1 (.exit 4) (fun v1803 d=>⟨sl d 44 [(0,(La p0)),(3,(ZL v201)),(4,(Qc v202)),(5,(J4 v1803)),(6,(Qc v803))],[(.tok 22 v1803.length)]⟩) r):=by
 refine Z1.partial_correctness _ (fun Z1 Je x r hm=>?_)
 obtain ⟨p0,v202,v201,v803,v1403,v1404⟩:=x
 exact lp (Qh (gr 3 (QK 1 Qj hm fun v1804 hm=>re 2 (ri hm (fun hm=>Qp (Qh (Qn (R_G (Qf 4 (bi hm fun v1805 hx hm=>Qah 1 (fun l=>Dat.lst ((List.map Qj) l)) v201 v803 v1805 (es:=(List.map (fun l=>Dat.lst ((List.map Qj) l))) v201) (d:=(Lb v1805)) rfl hx rfl rfl (Qf 1 (bi hm fun v1806 hx hm=>Ji 3 1 8 1 Qj ([]:List Int) v1805 v1806 (xs:=(List.map Qj) ([]:List Int)) (es:=(List.map Qj) v1805) (L:=(List.map Qj)) (fun _=>rfl) rfl rfl (fun _=>rfl) hx (Qf 2 (bi hm fun v1807 hx hm=>Ji 3 1 8 1 Qj v1806 ([v1404]:List Int) v1807 (xs:=(List.map Qj) v1806) (es:=(List.map Qj) ([v1404]:List Int)) (L:=(List.map Qj)) (fun _=>rfl) rfl rfl (fun _=>rfl) hx (Qf 1 (bi hm fun v1808 hx hm=>Ji 22 1 24 0 (fun l=>Dat.lst ((List.map Qj) l)) v1403 ([v1807]:List (List Int)) v1808 (xs:=(List.map (fun l=>Dat.lst ((List.map Qj) l))) v1403) (es:=(List.map (fun l=>Dat.lst ((List.map Qj) l))) ([v1807]:List (List Int))) (L:=(List.map (fun l=>Dat.lst ((List.map Qj) l)))) (fun _=>rfl) rfl rfl (fun _=>rfl) hx (re 1 (R_G (re 3 (Je _ _ hm _ kr)))))))))))))))) (fun hm=>QL zf)))))
def ZO (x:((List (List Int)) × (List Int) × Int × (List (List Int)) × Int)):Option ((List (List Int))) :=
 match x with
 | (v201,p0,v202,v802,v803) =>
 if v803 < (v201.length:Int) then
  Z1 (p0,v202,v201,v803,v802,0)>>=fun v1803 =>
  ZO (v201,p0,v202,v1803,(W (v803+1)))
 else
 some v802
 partial_fixpoint
theorem Jd:∀ x r,ZO x=some r→match x with|(v201,p0,v202,v802,v803)=>LQ f34 34 [1,1,0,1,0,0,1,0,0,1,0,1,0,0] 1 ⟨kp 44 [(0,(La p0)),(3,(ZL v201)),(4,(Qc v202)),(5,(J4 v802)),(6,(Qc v803))],[(.tok 22 v802.length)]⟩ (P1 (.exit 2) (fun v1202 d=>⟨sl d 44 [(0,(La p0)),(4,(Qc v202)),(5,(J4 v1202))],[(.tok 22 v1202.length)]⟩) r):=by
 refine ZO.partial_correctness _ (fun ZO Jd x r hm=>?_)
 obtain ⟨v201,p0,v202,v802,v803⟩:=x
 exact lp (Qh (gr 2 (QaU (fun l=>Dat.lst ((List.map Qj) l)) v201 (es:=(List.map (fun l=>Dat.lst ((List.map Qj) l))) v201) rfl (re 1 (ri hm (fun hm=>Qp (Qh (Qn (ge 1 (Qn (ru1 hm (Je _) fun v1803 d hm=>R_G (re 3 (Jd _ _ hm _ kr)))))))) (fun hm=>QL zf))))))
def ZN (x:((List Int) × (List (List Int)) × Int)):Option ((List (List Int))) :=
 match x with
 | (p0,v201,v202) =>
 if v202 < (p0.length:Int) then
  ZO (v201,p0,v202,([]:List (List Int)),0)>>=fun v1202 =>
  ZN (p0,v1202,(W (v202+1)))
 else
 some v201
 partial_fixpoint
theorem Jc:∀ x r,ZN x=some r→match x with|(p0,v201,v202)=>LQ f34 34 [1,1,0,1,0,0] 0 ⟨kp 44 [(0,(La p0)),(3,(ZL v201)),(4,(Qc v202))],[]⟩ (P1 (.exit 0) (fun v601 d=>⟨sl d 44 [(3,(ZL v601))],[]⟩) r):=by
 refine ZN.partial_correctness _ (fun ZN Jc x r hm=>?_)
 obtain ⟨p0,v201,v202⟩:=x
 exact lp (Qh (gr 2 (Q2 Qj p0 (re 1 (ri hm (fun hm=>Qp (Qh (Qn (ge 1 (Qh (ge 1 (Qn (ru1 hm (Jd _) fun v1202 d hm=>R_G (re 2 (R_G (re 3 (Jc _ _ hm _ kr)))))))))))) (fun hm=>QL zf))))))
def ZS (x:(List Int)):Option (List (List Int)) :=
 match x with
 | p0 =>
 ZN (p0,([([]:(List Int))]:List (List Int)),0)>>=fun v601 =>
 some v601
theorem JL {p0 r0} (hm:ZS p0=some r0):FQ 34 [(Lb p0)] (ZL r0):=by
 unfold ZS at hm
 exact fp (fn:=f34) rfl (ge 1 (ge 3 (Qh (ge 1 (Qn (ru1 hm (Jc _) fun v601 d hm=>ge 2 (Qq zf)))))))
def ZT (x:((List Qe) × Int × Int)):Option (Int ⊕ Unit) :=
 match x with
 | (p0,p1,v201) =>
 if v201 < (p0.length:Int) then
  (idx p0 v201>>=fun v603 =>
  if p1≥v603.at0_ then
   idx p0 v201>>=fun v604 =>
   idx p0 v201>>=fun v605 =>
   some (decide (p1 < (W (v604.at0_+v605.len))))
  else
  some false
  )>>=fun (v602:Bool) =>
  if v602=true then
   some (Sum.inl v201)
  else
  ZT (p0,p1,(W (v201+1)))
 else
 some (Sum.inr ())
 partial_fixpoint
theorem X2:∀ x r,ZT x=some r→match x with|(p0,p1,v201)=>LQ f99 99 [1,0,1,0,0] 0 ⟨kp 35 [(0,(Yz p0)),(1,(Qc p1)),(5,(Qc v201))],[]⟩ (P2 .ret (fun v601 d=>⟨sl d 35 [(4,(Qc v601))],[]⟩) (.exit 0) (fun _ d=>⟨sl d 35 [],[]⟩) r):=by
 refine ZT.partial_correctness _ (fun ZT X2 x r hm=>?_)
 obtain ⟨p0,p1,v201⟩:=x
 exact lp (Qh (gr 2 (Q2 Qe.toD p0 (re 1 (ri hm (fun hm=>Qp (Qh (Qn (Qh (bi hm fun v602 hs hm=>ZD (fun d=>⟨sl d 35 [(0,(Yz p0)),(1,(Qc p1)),(5,(Qc v201)),(33,(Ql v602))],[]⟩) (have hm:=hs;YS (Qf 3 (QK 6 Qe.toD hm fun v603 hm=>Qf 4 (gs 19 hm (fun hm=>Qf 3 (QK 6 Qe.toD hm fun v604 hm=>Qf 4 (QK 6 Qe.toD hm fun v605 hm=>re 5 ⟨kr,zf⟩))) (fun hm=>re 14 ⟨kr,zf⟩))))) (fun d=>rib hm (fun hm=>ge 2 (Qq zf)) (fun hm=>Qp (R_G (re 3 (X2 _ _ hm _ kr)))))))))) (fun hm=>QL zf))))))
def Yo (x:((List Qe) × Int)):Option Int :=
 match x with
 | (p0,p1) =>
 (
 ZT (p0,p1,0)>>=fun out =>
 match out with
 | .inl v601 =>
  some v601
 | .inr (_) =>
  some (-1)
 )
theorem J8 {p0 p1 r0} (hm:Yo (p0,p1)=some r0):FQ 99 [(.lst ((List.map Qe.toD) p0)),(Qj p1)] (Qc r0):=by
 unfold Yo at hm
 exact fp (fn:=f99) rfl (ge 1 (Qh (ge 1 (Qn (ru2 hm (X2 _) (fun v601 d hm=>zf) fun _ d hm=>ge 1 (Qq zf))))))
def Q8 (x:((List Int) × (List (List Int)) × Int × (List Qe) × Int × Nat × (List Qa) × Int × Int × (List Int) × (List Int) × Nat × (List Int) × Int)):Option ((Nat × (List Int))) :=
 match x with
 | (p1,v20,v226,p0,v2,v223,v225,v626,v627,v222,v641,v843,v844,v845) =>
 if v845 < (p1.length:Int) then
  idx v20 v226>>=fun v1245 =>
  idx v1245 v845>>=fun v1246 =>
  app 8 v844 ([(W (v1246+1))]:List Int)>>=fun v1247 =>
  Q8 (p1,v20,v226,p0,v2,v223,v225,v626,v627,v222,v641,(gb v843 ([(W (v1246+1))]:List Int).isEmpty),v1247,(W (v845+1)))
 else
 some (v843,v844)
 partial_fixpoint
theorem XC:∀ x r,Q8 x=some r→match x with|(p1,v20,v226,p0,v2,v223,v225,v626,v627,v222,v641,v843,v844,v845)=>LQ f32 32 [1,1,1,1,1,1,1,1,0,1,0,0,1,0,0,1,1,1,1,1,0,1,0,0] 4 ⟨kp 231 [(0,(Yz p0)),(1,(La p1)),(5,(Qc v2)),(7,(.ms 1 v223 0 v225.length v225.length)),(8,(ZL v20)),(9,(Qc (W ((p1.length:Int) - 1)))),(10,(Qc v226)),(11,(Qc v626)),(12,(Qc v627)),(14,(.ptr 2 0)),(15,(Qc v845))],[(Ya v843 v844),(JI v223 v225 v222),(JK v641 v843 v844.length),(.tok 3 (([]:List Int).length))]⟩ (P1 (.exit 2) (fun (v1243,v1244) d=>⟨sl d 231 [(0,(Yz p0)),(1,(La p1)),(5,(Qc v2)),(7,(.ms 1 v223 0 v225.length v225.length)),(8,(ZL v20)),(9,(Qc (W ((p1.length:Int) - 1)))),(10,(Qc v226)),(11,(Qc v626)),(12,(Qc v627)),(14,(.ptr 2 0))],[(Ya v1243 v1244),(JI v223 v225 v222),(JK v641 v1243 v1244.length),(.tok 3 (([]:List Int).length))]⟩) r):=by
 refine Q8.partial_correctness _ (fun Q8 XC x r hm=>?_)
 obtain ⟨p1,v20,v226,p0,v2,v223,v225,v626,v627,v222,v641,v843,v844,v845⟩:=x
 exact lp (Qh (gr 2 (Q2 Qj p1 (re 1 (ri hm (fun hm=>Qp (Qh (Qn (YS (Qf 4 (bi hm fun v1245 hx hm=>Qah 1 (fun l=>Dat.lst ((List.map Qj) l)) v20 v226 v1245 (es:=(List.map (fun l=>Dat.lst ((List.map Qj) l))) v20) (d:=(Lb v1245)) rfl hx rfl rfl (Qf 2 (QK 1 Qj hm fun v1246 hm=>Qf 3 (bi hm fun v1247 hx hm=>Yq (v:=.ms 0 (gb v843 ([(W (v1246+1))]:List Int).isEmpty) 0 v1247.length v1247.length) (fun H=>H.set 0 (.mt 3 (gb v843 ([(W (v1246+1))]:List Int).isEmpty) (cellsOf Qj v1247))) rfl kr (fun _ hk=>Qa0 Qj (l:=v844) (es:=([(W (v1246+1))]:List Int)) (bytes:=8) (e:=3) (tt:=0) (g:=v843) (m:=v844.length) hx (fun _=>rfl) kr kr kr kr rfl rfl kr rfl kr kr hk) (re 2 ⟨kr,R_G (re 3 (XC _ _ hm _ (prune_of2 [(.mt 3 (gb v843 ([(W (v1246+1))]:List Int).isEmpty) (cellsOf Qj v1247)),(JI v223 v225 v222),(.box [(La v641),(.ms 0 (gb v843 ([(W (v1246+1))]:List Int).isEmpty) 0 v1247.length v1247.length)]),(.tok 3 (([]:List Int).length))] (fun _=>(pg_cons (purge_mt Qj _ _ _ _ _) (pg_cons (purge_flA _ _ _ _ _ _) (pg_cons kr (pg_cons kr pg_nil))))) rfl)))⟩)))))))))) (fun hm=>QL zf))))))
def Qw (x:((List (List Int)) × Int × (List Qe) × (List Int) × Nat × (List Int) × Nat × Nat × (List Qa) × Int)):Option ((Nat × (List Int) × Nat × Nat × (List Qa))) :=
 match x with
 | (v20,v2,p0,p1,v221,v222,v223,v224,v225,v226) =>
 if v226 < (v20.length:Int) then
  remM v226 v2>>=fun v626 =>
  Yo (p0,v626)>>=fun v627 =>
  ((if (W ((p1.length:Int) - 1)) < 0 then
   some true
  else
  idx v20 v226>>=fun v630 =>
  idx v630 (W ((p1.length:Int) - 1))>>=fun v631 =>
  some (v631 == 0)
  )>>=fun (v629:Bool) =>
  (if v629=true then
   some true
  else
  some (v626 == 0)
  )>>=fun (v632:Bool) =>
  if v632=true then
   some true
  else
  Yo (p0,(W (v626 - 1)))>>=fun v633 =>
  some (v633 != v627)
  )>>=fun (v628:Bool) =>
  if v628=false then
   Zf (0 < v225.length∧v225.length≤4611686018427387904)>>=fun _ =>
   Zf (v222.length=v224)>>=fun _ =>
   idx v222 (W ((p1.length:Int) - 1))>>=fun v635 =>
   idx v222 (W ((p1.length:Int) - 1))>>=fun v637 =>
   Zf (v222.length=v224)>>=fun _ =>
   idx v222 (W ((p1.length:Int) - 1))>>=fun v638 =>
   setM v222 (W ((p1.length:Int) - 1)) (W (v637+1))>>=fun v640 =>
   Qw (v20,v2,p0,p1,v221,v640,v223,v224,v225,(W (v226+1)))
  else
  idx v20 v226>>=fun v641 =>
  Zf (v222.length=v224)>>=fun _ =>
  Q8 (p1,v20,v226,p0,v2,v223,v225,v626,v627,v222,v641,(flg v221 v225+1),([]:List Int),0)>>=fun (v1243,v1244) =>
  idx p0 v627>>=fun v1248 =>
  if v1248.fill=false then
   idx p0 v627>>=fun v1249 =>
   idx p0 v627>>=fun v1250 =>
   idx p0 v627>>=fun v1251 =>
   idx p0 v627>>=fun v1252 =>
   makeM 8 (p1.length:Int) 0>>=fun v1253 =>
   (if (W ((p1.length:Int) - 1))≥0 then
    idx p0 v627>>=fun v1256 =>
    idx v1253 (W ((p1.length:Int) - 1))>>=fun v1257 =>
    setM v1253 (W ((p1.length:Int) - 1)) v1256.step>>=fun v1258 =>
    idx p0 v627>>=fun v1259 =>
    idx v20 v226>>=fun v1260 =>
    idx v1260 (W ((p1.length:Int) - 1))>>=fun v1261 =>
    some (v1258,(W ((W (v1250.offset+(W ((W (v626 - v1251.at0_)) * v1252.step)))) - (W (v1259.step * v1261)))))
   else
   some (v1253,(W (v1250.offset+(W ((W (v626 - v1251.at0_)) * v1252.step)))))
   )>>=fun ((v1254,v1255):((List Int) × Int)) =>
   Zf (v1254.length=v1253.length)>>=fun _ =>
   flap 120 (fun (p_:Qa) (h_:List Int)=>(⟨⟨p_.box.lo,h_⟩,p_.access⟩:Qa)) v225 v222 (⟨(⟨v641,v1244⟩:Qo),(⟨2,v1249.buffer,v1255,v1254,0,0,0⟩:Qr)⟩:Qa)>>=fun v1263 =>
   Qw (v20,v2,p0,p1,v1243,v1244,(v223+1),v1244.length,v1263,(W (v226+1)))
  else
  flap 120 (fun (p_:Qa) (h_:List Int)=>(⟨⟨p_.box.lo,h_⟩,p_.access⟩:Qa)) v225 v222 (⟨(⟨v641,v1244⟩:Qo),(⟨1,0,0,([]:(List Int)),0,0,0⟩:Qr)⟩:Qa)>>=fun v1264 =>
  Qw (v20,v2,p0,p1,v1243,v1244,(v223+1),v1244.length,v1264,(W (v226+1)))
 else
 some (v221,v222,v223,v224,v225)
 partial_fixpoint
theorem Yp:∀ x r,Qw x=some r→match x with|(v20,v2,p0,p1,v221,v222,v223,v224,v225,v226)=>LQ f32 32 [1,1,1,1,1,1,1,1,0,1,0,0] 2 ⟨kp 231 [(0,(Yz p0)),(1,(La p1)),(5,(Qc v2)),(7,(.ms 1 v223 0 v225.length v225.length)),(8,(ZL v20)),(9,(Qc (W ((p1.length:Int) - 1)))),(10,(Qc v226))],(Jp v221 v222 v223 v224 v225)⟩ (P1 (.exit 0) (fun (v621,v622,v623,v624,v625) d=>⟨sl d 231 [(7,(.ms 1 v623 0 v625.length v625.length))],(Jp v621 v622 v623 v624 v625)⟩) r):=by
 refine Qw.partial_correctness _ (fun Qw Yp x r hm=>?_)
 obtain ⟨v20,v2,p0,p1,v221,v222,v223,v224,v225,v226⟩:=x
 exact lp (Qh (gr 2 (QaU (fun l=>Dat.lst ((List.map Qj) l)) v20 (es:=(List.map (fun l=>Dat.lst ((List.map Qj) l))) v20) rfl (re 1 (ri hm (fun hm=>Qp (Qh (Qn (gr 2 (bi hm fun v626 hx hm=>Q4 rfl (fun _=>QaL (a:=v226) (b:=v2) hx rfl kr kr) (re 1 (gr 2 (bi hm fun v627 hx hm=>cp (J8 hx) (re 1 (Qh (bi hm fun v628 hs hm=>ZD (fun d=>⟨sl d 231 [(0,(Yz p0)),(1,(La p1)),(5,(Qc v2)),(7,(.ms 1 v223 0 v225.length v225.length)),(8,(ZL v20)),(9,(Qc (W ((p1.length:Int) - 1)))),(10,(Qc v226)),(11,(Qc v626)),(12,(Qc v627)),(13,(Ql v628))],(Jp v221 v222 v223 v224 v225)⟩) (have hm:=hs;QaB (Qf 3 (bi hm fun v629 hs hm=>Z8 (j:=12) (fun d=>⟨sl d 231 [(0,(Yz p0)),(1,(La p1)),(5,(Qc v2)),(7,(.ms 1 v223 0 v225.length v225.length)),(8,(ZL v20)),(9,(Qc (W ((p1.length:Int) - 1)))),(10,(Qc v226)),(11,(Qc v626)),(12,(Qc v627)),(109,(Ql v629))],(Jp v221 v222 v223 v224 v225)⟩) (fun d=>Qf 1 (bi hm fun v632 hs hm=>Z8 (j:=16) (fun d=>⟨sl d 231 [(0,(Yz p0)),(1,(La p1)),(5,(Qc v2)),(7,(.ms 1 v223 0 v225.length v225.length)),(8,(ZL v20)),(9,(Qc (W ((p1.length:Int) - 1)))),(10,(Qc v226)),(11,(Qc v626)),(12,(Qc v627)),(113,(Ql v632))],(Jp v221 v222 v223 v224 v225)⟩) (fun d=>Qf 1 (gsb 114 hm (fun hm=>re 8 ⟨kr,zf⟩) (fun hm=>Qf 3 (bi hm fun v633 hx hm=>cp (J8 hx) (re 4 ⟨kr,zf⟩))))) (fun hJ=>gsb 110 hs (fun hm=>Qf 3 zf) (fun hm=>Qf 3 zf)))) (fun hJ=>gs 100 hs (fun hm=>Qf 9 zf) (fun hm=>Qf 2 (bi hm fun v630 hx hm=>Qah 1 (fun l=>Dat.lst ((List.map Qj) l)) v20 v226 v630 (es:=(List.map (fun l=>Dat.lst ((List.map Qj) l))) v20) (d:=(Lb v630)) rfl hx rfl rfl (Qf 2 (QK 1 Qj hm fun v631 hm=>Qf 3 zf)))))))) (fun d=>Qh (ge 2 (rin hm (fun hm=>Qh (Qbm [(5,[1]),(6,[1])] (GF_seg 5 (Qf 2 (Qf 1 (Qf 1 (gi hm fun hl634 hm=>Q4 rfl (fun _=>Qbi (e:=58) (size:=9) (l:=v225.length) (m:=v225.length) (tt:=1) (gg:=v223) hl634 rfl rfl kr kr kr kr) (Xr (GF_op rfl rfl rfl (fl_field (tt:=1) (gg:=v223) (j:=(0+stepN 9 (v225.length - 1))) (w:=0) (e:=58) (cs:=flC Qa.toD 1 0 v221 v224 v225) rfl kr kr kr) (GF_op rfl rfl rfl (fl_field (tt:=1) (gg:=v223) (j:=((0+stepN 9 (v225.length - 1))+0)) (w:=1) (e:=58) (cs:=flC Qa.toD 1 0 v221 v224 v225) rfl kr kr kr) (GF_seg 14 (Q4 rfl (fun _=>Qbu (tt:=1) (te:=58) (gg:=v223) (g:=v221) (n:=v224) (out:=v225) (l:=v225.length) (size:=9) (q:=1) (a:=0+1) (j:=(((0+stepN 9 (v225.length - 1))+0)+1)) Qa.fit hl634 rfl kr (Nat.add_assoc _ _ _) rfl kr rfl kr kr kr kr) (Qf 1 (gi hm fun hl636 hm=>bi hm fun v635 hx hm=>Q4 rfl (fun _=>Yy (e:=3) (n:=(W ((p1.length:Int) - 1))) (j:=((W ((p1.length:Int) - 1))).toNat) (tt:=0) (g:=v221) (lo:=0) (len:=v224) (cap:=v224) (k:=.i64) kr kr rfl kr kr (idx_nat hx) (Nat.lt_of_lt_of_eq (idx_lt hx) hl636)) (bi hm fun v637 hx hm=>Q4 rfl (fun _=>Jo (tt:=0) (g:=v221) (j:=(0+((W ((p1.length:Int) - 1))).toNat)) (e:=3) (cs:=cellsOf Qj v222) (v:=.dat (Qj v637)) kr kr rfl kr (Xz kr) (cells_idx Qj hx)) (Qf 1 (gi hm fun hl639 hm=>bi hm fun v638 hx hm=>Q4 rfl (fun _=>Yy (e:=3) (n:=(W ((p1.length:Int) - 1))) (j:=((W ((p1.length:Int) - 1))).toNat) (tt:=0) (g:=v221) (lo:=0) (len:=v224) (cap:=v224) (k:=.i64) kr kr rfl kr kr (idx_nat hx) (Nat.lt_of_lt_of_eq (idx_lt hx) hl639)) (bi hm fun v640 hx hm=>Yq (fun H=>H.set 0 (Ya v221 v640)) rfl kr (fun _=>Qaa Qj (l:=v222) (n:=(W ((p1.length:Int) - 1))) (y:=(W (v637+1))) hx (fun _=>rfl) kr rfl kr kr kr kr) (Xr (GF_end (QL (R_G (re 3 (Yp _ _ hm _ (prune_of2 (Jp v221 v640 v223 v224 v225) (fun _=>(pg_cons (purge_mt Qj _ _ _ _ _) (pg_cons (purge_fl _ _ _ _ _ (Nat.succ_pos _) _) pg_nil))) rfl))))))))))))))))))))))))) (fun hm=>Qp (Qh (Qbm [(4,[2,1,0,1])] (GF_seg 4 (Qf 2 (bi hm fun v641 hx hm=>Qah 1 (fun l=>Dat.lst ((List.map Qj) l)) v20 v226 v641 (es:=(List.map (fun l=>Dat.lst ((List.map Qj) l))) v20) (d:=(Lb v641)) rfl hx rfl rfl (re 1 (gi hm fun hl642 hm=>GF_op rfl rfl rfl (fl_restart (sh:=(fun (p_:Qa) (h_:List Int)=>(⟨⟨p_.box.lo,h_⟩,p_.access⟩:Qa))) (ei:=3) (te:=58) (g0:=v221) (g1:=v223) (out:=v225) (hi:=v222) (n:=v224) (q:=1) (rest:=[]) (cs:=[(La v641),Ea]) Qa.fit (fun _ _=>rfl) hl642 rfl kr kr kr) (GF_seg 7 (re 2 (GF_end (Qh (ge 1 (Qn (ru1 hm (XC _) (fun ⟨v1243,v1244⟩ d hm=>ge 3 (Qh (gr 2 (QK 6 Qe.toD hm fun v1248 hm=>re 3 (rin hm (fun hm=>Qh (YS (Qf 2 (QK 6 Qe.toD hm fun v1249 hm=>Qf 4 (QK 6 Qe.toD hm fun v1250 hm=>Qf 5 (QK 6 Qe.toD hm fun v1251 hm=>Qf 5 (QK 6 Qe.toD hm fun v1252 hm=>Qf 5 (Q2 Qj p1 (bi hm fun v1253 hx hm=>Yq (v:=.ms 6 (mg v1253) 0 v1253.length v1253.length) (fun H=>H++[.mt 3 (mg v1253) (cellsOf Qj v1253)]) rfl kr (by intro K hk; exact Qbw 6 Qj (z:=0) (n:=(p1.length:Int)) (bytes:=8) (e:=3) (os:=[]) hx kr kr kr kr rfl rfl rfl kr kr kr hk) (re 2 ⟨kr,ge 2 (bi2 hm fun v1254 v1255 hs hm=>ZD (fun d=>⟨sl d 231 [(0,(Yz p0)),(1,(La p1)),(5,(Qc v2)),(7,(.ms 1 v223 0 v225.length v225.length)),(8,(ZL v20)),(9,(Qc (W ((p1.length:Int) - 1)))),(10,(Qc v226)),(14,(.ptr 2 0)),(16,(.ptr 5 0))],[(Ya v1243 v1244),(JI v223 v225 v222),(JK v641 v1243 v1244.length),(.tok 3 (([]:List Int).length)),(.tok 3 (([]:List Int).length)),(.box [(Qc 2),(Qc v1249.buffer),(Qc v1255),(.ms 6 (mg v1253) 0 v1253.length v1253.length),(Qc 0),(Qc 0),(Qc 0)]),(.mt 3 (mg v1253) (cellsOf Qj v1254))]⟩) (have hm:=hs;ri hm (fun hm=>Qh (YS (Qf 5 (QK 6 Qe.toD hm fun v1256 hm=>Qf 2 (bi hm fun v1257 hx hm=>Q4 rfl (fun _=>Yy (e:=3) (n:=(W ((p1.length:Int) - 1))) (j:=((W ((p1.length:Int) - 1))).toNat) (tt:=6) (g:=(mg v1253)) (lo:=0) (len:=v1253.length) (cap:=v1253.length) (k:=.i64) kr kr rfl kr kr (idx_nat hx) (Nat.lt_of_lt_of_eq (idx_lt hx) rfl)) (bi hm fun v1258 hx hm=>Yq (fun H=>H.set 6 (.mt 3 (mg v1253) (cellsOf Qj v1258))) rfl kr (fun _=>Qaa Qj (l:=v1253) (n:=(W ((p1.length:Int) - 1))) (y:=v1256.step) hx (fun _=>rfl) kr rfl kr kr kr kr) (Xr ⟨kr,YS (Qf 4 (QK 6 Qe.toD hm fun v1259 hm=>Qf 4 (bi hm fun v1260 hx hm=>Qah 1 (fun l=>Dat.lst ((List.map Qj) l)) v20 v226 v1260 (es:=(List.map (fun l=>Dat.lst ((List.map Qj) l))) v20) (d:=(Lb v1260)) rfl hx rfl rfl (Qf 2 (QK 1 Qj hm fun v1261 hm=>re 5 ⟨kr,zf⟩)))))⟩))))))) (fun hm=>Qp zf)) (fun d=>Qbm [(4,[3]),(5,[4])] (GF_seg 4 (Qf 2 (gi hm fun hl1262 hm=>Yq (v:=(.dat (.agg [(Qj 2),(Qj v1249.buffer),(Qj v1255),(Lb v1254),(Qj 0),(Qj 0),(Qj 0)]))) (fun H=>(H.set 6 (.mt 3 ((mg v1253)+1) []))) rfl kr (fun _=>JY (n:=7) (i:=5) (off:=0) (bs:=[(Qc 2),(Qc v1249.buffer),(Qc v1255),(.ms 6 (mg v1253) 0 v1253.length v1253.length),(Qc 0),(Qc 0),(Qc 0)]) (cs:=[(Qc 2),(Qc v1249.buffer),(Qc v1255),(.ms 6 (mg v1253) 0 v1253.length v1253.length),(Qc 0),(Qc 0),(Qc 0)]) rfl rfl kr kr kr kr kr rfl (cl_dat (cl_dat (cl_dat (cl_ms Qj (fun _=>rfl) kr hl1262 (cl_dat (cl_dat (cl_dat cl_nil)))))))) (re 1 (GF_op rfl rfl rfl (fl_one (e:=58) (size:=9) (x:=.tmp 227) (cs:=[(La v641),(.ms 0 v1243 0 v1244.length v1244.length),(Qc 2),(Qc v1249.buffer),(Qc v1255),(La v1254),(Qc 0),(Qc 0),(Qc 0)]) rfl kr kr kr kr kr) (bi hm fun v1263 hx hm=>GF_op rfl rfl rfl (fl_append (sh:=(fun (p_:Qa) (h_:List Int)=>(⟨⟨p_.box.lo,h_⟩,p_.access⟩:Qa))) (out:=v225) (hi:=v222) (p:=(⟨(⟨v641,v1244⟩:Qo),(⟨2,v1249.buffer,v1255,v1254,0,0,0⟩:Qr)⟩:Qa)) (v:=v1263) (ei:=3) (te:=58) (bytes:=120) (gg:=v1243) (g1:=v223) (i:=7) (l:=v225.length) (hc:=cellsOf Qj v1244) (rest:=[(JK v641 v1243 v1244.length),(.tok 3 (([]:List Int).length)),(.tok 3 (([]:List Int).length)),(.box [(Qc 2),(Qc v1249.buffer),(Qc v1255),(.ms 6 (mg v1253) 0 v1253.length v1253.length),(Qc 0),(Qc 0),(Qc 0)]),(.mt 3 ((mg v1253)+1) (cellsOf Qj ([]:List Int))),(.box [(La v641),(.ms 0 v1243 0 v1244.length v1244.length),(Qc 2),(Qc v1249.buffer),(Qc v1255),(La v1254),(Qc 0),(Qc 0),(Qc 0)])]) (q:=1) (n:=v1244.length) (size:=9) Qa.fit hx rfl rfl kr kr kr kr kr kr kr kr kr) (GF_seg 7 (re 1 (GF_end (R_G (re 3 (Yp _ _ hm _ (prune_of2 [(Ya v1243 v1244),(.mt 58 (v223+1) (flC Qa.toD 1 0 v1243 v1244.length v1263))] (fun _=>(pg_cons (purge_mt Qj _ _ _ _ _) (pg_cons (purge_fl _ _ _ _ _ (Nat.succ_pos _) _) pg_nil))) rfl)))))))))))))))⟩)))))))))) (fun hm=>Qp (Qbm [(4,[3]),(5,[4])] (GF_seg 4 (Qf 2 (Yq (v:=(.dat (.agg [(Qj 1),(Qj 0),(Qj 0),Eb,(Qj 0),(Qj 0),(Qj 0)]))) (fun H=>H) rfl kr (fun _=>JY (n:=7) (i:=5) (off:=0) (bs:=[(Qc 1),(Qc 0),(Qc 0),(.vec 4 []),(Qc 0),(Qc 0),(Qc 0)]) (cs:=[(Qc 1),(Qc 0),(Qc 0),(.vec 4 []),(Qc 0),(Qc 0),(Qc 0)]) rfl rfl kr kr kr kr kr rfl (cl_dat (cl_dat (cl_dat (cl_vec (cl_dat (cl_dat (cl_dat cl_nil)))))))) (re 1 (GF_op rfl rfl rfl (fl_one (e:=58) (size:=9) (x:=.tmp 227) (cs:=[(La v641),(.ms 0 v1243 0 v1244.length v1244.length),(Qc 1),(Qc 0),(Qc 0),Ea,(Qc 0),(Qc 0),(Qc 0)]) rfl kr kr kr kr kr) (bi hm fun v1264 hx hm=>GF_op rfl rfl rfl (fl_append (sh:=(fun (p_:Qa) (h_:List Int)=>(⟨⟨p_.box.lo,h_⟩,p_.access⟩:Qa))) (out:=v225) (hi:=v222) (p:=(⟨(⟨v641,v1244⟩:Qo),(⟨1,0,0,([]:(List Int)),0,0,0⟩:Qr)⟩:Qa)) (v:=v1264) (ei:=3) (te:=58) (bytes:=120) (gg:=v1243) (g1:=v223) (i:=6) (l:=v225.length) (hc:=cellsOf Qj v1244) (rest:=[(JK v641 v1243 v1244.length),(.tok 3 (([]:List Int).length)),(.tok 3 (([]:List Int).length)),(.box [(Qc 1),(Qc 0),(Qc 0),(.vec 4 []),(Qc 0),(Qc 0),(Qc 0)]),(.box [(La v641),(.ms 0 v1243 0 v1244.length v1244.length),(Qc 1),(Qc 0),(Qc 0),Ea,(Qc 0),(Qc 0),(Qc 0)])]) (q:=1) (n:=v1244.length) (size:=9) Qa.fit hx rfl rfl kr kr kr kr kr kr kr kr kr) (GF_seg 7 (re 1 (GF_end (R_G (re 3 (Yp _ _ hm _ (prune_of2 [(Ya v1243 v1244),(.mt 58 (v223+1) (flC Qa.toD 1 0 v1243 v1244.length v1264))] (fun _=>(pg_cons (purge_mt Qj _ _ _ _ _) (pg_cons (purge_fl _ _ _ _ _ (Nat.succ_pos _) _) pg_nil))) rfl)))))))))))))))))))) (hst:=(prune_of2 [(.mt 3 (flg v221 v225+1) (cellsOf Qj ([]:List Int))),(JI v223 v225 v222),(.box [(La v641),(.ms 0 (flg v221 v225+1) 0 (([]:List Int).length) (([]:List Int).length))]),(.tok 3 (([]:List Int).length))] (fun _=>(pg_cons (purge_mt Qj _ _ _ _ _) (pg_cons (purge_flA _ _ _ _ _ _) (pg_cons kr (pg_cons kr pg_nil))))) rfl))))))))))))))))))))))))))))))) (fun hm=>QL zf))))))
def Q7 (x:((List Qe) × (List Int))):Option (List Qa) :=
 match x with
 | (p0,p1) =>
 ZW p1>>=fun v1 =>
 if v1=0 then
  some ([]:(List Qa))
 else
 Yt p0>>=fun v2 =>
 (if v2=0 then
  some true
 else
 if (p0.length:Int)=1 then
  idx p0 0>>=fun v4 =>
  some v4.fill
 else
 some false
 )>>=fun (v3:Bool) =>
 if v3=true then
  YN (p1,(⟨1,0,0,([]:(List Int)),0,0,0⟩:Qr))>>=fun v5 =>
  some v5
 else
 if (p0.length:Int)=1 then
  idx p0 0>>=fun v6 =>
  idx p0 0>>=fun v7 =>
  idx p0 0>>=fun v8 =>
  YA (p1,v8.step)>>=fun v9 =>
  (idx p0 0>>=fun v11 =>
  if v11.step≠0 then
   ZW p1>>=fun v12 =>
   some (decide (v12 > v2))
  else
  some false
  )>>=fun (v10:Bool) =>
  (if v10=true then
   YA (p1,1)>>=fun v17 =>
   idx p0 0>>=fun v18 =>
   some ((3:Int),v17,v18.step,v2)
  else
  some ((2:Int),v9,(0:Int),(0:Int))
  )>>=fun ((v13,v14,v15,v16):(Int × (List Int) × Int × Int)) =>
  YN (p1,(⟨v13,v6.buffer,v7.offset,v14,0,v15,v16⟩:Qr))>>=fun v19 =>
  some v19
 else
 ZS p1>>=fun v20 =>
 Qw (v20,v2,p0,p1,0,([]:List Int),0,0,([]:List Qa),0)>>=fun (v621,v622,v623,v624,v625) =>
 Zf (v622.length=v624)>>=fun _ =>
 some (flP (fun (p_:Qa) (h_:List Int)=>(⟨⟨p_.box.lo,h_⟩,p_.access⟩:Qa)) v625 v622)
theorem Qax {p0 p1 r0} (hm:Q7 (p0,p1)=some r0):FQ 32 [(.lst ((List.map Qe.toD) p0)),(Lb p1)] (Z9 r0):=by
 unfold Q7 at hm
 exact fp (fn:=f32) rfl (ge 1 (Qh (gr 1 (bi hm fun v1 hx hm=>cp (XT hx) (re 1 (riq hm (fun hm=>ge 1 (Qq zf)) (fun hm=>Qp (gr 1 (bi hm fun v2 hx hm=>cp (QaI hx) (re 1 (Qh (Qh (bi hm fun v3 hs hm=>ZD (fun d=>⟨sl d 231 [(0,(Yz p0)),(1,(La p1)),(5,(Qc v2)),(34,(Ql v3))],[JE]⟩) (have hm:=hs;R_G (Qf 3 (gsq 24 hm (fun hm=>re 10 zf) (fun hm=>Qf 1 (Q2 Qe.toD p0 (Qf 2 (gsq 28 hm (fun hm=>Qf 1 (QK 6 Qe.toD hm fun v4 hm=>re 4 zf)) (fun hm=>re 6 zf)))))))) (fun d=>rib hm (fun hm=>gr 2 (bi hm fun v5 hx hm=>cp (JT hx) (re 1 (Qq zf)))) (fun hm=>Qp (Qh (gr 1 (Q2 Qe.toD p0 (re 1 (riq hm (fun hm=>Qh (YS (Qf 1 (QK 6 Qe.toD hm fun v6 hm=>Qf 3 (QK 6 Qe.toD hm fun v7 hm=>Qf 4 (QK 6 Qe.toD hm fun v8 hm=>Qf 2 (bi hm fun v9 hx hm=>cp (JM hx) (re 3 ⟨kr,Qh (Qh (bi hm fun v10 hs hm=>ZD (fun d=>⟨sl d 231 [(0,(Yz p0)),(1,(La p1)),(5,(Qc v2)),(6,(.ptr 1 0)),(66,(Ql v10))],[JE,(.box [(Qc 2),(Qc v6.buffer),(Qc v7.offset),(La v9),(Qc 0),(Qc 0),(Qc 0)])]⟩) (have hm:=hs;R_G (Qf 1 (QK 6 Qe.toD hm fun v11 hm=>Qf 4 (gsx 61 hm (fun hm=>Qf 1 (bi hm fun v12 hx hm=>cp (XT hx) (re 3 zf))) (fun hm=>re 5 zf))))) (fun d=>bi4 hm fun v13 v14 v15 v16 hs hm=>ZD (fun d=>⟨sl d 231 [(1,(La p1)),(6,(.ptr 1 0))],[JE,(.box [(Qc v13),(Qc v6.buffer),(Qc v7.offset),(La v14),(Qc 0),(Qc v15),(Qc v16)])]⟩) (have hm:=hs;rib hm (fun hm=>ge 2 (gr 1 (bi hm fun v17 hx hm=>cp (JM hx) (re 2 (gr 1 (QK 6 Qe.toD hm fun v18 hm=>re 4 (R_G (re 3 zf)))))))) (fun hm=>Qp zf)) (fun d=>gr 2 (bi hm fun v19 hx hm=>cp (JT hx) (re 1 (Qq zf)))))))⟩)))))))) (fun hm=>Qp (ge 1 (gr 1 (bi hm fun v20 hx hm=>cp (JL hx) (re 1 (gr 1 (Q2 Qj p1 (re 2 (Qh (ge 1 (Qn (ru1 hm (Yp _) (fun ⟨v621,v622,v623,v624,v625⟩ d hm=>Qh (Qbm [(0,[5])] (gi hm fun hl1265 hm=>GF_op rfl rfl rfl (fl_take (sh:=(fun (p_:Qa) (h_:List Int)=>(⟨⟨p_.box.lo,h_⟩,p_.access⟩:Qa))) (ei:=3) (te:=58) (g0:=v621) (g1:=v623) (out:=v625) (hi:=v622) (n:=v624) (q:=1) (l:=v625.length) (rest:=[]) (size:=9) Qa.fit (fun _ _=>rfl) hl1265 rfl rfl kr kr kr kr) (GF_seg 2 (re 1 (GF_end (Qq zf))))))) (hst:=(prune_of2 [JE,(.mt 58 0 (flC Qa.toD 1 0 0 0 ([]:List Qa)))] (fun _=>(pg_cons (purge_mt Qj _ _ _ _ _) (pg_cons (purge_fl _ _ _ _ _ (Nat.succ_pos _) _) pg_nil))) rfl))))))))))))))))))))))))))))))))))
def ZA (x:((List Qd) × (List Qa) × Int)):Option ((List Qa)) :=
 match x with
 | (p0,v201,v202) =>
 if v202 < (p0.length:Int) then
  idx p0 v202>>=fun v602 =>
  idx p0 v202>>=fun v603 =>
  idx p0 v202>>=fun v604 =>
  app 120 v201 ([(⟨(⟨v602.box.lo,v603.box.hi⟩:Qo),(⟨v604.access.kind,v604.access.buffer,v604.access.base,v604.access.strides,v604.access.start,v604.access.step,v604.access.mod⟩:Qr)⟩:Qa)]:List Qa)>>=fun v605 =>
  ZA (p0,v605,(W (v202+1)))
 else
 some v201
 partial_fixpoint
theorem XZ:∀ x r,ZA x=some r→match x with|(p0,v201,v202)=>LQ f15 15 [1,1,0,1,0,0] 1 ⟨kp 67 [(0,(Jr p0)),(3,(.vec 0 ((List.map Qa.toD) v201))),(4,(Qc v202))],[(.tok 58 v201.length)]⟩ (P1 (.exit 0) (fun v601 d=>⟨sl d 67 [(3,(.vec 0 ((List.map Qa.toD) v601)))],[(.tok 58 v601.length)]⟩) r):=by
 refine ZA.partial_correctness _ (fun ZA XZ x r hm=>?_)
 obtain ⟨p0,v201,v202⟩:=x
 exact lp (Qh (gr 2 (Q2 Qd.toD p0 (re 1 (ri hm (fun hm=>Qp (Qh (Qn (ge 1 (gr 2 (QK 9 Qd.toD hm fun v602 hm=>re 6 (gr 2 (QK 9 Qd.toD hm fun v603 hm=>re 6 (gr 2 (QK 9 Qd.toD hm fun v604 hm=>re 4 (ge 5 (ge 5 (ge 5 (ge 5 (ge 5 (ge 5 (ge 5 (R_G (Qf 3 (bi hm fun v605 hx hm=>Ji 58 9 120 0 Qa.toD v201 ([(⟨(⟨v602.box.lo,v603.box.hi⟩:Qo),(⟨v604.access.kind,v604.access.buffer,v604.access.base,v604.access.strides,v604.access.start,v604.access.step,v604.access.mod⟩:Qr)⟩:Qa)]:List Qa) v605 (xs:=(List.map Qa.toD) v201) (es:=(List.map Qa.toD) ([(⟨(⟨v602.box.lo,v603.box.hi⟩:Qo),(⟨v604.access.kind,v604.access.buffer,v604.access.base,v604.access.strides,v604.access.start,v604.access.step,v604.access.mod⟩:Qr)⟩:Qa)]:List Qa)) (L:=(List.map Qa.toD)) (fun _=>rfl) rfl rfl Qa.fit hx (re 1 (R_G (re 3 (XZ _ _ hm _ kr)))))))))))))))))))))))) (fun hm=>QL zf))))))
def Y0 (x:(List Qd)):Option (List Qa) :=
 match x with
 | p0 =>
 ZA (p0,([]:List Qa),0)>>=fun v601 =>
 some v601
def J1:(List Qd)→(List Qa)→Prop:=fun x r=>match x,r with
 | p0,r0=>∀ H,PC prog env 15 ([(.lst ((List.map Qd.toD) p0))].map .dat) H (Z9 r0) H
theorem QaN:∀ x r,Y0 x=some r→J1 x r:=by
 intro p0 r0 hm
 unfold Y0 at hm
 unfold J1
 intro H
 refine PC_sx (ds:=[(.lst ((List.map Qd.toD) p0))]) (fn:=f15) rfl ?_
 exact ge 1 (ge 1 (Qh (ge 1 (Qn (ru1 hm (XZ _) fun v601 d hm=>ge 2 (Qq zf))))))
def Zt (x:((List Int) × (List Int) × Int)):Option (Unit ⊕ Unit) :=
 match x with
 | (p0,p1,v201) =>
 if v201 < (p0.length:Int) then
  idx p0 v201>>=fun v601 =>
  idx p1 v201>>=fun v602 =>
  if v601≠v602 then
   some (Sum.inl ())
  else
  Zt (p0,p1,(W (v201+1)))
 else
 some (Sum.inr ())
 partial_fixpoint
theorem XI:∀ x r,Zt x=some r→match x with|(p0,p1,v201)=>LQ f45 45 [1,1,0,1,0,0] 0 ⟨kp 26 [(0,(La p0)),(1,(La p1)),(5,(Qc v201))],[]⟩ (P2 .ret (fun _ d=>⟨sl d 26 [(4,(Ql false))],[]⟩) (.exit 0) (fun _ d=>⟨sl d 26 [],[]⟩) r):=by
 refine Zt.partial_correctness _ (fun Zt XI x r hm=>?_)
 obtain ⟨p0,p1,v201⟩:=x
 exact lp (Qh (gr 2 (Q2 Qj p0 (re 1 (ri hm (fun hm=>Qp (Qh (Qn (Qh (YS (Qf 2 (QK 1 Qj hm fun v601 hm=>Qf 3 (QK 1 Qj hm fun v602 hm=>re 2 ⟨kr,rix hm (fun hm=>ge 1 (Qq zf)) (fun hm=>Qp (R_G (re 3 (XI _ _ hm _ kr))))⟩)))))))) (fun hm=>QL zf))))))
def Ys (x:((List Int) × (List Int))):Option Bool :=
 match x with
 | (p0,p1) =>
 if (p0.length:Int)≠(p1.length:Int) then
  some false
 else
 (
 Zt (p0,p1,0)>>=fun out =>
 match out with
 | .inl _ =>
  some false
 | .inr (_) =>
  some true
 )
theorem Jl {p0 p1 r0} (hm:Ys (p0,p1)=some r0):FQ 45 [(Lb p0),(Lb p1)] (Ql r0):=by
 unfold Ys at hm
 exact fp (fn:=f45) rfl (ge 1 (Qh (gr 1 (Q2 Qj p0 (Qf 1 (Q2 Qj p1 (re 1 (rix hm (fun hm=>ge 1 (Qq zf)) (fun hm=>Qp (Qh (ge 1 (Qn (ru2 hm (XI _) (fun _ d hm=>zf) fun _ d hm=>ge 1 (Qq zf))))))))))))))
def X6 (x:(Qo × Qo)):Option Bool :=
 match x with
 | (p0,p1) =>
 Ys (p0.lo,p1.lo)>>=fun v1 =>
 if v1=true then
  Ys (p0.hi,p1.hi)>>=fun v2 =>
  some v2
 else
 some false
theorem QaO {p0 p1 r0} (hm:X6 (p0,p1)=some r0):FQ 57 [(Qo.toD p0),(Qo.toD p1)] (Ql r0):=by
 unfold X6 at hm
 exact fp (fn:=f57) rfl (ge 3 (gr 4 (bi hm fun v1 hx hm=>cp (Jl hx) (Qf 1 (gsb 10 hm (fun hm=>Qf 4 (bi hm fun v2 hx hm=>cp (Jl hx) (re 2 (Qq zf)))) (fun hm=>re 7 (Qq zf)))))))
def X7 (x:(Qr × Qr)):Option Bool :=
 match x with
 | (p0,p1) =>
 (if p0.kind=p1.kind then
  some (p0.buffer == p1.buffer)
 else
 some false
 )>>=fun (v1:Bool) =>
 (if v1=true then
  some (p0.base == p1.base)
 else
 some false
 )>>=fun (v2:Bool) =>
 (if v2=true then
  some (p0.start == p1.start)
 else
 some false
 )>>=fun (v3:Bool) =>
 (if v3=true then
  some (p0.step == p1.step)
 else
 some false
 )>>=fun (v4:Bool) =>
 (if v4=true then
  some (p0.mod == p1.mod)
 else
 some false
 )>>=fun (v5:Bool) =>
 if v5=true then
  Ys (p0.strides,p1.strides)>>=fun v6 =>
  some v6
 else
 some false
theorem QaP {p0 p1 r0} (hm:X7 (p0,p1)=some r0):FQ 58 [(Qr.toD p0),(Qr.toD p1)] (Ql r0):=by
 unfold X7 at hm
 exact fp (fn:=f58) rfl (ge 3 (Qh (QaB (Qf 6 (bi hm fun v1 hs hm=>Z8 (j:=12) (fun d=>⟨sl d 52 [(2,(.ptr 0 0)),(3,(.ptr 1 0)),(4,(Ql false)),(16,(Ql v1))],[(Q9 p0.kind p0.buffer p0.base p0.strides p0.start p0.step p0.mod),(Q9 p1.kind p1.buffer p1.base p1.strides p1.start p1.step p1.mod)]⟩) (fun d=>Qf 1 (bi hm fun v2 hs hm=>Z8 (j:=19) (fun d=>⟨sl d 52 [(2,(.ptr 0 0)),(3,(.ptr 1 0)),(4,(Ql false)),(23,(Ql v2))],[(Q9 p0.kind p0.buffer p0.base p0.strides p0.start p0.step p0.mod),(Q9 p1.kind p1.buffer p1.base p1.strides p1.start p1.step p1.mod)]⟩) (fun d=>Qf 1 (bi hm fun v3 hs hm=>Z8 (j:=26) (fun d=>⟨sl d 52 [(2,(.ptr 0 0)),(3,(.ptr 1 0)),(4,(Ql false)),(30,(Ql v3))],[(Q9 p0.kind p0.buffer p0.base p0.strides p0.start p0.step p0.mod),(Q9 p1.kind p1.buffer p1.base p1.strides p1.start p1.step p1.mod)]⟩) (fun d=>Qf 1 (bi hm fun v4 hs hm=>Z8 (j:=33) (fun d=>⟨sl d 52 [(2,(.ptr 0 0)),(3,(.ptr 1 0)),(4,(Ql false)),(37,(Ql v4))],[(Q9 p0.kind p0.buffer p0.base p0.strides p0.start p0.step p0.mod),(Q9 p1.kind p1.buffer p1.base p1.strides p1.start p1.step p1.mod)]⟩) (fun d=>Qf 1 (bi hm fun v5 hs hm=>Z8 (j:=40) (fun d=>⟨sl d 52 [(2,(.ptr 0 0)),(3,(.ptr 1 0)),(4,(Ql false)),(44,(Ql v5))],[(Q9 p0.kind p0.buffer p0.base p0.strides p0.start p0.step p0.mod),(Q9 p1.kind p1.buffer p1.base p1.strides p1.start p1.step p1.mod)]⟩) (fun d=>Qf 1 (gsb 45 hm (fun hm=>Qf 4 (bi hm fun v6 hx hm=>cp (Jl hx) (re 2 ⟨kr,Qq zf⟩))) (fun hm=>re 7 ⟨kr,Qq zf⟩))) (fun hJ=>gsb 38 hs (fun hm=>Qf 6 zf) (fun hm=>Qf 6 zf)))) (fun hJ=>gsb 31 hs (fun hm=>Qf 6 zf) (fun hm=>Qf 6 zf)))) (fun hJ=>gsb 24 hs (fun hm=>Qf 6 zf) (fun hm=>Qf 6 zf)))) (fun hJ=>gsb 17 hs (fun hm=>Qf 6 zf) (fun hm=>Qf 6 zf)))) (fun hJ=>gsq 10 hs (fun hm=>Qf 6 zf) (fun hm=>Qf 6 zf)))))))
def ZB (x:((List Qa) × (List Qa) × Int)):Option (Unit ⊕ Unit) :=
 match x with
 | (p0,p1,v201) =>
 if v201 < (p0.length:Int) then
  (idx p0 v201>>=fun v602 =>
  idx p1 v201>>=fun v603 =>
  X6 (v602.box,v603.box)>>=fun v604 =>
  if v604=false then
   some true
  else
  idx p0 v201>>=fun v605 =>
  idx p1 v201>>=fun v606 =>
  X7 (v605.access,v606.access)>>=fun v607 =>
  some (!v607)
  )>>=fun (v601:Bool) =>
  if v601=true then
   some (Sum.inl ())
  else
  ZB (p0,p1,(W (v201+1)))
 else
 some (Sum.inr ())
 partial_fixpoint
theorem X0:∀ x r,ZB x=some r→match x with|(p0,p1,v201)=>LQ f14 14 [1,1,0,1,0,0] 0 ⟨kp 43 [(0,(Z9 p0)),(1,(Z9 p1)),(5,(Qc v201))],[]⟩ (P2 .ret (fun _ d=>⟨sl d 43 [(4,(Ql false))],[]⟩) (.exit 0) (fun _ d=>⟨sl d 43 [],[]⟩) r):=by
 refine ZB.partial_correctness _ (fun ZB X0 x r hm=>?_)
 obtain ⟨p0,p1,v201⟩:=x
 exact lp (Qh (gr 2 (Q2 Qa.toD p0 (re 1 (ri hm (fun hm=>Qp (Qh (Qn (Qh (bi hm fun v601 hs hm=>ZD (fun d=>⟨sl d 43 [(0,(Z9 p0)),(1,(Z9 p1)),(5,(Qc v201)),(42,(Ql v601))],[]⟩) (have hm:=hs;YS (Qf 2 (QK 9 Qa.toD hm fun v602 hm=>Qf 4 (QK 9 Qa.toD hm fun v603 hm=>Qf 2 (bi hm fun v604 hx hm=>cp (QaO hx) (Qf 2 (gsn 29 hm (fun hm=>re 13 ⟨kr,zf⟩) (fun hm=>Qf 2 (QK 9 Qa.toD hm fun v605 hm=>Qf 4 (QK 9 Qa.toD hm fun v606 hm=>Qf 2 (bi hm fun v607 hx hm=>cp (QaP hx) (re 2 ⟨kr,zf⟩)))))))))))) (fun d=>rib hm (fun hm=>ge 1 (Qq zf)) (fun hm=>Qp (R_G (re 3 (X0 _ _ hm _ kr)))))))))) (fun hm=>QL zf))))))
def Y2 (x:((List Qa) × (List Qa))):Option Bool :=
 match x with
 | (p0,p1) =>
 if (p0.length:Int)≠(p1.length:Int) then
  some false
 else
 (
 ZB (p0,p1,0)>>=fun out =>
 match out with
 | .inl _ =>
  some false
 | .inr (_) =>
  some true
 )
theorem QaQ {p0 p1 r0} (hm:Y2 (p0,p1)=some r0):FQ 14 [(.lst ((List.map Qa.toD) p0)),(.lst ((List.map Qa.toD) p1))] (Ql r0):=by
 unfold Y2 at hm
 exact fp (fn:=f14) rfl (ge 1 (Qh (gr 1 (Q2 Qa.toD p0 (Qf 1 (Q2 Qa.toD p1 (re 1 (rix hm (fun hm=>ge 1 (Qq zf)) (fun hm=>Qp (Qh (ge 1 (Qn (ru2 hm (X0 _) (fun _ d hm=>zf) fun _ d hm=>ge 1 (Qq zf))))))))))))))
def ZH (x:(Qo × Int)):Option (Unit ⊕ Unit) :=
 match x with
 | (p0,v202) =>
 if v202 < (p0.lo.length:Int) then
  (idx p0.lo v202>>=fun v603 =>
  (if v603 < 0 then
   some true
  else
  idx p0.lo v202>>=fun v605 =>
  idx p0.hi v202>>=fun v606 =>
  some (decide (v605 > v606))
  )>>=fun (v604:Bool) =>
  if v604=true then
   some true
  else
  idx p0.hi v202>>=fun v607 =>
  some (decide (v607 > 65536))
  )>>=fun (v602:Bool) =>
  if v602=true then
   some (Sum.inl ())
  else
  ZH (p0,(W (v202+1)))
 else
 some (Sum.inr ())
 partial_fixpoint
theorem XN:∀ x r,ZH x=some r→match x with|(p0,v202)=>LQ f59 59 [1,1,0,1,0,0] 1 ⟨kp 51 [(1,(.ptr 0 0)),(3,(Qc v202))],[(Zg p0.lo p0.hi)]⟩ (P2 .ret (fun _ d=>⟨sl d 51 [(2,(Ql false))],[(Zg p0.lo p0.hi)]⟩) (.exit 0) (fun _ d=>⟨sl d 51 [],[(Zg p0.lo p0.hi)]⟩) r):=by
 refine ZH.partial_correctness _ (fun ZH XN x r hm=>?_)
 obtain ⟨p0,v202⟩:=x
 exact lp (Qh (gr 3 (Q2 Qj p0.lo (re 1 (ri hm (fun hm=>Qp (Qh (Qn (Qh (bi hm fun v602 hs hm=>ZD (fun d=>⟨sl d 51 [(1,(.ptr 0 0)),(3,(Qc v202)),(50,(Ql v602))],[(Zg p0.lo p0.hi)]⟩) (have hm:=hs;Qbz (Qf 3 (QK 1 Qj hm fun v603 hm=>Qf 3 (bi hm fun v604 hs hm=>Z8 (j:=19) (fun d=>⟨sl d 51 [(1,(.ptr 0 0)),(3,(Qc v202)),(42,(Ql v604))],[(Zg p0.lo p0.hi)]⟩) (fun d=>Qf 1 (gsb 43 hm (fun hm=>re 7 ⟨kr,zf⟩) (fun hm=>Qf 3 (QK 1 Qj hm fun v607 hm=>re 3 ⟨kr,zf⟩)))) (fun hJ=>gs 30 hs (fun hm=>Qf 12 zf) (fun hm=>Qf 3 (QK 1 Qj hm fun v605 hm=>Qf 4 (QK 1 Qj hm fun v606 hm=>Qf 3 zf)))))))) (fun d=>rib hm (fun hm=>ge 1 (Qq zf)) (fun hm=>Qp (R_G (re 3 (XN _ _ hm _ kr)))))))))) (fun hm=>QL zf))))))
def YM (x:Qo):Option Bool :=
 match x with
 | p0 =>
 (if (p0.lo.length:Int)≠(p0.hi.length:Int) then
  some true
 else
 some (decide ((p0.lo.length:Int) > 16))
 )>>=fun (v1:Bool) =>
 if v1=true then
  some false
 else
 (
 ZH (p0,0)>>=fun out =>
 match out with
 | .inl _ =>
  some false
 | .inr (_) =>
  some true
 )
theorem JS {p0 r0} (hm:YM p0=some r0):FQ 59 [(Qo.toD p0)] (Ql r0):=by
 unfold YM at hm
 exact fp (fn:=f59) rfl (ge 2 (Qh (Qh (bi hm fun v1 hs hm=>ZD (fun d=>⟨sl d 51 [(1,(.ptr 0 0)),(16,(Ql v1))],[(Zg p0.lo p0.hi)]⟩) (have hm:=hs;R_G (Qf 2 (Q2 Qj p0.lo (Qf 2 (Q2 Qj p0.hi (Qf 2 (gsx 11 hm (fun hm=>re 5 zf) (fun hm=>Qf 2 (Q2 Qj p0.lo (re 2 zf)))))))))) (fun d=>rib hm (fun hm=>ge 1 (Qq zf)) (fun hm=>Qp (Qh (ge 1 (Qn (ru2 hm (XN _) (fun _ d hm=>zf) fun _ d hm=>ge 1 (Qq zf)))))))))))
def ZI (x:(Qo × Int)):Option (Unit ⊕ Unit) :=
 match x with
 | (p0,v201) =>
 if v201 < (p0.lo.length:Int) then
  idx p0.lo v201>>=fun v601 =>
  idx p0.hi v201>>=fun v602 =>
  if v601≥v602 then
   some (Sum.inl ())
  else
  ZI (p0,(W (v201+1)))
 else
 some (Sum.inr ())
 partial_fixpoint
theorem XO:∀ x r,ZI x=some r→match x with|(p0,v201)=>LQ f60 60 [1,0,1,0,0] 1 ⟨kp 22 [(1,(.ptr 0 0)),(3,(Qc v201))],[(Zg p0.lo p0.hi)]⟩ (P2 .ret (fun _ d=>⟨sl d 22 [(2,(Ql true))],[(Zg p0.lo p0.hi)]⟩) (.exit 0) (fun _ d=>⟨sl d 22 [],[(Zg p0.lo p0.hi)]⟩) r):=by
 refine ZI.partial_correctness _ (fun ZI XO x r hm=>?_)
 obtain ⟨p0,v201⟩:=x
 exact lp (Qh (gr 3 (Q2 Qj p0.lo (re 1 (ri hm (fun hm=>Qp (Qh (Qn (Qh (YS (Qf 3 (QK 1 Qj hm fun v601 hm=>Qf 4 (QK 1 Qj hm fun v602 hm=>re 2 ⟨kr,ri hm (fun hm=>ge 1 (Qq zf)) (fun hm=>Qp (R_G (re 3 (XO _ _ hm _ kr))))⟩)))))))) (fun hm=>QL zf))))))
def Xj (x:Qo):Option Bool :=
 match x with
 | p0 =>
 (
 ZI (p0,0)>>=fun out =>
 match out with
 | .inl _ =>
  some true
 | .inr (_) =>
  some false
 )
theorem QaH {p0 r0} (hm:Xj p0=some r0):FQ 60 [(Qo.toD p0)] (Ql r0):=by
 unfold Xj at hm
 exact fp (fn:=f60) rfl (ge 2 (Qh (ge 1 (Qn (ru2 hm (XO _) (fun _ d hm=>zf) fun _ d hm=>ge 1 (Qq zf))))))
def ZX (x:(Int × Int)):Option Bool :=
 match x with
 | (p0,p1) =>
 if p0≥(W (0 - p1)) then
  some (decide (p0≤p1))
 else
 some false
theorem Y7 {p0 p1 r0} (hm:ZX (p0,p1)=some r0):FQ 170 [(Qj p0),(Qj p1)] (Ql r0):=by
 unfold ZX at hm
 exact fp (fn:=f170) rfl (ge 1 (gr 5 (gs 9 hm (fun hm=>re 5 (Qq zf)) (fun hm=>re 5 (Qq zf)))))
def Zn (x:(Qr × Int × Int)):Option (Unit ⊕ Unit) :=
 match x with
 | (p0,p1,v201) =>
 if v201 < (p0.strides.length:Int) then
  idx p0.strides v201>>=fun v601 =>
  ZX (v601,p1)>>=fun v602 =>
  if v602=false then
   some (Sum.inl ())
  else
  Zn (p0,p1,(W (v201+1)))
 else
 some (Sum.inr ())
 partial_fixpoint
theorem Xo:∀ x r,Zn x=some r→match x with|(p0,p1,v201)=>LQ f123 123 [1,0,1,0,0] 1 ⟨kp 49 [(1,(Qc p1)),(2,(.ptr 0 0)),(5,(Qc v201))],[(Q9 p0.kind p0.buffer p0.base p0.strides p0.start p0.step p0.mod)]⟩ (P2 .ret (fun _ d=>⟨sl d 49 [(4,(Ql false))],[(Q9 p0.kind p0.buffer p0.base p0.strides p0.start p0.step p0.mod)]⟩) (.exit 0) (fun _ d=>⟨sl d 49 [(1,(Qc p1)),(2,(.ptr 0 0))],[(Q9 p0.kind p0.buffer p0.base p0.strides p0.start p0.step p0.mod)]⟩) r):=by
 refine Zn.partial_correctness _ (fun Zn Xo x r hm=>?_)
 obtain ⟨p0,p1,v201⟩:=x
 exact lp (Qh (gr 3 (Q2 Qj p0.strides (re 1 (ri hm (fun hm=>Qp (Qh (Qn (gr 3 (QK 1 Qj hm fun v601 hm=>Qf 2 (bi hm fun v602 hx hm=>cp (Y7 hx) (re 1 (rin hm (fun hm=>ge 1 (Qq zf)) (fun hm=>Qp (R_G (re 3 (Xo _ _ hm _ kr)))))))))))) (fun hm=>QL zf))))))
def YJ (x:(Qr × Int)):Option Bool :=
 match x with
 | (p0,p1) =>
 (
 Zn (p0,p1,0)>>=fun out =>
 match out with
 | .inl _ =>
  some false
 | .inr (_) =>
  ZX (p0.buffer,p1)>>=fun v603 =>
  (if v603=true then
   ZX (p0.base,p1)>>=fun v605 =>
   some v605
  else
  some false
  )>>=fun (v604:Bool) =>
  (if v604=true then
   ZX (p0.start,p1)>>=fun v607 =>
   some v607
  else
  some false
  )>>=fun (v606:Bool) =>
  (if v606=true then
   ZX (p0.step,p1)>>=fun v609 =>
   some v609
  else
  some false
  )>>=fun (v608:Bool) =>
  if v608=true then
   ZX (p0.mod,p1)>>=fun v610 =>
   some v610
  else
  some false
 )
theorem Qam {p0 p1 r0} (hm:YJ (p0,p1)=some r0):FQ 123 [(Qr.toD p0),(Qj p1)] (Ql r0):=by
 unfold YJ at hm
 exact fp (fn:=f123) rfl (ge 2 (Qh (ge 1 (Qn (ru2 hm (Xo _) (fun _ d hm=>zf) fun _ d hm=>Qh (QaB (Qf 3 (bi hm fun v603 hx hm=>cp (Y7 hx) (Qf 1 (bi hm fun v604 hs hm=>Z8 (j:=10) (fun d=>⟨sl d 49 [(1,(Qc p1)),(2,(.ptr 0 0)),(30,(Ql v604))],[(Q9 p0.kind p0.buffer p0.base p0.strides p0.start p0.step p0.mod)]⟩) (fun d=>Qf 1 (bi hm fun v606 hs hm=>Z8 (j:=16) (fun d=>⟨sl d 49 [(1,(Qc p1)),(2,(.ptr 0 0)),(36,(Ql v606))],[(Q9 p0.kind p0.buffer p0.base p0.strides p0.start p0.step p0.mod)]⟩) (fun d=>Qf 1 (bi hm fun v608 hs hm=>Z8 (j:=22) (fun d=>⟨sl d 49 [(1,(Qc p1)),(2,(.ptr 0 0)),(42,(Ql v608))],[(Q9 p0.kind p0.buffer p0.base p0.strides p0.start p0.step p0.mod)]⟩) (fun d=>Qf 1 (gsb 43 hm (fun hm=>Qf 3 (bi hm fun v610 hx hm=>cp (Y7 hx) (re 2 ⟨kr,Qq zf⟩))) (fun hm=>re 6 ⟨kr,Qq zf⟩))) (fun hJ=>gsb 37 hs (fun hm=>Qf 3 (bi hm fun v609 hx hm=>cp (Y7 hx) (Qf 1 zf))) (fun hm=>Qf 5 zf)))) (fun hJ=>gsb 31 hs (fun hm=>Qf 3 (bi hm fun v607 hx hm=>cp (Y7 hx) (Qf 1 zf))) (fun hm=>Qf 5 zf)))) (fun hJ=>gsb 25 hs (fun hm=>Qf 3 (bi hm fun v605 hx hm=>cp (Y7 hx) (Qf 1 zf))) (fun hm=>Qf 5 zf))))))))))))
def Zp (x:(Qr × Int)):Option Bool :=
 match x with
 | (p0,p1) =>
 ((if p1 < 0 then
  some true
 else
 some (decide (p1 > 16))
 )>>=fun (v2:Bool) =>
 (if v2=true then
  some true
 else
 YJ ((⟨p0.kind,p0.buffer,p0.base,p0.strides,p0.start,p0.step,p0.mod⟩:Qr),1099511627776)>>=fun v4 =>
 some (!v4)
 )>>=fun (v3:Bool) =>
 if v3=true then
  some true
 else
 some (decide (p0.buffer < 0))
 )>>=fun (v1:Bool) =>
 if v1=true then
  some false
 else
 if p0.kind=1 then
  (if p0.buffer=0 then
   some (p0.base == 0)
  else
  some false
  )>>=fun (v5:Bool) =>
  (if v5=true then
   some ((p0.strides.length:Int) == 0)
  else
  some false
  )>>=fun (v6:Bool) =>
  (if v6=true then
   some (p0.start == 0)
  else
  some false
  )>>=fun (v7:Bool) =>
  (if v7=true then
   some (p0.step == 0)
  else
  some false
  )>>=fun (v8:Bool) =>
  if v8=true then
   some (p0.mod == 0)
  else
  some false
 else
 if p0.kind=2 then
  (if (p0.strides.length:Int)=p1 then
   some (p0.start == 0)
  else
  some false
  )>>=fun (v9:Bool) =>
  (if v9=true then
   some (p0.step == 0)
  else
  some false
  )>>=fun (v10:Bool) =>
  if v10=true then
   some (p0.mod == 0)
  else
  some false
 else
 if p0.kind=3 then
  if (p0.strides.length:Int)=p1 then
   some (decide (p0.mod > 0))
  else
  some false
 else
 some false
theorem QaG {p0 p1 r0} (hm:Zp (p0,p1)=some r0):FQ 61 [(Qr.toD p0),(Qj p1)] (Ql r0):=by
 unfold Zp at hm
 exact fp (fn:=f61) rfl (ge 2 (Qh (Qh (bi hm fun v1 hs hm=>ZD (fun d=>⟨sl d 88 [(1,(Qc p1)),(2,(.ptr 0 0)),(20,(Ql v1))],[(Q9 p0.kind p0.buffer p0.base p0.strides p0.start p0.step p0.mod)]⟩) (have hm:=hs;QaB (Qf 3 (bi hm fun v2 hs hm=>Z8 (j:=6) (fun d=>⟨sl d 88 [(1,(Qc p1)),(2,(.ptr 0 0)),(10,(Ql v2))],[(Q9 p0.kind p0.buffer p0.base p0.strides p0.start p0.step p0.mod)]⟩) (fun d=>Qf 1 (bi hm fun v3 hs hm=>Z8 (j:=11) (fun d=>⟨sl d 88 [(1,(Qc p1)),(2,(.ptr 0 0)),(15,(Ql v3))],[(Q9 p0.kind p0.buffer p0.base p0.strides p0.start p0.step p0.mod)]⟩) (fun d=>Qf 1 (gsb 16 hm (fun hm=>re 4 ⟨kr,zf⟩) (fun hm=>re 4 ⟨kr,zf⟩))) (fun hJ=>gsb 11 hs (fun hm=>Qf 4 zf) (fun hm=>Qf 1 (bi hm fun v4 hx hm=>cp (Qam hx) (Qf 2 zf)))))) (fun hJ=>gs 7 hs (fun hm=>Qf 3 zf) (fun hm=>Qf 3 zf))))) (fun d=>rib hm (fun hm=>ge 1 (Qq zf)) (fun hm=>Qp (Qh (ge 2 (Qn (ge 2 (riq hm (fun hm=>Qh (QaB (Qf 4 (bi hm fun v5 hs hm=>Z8 (j:=8) (fun d=>⟨sl d 88 [(2,(.ptr 0 0)),(32,(Ql v5))],[(Q9 p0.kind p0.buffer p0.base p0.strides p0.start p0.step p0.mod)]⟩) (fun d=>Qf 1 (bi hm fun v6 hs hm=>Z8 (j:=14) (fun d=>⟨sl d 88 [(2,(.ptr 0 0)),(38,(Ql v6))],[(Q9 p0.kind p0.buffer p0.base p0.strides p0.start p0.step p0.mod)]⟩) (fun d=>Qf 1 (bi hm fun v7 hs hm=>Z8 (j:=19) (fun d=>⟨sl d 88 [(2,(.ptr 0 0)),(43,(Ql v7))],[(Q9 p0.kind p0.buffer p0.base p0.strides p0.start p0.step p0.mod)]⟩) (fun d=>Qf 1 (bi hm fun v8 hs hm=>Z8 (j:=24) (fun d=>⟨sl d 88 [(2,(.ptr 0 0)),(48,(Ql v8))],[(Q9 p0.kind p0.buffer p0.base p0.strides p0.start p0.step p0.mod)]⟩) (fun d=>Qf 1 (gsb 49 hm (fun hm=>re 5 ⟨kr,Qq zf⟩) (fun hm=>re 5 ⟨kr,Qq zf⟩))) (fun hJ=>gsb 44 hs (fun hm=>Qf 4 zf) (fun hm=>Qf 4 zf)))) (fun hJ=>gsb 39 hs (fun hm=>Qf 4 zf) (fun hm=>Qf 4 zf)))) (fun hJ=>gsb 33 hs (fun hm=>Qf 2 (Q2 Qj p0.strides (Qf 2 zf))) (fun hm=>Qf 5 zf)))) (fun hJ=>gsq 28 hs (fun hm=>Qf 4 zf) (fun hm=>Qf 4 zf)))))) (fun hm=>ge 2 (riq hm (fun hm=>Qh (QaB (Qf 2 (Q2 Qj p0.strides (Qf 3 (bi hm fun v9 hs hm=>Z8 (j:=10) (fun d=>⟨sl d 88 [(2,(.ptr 0 0)),(65,(Ql v9))],[(Q9 p0.kind p0.buffer p0.base p0.strides p0.start p0.step p0.mod)]⟩) (fun d=>Qf 1 (bi hm fun v10 hs hm=>Z8 (j:=15) (fun d=>⟨sl d 88 [(2,(.ptr 0 0)),(70,(Ql v10))],[(Q9 p0.kind p0.buffer p0.base p0.strides p0.start p0.step p0.mod)]⟩) (fun d=>Qf 1 (gsb 71 hm (fun hm=>re 5 ⟨kr,Qq zf⟩) (fun hm=>re 5 ⟨kr,Qq zf⟩))) (fun hJ=>gsb 66 hs (fun hm=>Qf 4 zf) (fun hm=>Qf 4 zf)))) (fun hJ=>gsq 61 hs (fun hm=>Qf 4 zf) (fun hm=>Qf 4 zf)))))))) (fun hm=>ge 2 (riq hm (fun hm=>gr 2 (Q2 Qj p0.strides (Qf 3 (gsq 83 hm (fun hm=>re 5 (Qq zf)) (fun hm=>re 5 (Qq zf)))))) (fun hm=>Qp (ge 1 (Qq zf))))))))))))))))))
def Z7 (x:((List Int) × (List Int) × Int)):Option (Bool ⊕ Unit) :=
 match x with
 | (p0,p1,v201) =>
 (if v201 < (p0.length:Int) then
  some (decide (v201 < (p1.length:Int)))
 else
 some false
 )>>=fun (v602:Bool) =>
 if v602=true then
  idx p0 v201>>=fun v603 =>
  idx p1 v201>>=fun v604 =>
  if v603≠v604 then
   idx p0 v201>>=fun v605 =>
   idx p1 v201>>=fun v606 =>
   some (Sum.inl (decide (v605 < v606)))
  else
  Z7 (p0,p1,(W (v201+1)))
 else
 some (Sum.inr ())
 partial_fixpoint
theorem X1:∀ x r,Z7 x=some r→match x with|(p0,p1,v201)=>LQ f62 62 [1,0,1,0,0] 0 ⟨kp 41 [(0,(La p0)),(1,(La p1)),(5,(Qc v201))],[]⟩ (P2 .ret (fun v601 d=>⟨sl d 41 [(4,(Ql v601))],[]⟩) (.exit 0) (fun _ d=>⟨sl d 41 [(0,(La p0)),(1,(La p1))],[]⟩) r):=by
 refine Z7.partial_correctness _ (fun Z7 X1 x r hm=>?_)
 obtain ⟨p0,p1,v201⟩:=x
 exact lp (Qh (Qh (bi hm fun v602 hs hm=>ZD (fun d=>⟨sl d 41 [(0,(La p0)),(1,(La p1)),(5,(Qc v201)),(15,(Ql v602))],[]⟩) (have hm:=hs;R_G (Qf 2 (Q2 Qj p0 (Qf 2 (gs 10 hm (fun hm=>Qf 2 (Q2 Qj p1 (re 2 zf))) (fun hm=>re 5 zf)))))) (fun d=>rib hm (fun hm=>Qp (Qh (Qn (Qh (YS (Qf 2 (QK 1 Qj hm fun v603 hm=>Qf 3 (QK 1 Qj hm fun v604 hm=>re 2 ⟨kr,rix hm (fun hm=>Qh (YS (Qf 2 (QK 1 Qj hm fun v605 hm=>Qf 3 (QK 1 Qj hm fun v606 hm=>re 3 ⟨kr,Qq zf⟩))))) (fun hm=>Qp (R_G (re 3 (X1 _ _ hm _ kr))))⟩)))))))) (fun hm=>QL zf)))))
def Y3 (x:((List Int) × (List Int))):Option Bool :=
 match x with
 | (p0,p1) =>
 (
 Z7 (p0,p1,0)>>=fun out =>
 match out with
 | .inl v601 =>
  some v601
 | .inr (_) =>
  some (decide ((p0.length:Int) < (p1.length:Int)))
 )
theorem QaR {p0 p1 r0} (hm:Y3 (p0,p1)=some r0):FQ 62 [(Lb p0),(Lb p1)] (Ql r0):=by
 unfold Y3 at hm
 exact fp (fn:=f62) rfl (ge 1 (Qh (ge 1 (Qn (ru2 hm (X1 _) (fun v601 d hm=>zf) fun _ d hm=>gr 1 (Q2 Qj p0 (Qf 1 (Q2 Qj p1 (re 2 (Qq zf))))))))))
def Z2 (x:((List Int) × Qo × Int)):Option (Unit ⊕ Unit) :=
 match x with
 | (p1,p0,v201) =>
 if v201 < (p1.length:Int) then
  (idx p1 v201>>=fun v602 =>
  idx p0.lo v201>>=fun v603 =>
  if v602 < v603 then
   some true
  else
  idx p1 v201>>=fun v604 =>
  idx p0.hi v201>>=fun v605 =>
  some (decide (v604≥v605))
  )>>=fun (v601:Bool) =>
  if v601=true then
   some (Sum.inl ())
  else
  Z2 (p1,p0,(W (v201+1)))
 else
 some (Sum.inr ())
 partial_fixpoint
theorem Jg:∀ x r,Z2 x=some r→match x with|(p1,p0,v201)=>LQ f101 101 [1,1,0,1,0,0] 1 ⟨kp 40 [(1,(La p1)),(2,(.ptr 0 0)),(5,(Qc v201))],[(Zg p0.lo p0.hi)]⟩ (P2 .ret (fun _ d=>⟨sl d 40 [(4,(Ql false))],[(Zg p0.lo p0.hi)]⟩) (.exit 0) (fun _ d=>⟨sl d 40 [],[(Zg p0.lo p0.hi)]⟩) r):=by
 refine Z2.partial_correctness _ (fun Z2 Jg x r hm=>?_)
 obtain ⟨p1,p0,v201⟩:=x
 exact lp (Qh (gr 2 (Q2 Qj p1 (re 1 (ri hm (fun hm=>Qp (Qh (Qn (Qh (bi hm fun v601 hs hm=>ZD (fun d=>⟨sl d 40 [(1,(La p1)),(2,(.ptr 0 0)),(5,(Qc v201)),(39,(Ql v601))],[(Zg p0.lo p0.hi)]⟩) (have hm:=hs;YS (Qf 2 (QK 1 Qj hm fun v602 hm=>Qf 4 (QK 1 Qj hm fun v603 hm=>Qf 3 (gs 28 hm (fun hm=>re 11 ⟨kr,zf⟩) (fun hm=>Qf 2 (QK 1 Qj hm fun v604 hm=>Qf 4 (QK 1 Qj hm fun v605 hm=>re 3 ⟨kr,zf⟩)))))))) (fun d=>rib hm (fun hm=>ge 1 (Qq zf)) (fun hm=>Qp (R_G (re 3 (Jg _ _ hm _ kr)))))))))) (fun hm=>QL zf))))))
def Xt (x:(Qo × (List Int))):Option Bool :=
 match x with
 | (p0,p1) =>
 if (p1.length:Int)≠(p0.lo.length:Int) then
  some false
 else
 (
 Z2 (p1,p0,0)>>=fun out =>
 match out with
 | .inl _ =>
  some false
 | .inr (_) =>
  some true
 )
theorem Qaj {p0 p1 r0} (hm:Xt (p0,p1)=some r0):FQ 101 [(Qo.toD p0),(Lb p1)] (Ql r0):=by
 unfold Xt at hm
 exact fp (fn:=f101) rfl (ge 2 (Qh (gr 1 (Q2 Qj p1 (Qf 2 (Q2 Qj p0.lo (re 1 (rix hm (fun hm=>ge 1 (Qq zf)) (fun hm=>Qp (Qh (ge 1 (Qn (ru2 hm (Jg _) (fun _ d hm=>zf) fun _ d hm=>ge 1 (Qq zf))))))))))))))
def ZG (x:((List Int) × (List Qo) × Int × Int)):Option (Unit ⊕ Unit) :=
 match x with
 | (p0,p1,v201,v805) =>
 if v805 < (p0.length:Int) then
  idx p1 v201>>=fun v1205 =>
  idx v1205.hi v805>>=fun v1206 =>
  idx p0 v805>>=fun v1207 =>
  if v1206 > v1207 then
   some (Sum.inl ())
  else
  ZG (p0,p1,v201,(W (v805+1)))
 else
 some (Sum.inr ())
 partial_fixpoint
theorem XL:∀ x r,ZG x=some r→match x with|(p0,p1,v201,v805)=>LQ f63 63 [1,0,1,0,0,1,0,0,1,1,0,0] 0 ⟨kp 80 [(0,(La p0)),(1,(XX p1)),(5,(Qc v201)),(6,(Qc v805))],[]⟩ (P2 .ret (fun _ d=>⟨sl d 80 [(4,(Ql false))],[]⟩) (.exit 2) (fun _ d=>⟨sl d 80 [(0,(La p0)),(1,(XX p1)),(5,(Qc v201))],[]⟩) r):=by
 refine ZG.partial_correctness _ (fun ZG XL x r hm=>?_)
 obtain ⟨p0,p1,v201,v805⟩:=x
 exact lp (Qh (gr 2 (Q2 Qj p0 (re 1 (ri hm (fun hm=>Qp (Qh (Qn (Qh (YS (Qf 2 (QK 2 Qo.toD hm fun v1205 hm=>Qf 3 (QK 1 Qj hm fun v1206 hm=>Qf 3 (QK 1 Qj hm fun v1207 hm=>re 2 ⟨kr,ri hm (fun hm=>ge 1 (Qq zf)) (fun hm=>Qp (R_G (re 3 (XL _ _ hm _ kr))))⟩))))))))) (fun hm=>QL zf))))))
def Q5 (x:((List Qo) × (List Int) × Int)):Option (Unit ⊕ Unit) :=
 match x with
 | (p1,p0,v201) =>
 if v201 < (p1.length:Int) then
  (idx p1 v201>>=fun v602 =>
  YM v602>>=fun v603 =>
  if v603=false then
   some true
  else
  idx p1 v201>>=fun v604 =>
  some ((v604.lo.length:Int) != (p0.length:Int))
  )>>=fun (v601:Bool) =>
  if v601=true then
   some (Sum.inl ())
  else
  (
  ZG (p0,p1,v201,0)>>=fun out =>
  match out with
  | .inl _ =>
   some (Sum.inl ())
  | .inr (_) =>
   Q5 (p1,p0,(W (v201+1)))
  )
 else
 some (Sum.inr ())
 partial_fixpoint
theorem XK:∀ x r,Q5 x=some r→match x with|(p1,p0,v201)=>LQ f63 63 [1,0,1,0,0] 0 ⟨kp 80 [(0,(La p0)),(1,(XX p1)),(5,(Qc v201))],[]⟩ (P2 .ret (fun _ d=>⟨sl d 80 [(4,(Ql false))],[]⟩) (.exit 0) (fun _ d=>⟨sl d 80 [(0,(La p0)),(1,(XX p1))],[]⟩) r):=by
 refine Q5.partial_correctness _ (fun Q5 XK x r hm=>?_)
 obtain ⟨p1,p0,v201⟩:=x
 exact lp (Qh (gr 2 (Q2 Qo.toD p1 (re 1 (ri hm (fun hm=>Qp (Qh (Qn (Qh (Qh (bi hm fun v601 hs hm=>ZD (fun d=>⟨sl d 80 [(0,(La p0)),(1,(XX p1)),(5,(Qc v201)),(33,(Ql v601))],[]⟩) (have hm:=hs;R_G (Qf 2 (QK 2 Qo.toD hm fun v602 hm=>Qf 1 (bi hm fun v603 hx hm=>cp (JS hx) (Qf 2 (gsn 23 hm (fun hm=>re 10 zf) (fun hm=>Qf 2 (QK 2 Qo.toD hm fun v604 hm=>Qf 2 (Q2 Qj v604.lo (Qf 1 (Q2 Qj p0 (re 2 zf)))))))))))) (fun d=>rib hm (fun hm=>ge 1 (Qq zf)) (fun hm=>Qp (ge 1 (Qn (ru2 hm (XL _) (fun _ d hm=>zf) fun _ d hm=>R_G (re 3 (XK _ _ hm _ kr))))))))))))) (fun hm=>QL zf))))))
def QY (x:((List Qo) × (List (List Int)) × Int × Int × Int)):Option (Int) :=
 match x with
 | (p1,v1208,v1409,v2009,v2010) =>
 if v2010 < (p1.length:Int) then
  idx p1 v2010>>=fun v2410 =>
  idx v1208 v1409>>=fun v2411 =>
  Xt (v2410,v2411)>>=fun v2412 =>
  if v2412=true then
   QY (p1,v1208,v1409,(W (v2009+1)),(W (v2010+1)))
  else
  QY (p1,v1208,v1409,v2009,(W (v2010+1)))
 else
 some v2009
 partial_fixpoint
theorem Y6:∀ x r,QY x=some r→match x with|(p1,v1208,v1409,v2009,v2010)=>LQ f63 63 [1,1,1,0,1,0,0,1,0,0,1,0,1,0,0] 0 ⟨kp 80 [(1,(XX p1)),(7,(ZL v1208)),(8,(Qc v1409)),(9,(Qc v2009)),(10,(Qc v2010))],[]⟩ (P1 (.exit 6) (fun v2409 d=>⟨sl d 80 [(1,(XX p1)),(7,(ZL v1208)),(8,(Qc v1409)),(9,(Qc v2409))],[]⟩) r):=by
 refine QY.partial_correctness _ (fun QY Y6 x r hm=>?_)
 obtain ⟨p1,v1208,v1409,v2009,v2010⟩:=x
 exact lp (Qh (gr 2 (Q2 Qo.toD p1 (re 1 (ri hm (fun hm=>Qp (Qh (Qn (Qh (YS (Qf 2 (QK 2 Qo.toD hm fun v2410 hm=>Qf 3 (bi hm fun v2411 hx hm=>Qah 1 (fun l=>Dat.lst ((List.map Qj) l)) v1208 v1409 v2411 (es:=(List.map (fun l=>Dat.lst ((List.map Qj) l))) v1208) (d:=(Lb v2411)) rfl hx rfl rfl (Qf 1 (bi hm fun v2412 hx hm=>cp (Qaj hx) (Xr ⟨kr,rib hm (fun hm=>R_G (re 3 (R_G (re 3 (Y6 _ _ hm _ kr))))) (fun hm=>Qp (R_G (re 3 (Y6 _ _ hm _ kr))))⟩))))))))))) (fun hm=>QL zf))))))
def Q6 (x:((List (List Int)) × (List Qo) × Int)):Option (Unit ⊕ Unit) :=
 match x with
 | (v1208,p1,v1409) =>
 if v1409 < (v1208.length:Int) then
  QY (p1,v1208,v1409,0,0)>>=fun v2409 =>
  if v2409≠1 then
   some (Sum.inl ())
  else
  Q6 (v1208,p1,(W (v1409+1)))
 else
 some (Sum.inr ())
 partial_fixpoint
theorem XM:∀ x r,Q6 x=some r→match x with|(v1208,p1,v1409)=>LQ f63 63 [1,1,1,0,1,0,0] 0 ⟨kp 80 [(1,(XX p1)),(7,(ZL v1208)),(8,(Qc v1409))],[]⟩ (P2 .ret (fun _ d=>⟨sl d 80 [(4,(Ql false))],[]⟩) (.exit 4) (fun _ d=>⟨sl d 80 [],[]⟩) r):=by
 refine Q6.partial_correctness _ (fun Q6 XM x r hm=>?_)
 obtain ⟨v1208,p1,v1409⟩:=x
 exact lp (Qh (gr 2 (QaU (fun l=>Dat.lst ((List.map Qj) l)) v1208 (es:=(List.map (fun l=>Dat.lst ((List.map Qj) l))) v1208) rfl (re 1 (ri hm (fun hm=>Qp (Qh (Qn (ge 1 (Qh (ge 1 (Qn (ru1 hm (Y6 _) fun v2409 d hm=>ge 2 (rix hm (fun hm=>ge 1 (Qq zf)) (fun hm=>Qp (R_G (re 3 (XM _ _ hm _ kr))))))))))))) (fun hm=>QL zf))))))
def Xi (x:((List Int) × (List Qo))):Option Bool :=
 match x with
 | (p0,p1) =>
 (
 Q5 (p1,p0,0)>>=fun out =>
 match out with
 | .inl _ =>
  some false
 | .inr (_) =>
  ZS p0>>=fun v1208 =>
  (
  Q6 (v1208,p1,0)>>=fun out =>
  match out with
  | .inl _ =>
   some false
  | .inr (_) =>
   some true
  )
 )
theorem QaF {p0 p1 r0} (hm:Xi (p0,p1)=some r0):FQ 63 [(Lb p0),(.lst ((List.map Qo.toD) p1))] (Ql r0):=by
 unfold Xi at hm
 exact fp (fn:=f63) rfl (ge 1 (Qh (ge 1 (Qn (ru2 hm (XK _) (fun _ d hm=>zf) fun _ d hm=>gr 1 (bi hm fun v1208 hx hm=>cp (JL hx) (re 1 (Qh (ge 1 (Qn (ru2 hm (XM _) (fun _ d hm=>zf) fun _ d hm=>ge 1 (Qq zf))))))))))))
def QZ (x:((List Qa) × (List Int) × (List Qo) × Int)):Option (((List Int) × (List Int) × Nat) ⊕ (List Qo)) :=
 match x with
 | (p1,p0,v201,v202) =>
 if v202 < (p1.length:Int) then
  idx p1 v202>>=fun v605 =>
  (YM v605.box>>=fun (v607:Bool) =>
  (if v607=false then
   some true
  else
  Xj v605.box>>=fun v609 =>
  some v609
  )>>=fun (v608:Bool) =>
  (if v608=true then
   some true
  else
  idx p1 v202>>=fun v611 =>
  Zp (v611.access,(p0.length:Int))>>=fun v612 =>
  some (!v612)
  )>>=fun (v610:Bool) =>
  if v610=true then
   some true
  else
  if v202 > 0 then
   idx p1 (W (v202 - 1))>>=fun v613 =>
   Y3 (v613.box.lo,v605.box.lo)>>=fun v614 =>
   some (!v614)
  else
  some false
  )>>=fun (v606:Bool) =>
  if v606=true then
   some (Sum.inl (v605.box.lo,v605.box.hi,v201.length))
  else
  app 48 v201 ([v605.box]:List Qo)>>=fun v615 =>
  QZ (p1,p0,v615,(W (v202+1)))
 else
 some (Sum.inr v201)
 partial_fixpoint
theorem XA:∀ x r,QZ x=some r→match x with|(p1,p0,v201,v202)=>LQ f16 16 [1,1,0,1,0,0] 1 ⟨kp 61 [(0,(La p0)),(1,(Z9 p1)),(5,(JD v201)),(6,(Qc v202))],[(.tok 56 v201.length)]⟩ (P2 .ret (fun (v601,v602,v603) d=>⟨sl d 61 [(4,(Ql false))],[(.tok 56 v603),(Zg v601 v602)]⟩) (.exit 0) (fun v604 d=>⟨sl d 61 [(0,(La p0)),(5,(JD v604))],[(.tok 56 v604.length)]⟩) r):=by
 refine QZ.partial_correctness _ (fun QZ XA x r hm=>?_)
 obtain ⟨p1,p0,v201,v202⟩:=x
 exact lp (Qh (gr 2 (Q2 Qa.toD p1 (re 1 (ri hm (fun hm=>Qp (Qh (Qn (gr 2 (QK 9 Qa.toD hm fun v605 hm=>re 4 (Qh (Qh (bi hm fun v606 hs hm=>ZD (fun d=>⟨sl d 61 [(0,(La p0)),(1,(Z9 p1)),(5,(JD v201)),(6,(Qc v202)),(7,(.ptr 1 0)),(53,(Ql v606))],[(.tok 56 v201.length),(Zg v605.box.lo v605.box.hi)]⟩) (have hm:=hs;Qbz (Qf 1 (bi hm fun v607 hx hm=>cp (JS hx) (Qf 2 (bi hm fun v608 hs hm=>Z8 (j:=7) (fun d=>⟨sl d 61 [(0,(La p0)),(1,(Z9 p1)),(5,(JD v201)),(6,(Qc v202)),(7,(.ptr 1 0)),(25,(Ql v608))],[(.tok 56 v201.length),(Zg v605.box.lo v605.box.hi)]⟩) (fun d=>Qf 1 (bi hm fun v610 hs hm=>Z8 (j:=18) (fun d=>⟨sl d 61 [(0,(La p0)),(1,(Z9 p1)),(5,(JD v201)),(6,(Qc v202)),(7,(.ptr 1 0)),(36,(Ql v610))],[(.tok 56 v201.length),(Zg v605.box.lo v605.box.hi)]⟩) (fun d=>Qf 1 (gsb 37 hm (fun hm=>re 16 ⟨kr,zf⟩) (fun hm=>Qf 3 (gs 40 hm (fun hm=>Qf 3 (QK 9 Qa.toD hm fun v613 hm=>Qf 5 (bi hm fun v614 hx hm=>cp (QaR hx) (re 3 ⟨kr,zf⟩)))) (fun hm=>re 13 ⟨kr,zf⟩))))) (fun hJ=>gsb 26 hs (fun hm=>Qf 10 zf) (fun hm=>Qf 2 (QK 9 Qa.toD hm fun v611 hm=>Qf 3 (Q2 Qj p0 (bi hm fun v612 hx hm=>cp (QaG hx) (Qf 2 zf)))))))) (fun hJ=>gsn 22 hs (fun hm=>Qf 3 zf) (fun hm=>Qf 1 (bi hm fun v609 hx hm=>cp (QaH hx) (Qf 1 zf))))))))) (fun d=>rib hm (fun hm=>ge 1 (Qq zf)) (fun hm=>Qp (R_G (Qf 3 (bi hm fun v615 hx hm=>Ji 56 2 48 0 Qo.toD v201 ([v605.box]:List Qo) v615 (xs:=(List.map Qo.toD) v201) (es:=(List.map Qo.toD) ([v605.box]:List Qo)) (L:=(List.map Qo.toD)) (fun _=>rfl) rfl rfl Qo.fit hx (re 1 (R_G (re 3 (XA _ _ hm _ kr))))))))))))))))) (fun hm=>QL zf))))))
def Yj (x:((List Int) × (List Qa))):Option Bool :=
 match x with
 | (p0,p1) =>
 (
 QZ (p1,p0,([]:List Qo),0)>>=fun out =>
 match out with
 | .inl (v601,v602,v603) =>
  some false
 | .inr (v604) =>
  Xi (p0,v604)>>=fun v616 =>
  some v616
 )
theorem Qav {p0 p1 r0} (hm:Yj (p0,p1)=some r0):FQ 16 [(Lb p0),(.lst ((List.map Qa.toD) p1))] (Ql r0):=by
 unfold Yj at hm
 exact fp (fn:=f16) rfl (ge 1 (ge 1 (Qh (ge 1 (Qn (ru2 hm (XA _) (fun ⟨v601,v602,v603⟩ d hm=>zf) fun v604 d hm=>gr 2 (bi hm fun v616 hx hm=>cp (QaF hx) (re 1 (Qq zf)))))))))
def ZP (x:((List Int) × (List Int) × Int × Int)):Option (Int) :=
 match x with
 | (p0,p1,v201,v202) =>
 (if v202 < (p0.length:Int) then
  some (decide (v202 < (p1.length:Int)))
 else
 some false
 )>>=fun (v602:Bool) =>
 if v602=true then
  idx p0 v202>>=fun v603 =>
  idx p1 v202>>=fun v604 =>
  ZP (p0,p1,(W (v201+(W (v603 * v604)))),(W (v202+1)))
 else
 some v201
 partial_fixpoint
theorem Jf:∀ x r,ZP x=some r→match x with|(p0,p1,v201,v202)=>LQ f161 161 [1,1,0,1,0,0] 0 ⟨kp 31 [(0,(La p0)),(1,(La p1)),(5,(Qc v201)),(6,(Qc v202))],[]⟩ (P1 (.exit 0) (fun v601 d=>⟨sl d 31 [(5,(Qc v601))],[]⟩) r):=by
 refine ZP.partial_correctness _ (fun ZP Jf x r hm=>?_)
 obtain ⟨p0,p1,v201,v202⟩:=x
 exact lp (Qh (Qh (bi hm fun v602 hs hm=>ZD (fun d=>⟨sl d 31 [(0,(La p0)),(1,(La p1)),(5,(Qc v201)),(6,(Qc v202)),(16,(Ql v602))],[]⟩) (have hm:=hs;R_G (Qf 2 (Q2 Qj p0 (Qf 2 (gs 11 hm (fun hm=>Qf 2 (Q2 Qj p1 (re 2 zf))) (fun hm=>re 5 zf)))))) (fun d=>rib hm (fun hm=>Qp (Qh (Qn (YS (Qf 3 (QK 1 Qj hm fun v603 hm=>Qf 3 (QK 1 Qj hm fun v604 hm=>re 4 ⟨kr,R_G (re 3 (Jf _ _ hm _ kr))⟩))))))) (fun hm=>QL zf)))))
def XY (x:((List Int) × (List Int))):Option Int :=
 match x with
 | (p0,p1) =>
 ZP (p0,p1,0,0)>>=fun v601 =>
 some v601
theorem QaZ {p0 p1 r0} (hm:XY (p0,p1)=some r0):FQ 161 [(Lb p0),(Lb p1)] (Qc r0):=by
 unfold XY at hm
 exact fp (fn:=f161) rfl (ge 1 (ge 1 (Qh (ge 1 (Qn (ru1 hm (Jf _) fun v601 d hm=>ge 2 (Qq zf)))))))
def Xl (x:(Qr × (List Int))):Option (Int × Bool) :=
 match x with
 | (p0,p1) =>
 XY (p0.strides,p1)>>=fun v1 =>
 if p0.kind=1 then
  some (0,false)
 else
 if p0.kind=2 then
  some ((W (p0.base+v1)),true)
 else
 remM (W (p0.start+v1)) p0.mod>>=fun v2 =>
 (if v2 < 0 then
  some (W (v2+p0.mod))
 else
 some v2
 )>>=fun (v3:Int) =>
 some ((W (p0.base+(W (p0.step * v3)))),true)
theorem Qa5 {p0 p1 r0 r1} (hm:Xl (p0,p1)=some (r0,r1)):FQ 102 [(Qr.toD p0),(Lb p1)] (.tup [(Qc r0),(Ql r1)]):=by
 unfold Xl at hm
 exact fp (fn:=f102) rfl (ge 3 (gr 3 (bi hm fun v1 hx hm=>cp (QaZ hx) (re 1 (Qh (ge 3 (riq hm (fun hm=>ge 2 (Qq zf)) (fun hm=>Qp (Qh (ge 3 (riq hm (fun hm=>ge 6 (Qq zf)) (fun hm=>Qp (gr 6 (bi hm fun v2 hx hm=>Q4 rfl (fun _=>QaL (a:=(W (p0.start+v1))) (b:=p0.mod) hx rfl kr kr) (re 1 (Qh (ge 2 (bi hm fun v3 hs hm=>ZD (fun d=>⟨sl d 42 [(2,(.ptr 0 0)),(7,(Qc v3))],[(Q9 p0.kind p0.buffer p0.base p0.strides p0.start p0.step p0.mod)]⟩) (have hm:=hs;ri hm (fun hm=>R_G (re 5 zf)) (fun hm=>Qp zf)) (fun d=>ge 9 (Qq zf))))))))))))))))))))
def Zz (x:((List Qa) × (List Int) × Int)):Option ((Bool × Int × Int) ⊕ Unit) :=
 match x with
 | (p0,p1,v201) =>
 if v201 < (p0.length:Int) then
  idx p0 v201>>=fun v604 =>
  Xt (v604.box,p1)>>=fun v605 =>
  if v605=true then
   idx p0 v201>>=fun v606 =>
   Xl (v606.access,p1)>>=fun (v607,v608) =>
   if v608=false then
    some (Sum.inl (true,0,0))
   else
   idx p0 v201>>=fun v609 =>
   some (Sum.inl (false,v609.access.buffer,v607))
  else
  Zz (p0,p1,(W (v201+1)))
 else
 some (Sum.inr ())
 partial_fixpoint
theorem XB:∀ x r,Zz x=some r→match x with|(p0,p1,v201)=>LQ f35 35 [1,0,1,0,0] 1 ⟨kp 44 [(0,(Z9 p0)),(1,(La p1)),(4,(.ptr 0 0)),(6,(Qc v201))],[(.box [(Ql false),(Qc 0),(Qc 0)])]⟩ (P2 .ret (fun (v601,v602,v603) d=>⟨sl d 44 [(4,(.ptr 0 0)),(5,(Ql true))],[(YH v601 v602 v603)]⟩) (.exit 0) (fun _ d=>⟨sl d 44 [(4,(.ptr 0 0))],[(.box [(Ql false),(Qc 0),(Qc 0)])]⟩) r):=by
 refine Zz.partial_correctness _ (fun Zz XB x r hm=>?_)
 obtain ⟨p0,p1,v201⟩:=x
 exact lp (Qh (gr 2 (Q2 Qa.toD p0 (re 1 (ri hm (fun hm=>Qp (Qh (Qn (gr 2 (QK 9 Qa.toD hm fun v604 hm=>Qf 3 (bi hm fun v605 hx hm=>cp (Qaj hx) (Xr (rib hm (fun hm=>gr 2 (QK 9 Qa.toD hm fun v606 hm=>Qf 3 (bi2 hm fun v607 v608 hx hm=>cp (Qa5 hx) (re 5 (Qh (ge 2 (rin hm (fun hm=>ge 3 (Qq zf)) (fun hm=>Qp (gr 2 (QK 9 Qa.toD hm fun v609 hm=>re 7 (Qq zf))))))))))) (fun hm=>Qp (R_G (re 3 (XB _ _ hm _ kr)))))))))))) (fun hm=>QL zf))))))
def YX (x:((List Qa) × (List Int))):Option (Qb × Bool) :=
 match x with
 | (p0,p1) =>
 (
 Zz (p0,p1,0)>>=fun out =>
 match out with
 | .inl (v601,v602,v603) =>
  some ((⟨v601,v602,v603⟩:Qb),true)
 | .inr (_) =>
  some ((⟨false,0,0⟩:Qb),false)
 )
theorem Qaw {p0 p1 r0 r1} (hm:YX (p0,p1)=some (r0,r1)):FQ 35 [(.lst ((List.map Qa.toD) p0)),(Lb p1)] (.tup [(.dat (Qb.toD r0)),(Ql r1)]):=by
 unfold YX at hm
 exact fp (fn:=f35) rfl (ge 2 (Qh (ge 1 (Qn (ru2 hm (XB _) (fun ⟨v601,v602,v603⟩ d hm=>zf) fun _ d hm=>ge 3 (Qq zf))))))
def QE (x:((List (List Int)) × (List Qb) × (List Qa) × Int)):Option ((Bool × Int × Int × Bool × Int × Int) ⊕ Unit) :=
 match x with
 | (v16,p0,v11,v217) =>
 if v217 < (v16.length:Int) then
  (if (p0.length:Int) > 0 then
   remM v217 (p0.length:Int)>>=fun v626 =>
   idx p0 v626>>=fun v627 =>
   some (v627.fill,v627.buffer,v627.offset)
  else
  some (true,(0:Int),(0:Int))
  )>>=fun ((v623,v624,v625):(Bool × Int × Int)) =>
  idx v16 v217>>=fun v628 =>
  YX (v11,v628)>>=fun (v629,v630) =>
  (if v630=false then
   some true
  else
  some (!((v629.fill == v623) && ((v629.buffer == v624) && ((v629.offset == v625) && true))))
  )>>=fun (v631:Bool) =>
  if v631=true then
   some (Sum.inl (v623,v624,v625,v629.fill,v629.buffer,v629.offset))
  else
  QE (v16,p0,v11,(W (v217+1)))
 else
 some (Sum.inr ())
 partial_fixpoint
theorem YD:∀ x r,QE x=some r→match x with|(v16,p0,v11,v217)=>LQ f5 5 [1,1,1,1,1,1,0,1,0,0] 0 ⟨kp 80 [(0,(Zm p0)),(6,(Z9 v11)),(7,(ZL v16)),(8,(Qc v217))],[]⟩ (P2 .ret (fun (v617,v618,v619,v620,v621,v622) d=>⟨sl d 80 [(4,(Ql false))],[(YH v617 v618 v619),(YH v620 v621 v622)]⟩) (.exit 0) (fun _ d=>⟨sl d 80 [],[]⟩) r):=by
 refine QE.partial_correctness _ (fun QE YD x r hm=>?_)
 obtain ⟨v16,p0,v11,v217⟩:=x
 exact lp (Qh (gr 2 (QaU (fun l=>Dat.lst ((List.map Qj) l)) v16 (es:=(List.map (fun l=>Dat.lst ((List.map Qj) l))) v16) rfl (re 1 (ri hm (fun hm=>Qp (Qh (Qn (ge 3 (Qh (gr 1 (Q2 Qb.toD p0 (re 1 (bi3 hm fun v623 v624 v625 hs hm=>ZD (fun d=>⟨sl d 80 [(0,(Zm p0)),(6,(Z9 v11)),(7,(ZL v16)),(8,(Qc v217)),(9,(.ptr 0 0))],[(YH v623 v624 v625)]⟩) (have hm:=hs;ri hm (fun hm=>R_G (Qf 3 (Q2 Qb.toD p0 (bi hm fun v626 hx hm=>Q4 rfl (fun _=>QaL (a:=v217) (b:=(p0.length:Int)) hx rfl kr kr) (QK 3 Qb.toD hm fun v627 hm=>re 2 zf))))) (fun hm=>Qp zf)) (fun d=>gr 3 (bi hm fun v628 hx hm=>Qah 1 (fun l=>Dat.lst ((List.map Qj) l)) v16 v217 v628 (es:=(List.map (fun l=>Dat.lst ((List.map Qj) l))) v16) (d:=(Lb v628)) rfl hx rfl rfl (Qf 1 (bi2 hm fun v629 v630 hx hm=>cp (Qaw hx) (re 6 (Qh (bi hm fun v631 hs hm=>ZD (fun d=>⟨sl d 80 [(0,(Zm p0)),(6,(Z9 v11)),(7,(ZL v16)),(8,(Qc v217)),(79,(Ql v631))],[(YH v623 v624 v625),(YH v629.fill v629.buffer v629.offset)]⟩) (have hm:=hs;R_G (Qf 3 (gsn 75 hm (fun hm=>re 4 zf) (fun hm=>Qf 2 (Q4 rfl (fun _=>Qbk (t:=45) (xs:=#[.bool v629.fill,.int .i64 v629.buffer,.int .i64 v629.offset]) (ys:=#[.bool v623,.int .i64 v624,.int .i64 v625]) (b:=((v629.fill == v623) && ((v629.buffer == v624) && ((v629.offset == v625) && true)))) rfl kr kr (SEq_of (fs:=prog.fieldsOf 45) kr kr kr kr)) (re 1 zf)))))) (fun d=>rib hm (fun hm=>ge 1 (Qq zf)) (fun hm=>Qp (R_G (re 3 (YD _ _ hm _ kr))))))))))))))))))))) (fun hm=>QL zf))))))
def Yx (x:((List Qb) × (List Int))):Option Bool :=
 match x with
 | (p0,p1) =>
 (XS ()>>=fun (v2:Bool) =>
 (if v2=false then
  some true
 else
 Xg (p0,100)>>=fun v4 =>
 some (!v4)
 )>>=fun (v3:Bool) =>
 if v3=true then
  some true
 else
 Xh (p1,200)>>=fun v5 =>
 some (!v5)
 )>>=fun (v1:Bool) =>
 if v1=true then
  XS ()>>=fun v6 =>
  some v6
 else
 Xf p0>>=fun v7 =>
 Js v7>>=fun v8 =>
 Zi (v8,p1)>>=fun v9 =>
 X9 p0>>=fun v10 =>
 Q7 (v10,p1)>>=fun v11 =>
 (Y0 v9>>=fun (v13:(List Qa)) =>
 Y2 (v13,v11)>>=fun v14 =>
 if v14=false then
  some true
 else
 Yj (p1,v11)>>=fun v15 =>
 some (!v15)
 )>>=fun (v12:Bool) =>
 if v12=true then
  some false
 else
 ZS p1>>=fun v16 =>
 (
 QE (v16,p0,v11,0)>>=fun out =>
 match out with
 | .inl (v617,v618,v619,v620,v621,v622) =>
  some false
 | .inr (_) =>
  some true
 )
def X4:((List Qb) × (List Int))→Bool→Prop:=fun x r=>match x,r with
 | (p0,p1),r0=>∀ H,PC prog env 5 ([(.lst ((List.map Qb.toD) p0)),(Lb p1)].map .dat) H (Ql r0) H
theorem w_law19_RunsReshape:∀ x r,Yx x=some r→X4 x r:=by
 intro x r0 hm
 unfold Yx at hm
 unfold X4
 obtain ⟨p0,p1⟩:=x
 intro H
 refine PC_sx (ds:=[(.lst ((List.map Qb.toD) p0)),(Lb p1)]) (fn:=f5) rfl ?_
 exact ge 1 (Qh (Qh (bi hm fun v1 hs hm=>ZD (fun d=>⟨sl d 80 [(0,(Zm p0)),(1,(La p1)),(23,(Ql v1))],[]⟩) (have hm:=hs;QaB (bi hm fun v2 hx hm=>Jt (JR _ _ hx []) (Qf 2 (bi hm fun v3 hs hm=>Z8 (j:=7) (fun d=>⟨sl d 80 [(0,(Zm p0)),(1,(La p1)),(18,(Ql v3))],[]⟩) (fun d=>Qf 1 (gsb 19 hm (fun hm=>re 4 ⟨kr,zf⟩) (fun hm=>Qf 1 (bi hm fun v5 hx hm=>cp (QaE hx) (re 2 ⟨kr,zf⟩))))) (fun hJ=>gsn 14 hs (fun hm=>Qf 4 zf) (fun hm=>Qf 1 (bi hm fun v4 hx hm=>Jt (QaD _ _ hx []) (Qf 2 zf)))))))) (fun d=>rib hm (fun hm=>Qh (R_G (bi hm fun v6 hx hm=>Jt (JR _ _ hx []) (re 1 (Qq zf))))) (fun hm=>Qp (gr 1 (bi hm fun v7 hx hm=>Jt (QaC _ _ hx []) (bi hm fun v8 hx hm=>cp (Qbg hx) (Qf 1 (bi hm fun v9 hx hm=>cp (QaJ hx) (re 1 (gr 1 (bi hm fun v10 hx hm=>cp (Qa6 hx) (Qf 1 (bi hm fun v11 hx hm=>cp (Qax hx) (re 1 (Qh (Qh (bi hm fun v12 hs hm=>ZD (fun d=>⟨sl d 80 [(0,(Zm p0)),(1,(La p1)),(6,(Z9 v11)),(44,(Ql v12))],[]⟩) (have hm:=hs;R_G (Qf 1 (bi hm fun v13 hx hm=>Jt (QaN _ _ hx []) (Qf 1 (bi hm fun v14 hx hm=>cp (QaQ hx) (Qf 2 (gsn 39 hm (fun hm=>re 5 zf) (fun hm=>Qf 2 (bi hm fun v15 hx hm=>cp (Qav hx) (re 2 zf)))))))))) (fun d=>rib hm (fun hm=>ge 1 (Qq zf)) (fun hm=>Qp (gr 1 (bi hm fun v16 hx hm=>cp (JL hx) (re 1 (Qh (ge 1 (Qn (ru2 hm (YD _) (fun ⟨v617,v618,v619,v620,v621,v622⟩ d hm=>zf) fun _ d hm=>ge 1 (Qq zf)))))))))))))))))))))))))))))
end Go.Proofs.Tryz
