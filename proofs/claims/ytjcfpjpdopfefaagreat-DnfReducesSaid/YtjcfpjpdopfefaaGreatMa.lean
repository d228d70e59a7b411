/-
 The machine, models, walks, plain laws.
-/
import Derived.WalkKit
import Derived.OrdersIn
import Derived.Laws.CopyOwn
import Derived.Great.BuildSlice
import Derived.RangeFuncRecord
import Derived.RangeFuncOwn
import Derived.Lib.AppendZeros
import Derived.MapKept
import Derived.Lib.OthersKept
namespace Go.Pm
open Go Go.RowKit
open Option renaming some->O,none->Z
open Bool renaming true->J,false->U
open List renaming length->I,replicate->Nab,range->Nad
set_option linter.all false
section
abbrev ae:=@if_neg
abbrev af:=@List.getElem?_eq_some_iff
abbrev ai:=@if_false
abbrev aj:=@if_pos
abbrev ak:=@if_true
abbrev an:=@List.all_eq_true
abbrev aq:=@List.mem_map
abbrev ar:=@List.mem_cons
abbrev au:=@Nat.mul_le_mul_right
abbrev av:=@Nat.add_mul
abbrev aw:=@List.eq_nil_of_length_eq_zero
abbrev ay:=@List.append_assoc
abbrev aA:=@Array.getElem?_eq_some_iff
abbrev aB:=@List.replicate_succ
abbrev aC:=@Option.isSome_iff_exists
abbrev aD:=@List.getElem?_eq_none
abbrev aE:=@Option.getD_some
abbrev aF:=@Bool.not_true
abbrev aG:=@Int.le_refl
abbrev aH:=@List.map_nil
abbrev aI:=@List.flatMap_cons
abbrev aJ:=@List.map_congr_left
abbrev aK:=@Int.mul_le_mul_of_nonneg_right
abbrev aL:=@Array.getElem?_append
abbrev aM:=@List.pairwise_cons
abbrev aN:=@List.cons_append
abbrev aO:=@List.filter_cons_of_pos
abbrev aP:=@List.filter_cons_of_neg
abbrev aQ:=@Nat.le_mul_of_pos_right
abbrev aR:=@List.singleton_append
abbrev aS:=@Bool.not_eq_true
abbrev aT:=@List.getElem?_of_mem
abbrev aU:=@List.mem_append
abbrev aV:=@List.all_map
abbrev aW:=@Nat.mul_one
abbrev aX:=@List.zipWith_cons_cons
abbrev aY:=@List.foldl_cons
abbrev aZ:=@Int.mul_le_mul_of_nonneg_left
abbrev bb:=@List.getElem?_toArray
abbrev bd:=@List.drop_eq_getElem_cons
abbrev bg:=@Bool.true_and
abbrev bj:=@Array.length_toList
abbrev bk:=@List.take_of_length_le
abbrev bn:=@Int.mul_le_mul
abbrev bo:=@Int.mul_assoc
abbrev bp:=@List.mem_filter
abbrev bq:=@Bool.decide_and
abbrev br:=@Nat.mod_lt
abbrev bz:=@List.length_singleton
abbrev bA:=@Nat.one_mul
abbrev bB:=@Int.toNat_zero
abbrev bC:=@Int.emod_lt_of_pos
abbrev bD:=@List.getElem_of_mem
abbrev bE:=@beq_iff_eq
abbrev bF:=@List.any_eq_false
abbrev bG:=@List.ext_getElem?
abbrev bH:=@List.all_cons
abbrev bI:=@Int.mul_comm
abbrev bJ:=@List.mem_flatMap
abbrev bK:=@Nat.mul_comm
abbrev bL:=@Int.mul_one
abbrev bM:=@Int.emod_nonneg
abbrev bN:=@List.countP_cons
abbrev bO:=@Nat.add_assoc
abbrev bP:=@List.drop_zero
abbrev bQ:=@congrArg
abbrev bR:=@List.getD_cons_zero
abbrev bS:=@Option.bind_eq_bind
abbrev bT:=@List.not_mem_nil
abbrev bU:=@List.eq_nil_or_concat
abbrev bV:=@List.set_cons_succ
abbrev bW:=@Option.isNone_iff_eq_none
abbrev bX:=@Int.one_mul
abbrev bY:=@Nat.not_lt_zero
abbrev bZ:=@List.eq_of_mem_replicate
abbrev b9:=@Int.emod_eq_of_lt
abbrev ca:=@Int.toNat_natCast
abbrev cb:=@List.size_toArray
abbrev cd:=@List.length_eq_zero_iff
abbrev cg:=@List.getElem?_cons_zero
abbrev cj:=@Int.mul_nonneg
abbrev ck:=@List.mem_range
abbrev cm:=@Bool.false_and
abbrev cn:=@List.range'_succ
abbrev cq:=@Nat.mod_eq_of_lt
abbrev cr:=@Int.add_mul
abbrev ct:=@Nat.le_of_eq
abbrev cu:=@List.mem_singleton
abbrev cw:=@List.concat_eq_append
abbrev cy:=@Int.natCast_mul
abbrev cz:=@Nat.div_add_mod
abbrev cA:=@List.set_getElem_self
abbrev cB:=@Bool.not_eq_true'
abbrev cC:=@Nat.lt_trichotomy
abbrev cD:=@List.map_id
abbrev cE:=@List.ext_getElem
abbrev cF:=@Int.natCast_emod
abbrev cG:=@List.take_length
abbrev cH:=@Nat.sub_self
abbrev cI:=@List.getD_cons_succ
abbrev cJ:=@List.countP_eq_zero
abbrev cK:=@List.countP_cons_of_pos
abbrev cL:=@Bool.false_or
abbrev cM:=@List.map_take
abbrev cN:=@List.drop_of_length_le
abbrev cO:=@Array.getElem!_eq_getD
abbrev cP:=@Array.isEmpty_iff
abbrev cQ:=@List.mem_append_right
abbrev cR:=@List.length_filter_le
abbrev cT:=@Bool.not_false
abbrev cU:=@Int.emod_add_mul_ediv
abbrev cV:=@List.drop_drop
abbrev cW:=@Array.getElem?_setIfInBounds
abbrev cX:=@Array.size_range
abbrev cY:=@List.replicate_succ'
abbrev cZ:=@List.mem_of_mem_drop
abbrev db:=@Nat.le_of_not_lt
abbrev dc:=@List.takeWhile_cons_of_pos
abbrev dd:=@List.takeWhile_cons_of_neg
abbrev de:=@Int.toNat_of_nonneg
abbrev df:=@List.flatMap_append
abbrev dg:=@List.countP_pos_iff
abbrev dh:=@List.pairwise_iff_getElem
abbrev di:=@Int.ediv_nonneg
abbrev dj:=@List.mem_or_eq_of_mem_set
abbrev dn:=@Array.getElem_mem_toList
abbrev dp:=@List.countP_cons_of_neg
abbrev dq:=@List.foldl_append
abbrev dr:=@List.map_drop
abbrev dt:=@List.sum_cons
abbrev du:=@Nat.lt_succ_self
abbrev dv:=@List.any_eq_true
abbrev dw:=@List.flatMap_nil
abbrev dx:=@List.isEmpty_iff
abbrev dy:=@Array.getElem?_setIfInBounds_ne
abbrev dz:=@Array.eq_empty_of_size_eq_zero
abbrev dA:=@Bool.or_true
abbrev dB:=@Nat.succ_pos
abbrev dC:=@List.range_succ
abbrev dD:=@List.countP_map
abbrev dE:=@Int.zero_mul
abbrev dF:=@Int.zero_add
abbrev dG:=@List.pairwise_append
abbrev dH:=@Option.map_none
abbrev dI:=@List.getElem?_set_ne
abbrev dJ:=@List.range_eq_range'
abbrev dK:=@Bool.and_false
abbrev dL:=@Nat.mul_le_mul
abbrev dM:=@List.drop_left
abbrev dN:=@List.take_left
abbrev dP:=@Int.mul_add
abbrev dQ:=@List.countP_append
abbrev dR:=@List.mem_replicate
abbrev dS:=@List.set_cons_zero
abbrev dT:=@Int.lt_tmod_of_pos
abbrev dU:=@Nat.eq_zero_or_pos
abbrev dV:=@Array.foldl_toList
abbrev dW:=@Int.tdiv_eq_ediv_of_nonneg
abbrev dX:=@Bool.and_true
abbrev dY:=@List.dropWhile_cons_of_pos
abbrev dZ:=@List.dropWhile_cons_of_neg
abbrev ej:=@Int.add_mul_emod_self_left
abbrev eu:=@Array.range_zero'
abbrev eA:=@List.all_eq_false
abbrev eB:=@Array.size_append
abbrev eC:=@List.getElem_map
abbrev eF:=@Int.ediv_le_self
abbrev eG:=@List.filter_cons
abbrev eH:=@List.length_erase_of_mem
abbrev eJ:=@Int.add_zero
abbrev eK:=@Nat.zero_mul
abbrev eL:=@List.drop_length
abbrev eN:=@Array.getElem?_replicate
abbrev eO:=@List.eraseIdx_cons_succ
abbrev eP:=@List.getElem?_cons_succ
abbrev eQ:=@List.nodup_cons
abbrev eS:=@List.countP_nil
abbrev eT:=@Nat.mul_add_mod
abbrev eU:=@Nat.le_add_left
abbrev eV:=@Int.natCast_add
abbrev eW:=@Nat.mul_eq_zero
abbrev eX:=@Int.mul_sub
abbrev eY:=@Int.sub_mul
abbrev eZ:=@Nat.le_succ
abbrev fb:=@Array.getElem?_modify
abbrev fc:=@Int.ediv_lt_of_lt_mul
abbrev fe:=@List.foldl_nil
abbrev ff:=@List.zipWith_nil_left
abbrev fh:=@Nat.div_lt_iff_lt_mul
abbrev fj:=@Array.mem_of_getElem?
abbrev fk:=@List.mem_erase_of_ne
abbrev fm:=@Nat.div_lt_of_lt_mul
abbrev fo:=@Bool.or_eq_false_iff
abbrev fq:=@Array.getElem?_range
abbrev ft:=@Array.getElem_modify
abbrev fu:=@Bool.and_self
abbrev fw:=@Int.zero_emod
abbrev fy:=@List.any_cons
abbrev fA:=@List.length_pos_iff
abbrev fB:=@Nat.mul_le_mul_left
abbrev fC:=@List.getElem?_range
abbrev fD:=@Int.le_trans
abbrev fE:=@Int.add_comm
abbrev fF:=@Nat.add_comm
abbrev fG:=@List.map_set
abbrev fH:=@Nat.sub_mul
abbrev fI:=@Nat.mod_one
abbrev fJ:=List Int
abbrev fK:=World
abbrev fL:=Program
abbrev fM:=FuncId
abbrev fN:=TypeId
abbrev fO:=Operand
abbrev fP:=Value
abbrev j5:=@Option.map_eq_some_iff
abbrev j6:=@Bool.false_eq_true
abbrev j7:=@Nat.le_refl
abbrev j8:=@List.all_eq_true
abbrev j9:=@Option.some.injEq
abbrev jA:=@Array.getElem?_eq_getElem
abbrev jB:=@List.getD_eq_getElem?_getD
abbrev jC:=@List.getElem?_eq_getElem
abbrev jD:=@List.getElem?_map
abbrev jE:=@Bool.and_eq_true
abbrev jF:=@List.mem_of_getElem?
abbrev jG:=@List.mem_cons_of_mem
abbrev jH:=@Array.getD_eq_getD_getElem?
abbrev jI:=@Prod.mk.injEq
abbrev jJ:=@Int.natCast_zero
abbrev jK:=@Option.bind_eq_some_iff
abbrev jL:=@List.length_nil
abbrev jM:=@List.mem_cons_self
abbrev jN:=@Option.map_some
abbrev jO:=@Bool.true_eq_false
abbrev jP:=@Nat.lt_of_lt_of_le
abbrev jQ:=@List.nil_append
abbrev jR:=@List.getElem?_take
abbrev jS:=@Option.some.inj
abbrev jT:=@List.getElem?_append
abbrev jU:=@List.mem_cons
abbrev jV:=@List.append_nil
abbrev jW:=@List.length_append
abbrev jX:=@Nat.le_trans
abbrev jY:=@List.mem_singleton
abbrev jZ:=@List.length_map
abbrev zA:=@Nat.lt_irrefl
abbrev zB:=@Nat.lt_of_lt_of_eq
abbrev zC:=@Int.eq_ofNat_of_zero_le
abbrev zD:=@List.getElem_mem
abbrev zE:=@decide_eq_true_eq
abbrev zF:=@List.getElem?_set
abbrev zG:=@List.map_map
abbrev zH:=@List.length_cons
abbrev zI:=@Array.getElem?_toList
abbrev zJ:=@List.getElem?_drop
abbrev zK:=@List.length_replicate
abbrev zL:=@Array.getElem?_map
abbrev zM:=@List.map_append
abbrev zN:=@List.getElem?_replicate
abbrev zO:=@List.getElem?_append_right
abbrev zP:=@List.getElem?_append_left
abbrev zQ:=@Nat.zero_le
abbrev zR:=@List.all_append
abbrev zS:=@List.mem_of_mem_take
abbrev zT:=@Bool.or_eq_true
abbrev zU:=@List.length_set
abbrev zV:=@List.map_cons
abbrev zW:=@List.length_take
abbrev zX:=@Option.bind_some
abbrev zY:=@Nat.add_zero
abbrev zZ:=@Nat.zero_add
abbrev y3:=@decide_eq_false
abbrev y5:=@decide_false
abbrev y6:=@List.mem_append_left
abbrev y7:=@List.length_drop
abbrev y8:=@List.take_append_drop
theorem y9{p:Prop}(h:p:=by omega):p:=h
theorem yA{p:Prop}(h:p:=by simp;omega):p:=h
theorem yB{p:Prop}(h:p:=by simp):p:=h
theorem yC{p:Prop}(h:p:=by exact λ_=>rfl):p:=h
theorem yD{p:Prop}(h:p:=by decide):p:=h
inductive fS where
 |raw (v:fP)
 |ew (es:List fS)
 |agg (cs:List fS)
 deriving Inhabited
inductive PV where
 |b7 (d:fS)
 |agg (cs:List PV)
 |fz (vs:List PV)
 |vec (t:Nat) (es:List fS)
 |ptr (i o:Nat)
 |eI (cs:List fS)
 |arr (i o len cap:Nat)
 |fn (f:fM) (cap:List PV)
 |ms (t g lo len cap:Nat)
 |mp (t g j:Nat)
 |hC (i:Nat)
 |j0 (isNil:Bool)
 |undef
 deriving Inhabited
inductive fU where
 |box (cs:List PV)
 |tok (e:fN) (n:Nat)
 |mt (e:fN) (g:Nat) (cs:List PV)
 |map (es:List (Value×PV))
 |hole
 deriving Inhabited
structure St where
 b6:List PV
 heap:List fU
def kd:fP->Bool
 |.bool _|.int _ _|.string _|.pointer Z|.map Z|.chan Z|.nilFunc|.nilIface=>J
 |.func (.func _) first cap=>first.isEmpty &&cap.isEmpty
 |_=>U
def fS.cells:fS->List fS
 |.agg cs=>cs
 |d=>[d]
def fS.num:fS->Nat
 |.agg cs=>I cs
 |_=>1
def fS.ez:fS->Bool
 |.agg _=>U
 |_=>J
def xW(lo:Nat)(ds:List fS):Bool:=ds.all fS.ez||(lo==0 &&ds.all λd=>!d.ez)
def fS.fits(size:Nat)(d:fS):Bool:=d.num==size &&d.cells.all fS.ez
def PV.cells:PV->List PV
 |.b7 d=>d.cells.map .b7
 |.agg cs=>cs
 |v=>[v]
def iG:List PV->Option (List fS)
 |[]=>O []
 |.b7 d::r=>(iG r).map (d::·)
 |_::_=>Z
def ls(cs:List PV):PV:=
 match iG cs with
 |some ds=>.b7 (.agg ds)
 |none=>.agg cs
def PV.cell:PV->Bool
 |.b7 (.raw _)|.b7 (.ew _)|.vec ..|.ptr ..|.eI _|.arr ..|.fn ..|.ms ..|.mp ..|.hC _|.j0 _=>J
 |_=>U
def vL:fP->Option fS
 |.slice Z 0 0=>O (.ew [])
 |.agg cs=>if cs.all kd then O (.agg (cs.toList.map .raw))else Z
 |v=>if kd v then O (.raw v)else Z
def su(v:fP):PV:=
 match v with
 |.tuple vs=>if vs.isEmpty then .fz []else .undef
 |v=>match vL v with|some d=>.b7 d|none=>.undef
def xu:Nat->Option (List fS):=λ_=>Z
def ev(s:List PV):fO->PV
 |.tmp t=>s.getD t (.fz [])
 |.const v=>su v
 |.func f=>.b7 (.raw (.func (.func f) #[] #[]))
 |.global g=>match xu g with|some cs=>.eI cs|none=>.undef
def pK:List fS->Option (List Value)
 |[]=>O []
 |.raw v::r=>(pK r).map (v::·)
 |_::_=>Z
def PV.e6:PV->Option Value
 |.b7 (.raw v)=>O v
 |.b7 (.agg cs)=>(pK cs).map λvs=>.agg vs.toArray
 |_=>Z
def jg(P:fL){c:Type}:Sem c->Option c
 |.pure a=>O a
 |.program k=>jg P (k P)
 |_=>Z
def sU(v:fP):Option PV:=
 match v with
 |.tuple vs=>if vs.all kd then O (.fz (vs.toList.map λv=>.b7 (.raw v)))else Z
 |v=>(vL v).map .b7
section
variable(P:fL)
def gq(t:fN):Option Nat:=(P.info? t).map (·.size)
def bytesOf(t:fN):Option Nat:=(P.info? t).map (·.bytes)
def qh(t:fN):Option Bool:=(P.underlying t).map λ|.struct _|.array _ _=>J|_=>U
def gB(t:fN):Option fS:=((P.info? t).bind (·.zero)).bind rawZero
 where
 rawZero:fP->Option fS
 |.agg cs=>(cells cs.toList).map .agg
 |v=>vL v
 cells:List Value->Option (List fS)
 |[]=>O []
 |v::r=>if kd v then(cells r).map (.raw v::·)else match v with|.slice Z 0 0=>(cells r).map (.ew []::·)|_=>Z
def fieldsOf(t:fN):Option (List Field):=
 match P.underlying t with
 |some (.struct fs)=>O fs.toList
 |_=>Z
def fV(t:fN):Option TypeId:=
 match P.underlying t with
 |some (.slice e)=>O e
 |_=>Z
def nx(t:fN):Option (Nat×TypeId):=
 match P.underlying t with
 |some (.array n e)=>O (n,e)
 |_=>Z
def cut{c:Type}(cs:List c)(o n:Nat):Option (List c):=
 if o+n<=I cs then O ((cs.drop o).take n)else Z
def rR{c:Type}(cs:List c)(o:Nat)(vs:List c):Option (List c):=
 if o+I vs<=I cs then O (cs.take o++vs++cs.drop (o+I vs))else Z
def je(agg:Bool)(cs:List PV):Option PV:=
 if agg then O (ls cs)else match cs with|[c]=>O c|_=>Z
def lH(agg:Bool)(cs:List fS):Option fS:=
 if agg then O (.agg cs)else match cs with|[c]=>O c|_=>Z
def fU.ga:fU->Option (TypeId×Nat×List PV)
 |.box _=>Z
 |.tok _ _=>Z
 |.map _=>Z
 |.hole=>Z
 |.mt e g cs=>O (e,g,cs)
def ga(H:List fU)(t:Nat):Option (TypeId×Nat×List PV):=(H[t]?).bind fU.ga
def mC(size len:Nat)(ds:List fS):List fS:=(Nad len).map λi=>.agg ((ds.drop (i*size)).take size)
def xT(cs:List PV)(o len cap:Nat):Option (List fS):=
 if o=0/\0<cap/\2*cap<=I cs then((cut cs 0 (len*(I cs/cap))).bind iG).bind λds=>if ds.all fS.ez then O (mC (I cs/cap) len ds)else Z
 else((cut cs o len).bind iG).bind λds=>if ds.all fS.ez then O ds else Z
def gH(H:List fU):PV->Option fS
 |.b7 d=>O d
 |.j0 _=>O (.ew [])
 |.vec _ es=>O (.ew es)
 |.arr i o len cap=>match H[i]? with
  |some (.box cs)=>(xT cs o len cap).map .ew
  |_=>Z
 |.ms t g lo len _=>match ga H t with
  |some (_,g',cs)=>if g'=g then((cut cs lo len).bind iG).bind λds=>if xW lo ds then O (.ew ds)else Z else Z
  |none=>Z
 |_=>Z
def lz(H:List fU):List PV->Option (List fS)
 |[]=>O []
 |c::r=>match gH H c,lz H r with|some d,O ds=>O (d::ds)|_,_=>Z
def ja(H:List fU):PV->Option fS
 |.agg cs=>(lz H cs).map .agg
 |c=>gH H c
def gR(H:List fU):List PV->Option (List fS)
 |[]=>O []
 |c::r=>match ja H c,gR H r with|some d,O ds=>O (d::ds)|_,_=>Z
def PV.tl:PV->Bool
 |.arr ..|.ms ..=>J
 |_=>U
def PV.fx:PV->Bool
 |.arr ..|.ms ..=>J
 |.agg cs=>cs.any PV.tl
 |_=>U
def fS.scalar:fS->Bool
 |.raw _=>J
 |.agg cs=>cs.all λ|.raw _=>J|_=>U
 |.ew _=>U
def k9:fP->Bool
 |.tuple _=>U
 |_=>J
def fU.mapOf:fU->Option (List (Value×PV))
 |.map es=>if es.all (λe=>k9 e.1)then O es else Z
 |_=>Z
def mapOf(H:List fU)(i:Nat):Option (List (Value×PV)):=(H[i]?).bind fU.mapOf
def EM:TypeDesc->fP->fP->Option Bool
 |.int _,.int k a,.int c b=>if k=c then O (a==b)else Z
 |.string,.string a,.string b|.bool,.bool a,.bool b=>O (a==b)
 |_,_,_=>Z
def AW(kind:TypeDesc)(k:fP):List (Value×PV)->Nat->Option (Option (Nat×PV))
 |[],_=>O Z
 |e::es,i=>match EM kind k e.1 with
  |some J=>O (O (i,e.2))
  |some U=>AW kind k es (i+1)
  |none=>Z
def yR:TypeDesc->Bool
 |.int _|.string|.bool=>J
 |_=>U
def ko(k:Nat)(cs:List PV):List (Nat×TypeId)->Option (List PV×List fU)
 |[]=>O (cs,[])
 |(j,e)::r=>match cs[j]? with
  |some (.b7 (.ew []))=>match ko (k+1) (cs.set j (.vec k [])) r with
   |some (cs,bs)=>O (cs,.tok e 0::bs)
   |none=>Z
  |_=>Z
def lN{d:Type}(c:Nat->Option (Nat×Nat))(cs:List d):List (Nat×List d)->Option (List d)
 |[]=>O cs
 |(i,vs)::r=>match c i with
  |none=>Z
  |some (off,size)=>if I vs=size then(rR cs off vs).bind λcs=>lN c cs r else Z
def s7(t:fN):Option (Nat->Option (Nat×Nat)):=
 match P.underlying t with
 |some (.struct fs)=>(fs.toList.mapM λf=>(P.info? f.type).map λi=>(f.offset,i.size)).map λl i=>l[i]?
 |some (.array _ e)=>(gq P e).map λs i=>O (i*s,s)
 |_=>Z
def l5(d:Nat->Option (Nat×Nat))(j:Nat)(c:List (Nat×Operand)):Bool:=
 c.all λ(i,_)=>match d i with|some (off,size)=>j<off||off+size<=j|none=>U
def oK:Nat->List (Nat×Operand)->Bool
 |_,[]=>J
 |k,(i,_)::r=>i==k &&oK (k+1) r
def rv:PV->Option Nat
 |.b7 (.raw (.int _ n))=>if 0<=n then O n.toNat else Z
 |_=>Z
def jc(D:fO->PV)(d:Nat):Option Operand->Option Nat
 |none=>O d
 |some x=>rv (D x)
def pv:PV->Option Bool
 |.b7 (.raw (.bool b))=>O b
 |_=>Z
def Qd(n:Int):PV:=.b7 (.raw (.int .i64 n))
def Qp(b:Bool):PV:=.b7 (.raw (.bool b))
abbrev gO:=FuncId->List PV->List fU->Option (PV×List fU)
def jd:Nat:=140737488355328
def ud(H:List fU)(e:fN)(size bytes:Nat)(s:PV)(es:List fS):Option (PV×List fU):=
 if es.all (fS.fits size)then
  match s with
  |.vec t xs=>match H[t]? with
   |some (.tok e' n)=>if xs.all (fS.fits size)/\e'=e/\n=I xs/\(I xs+I es)*bytes<=jd then
     O (.vec t (xs++es),H.set t (.tok e (I xs+I es)))else Z
   |_=>Z
  |_=>Z
 else Z
def kb(H:List fU):PV->Option (List fS)
 |.j0 _=>O []
 |.b7 (.ew es)=>O es
 |.vec _ es=>O es
 |.arr i o len cap=>match gH H (.arr i o len cap)with|some (.ew ds)=>O ds|_=>Z
 |_=>Z
def Is:List (Nat×TypeId)->Bool
 |(j,_)::_=>j==1001
 |[]=>U
def sw(D:fO->PV)(size:Nat)(c:List (Nat×Operand)):Bool:=c.all λ(_,x)=>(D x).cells.length==size &&(D x).cells.all PV.cell
def kC(H:List fU):PV->Option (List PV)
 |.ms t g lo len _=>match ga H t with
  |some (_,g',cs)=>if g'=g then cut cs lo len else Z
  |none=>Z
 |p=>match kb H p with
  |some es=>if es.all fS.ez then O (es.map .b7)else Z
  |none=>Z
def PV.flat:PV->Bool
 |.b7 (.agg _)=>U
 |_=>J
def ly(H:List fU)(e bytes tt g lo len cap:Nat)(es:List PV):Option (PV×List fU):=
 if es.all PV.cell/\lo=0 then
  if es.isEmpty then O (.ms tt g lo len cap,H)else
  match ga H tt with
  |some (e',g',cs)=>if g'=g/\e'=e then
    if len+I es<=I cs then O (.ms tt g 0 (len+I es) (max cap (len+I es)),H.set tt (.mt e g (cs.take len++es++cs.drop (len+I es))))
    else if len=I cs/\(len+I es)*bytes<=jd then O (.ms tt (g+1) 0 (len+I es) (len+I es),H.set tt (.mt e (g+1) (cs++es)))
    else Z
   else Z
  |none=>Z
 else Z
def ve(H:List fU)(e bytes:Nat)(es:List fS):Option (PV×List fU):=
 if es.all fS.ez=J/\(I es)*bytes<=jd then
  O (.ms (I H) (if es.isEmpty then 0 else 1) 0 (I es) (I es),H++[.mt e (if es.isEmpty then 0 else 1) (es.map .b7)])else Z
def qf(H:List fU)(e size bytes tt g lo len:Nat)(x:PV):Option (PV×List fU):=
 match kb H x,ga H tt with
 |some es,O (e',g',cs)=>if 1<size/\es.all (fS.fits size)/\lo=0/\g'=g/\e'=e/\len=I cs/\0<I es/\(len+I es)*bytes<=jd/\cs.all (λc=>!c.flat)=J then
   O (.ms tt (g+1) 0 (len+I es) (len+I es),H.set tt (.mt e (g+1) (cs++es.map .b7)))else Z
 |_,_=>Z
def qw(H:List fU)(e size bytes:Nat)(z:fS)(c:Int):Option (PV×List fU):=
 if 0<=c/\c*bytes<=jd/\c<=9223372036854775807/\0<bytes/\(size=1/\z.ez=J\/1<size/\z.fits size=J)then
  (if c=0 then O (.ms (I H) 0 0 0 0,H++[.mt e 0 []])else O (.ms (I H) 1 0 c.toNat c.toNat,H++[.mt e 1 (Nab c.toNat (.b7 z))]))else Z
def PV.isMap:PV->Bool
 |.hC _=>J
 |_=>U
def mi:PV->Option Nat
 |.ms _ _ _ len _=>O len
 |.j0 _=>O 0
 |.b7 (.ew es)=>O (I es)
 |.vec _ es=>O (I es)
 |.arr _ _ len _=>O len
 |_=>Z
def gF(b:Builtin)(argTypes:Array TypeId)(args:List PV)(H:List fU):Option (PV×List fU):=
 match b,args with
 |.len,[x]=>match(argTypes[0]?).bind P.underlying with
  |some (.slice _)=>match mi x with
   |some n=>O (Qd (n:Int),H)
   |none=>Z
  |some (.map _ _)=>match x with
   |.hC i=>match mapOf H i with
    |some es=>O (Qd (I es:Int),H)
    |none=>Z
   |_=>Z
  |_=>Z
 |.append,[.ms tt g lo len cap,x]=>match argTypes.toList with
  |[t,c]=>match fV P t with
   |some e=>match bytesOf P e,kC H x with
    |some bytes,O es=>if gq P e=O 1/\0<bytes/\c=t/\(gB P e).map fS.num=O 1 then ly H e bytes tt g lo len cap es
     else if es.isEmpty=J/\lo=0/\c=t/\(gq P e).isSome=J then O (.ms tt g lo len cap,H)else Z
    |some bytes,Z=>match gq P e with
     |some size=>if 0<bytes/\c=t/\(gB P e).map fS.num=O size then qf H e size bytes tt g lo len x else Z
     |none=>Z
    |_,_=>Z
   |none=>Z
  |_=>Z
 |.append,[.arr _ _ 0 0,.b7 (.ew es)]=>match argTypes.toList with
  |[t,c]=>match fV P t with
   |some e=>match bytesOf P e with
    |some bytes=>if gq P e=O 1/\0<bytes/\c=t/\(gB P e).map fS.num=O 1 then ve H e bytes es else Z
    |none=>Z
   |none=>Z
  |_=>Z
 |.append,[s,x]=>match argTypes.toList with
  |[t,c]=>match fV P t with
   |some e=>match gq P e,bytesOf P e,kb H x with
    |some size,O bytes,O es=>if 0<size/\0<bytes/\c=t/\(gB P e).map fS.num=O size then ud H e size bytes s es else Z
    |_,_,_=>Z
   |none=>Z
  |_=>Z
 |.clear,[.arr i off len _]=>match argTypes.toList with
  |[t]=>match fV P t with
   |some e=>match gB P e,gq P e,H[i]? with
    |some z,O size,O (.box cs)=>if 0<len/\off+len*size<=I cs/\(I z.cells)=size then
      O (.fz [],H.set i (.box (cs.take off++(Nab len (z.cells.map PV.b7)).flatten++cs.drop (off+len*size))))else Z
    |_,_,_=>Z
   |none=>Z
  |_=>Z
 |.clear,[.b7 (.ew [])]=>match argTypes.toList with
  |[t]=>if(fV P t).isSome then O (.fz [],H)else Z
  |_=>Z
 |_,_=>Z
def tj(D:fO->PV)(lo hi:Option Operand)(tt g c len cap:Nat):Option PV:=
 match jc D 0 lo,jc D len hi with
 |some l,O h=>if l<=h/\h<=max len cap then O (if l=0\/l<h then .ms tt g (c+l) (h - l) (max len cap - l)else .b7 (.ew []))else Z
 |_,_=>Z
def CH(D:fO->PV)(lo hi:Option Operand)(size i off len cap:Nat):Option PV:=
 match jc D 0 lo,jc D len hi with
 |some l,O h=>if l<=h/\h<=cap then O (if l=0\/l<h then .arr i (off+l*size) (h - l) (cap - l)else .b7 (.ew []))else Z
 |_,_=>Z
def oh(D:fO->PV)(k:fO)(t:fN)(es:List (Value×PV)):Option (Value×TypeId×Option (Nat×PV)):=
 match P.underlying t,(D k).e6 with
 |some (.map kt e),O c=>match P.underlying kt with
  |some d=>if yR d then(AW d c es 0).map λr=>(c,e,r)else Z
  |none=>Z
 |_,_=>Z
def gZ(o:Oper)(D:fO->PV)(H:List fU):Option (PV×List fU):=
 let vals:=o.op.operands.toList.map λx=>(D x).e6
 if vals.all Option.isSome then
  match jg P (execOp (λx=>((D x).e6).getD undef) o)with
  |some (.value v)=>(sU v).map (·,H)
  |_=>Z
 else Z
def Dp(op:BinOp)(t:fN)(p q:PV):Option Bool:=
 match p,q with
 |.fn _ _,.b7 (.raw .nilFunc)=>match P.underlying t with
  |some (.func _ _ _)=>match op with|.eql=>O U|.neq=>O J|_=>Z
  |_=>Z
 |.ptr _ _,.b7 (.raw (.pointer Z))|.eI _,.b7 (.raw (.pointer Z))=>match P.underlying t with
  |some (.pointer _)=>match op with|.eql=>O U|.neq=>O J|_=>Z
  |_=>Z
 |_,_=>Z
def ux(op:BinOp)(t:fN)(p:PV)(y:fO):Option Bool:=
 match P.underlying t,y with
 |some (.slice _),.const (.slice Z 0 0)=>
  (match p with|.j0 b=>O b|.b7 (.ew (_::_))=>O U|_=>Z).bind λb=>match op with|.eql=>O b|.neq=>O (!b)|_=>Z
 |_,_=>Z
def PV.zk:PV->Bool
 |.fn ..=>J
 |_=>U
def wi(d:List (Nat×TypeId))(D:fO->PV)(c:List (Nat×Operand)):Bool:=!d.isEmpty &&(!c.isEmpty &&c.all λ(_,x)=>(D x).zk)
def PV.plainCell:PV->Bool
 |.b7 d=>d.scalar
 |_=>U
def kW(call:gO)(f:fM)(args:List PV)(H:List fU):Option (PV×List fU):=
 match gR H args with
 |some ds=>match call f (ds.map .b7) []with
  |some (.ms t g 0 len _,H')=>match ga H' t with
   |some (e,g',cs)=>if g'=g/\len<=I cs/\(iG (cs.take len)).isSome/\(!(args.any PV.fx)||(cs.take len).all PV.plainCell)then O (.ms (I H) 1 0 len len,H++[.mt e 1 (cs.take len)])else Z
   |none=>Z
  |some (.hC 0,[.map es])=>if args.isEmpty=J/\es.all (λe=>e.2.plainCell)=J then O (.hC (I H),H++[.map es])else Z
  |_=>Z
 |none=>Z
def wx(call:gO)(f:fM)(ops:List Operand)(args:List PV)(j:Nat)(e:fN)(H:List fU):Option (PV×List fU):=
 match ops[j]? with
 |some (.const (.slice Z 0 0))=>call f (args.set j (.ms (I H) 0 0 0 0)) (H++[.mt e 0 []])
 |_=>Z
def Hv:fP->fP->Bool
 |.int k a,.int c b=>decide (k=c) &&a==b
 |.bool a,.bool b=>a==b
 |.string a,.string b=>a.data==b.data
 |.nilFunc,.nilFunc=>J
 |.pointer Z,.pointer Z=>J
 |.map Z,.map Z=>J
 |.nilIface,.nilIface=>J
 |.func (.func f) x y,.func (.func g) d e=>(decide (f=g) &&(x.toList.isEmpty &&d.toList.isEmpty)) &&(y.toList.isEmpty &&e.toList.isEmpty)
 |_,_=>U
mutual
def qO:fS->fS->Bool
 |.raw v,.raw w=>Hv v w
 |.ew es,.ew fs=>qv es fs
 |.agg es,.agg fs=>qv es fs
 |_,_=>U
def qv:List fS->List fS->Bool
 |[],[]=>J
 |a::l,b::m=>qO a b &&qv l m
 |_,_=>U
end
mutual
def mM:PV->PV->Bool
 |.b7 d,.b7 e=>qO d e
 |.agg l,.agg m=>pD l m
 |.fz l,.fz m=>pD l m
 |.vec t es,.vec k fs=>decide (t=k) &&qv es fs
 |.ptr i o,.ptr n p=>decide (i=n) &&decide (o=p)
 |.eI cs,.eI ds=>qv cs ds
 |.arr i o l c,.arr n p q r=>(decide (i=n) &&decide (o=p)) &&(decide (l=q) &&decide (c=r))
 |.fn f l,.fn s m=>decide (f=s) &&pD l m
 |.ms t g o l c,.ms k g' p q r=>(decide (t=k) &&decide (g=g')) &&(decide (o=p) &&(decide (l=q) &&decide (c=r)))
 |.mp t g j,.mp k g' u=>decide (t=k) &&(decide (g=g') &&decide (j=u))
 |.hC i,.hC n=>decide (i=n)
 |.j0 b,.j0 b'=>b==b'
 |.undef,.undef=>J
 |_,_=>U
def pD:List PV->List PV->Bool
 |[],[]=>J
 |a::l,b::m=>mM a b &&pD l m
 |_,_=>U
end
def Am:List (Value×PV)->List (Value×PV)->Bool
 |[],[]=>J
 |a::l,b::m=>(Hv a.1 b.1 &&mM a.2 b.2) &&Am l m
 |_,_=>U
def Ma:fU->fU->Bool
 |.map l,.map m=>Am l m
 |.box l,.box m=>pD l m
 |.tok e n,.tok e' n'=>decide (e=e') &&decide (n=n')
 |.mt e g l,.mt e' g' m=>(decide (e=e') &&decide (g=g')) &&pD l m
 |_,_=>U
def xB:List fU->List fU->Bool
 |[],[]=>J
 |a::l,b::m=>Ma a b &&xB l m
 |_,_=>U
def mz(call:gO)(c:PV)(args:List PV)(H:List fU):Option (PV×List fU):=
 match c with
 |.b7 (.raw (.func (.func f) _ _))=>call f args H
 |.fn f cap=>call f (args++cap) H
 |_=>Z
open Classical in
noncomputable def rN(call:gO)(c:PV)(args:List PV)(H:List fU):Option (PV×List fU):=
 match mz call c args H with
 |some (v,H')=>if xB H H'=J\/H'=H then O (v,H')else Z
 |none=>Z
def PV.numOf:PV->Option Nat
 |.b7 d=>O d.num
 |_=>Z
def mO(size n:Nat):Nat:=if size=1 then n else n*size
def nw(t:fN)(f c:PV)(H:List fU):Option (PV×List fU):=
 match gq P t with
  |some size=>match f with
   |.ptr i off=>match H[i]? with
    |some (.box cs)=>if I c.cells=size/\c.cells.all PV.cell then(rR cs off c.cells).map λcs=>(.fz [],H.set i (.box cs))else Z
    |_=>Z
   |.mp tt gg j=>match ga H tt with
    |some (e,g',cs)=>if g'=gg/\size=1/\c.cell=J/\cs[j]?.map PV.flat=O J then O (.fz [],H.set tt (.mt e gg (cs.set j c)))
     else match c with
      |.b7 d=>if g'=gg/\1<size/\d.fits size=J/\j%size=0/\(cs[j/size]?.bind PV.numOf)=O size then O (.fz [],H.set tt (.mt e gg (cs.set (j/size) (.b7 d))))else Z
      |_=>Z
    |none=>Z
   |_=>Z
  |none=>Z
def kR(t:fN)(c:PV)(H:List fU):Option (PV×List fU):=
 match qh P t,gq P t with
  |some g,O size=>match c with
   |.ptr i off=>match H[i]? with
    |some (.box cs)=>((cut cs off size).bind (je g)).map (·,H)
    |_=>Z
   |.eI cs=>((cut cs 0 size).bind (lH g)).map λd=>(.b7 d,H)
   |.mp t gg j=>match ga H t with
    |some (_,g',cs)=>if g'=gg/\size=1/\cs[j]?.map PV.flat=O J then((cut cs j size).bind (je g)).map (·,H)
     else if g'=gg/\1<size/\g=J/\j%size=0/\(cs[j/size]?.bind PV.numOf)=O size then(cs[j/size]?).map (·,H)else Z
    |none=>Z
   |_=>Z
  |_,_=>Z
def iw(H:List fU):PV->Option (fS×List fU)
 |.b7 d=>O (d,H)
 |.vec _ es=>O (.ew es,H)
 |.ms t g lo len cap=>match gH H (.ms t g lo len cap),ga H t with
  |some d,O (e,_,_)=>O (d,H.set t (.mt e (g+1) []))
  |_,_=>Z
 |_=>Z
def gy:List fU->List PV->Option (List fS×List fU)
 |H,[]=>O ([],H)
 |H,c::cs=>match iw H c with
  |some (d,H1)=>match gy H1 cs with
   |some (ds,H2)=>O (d::ds,H2)
   |none=>Z
  |none=>Z
def tm(call:gO)(f:fM)(args:List PV)(H:List fU):Option (PV×List fU):=
 match kW call f args H with
 |some (p,H1)=>(iw H1 p).map λx=>(.b7 x.1,x.2)
 |none=>Z
def p6(call:gO)(c:PV)(args:List PV)(H:List fU):Option (PV×List fU):=
 match c with
 |.b7 (.raw (.func (.func f) _ _))=>if args.any PV.fx=J then Z else match gR H args with
  |some ds=>match call f (ds.map .b7) []with
   |some (p,H1)=>(ja H1 p).map λd=>(.b7 d,H)
   |none=>Z
  |none=>Z
 |_=>Z
mutual
def PV.under (n:Nat):PV->Bool
 |.b7 _=>J
 |.agg cs=>mc n cs
 |.fz cs=>mc n cs
 |.vec t _=>decide (t<n)
 |.ptr i _=>decide (i<n)
 |.eI _=>J
 |.arr i _ _ _=>decide (i<n)
 |.fn _ cs=>mc n cs
 |.ms t _ _ _ _=>decide (t<n)
 |.mp t _ _=>decide (t<n)
 |.hC i=>decide (i<n)
 |.j0 _=>J
 |.undef=>J
def mc (n:Nat):List PV->Bool
 |[]=>J
 |c::cs=>c.under n &&mc n cs
end
def fU.under(n:Nat):fU->Bool
 |.box cs=>mc n cs
 |.mt _ _ cs=>mc n cs
 |.map es=>es.all λe=>e.2.under n
 |_=>J
def jn(call:gO)(f:fM)(args:List PV)(n:Nat)(H:List fU):Option (PV×List fU):=
 if n<=I H/\mc n args=J/\(H.take n).all (fU.under n)=J then
  match call f args (H.take n)with
  |some (p,H1)=>if p.under n=J/\(H1.take n).all (fU.under n)=J then O (p,H1.take n++H.drop n)else Z
  |none=>Z
 else Z
mutual
def PV.eR (f:Nat->Nat):PV->PV
 |.b7 d=>.b7 d
 |.agg cs=>.agg (PV.uc f cs)
 |.fz vs=>.fz (PV.uc f vs)
 |.vec t es=>.vec (f t) es
 |.ptr i o=>.ptr (f i) o
 |.eI cs=>.eI cs
 |.arr i o l c=>.arr (f i) o l c
 |.fn g cap=>.fn g (PV.uc f cap)
 |.ms t g lo len cap=>.ms (f t) g lo len cap
 |.mp t g j=>.mp (f t) g j
 |.hC i=>.hC (f i)
 |.j0 b=>.j0 b
 |.undef=>.undef
def PV.uc (f:Nat->Nat):List PV->List PV
 |[]=>[]
 |c::r=>PV.eR f c::PV.uc f r
end
def fU.eR(f:Nat->Nat):fU->fU
 |.box cs=>.box (cs.map (PV.eR f))
 |.tok e n=>.tok e n
 |.mt e g cs=>.mt e g (cs.map (PV.eR f))
 |.map es=>.map (es.map λx=>(x.1,x.2.eR f))
 |.hole=>.hole
def si(b n i:Nat):Nat:=if i<b then i+(n - b)else if i<n then i - b else i
def wG(b n i:Nat):Nat:=if i<n - b then i+b else if i<n then i - (n - b)else i
def u4(call:gO)(f:fM)(args:List PV)(b n:Nat)(H:List fU):Option (PV×List fU):=
 if b<=n/\n<=I H then
  match jn call f (args.map (PV.eR (si b n))) (n - b) (((H.take n).drop b).map (fU.eR (si b n)))with
  |some (p,R)=>O (p.eR (wG b n),H.take b++R.map (fU.eR (wG b n))++H.drop n)
  |none=>Z
 else Z
mutual
def PV.top:PV->Nat
 |.b7 _=>0
 |.agg cs=>u7 cs
 |.fz cs=>u7 cs
 |.vec t _=>t+1
 |.ptr i _=>i+1
 |.eI _=>0
 |.arr i _ _ _=>i+1
 |.fn _ cs=>u7 cs
 |.ms t _ _ _ _=>t+1
 |.mp t _ _=>t+1
 |.hC i=>i+1
 |.j0 _=>0
 |.undef=>0
def u7:List PV->Nat
 |[]=>0
 |c::cs=>max c.top (u7 cs)
end
def lB(call:gO)(c:PV)(args:List PV)(d:Nat)(H:List fU):Option (PV×List fU):=
 match c with
 |.b7 (.raw (.func (.func f) _ _))=>jn call f args (u7 args+d) H
 |_=>Z
def yN(call:gO)(f:fM)(args:List PV)(H:List fU):Option (PV×List fU):=
 if mc 0 args=J then
  match call f args []with
  |some (p,R)=>O (p.eR (·+I H),H++R.map (fU.eR (·+I H)))
  |none=>Z
 else Z
def FD(call:gO)(b d:Nat):gO:=λf args H=>if I H<=b then yN call f args H else u4 call f args b (u7 args+d) H
def sf(call:gO)(c:PV)(args:List PV)(b d:Nat)(H:List fU):Option (PV×List fU):=mz (FD call b d) c args H
def Nt:PV->Option (FuncId×List PV)
 |.b7 (.raw (.func (.func f) _ _))=>O (f,[])
 |.fn f cap=>O (f,cap)
 |_=>Z
theorem FA{call:gO}{c:PV}{f:fM}{cap:List PV}(h:Nt c=O (f,cap))(args:List PV)(H:List fU):mz call c args H=call f (args++cap) H:=by
 unfold Nt at h;split at h
 .simp only[j9,jI]at h;obtain⟨rfl,rfl⟩:=h;rw[mz,jV]
 .simp only[j9,jI]at h;obtain⟨rfl,rfl⟩:=h;rw[mz]
 .cases h
open Classical in
noncomputable def p5(call:gO)(c:PV)(args:List PV)(d:Nat)(H:List fU):Option (PV×List fU):=
 match lB call c args d H with
 |some (p,H1)=>if xB H1 H=J then O (p,H)else if H1=H then O (p,H)else Z
 |none=>Z
def kq:List (Nat×TypeId)->Bool
 |(j,_)::_=>j==5000
 |[]=>U
def lM(d:List (Nat×TypeId))(D:fO->PV)(t:fN)(c:Array (Nat×Operand))(H:List fU):Option (PV×List fU):=
 match gB P t,s7 P t with
  |some z,O e=>match lN e (z.cells.map PV.b7) (c.toList.map λ(i,x)=>(i,(D x).cells))with
   |some cs=>if c.toList.all (λ(_,x)=>(D x).cells.all PV.cell)then(if d.all λ(j,_)=>l5 e j c.toList then
     (match ko (I H) cs d with
      |some (cs,bs)=>O (ls cs,H++bs)
      |none=>Z)else Z)else Z
   |none=>Z
  |_,_=>Z
noncomputable section
def gU(call:gO)(q:List (Nat×TypeId))(o:Oper)(D:fO->PV)(H:List fU):Option (PV×List fU):=
 match o.op with
 |.move x=>if kq q=J then(iw H (D x)).map λy=>(.b7 y.1,y.2)else O (D x,H)
 |.assign x=>match q with
  |[]=>O (D x,H)
  |(j,e)::_=>match x with
   |.const (.slice Z 0 0)=>if j=1000 then O (.ms (I H) 0 0 0 0,H++[.mt e 0 []])else O (.vec (I H) [],H++[.tok e 0])
   |_=>Z
 |.pick c a b=>(pv (D c)).map λt=>(if t then D a else D b,H)
 |.alloc e=>match gB P e with
  |some z=>match ko (I H+1) (z.cells.map .b7) q with
   |some (cs,bs)=>O (.ptr (I H) 0,H++.box cs::bs)
   |none=>Z
  |none=>Z
 |.box _ x=>match q with
  |[]=>if(D x).cells.all PV.cell then O (.ptr (I H) 0,H++[.box (D x).cells])else Z
  |_::_=>(iG (D x).cells).map λds=>(.eI ds,H)
 |.build t p=>if kq q=J then(match lM P [] D t p H with
   |some (.agg cs,H1)=>(match gy H1 cs with
    |some (ds,H2)=>O (.b7 (.agg ds),H2)
    |none=>Z)
   |_=>Z)else lM P q D t p H
 |.buildSlice t len p=>match fV P t with
  |some e=>if Is q=J then
    (match gq P e with
     |some size=>if(gB P e).isSome/\p.size=len/\oK 0 p.toList/\0<size/\len*size<=16777216/\sw D size p.toList=J then
       O (.arr (I H) 0 len len,H++[.box (p.toList.flatMap λ(_,x)=>(D x).cells)])else Z
     |none=>Z)
   else if wi q D p.toList then
    (if gq P e=O 1/\(gB P e).isSome/\p.size=len/\oK 0 p.toList/\len<=16777216 then O (.arr (I H) 0 len len,H++[.box (p.toList.map λ(_,x)=>D x)])else Z)
   else match gq P e,gR H (p.toList.map λ(_,x)=>D x)with
   |some size,O ds=>
    if(gB P e).isSome/\p.size=len/\oK 0 p.toList/\ds.all (fS.fits size)/\0<size/\len*size<=16777216/\!(p.toList.any λ(_,x)=>(D x).fx)then
     (match q with
      |[]=>O (.b7 (.ew ds),H)
      |(j,e')::_=>if e'=e then(if j=1000 then(if ds.isEmpty then O (.ms (I H) 0 0 0 0,H++[.mt e 0 []])else if size=1/\ds.all fS.ez=J\/1<size then O (.ms (I H) 1 0 (I ds) (I ds),H++[.mt e 1 (ds.map .b7)])else Z)else O (.vec (I H) ds,H++[.tok e (I ds)]))else Z)else Z
   |_,_=>Z
  |none=>Z
 |.load t a=>match q with
  |[]=>kR P t (D a) H
  |_::_=>match kR P t (D a) H with
   |some (.agg cs,H1)=>(gy H1 cs).map λx=>(.b7 (.agg x.1),x.2)
   |_=>Z
 |.store t a x=>match q with
  |[]=>nw P t (D a) (D x) H
  |_::_=>Z
 |.nilCheck x=>match D x with
  |.ptr i off=>O (.ptr i off,H)
  |.eI cs=>O (.eI cs,H)
  |.fn f cap=>O (.fn f cap,H)
  |.b7 (.raw (.func (.func f) first cap))=>O (.b7 (.raw (.func (.func f) first cap)),H)
  |_=>Z
 |.makeFunc (.func f) first cap=>if first.isEmpty then
   (if cap.isEmpty then O (.b7 (.raw (.func (.func f) #[] #[])),H)else O (.fn f (cap.toList.map D),H))else Z
 |.makeSlice t l c=>match q with
  |[]=>match fV P t with
   |some e=>match gB P e,gq P e,bytesOf P e,D l,D c with
    |some z,O 1,O bytes,.b7 (.raw (.int .i64 l)),.b7 (.raw (.int .i64 c))=>
     if 0<=l/\l<=c/\c*bytes<=jd/\c<=9223372036854775807/\z.ez then
      O (.arr (I H) 0 l.toNat c.toNat,H++[.box (Nab c.toNat (.b7 z))])else Z
    |_,_,_,_,_=>Z
   |none=>Z
  |(j,e')::_=>if 8000<=j then(match fV P t with
   |some e=>match gB P e,gq P e,bytesOf P e,D l,D c with
    |some z,O 1,O bytes,.b7 (.raw (.int .i64 l)),.b7 (.raw (.int .i64 c))=>
     if 0<=l/\l=c/\c*bytes<=jd/\c<=9223372036854775807/\z.ez then O (.b7 (.ew (Nab c.toNat z)),H)else Z
    |_,_,_,_,_=>Z
   |none=>Z)
  else if j=1000 then(match fV P t with
   |some e=>match gB P e,gq P e,bytesOf P e,D l,D c with
    |some z,O size,O bytes,.b7 (.raw (.int .i64 l)),.b7 (.raw (.int .i64 c))=>if e'=e/\l=c then qw H e size bytes z c else Z
    |_,_,_,_,_=>Z
   |none=>Z)
  else Z
 |.makeMap t Z=>match P.underlying t with
  |some (.map _ _)=>O (.hC (I H),H++[.map []])
  |_=>Z
 |.mapUpdate t m k x|.insert t m k x=>match D m with
  |.hC i=>match mapOf H i with
   |some es=>match oh P D k t es with
    |some (w,_,O (j,_))=>O (.fz [],H.set i (.map (es.set j (w,D x))))
    |some (w,_,Z)=>O (.fz [],H.set i (.map (es++[(w,D x)])))
    |none=>Z
   |none=>Z
  |_=>Z
 |.lookup t m k ok=>match D m with
  |.hC i=>match mapOf H i with
   |some es=>match oh P D k t es with
    |some (_,_,O (_,v))=>O (if ok then .fz [v,Qp J]else v,H)
    |some (_,e,Z)=>(gB P e).map λz=>(if ok then .fz [.b7 z,Qp U]else .b7 z,H)
    |none=>Z
   |none=>Z
  |_=>Z
 |.fieldAddr s x f=>match fieldsOf P s with
  |some fs=>match fs[f]? with
   |some u=>match gq P u.type with
    |some (_+1)=>match D x with
     |.ptr i off=>O (.ptr i (off+u.offset),H)
     |.eI cs=>O (.eI (cs.drop u.offset),H)
     |_=>Z
    |_=>Z
   |none=>Z
  |none=>Z
 |.indexAddr t x A=>match D A with
  |.b7 (.raw (.int _ n))=>match fV P t with
   |some e=>match gq P e with
    |some size=>if 0<=n then(match D x with
     |.b7 (.ew es)|.vec _ es=>match es[n.toNat]? with
      |some d=>if d.num=size then O (.eI d.cells,H)else Z
      |none=>Z
     |.arr i off len _=>if n.toNat<len then O (.ptr i (off+n.toNat*size),H)else Z
     |.ms t g lo len _=>if(size=1\/lo=0)/\n.toNat<len then O (.mp t g (lo+mO size n.toNat),H)else Z
     |_=>Z)else Z
    |none=>Z
   |none=>match nx P t with
    |some (len,e)=>match gq P e,D x with
     |some size,.eI cs=>if 0<=n/\n<(len:Int)then O (.eI (cs.drop (n.toNat*size)),H)else Z
     |some size,.ptr i off=>if 0<=n/\n<(len:Int)then O (.ptr i (off+n.toNat*size),H)else Z
     |_,_=>Z
    |none=>Z
  |_=>Z
 |.slice t x lo hi Z=>match D x with
  |.b7 (.ew es)|.vec _ es=>match fV P t with
   |some e=>
    match jc D 0 lo,jc D (I es) hi,gq P e with
    |some l,O h,O size=>if l<=h/\h<=I es/\(l==0||es.all λd=>d.num==size)then O (.b7 (.ew ((es.take h).drop l)),H)else Z
    |_,_,_=>Z
   |none=>Z
  |.ms tt g B len cap=>match fV P t with
   |some e=>if gq P e=O 1\/((gq P e).isSome=J/\lo.isNone=J)then(tj D lo hi tt g B len cap).map (·,H)else Z
   |none=>Z
  |.arr i off len cap=>match fV P t with
   |some e=>match gq P e with
    |some size=>(CH D lo hi size i off len cap).map (·,H)
    |none=>Z
   |none=>Z
  |_=>gZ P o D H
 |.slice t x lo (O hi) (O C)=>match fV P t with
  |some e=>match mi (D x),jc D 0 lo,rv (D hi),rv (D C)with
   |some n,O l,O h,O m=>if l<=h/\h<=m/\m<=n/\(gq P e).isSome then
     (if h=l then(match q with
      |[]=>O (.b7 (.ew []),H)
      |(_,e')::_=>if l=0/\m=0 then O (.ms (I H) 0 0 0 0,H++[.mt e' 0 []])else Z)
      else O (.undef,H))else Z
   |_,_,_,_=>Z
  |none=>Z
 |.field t x f=>match D x with
  |.b7 (.agg cs)=>(do let fs <-fieldsOf P t;let u <-fs[f]?;let size <-gq P u.type;let g <-qh P u.type;let d <-(cut cs u.offset size).bind (lH g);O (.b7 d,H))
  |.agg cs=>(do let fs <-fieldsOf P t;let u <-fs[f]?;let size <-gq P u.type;let g <-qh P u.type;let d <-(cut cs u.offset size).bind (je g);O (d,H))
  |_=>Z
 |.extract x k=>match D x with
  |.fz vs=>(vs[k]?).map (·,H)
  |_=>Z
 |.call c=>match c.callee with
  |.value f=>match q with
   |[]=>match D f with
    |.b7 (.raw (.func (.func f) _ _))=>call f (c.args.toList.map D) H
    |.fn f cap=>call f (c.args.toList.map D++cap) H
    |_=>Z
   |(j,e)::_=>if 13000<=j then p5 call (D f) (c.args.toList.map D) e H else if 12000<=j then(if 12500<=j then sf call (D f) (c.args.toList.map D) (j - 12500) e H else lB call (D f) (c.args.toList.map D) e H)else if j=7000 then p6 call (D f) (c.args.toList.map D) H else if 6000<=j then rN call (D f) (c.args.toList.map D) H else match D f with
    |.b7 (.raw (.func (.func f) _ _))=>if j=5000 then tm call f (c.args.toList.map D) H else if 2000<=j then wx call f c.args.toList (c.args.toList.map D) (j - 2000) e H else kW call f (c.args.toList.map D) H
    |_=>Z
  |.builtin b=>match gF P b c.argTypes (c.args.toList.map D) H with
   |some r=>O r
   |none=>gZ P o D H
  |.invoke ..=>Z
 |.binOp op t x y _=>match Dp P op t (D x) (D y)with
  |some b=>O (Qp b,H)
  |none=>match ux P op t (D x) y with
   |some b=>O (Qp b,H)
   |none=>gZ P o D H
 |.unOp ..|.convert ..|.index ..=>gZ P o D H
 |_=>Z
structure Hint where
 own:List ((Nat×Nat)×List (Nat×TypeId)):=[]
 ey:List (Nat×List Nat):=[]
 late:List (Nat×Nat):=[]
 flat:List (Nat×List (Nat×List Nat)):=[]
 deriving Inhabited
def Hint.gz(h:Hint)(r i:Nat):List (Nat×TypeId):=((h.own.find? λx=>x.1==(r,i)).map (·.2)).getD []
def Hint.i7(h:Hint)(r:Nat):Option (List Nat):=(h.ey.find? λx=>x.1==r).map (·.2)
def mH(s:List PV)(d:Option Tmp)(v:PV):List PV:=
 match d with
 |some d=>s.set d v
 |none=>s
def gI(ops:Array Oper)(s:List PV)(o:Oper):Option Bool:=
 match o.guard with
 |none=>O J
 |some (j,c)=>match(ops[j]?).bind (·.dst)with
  |none=>Z
  |some d=>match s[d]? with
   |some (.b7 (.raw (.bool b)))=>O (b==c)
   |some (.fz [])=>O U
   |_=>Z
def iW(call:gO)(h:Hint)(r:Nat)(ops:Array Oper)(i:Nat)(o:Oper)(st:St):Option St:=
 match gI ops st.b6 o with
 |some J=>match gU P call (h.gz r i) o (ev st.b6) st.heap with
  |some (v,H)=>O ⟨mH st.b6 o.dst v,H⟩
  |none=>Z
 |some U=>O ⟨mH st.b6 o.dst (.fz []),st.heap⟩
 |none=>Z
def lR(call:gO)(h:Hint)(r:Nat)(ops:Array Oper):Nat->List Oper->St->Option St
 |_,[],st=>O st
 |i,o::os,st=>match iW P call h r ops i o st with
  |some st=>lR call h r ops (i+1) os st
  |none=>Z
def uj(H:List fU)(t:Nat):Option (List fS×List fU):=
 match ga H t with
 |some (e,g,cs)=>if cs.isEmpty then O ([],H)else if cs.all PV.flat then match gy H cs with
  |some (ds,H1)=>match ga H1 t with
   |some (e',g',_)=>if e'=e/\g'=g then O (ds,H1.set t (.mt e g (ds.map .b7)))else Z
   |none=>Z
  |none=>Z else Z
 |none=>Z
def BG(D:fO->PV)(d:fN)(c:Array (Nat×Operand))(k:Nat):Option (List PV):=
 match gB P d,s7 P d with
 |some z,O e=>match lN e (z.cells.map PV.b7) (c.toList.map λ(i,x)=>(i,(D x).cells))with
  |some cs=>if c.toList.all (λ(_,x)=>(D x).cells.all PV.cell)/\l5 e k c.toList=J then match cs[k]? with
   |some (.b7 (.ew []))=>O cs
   |_=>Z else Z
  |none=>Z
 |_,_=>Z
def kJ(fl:List Nat)(o:Oper)(D:fO->PV)(H:List fU):Option (PV×List fU):=
 match fl,o.op with
 |[1],.fieldAddr s x f=>match fieldsOf P s with
  |some fs=>match fs[f]? with
   |some n=>match gq P n.type,D x with
    |some (_+1),.mp t g j=>match ga H t with
     |some (_,g',_)=>if g'=g then O (.mp t g (j+n.offset),H)else Z
     |none=>Z
    |_,_=>Z
   |none=>Z
  |none=>Z
 |[2,t,h,k],.build m d=>match BG P D m d k,uj H t with
  |some cs,O (_,H1)=>match ga H1 h with
   |some (e,g,_)=>O (ls (cs.set k (.ms h (g+1) 0 0 0)),H1.set h (.mt e (g+1) []))
   |none=>Z
  |_,_=>Z
 |[3],.buildSlice m len d=>match fV P m,d.toList with
  |some e,[(0,x)]=>match gq P e with
   |some size=>if len=1/\(gB P e).isSome=J/\(D x).cells.length=size/\(D x).cells.all PV.cell=J/\0<size/\size<=16777216 then O (.arr (I H) 0 1 1,H++[.box (D x).cells])else Z
   |none=>Z
  |_,_=>Z
 |[4],.call c=>match c.callee,c.argTypes.toList,c.args.toList.map D with
  |.builtin .append,[t,p],[.ms tt g lo len _,.arr i 0 1 1]=>match fV P t,ga H tt,H[i]? with
   |some e,O (e',g',cs),O (.box l)=>match gq P e,bytesOf P e with
    |some size,O bytes=>if(p=t/\0<bytes/\(gB P e).map fS.num=O size)/\(0<size/\lo=0/\g'=g/\e'=e)/\(I cs=len*size/\cs.all PV.flat=J)/\(I l=size/\l.all PV.cell=J)/\(len+1)*bytes<=jd then
      O (.ms tt (g+1) 0 (len+1) (len+1),H.set tt (.mt e (g+1) (cs++l)))else Z
    |_,_=>Z
   |_,_,_=>Z
  |_,_,_=>Z
 |[5],.move x=>match D x with
  |.ms t g lo len _=>match uj H t with
   |some (ds,H1)=>match ga H1 t with
    |some (e,g',_)=>match gq P e with
     |some size=>if g'=g/\lo=0/\1<size/\(I ds)=len*size then O (.b7 (.ew (mC size len ds)),H1.set t (.mt e (g+1) []))else Z
     |none=>Z
    |none=>Z
   |none=>Z
  |_=>Z
 |_,_=>Z
def pQ(call:gO)(h:Hint)(r:Nat)(ops:Array Oper)(fl:List (Nat×List Nat))(i:Nat)(o:Oper)(st:St):Option St:=
 match(fl.find? λx=>x.1==i).map (·.2)with
 |none=>iW P call h r ops i o st
 |some l=>match o.guard with
  |none=>(kJ P l o (ev st.b6) st.heap).map λx=>⟨mH st.b6 o.dst x.1,x.2⟩
  |some _=>Z
def lQ(call:gO)(h:Hint)(r:Nat)(ops:Array Oper)(fl:List (Nat×List Nat)):Nat->List Oper->St->Option St
 |_,[],st=>O st
 |i,o::os,st=>match pQ P call h r ops fl i o st with
  |some st=>lQ call h r ops fl (i+1) os st
  |none=>Z
def Hint.ph(h:Hint)(r:Nat):Option (List (Nat×List Nat)):=(h.flat.find? λx=>x.1==r).map (·.2)
def N5:List PV->Bool
 |.vec _ _::_=>J
 |_=>U
def I9:List PV->Bool
 |[.arr _ _ 0 0,.b7 (.ew _)]=>J
 |_=>U
def gd(pf:fM->Bool)(d:List (Nat×TypeId))(o:Oper)(D:fO->PV):Nat:=
 match o.op with
 |.load _ a=>match d with|[]=>(match D a with|.eI _=>0|_=>1)|_::_=>3
 |.alloc _=>2
 |.box ..=>match d with|[]=>2|_::_=>0
 |.makeSlice ..=>match d with|(j,_)::_=>if 8000<=j then 0 else 2|[]=>2
 |.store ..=>3
 |.mapUpdate ..|.insert ..|.range ..|.next ..=>3
 |.lookup ..=>1
 |.makeMap ..=>2
 |.move _=>if kq d=J then 3 else 0
 |.build ..=>match d with|[]=>0|(j,_)::_=>if j=5000 then 3 else 2
 |.assign _|.buildSlice ..|.slice _ _ _ (O _) (O _)=>match d with|[]=>0|_=>2
 |.call c=>match c.callee with
  |.value f=>match d with
   |(j,_)::_=>if 13000<=j then 1 else if 12000<=j then 3 else if 6000<=j then 6 else if 2000<=j then 3 else if(c.args.toList.map D).any PV.fx then 3 else 2
   |[]=>match D f with
   |.b7 (.raw (.func (.func f) _ _))=>if pf f then(if(c.args.toList.map D).any PV.fx then 1 else 0)else 3
   |_=>3
  |.builtin .append=>if N5 (c.args.toList.map D)then 4 else if I9 (c.args.toList.map D)then 2 else 3
  |.builtin .clear=>3
  |.builtin .copy=>3
  |.builtin .cap=>3
  |.builtin .len=>if(c.args.toList.map D).any PV.isMap then 3 else 0
  |_=>0
 |_=>0
def iT(d:List (Nat×TypeId))(o:Oper)(D:fO->PV):Option Nat:=
 match o.op with
 |.call c=>match c.callee,d with
  |.value _,(j,e)::_=>if 13000<=j then O (u7 (c.args.toList.map D)+e)else Z
  |_,_=>Z
 |_=>Z
def sd:Option Nat->Nat
 |some n=>16*(n+1)
 |none=>0
def lI(pf:fM->Bool)(h:Hint)(r i:Nat)(o:Oper)(D:fO->PV):Nat:=
 gd pf (h.gz r i) o D+(if h.late.contains (r,i) &&(h.gz r i).isEmpty then(match o.op with
  |.load _ a=>(match D a with|.ptr i _=>8+16*(i+1)|_=>0)
  |.store _ a _=>(match D a with|.mp _ _ _=>8|.ptr i _=>8+16*(i+1)|_=>0)
  |_=>0)else 0)+sd (iT (h.gz r i) o D)
def uT(a b:Nat):Bool:=!((2<=a &&2<=b && !(a==2 &&b==2))||(a==1 &&b==3)||(a==3 &&b==1))
def AZ(a b:Nat):Bool:=uT (a%8) (b%8)||(a%16==9 &&b%16==11)||(a%16==11 &&b%16==9)
def ib(call:gO)(pf:fM->Bool)(h:Hint)(r:Nat)(ops:Array Oper):Nat->List Oper->St->Option (St×List Nat)
 |_,[],st=>O (st,[])
 |i,o::os,st=>match iW P call h r ops i o st with
  |some c=>match ib call pf h r ops (i+1) os c with
   |some (d,fl)=>O (d,(if gI ops st.b6 o=O J then lI pf h r i o (ev st.b6)else 0)::fl)
   |none=>Z
  |none=>Z
def Ch(A:List Nat)(o:Oper):Nat:=o.after.toList.foldl (λs e=>if Region.binds .any e then s|||(2 ^e.on|||A.getD e.on 0)else s) 0
def NK:List Oper->List Nat->List Nat
 |[],A=>A
 |o::os,A=>NK os (A++[Ch A o])
def A8(ops:Array Oper)(o:Oper):List Tmp:=
 (o.op.operands.toList.filterMap λ|.tmp t=>O t|_=>Z)++(match o.guard with|some (j,_)=>((ops[j]?).bind (·.dst)).toList|none=>[])
def rC(ops:Array Oper)(fl A:List Nat)(i j:Nat):Bool:=
 match ops[i]?,ops[j]? with
 |some oi,O oj=>
  let anc:=(A.getD j 0).testBit i
  (i==j||anc||(A.getD i 0).testBit j||(match oi.dst with|some d=>!(A8 ops oj).contains d|none=>J)) &&
  (i==j||(match oi.dst,oj.dst with|some d,O c=>d !=c|_,_=>J)) &&
  (!(i<j)||anc||AZ (fl.getD i 0) (fl.getD j 0))
 |_,_=>J
def HQ(h0:Nat)(fl:List Nat):Bool:=
 (Nad (I fl)).all λj=>decide (fl.getD j 0<16)||decide (fl.getD j 0%16≠1)||(decide (fl.getD j 0/16<=h0+1) &&((Nad j).all λk=>decide (fl.getD k 0%8<=2)) &&(Nad (I fl)).all λk=>decide (fl.getD k 0%8≠4))
def NG(fl:List Nat):Bool:=fl.all λa=>decide (a%16≠9)||fl.all λb=>decide (b%16≠11)||decide (b/16≠a/16)
def lS(h0:Nat)(ops:Array Oper)(fl:List Nat):Bool:=
 let n:=ops.size
 (HQ h0 fl &&NG fl) &&
 let A:=NK ops.toList []
 (Nad n).all (λj=>match ops[j]? with
  |some o=>A.getD j 0==Ch A o &&o.after.toList.all (λe=>!Region.binds .any e||e.on<j) &&(match o.op with|.select ..=>U|_=>J)
  |none=>U) &&
 (Nad n).all (λj=>(Nad n).all λi=>rC ops fl A i j)
def Ob(ks:List Nat):Bool:=ks.contains 100000
def jo(fl:Bool)(H:List fU)(h0:Nat):PV->PV
 |.b7 d=>.b7 d
 |.vec t es=>if t<h0/\fl=U then .vec t es else .b7 (.ew es)
 |.ptr i o=>if i<h0 then .ptr i o else .undef
 |.eI cs=>.eI cs
 |.arr i o len cap=>if i<h0 then .arr i o len cap else match gH H (.arr i o len cap)with|some d=>.b7 d|none=>.undef
 |.fn f cap=>if cap.all (λ|.ptr i _=>i<h0|.b7 _=>J|.eI _=>J|_=>U)then .fn f cap else .undef
 |.ms t g lo len cap=>if t<h0 then .ms t g lo len cap else match gH H (.ms t g lo len cap)with|some d=>.b7 d|none=>.undef
 |.mp t g j=>if t<h0 then .mp t g j else .undef
 |.hC i=>if i<h0 then .hC i else .undef
 |.j0 b=>.j0 b
 |_=>.undef
def xU(fl:Bool)(H:List fU)(h0:Nat):PV->PV
 |.agg cs=>ls (cs.map (jo fl H h0))
 |.fz []=>.fz []
 |v=>jo fl H h0 v
def gv(fl:Bool)(H:List fU)(h0:Nat):fU->fU
 |.box cs=>.box (cs.map (jo fl H h0))
 |.mt e g cs=>.mt e g (cs.map (jo fl H h0))
 |.map es=>.map (es.map λx=>(x.1,xU fl H h0 x.2))
 |b=>b
def sG(fl:Bool)(H:List fU)(h0:Nat)(ey:List Nat):Nat->List PV->List PV
 |_,[]=>[]
 |i,v::r=>(if ey.contains i then xU fl H h0 v else .undef)::sG fl H h0 ey (i+1) r
def jz(h0:Nat)(ey:Option (List Nat))(st:St):St:=
 match ey with
 |none=>st
 |some ks=>⟨sG (Ob ks) st.heap h0 ks 0 st.b6,(st.heap.take h0).map (gv (Ob ks) st.heap h0)⟩
def Zc:Code->Option Nat
 |.region id _ _=>O id
 |.seq a b=>match Zc a with|some r=>O r|none=>Zc b
 |.block _ c|.scope c|.loop c=>Zc c
 |.cond _ a b=>match Zc a with|some r=>O r|none=>Zc b
 |_=>Z
inductive Ex where
 |normal
 |exit (id:Nat)
 |ret
 deriving DecidableEq,Inhabited
structure Env where
 pa:fM->Option (List fS->Option PV)
 pure:fM->Bool
 hint:fM->Hint
 split:fM->Bool:=λ_=>U
 nf:fM->Option (List PV->List fU->Option (PV×List fU)):=λ_=>Z
structure pZ (σ:Type) where
 st:St
 ys:List Tmp
 out:σ
section
variable{σ:Type}(call:gO)(h:Hint)(Y:List fS->σ->Option (Bool×σ))
def sO(ys:List Tmp)(d:Option Tmp):List Tmp:=match d with|some d=>ys.filter (· !=d)|none=>ys
def AD(k:Option (List Nat))(ys:List Tmp):List Tmp:=match k with|some ks=>ys.filter λt=>ks.contains t|none=>ys
def mr(r:Nat)(ops:Array Oper)(i:Nat)(o:Oper)(is:pZ σ):Option (pZ σ):=
 match o.op,o.guard with
 |.move (.tmp t),Z=>if is.ys.contains t then
   (match o.dst with
    |some d=>if d<I is.st.b6 then O ⟨⟨is.st.b6.set d .undef,is.st.heap⟩,d::is.ys,is.out⟩else Z
    |none=>Z)
  else(iW P call h r ops i o is.st).map λst=>⟨st,sO is.ys o.dst,is.out⟩
 |.call {callee:=.value (.tmp t),args,..},Z=>if is.ys.contains t then
   (match gR is.st.heap (args.toList.map (ev is.st.b6))with
    |some ds=>if(args.toList.map (ev is.st.b6)).any PV.fx then Z else
     (match Y ds is.out with
     |some (b,out)=>O ⟨⟨mH is.st.b6 o.dst (Qp b),is.st.heap⟩,sO is.ys o.dst,out⟩
     |none=>Z)
    |none=>Z)
  else(iW P call h r ops i o is.st).map λst=>⟨st,sO is.ys o.dst,is.out⟩
 |_,_=>(iW P call h r ops i o is.st).map λst=>⟨st,sO is.ys o.dst,is.out⟩
def kM(r:Nat)(ops:Array Oper):Nat->List Oper->pZ σ->Option (pZ σ)
 |_,[],is=>O is
 |i,o::os,is=>match mr P call h Y r ops i o is with
  |some is=>kM r ops (i+1) os is
  |none=>Z
def ic:Nat->Code->pZ σ->Option (Ex×pZ σ)
 |0,_,_=>Z
 |n+1,c,is=>match c with
  |.skip=>O (.normal,is)
  |.region r ops U=>(kM P call h Y r ops 0 ops.toList is).map (Ex.normal,·)
  |.seq a b=>match ic n a is with
   |some (.normal,is)=>ic n b is
   |r=>r
  |.cond x a b=>match pv (ev is.st.b6 x)with
   |some J=>ic n a is
   |some U=>ic n b is
   |none=>Z
  |.block id b=>match ic n b is with
   |some (.exit d,is)=>if d=id then O (.normal,is)else O (.exit d,is)
   |r=>r
  |.loop b=>iloop b (I is.st.heap) n is
  |.exit id=>O (.exit id,is)
  |.ret=>O (.ret,is)
  |_=>Z
 where
 iloop (b:Code) (h0:Nat):Nat->pZ σ->Option (Ex×pZ σ)
 |0,_=>Z
 |n+1,is=>match ic n b ⟨jz h0 ((Zc b).bind h.i7) is.st,AD ((Zc b).bind h.i7) is.ys,is.out⟩with
  |some (.normal,is)=>iloop b h0 n is
  |r=>r
def PV.still:PV->Bool
 |.b7 _|.eI _=>J
 |_=>U
def LG(fn:Func)(caps:List PV)(n:Nat)(out:σ):Option σ:=
 match fn.body with
 |some c=>if caps.all PV.still &&fn.results.isEmpty then
   match ic P call h Y n c ⟨⟨.undef::caps++Nab (fn.ntmps - (I caps+1)) (.fz []),[]⟩,[0],out⟩with
   |some (.exit _,_)=>Z
   |some (_,is)=>O is.out
   |none=>Z
  else Z
 |none=>Z
end
structure Bg where
 heap:List fU
 ub:Option Ex
def tM(s:List PV):List Tmp->List fS->Option (List PV)
 |[],[]=>O s
 |t::ts,d::ds=>tM (s.set t (.b7 d)) ts ds
 |_,_=>Z
def mA(d f:St->Option (Ex×St))(h0:Nat)(b6:List PV)(j:List Tmp)(ds:List fS)(x:Bg):Option (Bool×Bg):=
 match x.ub with
 |some _=>Z
 |none=>match tM b6 j ds with
  |some s=>match d ⟨s,x.heap⟩with
   |some (.normal,g)=>match f g with
    |some (.normal,c)=>O (J,⟨(jz h0 (O []) c).heap,Z⟩)
    |some (e,c)=>O (U,⟨(jz h0 (O []) c).heap,O e⟩)
    |none=>Z
   |_=>Z
  |none=>Z
def oI(call:gO)(hint:fM->Hint)(Y:List fS->Bg->Option (Bool×Bg))(n:Nat)(st:St)(gf:fM)(caps:List PV):Option (Ex×St):=
 match P.funcs[gf]? with
 |some fn=>if fn.name== "runtime.NumGoroutine" then Z else
  match LG P call (hint gf) Y fn caps n ⟨st.heap,Z⟩with
  |some x=>O (x.ub.getD .normal,⟨st.b6,x.heap⟩)
  |none=>Z
 |none=>Z
def gC(call:gO)(pf:fM->Bool)(hint:fM->Hint)(h:Hint):Bool->Nat->Code->St->Option (Ex×St)
 |_,0,_,_=>Z
 |d,n+1,c,st=>match c with
  |.skip=>O (.normal,st)
  |.region r ops U=>match h.ph r with
   |some fl=>(lQ P call h r ops fl 0 ops.toList st).map (Ex.normal,·)
   |none=>(lR P call h r ops 0 ops.toList st).map (Ex.normal,·)
  |.region r ops J=>match ib P call pf h r ops 0 ops.toList st with
   |some (st',fl)=>if lS (I st.heap) ops fl then O (.normal,st')else Z
   |none=>Z
  |.seq a b=>match gC call pf hint h d n a st with
   |some (.normal,st)=>gC call pf hint h d n b st
   |r=>r
  |.cond x a b=>match pv (ev st.b6 x)with
   |some J=>gC call pf hint h d n a st
   |some U=>gC call pf hint h d n b st
   |none=>Z
  |.block id b=>match gC call pf hint h d n b st with
   |some (.exit e,st)=>if e=id then O (.normal,st)else O (.exit e,st)
   |r=>r
  |.loop b=>ploop d b (I st.heap) n st
  |.exit id=>O (.exit id,st)
  |.ret=>O (.ret,st)
  |.label _=>O (.normal,st)
  |.scope b=>gC call pf hint h d n b st
  |.rangeFunc f g assign body=>if d then
    match ev st.b6 f with
    |.fn gf caps=>oI P call hint (mA (gC call pf hint h U n assign) (gC call pf hint h U n body) (I st.heap) st.b6 g.toList) n st gf caps
    |.b7 (.raw (.func (.func gf) _ _))=>oI P call hint (mA (gC call pf hint h U n assign) (gC call pf hint h U n body) (I st.heap) st.b6 g.toList) n st gf []
    |_=>Z
   else Z
  |_=>Z
 where
 ploop (d:Bool) (b:Code) (h0:Nat):Nat->St->Option (Ex×St)
 |0,_=>Z
 |n+1,st=>match gC call pf hint h d n b (jz h0 ((Zc b).bind h.i7) st)with
  |some (.normal,st)=>ploop d b h0 n st
  |r=>r
end
end
noncomputable section
def HY(P:fL)(b6:List PV)(H:List fU):ResultVar->Option PV
 |.tmp t=>O (b6.getD t (.fz []))
 |.cell a t=>match qh P t,gq P t,b6.getD a (.fz [])with
  |some g,O size,.ptr i off=>match H[i]? with
   |some (.box cs)=>(cut cs off size).bind (je g)
   |_=>Z
  |_,_,_=>Z
def iX(P:fL)(b6:List PV)(H:List fU):List ResultVar->Option (List PV)
 |[]=>O []
 |r::c=>match HY P b6 H r,iX P b6 H c with
  |some v,O vs=>O (v::vs)
  |_,_=>Z
def kf:List PV->PV
 |[v]=>v
 |vs=>.fz vs
def sW(H:List fU):PV->Option PV
 |.ptr i o=>match H[i]? with
  |some (.box cs)=>(lz H (cs.drop o)).map .eI
  |_=>Z
 |.eI cs=>O (.eI cs)
 |v=>(gH H v).map .b7
def wC(H:List fU):List PV->Option (List PV)
 |[]=>O []
 |c::r=>match sW H c,wC H r with|some d,O ds=>O (d::ds)|_,_=>Z
def iq(H:List fU):PV->Option PV
 |.fz vs=>(gR H vs).map λds=>.fz (ds.map .b7)
 |.fn f caps=>(wC H caps).map (.fn f ·)
 |v=>(ja H v).map .b7
def tB:fS->Bool
 |.raw _=>J
 |.ew es=>es.isEmpty
 |.agg _=>U
def Ni:fS->Bool
 |.agg cs=>cs.all tB
 |d=>tB d
def fS.kd:fS->Bool
 |.raw _=>J
 |_=>U
def yj:Option fS->Bool
 |some (.ew ds)=>ds.all fS.kd
 |_=>U
def mF(H:List fU):PV->Bool
 |.b7 d=>Ni d
 |.arr i o len cap=>yj (gH H (.arr i o len cap))
 |.ms t g lo len cap=>yj (gH H (.ms t g lo len cap))
 |_=>U
def By(H:List fU):PV->Bool
 |.agg cs=>cs.all (mF H)
 |c=>mF H c
def lF(H:List fU):PV->Bool
 |.fz vs=>vs.all (By H)
 |v=>By H v
def lX:PV->Bool
 |.b7 d=>d.scalar
 |.fz vs=>vs.all λ|.b7 d=>d.scalar|_=>U
 |_=>U
def Env.pf(E:Env)(f:fM):Bool:=E.pure f||((E.pa f).isSome &&(E.nf f).isNone)
def rG(P:fL)(E:Env)(call:gO)(n:Nat)(f:fM)(args:List PV)(H:List fU):Option (PV×List fU):=
 match P.funcs[f]? with
 |some fn=>match fn.body with
  |some c=>
   match gC P call E.pf E.hint (E.hint f) J n c ⟨args++Nab (fn.ntmps - I args) (.fz []),H⟩with
   |some (.exit _,_)=>Z
   |some (_,st)=>(iX P st.b6 st.heap fn.results.toList).map λvs=>(kf vs,st.heap)
   |none=>Z
  |none=>Z
 |none=>Z
def nW(c d:Option (PV×List fU)):Option (PV×List fU):=
 match c,d with
 |some (.ms 0 0 0 0 0,[.mt e 0 []]),O (.ms 0 0 0 0 0,[.mt e' 0 []])=>if e=e' then O (.ms 0 0 0 0 0,[.mt e 0 []])else Z
 |_,_=>Z
def oH:List PV->Bool
 |[.b7 (.ew [])]=>J
 |_=>U
def lT(P:fL)(E:Env)(call:gO)(n:Nat)(f:fM)(args:List PV)(H:List fU):Option (PV×List fU):=
 if E.split f &&(oH args &&H.isEmpty)then nW (rG P E call n f [.j0 J] []) (rG P E call n f [.j0 U] [])else rG P E call n f args H
def ox(P:fL)(f:fM):Bool:=
 match P.funcs[f]? with
 |some fn=>fn.body.isSome && !(fn.name== "runtime.NumGoroutine")
 |none=>U
def kI(P:fL)(E:Env):Nat->gO
 |0,_,_,_=>Z
 |n+1,f,args,H=>if !ox P f then Z else
  match E.pa f with
  |some F=>match E.nf f with
   |some G=>G args H
   |none=>match gR H args with
    |some ds=>match F ds with
     |some v=>if args.any PV.fx && !lX v then Z else O (v,H)
     |none=>Z
    |none=>Z
  |none=>if E.pure f then
    match gR H args with
    |some ds=>match lT P E (kI P E n) n f (ds.map .b7) []with
     |some (r,H')=>match iq H' r with
      |some v=>if args.any PV.fx && !(lX v||lF H' r)then Z else O (v,H)
      |none=>Z
     |none=>Z
    |none=>Z
   else lT P E (kI P E n) n f args H
end
abbrev Nae(n:Nat):PV:=.b7 (.raw (.func (.func n) #[] #[]))
end
section
structure Gh where
 fg:Nat->Nat
 live:Nat->Prop
 own:Nat->Option (Value×Nat)
 S:Nat->Nat->Prop
inductive gL (w:fK) (S:Nat->Nat->Prop):fP->fS->Prop
 |raw (v:fP):kd v=J->gL w S v (.raw v)
 |nil:gL w S (.slice Z 0 0) (.ew [])
 |empty (a:Addr) (cap:Nat):gL w S (.slice (O a) 0 cap) (.ew [])
 |ew (b off len cap k:Nat) (es:List fS) (c:Nat->fP):len=I es->len<=cap->(∀d,d∈es->d.num=k)->
   (∀i,i<len*k->w.cell? ⟨b,off+i,Z⟩=O (c i)/\S b (off+i))->
   (∀(i j:Nat) d u,es[i]?=O d->d.cells[j]?=O u->gL w S (c (i*k+j)) u)->
   gL w S (.slice (O ⟨b,off,Z⟩) len cap) (.ew es)
 |agg (vs:Array Value) (cs:List fS):vs.size=I cs->(∀(j:Nat) v c,vs[j]?=O v->cs[j]?=O c->gL w S v c)->
   gL w S (.agg vs) (.agg cs)
theorem gL.mono{w w':fK}{S l:Nat->Nat->Prop}(n:∀b o,S b o->l b o)(hc:∀b o,S b o->w'.cell? ⟨b,o,Z⟩=w.cell? ⟨b,o,Z⟩){v:fP}{d:fS}(h:gL w S v d):gL w' l v d:=by
 induction h with
 |raw v h=>exact .raw v h
 |nil=>exact .nil
 |empty a cap=>exact .empty a cap
 |ew b off len cap k es c e f m g p j=>
  exact .ew b off len cap k es c e f m (λi hi=>⟨(hc _ _ (g i hi).2).trans (g i hi).1,n _ _ (g i hi).2⟩) j
 |agg vs cs e m j=>exact .agg vs cs e j
def iK(v0:fP)(lo len:Nat):Value:=
 match v0 with
 |.slice (O a) _ cap=>.slice (O (a.add lo)) len (cap - lo)
 |v=>v
def Lg(v0:fP):Prop:=v0=.slice Z 0 0\/(∃a,v0=.slice (O a) 0 0)\/∃b l c,v0=.slice (O ⟨b,0,Z⟩) l c
inductive fW (g:Gh) (N:Nat) (w:fK):fP->PV->Prop
 |b7 (v:fP) (d:fS):gL w g.S v d->fW g N w v (.b7 d)
 |agg (vs:Array Value) (cs:List PV):vs.size=I cs->(∀(j:Nat) v c,vs[j]?=O v->cs[j]?=O c->fW g N w v c)->fW g N w (.agg vs) (.agg cs)
 |fz (vs:Array Value) (cs:List PV):vs.size=I cs->(∀(j:Nat) v c,vs[j]?=O v->cs[j]?=O c->fW g N w v c)->fW g N w (.tuple vs) (.fz cs)
 |vec (v:fP) (t:Nat) (es:List fS) (v0:fP) (n:Nat):t<N->gL w g.S v (.ew es)->g.own t=O (v0,n)->I es<=n->(I es=n->v=v0)->fW g N w v (.vec t es)
 |ptr (i o:Nat):i<N/\g.live i->fW g N w (.pointer (O ⟨g.fg i,o,Z⟩)) (.ptr i o)
 |eI (b o:Nat) (cs:List fS) (c:Nat->fP):(∀i,i<I cs->w.cell? ⟨b,o+i,Z⟩=O (c i)/\g.S b (o+i))->
   (∀(i:Nat) u,cs[i]?=O u->gL w g.S (c i) u)->fW g N w (.pointer (O ⟨b,o,Z⟩)) (.eI cs)
 |arr (i o len cap:Nat):i<N/\g.live i->len<=cap->fW g N w (.slice (O ⟨g.fg i,o,Z⟩) len cap) (.arr i o len cap)
 |fn (f:fM) (vs:Array Value) (cs:List PV):vs.size=I cs->(∀(j:Nat) v c,vs[j]?=O v->cs[j]?=O c->fW g N w v c)->fW g N w (.func (.func f) #[] vs) (.fn f cs)
 |ms (t gg lo len cp:Nat) (v v0:fP) (n:Nat):t<N->g.own t=O (v0,n)->gg<=n->(gg=n->v=iK v0 lo len/\Lg v0)->(∃a c,v=.slice a len c/\cp<=c/\len<=c/\(0<c->a.isSome=J))->fW g N w v (.ms t gg lo len cp)
 |mp (t gg j:Nat) (v v0:fP) (n:Nat):t<N->g.own t=O (v0,n)->gg<=n->(gg=n->∃b l cap,v0=.slice (O ⟨b,0,Z⟩) l cap/\v=.pointer (O ⟨b,j,Z⟩))->(∃a,v=.pointer a)->fW g N w v (.mp t gg j)
 |hC (i:Nat):i<N/\g.live i->fW g N w (.map (O (g.fg i))) (.hC i)
 |j0 (b:Bool) (v:fP):(b=J->v=.slice Z 0 0)->(b=U->∃a cap,v=.slice (O a) 0 cap)->fW g N w v (.j0 b)
 |undef (v:fP):fW g N w v .undef
structure Ext (N:Nat) (g:Gh) (w:fK) (g':Gh) (w':fK):Prop where
 S:∀b o,g.S b o->g'.S b o
 cell:∀b o,g.S b o->w'.cell? ⟨b,o,Z⟩=w.cell? ⟨b,o,Z⟩
 fg:∀i,i<N->g.live i->g'.fg i=g.fg i/\g'.live i
 own:∀t,t<N->∀v n,g.own t=O (v,n)->∃v' n',g'.own t=O (v',n')/\n<=n'/\(n'=n->v'=v)
theorem Ext.refl(N:Nat)(g:Gh)(w:fK):Ext N g w g w:=⟨λ_ _ h=>h,λ_ _ _=>rfl,λ_ _ h=>⟨rfl,h⟩,λ_ _ v n h=>⟨v,n,h,j7 _,λ_=>rfl⟩⟩
theorem Ext.trans{N N':Nat}{g g1 f:Gh}{w j l:fK}(h:Ext N g w g1 j)(k:Ext N' g1 j f l)(d:N<=N'):Ext N g w f l:=
 ⟨λb o c=>k.S b o (h.S b o c),λb o c=>(k.cell b o (h.S b o c)).trans (h.cell b o c),λi hi hl=>⟨(k.fg i (jP hi d) (h.fg i hi hl).2).1.trans (h.fg i hi hl).1,(k.fg i (jP hi d) (h.fg i hi hl).2).2⟩,λt m v n p=>by
  obtain⟨q,n1,r,s,u⟩:=h.own t m v n p;obtain⟨v2,n2,k1,k2,k3⟩:=k.own t (jP m d) q n1 r
  exact⟨v2,n2,k1,jX s k2,λe=>by
   have x:n1=n:=by omega
   have y:n2=n1:=by omega
   rw[k3 y,u x]⟩⟩
theorem Ext.less{N N':Nat}{g g':Gh}{w w':fK}(h:Ext N' g w g' w')(c:N<=N'):Ext N g w g' w':=
 ⟨h.S,h.cell,λi hi=>h.fg i (jP hi c),λt d=>h.own t (jP d c)⟩
theorem gL.ext{N:Nat}{g g':Gh}{w w':fK}(h:Ext N g w g' w'){v:fP}{d:fS}(c:gL w g.S v d):gL w' g'.S v d:=c.mono h.S h.cell
theorem fW.ext{N N':Nat}{g g':Gh}{w w':fK}(h:Ext N g w g' w')(m:N<=N'){v:fP}{p:PV}(y:fW g N w v p):fW g' N' w' v p:=by
 induction y with
 |b7 v d z=>exact .b7 v d (z.ext h)
 |agg vs cs k _ q=>exact .agg vs cs k q
 |fz vs cs k _ q=>exact .fz vs cs k q
 |vec v t es v0 n k l r s x=>
  obtain⟨v',n',k1,k2,k3⟩:=h.own t k v0 n r
  exact .vec v t es v' n' (jP k m) (l.ext h) k1 (jX s k2) (λe=>by
   have A:n'=n:=by omega
   rw[k3 A];exact x y9)
 |ptr i o hi=>rw[<-(h.fg i hi.1 hi.2).1];exact .ptr i o ⟨jP hi.1 m,(h.fg i hi.1 hi.2).2⟩
 |eI b o cs c k l=>exact .eI b o cs c (λi hi=>⟨(h.cell _ _ (k i hi).2).trans (k i hi).1,h.S _ _ (k i hi).2⟩) (λi u B=>(l i u B).ext h)
 |arr i o len cap hi hc=>rw[<-(h.fg i hi.1 hi.2).1];exact .arr i o len cap ⟨jP hi.1 m,(h.fg i hi.1 hi.2).2⟩ hc
 |fn f vs cs k _ q=>exact .fn f vs cs k q
 |ms t gg lo len cp v v0 n k l r s x=>
  obtain⟨v',n',k1,k2,k3⟩:=h.own t k v0 n l;exact .ms t gg lo len cp v v' n' (jP k m) k1 (jX r k2) (λe=>by rw[k3 y9];exact s y9) x
 |mp t gg j v v0 n k l r s x=>
  obtain⟨v',n',k1,k2,k3⟩:=h.own t k v0 n l;exact .mp t gg j v v' n' (jP k m) k1 (jX r k2) (λe=>by rw[k3 y9];exact s y9) x
 |hC i hi=>rw[<-(h.fg i hi.1 hi.2).1];exact .hC i ⟨jP hi.1 m,(h.fg i hi.1 hi.2).2⟩
 |j0 b v k l=>exact .j0 b v k l
 |undef v=>exact .undef v
def tD(P:fL)(g:Gh)(X:Nat)(w:fK)(e:fN)(n:Nat)(v0:fP):Prop:=
 (v0=.slice Z 0 0/\n=0)\/
 ∃b cap cur size,v0=.slice (O ⟨b,0,Z⟩) n cap/\X<=b/\w.heap[b]?=O (.cells cur e (0,0))/\gq P e=O size/\n<=cap/\cap<=maxLen/\cur.size=cap*size/\∀o,g.S b o->o<n*size
def MK(g:Gh)(N X:Nat)(w:fK)(b:Nat)(cs:List PV):Prop:=
 X<=b/\(∃vals d,w.heap[b]?=O (.cells vals d (0,0))/\vals.size=I cs/\∀(j:Nat) v c,vals[j]?=O v->cs[j]?=O c->fW g N w v c)/\∀o,¬g.S b o
def gh:fP->Option Nat
 |.slice (O a) _ cap=>if cap=0 then Z else O a.block
 |_=>Z
def qS(P:fL)(g:Gh)(X:Nat)(w:fK)(e:fN)(cs:List PV)(v0:fP):Prop:=
 ∃(b n cap:Nat) (cur:Array Value) (size:Nat) (ds:List fS),v0=.slice (O ⟨b,0,Z⟩) n cap/\0<cap/\X<=b/\w.heap[b]?=O (.cells cur e (0,0))/\gq P e=O size/\1<size/\cs=ds.map PV.b7/\ds.all (fS.fits size)=J/\(I ds)<=cap/\cap<=maxLen/\cur.size=cap*size/\(∀o,¬g.S b o)/\
  ∀(i j:Nat) d u v,ds[i]?=O d->d.cells[j]?=O u->cur[i*size+j]?=O v->gL w g.S v u
def qZ(P:fL)(g:Gh)(N X:Nat)(w:fK)(e:fN)(cs:List PV)(v0:fP):Prop:=
 (cs=[]/\(v0=.slice Z 0 0\/∃a,v0=.slice (O a) 0 0))\/
 (∃b n cap cur,v0=.slice (O ⟨b,0,Z⟩) n cap/\0<cap/\X<=b/\w.heap[b]?=O (.cells cur e (0,0))/\(∃size,gq P e=O size/\0<size/\cur.size=cap*size)/\(I cs<=cur.size/\cs.all PV.flat=J)/\cap<=maxLen/\cap<=cur.size/\(∀o,¬g.S b o)/\
  ∀(j:Nat) v c,cur[j]?=O v->cs[j]?=O c->fW g N w v c)\/qS P g X w e cs v0
theorem Hu{P:fL}{e:fN}{n cap l:Nat}{F:Prop}(q:∃size,gq P e=O size/\0<size/\n=cap*size)(c:gq P e=O 1)(q4:l<=n/\F):gq P e=O 1/\(l<=cap/\F)/\n=cap:=by obtain⟨size,d,f,g⟩:=q;rw[c]at d;cases d;exact⟨c,⟨by omega,q4.2⟩,by omega⟩
def qm(arr:Array MapEntry)(clock:Nat):Prop:=(∀x∈arr.toList,x.born<clock)/\(arr.toList.map (·.born)).Nodup
open Classical in
noncomputable def nQ:Obj->Option (Array MapEntry)
 |.map arr clock=>if arr.all (λe=>k9 e.key)=J/\qm arr clock then O arr else Z
 |.stringIter s pos=>O #[{key:=.tuple #[.string s],val:=.int .i64 pos,born:=0}]
 |_=>Z
def Mu(g:Gh)(N X:Nat)(w:fK)(b:Nat)(es:List (Value×PV)):Prop:=
 X<=b/\(∃arr o,(w.heap[b]?=O o/\nQ o=O arr)/\arr.size=I es/\∀(j:Nat) m c,arr[j]?=O m->es[j]?=O c->m.key=c.1/\fW g N w m.val c.2)/\∀o,¬g.S b o
def e8(g:Gh)(H:List fU)(i:Nat):Option Nat:=
 match H[i]? with
 |some (.box _)=>O (g.fg i)
 |some (.tok _ _)=>(g.own i).bind λx=>x.1.ownBlock
 |some (.mt _ _ _)=>(g.own i).bind λx=>gh x.1
 |some (.map _)=>O (g.fg i)
 |some .hole=>Z
 |none=>Z
def fU.vo:fU->Prop
 |.box _=>True
 |.map _=>True
 |_=>False
structure Qu (P:fL) (g:Gh) (X N:Nat) (H:List fU) (w:fK):Prop where
 box:∀i cs,H[i]?=O (.box cs)->MK g N X w (g.fg i) cs
 tok:∀i e n,H[i]?=O (.tok e n)->∃v0,g.own i=O (v0,n)/\tD P g X w e n v0
 mt:∀i e n cs,H[i]?=O (.mt e n cs)->∃v0,g.own i=O (v0,n)/\qZ P g N X w e cs v0
 map:∀i es,H[i]?=O (.map es)->Mu g N X w (g.fg i) es
 xb:∀i e cs,H[i]?=O (.mt e 0 cs)->∃v0,g.own i=O (v0,0)/\gh v0=Z
 live:∀i x,H[i]?=O x->(x.vo->g.live i)/\(x=.hole->¬g.live i/\g.own i=Z)
 sep:∀i j b,e8 g H i=O b->e8 g H j=O b->i=j
structure Inv (X:Nat) (w0:fK) (S0:Nat->Nat->Prop) (g:Gh) (w:fK):Prop where
 below:Below X w0 w
 size:X<=w.heap.size
 kk:∀b o,g.S b o->S0 b o\/X<=b
 lt:∀b o,g.S b o->b<w.heap.size
end
theorem fS.im(d:fS):d.num=I d.cells:=by cases d<;>rfl
theorem yx{v:fP}(h:kd v=J):v.oneCell'=J:=by cases v<;>simp_all [kd,Value.oneCell']
theorem tx{v:fP}(h:kd v=J):v.cells=#[v]:=by cases v<;>simp_all [kd,Value.cells]
theorem gL.cells{w:fK}{S:Nat->Nat->Prop}{v:fP}{d:fS}(h:gL w S v d):
  v.cells.size=I d.cells/\∀(j:Nat) u c,v.cells[j]?=O u->d.cells[j]?=O c->gL w S u c:=by
 cases h with
 |raw v h=>rw[tx h];exact⟨rfl,λj u c e f=>by cases j<;>simp[fS.cells]at e f;subst e f;exact .raw _ h⟩
 |nil=>exact⟨rfl,λj u c e f=>by cases j<;>simp_all [fS.cells,Value.cells];subst e f;exact .nil⟩
 |empty a cap=>exact⟨rfl,λj u c e f=>by cases j<;>simp_all [fS.cells,Value.cells];subst e f;exact .empty a cap⟩
 |ew b off len cap k es c e g f m n=>exact⟨rfl,λj u p g1 l=>by cases j<;>simp[fS.cells,Value.cells]at g1 l;subst g1 l;exact .ew b off _ cap k es c e g f m n⟩
 |agg vs cs e f=>exact⟨e,f⟩
theorem fW.cells{g:Gh}{N:Nat}{w:fK}{v:fP}{p:PV}(h:fW g N w v p)(s:p≠.undef):
  v.cells.size=I p.cells/\∀(j:Nat) u c,v.cells[j]?=O u->p.cells[j]?=O c->fW g N w u c:=by
 cases h with
 |b7 v d h=>
  obtain⟨l,k⟩:=h.cells;refine⟨by simp[PV.cells,l],λj u c g1 e=>?_⟩;simp only[PV.cells,jD,j5]at e;obtain⟨x,e,rfl⟩:=e;exact .b7 _ _ (k j u x g1 e)
 |agg vs cs l k=>exact⟨l,k⟩
 |fz vs cs l k=>exact⟨rfl,λj u c g1 e=>by cases j<;>simp_all [PV.cells,Value.cells];subst g1 e;exact .fz _ _ l k⟩
 |vec v t es v0 n l k m q r=>
  have hc:v.cells=#[v]:=by have:=k.cells.1;cases v<;>simp_all [Value.cells];cases k
  rw[hc];exact⟨rfl,λj u c g1 e=>by cases j<;>simp_all [PV.cells];subst g1 e;exact .vec _ _ _ _ _ l k m q r⟩
 |ptr i o h=>exact⟨rfl,λj u c g1 e=>by cases j<;>simp_all [PV.cells,Value.cells];subst g1 e;exact .ptr _ _ h⟩
 |eI b o cs c l k=>exact⟨rfl,λj u C g1 e=>by cases j<;>simp_all [PV.cells,Value.cells];subst g1 e;exact .eI _ _ _ c l k⟩
 |arr i o len cap h y=>exact⟨rfl,λj u c g1 e=>by cases j<;>simp[PV.cells,Value.cells]at g1 e;subst g1 e;exact .arr _ _ _ _ h y⟩
 |fn f vs cs l k=>exact⟨rfl,λj u c g1 e=>by cases j<;>simp_all [PV.cells,Value.cells];subst g1 e;exact .fn _ _ _ l k⟩
 |ms t gg lo len cp v v0 n l k m q r=>
  obtain⟨a,c,rfl,z,A,B⟩:=r;exact⟨rfl,λj u c g1 e=>by cases j<;>simp[PV.cells,Value.cells]at g1 e;subst g1 e;exact .ms _ _ _ _ _ _ v0 n l k m q ⟨_,_,rfl,z,A,B⟩⟩
 |mp t gg j v v0 n l k m q r=>
  obtain⟨a,rfl⟩:=r;exact⟨rfl,λj u c g1 e=>by cases j<;>simp[PV.cells,Value.cells]at g1 e;subst g1 e;exact .mp _ _ _ _ v0 n l k m q ⟨_,rfl⟩⟩
 |j0 b v l k=>
  have hc:v.cells=#[v]:=by
   cases b with
   |true=>rw[l rfl];rfl
   |false=>obtain⟨a,cap,rfl⟩:=k rfl;rfl
  rw[hc];exact⟨rfl,λj u c g1 e=>by cases j<;>simp[PV.cells]at g1 e;subst g1 e;exact .j0 _ _ l k⟩
 |hC i h=>exact⟨rfl,λj u c g1 e=>by cases j<;>simp_all [PV.cells,Value.cells];subst g1 e;exact .hC _ h⟩
 |undef v=>exact absurd rfl s
theorem gL.rk{w:fK}{S:Nat->Nat->Prop}{v:fP}{d:fS}(h:vL v=O d):gL w S v d:=by
 unfold vL at h;split at h
 .cases h;exact .nil
 .split at h
  .rename_i cs e;cases h;refine .agg _ _ yB λj v c f g=>?_
   simp only[jD,zI,f,jN,j9]at g;subst g;exact .raw _ (Array.all_eq_true'.1 e v (fj f))
  .cases h
 .split at h
  .cases h;exact .raw _ (by assumption)
  .cases h
theorem fW.x8{g:Gh}{N:Nat}{w:fK}(v:fP):fW g N w v (su v):=by
 unfold su;split
 .split
  .rename_i vs h;have:vs=#[]:=by simpa using h
   subst this;exact .fz _ _ rfl λj v c h=>by simp at h
  .exact .undef _
 .split
  .exact .b7 _ _ (.rk (by assumption))
  .exact .undef _
theorem fW.hX{g:Gh}{N:Nat}{w:fK}{v:fP}{d:fS}(h:fW g N w v (.b7 d)):gL w g.S v d:=by cases h;assumption
def iU(g:Gh)(w:fK):Prop:=∀gl cs,xu gl=O cs->fW g 0 w (.pointer (O ⟨gl,0,Z⟩)) (.eI cs)
theorem iU.ext{N:Nat}{g g':Gh}{w w':fK}(c:iU g w)(h:Ext N g w g' w'):iU g' w':=λgl cs hc=>(c gl cs hc).ext (h.less (zQ N)) (j7 _)
theorem iU.at{N:Nat}{g:Gh}{w:fK}(c:iU g w){gl:Nat}{cs:List fS}(hc:xu gl=O cs):fW g N w (.pointer (O ⟨gl,0,Z⟩)) (.eI cs):=(c gl cs hc).ext (.refl 0 g w) (zQ N)
theorem iU.x0{g g':Gh}{w:fK}(f:iU g w)(d:∀b o,g.S b o->g'.S b o):iU g' w:=λgl cs hc=>by
 have:=f gl cs hc;cases this with
 |eI b o cs c e j=>exact .eI _ _ _ c (λi hi=>⟨(e i hi).1,d _ _ (e i hi).2⟩) (λi u k=>(j i u k).mono d λ_ _ _=>rfl)
structure sC (g:Gh) (N:Nat) (w:fK) (tmps:Array Value) (b6:List PV):Prop where
 size:tmps.size=I b6
 rep:∀t,fW g N w (tmps.getD t undef) (b6.getD t (.fz []))
 py:iU g w
theorem sC.ev{g:Gh}{N:Nat}{w:fK}{a:Act}{s:List PV}(h:sC g N w a.tmps s)(x:fO):fW g N w (a.eval x) (ev s x):=by
 cases x with
 |tmp t=>exact h.2 t
 |const v=>exact .x8 v
 |func f=>exact .b7 _ _ (.raw _ rfl)
 |global gl=>
  show fW g N w (.pointer (O ⟨gl,0,Z⟩)) (match xu gl with|some cs=>.eI cs|none=>.undef)
  cases c:xu gl with
  |none=>exact .undef _
  |some cs=>exact h.py.at c
theorem sC.ext{N N':Nat}{g g':Gh}{w w':fK}{tmps:Array Value}{s:List PV}(c:sC g N w tmps s)(h:Ext N g w g' w')(d:N<=N'):sC g' N' w' tmps s:=
 ⟨c.1,λt=>(c.2 t).ext h d,c.py.ext h⟩
theorem sC.put{g:Gh}{N:Nat}{w:fK}{a:Act}{s:List PV}(h:sC g N w a.tmps s)(d:Option Tmp){v:fP}{p:PV}(f:fW g N w v p):
  sC g N w (a.put d v).tmps (mH s d p):=by
 cases d with
 |none=>exact h
 |some d=>
  refine⟨by simp[Act.put,mH,h.1],λt=>?_,h.py⟩;simp only[Act.put,mH,jH,jB,cW,zF];by_cases e:d=t
  .subst e;by_cases c:d<I s
   .simp[c,h.1,f]
   .have:=h.2 d;simp[c,h.1]at this |-
    simpa[jH,jB,c,h.1]using this
  .simpa[e,jH,jB]using h.2 t
theorem vT{w:fK}{S:Nat->Nat->Prop}:∀(cs:List fS) (vs:List Value) (us:List Value),pK cs=O us->I vs=I cs->
  (∀(j:Nat) v c,vs[j]?=O v->cs[j]?=O c->gL w S v c)->vs=us
 |[],vs,us,h,hl,_=>by cases h;exact aw (by simpa using hl)
 |.raw u::r,vs,us,h,hl,e=>by
  simp only[pK,j5]at h;obtain⟨d,h,rfl⟩:=h;cases vs with
  |nil=>simp at hl
  |cons v vs=>
   have h0:v=u:=by have:=e 0 v (.raw u) rfl rfl;cases this;rfl
   have:=vT r vs d h (by simpa using hl) (λj v c f g=>e (j+1) v c (by simpa using f) (by simpa using g));rw[h0,this]
 |.ew _::_,_,_,h,_,_=>by simp[pK]at h
 |.agg _::_,_,_,h,_,_=>by simp[pK]at h
theorem fW.e6{g:Gh}{N:Nat}{w:fK}{v u:fP}{p:PV}(h:fW g N w v p)(e:p.e6=O u):v=u:=by
 cases h with
 |b7 v d h=>
  cases h with
  |raw v h=>simpa[PV.e6]using e
  |nil=>simp[PV.e6]at e
  |empty a cap=>simp[PV.e6]at e
  |ew=>simp[PV.e6]at e
  |agg vs cs f k=>
   simp only[PV.e6,j5]at e;obtain⟨us,e,rfl⟩:=e;have:=vT cs vs.toList us e (by simpa using f) (λj v c g1 l=>k j v c (by simpa using g1) l);rw[<-this]
 |_=>simp[PV.e6]at e
theorem AN(P:fL){c:Type}:∀(s:Sem c) (a:c),jg P s=O a->∀w,s.run P w=.ok a w
 |.pure b,a,h,w=>by simp only[jg,j9]at h;subst h;rfl
 |.program k,a,h,w=>AN P (k P) a h w
 |.load ..,_,h,_=>by simp[jg]at h
 |.store ..,_,h,_=>by simp[jg]at h
 |.new ..,_,h,_=>by simp[jg]at h
 |.shape ..,_,h,_=>by simp[jg]at h
 |.freeze ..,_,h,_=>by simp[jg]at h
 |.frozen ..,_,h,_=>by simp[jg]at h
 |.getObj ..,_,h,_=>by simp[jg]at h
 |.setObj ..,_,h,_=>by simp[jg]at h
 |.choose ..,_,h,_=>by simp[jg]at h
 |.sys ..,_,h,_=>by simp[jg]at h
 |.mark ..,_,h,_=>by simp[jg]at h
 |.halt ..,_,h,_=>by simp[jg]at h
theorem fW.xl{g:Gh}{N:Nat}{w:fK}{v:fP}{p:PV}(h:sU v=O p):fW g N w v p:=by
 unfold sU at h;split at h
 .split at h
  .rename_i vs e;cases h;refine .fz _ _ yB λj v c f k=>?_
   simp only[jD,zI,f,jN,j9]at k;subst k;exact .b7 _ _ (.raw _ (Array.all_eq_true'.1 e v (fj f)))
  .cases h
 .simp only[j5]at h;obtain⟨d,h,rfl⟩:=h;exact .b7 _ _ (.rk h)
def gN(P:fL)(o:Oper)(a:Act)(w:fK)(v:fP)(w':fK):Prop:=
 (execOp a.eval o).run P w=.ok (.value v) w'\/((execOp a.eval o).run P w=.ok .skip w'/\v=undef)
theorem Ei{P:fL}{g:Gh}{N:Nat}{w:fK}{o:Oper}{a:Act}{D:fO->PV}{H H':List fU}{p:PV}(f:∀cs b,o.op≠.select cs b)(M:∀x,fW g N w (a.eval x) (D x))(h:gZ P o D H=O (p,H')):∃v,gN P o a w v w/\fW g N w v p/\H'=H:=by
 unfold gZ at h;simp only at h;split at h
 .rename_i c;split at h
  .rename_i v j;simp only[j5,jI]at h;obtain⟨m,k,rfl,rfl⟩:=h;refine⟨v,.inl ?_,.xl k,rfl⟩;have:=AN P _ _ j w;rw[<-this];congr 1;refine execOp_congr o f λx l=>?_
   have d:=an.1 c ((D x).e6) (aq.2 ⟨x,by simpa using l,rfl⟩);obtain⟨u,e⟩:=aC.1 d;rw[e,(M x).e6 e];rfl
  .cases h
 .cases h
section
variable{P:fL}{g g':Gh}{X N N':Nat}{H:List fU}{w w':fK}
theorem iQ{w:fK}{b:Nat}{o:Obj}(h:w.heap[b]?=O o):b<w.heap.size:=(aA.1 h).1
theorem iI{i:Nat}{cs:List PV}(h:H[i]?=O (.box cs)):e8 g H i=O (g.fg i):=by simp[e8,h]
theorem lD{i:Nat}{e:fN}{n:Nat}(h:H[i]?=O (.tok e n)):e8 g H i=(g.own i).bind λx=>x.1.ownBlock:=by simp[e8,h]
theorem iO{i:Nat}{e:fN}{n:Nat}{cs:List PV}(h:H[i]?=O (.mt e n cs)):e8 g H i=(g.own i).bind λx=>gh x.1:=by simp[e8,h]
theorem ku{i:Nat}{es:List (Value×PV)}(h:H[i]?=O (.map es)):e8 g H i=O (g.fg i):=by simp[e8,h]
theorem Qu.eM(j:Qu P g X N H w){i b:Nat}(h:e8 g H i=O b):X<=b/\b<w.heap.size/\i<I H:=by
 unfold e8 at h;split at h
 .rename_i cs hi;cases h;obtain⟨c,⟨vals,p,d,_⟩,_⟩:=j.box i cs hi;exact⟨c,iQ d,(af.1 hi).1⟩
 .rename_i e n hi;obtain⟨v0,c,d⟩:=j.tok i e n hi;rw[c]at h;rcases d with⟨rfl,_⟩|⟨b',cap,cur,size,rfl,k,f,_⟩
  .simp[Value.ownBlock]at h
  .simp[Value.ownBlock]at h;subst h;exact⟨k,iQ f,(af.1 hi).1⟩
 .rename_i e n cs hi;obtain⟨v0,c,d⟩:=j.mt i e n cs hi;rw[c]at h;rcases d with⟨_,rfl|⟨a,rfl⟩⟩|⟨b',l,cap,cur,rfl,k,f,m,_⟩|⟨b',l,cap,cur,size,ds,rfl,k,f,m,_⟩
  .simp[gh]at h
  .simp[gh]at h
  .simp[gh]at h;obtain⟨_,rfl⟩:=h;exact⟨f,iQ m,(af.1 hi).1⟩
  .simp[gh]at h;obtain⟨_,rfl⟩:=h;exact⟨f,iQ m,(af.1 hi).1⟩
 .rename_i es hi;cases h;obtain⟨c,⟨arr,clock,d,_⟩,_⟩:=j.map i es hi;exact⟨c,iQ d.1,(af.1 hi).1⟩
 .cases h
 .cases h
theorem Qu.ua(c:Qu P g X N H w){i:Nat}{cs:List PV}(h:H[i]?=O (.box cs)):g.live i:=(c.live i _ h).1 trivial
theorem Qu.s3(c:Qu P g X N H w){i:Nat}{es:List (Value×PV)}(h:H[i]?=O (.map es)):g.live i:=(c.live i _ h).1 trivial
theorem Qu.sa(c:Qu P g X N H w){i:Nat}(h:H[i]?=O .hole):¬g.live i/\g.own i=Z:=(c.live i _ h).2 rfl
theorem qZ.ey{e:fN}{cs:List PV}{v0:fP}(h:qZ P g N X w e cs v0)(C:Ext N g w g' w')(F:N<=N')(D:∀b,gh v0=O b->w'.heap[b]?=w.heap[b]?)(E:∀b,gh v0=O b->∀o,g'.S b o->g.S b o):qZ P g' N' X w' e cs v0:=by
 rcases h with h|⟨b,n,cap,cur,rfl,h0,k,l,m,p,q,r,s,t⟩|⟨b,n,cap,cur,size,ds,rfl,h0,k,l,m,x,p,y,f,q,r,s,t⟩
 .exact .inl h
 .have V:gh (.slice (O ⟨b,0,Z⟩) n cap)=O b:=by simp[gh];omega
  exact .inr (.inl ⟨b,n,cap,cur,rfl,h0,k,by rw[D b V,l],m,p,q,r,λo z=>s o (E b V o z),λj v c A B=>(t j v c A B).ext C F⟩)
 .have V:gh (.slice (O ⟨b,0,Z⟩) n cap)=O b:=by simp[gh];omega
  exact .inr (.inr ⟨b,n,cap,cur,size,ds,rfl,h0,k,by rw[D b V,l],m,x,p,y,f,q,r,λo z=>s o (E b V o z),λi j d u v A B G=>(t i j d u v A B G).ext C⟩)
theorem tD.ey{e:fN}{n:Nat}{v0:fP}(h:tD P g X w e n v0)(c:∀b,v0.ownBlock=O b->w'.heap[b]?=w.heap[b]?)(d:∀b,v0.ownBlock=O b->∀o,g'.S b o->g.S b o):tD P g' X w' e n v0:=by
 rcases h with h|⟨b,cap,cur,size,rfl,f,j,k,l,m,p,q⟩
 .exact .inl h
 .exact .inr ⟨b,cap,cur,size,rfl,f,by rw[c b (by simp[Value.ownBlock]),j],k,l,m,p,λo r=>q o (d b (by simp[Value.ownBlock]) o r)⟩
theorem Qu.ey(k:Qu P g X N H w)(q:Ext N g w g' w')(B:N<=N')(hl:I H<=N)(r:∀i b,e8 g H i=O b->w'.heap[b]?=w.heap[b]?)(y:∀i b,e8 g H i=O b->∀o,g'.S b o->g.S b o)(f:∀t,t<I H->g'.own t=g.own t)(u:∀i,i<I H->g'.live i->g.live i:=by first|exact λ_ _ h=>h|exact λi hi h=>Or.resolve_left h y9):Qu P g' X N' H w':=by
 have d:∀{i:Nat} {b:fU},H[i]?=O b->i<I H:=λh=>(af.1 h).1
 have s:∀i,e8 g' H i=e8 g H i:=λi=>by
  unfold e8;split
  .rename_i hi;rw[(q.fg i (jP (d hi) hl) (k.ua hi)).1]
  .rename_i hi;rw[f i (d hi)]
  .rename_i hi;rw[f i (d hi)]
  .rename_i hi;rw[(q.fg i (jP (d hi) hl) (k.s3 hi)).1]
  .rfl
  .rfl
 refine⟨λi cs hi=>?_,λi e n hi=>?_,λi e n cs hi=>?_,λi es hi=>?_,λi e cs hi=>by rw[f i (d hi)];exact k.xb i e cs hi,λi x hi=>⟨λF=>(q.fg i (jP (d hi) hl) ((k.live i x hi).1 F)).2,λE=>⟨λG=>((k.live i x hi).2 E).1 (u i (d hi) G),by rw[f i (d hi)];exact((k.live i x hi).2 E).2⟩⟩,λi j b l m=>k.sep i j b (by rw[<-s];exact l) (by rw[<-s];exact m)⟩
 .obtain⟨l,⟨vals,K,m,C,z⟩,D⟩:=k.box i cs hi;rw[(q.fg i (jP (d hi) hl) (k.ua hi)).1];refine⟨l,⟨vals,K,by rw[r i _ (iI hi),m],C,λj v c g1 A=>(z j v c g1 A).ext q B⟩,λo p=>D o (y i _ (iI hi) o p)⟩
 .obtain⟨v0,l,m⟩:=k.tok i e n hi;have p:∀b,v0.ownBlock=O b->e8 g H i=O b:=λb r=>by rw[lD hi,l];exact r
  exact⟨v0,by rw[f i (d hi),l],m.ey (λb h=>r i b (p b h)) (λb h=>y i b (p b h))⟩
 .obtain⟨v0,l,m⟩:=k.mt i e n cs hi;have p:∀b,gh v0=O b->e8 g H i=O b:=λb r=>by rw[iO hi,l];exact r
  exact⟨v0,by rw[f i (d hi),l],m.ey q B (λb h=>r i b (p b h)) (λb h=>y i b (p b h))⟩
 .obtain⟨l,⟨arr,clock,m,C,z⟩,D⟩:=k.map i es hi;rw[(q.fg i (jP (d hi) hl) (k.s3 hi)).1];exact⟨l,⟨arr,clock,⟨by rw[r i _ (ku hi),m.1],m.2⟩,C,λj v c g1 A=>⟨(z j v c g1 A).1,(z j v c g1 A).2.ext q B⟩⟩,λo p=>D o (y i _ (ku hi) o p)⟩
theorem Qu.snoc(l:Qu P g X N H w)(x:fU)(r:∀cs,x=.box cs->MK g N X w (g.fg (I H)) cs)(s:∀e n,x=.tok e n->∃v0,g.own (I H)=O (v0,n)/\tD P g X w e n v0)(k:∀i b,e8 g H i=O b->e8 g (H++[x]) (I H)≠O b)(t:∀e n cs,x=.mt e n cs->∃v0,g.own (I H)=O (v0,n)/\qZ P g N X w e cs v0:=by intro _ _ _ h;cases h)(hmap:∀es,x=.map es->Mu g N X w (g.fg (I H)) es:=by intro _ h;cases h)(hmt0:∀e cs,x=.mt e 0 cs->∃v0,g.own (I H)=O (v0,0)/\gh v0=Z:=by intro _ _ h;cases h)(u:x.vo->g.live (I H):=by first|exact λh=>h.elim|exact λ_=>Or.inl rfl|exact λ_=>by assumption)(m:x=.hole->¬g.live (I H)/\g.own (I H)=Z:=by intro h;cases h):Qu P g X N (H++[x]) w:=by
 have c:∀i,(H++[x])[i]?=if i<I H then H[i]? else if i=I H then O x else Z:=λi=>by
  rw[jT];split
  .rfl
  .rename_i h;by_cases e:i=I H
   .subst e;simp
   .simp[e];omega
 have d:∀i,i<I H->e8 g (H++[x]) i=e8 g H i:=λi hi=>by simp[e8,c,hi]
 have f:∀i b,e8 g (H++[x]) i=O b->i<=I H:=λi b h=>by
  unfold e8 at h;rw[c]at h;by_cases p:i<I H
  .omega
  .by_cases q:i=I H
   .omega
   .simp[p,q]at h
 refine⟨λi cs hi=>?_,λi e n hi=>?_,λi e n cs hi=>?_,λi es hi=>?_,λi e cs hi=>?_,λi y hi=>?_,λi j b p q=>?_⟩
 .rw[c]at hi;split at hi
  .exact l.box i cs hi
  .split at hi
   .rename_i e;subst e;exact r cs (by simpa using hi)
   .cases hi
 .rw[c]at hi;split at hi
  .exact l.tok i e n hi
  .split at hi
   .rename_i e';subst e';exact s e n (by simpa using hi)
   .cases hi
 .rw[c]at hi;split at hi
  .exact l.mt i e n cs hi
  .split at hi
   .rename_i e';subst e';exact t e n cs (by simpa using hi)
   .cases hi
 .rw[c]at hi;split at hi
  .exact l.map i es hi
  .split at hi
   .rename_i e';subst e';exact hmap es (by simpa using hi)
   .cases hi
 .rw[c]at hi;split at hi
  .exact l.xb i e cs hi
  .split at hi
   .rename_i e';subst e';exact hmt0 e cs (by simpa using hi)
   .cases hi
 .rw[c]at hi;split at hi
  .exact l.live i y hi
  .split at hi
   .rename_i e';subst e';obtain rfl:x=y:=by simpa using hi
    exact⟨u,m⟩
   .cases hi
 .have v:=f i b p;have z:=f j b q;by_cases c1:i<I H<;>by_cases c2:j<I H
  .exact l.sep i j b (by rw[<-d i c1];exact p) (by rw[<-d j c2];exact q)
  .obtain rfl:j=I H:=by omega
   exact absurd q (k i b (by rw[<-d i c1];exact p))
  .obtain rfl:i=I H:=by omega
   exact absurd p (k j b (by rw[<-d j c2];exact q))
  .omega
theorem Qu.nb(q:Qu P g X N H w)(z:Ext N g w g' w')(M:N<=N')(hl:I H<=N){k:Nat}(x:fU)(hk:k<I H)(A:∀i b,i≠k->e8 g H i=O b->w'.heap[b]?=w.heap[b]?)(G:∀i b,i≠k->e8 g H i=O b->∀o,g'.S b o->g.S b o)(m:∀t,t<I H->t≠k->g'.own t=g.own t)(E:∀cs,x=.box cs->MK g' N' X w' (g'.fg k) cs)(F:∀e n,x=.tok e n->∃v0,g'.own k=O (v0,n)/\tD P g' X w' e n v0)(B:∀i b,i≠k->e8 g H i=O b->e8 g' (H.set k x) k≠O b)(Q:∀e n cs,x=.mt e n cs->∃v0,g'.own k=O (v0,n)/\qZ P g' N' X w' e cs v0:=by intro _ _ _ h;cases h)(hmap:∀es,x=.map es->Mu g' N' X w' (g'.fg k) es:=by intro _ h;cases h)(hmt0:∀e cs,x=.mt e 0 cs->∃v0,g'.own k=O (v0,0)/\gh v0=Z:=by intro _ _ h;cases h)(R:x.vo->g'.live k:=by first|exact λh=>h.elim|exact λ_=>Or.inl rfl|exact λ_=>by assumption)(C:x≠.hole:=by intro h;cases h)(D:∀i,i<I H->i≠k->g'.live i->g.live i:=by first|exact λ_ _ _ h=>h|exact λi hi _ h=>Or.resolve_left h y9):Qu P g' X N' (H.set k x) w':=by
 have f:∀{i:Nat} {b:fU},H[i]?=O b->i<I H:=λh=>(af.1 h).1
 have l:∀i,(H.set k x)[i]?=if i=k then O x else H[i]?:=λi=>by
  rw[zF];by_cases e:k=i
  .subst e;simp[hk]
  .have e':i≠k:=λh=>e h.symm
   simp[e,e']
 have p:∀i,i≠k->e8 g' (H.set k x) i=e8 g H i:=λi hi=>by
  unfold e8;rw[l,ae hi];split
  .rename_i h;rw[(z.fg i (jP (f h) hl) (q.ua h)).1]
  .rename_i h;rw[m i (f h) hi]
  .rename_i h;rw[m i (f h) hi]
  .rename_i h;rw[(z.fg i (jP (f h) hl) (q.s3 h)).1]
  .rfl
  .rfl
 refine⟨λi cs hi=>?_,λi e n hi=>?_,λi e n cs hi=>?_,λi es hi=>?_,λi e cs hi=>?_,λi y hi=>?_,λi j b r s=>?_⟩
 .rw[l]at hi;split at hi
  .rename_i e;subst e;exact E cs (by simpa using hi)
  .rename_i d;obtain⟨r,⟨vals,ty,s,T,K⟩,W⟩:=q.box i cs hi;rw[(z.fg i (jP (f hi) hl) (q.ua hi)).1];exact⟨r,⟨vals,ty,by rw[A i _ d (iI hi),s],T,λj v c g1 L=>(K j v c g1 L).ext z M⟩,λo u=>W o (G i _ d (iI hi) o u)⟩
 .rw[l]at hi;split at hi
  .rename_i e';subst e';exact F e n (by simpa using hi)
  .rename_i d;obtain⟨v0,r,s⟩:=q.tok i e n hi;have u:∀b,v0.ownBlock=O b->e8 g H i=O b:=λb A=>by rw[lD hi,r];exact A
   exact⟨v0,by rw[m i (f hi) d,r],s.ey (λb h=>A i b d (u b h)) (λb h=>G i b d (u b h))⟩
 .rw[l]at hi;split at hi
  .rename_i e';subst e';exact Q e n cs (by simpa using hi)
  .rename_i d;obtain⟨v0,r,s⟩:=q.mt i e n cs hi;have u:∀b,gh v0=O b->e8 g H i=O b:=λb A=>by rw[iO hi,r];exact A
   exact⟨v0,by rw[m i (f hi) d,r],s.ey z M (λb h=>A i b d (u b h)) (λb h=>G i b d (u b h))⟩
 .rw[l]at hi;split at hi
  .rename_i e';subst e';exact hmap es (by simpa using hi)
  .rename_i d;obtain⟨r,⟨arr,clock,s,T,K⟩,W⟩:=q.map i es hi;rw[(z.fg i (jP (f hi) hl) (q.s3 hi)).1];exact⟨r,⟨arr,clock,⟨by rw[A i _ d (ku hi),s.1],s.2⟩,T,λj v c g1 L=>⟨(K j v c g1 L).1,(K j v c g1 L).2.ext z M⟩⟩,λo u=>W o (G i _ d (ku hi) o u)⟩
 .rw[l]at hi;split at hi
  .rename_i e';subst e';exact hmt0 e cs (by simpa using hi)
  .rename_i d;rw[m i (f hi) d];exact q.xb i e cs hi
 .rw[l]at hi;split at hi
  .rename_i e';subst e';obtain rfl:x=y:=by simpa using hi
   exact⟨R,λe=>absurd e C⟩
  .rename_i d;exact⟨λhp=>(z.fg i (jP (f hi) hl) ((q.live i y hi).1 hp)).2,λY=>⟨λhg=>((q.live i y hi).2 Y).1 (D i (f hi) d hg),by rw[m i (f hi) d];exact((q.live i y hi).2 Y).2⟩⟩
 .by_cases c1:i=k<;>by_cases c2:j=k
  .omega
  .subst c1;exact absurd r (B j b c2 (by rw[<-p j c2];exact s))
  .subst c2;exact absurd s (B i b c1 (by rw[<-p i c1];exact r))
  .exact q.sep i j b (by rw[<-p i c1];exact r) (by rw[<-p j c2];exact s)
theorem yp{w:fK}(o:Obj){a:Addr}(h:a.block<w.heap.size):(w.alloc o).cell? a=w.cell? a:=
 World.cell?_of_block (Below.heap_alloc w o a.block h)
theorem Inv.alloc{w0:fK}{S0:Nat->Nat->Prop}(h:Inv X w0 S0 g w)(o:Obj):Inv X w0 S0 g (w.alloc o):=
 ⟨h.below.alloc h.size o,by simp;exact Nat.le_succ_of_le h.size,h.kk,λb c d=>by simp;exact Nat.lt_succ_of_lt (h.lt b c d)⟩
def Gh.box(g:Gh)(i b:Nat):Gh:={g with fg:=λj=>if j=i then b else g.fg j,live:=λj=>j=i\/g.live j}
def Gh.pd(g:Gh)(b n:Nat):Gh:={g with S:=λb' o=>g.S b' o\/(b'=b/\o<n)}
def Gh.eE(g:Gh)(t:Nat)(v:fP)(n:Nat):Gh:={g with own:=λj=>if j=t then O (v,n)else g.own j}
theorem Ext.alloc{w0:fK}{S0:Nat->Nat->Prop}(h:Inv X w0 S0 g w)(N:Nat)(o:Obj):Ext N g w g (w.alloc o):=
 ⟨λ_ _ h=>h,λb c d=>yp o (h.lt b c d),λ_ _ h=>⟨rfl,h⟩,λ_ _ v n h=>⟨v,n,h,j7 _,λ_=>rfl⟩⟩
theorem Ext.box(N:Nat){i:Nat}(b:Nat)(hi:N<=i):Ext N g w (g.box i b) w:=
 ⟨λ_ _ h=>h,λ_ _ _=>rfl,λj c hl=>⟨by simp only[Gh.box];rw[ae y9],.inr hl⟩,λ_ _ v n h=>⟨v,n,h,j7 _,λ_=>rfl⟩⟩
theorem Ext.pd(N b n:Nat):Ext N g w (g.pd b n) w:=
 ⟨λ_ _ h=>.inl h,λ_ _ _=>rfl,λj c hl=>⟨rfl,hl⟩,λ_ _ v n h=>⟨v,n,h,j7 _,λ_=>rfl⟩⟩
theorem Ext.pt(N:Nat){t:Nat}(v:fP)(n:Nat)(d:N<=t):Ext N g w (g.eE t v n) w:=
 ⟨λ_ _ h=>h,λ_ _ _=>rfl,λj e hl=>⟨rfl,hl⟩,λf c v' n' h=>⟨v',n',by simp only[Gh.eE];rw[ae y9];exact h,j7 _,λ_=>rfl⟩⟩
theorem Qu.alloc{w0:fK}{S0:Nat->Nat->Prop}(c:Qu P g X N H w)(hi:Inv X w0 S0 g w)(hl:I H<=N)(o:Obj):Qu P g X N H (w.alloc o):=
 c.ey (Ext.alloc hi N o) (j7 _) hl (λi b d=>Below.heap_alloc w o b (c.eM d).2.1) (λ_ _ _ _ h=>h) (λ_ _=>rfl)
structure Fr (g:Gh) (H:List fU) (w:fK) (g':Gh) (H':List fU) (w':fK):Prop where
 size:w.heap.size<=w'.heap.size
 ey:∀b,b<w.heap.size->(∀i,e8 g H i≠O b)->w'.heap[b]?=w.heap[b]?
 e8:∀i b,e8 g' H' i=O b->b<w.heap.size->∃j,e8 g H j=O b
 pd:∀b o,g'.S b o->g.S b o\/w.heap.size<=b\/∃i,Pm.e8 g H i=O b
theorem Fr.refl(g:Gh)(H:List fU)(w:fK):Fr g H w g H w:=⟨j7 _,λ_ _ _=>rfl,λi b h _=>⟨i,h⟩,λ_ _ h=>.inl h⟩
theorem Fr.trans{g g1 f:Gh}{H H1 H2:List fU}{w l m:fK}(h:Fr g H w g1 H1 l)(k:Fr g1 H1 l f H2 m):Fr g H w f H2 m:=
 ⟨jX h.size k.size,λb c hn=>(k.ey b (jP c h.size) (λi hi=>by obtain⟨j,e⟩:=h.e8 i b hi c;exact hn j e)).trans (h.ey b c hn),
  λi b hi c=>by obtain⟨j,e⟩:=k.e8 i b hi (jP c h.size);exact h.e8 j b e c,
  λb o d=>by
  rcases k.pd b o d with d|d|⟨i,hi⟩
  .exact h.pd b o d
  .exact .inr (.inl (jX h.size d))
  .by_cases c:b<w.heap.size
   .exact .inr (.inr (h.e8 i b hi c))
   .exact .inr (.inl (db c))⟩
theorem Fr.kk{g g':Gh}{H H':List fU}{w w':fK}(c:w.heap.size<=w'.heap.size)(d:∀b,b<w.heap.size->w'.heap[b]?=w.heap[b]?)(e:∀i b,Pm.e8 g' H' i=O b->b<w.heap.size->∃j,Pm.e8 g H j=O b)(f:∀b o,g'.S b o->g.S b o\/w.heap.size<=b\/∃i,Pm.e8 g H i=O b:=by exact λb o h=>.inl h):Fr g H w g' H' w':=⟨c,λb k _=>d b k,e,f⟩
theorem rf{x:fU}{i b:Nat}(h:e8 g (H++[x]) i=O b)(c:∀e n cs,x≠.mt e n cs:=by intro _ _ _ h;cases h)(d:∀es,x≠.map es:=by intro _ h;cases h):e8 g H i=O b\/(i=I H/\((∃cs,x=.box cs/\b=g.fg (I H))\/(∃e n,x=.tok e n/\(g.own (I H)).bind (λx=>x.1.ownBlock)=O b))):=by
 unfold e8 at h |-;rw[jT]at h;by_cases hi:i<I H
 .rw[aj hi]at h;exact .inl h
 .rw[ae hi]at h;by_cases e:i=I H
  .subst e;simp only[cH,cg]at h;right;refine⟨rfl,?_⟩;cases x with
   |box cs=>exact .inl ⟨cs,rfl,(jS h).symm⟩
   |tok e n=>exact .inr ⟨e,n,rfl,h⟩
   |mt e n cs=>exact absurd rfl (c e n cs)
   |map es=>exact absurd rfl (d es)
   |hole=>cases h
  .have:([x]:List fU)[i - I H]?=Z:=aD yA
   rw[this]at h;cases h
theorem iE{i b:Nat}(h:e8 g' H i=O b)(d:∀j,j<I H->g'.fg j=g.fg j)(e:∀j,j<I H->g'.own j=g.own j):e8 g H i=O b:=by
 have c:∀{x:fU},H[i]?=O x->i<I H:=λh=>(af.1 h).1
 unfold e8 at h |-;split at h
 .rename_i hi;rw[d i (c hi)]at h;exact h
 .rename_i hi;rw[e i (c hi)]at h;exact h
 .rename_i hi;rw[e i (c hi)]at h;exact h
 .rename_i hi;rw[d i (c hi)]at h;exact h
 .cases h
 .cases h
theorem wv{x:fU}{k i b:Nat}(c:k<I H)(h:e8 g (H.set k x) i=O b)(d:∀e n cs,x≠.mt e n cs:=by intro _ _ _ h;cases h)(f:∀es,x≠.map es:=by intro _ h;cases h):(i≠k/\e8 g H i=O b)\/(i=k/\((∃cs,x=.box cs/\b=g.fg k)\/(∃e n,x=.tok e n/\(g.own k).bind (λx=>x.1.ownBlock)=O b))):=by
 unfold e8 at h |-;rw[zF]at h;by_cases e:k=i
 .subst e;rw[aj rfl,aj c]at h;right;refine⟨rfl,?_⟩;cases x with
  |box cs=>exact .inl ⟨cs,rfl,(jS h).symm⟩
  |tok e n=>exact .inr ⟨e,n,rfl,h⟩
  |mt e n cs=>exact absurd rfl (d e n cs)
  |map es=>exact absurd rfl (f es)
  |hole=>cases h
 .rw[ae e]at h;exact .inl ⟨λe'=>e e'.symm,h⟩
theorem oL{te:fN}{n:Nat}{cs:List PV}{i b:Nat}(h:e8 g (H++[.mt te n cs]) i=O b):e8 g H i=O b\/(i=I H/\(g.own (I H)).bind (λx=>gh x.1)=O b):=by
 unfold e8 at h |-;rw[jT]at h;by_cases hi:i<I H
 .rw[aj hi]at h;exact .inl h
 .rw[ae hi]at h;by_cases e:i=I H
  .subst e;simp only[cH,cg]at h;exact .inr ⟨rfl,h⟩
  .have:([fU.mt te n cs]:List fU)[i - I H]?=Z:=aD yA
   rw[this]at h;cases h
theorem na{te:fN}{n:Nat}{cs:List PV}{k i b:Nat}(c:k<I H)(h:e8 g (H.set k (.mt te n cs)) i=O b):(i≠k/\e8 g H i=O b)\/(i=k/\(g.own k).bind (λx=>gh x.1)=O b):=by
 unfold e8 at h |-;rw[zF]at h;by_cases e:k=i
 .subst e;rw[aj rfl,aj c]at h;exact .inr ⟨rfl,h⟩
 .rw[ae e]at h;exact .inl ⟨λe'=>e e'.symm,h⟩
theorem tT{es:List (Value×PV)}{i b:Nat}(h:e8 g (H++[.map es]) i=O b):e8 g H i=O b\/(i=I H/\b=g.fg (I H)):=by
 unfold e8 at h |-;rw[jT]at h;by_cases hi:i<I H
 .rw[aj hi]at h;exact .inl h
 .rw[ae hi]at h;by_cases e:i=I H
  .subst e;simp only[cH,cg,j9]at h;exact .inr ⟨rfl,h.symm⟩
  .have:([fU.map es]:List fU)[i - I H]?=Z:=aD yA
   rw[this]at h;cases h
theorem DG{es:List (Value×PV)}{k i b:Nat}(c:k<I H)(h:e8 g (H.set k (.map es)) i=O b):(i≠k/\e8 g H i=O b)\/(i=k/\b=g.fg k):=by
 unfold e8 at h |-;rw[zF]at h;by_cases e:k=i
 .subst e;rw[aj rfl,aj c]at h;simp only[j9]at h;exact .inr ⟨rfl,h.symm⟩
 .rw[ae e]at h;exact .inl ⟨λe'=>e e'.symm,h⟩
end
abbrev Nai(g:Gh)(H:List fU)(w:World)(a:Act)(r:Operand->PV):Prop:=∀x,fW g (I H) w (a.eval x) (r x)
structure Good (P:fL) (X:Nat) (w0:fK) (S0:Nat->Nat->Prop) (H:List fU) (g:Gh) (w:fK) (p:PV) (H':List fU) (v:fP) (g':Gh) (w':fK):Prop where
 ext:Ext (I H) g w g' w'
 len:I H<=I H'
 rep:fW g' (I H') w' v p
 heap:Qu P g' X (I H') H' w'
 inv:Inv X w0 S0 g' w'
 fr:Fr g H w g' H' w'
abbrev Nah(P:Program)(o:Oper)(a:Act)(X:Nat)(w0:World)(S0:Nat->Nat->Prop)(H:List fU)(g:Gh)(w:World)(p:PV)(K:List fU):Prop:=∃v g' w',gN P o a w v w'/\Good P X w0 S0 H g w p K v g' w'
section
variable{P:fL}{X:Nat}{w0:fK}{S0:Nat->Nat->Prop}{g:Gh}{H H':List fU}{w:fK}{p:PV}{o:Oper}{a:Act}{D:fO->PV}
theorem Good.same(c:Qu P g X (I H) H w)(hi:Inv X w0 S0 g w){v:fP}(d:fW g (I H) w v p):Good P X w0 S0 H g w p H v g w:=
 ⟨Ext.refl _ _ _,j7 _,d,c,hi,Fr.refl _ _ _⟩
theorem iZ{t:fN}{n:Nat}(h:gq P t=O n)(w:fK):(sizeOf t).run P w=.ok n w:=by simp only[gq,j5]at h;obtain⟨i,h,rfl⟩:=h;simp[sizeOf,typeInfo,h]
theorem yY{t:fN}{b:Bool}(h:qh P t=O b)(w:fK):(isAgg t).run P w=.ok b w:=by simp only[qh,j5]at h;obtain⟨d,h,rfl⟩:=h;simp only[isAgg,Sem.run_bind,run_underlying h,Result.andThen_ok];cases d<;>rfl
theorem Q0{t e:fN}(h:fV P t=O e):P.underlying t=O (.slice e):=by
 unfold fV at h;split at h
 .cases h;assumption
 .cases h
theorem qu{t:fN}{fs:List Field}(h:fieldsOf P t=O fs):P.underlying t=O (.struct fs.toArray):=by
 unfold fieldsOf at h;split at h
 .cases h;simpa
 .cases h
theorem oB{N:Nat}{v:fP}{p:PV}{b:Bool}(h:fW g N w v p)(c:pv p=O b):v=.bool b:=by
 unfold pv at c;split at c
 .cases c;exact h.e6 rfl
 .cases c
theorem kz{N:Nat}{v:fP}{p:PV}{n:Nat}(h:fW g N w v p)(c:rv p=O n):∃k,v=.int k n:=by
 unfold rv at c;split at c
 .rename_i k i;split at c
  .rename_i h0;cases c;exact⟨k,by rw[h.e6 rfl];congr 1;omega⟩
  .cases c
 .cases c
theorem GP(x:fO)(c:o.op=.move x\/o.op=.assign x)(d:Qu P g X (I H) H w)(hi:Inv X w0 S0 g w)(M:Nai g H w a D):
  Nah P o a X w0 S0 H g w (D x) H:=by
 refine⟨a.eval x,g,w,.inl ?_,.same d hi (M x)⟩;rcases c with c|c<;>simp[execOp,c]
theorem PS{c x y:fO}{t:Bool}(d:o.op=.pick c x y)(e:pv (D c)=O t)(f:Qu P g X (I H) H w)(hi:Inv X w0 S0 g w)(M:Nai g H w a D):Nah P o a X w0 S0 H g w (if t then D x else D y) H:=by
 have hc:=oB (M c) e;refine⟨if t then a.eval x else a.eval y,g,w,.inl ?_,.same f hi ?_⟩
 .simp[execOp,d,hc,asBool]
 .cases t
  .exact M y
  .exact M x
theorem FV(f:Qu P g X (I H) H w)(hi:Inv X w0 S0 g w)(e:fN):
  Good P X w0 S0 H g w (.vec (I H) []) (H++[.tok e 0]) (.slice Z 0 0) (g.eE (I H) (.slice Z 0 0) 0) w:=by
 have c:Ext (I H) g w (g.eE (I H) (.slice Z 0 0) 0) w:=.pt _ _ _ (j7 _);refine⟨c,by simp,.vec _ _ _ (.slice Z 0 0) 0 yB .nil (by simp[Gh.eE]) (j7 _) yC,?_,⟨hi.below,hi.size,hi.kk,hi.lt⟩,Fr.kk (j7 _) (λ_ _=>rfl) λi b h _=>?_⟩
 case refine_2=>
  rcases rf h with h|⟨_,⟨cs,h,_⟩|⟨e',n,_,h⟩⟩
  .exact⟨i,iE (g:=g) h (λ_ _=>rfl) (λj k=>by simp only[Gh.eE];rw[ae y9])⟩
  .cases h
  .simp[Gh.eE,Value.ownBlock]at h
 refine Qu.snoc (f.ey c yB (j7 _) (λ_ _ _=>rfl) (λ_ _ _ _ h=>h) (λt l=>by simp[Gh.eE];omega)) _ (λcs h=>by cases h) (λe' n h=>?_) (λi b h d=>?_)
 .cases h;exact⟨.slice Z 0 0,by simp[Gh.eE],.inl ⟨rfl,rfl⟩⟩
 .rw[lD (e:=e) (n:=0) yB]at d;simp[Gh.eE,Value.ownBlock]at d
theorem zi{e:fN}(c:o.op=.assign (.const (.slice Z 0 0)))(d:Qu P g X (I H) H w)(hi:Inv X w0 S0 g w):
  Nah P o a X w0 S0 H g w (.vec (I H) []) (H++[.tok e 0]):=
 ⟨_,_,w,.inl (by simp[execOp,c,Act.eval]),FV d hi e⟩
theorem oR{x:fO}{p:PV}(e:o.op=.nilCheck x)(k:D x=p)(h:(∃i off,p=.ptr i off)\/(∃cs,p=.eI cs)\/(∃f cap,p=.fn f cap)\/(∃f j cap,p=.b7 (.raw (.func (.func f) j cap))))(l:Qu P g X (I H) H w)(hi:Inv X w0 S0 g w)(M:Nai g H w a D):
  Nah P o a X w0 S0 H g w p H:=by
 have c:=M x;rw[k]at c;refine⟨a.eval x,g,w,.inl ?_,.same l hi c⟩;rcases h with⟨i,off,rfl⟩|⟨cs,rfl⟩|⟨f,cap,rfl⟩|⟨f,j,cap,rfl⟩
 .generalize d:a.eval x=v at c;cases c;simp[execOp,e,d]
 .generalize d:a.eval x=v at c;cases c;simp[execOp,e,d]
 .generalize d:a.eval x=v at c;cases c;simp[execOp,e,d]
 .have:=c.e6 (u:=.func (.func f) j cap) rfl;simp[execOp,e,this]
theorem E1{f:fM}{cap:Array Operand}(k:o.op=.makeFunc (.func f) #[] cap)(l:Qu P g X (I H) H w)(hi:Inv X w0 S0 g w)(M:Nai g H w a D):Nah P o a X w0 S0 H g w (.fn f (cap.toList.map D)) H:=by
 refine⟨.func (.func f) #[] (cap.map a.eval),g,w,.inl ?_,.same l hi (.fn _ _ _ yB λj v c d e=>?_)⟩
 .simp[execOp,k,Instr.makeFunc]
 .simp only[zL,j5]at d;obtain⟨x,d,rfl⟩:=d;simp only[jD,zI,d,jN,j9]at e;subst e;exact M x
theorem BX{f:fM}(c:o.op=.makeFunc (.func f) #[] #[])(d:Qu P g X (I H) H w)(hi:Inv X w0 S0 g w):
  Nah P o a X w0 S0 H g w (.b7 (.raw (.func (.func f) #[] #[]))) H:=
 ⟨.func (.func f) #[] #[],g,w,.inl (by simp[execOp,c,Instr.makeFunc]),.same d hi (.b7 _ _ (.raw _ rfl))⟩
theorem AS{S:Nat->Nat->Prop}{cs:List fS}(n:Nat){b off:Nat}{c:Nat->fP}(d:∀i,i<I cs->w.cell? ⟨b,off+i,Z⟩=O (c i)/\S b (off+i))(e:∀(i:Nat) u,cs[i]?=O u->gL w S (c i) u):
  (∀i,i<I (cs.drop n)->w.cell? ⟨b,off+n+i,Z⟩=O (c (n+i))/\S b (off+n+i))/\(∀(i:Nat) u,(cs.drop n)[i]?=O u->gL w S (c (n+i)) u):=
 ⟨λi hi=>by rw[bO];exact d (n+i) (by simp at hi;omega),λi u f=>e _ _ (by simpa using f)⟩
theorem jm(b off n:Nat):(⟨b,off,Z⟩:Addr).add n=⟨b,off+n,Z⟩:=by
 unfold Addr.add;split
 .rename_i h;subst h;rfl
 .rfl
theorem pA{s:fN}{x:fO}{f:Nat}{fs:List Field}{d:Field}{k b off:Nat}(j:o.op=.fieldAddr s x f)(e:fieldsOf P s=O fs)(g:fs[f]?=O d)(l:gq P d.type=O (k+1))(m:a.eval x=.pointer (O ⟨b,off,Z⟩)):(execOp a.eval o).run P w=.ok (.value (.pointer (O ⟨b,off+d.offset,Z⟩))) w:=by
 have c:(fs.toArray)[f]?=O d:=by simpa using g
 simp[execOp,j,Instr.fieldAt,run_underlying (qu e),c,m,Instr.sureAddr,fieldPlace,iZ l,jm]
theorem uO{s:fN}{x:fO}{f:Nat}{fs:List Field}{c:Field}{k i off:Nat}(l:o.op=.fieldAddr s x f)(d:fieldsOf P s=O fs)(e:fs[f]?=O c)(m:gq P c.type=O (k+1))(n:D x=.ptr i off)(p:Qu P g X (I H) H w)(hi:Inv X w0 S0 g w)(M:Nai g H w a D):
  Nah P o a X w0 S0 H g w (.ptr i (off+c.offset)) H:=by
 have h:=M x;rw[n]at h;generalize q:a.eval x=v at h;cases h with
 |ptr i o j=>exact⟨_,g,w,.inl (pA l d e m q),.same p hi (.ptr _ _ j)⟩
theorem tJ{s:fN}{x:fO}{f:Nat}{fs:List Field}{d:Field}{k:Nat}{cs:List fS}(l:o.op=.fieldAddr s x f)(e:fieldsOf P s=O fs)(j:fs[f]?=O d)(m:gq P d.type=O (k+1))(n:D x=.eI cs)(p:Qu P g X (I H) H w)(hi:Inv X w0 S0 g w)(M:Nai g H w a D):
  Nah P o a X w0 S0 H g w (.eI (cs.drop d.offset)) H:=by
 have h:=M x;rw[n]at h;generalize q:a.eval x=v at h;cases h with
 |eI b o cs c r t=>
  obtain⟨k1,k2⟩:=AS d.offset r t;exact⟨_,g,w,.inl (pA l e j m q),.same p hi (.eI _ _ _ (λi=>c (d.offset+i)) k1 k2)⟩
theorem lq{c:Type}{cs ds:List c}{off n:Nat}(h:cut cs off n=O ds):I ds=n/\off+n<=I cs/\∀i,i<n->ds[i]?=cs[off+i]?:=by
 unfold cut at h;split at h
 .cases h;refine⟨by simp;omega,by assumption,λi hi=>?_⟩;simp[hi]
 .cases h
theorem kD{t:fN}{b off n:Nat}{c:Bool}(us:List Value)(e:qh P t=O c)(hn:gq P t=O n)(hl:I us=n)(f:c=U->n=1)(h:∀(j:Nat) u,us[j]?=O u->w.cell? ⟨b,off+j,Z⟩=O u):
  (loadVar t ⟨b,off,Z⟩).run P w=.ok (if c then .agg us.toArray else us.headD undef) w:=by
 simp only[loadVar,Sem.run_bind,yY e,Result.andThen_ok];cases c
 .have d:=f rfl;subst d;cases us with
  |nil=>simp at hl
  |cons u us=>
   have:=h 0 u rfl;simp at this;simp[load,Sem.run,this]
 .subst hl;have:=run_loadCells_list (P:=P) w ⟨b,off,Z⟩ us (λj v g=>by rw[jm];exact h j v g);simp[iZ hn,this]
theorem Bz{t:fN}{x:fO}{cs ds:List fS}{n:Nat}{s:Bool}{d:fS}(A:o.op=.load t x)(B:D x=.eI cs)(C:qh P t=O s)(hn:gq P t=O n)(hc:cut cs 0 n=O ds)(f:lH s ds=O d)(E:Qu P g X (I H) H w)(hi:Inv X w0 S0 g w)(M:Nai g H w a D):
  Nah P o a X w0 S0 H g w (.b7 d) H:=by
 obtain⟨c1,c2,F⟩:=lq hc;have h:=M x;rw[B]at h;generalize G:a.eval x=v at h;cases h with
 |eI b off cs c K L=>
  have q:s=U->n=1:=λe=>by
   subst e;unfold lH at f;simp only[j6,ai]at f;split at f
   .rw[<-c1];rfl
   .cases f
  have N:=kD (P:=P) (w:=w) (b:=b) (off:=off) ((Nad n).map c) C hn yB q (λj u p=>by simp only[jD,j5]at p;obtain⟨Q,r,rfl⟩:=p;obtain⟨m,k⟩:=af.1 r;simp at m k;subst k;exact(K j y9).1)
  refine⟨_,g,w,.inl (by simp only[execOp,A,G];simp[Instr.loadAt,Instr.sureAddr,N];rfl),.same E hi (.b7 _ _ ?_)⟩
  have l:∀(j:Nat) u,ds[j]?=O u->gL w g.S (c j) u:=λj u p=>by
   have r:j<n:=by rw[<-c1];exact(af.1 p).1
   rw[F j r]at p;exact L j u (by simpa using p)
  cases s
  .have y:=q rfl;subst y;unfold lH at f;simp only[j6,ai]at f |-;split at f
   .rename_i z;cases f;exact l 0 _ rfl
   .cases f
  .simp only[lH,ak,j9]at f;subst f;refine .agg _ _ (by simp[c1]) λj v z g1 R=>?_
   simp only[bb,jD,j5]at g1;obtain⟨Q,r,rfl⟩:=g1;obtain⟨m,k⟩:=af.1 r;simp at m k;subst k;exact l j z R
theorem lx:∀(cs:List PV) (ds:List fS),iG cs=O ds->cs=ds.map .b7
 |[],ds,h=>by cases h;rfl
 |.b7 d::r,ds,h=>by simp only[iG,j5]at h;obtain⟨ds',h,rfl⟩:=h;rw[lx r ds' h];rfl
 |.agg _::_,_,h|.fz _::_,_,h|.vec ..::_,_,h|.ptr ..::_,_,h|.eI _::_,_,h|.arr ..::_,_,h|.fn ..::_,_,h|.undef::_,_,h=>by simp[iG]at h
theorem Cb{size len:Nat}{ds:List fS}(hl:I ds=len*size){i j:Nat}{d u:fS}(e:(mC size len ds)[i]?=O d)(f:d.cells[j]?=O u):ds[i*size+j]?=O u/\j<size:=by
 simp only[mC,jD,j5]at e;obtain⟨q,g,rfl⟩:=e;obtain⟨q1,q2⟩:=af.1 g;simp at q1 q2;subst q2;have c:((ds.drop (i*size)).take size)[j]?=O u:=f;rw[jR]at c;split at c
 .rename_i k;rw[zJ]at c;exact⟨c,k⟩
 .cases c
theorem vI{cs:List PV}{o len cap:Nat}{es:List fS}(h:xT cs o len cap=O es):
  ∃k,0<k/\(I es)=len/\(∀d,d∈es->d.num=k)/\o+len*k<=I cs/\∀(i j:Nat) d u,es[i]?=O d->d.cells[j]?=O u->cs[o+(i*k+j)]?=O (.b7 u)/\j<k:=by
 unfold xT at h;split at h
 .rename_i hc;obtain⟨rfl,h0,z⟩:=hc;generalize w:I cs/cap=k at h;have p:0<k:=by rw[<-w];exact Nat.div_pos y9 h0
  simp only[jK]at h;obtain⟨ds,⟨r,f,g⟩,h⟩:=h;split at h
  .cases h;obtain⟨c1,c2,s⟩:=lq f;have e:=lx _ _ g;subst e;simp only[jZ]at c1;refine⟨k,p,by simp[mC],λd c=>?_,c2,λi j d u c n=>?_⟩
   .simp only[mC,aq,ck]at c;obtain⟨q,A,rfl⟩:=c
    have:(q+1)*k<=len*k:=au _ y9
    rw[av]at this;simp only[fS.num,zW,y7,c1];omega
   .obtain⟨v,x⟩:=Cb c1 c n;have t:i*k+j<len*k:=by rw[<-c1];exact(af.1 v).1
    have:=s _ t;rw[jD,v]at this;exact⟨this.symm,x⟩
  .cases h
 .simp only[jK]at h;obtain⟨ds,⟨r,f,g⟩,h⟩:=h;split at h
  .rename_i m;cases h;obtain⟨c1,c2,s⟩:=lq f;have e:=lx _ _ g;subst e;simp only[jZ]at c1
   have l:∀d∈es,d.cells=[d]/\d.num=1:=λd c=>by have:=an.1 m d c;cases d<;>simp_all [fS.cells,fS.ez,fS.num]
   refine⟨1,by decide,c1,λd c=>(l d c).2,by omega,λi j d u c n=>?_⟩;rw[(l d (jF c)).1]at n;have y:j=0:=by cases j with|zero=>rfl|succ j=>simp at n
   subst y;simp at n;subst n;have hi:i<len:=by rw[<-c1];exact(af.1 c).1
   have:=s i hi;rw[jD,c]at this;exact⟨by rw[aW,zY];exact this.symm,by decide⟩
  .cases h
theorem fW.ls{N:Nat}{vs:Array Value}{cs:List PV}(hl:vs.size=I cs)(h:∀(j:Nat) v c,vs[j]?=O v->cs[j]?=O c->fW g N w v c):
  fW g N w (.agg vs) (ls cs):=by
 unfold Pm.ls;split
 .rename_i ds d;have:=lx cs ds d;subst this;refine .b7 _ _ (.agg _ _ (by simpa using hl) λj v c e f=>?_);have:=h j v (.b7 c) e (by simp[f]);cases this;assumption
 .exact .agg _ _ hl h
theorem fW.je{N n:Nat}{f:Bool}{us:List Value}{cs:List PV}{p:PV}(hl:I us=n)(hc:I cs=n)(h:∀(j:Nat) v c,us[j]?=O v->cs[j]?=O c->fW g N w v c)(d:je f cs=O p):(f=U->n=1)/\fW g N w (if f then .agg us.toArray else us.headD Go.undef) p:=by
 unfold Pm.je at d;cases f
 .simp only[j6,ai]at d |-;split at d
  .rename_i c;cases d;subst hc;refine⟨λ_=>rfl,?_⟩;cases us with
   |nil=>simp at hl
   |cons u us=>exact h 0 u _ rfl rfl
  .cases d
 .simp only[ak,j9]at d;subst d;refine⟨λe=>(by cases e),?_⟩;exact fW.ls yA λj v c g1 k=>h j v c (by simpa using g1) k
theorem EO{t:fN}{x:fO}{cs ds:List PV}{n i off:Nat}{k:Bool}{p:PV}(q:o.op=.load t x)(r:D x=.ptr i off)(s:H[i]?=O (.box cs))(y:qh P t=O k)(hn:gq P t=O n)(hc:cut cs off n=O ds)(z:je k ds=O p)(l:Qu P g X (I H) H w)(hi:Inv X w0 S0 g w)(M:Nai g H w a D):
  Nah P o a X w0 S0 H g w p H:=by
 obtain⟨c1,c2,A⟩:=lq hc;have h:=M x;rw[r]at h;generalize f:a.eval x=v at h;cases h with
 |ptr i o B=>
  obtain⟨_,⟨vals,C,k1,k2,k3⟩,_⟩:=l.box i cs s
  have d:∀(j:Nat) u,((vals.toList.drop off).take n)[j]?=O u->j<n/\vals[off+j]?=O u:=λj u e=>by
   rw[jR]at e;split at e
   .exact⟨by assumption,by simpa using e⟩
   .cases e
  obtain⟨p1,E⟩:=fW.je (g:=g) (w:=w) (N:=I H) (us:=(vals.toList.drop off).take n) (n:=n) yA c1 (λj v c g1 m=>by obtain⟨F,f⟩:=d j v g1;rw[A j F]at m;exact k3 _ v c f m) z
  have G:=kD (P:=P) (w:=w) (b:=g.fg i) (off:=off) ((vals.toList.drop off).take n) y hn yA p1 (λj u e=>by rw[cell_of_row w _ _ vals C (0,0) k1];exact(d j u e).2)
  exact⟨_,g,w,.inl (by simp only[execOp,q,f];simp[Instr.loadAt,Instr.sureAddr,G]),.same l hi E⟩
end
section
variable{P:fL}{X:Nat}{w0:fK}{S0:Nat->Nat->Prop}{g:Gh}{H H':List fU}{w:fK}{p:PV}{o:Oper}{a:Act}{D:fO->PV}
def yl:PV->Option (List fS)
 |.b7 (.ew es)=>O es
 |.vec _ es=>O es
 |_=>Z
theorem rV{N:Nat}{v:fP}{p:PV}{es:List fS}(h:fW g N w v p)(c:yl p=O es):gL w g.S v (.ew es):=by
 cases h with
 |b7 v d h=>cases d<;>simp[yl]at c;subst c;exact h
 |vec v t e v0 n j f=>simp[yl]at c;subst c;exact f
 |_=>simp[yl]at c
theorem mj{N:Nat}{v:fP}{k:IntKind}{n:Int}(h:fW g N w v (.b7 (.raw (.int k n)))):v=.int k n:=h.e6 rfl
theorem sI{t e:fN}{x d:fO}{k:IntKind}{n:Int}{b off len cap size:Nat}(f:o.op=.indexAddr t x d)(g:fV P t=O e)(j:gq P e=O size)(c:a.eval d=.int k n)(l:a.eval x=.slice (O ⟨b,off,Z⟩) len cap)(h0:0<=n)(hn:n.toNat<len):
  (execOp a.eval o).run P w=.ok (.value (.pointer (O ⟨b,off+n.toNat*size,Z⟩))) w:=by
 have m:n<(len:Int):=by omega
 simp[execOp,f,Instr.indexAt,run_underlying (Q0 g),c,l,asIntOf,h0,m,iZ j,jm]
theorem AY{t e:fN}{len:Nat}(h:nx P t=O (len,e)):P.underlying t=O (.array len e):=by
 unfold nx at h;split at h
 .cases h;assumption
 .cases h
theorem uq{t e:fN}{x d:fO}{k:IntKind}{n:Int}{len size:Nat}{cs:List fS}(l:o.op=.indexAddr t x d)(m:nx P t=O (len,e))(p:gq P e=O size)(f:D d=.b7 (.raw (.int k n)))(q:D x=.eI cs)(h0:0<=n)(hn:n<(len:Int))(r:Qu P g X (I H) H w)(hi:Inv X w0 S0 g w)(M:Nai g H w a D):
  Nah P o a X w0 S0 H g w (.eI (cs.drop (n.toNat*size))) H:=by
 have j:=mj (by rw[<-f];exact M d);have h:=M x;rw[q]at h;generalize s:a.eval x=v at h;cases h with
 |eI b o cs c u y=>
  obtain⟨k1,k2⟩:=AS (n.toNat*size) u y;refine⟨.pointer (O ⟨b,o+n.toNat*size,Z⟩),g,w,.inl ?_,.same r hi (.eI _ _ _ (λi=>c (n.toNat*size+i)) k1 k2)⟩;simp[execOp,l,Instr.indexAt,run_underlying (AY m),j,s,asIntOf,h0,hn,iZ p,jm,Instr.sureAddr]
theorem uY{t e:fN}{x c:fO}{k:IntKind}{n:Int}{len size i off:Nat}(l:o.op=.indexAddr t x c)(m:nx P t=O (len,e))(p:gq P e=O size)(d:D c=.b7 (.raw (.int k n)))(q:D x=.ptr i off)(h0:0<=n)(hn:n<(len:Int))(r:Qu P g X (I H) H w)(hi:Inv X w0 S0 g w)(M:Nai g H w a D):
  Nah P o a X w0 S0 H g w (.ptr i (off+n.toNat*size)) H:=by
 have f:=mj (by rw[<-d];exact M c);have h:=M x;rw[q]at h;generalize s:a.eval x=v at h;cases h with
 |ptr i o j=>
  refine⟨_,g,w,.inl ?_,.same r hi (.ptr _ _ j)⟩;simp[execOp,l,Instr.indexAt,run_underlying (AY m),f,s,asIntOf,h0,hn,iZ p,jm,Instr.sureAddr]
theorem p8{t e:fN}{x p:fO}{k:IntKind}{n:Int}{size:Nat}{es:List fS}{d:fS}(B:o.op=.indexAddr t x p)(C:fV P t=O e)(E:gq P e=O size)(q:D p=.b7 (.raw (.int k n)))(F:yl (D x)=O es)(h0:0<=n)(r:es[n.toNat]?=O d)(l:d.num=size)(G:Qu P g X (I H) H w)(hi:Inv X w0 S0 g w)(M:Nai g H w a D):
  Nah P o a X w0 S0 H g w (.eI d.cells) H:=by
 have s:=mj (by rw[<-q];exact M p);have z:=rV (M x) F;have m:=(af.1 r).1;generalize K:a.eval x=v at z;cases z with
 |nil=>simp at m
 |empty=>simp at m
 |ew b off len cap f es c Y L N Q R=>
  have S:f=size:=by rw[<-l];exact(N d (jF r)).symm
  subst S;refine⟨_,g,w,.inl (sI B C E s K h0 y9),.same G hi (.eI _ _ _ (λj=>c (n.toNat*f+j)) (λj A=>?_) (λj u T=>R _ _ d u r T))⟩;have W:j<f:=by rw[<-fS.im,l]at A;exact A
  have y:n.toNat*f+j<len*f:=by
   have:(n.toNat+1)*f<=len*f:=au _ y9
   rw[av]at this;omega
  have:=Q _ y;rw[show off+n.toNat*f+j=off+(n.toNat*f+j) by omega];exact this
theorem uS{t e:fN}{x c:fO}{k:IntKind}{n:Int}{size i off len cap:Nat}(l:o.op=.indexAddr t x c)(m:fV P t=O e)(p:gq P e=O size)(d:D c=.b7 (.raw (.int k n)))(q:D x=.arr i off len cap)(h0:0<=n)(r:n.toNat<len)(s:Qu P g X (I H) H w)(hi:Inv X w0 S0 g w)(M:Nai g H w a D):
  Nah P o a X w0 S0 H g w (.ptr i (off+n.toNat*size)) H:=by
 have f:=mj (by rw[<-d];exact M c);have j:=M x;rw[q]at j;generalize u:a.eval x=v at j;cases j with
 |arr i o len cap h y=>exact⟨_,g,w,.inl (sI l m p f u h0 r),.same s hi (.ptr _ _ h)⟩
theorem gL.slice{S:Nat->Nat->Prop}{es:List fS}{l h size b off len cap k:Nat}{c:Nat->fP}(v:len=I es)(n:len<=cap)(p:∀d,d∈es->d.num=k)(q:∀i,i<len*k->w.cell? ⟨b,off+i,Z⟩=O (c i)/\S b (off+i))(r:∀(i j:Nat) d u,es[i]?=O d->d.cells[j]?=O u->gL w S (c (i*k+j)) u)(hl:l<=h)(s:h<=I es)(e:l=0\/k=size\/es=[]):
  gL w S (.slice (if cap=l then O ⟨b,off,Z⟩else O ((⟨b,off,Z⟩:Addr).add (l*size))) (h - l) (cap - l)) (.ew ((es.take h).drop l)):=by
 by_cases g:h - l=0
 .have:(es.take h).drop l=[]:=by apply aw;simp;omega
  rw[this,g];split <;>exact .empty _ _
 .rw[ae y9]
  have m:l*size=l*k:=by
   rcases e with e|e|e
   .subst e;simp
   .rw[e]
   .subst e;simp at s;omega
  rw[jm,m];refine .ew b (off+l*k) (h - l) (cap - l) k _ (λi=>c (l*k+i)) yA y9 (λd f=>p d (zS (cZ f))) (λi hi=>?_) (λi j d u f t=>?_)
  .have:(h - l)*k+l*k=h*k:=by rw[<-av];congr 1;omega
   have x:h*k<=len*k:=au _ y9;have:=q (l*k+i) y9
   rwa [bO]
  .rw[zJ,jR]at f;split at f
   .have:=r (l+i) j d u f t
    rwa [av,bO]at this
   .cases f
theorem iR{x:fP}{n y:Nat}{k:IntKind}(c:BoundsCode)(d:x=.int k n)(hn:n<=y)(w:fK):(Instr.sliceBound x y c).run P w=.ok n w:=by subst d;simp[Instr.sliceBound,asIntOf];omega
theorem BB{t e:fN}{x:fO}{lo hi:Option Operand}{l h size:Nat}{es:List fS}(G:o.op=.slice t x lo hi Z)(K:fV P t=O e)(y:gq P e=O size)(L:yl (D x)=O es)(f:jc D 0 lo=O l)(j:jc D (I es) hi=O h)(p:l<=h)(m:h<=I es)(q:l=0\/∀d∈es,d.num=size)(N:Qu P g X (I H) H w)(z:Inv X w0 S0 g w)(M:Nai g H w a D):
  Nah P o a X w0 S0 H g w (.b7 (.ew ((es.take h).drop l))) H:=by
 have B:=rV (M x) L
 obtain⟨ad,len,cap,Q,n,C,r⟩:∃ad len cap,a.eval x=.slice ad len cap/\len=I es/\len<=cap/\
   gL w g.S (.slice (if cap=l then ad else ad.map (·.add (l*size))) (h - l) (cap - l)) (.ew ((es.take h).drop l)):=by
  generalize a.eval x=v at B;cases B with
  |nil=>
   simp at m;subst m;obtain rfl:l=0:=by omega
   exact⟨Z,0,0,rfl,rfl,j7 _,by simpa using gL.nil⟩
  |empty ad cap=>
   simp at m;subst m;obtain rfl:l=0:=by omega
   refine⟨O ad,0,cap,rfl,rfl,zQ _,?_⟩;simp only[cH,List.take_nil,List.drop_nil,jN];split <;>exact .empty _ _
  |ew b off len cap k es c E s F R T=>
   refine⟨_,_,_,rfl,E,s,?_⟩;refine gL.slice E s F R T p m ?_;rcases q with q|q
   .exact .inl q
   .cases es with
    |nil=>exact .inr (.inr rfl)
    |cons d es=>exact .inr (.inl (by rw[<-q d yB,F d yB]))
 refine⟨_,g,w,.inl ?_,.same N z (.b7 _ _ r)⟩
 have W:(Instr.sliceBounds J len cap (lo.map a.eval) (hi.map a.eval) Z).run P w=.ok (l,h,cap) w:=by
  unfold Instr.sliceBounds;cases hi with
  |none=>
   cases lo with
   |none=>simp[jc]at f j;subst f j;simp[n]
   |some lo=>
    obtain⟨k,A⟩:=kz (M lo) f;simp[jc]at j;subst j;simp[iR (P:=P) .sliceB A p w,n]
  |some hi=>
   obtain⟨Y,u⟩:=kz (M hi) j;cases lo with
   |none=>simp[jc]at f;subst f;simp[iR (P:=P) .sliceAcap u (show h<=cap by omega) w]
   |some lo=>
    obtain⟨k,A⟩:=kz (M lo) f;simp[iR (P:=P) .sliceB A p w,iR (P:=P) .sliceAcap u (show h<=cap by omega) w]
 simp[execOp,G,Instr.sliceAt,Instr.slice,run_underlying (Q0 K),Q,W,iZ y]
end
section
variable{P:fL}{X:Nat}{w0:fK}{S0:Nat->Nat->Prop}{g:Gh}{H H':List fU}{w:fK}{p:PV}{o:Oper}{a:Act}{D:fO->PV}
theorem DS{t:fN}{n off:Nat}{c:Bool}{vs:Array Value}(d:qh P t=O c)(hn:gq P t=O n)(e:c=U->n=1)(hl:off+n<=vs.size):
  (part t vs off).run P w=.ok (if c then .agg ((vs.toList.drop off).take n).toArray else((vs.toList.drop off).take n).headD undef) w:=by
 cases c
 .have:=e rfl;subst this;have f:vs[off]?=O vs[off]:=jA y9
  have g:(vs.toList.drop off).take 1=[vs[off]]:=by rw[bd yA];simp
  simp[part,yY d,f,g]
 .have:vs.extract off (off+n)=((vs.toList.drop off).take n).toArray:=by apply Array.ext';simp
  simp[part,yY d,iZ hn,this]
theorem B6{t:fN}{x:fO}{f n:Nat}{fs:List Field}{l:Field}{y:Bool}{cs ds:List fS}{d:fS}(G:o.op=.field t x f)(K:D x=.b7 (.agg cs))(A:fieldsOf P t=O fs)(B:fs[f]?=O l)(hn:gq P l.type=O n)(L:qh P l.type=O y)(hc:cut cs l.offset n=O ds)(k:lH y ds=O d)(N:Qu P g X (I H) H w)(hi:Inv X w0 S0 g w)(M:Nai g H w a D):
  Nah P o a X w0 S0 H g w (.b7 d) H:=by
 have q:(fs.toArray)[f]?=O l:=by simpa using B
 obtain⟨c1,c2,Q⟩:=lq hc;have h:=M x;rw[K]at h;generalize R:a.eval x=v at h;cases h with
 |b7 v d h=>
  cases h with
  |agg vs cs hl T=>
   have E:y=U->n=1:=λe=>by
    subst e;unfold lH at k;simp only[j6,ai]at k;split at k
    .rw[<-c1];rfl
    .cases k
   have W:=DS (P:=P) (w:=w) (vs:=vs) (off:=l.offset) L hn E y9;refine⟨_,g,w,.inl (by simp[execOp,G,Instr.field,run_underlying (qu A),q,R,asAgg,W];rfl),.same N hi (.b7 _ _ ?_)⟩
   have r:∀(j:Nat) u,((vs.toList.drop l.offset).take n)[j]?=O u->j<n/\vs[l.offset+j]?=O u:=λj u p=>by
    rw[jR]at p;split at p
    .exact⟨by assumption,by simpa using p⟩
    .cases p
   have m:∀(j:Nat) u c,((vs.toList.drop l.offset).take n)[j]?=O u->ds[j]?=O c->gL w g.S u c:=λj u c g1 z=>by obtain⟨Y,p⟩:=r j u g1;rw[Q j Y]at z;exact T _ u c p z
   cases y
   .have C:=E rfl;subst C;unfold lH at k;simp only[j6,ai]at k |-;split at k
    .rename_i F;cases k;cases s:(vs.toList.drop l.offset).take 1 with
     |nil=>have:=bQ List.length s;simp at this;omega
     |cons u us=>exact m 0 u _ (by rw[s];rfl) rfl
    .cases k
   .simp only[lH,ak,j9]at k;subst k;refine .agg _ _ (by simp[c1];omega) λj v F g1 z=>m j v F (by simpa using g1) z
theorem Cx{t:fN}{x:fO}{f n:Nat}{fs:List Field}{d:Field}{r:Bool}{cs ds:List PV}{p:PV}(y:o.op=.field t x f)(z:D x=.agg cs)(m:fieldsOf P t=O fs)(q:fs[f]?=O d)(hn:gq P d.type=O n)(A:qh P d.type=O r)(hc:cut cs d.offset n=O ds)(B:je r ds=O p)(C:Qu P g X (I H) H w)(hi:Inv X w0 S0 g w)(M:Nai g H w a D):
  Nah P o a X w0 S0 H g w p H:=by
 have k:(fs.toArray)[f]?=O d:=by simpa using q
 obtain⟨c1,c2,E⟩:=lq hc;have h:=M x;rw[z]at h;generalize F:a.eval x=v at h;cases h with
 |agg vs cs hl G=>
  have l:∀(j:Nat) u,((vs.toList.drop d.offset).take n)[j]?=O u->j<n/\vs[d.offset+j]?=O u:=λj u e=>by
   rw[jR]at e;split at e
   .exact⟨by assumption,by simpa using e⟩
   .cases e
  obtain⟨p1,K⟩:=fW.je (g:=g) (w:=w) (N:=I H) (us:=(vs.toList.drop d.offset).take n) (n:=n) yA c1 (λj v c g1 s=>by obtain⟨L,e⟩:=l j v g1;rw[E j L]at s;exact G _ v c e s) B
  have Q:=DS (P:=P) (w:=w) (vs:=vs) (off:=d.offset) A hn p1 y9;exact⟨_,g,w,.inl (by simp[execOp,y,Instr.field,run_underlying (qu m),k,F,asAgg,Q]),.same C hi K⟩
theorem E4{x:fO}{k:Nat}{vs:List PV}{p:PV}(f:o.op=.extract x k)(j:D x=.fz vs)(d:vs[k]?=O p)(l:Qu P g X (I H) H w)(hi:Inv X w0 S0 g w)(M:Nai g H w a D):
  Nah P o a X w0 S0 H g w p H:=by
 have h:=M x;rw[j]at h;generalize m:a.eval x=v at h;cases h with
 |fz us cs hl n=>
  have c:k<us.size:=by rw[hl];exact(af.1 d).1
  have e:us[k]?=O us[k]:=jA c;exact⟨us[k],g,w,.inl (by simp[execOp,f,Instr.extract,m,e]),.same l hi (n k _ p e d)⟩
theorem Ax{N:Nat}{v:fP}{p:PV}{n:Nat}(h:fW g N w v p)(hn:mi p=O n):∃ad cap,v=.slice ad n cap:=by
 have ew:∀{v:fP} {es:List fS},gL w g.S v (.ew es)->∃ad cap,v=.slice ad (I es) cap:=λh=>by
  cases h with
  |nil=>exact⟨Z,0,rfl⟩
  |empty a cap=>exact⟨O a,cap,rfl⟩
  |ew b off len cap k es c e=>exact⟨_,cap,by rw[e]⟩
 cases h with
 |b7 v d h=>
  cases d with
  |ew es=>simp[mi]at hn;subst hn;exact ew h
  |_=>simp[mi]at hn
 |vec v t es v0 n' e f=>simp[mi]at hn;subst hn;exact ew f
 |arr i o len cap h l=>simp[mi]at hn;subst hn;exact⟨_,_,rfl⟩
 |ms _ _ _ _ _ _ _ _ _ _ _ _ j=>simp[mi]at hn;subst hn;obtain⟨a,c,rfl,_⟩:=j;exact⟨_,_,rfl⟩
 |j0 b v e f=>
  simp[mi]at hn;subst hn;cases b with
  |true=>exact⟨Z,0,e rfl⟩
  |false=>obtain⟨a,cap,rfl⟩:=f rfl;exact⟨_,_,rfl⟩
 |_=>simp[mi]at hn
theorem lZ{N:Nat}{v:fP}{p:PV}(h:fW g N w v p)(j:p.cell=J):v.oneCell'=J:=by
 cases h with
 |b7 v d h=>cases h<;>first|rfl|(simp[PV.cell]at j;done)|(exact yx (by assumption))
 |vec v t es v0 n k e=>cases e<;>rfl
 |ptr|eI|arr|fn|hC=>rfl
 |ms _ _ _ _ _ _ _ _ _ _ _ _ f=>obtain⟨a,c,rfl,_⟩:=f;rfl
 |mp _ _ _ _ _ _ _ _ _ _ f=>obtain⟨a,rfl⟩:=f;rfl
 |j0 b v k e=>
  cases b with
  |true=>rw[k rfl];rfl
  |false=>obtain⟨a,cap,rfl⟩:=e rfl;rfl
 |_=>simp[PV.cell]at j
theorem kG{p:PV}(h:p.cells.all PV.cell=J):p≠.undef:=λe=>by subst e;simp[PV.cells,PV.cell]at h
theorem qn{N:Nat}{v:fP}{p:PV}(h:fW g N w v p)(d:p.cells.all PV.cell=J):∀u∈v.cells.toList,u.oneCell'=J:=λu f=>by
 obtain⟨k,l⟩:=h.cells (kG d);obtain⟨j,e⟩:=aT f;have c:j<I p.cells:=by rw[<-k];simpa using(af.1 e).1
 have hc:p.cells[j]?=O p.cells[j]:=jC c;exact lZ (l j u _ (by simpa using e) hc) (an.1 d _ (zD c))
theorem xd{c:Type}{cs vs ds:List c}{off:Nat}(h:rR cs off vs=O ds):off+I vs<=I cs/\ds=cs.take off++vs++cs.drop (off+I vs):=by
 unfold rR at h;split at h
 .cases h;exact⟨by assumption,rfl⟩
 .cases h
theorem iP{e:Type}(cs vs:List e)(off:Nat)(h:off+I vs<=I cs)(j:Nat):
  (cs.take off++vs++cs.drop (off+I vs))[j]?=if j<off then cs[j]? else if j<off+I vs then vs[j - off]? else cs[j]?:=by
 rw[ay,jT];simp only[zW,Nat.min_eq_left (show off<=I cs by omega)];split
 .rename_i c;rw[jR,aj c]
 .rename_i c;rw[jT];by_cases d:j<off+I vs
  .rw[aj y9,aj d]
  .rw[ae y9,ae d,zJ];congr 1;omega
theorem M5{t:fN}{x y:fO}{cs ds:List PV}{n i off:Nat}(R:o.op=.store t x y)(S:D x=.ptr i off)(q:H[i]?=O (.box cs))(hn:gq P t=O n)(hl:(D y).cells.length=n)(f:(D y).cells.all PV.cell=J)(T:rR cs off (D y).cells=O ds)(B:Qu P g X (I H) H w)(hi:Inv X w0 S0 g w)(M:Nai g H w a D):
  Nah P o a X w0 S0 H g w (.fz []) (H.set i (.box ds)):=by
 obtain⟨p1,Q⟩:=xd T;have h:=M x;rw[S]at h;generalize W:a.eval x=v at h;cases h with
 |ptr i o d=>
  obtain⟨d,Y⟩:=d;obtain⟨q1,⟨vals,C,k1,k2,k3⟩,q3⟩:=B.box i cs q;obtain⟨y1,y2⟩:=(M y).cells (kG f);have r:=qn (M y) f;have hst:=run_storeCells_at P (g.fg i) off C (a.eval y).cells.toList 0 vals w k1 yA r;simp only[zY]at hst;generalize k:(vals.toList.take off++(a.eval y).cells.toList++vals.toList.drop (off+(a.eval y).cells.toList.length))=new at hst
  have s:∀j,new[j]?=if j<off then vals[j]? else if j<off+n then(a.eval y).cells[j - off]? else vals[j]?:=λj=>by
   rw[<-k,iP _ _ _ yA]
   have:(a.eval y).cells.toList.length=n:=by simp;omega
   rw[this];simp
  have E:∀j,ds[j]?=if j<off then cs[j]? else if j<off+n then(D y).cells[j - off]? else cs[j]?:=λj=>by rw[Q,iP _ _ _ p1,hl]
  have m:(w.setRow (g.fg i) new.toArray).heap[g.fg i]?=O (.cells new.toArray C (0,0)):=setRow_heap w _ _ _ _ _ k1
  have z:Ext (I H) g w g (w.setRow (g.fg i) new.toArray):=⟨λ_ _ h=>h,λb F G=>cell_setRow_other w _ _ _ (λe=>by simp only at e;subst e;exact q3 F G),λ_ _ h=>⟨rfl,h⟩,λ_ _ v n h=>⟨v,n,h,j7 _,λ_=>rfl⟩⟩
  refine⟨undef,g,_,.inr ⟨?_,rfl⟩,z,by simp,.fz _ _ rfl (λj v c h=>by simp at h),?_,⟨?_,by simp;exact hi.size,hi.kk,λb F G=>by simp;exact hi.lt b F G⟩,⟨by simp,λb _ hn=>setRow_other w _ _ _ (λe=>hn i (by rw[iI q,e])),λj b A _=>?_,λb o h=>.inl h⟩⟩
  .have K:(a.eval y).cells.size=n:=by omega
   simp only[execOp,R,W];simp[Instr.storeAt,Instr.sureAddr,storeVar,K,iZ hn,hst]
  .refine B.nb z yB (j7 _) _ d (λj b A p=>setRow_other w _ _ _ (λe=>A (B.sep j i b p (by rw[iI q,e]))))
    (λ_ _ _ _ _ h=>h) (λ_ _ _=>rfl) (λL hc=>?_) (λ_ _ h=>by cases h) (λj b A p h=>?_)
   .cases hc;refine⟨q1,⟨new.toArray,C,m,?_,λj u c g1 l=>?_⟩,q3⟩
    .rw[Q,<-k];simp;omega
    .simp only[bb]at g1;rw[s]at g1;rw[E]at l;split at g1
     .rename_i h;rw[aj h]at l;exact(k3 j u c g1 l).ext z yB
     .rename_i h;rw[ae h]at l;split at g1
      .rename_i N;rw[aj N]at l;exact(y2 _ u c g1 l).ext z yB
      .rename_i N;rw[ae N]at l;exact(k3 j u c g1 l).ext z yB
   .rw[iI (cs:=ds) (by simp[d])]at h;cases h;exact A (B.sep j i _ p (iI q))
  .exact below_setRow hi.below q1 _
  .rcases wv d A with⟨_,h⟩|⟨_,⟨L,_,rfl⟩|⟨e,n,h,_⟩⟩
   .exact⟨j,h⟩
   .exact⟨i,iI q⟩
   .cases h
theorem tX(l:Qu P g X (I H) H w)(hi:Inv X w0 S0 g w)(vals:Array Value)(k:fN)(cs:List PV)(hl:vals.size=I cs)(s:∀(j:Nat) v c,vals[j]?=O v->cs[j]?=O c->fW g (I H) w v c):
  Good P X w0 S0 H g w (.ptr (I H) 0) (H++[.box cs]) (.pointer (O ⟨w.heap.size,0,Z⟩)) (g.box (I H) w.heap.size) (w.alloc (.cells vals k)):=by
 have e:=hi.alloc (.cells vals k);have m:Ext (I H) g w (g.box (I H) w.heap.size) (w.alloc (.cells vals k)):=(Ext.alloc hi (I H) _).trans (Ext.box (I H) _ (j7 _)) (j7 _);have d:(g.box (I H) w.heap.size).fg (I H)=w.heap.size:=by simp[Gh.box]
 refine⟨m,by simp,?_,?_,⟨e.below,e.size,e.kk,e.lt⟩,Fr.kk yB (λb f=>Below.heap_alloc w _ b f) λi b h f=>?_⟩
 case refine_3=>
  rcases rf h with h|⟨_,⟨p,_,rfl⟩|⟨e',n,h,_⟩⟩
  .exact⟨i,iE (g:=g) h (λj t=>by simp only[Gh.box];rw[ae y9]) (λj t=>rfl)⟩
  .rw[d]at f;exact absurd f (zA _)
  .cases h
 .have:=fW.ptr (g:=g.box (I H) w.heap.size) (N:=I (H++[fU.box cs])) (w:=w.alloc (.cells vals k)) (I H) 0 ⟨by simp,.inl rfl⟩
  rwa [d]at this
 .refine Qu.snoc (l.ey m yB (j7 _) (λi b f=>Below.heap_alloc w _ b (l.eM f).2.1) (λ_ _ _ _ h=>h) (λ_ _=>rfl)) _ (λp h=>?_) (λ_ _ h=>by cases h) (λi b h r=>?_)
  .cases h;rw[d];refine⟨hi.size,⟨vals,k,heap_alloc_new w _,hl,λj v c g1 u=>(s j v c g1 u).ext m yB⟩,λo x=>zA _ (hi.lt _ o x)⟩
  .rw[iI (cs:=cs) yB,d]at r;cases r
   have f:e8 g H i=O w.heap.size:=by
    unfold e8 at h |-;split at h
    .rename_i q
     have:i≠I H:=by have:=(af.1 q).1;omega
     simpa[Gh.box,this]using h
    .simpa[Gh.box]using h
    .simpa[Gh.box]using h
    .rename_i q
     have:i≠I H:=by have:=(af.1 q).1;omega
     simpa[Gh.box,this]using h
    .cases h
    .cases h
   exact zA _ (l.eM f).2.1
theorem R4{t:fN}{x:fO}(d:o.op=.box t x)(c:(D x).cells.all PV.cell=J)(e:Qu P g X (I H) H w)(hi:Inv X w0 S0 g w)(M:Nai g H w a D):
  Nah P o a X w0 S0 H g w (.ptr (I H) 0) (H++[.box (D x).cells]):=by
 obtain⟨f,j⟩:=(M x).cells (kG c);exact⟨_,_,_,.inl (by simp[execOp,d,Instr.box,newVar,newRow]),tX e hi (a.eval x).cells t _ f j⟩
end
section
variable{P:fL}{X N:Nat}{w0:fK}{S0:Nat->Nat->Prop}{g:Gh}{H H':List fU}{w:fK}{p:PV}{o:Oper}{a:Act}{D:fO->PV}
def Gh.mb(g:Gh)(k n:Nat):Gh:={g with own:=λt=>if k<=t/\t<k+n then O (.slice Z 0 0,0)else g.own t}
theorem Ext.mb{k:Nat}(n:Nat)(c:N<=k):Ext N g w (g.mb k n) w:=
 ⟨λ_ _ h=>h,λ_ _ _=>rfl,λ_ _ h=>⟨rfl,h⟩,λt d v m h=>⟨v,m,by simp only[Gh.mb];rw[ae y9];exact h,j7 _,λ_=>rfl⟩⟩
theorem rP:∀(n:List (Nat×TypeId)) (k:Nat) (cs c:List PV) (bs:List fU),ko k cs n=O (c,bs)->∀(vals:Array Value),
  (∀j,j∈n.map (·.1)->cs[j]?=O (.b7 (.ew []))->vals[j]?=O (.slice Z 0 0))->
  (∀x,x∈bs->∃e,x=.tok e 0)/\(I c)=I cs/\
  ∀(j:Nat) v d,vals[j]?=O v->c[j]?=O d->cs[j]?=O d\/∃t,k<=t/\t<k+I bs/\d=.vec t []/\v=.slice Z 0 0
 |[],k,cs,c,bs,h,vals,_=>by cases h;exact⟨λx f=>(by cases f),rfl,λj v d _ h=>.inl h⟩
 |(j,e)::r,k,cs,c,bs,h,vals,hn=>by
  unfold ko at h;split at h
  .rename_i p;split at h
   .rename_i q s u;cases h
    obtain⟨w,y,z⟩:=rP r (k+1) _ _ _ u vals (λg l hc=>by
     refine hn g (by simp at l |-;exact .inr l) ?_;rw[zF]at hc;by_cases e':j=g
     .subst e';exact p
     .rw[ae e']at hc;exact hc)
    refine⟨λx f=>?_,by rw[y];simp,λg v d g1 A=>?_⟩
    .cases f with
     |head=>exact⟨e,rfl⟩
     |tail _ f=>exact w x f
    .rcases z g v d g1 A with h|⟨t,E,B,C,D⟩
     .rw[zF]at h;by_cases e':j=g
      .subst e';by_cases m:j<I cs
       .rw[aj rfl,aj m]at h;cases h;exact .inr ⟨k,j7 _,by simp,rfl,by have:=hn j yB p;rw[g1]at this;exact jS this⟩
       .rw[aj rfl,ae m]at h;cases h
      .rw[ae e']at h;exact .inl h
     .exact .inr ⟨t,by omega,by simp at B |-;omega,C,D⟩
   .cases h
  .cases h
theorem Qu.I1(d:Qu P g X N H w):∀(bs:List fU),(∀x,x∈bs->∃e,x=.tok e 0)->(∀i,i<I bs->g.own (I H+i)=O (.slice Z 0 0,0))->Qu P g X N (H++bs) w:=by
 intro bs;induction bs generalizing H with
 |nil=>intro _ _;simpa using d
 |cons x bs k=>
  intro f j;obtain⟨e,rfl⟩:=f x yB;have h0:=j 0 yB;rw[show H++.tok e 0::bs=(H++[.tok e 0])++bs by simp];refine k (d.snoc _ (λ_ h=>by cases h) (λe' n h=>by cases h;exact⟨_,h0,.inl ⟨rfl,rfl⟩⟩) (λi b m c=>?_)) (λy l=>f y (by simp[l])) (λi hi=>?_)
  .rw[lD (e:=e) (n:=0) yB]at c;simp at h0;rw[h0]at c;simp[Value.ownBlock]at c
  .have:=j (i+1) yA;rw[show(H++[fU.tok e 0]).length+i=I H+(i+1) by simp;omega];exact this
theorem Ee:∀{bs:List fU} {H:List fU},(∀x,x∈bs->∃e,x=.tok e 0)->(∀i,i<I bs->g.own (I H+i)=O (.slice Z 0 0,0))->∀{i b:Nat},e8 g (H++bs) i=O b->e8 g H i=O b:=by
 intro bs;induction bs with
 |nil=>intro H _ _ i b h;simpa using h
 |cons x bs f=>
  intro H c d i b h;obtain⟨e,rfl⟩:=c x yB;rw[show H++.tok e 0::bs=(H++[.tok e 0])++bs by simp]at h
  have j:=f (λy k=>c y (by simp[k])) (λi hi=>by have:=d (i+1) yA;rw[show(H++[fU.tok e 0]).length+i=I H+(i+1) by simp;omega];exact this) h
  rcases rf j with h|⟨_,⟨cs,h,_⟩|⟨e',n,_,h⟩⟩
  .exact h
  .cases h
  .have:=d 0 yB;simp only[zY]at this;rw[this]at h;simp[Value.ownBlock]at h
theorem pC:∀(vs:List Value) (ds:List fS),gB.cells vs=O ds->I ds=I vs/\
  (∀(w:fK) (S:Nat->Nat->Prop) (j:Nat) v d,vs[j]?=O v->ds[j]?=O d->gL w S v d)/\(∀j:Nat,ds[j]?=O (fS.ew [])->vs[j]?=O (Value.slice Z 0 0))/\ds.all fS.ez=J
 |[],ds,h=>by cases h;exact⟨rfl,λ_ _ j _ _ h=>by simp at h,λj h=>by simp at h,rfl⟩
 |v::r,ds,h=>by
  unfold gB.cells at h;split at h
  .rename_i m;simp only[j5]at h;obtain⟨ds',h,rfl⟩:=h;obtain⟨e,f,k,l⟩:=pC r ds' h;refine⟨by simp[e],λw S j u d g1 c=>?_,λj g=>?_,by simp[l,fS.ez]⟩
   .cases j with
    |zero=>simp at g1 c;subst g1 c;exact .raw _ m
    |succ j=>exact f w S j u d (by simpa using g1) (by simpa using c)
   .cases j with
    |zero=>simp at g
    |succ j=>simpa using k j (by simpa using g)
  .split at h
   .simp only[j5]at h;obtain⟨ds',h,rfl⟩:=h;obtain⟨e,f,k,l⟩:=pC r ds' h;refine⟨by simp[e],λw S j u d g1 c=>?_,λj g=>?_,by simp[l,fS.ez]⟩
    .cases j with
     |zero=>simp at g1 c;subst g1 c;exact .nil
     |succ j=>exact f w S j u d (by simpa using g1) (by simpa using c)
    .cases j with
     |zero=>rfl
     |succ j=>simpa using k j (by simpa using g)
   .cases h
theorem Fl{v:fP}{d:fS}(h:vL v=O d)(c:∀cs,v≠.agg cs):d.cells=[d]/\v.cells=#[v]/\d.ez=J/\(d=.ew []->v=.slice Z 0 0):=by
 unfold vL at h;split at h
 .cases h;exact⟨rfl,rfl,rfl,λ_=>rfl⟩
 .exact absurd rfl (c _)
 .split at h
  .rename_i f;cases h;exact⟨rfl,tx f,rfl,λe=>by cases e⟩
  .cases h
theorem iS{t:fN}{z:fS}(h:gB P t=O z):∃i d,P.info? t=O i/\i.zero=O d/\(∀(w:fK) (S:Nat->Nat->Prop),gL w S d z)/\
  (∀j:Nat,z.cells[j]?=O (fS.ew [])->d.cells[j]?=O (Value.slice Z 0 0))/\z.cells.all fS.ez=J:=by
 unfold gB at h;simp only[jK]at h;obtain⟨d,⟨i,hi,n⟩,h⟩:=h;refine⟨i,d,hi,n,?_⟩;unfold gB.rawZero at h;split at h
 .simp only[j5]at h;obtain⟨ds,h,rfl⟩:=h;obtain⟨e,f,k,l⟩:=pC _ _ h;exact⟨λw S=>.agg _ _ (by simpa using e.symm) λj v c g1 p=>f w S j v c (by simpa using g1) p,λj g=>by simpa[Value.cells]using k j g,l⟩
 .rename_i m;obtain⟨e,f,k,l⟩:=Fl h m;refine⟨λw S=>.rk h,λj g=>?_,by rw[e];simp[k]⟩;rw[e]at g;rw[f];cases j with
  |zero=>simp at g;subst g;simp[l rfl]
  |succ j=>simp at g
theorem K7{t:fN}{z:fS}{M:List (Nat×TypeId)}{cs:List PV}{bs:List fU}(Q:o.op=.alloc t)(R:gB P t=O z)(G:ko (I H+1) (z.cells.map .b7) M=O (cs,bs))(y:Qu P g X (I H) H w)(hi:Inv X w0 S0 g w):
  Nah P o a X w0 S0 H g w (.ptr (I H) 0) (H++.box cs::bs):=by
 obtain⟨i,r,T,u,W,Y,_⟩:=iS R;obtain⟨z1,z2⟩:=(W w g.S).cells
 obtain⟨K,t2,t3⟩:=rP _ _ _ _ _ G r.cells (λj _ hc=>by simp only[jD,j5]at hc;obtain⟨d,A,e⟩:=hc;cases e;exact Y j A)
 let g1:=g.box (I H) w.heap.size
 let k:=g1.mb (I H+1) (I bs)
 have m:=hi.alloc (.cells r.cells t);have B:Ext (I H) g w g1 (w.alloc (.cells r.cells t)):=(Ext.alloc hi (I H) _).trans (Ext.box (I H) _ (j7 _)) (j7 _);have C:Ext (I H) g w k (w.alloc (.cells r.cells t)):=B.trans (Ext.mb _ (eZ _)) (j7 _);have l:k.fg (I H)=w.heap.size:=by simp[k,g1,Gh.mb,Gh.box]
 refine⟨.pointer (O ⟨w.heap.size,0,Z⟩),k,w.alloc (.cells r.cells t),.inl ?_,C,by simp,?_,?_,⟨m.below,m.size,m.kk,m.lt⟩,Fr.kk yB (λb f=>Below.heap_alloc w _ b f) λi b h f=>?_⟩
 case refine_4=>
  rw[show H++fU.box cs::bs=(H++[.box cs])++bs by simp]at h;rcases Ee K (λi hi=>by simp[k,Gh.mb];omega) h with h;rcases rf h with h|⟨_,⟨D,_,rfl⟩|⟨e',n,h,_⟩⟩
  .exact⟨i,iE (g:=g) h (λj hj=>by simp only[k,g1,Gh.mb,Gh.box];rw[ae y9]) (λj hj=>by simp only[k,g1,Gh.mb,Gh.box];rw[ae y9])⟩
  .rw[l]at f;exact absurd f (zA _)
  .cases h
 .simp[execOp,Q,Instr.alloc,zeroValue,typeInfo,T,u,newVar,newRow]
 .have:=fW.ptr (g:=k) (N:=I (H++fU.box cs::bs)) (w:=w.alloc (.cells r.cells t)) (I H) 0 ⟨by simp,.inl rfl⟩
  rwa [l]at this
 .have L:Qu P k X (I (H++fU.box cs::bs)) H (w.alloc (.cells r.cells t)):=
   y.ey C yB (j7 _) (λi b f=>Below.heap_alloc w _ b (y.eM f).2.1) (λ_ _ _ _ h=>h) (λt G=>by simp only[k,g1,Gh.mb,Gh.box];rw[ae y9])
  rw[show H++fU.box cs::bs=(H++[.box cs])++bs by simp]at L |-;refine Qu.I1 (L.snoc _ (λD h=>?_) (λ_ _ h=>by cases h) (λi b f u=>?_)) bs K (λi hi=>by simp[k,Gh.mb];omega)
  .cases h;rw[l];refine⟨hi.size,⟨r.cells,t,heap_alloc_new w _,by rw[t2];simpa using z1,λj v c s E=>?_⟩,λo hs=>zA _ (hi.lt _ o hs)⟩;rcases t3 j v c s E with hc|⟨tk,a1,a2,rfl,rfl⟩
   .simp only[jD,j5]at hc;obtain⟨d,A,rfl⟩:=hc;exact .b7 _ _ ((z2 j v d s A).ext C)
   .refine .vec _ _ _ (.slice Z 0 0) 0 ?_ .nil ?_ (j7 _) yC
    .simp;omega
    .simp only[k,Gh.mb];rw[aj ⟨a1,a2⟩]
  .rw[iI (cs:=cs) yB,l]at u;cases u
   have F:e8 g H i=O w.heap.size:=by
    have p:∀x,H[i]?=O x->i<I H:=λx q=>(af.1 q).1
    unfold e8 at f |-;split at f
    .rename_i q;have:=p _ q;have e:i≠I H:=by omega
     simpa[k,g1,Gh.mb,Gh.box,e]using f
    .rename_i q;have:=p _ q;simp only[k,g1,Gh.mb,Gh.box]at f
     rwa [ae y9]at f
    .rename_i q;have:=p _ q;simp only[k,g1,Gh.mb,Gh.box]at f
     rwa [ae y9]at f
    .rename_i q;have:=p _ q;have e:i≠I H:=by omega
     simpa[k,g1,Gh.mb,Gh.box,e]using f
    .cases f
    .cases f
   exact zA _ (y.eM F).2.1
theorem nj:∀(l:List Value) (k off:Nat) (cells:Array Value) (m:Nat),off+k+I l<=cells.size->
  ((l.zipIdx k).foldl (λcs (x:Value×Nat)=>cs.setIfInBounds (off+x.2) x.1) cells)[m]?=(if off+k<=m/\m<off+k+I l then l[m - (off+k)]? else cells[m]?)/\
  ((l.zipIdx k).foldl (λcs (x:Value×Nat)=>cs.setIfInBounds (off+x.2) x.1) cells).size=cells.size
 |[],k,off,cells,m,h=>by simp;omega
 |v::r,k,off,cells,m,h=>by
  simp only[List.zipIdx_cons,aY];have d:off+(k+1)+I r<=(cells.setIfInBounds (off+k) v).size:=by simp at h |-;omega
  obtain⟨f,g⟩:=nj r (k+1) off (cells.setIfInBounds (off+k) v) m d;refine⟨?_,by rw[g];simp⟩;rw[f,cW];by_cases e:m=off+k
  .subst e;rw[ae y9,aj rfl,aj (by simp at h;omega),aj yB];simp
  .by_cases c:off+(k+1)<=m/\m<off+(k+1)+I r
   .rw[aj c,aj yA];obtain⟨q,rfl⟩:∃q,m=off+k+1+q:=⟨m - (off+k+1),by omega⟩;rw[show off+k+1+q - (off+(k+1))=q by omega,show off+k+1+q - (off+k)=q+1 by omega];simp
   .rw[ae c,ae (λe'=>e e'.symm),ae yA]
theorem BO{f:Nat->Option (Nat×Nat)}:∀(p:List (Nat×Operand)) (vals:Array Value) (cs k:List PV),lN f cs (p.map λ(i,x)=>(i,(D x).cells))=O k->
  vals.size=I cs->(∀(j:Nat) v c,vals[j]?=O v->cs[j]?=O c->fW g N w v c)->(∀x,fW g N w (a.eval x) (D x))->(∀i x,(i,x)∈p->D x≠.undef)->
  ∃d,Instr.fill f vals (p.map λ(i,x)=>(i,a.eval x))=O d/\d.size=I k/\(I k)=I cs/\(∀(j:Nat) v c,d[j]?=O v->k[j]?=O c->fW g N w v c)/\
   ∀j,l5 f j p=J->d[j]?=vals[j]?/\k[j]?=cs[j]?
 |[],vals,cs,k,h,hl,u,_,_=>by simp only[aH,lN,j9]at h;subst h;exact⟨vals,rfl,hl,rfl,u,λ_ _=>⟨rfl,rfl⟩⟩
 |(i,x)::p,vals,cs,k,h,hl,u,M,C=>by
  simp only[zV,lN]at h;split at h
  .cases h
  .rename_i off size E;split at h
   .rename_i K;simp only[jK]at h;obtain⟨q,hc,h⟩:=h;obtain⟨p1,F⟩:=xd hc;obtain⟨y1,L⟩:=(M x).cells (C i x yB);have y:(a.eval x).cells.size=size:=by omega
    have s:off+(a.eval x).cells.size<=vals.size:=by omega
    generalize l:((a.eval x).cells.toList.zipIdx 0).foldl (λcs (x:Value×Nat)=>cs.setIfInBounds (off+x.2) x.1) vals=new
    have n:∀m,new[m]?=(if off<=m/\m<off+size then(a.eval x).cells[m - off]? else vals[m]?):=λm=>by have:=(nj (a.eval x).cells.toList 0 off vals m (by simpa using s)).1;rw[l]at this;rw[this];simp[y]
    have G:new.size=vals.size:=by rw[<-l];exact(nj (a.eval x).cells.toList 0 off vals 0 (by simpa using s)).2
    have t:∀m,q[m]?=if m<off then cs[m]? else if m<off+size then(D x).cells[m - off]? else cs[m]?:=λm=>by rw[F,iP _ _ _ p1,K]
    have P:I q=I cs:=by rw[F];simp;omega
    obtain⟨d,Q,R,f3,S,T⟩:=BO p new q k h y9 (λj v c g1 r=>by
     rw[n]at g1;rw[t]at r;by_cases c1:off<=j/\j<off+size
     .rw[aj c1]at g1;rw[ae y9,aj c1.2]at r;exact L _ v c g1 r
     .rw[ae c1]at g1;by_cases c2:j<off
      .rw[aj c2]at r;exact u j v c g1 r
      .rw[ae c2,ae y9]at r;exact u j v c g1 r) M (λW X Y=>C W X (by simp[Y]))
    refine⟨d,?_,R,by omega,S,λj H=>?_⟩
    .simp only[zV,Instr.fill,E];rw[ae yA]
     have e:(a.eval x).cells.zipIdx.foldl (λcs (x:Value×Nat)=>cs.setIfInBounds (off+x.2) x.1) vals=new:=by rw[<-l,<-dV];simp
     exact(bQ (λz=>Instr.fill f z (p.map λ(i,x)=>(i,a.eval x))) e).trans Q
    .simp only[l5,bH,jE,E]at H;obtain⟨A,B⟩:=H;obtain⟨k1,k2⟩:=T j B;simp at A;refine⟨?_,?_⟩
     .rw[k1,n,ae y9]
     .rw[k2,t];by_cases c2:j<off
      .rw[aj c2]
      .rw[ae c2,ae y9]
   .cases h
end
section
variable{P:fL}{X N:Nat}{w0:fK}{S0:Nat->Nat->Prop}{g:Gh}{H H':List fU}{w:fK}{p:PV}{o:Oper}{a:Act}{D:fO->PV}
theorem qX{t:fN}{j:Nat->Option (Nat×Nat)}{i:TypeInfo}{k:fP}(c:s7 P t=O j)(hi:P.info? t=O i)(m:i.zero=O k)(d:List (Nat×Value)):
  P.built t d=Instr.fill j k.cells d:=by
 unfold s7 at c;unfold Program.built;split at c
 .rename_i fs f;simp only[j5]at c;obtain⟨l,hl,rfl⟩:=c;simp only[hi,f,m,hl];congr 1
  funext x;simp
 .rename_i n e f;simp only[j5]at c;obtain⟨s,p,rfl⟩:=c;simp only[gq,j5]at p;obtain⟨q,g,rfl⟩:=p;simp only[hi,f,m,g]
 .cases c
theorem KV{t:fN}{f:Array (Nat×Operand)}{z:fS}{p:Nat->Option (Nat×Nat)}{cs k:List PV}{bs:List fU}{s:List (Nat×TypeId)}(G:o.op=.build t f)(K:gB P t=O z)(u:s7 P t=O p)(L:lN p (z.cells.map PV.b7) (f.toList.map λ(i,x)=>(i,(D x).cells))=O cs)(l:f.toList.all (λ(_,x)=>(D x).cells.all PV.cell)=J)(y:s.all (λ(j,_)=>l5 p j f.toList)=J)(E:ko (I H) cs s=O (k,bs))(Q:Qu P g X (I H) H w)(hi:Inv X w0 S0 g w)(M:Nai g H w a D):
  Nah P o a X w0 S0 H g w (ls k) (H++bs):=by
 obtain⟨i,R,T,W,Y,h4,_⟩:=iS K;obtain⟨z1,z2⟩:=(Y w g.S).cells;have m:∀i x,(i,x)∈f.toList->D x≠.undef:=λi x hx=>kG (by have:=an.1 l (i,x) hx;exact this)
 obtain⟨vals,f1,f2,f3,f4,f5⟩:=BO (a:=a) (D:=D) f.toList R.cells _ _ L (by simpa using z1) (λj v c g1 q=>by simp only[jD,j5]at q;obtain⟨d,A,rfl⟩:=q;exact fW.b7 (N:=I H) _ _ (z2 j v d g1 A)) M m
 have n:∀j,j∈s.map (·.1)->l5 p j f.toList=J:=λj r=>by obtain⟨⟨j',e⟩,B,rfl⟩:=aq.1 r;exact an.1 y _ B
 obtain⟨F,t2,t3⟩:=rP _ _ _ _ _ E vals (λj r hc=>by obtain⟨u1,u2⟩:=f5 j (n j r);rw[u1];rw[u2]at hc;simp only[jD,j5]at hc;obtain⟨d,A,e⟩:=hc;cases e;exact h4 j A)
 have C:Ext (I H) g w (g.mb (I H) (I bs)) w:=Ext.mb _ (j7 _);refine⟨.agg vals,g.mb (I H) (I bs),w,.inl ?_,C,by simp,?_,?_,⟨hi.below,hi.size,hi.kk,hi.lt⟩,Fr.kk (j7 _) (λ_ _=>rfl) λi b h _=>?_⟩
 case refine_4=>exact⟨i,iE (g:=g) (Ee F (λi hi=>by simp[Gh.mb];omega) h) (λ_ _=>rfl) (λj r=>by simp only[Gh.mb];rw[ae y9])⟩
 .have hb:=run_build (P:=P) w t (f.map λ(i,x)=>(i,a.eval x)) vals (by rw[qX u T W];simpa using f1);simp only[execOp,G,Sem.run_bind];rw[hb];rfl
 .refine fW.ls y9 λj v c g1 q=>?_
  rcases t3 j v c g1 q with hc|⟨tk,a1,a2,rfl,rfl⟩
  .exact(f4 j v c g1 hc).ext C yB
  .refine .vec _ _ _ (.slice Z 0 0) 0 yA .nil ?_ (j7 _) yC;simp only[Gh.mb];rw[aj ⟨a1,a2⟩]
 .exact Qu.I1 (Q.ey C yB (j7 _) (λ_ _ _=>rfl) (λ_ _ _ _ h=>h) (λt E=>by simp only[Gh.mb];rw[ae y9])) bs F (λi hi=>by simp[Gh.mb];omega)
theorem uZ{v:fP}{p:PV}{d:fS}(h:fW g N w v p)(c:gH H p=O d)(hl:p.tl=U):gL w g.S v d:=by
 cases h with
 |b7 v d h=>simp[gH]at c;subst c;exact h
 |vec v t es v0 n f e=>simp[gH]at c;subst c;exact e
 |j0 b v f e=>
  simp[gH]at c;subst c;cases b with
  |true=>rw[f rfl];exact .nil
  |false=>obtain⟨a,cap,rfl⟩:=e rfl;exact .empty a cap
 |arr i o len cap=>cases hl
 |ms=>cases hl
 |_=>simp[gH]at c
theorem lV:∀(cs:List PV) (ds:List fS),lz H cs=O ds->I ds=I cs/\∀(j:Nat) c d,cs[j]?=O c->ds[j]?=O d->gH H c=O d
 |[],ds,h=>by cases h;exact⟨rfl,λj c d h=>by simp at h⟩
 |c::r,ds,h=>by
  unfold lz at h;split at h
  .rename_i d ds' hc f;cases h;obtain⟨g,k⟩:=lV r ds' f;refine⟨by simp[g],λj l m g1 e=>?_⟩;cases j with
   |zero=>simp at g1 e;subst g1 e;exact hc
   |succ j=>exact k j l m (by simpa using g1) (by simpa using e)
  .cases h
theorem kE:∀(cs:List PV) (ds:List fS),gR H cs=O ds->I ds=I cs/\∀(j:Nat) c d,cs[j]?=O c->ds[j]?=O d->ja H c=O d
 |[],ds,h=>by cases h;exact⟨rfl,λj c d h=>by simp at h⟩
 |c::r,ds,h=>by
  unfold gR at h;split at h
  .rename_i d ds' hc f;cases h;obtain⟨g,k⟩:=kE r ds' f;refine⟨by simp[g],λj l m g1 e=>?_⟩;cases j with
   |zero=>simp at g1 e;subst g1 e;exact hc
   |succ j=>exact k j l m (by simpa using g1) (by simpa using e)
  .cases h
theorem nR{v:fP}{p:PV}{d:fS}(h:fW g N w v p)(c:ja H p=O d)(hl:p.fx=U):gL w g.S v d:=by
 cases h with
 |agg vs cs k e=>
  simp only[ja,j5]at c;obtain⟨ds,c,rfl⟩:=c;obtain⟨p1,m⟩:=lV _ _ c;refine .agg _ _ y9 λj v d g1 l=>?_
  have f:j<I cs:=by rw[<-p1];exact(af.1 l).1
  have hc:cs[j]?=O cs[j]:=jC f;refine uZ (e j v _ g1 hc) (m j _ d hc l) ?_;simp only[PV.fx,bF]at hl;have:=hl _ (zD f)
  simpa using this
 |b7 v q h=>exact uZ (N:=N) (H:=H) (fW.b7 v q h) c rfl
 |vec v t es v0 n k e r s u=>exact uZ (H:=H) (fW.vec v t es v0 n k e r s u) c rfl
 |j0 b v k e=>
  simp[ja,gH]at c;subst c;cases b with
  |true=>rw[k rfl];exact .nil
  |false=>obtain⟨a,cap,rfl⟩:=e rfl;exact .empty a cap
 |arr i o len cap=>simp[PV.fx]at hl
 |ms=>simp[PV.fx]at hl
 |_=>simp[ja,gH]at c
theorem nh{size:Nat}:∀(f:List (Nat×Value)) (k:Nat) (vals:Array Value),(∀(i:Nat) q,f[i]?=O q->q.1=k+i/\q.2.cells.size=size)->(k+I f)*size<=vals.size->
  ∃c,Instr.fill (λi=>O (i*size,size)) vals f=O c/\c.size=vals.size/\(∀(i j:Nat) q,f[i]?=O q->j<size->c[(k+i)*size+j]?=q.2.cells[j]?)/\∀m,m<k*size->c[m]?=vals[m]?
 |[],k,vals,_,_=>⟨vals,rfl,rfl,λi j q h=>by simp at h,λ_ _=>rfl⟩
 |q::f,k,vals,s,hl=>by
  obtain⟨q1,q2⟩:=s 0 q rfl;obtain⟨d,v⟩:=q;simp at q1 q2;subst q1
  have n:d*size+size<=vals.size:=by
   have:(d+1)*size<=(d+(I f+1))*size:=au _ y9
   rw[av,bA]at this;simp at hl;omega
  generalize g:(v.cells.toList.zipIdx 0).foldl (λcs (x:Value×Nat)=>cs.setIfInBounds (d*size+x.2) x.1) vals=new;have p:=λm=>nj v.cells.toList 0 (d*size) vals m (by simpa[q2]using n)
  rw[g]at p
  have l:∀m,new[m]?=(if d*size<=m/\m<d*size+size then v.cells[m - d*size]? else vals[m]?):=λm=>by rw[(p m).1];simp[q2]
  have r:new.size=vals.size:=(p 0).2
  obtain⟨c,u,A,w,t⟩:=nh f (d+1) new (λi q h=>by have:=s (i+1) q (by simpa using h);exact⟨by omega,this.2⟩) (by rw[r,show d+1+I f=d+(I f+1) by omega];simpa using hl)
  refine⟨c,?_,by omega,λi j q h y=>?_,λm V=>?_⟩
  .simp only[Instr.fill];rw[ae yA];have e:v.cells.zipIdx.foldl (λcs (x:Value×Nat)=>cs.setIfInBounds (d*size+x.2) x.1) vals=new:=by rw[<-g,<-dV];simp
   exact(bQ (λz=>Instr.fill (λi=>O (i*size,size)) z f) e).trans u
  .cases i with
   |zero=>
    simp at h;subst h
    have:d*size+j<(d+1)*size:=by rw[av];omega
    rw[zY,t _ this,l,aj ⟨by omega,by omega⟩];congr 1;omega
   |succ i=>
    have:=w i j q (by simpa using h) y
    rwa [show d+1+i=d+(i+1) by omega]at this
  .have:m<(d+1)*size:=by rw[av];omega
   rw[t m this,l,ae y9]
theorem pN:∀(c:List (Nat×Operand)) (k:Nat),oK k c=J->∀(i:Nat) q,c[i]?=O q->q.1=k+i
 |[],_,_,i,q,h=>by simp at h
 |(e,x)::c,k,d,i,q,h=>by
  simp only[oK,jE,bE]at d;cases i with
  |zero=>simp at h;subst h;simp[d.1]
  |succ i=>have:=pN c (k+1) d.2 i q (by simpa using h);omega
theorem ia{size:Nat}{d:fS}(h:d.fits size=J):d.num=size:=by simp only[fS.fits,jE,bE]at h;exact h.1
theorem og{t e:fN}{len size:Nat}{c:Array (Nat×Operand)}{ds:List fS}(ho:o.op=.buildSlice t len c)(T:fV P t=O e)(n:gq P e=O size)(B:(gB P e).isSome=J)(hp:gR H (c.toList.map λ(_,x)=>D x)=O ds)(hl:c.size=len)(C:oK 0 c.toList=J)(W:ds.all (fS.fits size)=J)(h0:0<size)(h24:len*size<=16777216)(E:c.toList.any (λ(_,x)=>(D x).fx)=U)(hH:Qu P g X (I H) H w)(hi:Inv X w0 S0 g w)(M:Nai g H w a D):
  ∃vals:Array Value,(execOp a.eval o).run P w=.ok (.value (.slice (O ⟨w.heap.size,0,Z⟩) len len)) (w.alloc (.cells vals e))/\vals.size=len*size/\(I ds)=len/\
   gL (w.alloc (.cells vals e)) (g.pd w.heap.size (len*size)).S (.slice (O ⟨w.heap.size,0,Z⟩) len len) (.ew ds):=by
 obtain⟨p1,p2⟩:=kE _ _ hp;have k:I ds=len:=by rw[p1];simpa using hl
 obtain⟨z,B⟩:=aC.1 B;obtain⟨Y,F,i1,i2,_⟩:=iS B;have p:Y.size=size:=by simp only[gq,i1,jN,j9]at n;exact n
 have l:∀(i:Nat) q d,c.toList[i]?=O q->ds[i]?=O d->gL w g.S (a.eval q.2) d:=λi q d g1 A=>by
  have V:q∈c.toList:=jF g1;refine nR (M q.2) (p2 i (D q.2) d (by simp only[jD,g1,jN]) A) ?_;have:=bF.1 E q V
  simpa using this
 have G:∀(i:Nat) q,c.toList[i]?=O q->∃d,ds[i]?=O d:=λi q h=>⟨_,jC (by rw[p1];simpa using(af.1 h).1)⟩
 have f:∀(i:Nat) d,ds[i]?=O d->d.num=size:=λi d h=>ia (an.1 W d (jF h))
 obtain⟨vals,f1,f2,f3,_⟩:=nh (size:=size) (c.toList.map λ(i,x)=>(i,a.eval x)) 0 ((Array.range (len*size)).map (F.cells[· %F.cells.size]!)) (λi q h=>by simp only[jD,j5]at h;obtain⟨K,h,rfl⟩:=h;obtain⟨d,s⟩:=G i K h;exact⟨pN _ 0 C i K h,by rw[(l i K d h s).cells.1,<-fS.im,f i d s]⟩) (by simp[hl])
 have r:vals.size=len*size:=by rw[f2];simp
 have hb:(Instr.buildSlice t len (c.map λ(i,x)=>(i,a.eval x))).run P w=.ok (.slice (O ⟨w.heap.size,0,Z⟩) len len) (w.alloc (.cells vals e)):=by
  by_cases e7:len*size=0
  .have L:len=0:=by
    rcases eW.1 e7 with h|h
    .exact h
    .omega
   subst L;have N:c=#[]:=by simpa using hl
   subst N
   have:vals=#[]:=by simpa using r
   subst this;simp[Instr.buildSlice,run_underlying (Q0 T),iZ n,Instr.fill,newRow,eu]
  .refine run_buildSlice w t e len _ vals Y F (Q0 T) i1 i2 (by rw[p];omega) (by rw[p];exact e7) ?_;rw[p];simpa using f1
 refine⟨vals,by simp[execOp,ho,hb],r,k,?_⟩;refine .ew w.heap.size 0 len len size ds (λm=>vals.getD m undef) k.symm (j7 _) (λd C=>ia (an.1 W d C)) (λi Q=>⟨?_,.inr ⟨rfl,by omega⟩⟩) (λi j d u g1 A=>?_)
 .rw[cell_of_row _ _ _ vals e (0,0) (heap_alloc_new w _)];simp[jH,r,Q]
 .have v:i<I ds:=(af.1 g1).1;obtain⟨q,hq⟩:∃q,c.toList[i]?=O q:=⟨_,jC (by rw[p1]at v;simpa using v)⟩;have hj:j<size:=by rw[<-f i d g1,fS.im];exact(af.1 A).1
  have R:=f3 i j (q.1,a.eval q.2) (by simp only[jD,hq,jN]) hj;simp only[zZ]at R;obtain⟨c1,c2⟩:=(l i q d hq g1).cells;have y:j<(a.eval q.2).cells.size:=by rw[c1,<-fS.im,f i d g1];exact hj
  rw[jA y]at R;simp only[jH,R,aE];have:=c2 j _ u (jA y) A;exact this.mono (λb o n=>.inl n) (λb o n=>yp _ (hi.lt b o n))
theorem Inv.kn{ob:Obj}{n:Nat}(hi:Inv X w0 S0 g w):Inv X w0 S0 (g.pd w.heap.size n) (w.alloc ob):=by
 have h:=hi.alloc ob;refine⟨h.below,h.size,λb o c=>?_,λb o c=>?_⟩
 .rcases c with c|⟨rfl,_⟩
  .exact h.kk b o c
  .exact .inr hi.size
 .rcases c with c|⟨rfl,_⟩
  .exact h.lt b o c
  .simp
theorem Qu.kn{ob:Obj}{n:Nat}(c:Qu P g X (I H) H w)(hi:Inv X w0 S0 g w)(j:I H<=N):Ext (I H) g w (g.pd w.heap.size n) (w.alloc ob)/\Qu P (g.pd w.heap.size n) X N H (w.alloc ob):=by
 have f:Ext (I H) g w (g.pd w.heap.size n) (w.alloc ob):=(Ext.alloc hi (I H) _).trans (Ext.pd (I H) _ _) (j7 _);refine⟨f,c.ey f j (j7 _) (λi b d=>Below.heap_alloc w _ b (c.eM d).2.1) (λi b d o e=>?_) (λ_ _=>rfl)⟩;rcases e with e|⟨rfl,_⟩
 .exact e
 .exact absurd (c.eM d).2.1 (zA _)
theorem zm{t e:fN}{len size:Nat}{c:Array (Nat×Operand)}{ds:List fS}(k:o.op=.buildSlice t len c)(l:fV P t=O e)(m:gq P e=O size)(p:(gB P e).isSome=J)(q:gR H (c.toList.map λ(_,x)=>D x)=O ds)(hl:c.size=len)(r:oK 0 c.toList=J)(s:ds.all (fS.fits size)=J)(h0:0<size)(d:len*size<=16777216)(f:c.toList.any (λ(_,x)=>(D x).fx)=U)(j:Qu P g X (I H) H w)(hi:Inv X w0 S0 g w)(M:Nai g H w a D):
  Nah P o a X w0 S0 H g w (.b7 (.ew ds)) H:=by
 obtain⟨vals,u,A,B,y⟩:=og (S0:=S0) (w0:=w0) k l m p q hl r s h0 d f j hi M;obtain⟨k1,k2⟩:=Qu.kn (ob:=.cells vals e) (n:=len*size) j hi (j7 _);exact⟨_,g.pd w.heap.size (len*size),_,.inl u,k1,j7 _,.b7 _ _ y,k2,hi.kn,Fr.kk yB (λb z=>Below.heap_alloc w _ b z) (λi b h _=>⟨i,iE (g:=g) h (λ_ _=>rfl) (λ_ _=>rfl)⟩) (λb o h=>h.imp id λh=>.inl (ct h.1.symm))⟩
theorem tL{t e:fN}{len size:Nat}{c:Array (Nat×Operand)}{ds:List fS}(B:o.op=.buildSlice t len c)(C:fV P t=O e)(l:gq P e=O size)(E:(gB P e).isSome=J)(F:gR H (c.toList.map λ(_,x)=>D x)=O ds)(hl:c.size=len)(G:oK 0 c.toList=J)(K:ds.all (fS.fits size)=J)(h0:0<size)(p:len*size<=16777216)(q:c.toList.any (λ(_,x)=>(D x).fx)=U)(r:Qu P g X (I H) H w)(hi:Inv X w0 S0 g w)(M:Nai g H w a D):
  Nah P o a X w0 S0 H g w (.vec (I H) ds) (H++[.tok e (I ds)]):=by
 obtain⟨vals,L,Q,s,R⟩:=og (S0:=S0) (w0:=w0) B C l E F hl G K h0 p q r hi M
 let v0:Value:=.slice (O ⟨w.heap.size,0,Z⟩) len len
 let g1:=g.pd w.heap.size (len*size)
 let f:=g1.eE (I H) v0 len
 have k:=hi.kn (ob:=.cells vals e) (n:=len*size);obtain⟨k1,k2⟩:=Qu.kn (ob:=.cells vals e) (n:=len*size) (N:=I H) r hi (j7 _);have z:Ext (I H) g1 (w.alloc (.cells vals e)) f (w.alloc (.cells vals e)):=.pt _ _ _ (j7 _);refine⟨v0,f,_,.inl L,k1.trans z (j7 _),by simp,.vec _ _ _ v0 len yB R (by simp[f,Gh.eE]) y9 yC,?_,⟨k.below,k.size,k.kk,k.lt⟩,Fr.kk yB (λb d=>Below.heap_alloc w _ b d) (λi b h d=>?_) (λb o h=>h.imp id λh=>.inl (ct h.1.symm))⟩
 case refine_2=>
  rcases rf h with h|⟨_,⟨S,h,_⟩|⟨e',n,_,h⟩⟩
  .exact⟨i,iE (g:=g) h (λj T=>rfl) (λj T=>by simp only[f,Gh.eE];rw[ae y9];rfl)⟩
  .cases h
  .simp[f,Gh.eE,v0,Value.ownBlock]at h;subst h;exact absurd d (zA _)
 have A:Qu P f X (I (H++[fU.tok e (I ds)])) H (w.alloc (.cells vals e)):=k2.ey z yB (j7 _) (λ_ _ _=>rfl) (λ_ _ _ _ h=>h) (λt W=>by simp only[f,Gh.eE];rw[ae y9]);refine A.snoc _ (λ_ h=>by cases h) (λe' n h=>?_) (λi b d u=>?_)
 .cases h;refine⟨v0,by simp[f,Gh.eE,s],.inr ⟨w.heap.size,len,vals,size,by rw[s],hi.size,heap_alloc_new w _,l,by omega,?_,Q,λo l=>?_⟩⟩
  .have:len<=len*size:=aQ _ h0
   simp only[maxLen];omega
  .rcases l with l|⟨_,l⟩
   .exact absurd (hi.lt _ _ l) (zA _)
   .rw[s];exact l
 .rw[lD (e:=e) (n:=I ds) yB]at u;simp[f,Gh.eE,v0,Value.ownBlock]at u;subst u;have m:=A.eM d
  have y:e8 g H i=O w.heap.size:=by
   unfold e8 at d |-;split at d
   .simpa[f,g1,Gh.eE,Gh.pd]using d
   .have:=m.2.2;simp only[f,g1,Gh.eE,Gh.pd]at d
    rwa [ae y9]at d
   .have:=m.2.2;simp only[f,g1,Gh.eE,Gh.pd]at d
    rwa [ae y9]at d
   .simpa[f,g1,Gh.eE,Gh.pd]using d
   .cases d
   .cases d
  exact zA _ (r.eM y).2.1
end
section
variable{P:fL}{X N:Nat}{w0:fK}{S0:Nat->Nat->Prop}{g:Gh}{H H':List fU}{w:fK}{p:PV}{o:Oper}{a:Act}{D:fO->PV}
theorem Cj{t e:fN}{p q:fO}{z:fS}{bytes:Nat}{l c:Int}(L:o.op=.makeSlice t p q)(Q:fV P t=O e)(R:gB P e=O z)(E:gq P e=O 1)(F:bytesOf P e=O bytes)(hl:D p=.b7 (.raw (.int .i64 l)))(hc:D q=.b7 (.raw (.int .i64 c)))(h0:0<=l)(r:l<=c)(k:c*bytes<=jd)(s:c<=9223372036854775807)(T:z.ez=J)(W:Qu P g X (I H) H w)(hi:Inv X w0 S0 g w)(M:Nai g H w a D):
  Nah P o a X w0 S0 H g w (.arr (I H) 0 l.toNat c.toNat) (H++[.box (Nab c.toNat (.b7 z))]):=by
 obtain⟨u,f,y,Y,i3,_⟩:=iS R;have A:u.size=1:=by simp only[gq,y,jN,j9]at E;exact E
 have B:u.bytes=bytes:=by simp only[bytesOf,y,jN,j9]at F;exact F
 have vl:=mj (by rw[<-hl];exact M p);have vc:=mj (by rw[<-hc];exact M q);obtain⟨z1,z2⟩:=(i3 w g.S).cells;have C:f.cells.size=1:=by rw[z1];cases z<;>simp_all [fS.cells,fS.ez]
 have G:=run_make (P:=P) w t e u f (Q0 Q) y Y .i64 .i64 l c h0 r (by rw[B,bI];simp only[jd]at k;omega) s;rw[A,aW]at G
 have m:=tX (P:=P) (S0:=S0) (w0:=w0) W hi (madeCells f.cells c.toNat) e (Nab c.toNat (.b7 z)) (by rw[size_madeCells];simp) (λj v d g1 n=>by
  simp only[madeCells,zL,j5]at g1;obtain⟨K,hj,rfl⟩:=g1
  have hd:d=.b7 z:=by
   rw[zN]at n;split at n
   .exact(jS n).symm
   .cases n
  subst hd;refine .b7 _ _ ?_;have h0:f.cells[0]?=O f.cells[0]:=jA y9;have V:K%f.cells.size=0:=by rw[C];exact fI _
  have:f.cells[K%f.cells.size]! =f.cells[0]:=by simp only[V,cO,jH,h0,aE]
  rw[this];exact z2 0 _ z h0 (by cases z<;>simp_all [fS.cells,fS.ez]))
 refine⟨_,_,_,.inl (by simp only[execOp,L,vl,vc,Sem.run_bind];rw[G];rfl),m.ext,m.len,?_,m.heap,m.inv,m.fr⟩;have:=fW.arr (g:=g.box (I H) w.heap.size) (N:=I (H++[fU.box (Nab c.toNat (PV.b7 z))])) (w:=w.alloc (.cells (madeCells f.cells c.toNat) e)) (I H) 0 l.toNat c.toNat ⟨by simp,.inl rfl⟩ y9
 rwa [show(g.box (I H) w.heap.size).fg (I H)=w.heap.size by simp[Gh.box]]at this
theorem FB{t:fN}{x:fO}{ds:List fS}(p:o.op=.box t x)(c:iG (D x).cells=O ds)(q:Qu P g X (I H) H w)(hi:Inv X w0 S0 g w)(M:Nai g H w a D):
  Nah P o a X w0 S0 H g w (.eI ds) H:=by
 have d:(D x).cells=ds.map .b7:=lx _ _ c;obtain⟨r,s⟩:=(M x).cells (λe=>by rw[e]at c;simp[PV.cells,iG]at c);have f:(a.eval x).cells.size=I ds:=by rw[r,d,jZ]
 obtain⟨k1,k2⟩:=Qu.kn (ob:=.cells (a.eval x).cells t) (n:=I ds) q hi (j7 _);refine⟨.pointer (O ⟨w.heap.size,0,Z⟩),g.pd w.heap.size (I ds),w.alloc (.cells (a.eval x).cells t),.inl (by simp[execOp,p,Instr.box,newVar,newRow]),k1,j7 _,?_,k2,hi.kn,Fr.kk yB (λb y=>Below.heap_alloc w _ b y) (λi b h _=>⟨i,iE (g:=g) h (λ_ _=>rfl) (λ_ _=>rfl)⟩) (λb o h=>h.imp id λh=>.inl (ct h.1.symm))⟩;refine .eI w.heap.size 0 ds (λj=>(a.eval x).cells.getD j undef) (λi k=>⟨?_,.inr ⟨rfl,by omega⟩⟩) (λi u l=>?_)
 .rw[cell_of_row _ _ _ (a.eval x).cells t (0,0) (heap_alloc_new w _)];simp[jH,f,k]
 .have z:i<I ds:=(af.1 l).1;have m:(a.eval x).cells[i]?=O (a.eval x).cells[i]:=jA y9;have A:(D x).cells[i]?=O (.b7 u):=by rw[d,jD,l];rfl
  have B:=((s i _ _ m A).ext k1 (j7 _)).hX;simp only[jH,m,aE];exact B
theorem vh{t e:fN}{s y:fO}{z:fS}{bytes:Nat}{c:Int}(R:o.op=.makeSlice t s y)(T:fV P t=O e)(W:gB P e=O z)(N:gq P e=O 1)(q:bytesOf P e=O bytes)(hl:D s=.b7 (.raw (.int .i64 c)))(hc:D y=.b7 (.raw (.int .i64 c)))(h0:0<=c)(l:c*bytes<=jd)(A:c<=9223372036854775807)(Y:z.ez=J)(hH:Qu P g X (I H) H w)(hi:Inv X w0 S0 g w)(M:Nai g H w a D):
  Nah P o a X w0 S0 H g w (.b7 (.ew (Nab c.toNat z))) H:=by
 obtain⟨B,f,C,i2,i3,_⟩:=iS W;have E:B.size=1:=by simp only[gq,C,jN,j9]at N;exact N
 have F:B.bytes=bytes:=by simp only[bytesOf,C,jN,j9]at q;exact q
 have vl:=mj (by rw[<-hl];exact M s);have vc:=mj (by rw[<-hc];exact M y);obtain⟨z1,z2⟩:=(i3 (w.alloc (.cells (madeCells f.cells c.toNat) e)) (g.pd w.heap.size c.toNat).S).cells;have G:f.cells.size=1:=by rw[z1];cases z<;>simp_all [fS.cells,fS.ez]
 have Q:=run_make (P:=P) w t e B f (Q0 T) C i2 .i64 .i64 c c h0 (aG _) (by rw[F,bI];simp only[jd]at l;omega) A;rw[E,aW]at Q;have K:(madeCells f.cells c.toNat).size=c.toNat:=by rw[size_madeCells]
 have k:z.cells=[z]:=by cases z<;>simp_all [fS.cells,fS.ez]
 have p:∀j,j<c.toNat->(madeCells f.cells c.toNat).getD j undef=f.cells[0]'y9:=λj hj=>by
  have h0:f.cells[0]?=O f.cells[0]:=jA y9;have V:j%f.cells.size=0:=by rw[G];exact fI _
  rw[jH];simp only[madeCells,zL];rw[fq,aj hj];simp only[jN,aE,V,cO,jH,h0]
 obtain⟨k1,k2⟩:=Qu.kn (ob:=.cells (madeCells f.cells c.toNat) e) (n:=c.toNat) hH hi (j7 _);refine⟨_,g.pd w.heap.size c.toNat,_,.inl (by simp only[execOp,R,vl,vc,Sem.run_bind];rw[Q];rfl),k1,j7 _,.b7 _ _ ?_,k2,hi.kn,Fr.kk yB (λb q=>Below.heap_alloc w _ b q) (λi b h _=>⟨i,iE (g:=g) h (λ_ _=>rfl) (λ_ _=>rfl)⟩) (λb o h=>h.imp id λh=>.inl (ct h.1.symm))⟩;refine .ew w.heap.size 0 c.toNat c.toNat 1 (Nab c.toNat z) (λm=>(madeCells f.cells c.toNat).getD m undef) yB (j7 _) (λd hd=>?_) (λi hi'=>⟨?_,.inr ⟨rfl,by omega⟩⟩) (λi j d u g1 r=>?_)
 .rw[(dR.1 hd).2];cases z<;>simp_all [fS.num,fS.ez]
 .rw[cell_of_row _ _ _ (madeCells f.cells c.toNat) e (0,0) (heap_alloc_new w _)];simp[jH,K,show i<c.toNat by omega]
 .rw[zN]at g1;split at g1
  .rename_i L;cases g1;rw[k]at r;cases j with
   |zero=>
    simp only[cg,j9]at r;subst r;simp only[aW,zY];rw[p i L];exact z2 0 _ z (jA y9) (by rw[k];rfl)
   |succ j=>simp at r
  .cases g1
theorem K3{v:fP}{p:PV}(h:fW g (I H) w v p)(c:p.zk=J):v.cells=#[v]:=by cases h<;>first|rfl|cases c
theorem CV{t e:fN}{len:Nat}{c:Array (Nat×Operand)}(G:o.op=.buildSlice t len c)(K:fV P t=O e)(u:gq P e=O 1)(m:(gB P e).isSome=J)(hl:c.size=len)(L:oK 0 c.toList=J)(Q:len<=16777216)(n:c.toList.all (λ(_,x)=>(D x).zk)=J)(p:c.toList≠[])(R:Qu P g X (I H) H w)(hi:Inv X w0 S0 g w)(M:Nai g H w a D):
  Nah P o a X w0 S0 H g w (.arr (I H) 0 len len) (H++[.box (c.toList.map λ(_,x)=>D x)]):=by
 obtain⟨z,m⟩:=aC.1 m;obtain⟨y,r,A,S,_⟩:=iS m;have f:y.size=1:=by simp only[gq,A,jN,j9]at u;exact u
 have hc:∀(i:Nat) q,c.toList[i]?=O q->(a.eval q.2).cells=#[a.eval q.2]:=λi q h=>K3 (M q.2) (an.1 n q (jF h))
 obtain⟨vals,T,W,Y,_⟩:=nh (size:=1) (c.toList.map λ(i,x)=>(i,a.eval x)) 0 ((Array.range (len*1)).map (r.cells[· %r.cells.size]!)) (λi q h=>by simp only[jD,j5]at h;obtain⟨B,h,rfl⟩:=h;exact⟨pN _ 0 L i B h,by rw[hc i B h];rfl⟩) (by simp[hl])
 have s:vals.size=len:=by rw[W];simp
 have C:0<len:=by
  rw[<-hl];have:=fA.2 p
  simpa using this
 have hb:(Instr.buildSlice t len (c.map λ(i,x)=>(i,a.eval x))).run P w=.ok (.slice (O ⟨w.heap.size,0,Z⟩) len len) (w.alloc (.cells vals e)):=by refine run_buildSlice w t e len _ vals y r (Q0 K) A S (by rw[f];omega) (by rw[f];omega) ?_;rw[f];simpa using T
 have k:=tX (P:=P) (S0:=S0) (w0:=w0) R hi vals e (c.toList.map λ(_,x)=>D x) (by rw[s];simp[hl]) (λj v d g1 E=>by simp only[jD,j5]at E;obtain⟨q,F,rfl⟩:=E;have l:=Y j 0 (q.1,a.eval q.2) (by simp only[jD,F,jN]) y9;simp only[zZ,aW,zY]at l;rw[g1,hc j q F]at l;simp at l;subst l;exact M q.2)
 refine⟨.slice (O ⟨w.heap.size,0,Z⟩) len len,g.box (I H) w.heap.size,w.alloc (.cells vals e),.inl (by simp[execOp,G,hb]),k.ext,k.len,?_,k.heap,k.inv,k.fr⟩;have:=fW.arr (g:=g.box (I H) w.heap.size) (N:=I (H++[fU.box (c.toList.map λ(_,x)=>D x)])) (w:=w.alloc (.cells vals e)) (I H) 0 len len ⟨by simp,.inl rfl⟩ (j7 _)
 rwa [show(g.box (I H) w.heap.size).fg (I H)=w.heap.size by simp[Gh.box]]at this
structure Src (w:fK) (S:Nat->Nat->Prop) (v:fP) (es:List fS) (size:Nat) (news:List Value):Prop where
 shape:(v=.slice Z 0 0/\es=[])\/∃ad c,v=.slice (O ad) (I es) c/\∀(j:Nat) u,news[j]?=O u->w.cell? (ad.add j)=O u
 len:I news=I es*size
 rep:∀(i j:Nat) d u,es[i]?=O d->d.cells[j]?=O u->gL w S (news.getD (i*size+j) undef) u
theorem wK{S:Nat->Nat->Prop}{v:fP}{es:List fS}{size:Nat}(h:gL w S v (.ew es))(t:es.all (fS.fits size)=J):∃news,Src w S v es size news:=by
 cases h with
 |nil=>exact⟨[],.inl ⟨rfl,rfl⟩,by simp,λi j d u h=>by simp at h⟩
 |empty ad cap=>exact⟨[],.inr ⟨ad,cap,rfl,λj u h=>by simp at h⟩,by simp,λi j d u h=>by simp at h⟩
 |ew b off len cap k es c n x p y z=>
  have f:es=[]\/k=size:=by
   cases es with
   |nil=>exact .inl rfl
   |cons d es=>exact .inr (by rw[<-p d yB];exact ia (an.1 t d yB))
  have q:len*k=I es*size:=by rcases f with rfl|rfl<;>simp[n]
  refine⟨(Nad (I es*size)).map c,.inr ⟨_,cap,by rw[n],λj u e=>?_⟩,by simp,λi j d u g e=>?_⟩
  .simp only[jD,j5]at e;obtain⟨B,r,rfl⟩:=e;obtain⟨A,s⟩:=af.1 r;simp at A s;subst s;rw[jm];exact(y j y9).1
  .have hi:=(af.1 g).1;have l:k=size:=by rcases f with rfl|f;simp at g;exact f
   subst l;have r:j<k:=by have:=(af.1 e).1;rw[<-fS.im,p d (jF g)]at this;exact this
   have m:i*k+j<I es*k:=by
    have:(i+1)*k<=I es*k:=au _ y9
    rw[av]at this;omega
   have:((Nad (I es*k)).map c).getD (i*k+j) undef=c (i*k+j):=by simp[jB,m]
   rw[this];exact z i j d u g e
theorem Px{N i o len cap size:Nat}{v:fP}{es:List fS}(s:Qu P g X N H w)(h:fW g N w v (.arr i o len cap))(c:gH H (.arr i o len cap)=O (.ew es))(t:es.all (fS.fits size)=J):
  ∃news,Src w g.S v es size news:=by
 cases h with
 |arr i o len cap x hc=>
  simp only[gH]at c;split at c
  .rename_i cs y;simp only[j5,fS.ew.injEq]at c;obtain⟨e,c,rfl⟩:=c;obtain⟨k,E,c1,c2,F,z⟩:=vI c;obtain⟨_,⟨vals,A,k1,k2,k3⟩,_⟩:=s.box i cs y
   have m:e=[]\/k=size:=by
    cases e with
    |nil=>exact .inl rfl
    |cons d es=>exact .inr (by rw[<-c2 d yB];exact ia (an.1 t d yB))
   have hl:I e*size=len*k:=by
    rcases m with rfl|rfl
    .simp at c1;simp[<-c1]
    .rw[c1]
   refine⟨(vals.toList.drop o).take (len*k),.inr ⟨⟨g.fg i,o,Z⟩,cap,by rw[c1],λj u l=>?_⟩,by rw[hl];simp;omega,λf j d u n l=>?_⟩
   .rw[jR]at l;split at l
    .rw[jm,cell_of_row w _ _ vals A (0,0) k1];simpa using l
    .cases l
   .obtain⟨q,G⟩:=z f j d u n l;have B:k=size:=by rcases m with rfl|h;simp at n;exact h
    subst B;have C:f<len:=by rw[<-c1];exact(af.1 n).1
    have p:f*k+j<len*k:=by
     have:(f+1)*k<=len*k:=au _ y9
     rw[av]at this;omega
    have r:o+(f*k+j)<vals.size:=by rw[k2];exact(af.1 q).1
    have D:=(k3 _ _ _ (jA r) q).hX
    have:((vals.toList.drop o).take (len*k)).getD (f*k+j) undef=vals[o+(f*k+j)]:=by simp[jB,p,r]
    rw[this];exact D
  .cases c
theorem FE{N size:Nat}{v:fP}{p:PV}{es:List fS}(k:Qu P g X N H w)(h:fW g N w v p)(c:kb H p=O es)(e:es.all (fS.fits size)=J):∃news,Src w g.S v es size news:=by
 cases p with
 |b7 d=>
  cases d with
  |ew f=>simp[kb]at c;subst c;exact wK (rV h rfl) e
  |raw|agg=>simp[kb]at c
 |vec t f=>simp[kb]at c;subst c;exact wK (rV h rfl) e
 |arr i o len cap=>
  simp only[kb]at c;split at c
  .rename_i ds l;cases c;exact Px k h l e
  .cases c
 |j0 b=>
  simp[kb]at c;subst c;cases h with
  |j0 b v m n=>
   cases b with
   |true=>exact⟨[],.inl ⟨m rfl,rfl⟩,by simp,λi j d u h=>by simp at h⟩
   |false=>obtain⟨a,cap,rfl⟩:=n rfl;exact⟨[],.inr ⟨a,cap,rfl,λj u h=>by simp at h⟩,by simp,λi j d u h=>by simp at h⟩
 |_=>simp[kb]at c
theorem GG{S:Nat->Nat->Prop}{v:fP}{es:List fS}{size:Nat}{news:List Value}(h:Src w S v es size news)(h0:0<size)(k:es.all (fS.fits size)=J):∀u∈news,u.oneCell'=J:=λu l=>by
 obtain⟨m,V⟩:=aT l;have g:m<I es*size:=by rw[<-h.len];exact(af.1 V).1
 have hi:m/size<I es:=fm (by rw[bK];exact g);have n:es[m/size]?=O es[m/size]:=jC hi;have c:=an.1 k _ (zD hi);have e:=ia c;have j:m%size<es[m/size].cells.length:=by rw[<-fS.im,e];exact br _ h0
 have f:=h.rep _ (m%size) _ _ n (jC j);rw[show m/size*size+m%size=m by rw[bK];exact cz m size]at f;rw[jB,V,aE]at f;simp only[fS.fits,jE]at c;have hc:=an.1 c.2 _ (zD j);generalize es[m/size].cells[m%size]=d at f hc;cases f<;>first|rfl|(simp[fS.ez]at hc;done)|exact yx (by assumption)
theorem vv{S l:Nat->Nat->Prop}{w':fK}{b cap size n m:Nat}{xs es:List fS}{olds news:List Value}{cur:Array Value}{w:fN}(z:w'.heap[b]?=O (.cells cur w (0,0)))(x:xs.all (fS.fits size)=J)(y:es.all (fS.fits size)=J)(hn:I xs=n)(V:I es=m)(f:n+m<=cap)(e:I olds=n*size)(A:I news=m*size)(g:∀j,j<(n+m)*size->cur[j]?=O ((olds++news).getD j undef))(B:∀j,j<(n+m)*size->l b j)(p:∀(i j:Nat) d u,xs[i]?=O d->d.cells[j]?=O u->gL w' l (olds.getD (i*size+j) undef) u)(r:∀(i j:Nat) d u,es[i]?=O d->d.cells[j]?=O u->gL w' l (news.getD (i*size+j) undef) u):
  gL w' l (.slice (O ⟨b,0,Z⟩) (n+m) cap) (.ew (xs++es)):=by
 refine .ew b 0 (n+m) cap size _ (λj=>(olds++news).getD j undef) yA f (λd c=>?_) (λi hi=>⟨?_,by simpa using B i hi⟩) (λi j d u c s=>?_)
 .rcases aU.1 c with c|c
  .exact ia (an.1 x d c)
  .exact ia (an.1 y d c)
 .rw[zZ,cell_of_row w' b i cur w (0,0) z];exact g i hi
 .have k:d.num=size:=by
   rcases aU.1 (jF c)with c|c
   .exact ia (an.1 x d c)
   .exact ia (an.1 y d c)
  have C:j<size:=by rw[<-k,fS.im];exact(af.1 s).1
  rw[jT]at c;split at c
  .rename_i hi
   have t:i*size+j<I olds:=by
    rw[e]
    have:(i+1)*size<=n*size:=au _ y9
    rw[av]at this;omega
   have:(olds++news).getD (i*size+j) undef=olds.getD (i*size+j) undef:=by simp only[jB,jT,aj t]
   rw[this];exact p i j d u c s
  .rename_i hi;obtain⟨q,rfl⟩:∃q,i=n+q:=⟨i - n,by omega⟩;have v:¬((n+q)*size+j<I olds):=by rw[e,av];omega
   have:(olds++news).getD ((n+q)*size+j) undef=news.getD (q*size+j) undef:=by simp only[jB,jT,ae v];congr 2;rw[e,av];omega
   rw[this];exact r q j d u (by rw[show q=n+q - I xs by omega];exact c) s
theorem wJ{t e:Nat}{n:Nat}{v0:fP}{b:Nat}(d:H[t]?=O (.tok e n))(c:g.own t=O (v0,n))(f:v0.ownBlock=O b):e8 g H t=O b:=by rw[lD d,c];exact f
theorem xe{t e size n m:Nat}{xs es:List fS}{olds news:List Value}{cap:Nat}{zs:Array Value}(ht:H[t]?=O (.tok e n))(k:gq P e=O size)(hx:xs.all (fS.fits size)=J)(he:es.all (fS.fits size)=J)(hn:I xs=n)(V:I es=m)(hmp:0<m)(y:n+m<=cap)(Q:cap<=maxLen)(z:I olds=n*size)(A:I news=m*size)(hz:zs.size=(cap - (n+m))*size){v0:fP}(E:g.own t=O (v0,n))(R:∀(i j:Nat) d u,xs[i]?=O d->d.cells[j]?=O u->gL w g.S (olds.getD (i*size+j) undef) u)(c:∀(i j:Nat) d u,es[i]?=O d->d.cells[j]?=O u->gL w g.S (news.getD (i*size+j) undef) u)(F:Qu P g X (I H) H w)(hi:Inv X w0 S0 g w)(vals:Array Value)(l:vals=olds.toArray++news.toArray++zs):
  ∃g',Good P X w0 S0 H g w (.vec t (xs++es)) (H.set t (.tok e (n+m))) (.slice (O ⟨w.heap.size,0,Z⟩) (n+m) cap) g' (w.drew.alloc (.cells vals e)):=by
 have q:t<I H:=(af.1 ht).1;have G:Inv X w0 S0 g w.drew:=⟨hi.below.drew,hi.size,hi.kk,hi.lt⟩;have eD:Ext (I H) g w g w.drew:=⟨λ_ _ h=>h,λ_ _ _=>rfl,λ_ _ h=>⟨rfl,h⟩,λ_ _ v n h=>⟨v,n,h,j7 _,λ_=>rfl⟩⟩;have T:Qu P g X (I H) H w.drew:=F.ey eD (j7 _) (j7 _) (λ_ _ _=>rfl) (λ_ _ _ _ h=>h) (λ_ _=>rfl)
 let B:Value:=.slice (O ⟨w.heap.size,0,Z⟩) (n+m) cap
 let g1:=g.pd w.heap.size ((n+m)*size)
 let f:=g1.eE t B (n+m)
 let D:=w.drew.alloc (.cells vals e)
 obtain⟨k1,_⟩:=Qu.kn (ob:=.cells vals e) (n:=(n+m)*size) (N:=I H) T G (j7 _);have r:Inv X w0 S0 g1 D:=G.kn (ob:=.cells vals e) (n:=(n+m)*size);have p:D.heap[w.heap.size]?=O (.cells vals e (0,0)):=heap_alloc_new w.drew _
 have e2:Ext (I H) g1 D f D:=⟨λ_ _ h=>h,λ_ _ _=>rfl,λ_ _ h=>⟨rfl,h⟩,λW ht' v n' h=>by
  by_cases e':W=t
  .subst e';have h':g.own W=O (v,n'):=h;rw[E]at h';cases h';exact⟨B,n+m,by simp[f,Gh.eE],by omega,λe=>by omega⟩
  .exact⟨v,n',by simp only[f,Gh.eE];rw[ae e'];exact h,j7 _,λ_=>rfl⟩⟩
 have M:Ext (I H) g w f D:=(eD.trans k1 (j7 _)).trans e2 (j7 _)
 have Y:vals.size=cap*size:=by rw[l];simp only[eB,cb,z,A,hz];rw[<-av,<-av];congr 1;omega
 have K:∀j,j<(n+m)*size->vals[j]?=O ((olds++news).getD j undef):=λj hj=>by
  have C:j<I (olds++news):=by simp[z,A,<-av];exact hj
  have:vals[j]?=(olds++news)[j]?:=by rw[l,aL,aj (by simp at C |-;exact C)];simp
  rw[this,jB,jC C];rfl
 have L:gL D f.S B (.ew (xs++es)):=vv (S:=g.S) p hx he hn V y z A K (λj hj=>.inr ⟨rfl,hj⟩) (λi j d u a b=>(R i j d u a b).ext M) (λi j d u a b=>(c i j d u a b).ext M);refine⟨f,M,by simp,.vec _ _ _ B (n+m) (by simpa using q) L (by simp[f,Gh.eE]) yA yC,?_,⟨r.below,r.size,r.kk,r.lt⟩,Fr.kk yB (λb s=>Below.heap_alloc w.drew _ b s) (λi b h s=>?_) (λb o h=>h.imp id λh=>.inl (ct h.1.symm))⟩
 case refine_2=>
  rcases wv q h with⟨c,h⟩|⟨_,⟨cs',h,_⟩|⟨e',n',_,h⟩⟩
  .refine⟨i,?_⟩;have hil:∀x,H[i]?=O x->i<I H:=λx hh=>(af.1 hh).1
   unfold e8 at h |-;split at h
   .exact h
   .simp only[f,Gh.eE]at h;rw[ae c]at h;exact h
   .simp only[f,Gh.eE]at h;rw[ae c]at h;exact h
   .exact h
   .cases h
   .cases h
  .cases h
  .simp[f,Gh.eE,B,Value.ownBlock]at h;subst h;exact absurd s (zA _)
 refine F.nb M yB (j7 _) _ q (λi b _ s=>Below.heap_alloc w.drew _ b (F.eM s).2.1) (λi b _ s o k=>?_) (λW _ c=>by simp only[f,Gh.eE];rw[ae c];rfl) (λ_ h=>by cases h) (λe' n' h=>?_) (λi b hik s h=>?_)
 .rcases k with k|⟨rfl,_⟩
  .exact k
  .exact absurd (F.eM s).2.1 (zA _)
 .cases h
  exact⟨B,by simp[f,Gh.eE],.inr ⟨w.heap.size,cap,vals,size,rfl,hi.size,p,k,y,Q,Y,λo k=>by
   rcases k with k|⟨_,k⟩
   .exact absurd (hi.lt _ _ k) (zA _)
   .exact k⟩⟩
 .rw[lD (e:=e) (n:=n+m) (by simp[q])]at h;simp[f,Gh.eE,B,Value.ownBlock]at h;subst h;exact zA _ (F.eM s).2.1
theorem Kq{t e size n m b cap:Nat}{xs es:List fS}{news:List Value}{cur:Array Value}(N:H[t]?=O (.tok e n))(f:gq P e=O size)(hx:xs.all (fS.fits size)=J)(he:es.all (fS.fits size)=J)(hn:I xs=n)(V:I es=m)(y:n+m<=cap)(hcm:cap<=maxLen)(E:I news=m*size)(k:g.own t=O (.slice (O ⟨b,0,Z⟩) n cap,n))(hB:X<=b)(hb:w.heap[b]?=O (.cells cur e (0,0)))(Q:cur.size=cap*size)(R:∀o,g.S b o->o<n*size)(hxr:gL w g.S (.slice (O ⟨b,0,Z⟩) n cap) (.ew xs))(r:∀(i j:Nat) d u,es[i]?=O d->d.cells[j]?=O u->gL w g.S (news.getD (i*size+j) undef) u)(hH:Qu P g X (I H) H w)(hi:Inv X w0 S0 g w)(l:Array Value)(G:l=(cur.toList.take (n*size)++news++cur.toList.drop (n*size+I news)).toArray):
  ∃g',Good P X w0 S0 H g w (.vec t (xs++es)) (H.set t (.tok e (n+m))) (.slice (O ⟨b,0,Z⟩) (n+m) cap) g' (w.setRow b l):=by
 have F:t<I H:=(af.1 N).1;have hle:(n+m)*size<=cap*size:=au _ y;have z:n*size+I news<=I cur.toList:=by simp[E,Q,<-av];exact hle
 have K:∀j,l[j]?=if j<n*size then cur[j]? else if j<(n+m)*size then news[j - n*size]? else cur[j]?:=λj=>by rw[G];simp only[bb];rw[iP _ _ _ z,E,<-av];simp
 have hrs:l.size=cap*size:=by
  have h1:n*size<=cur.size:=by rw[Q];exact au _ y9
  have h2:n*size+I news<=cur.size:=by simpa using z
  rw[G];simp only[cb,jW,zW,y7,bj,Nat.min_eq_left h1];omega
 let L:Value:=.slice (O ⟨b,0,Z⟩) (n+m) cap
 let g1:=g.pd b ((n+m)*size)
 let x:=g1.eE t L (n+m)
 let w1:=w.setRow b l
 have p:w1.heap[b]?=O (.cells l e (0,0)):=setRow_heap w _ _ _ _ _ hb
 have q:∀b' A,g.S b' A->w1.cell? ⟨b',A,Z⟩=w.cell? ⟨b',A,Z⟩:=λb' A hs'=>by
  by_cases e':b'=b
  .subst e';rw[cell_of_row _ _ _ _ _ _ p,cell_of_row _ _ _ _ _ _ hb,K,aj (R A hs')]
  .exact cell_setRow_other w _ _ _ e'
 have ee:Ext (I H) g w x w1:=⟨λ_ _ h=>.inl h,q,λ_ _ h=>⟨rfl,h⟩,λt' ht' v n' h=>by
  by_cases e':t'=t
  .subst e';rw[k]at h;cases h;exact⟨L,n+m,by simp[x,Gh.eE],by omega,λe=>by have:m=0:=y9;subst this;rfl⟩
  .exact⟨v,n',by simp only[x,Gh.eE];rw[ae e'];exact h,j7 _,λ_=>rfl⟩⟩
 obtain⟨olds,B⟩:∃olds,Src w g.S (.slice (O ⟨b,0,Z⟩) n cap) xs size olds:=wK hxr hx
 have T:∀j,j<n*size->cur[j]?=O (olds.getD j undef):=λj M=>by
  have W:j<I olds:=by rw[B.len,hn];exact M
  rcases B.shape with⟨h,_⟩|⟨ad,c,h,q⟩
  .cases h
  .cases h;have:=q j _ (jC W);rw[jm,zZ,cell_of_row _ _ _ _ _ _ hb]at this;rw[this,jB,jC W];rfl
 have Y:∀j,j<(n+m)*size->l[j]?=O ((olds++news).getD j undef):=λj M=>by
  rw[K,jB,jT,B.len,hn];by_cases c1:j<n*size
  .rw[aj c1,aj c1,T j c1,jB]
  .rw[ae c1,ae c1,aj M]
   have:j - n*size<I news:=by rw[E];rw[av]at M;omega
   rw[jC this];rfl
 have hrep:gL w1 x.S L (.ew (xs++es)):=vv (S:=g.S) p hx he hn V y (by rw[B.len,hn]) E Y (λj M=>.inr ⟨rfl,M⟩) (λi j d u a b=>(B.rep i j d u a b).ext ee) (λi j d u a b=>(r i j d u a b).ext ee);refine⟨x,ee,by simp,.vec _ _ _ L (n+m) (by simpa using F) hrep (by simp[x,Gh.eE]) yA yC,?_,⟨below_setRow hi.below hB _,by simp;exact hi.size,λb' A f=>?_,λb' A f=>?_⟩,⟨by simp,λb' _ hn=>setRow_other w _ _ _ (λe'=>hn t (by rw[wJ N k rfl,e'])),λi b' h s=>?_,λb' A h=>h.imp id λh=>.inr ⟨t,by rw[wJ N k rfl,h.1]⟩⟩⟩
 .have C:e8 g H t=O b:=wJ N k rfl;refine hH.nb ee yB (j7 _) _ F (λi b' D s=>setRow_other w _ _ _ (λe'=>D (hH.sep i t b' s (by rw[C,e'])))) (λi b' D s A f=>?_) (λt' _ r=>by simp only[x,Gh.eE];rw[ae r];rfl) (λ_ h=>by cases h) (λe' n' h=>?_) (λi b' D s h=>?_)
  .rcases f with f|⟨rfl,_⟩
   .exact f
   .exact absurd (hH.sep i t _ s C) D
  .cases h
   exact⟨L,by simp[x,Gh.eE],.inr ⟨b,cap,l,size,rfl,hB,p,f,y,hcm,hrs,λo f=>by
    rcases f with f|⟨_,f⟩
    .have:=R o f;rw[av];omega
    .exact f⟩⟩
  .rw[lD (e:=e) (n:=n+m) (by simp[F])]at h;simp[x,Gh.eE,L,Value.ownBlock]at h;subst h;exact D (hH.sep i t _ s C)
 .rcases f with f|⟨rfl,_⟩
  .exact hi.kk b' A f
  .exact .inr hB
 .rcases f with f|⟨rfl,_⟩
  .simp;exact hi.lt b' A f
  .simp;exact iQ hb
 .rcases wv F h with⟨r,h⟩|⟨_,⟨cs',h,_⟩|⟨e',n',_,h⟩⟩
  .refine⟨i,?_⟩;unfold e8 at h |-;split at h
   .exact h
   .simp only[x,Gh.eE]at h;rw[ae r]at h;exact h
   .simp only[x,Gh.eE]at h;rw[ae r]at h;exact h
   .exact h
   .cases h
   .cases h
  .cases h
  .simp[x,Gh.eE,L,Value.ownBlock]at h;subst h;exact⟨t,wJ N k rfl⟩
theorem nF{ts e:fN}{f:fN}(d:fV P ts=O e){size:Nat}(g:gq P e=O size)(base ad:Option Addr)(n cap c:Nat)(h:n<=cap):
  (Builtin.append_ #[ts,ts] f #[.slice base n cap,.slice ad 0 c]).run P w=.ok (.slice base n cap) w:=by
 cases base<;>cases ad<;>simp[Builtin.append_,run_underlying (Q0 d),iZ g,Builtin.lenOf,h,Builtin.firstCells,loadCells,loadCellsFrom,storeCells]
theorem KK{t e size bytes:Nat}{x s:fO}{ts:fN}{xs es:List fS}{n:Nat}{z:fS}(ho:o.op=.call {callee:=.builtin .append,args:=#[s,x],argTypes:=#[ts,ts]})(E:fV P ts=O e)(R:gq P e=O size)(hb:bytesOf P e=O bytes)(hz:gB P e=O z)(hzn:z.num=size)(h0:0<size)(h0b:0<bytes)(hsv:D s=.vec t xs)(hxv:kb H (D x)=O es)(hx:xs.all (fS.fits size)=J)(he:es.all (fS.fits size)=J)(ht:H[t]?=O (.tok e n))(hn:n=I xs)(l:(I xs+I es)*bytes<=jd)(hH:Qu P g X (I H) H w)(hi:Inv X w0 S0 g w)(M:Nai g H w a D):
  Nah P o a X w0 S0 H g w (.vec t (xs++es)) (H.set t (.tok e (I xs+I es))):=by
 subst hn;obtain⟨ie,zv,i1,i2,i3,_⟩:=iS hz;have B:ie.size=size:=by simp only[gq,i1,jN,j9]at R;exact R
 have hby:ie.bytes=bytes:=by simp only[bytesOf,i1,jN,j9]at hb;exact hb
 have hzs:zv.cells.size=size:=by rw[(i3 w g.S).cells.1,<-fS.im,hzn]
 obtain⟨news,p⟩:=FE (P:=P) (size:=size) hH (M x) hxv he;have hone:=GG p h0 he;obtain⟨v0,f,L⟩:=hH.tok t e _ ht;have q:=M s;rw[hsv]at q;have hlb:I xs+I es<=jd:=jX (aQ _ h0b) l;have N:I xs+I es<=maxLen:=by simp only[jd]at hlb;simp only[maxLen];omega
 have h63:((I xs+I es:Nat):Int)<=9223372036854775807:=by simp only[jd]at hlb;omega
 generalize hvs:a.eval s=vs at q;cases q with
 |vec v t xs v0' n' q1 q2 q3 q4 q5=>
  rw[f]at q3;obtain⟨rfl,rfl⟩:v0=v0'/\(I xs)=n':=by simpa using q3
  have hvv:=q5 rfl;subst hvv
  have F:∀v w',(Builtin.append_ #[ts,ts] o.type #[vs,a.eval x]).run P w=.ok v w'->gN P o a w v w':=λv w' Q=>by left;simp[execOp,ho,resolve,invoke,builtin,hvs,Q]
  by_cases hm0:I es=0
  ·-- nothing is appended
   have:es=[]:=aw hm0
   subst this
   have hset:H.set t (.tok e (I xs+I ([]:List fS)))=H:=by
    apply bG;intro i;rw[zF];split
    .rename_i e';subst e';rw[ht];rfl
    .rfl
   rw[hset,jV];refine⟨vs,g,w,?_,.same hH hi (.vec _ _ _ vs (I xs) q1 q2 f (j7 _) yC)⟩
   obtain⟨base,cap,T,k⟩:∃base cap,vs=.slice base (I xs) cap/\(I xs)<=cap:=by
    rcases L with⟨rfl,h⟩|⟨b,cap,cur,r,rfl,_,_,_,h,_⟩
    .exact⟨Z,0,by rw[h],by omega⟩
    .exact⟨_,cap,rfl,h⟩
   obtain⟨ad,c,C⟩:∃ad c,a.eval x=.slice ad 0 c:=by
    rcases p.shape with⟨h,_⟩|⟨ad,c,h,_⟩
    .exact⟨Z,0,h⟩
    .exact⟨O ad,c,h⟩
   refine F _ _ ?_;rw[T,C];exact nF E R base ad _ cap c k
  ·-- something
   obtain⟨ad,c,C,y⟩:∃ad c,a.eval x=.slice (O ad) (I es) c/\∀(j:Nat) u,news[j]?=O u->w.cell? (ad.add j)=O u:=by
    rcases p.shape with⟨_,h⟩|⟨ad,c,h,h'⟩
    .subst h;exact absurd rfl hm0
    .exact⟨ad,c,h,h'⟩
   have A:=p.len;rcases L with⟨rfl,hx0⟩|⟨b,cap,cur,r,rfl,hB,hbk,hs',hnc,W,hcs,hSb⟩
   .have hxe:xs=[]:=aw hx0;subst hxe;have Q:=run_append_nil (P:=P) w ts o.type e ie zv (Q0 E) i1 i2 ad (I es) c news (by rw[B];exact A) y y9 (by simpa using h63) (by rw[hby];simp only[jL,zZ,jd]at l;omega);have hge:=grownCap_ge w (I es) 0 e;have W:=grownCap_le_maxLen w (I es) 0 e (by simpa using N)
    obtain⟨g',hg⟩:=xe (P:=P) (S0:=S0) (w0:=w0) (m:=I es) (n:=0) (olds:=[]) (zs:=Builtin.zeroCells zv.cells (grownCap w (I es) 0 e - I es)) (cap:=grownCap w (I es) 0 e) ht R hx he rfl rfl y9 y9 W
     yB A (by simp[size_zeroCells,hzs]) f (λi j d u h=>by simp at h) p.rep hH hi (news.toArray++Builtin.zeroCells zv.cells (grownCap w (I es) 0 e - I es)) yB
    simp only[jL,zZ]at hg |-;exact⟨_,g',_,F _ _ (by rw[C];exact Q),hg⟩
   .have hss:r=size:=by rw[R]at hs';exact(jS hs').symm
    subst hss;by_cases k:I xs+I es<=cap
    .have G:I xs*ie.size+I news<=cur.size:=by rw[A,hcs,B,<-av];exact au _ k
     have Q:=run_append_room (P:=P) w ts o.type e ie (Q0 E) i1 b (I xs) cap cur hbk ad (I es) c news (by rw[B];exact A) y hone k G;obtain⟨g',hg⟩:=Kq (P:=P) (S0:=S0) (w0:=w0) (m:=I es) (n:=I xs) ht R hx he rfl rfl k W A f hB hbk hcs hSb q2 p.rep hH hi _ rfl;rw[B]at Q;exact⟨_,g',_,F _ _ (by rw[C];exact Q),hg⟩
    .obtain⟨olds,K⟩:=wK (size:=r) q2 hx
     have Y:∀(j:Nat) v,olds[j]?=O v->w.cell? ((⟨b,0,Z⟩:Addr).add j)=O v:=by
      rcases K.shape with⟨h,_⟩|⟨ad',c',h,h'⟩
      .cases h
      .cases h;exact h'
     have Q:=run_append_grow (P:=P) w ts o.type e ie zv (Q0 E) i1 i2 ⟨b,0,Z⟩ (I xs) cap olds (by rw[B];exact K.len) Y ad (I es) c news (by rw[B];exact A) y y9 h63 (growslice_fits y9 (by rw[hby];exact l));have hge:=grownCap_ge w (I xs+I es) cap e;have hcm':=grownCap_le_maxLen w (I xs+I es) cap e N
     obtain⟨g',hg⟩:=xe (P:=P) (S0:=S0) (w0:=w0) (m:=I es) (n:=I xs) (olds:=olds) (zs:=Builtin.zeroCells zv.cells (grownCap w (I xs+I es) cap e - (I xs+I es))) (cap:=grownCap w (I xs+I es) cap e) ht R hx he rfl rfl y9 hge hcm'
      K.len A (by simp[size_zeroCells,hzs]) f K.rep p.rep hH hi _ rfl
     exact⟨_,g',_,F _ _ (by rw[C];exact Q),hg⟩
end
section
variable{P:fL}{X:Nat}{w0:fK}{S0:Nat->Nat->Prop}{g:Gh}{H H':List fU}{w:fK}{p:PV}{o:Oper}{a:Act}{D:fO->PV}
theorem ZO{H:List fU}{t:Nat}{x:TypeId×Nat×List PV}(h:ga H t=O x):H[t]?=O (.mt x.1 x.2.1 x.2.2):=by
 simp only[ga,jK]at h;obtain⟨b,d,c⟩:=h;rw[d];cases b with
 |mt e g cs=>simp[fU.ga]at c;subst c;rfl
 |box|tok|map|hole=>simp[fU.ga]at c
theorem Bl(f:Qu P g X (I H) H w)(hi:Inv X w0 S0 g w)(e:fN):
  Good P X w0 S0 H g w (.ms (I H) 0 0 0 0) (H++[.mt e 0 []]) (.slice Z 0 0) (g.eE (I H) (.slice Z 0 0) 0) w:=by
 have c:Ext (I H) g w (g.eE (I H) (.slice Z 0 0) 0) w:=.pt _ _ _ (j7 _);refine⟨c,by simp,.ms _ _ _ _ _ _ (.slice Z 0 0) 0 yB (by simp[Gh.eE]) (j7 _) (λ_=>⟨rfl,.inl rfl⟩) ⟨Z,0,rfl,j7 _,j7 _,λh=>absurd h (zA _)⟩,?_,⟨hi.below,hi.size,hi.kk,hi.lt⟩,Fr.kk (j7 _) (λ_ _=>rfl) λi b h _=>?_⟩
 case refine_2=>
  rcases oL h with h|⟨_,h⟩
  .exact⟨i,iE (g:=g) h (λ_ _=>rfl) (λj k=>by simp only[Gh.eE];rw[ae y9])⟩
  .simp[Gh.eE,gh]at h
 refine Qu.snoc (f.ey c yB (j7 _) (λ_ _ _=>rfl) (λ_ _ _ _ h=>h) (λt l=>by simp[Gh.eE];omega)) _ (λcs h=>by cases h) (λe' n h=>by cases h) (λi b h d=>?_) (λe' n cs h=>?_) (hmt0:=λ_ _ _=>⟨.slice Z 0 0,by simp[Gh.eE],rfl⟩)
 .rw[iO (e:=e) (n:=0) (cs:=[]) yB]at d;simp[Gh.eE,gh]at d
 .cases h;exact⟨.slice Z 0 0,by simp[Gh.eE],.inl ⟨rfl,.inl rfl⟩⟩
theorem B5{e:fN}(c:o.op=.assign (.const (.slice Z 0 0)))(d:Qu P g X (I H) H w)(hi:Inv X w0 S0 g w):
  Nah P o a X w0 S0 H g w (.ms (I H) 0 0 0 0) (H++[.mt e 0 []]):=
 ⟨_,_,w,.inl (by simp[execOp,c,Act.eval]),Bl d hi e⟩
theorem wc{t e:fN}{x j:fO}{k:IntKind}{n:Int}{tt gg lo len cap size:Nat}(y:o.op=.indexAddr t x j)(z:fV P t=O e)(A:gq P e=O size)(p:D j=.b7 (.raw (.int k n)))(B:D x=.ms tt gg lo len cap)(h0:0<=n)(W:n.toNat<len)(C:Qu P g X (I H) H w)(hi:Inv X w0 S0 g w)(M:Nai g H w a D):
  Nah P o a X w0 S0 H g w (.mp tt gg (lo+mO size n.toNat)) H:=by
 have f:mO size n.toNat=n.toNat*size:=by
  unfold mO;split
  .rename_i h;rw[h,aW]
  .rfl
 rw[f];have q:=mj (by rw[<-p];exact M j);have r:=M x;rw[B]at r;generalize E:a.eval x=v at r;cases r with
 |ms Y gg' F u cp v v0 m G K L N Q=>
  obtain⟨ad,c,rfl,h6,h8,R⟩:=Q;obtain⟨ad,rfl⟩:=aC.1 (R y9);have s:n<(len:Int):=by omega
  refine⟨.pointer (O (ad.add (n.toNat*size))),g,w,.inl ?_,.same C hi (.mp _ _ _ _ v0 m G K L (λe'=>?_) ⟨_,rfl⟩)⟩
  .simp[execOp,y,Instr.indexAt,run_underlying (Q0 z),q,E,asIntOf,h0,s,iZ A]
  .obtain⟨d,S⟩:=N e';rcases S with rfl|⟨a0,rfl⟩|⟨b,l,T,rfl⟩
   .simp[iK]at d
   .simp[iK]at d;omega
   .simp only[iK,Value.slice.injEq,j9]at d;obtain⟨rfl,_,_⟩:=d;refine⟨b,l,T,rfl,?_⟩;simp[jm]
theorem qS.px{e:fN}{cs:List PV}{v0:fP}(h:qS P g X w e cs v0)(j:Nat):¬cs[j]?.map PV.flat=O J:=λc=>by
 obtain⟨b,n,cap,cur,size,ds,rfl,h0,m,p,q,k,rfl,f,_⟩:=h;rw[jD,Option.map_map,j5]at c;obtain⟨d,l,c⟩:=c;have:=ia (an.1 f d (jF l));cases d with
 |agg=>simp[PV.flat]at c
 |raw=>simp[fS.num]at this;omega
 |ew=>simp[fS.num]at this;omega
theorem qS.xc{e:fN}{cs:List PV}{v0:fP}(h:qS P g X w e cs v0):gq P e≠O 1:=λc=>by obtain⟨b,n,cap,cur,size,ds,rfl,h0,j,k,d,f,_⟩:=h;rw[d]at c;cases c;omega
theorem qS.pos{e:fN}{cs:List PV}{v0:fP}(h:qS P g X w e cs v0):gh v0≠Z:=λc=>by obtain⟨b,n,cap,cur,size,ds,rfl,h0,_⟩:=h;simp[gh]at c;omega
theorem qk{p:PV}(h:p.cell=J):p.flat=J:=by
 cases p with
 |b7 d=>cases d<;>first|rfl|(simp[PV.cell]at h)
 |_=>rfl
theorem KT{cs:List PV}(h:cs.all PV.flat=J){p:PV}(d:p.flat=J)(j:Nat):(cs.set j p).all PV.flat=J:=by
 rw[j8]at h |-;intro x c;rcases dj c with c|rfl
 .exact h x c
 .exact d
theorem nk{cs:List PV}(h:cs.all PV.cell=J):cs.all PV.flat=J:=by rw[j8]at h |-;exact λx c=>qk (h x c)
theorem AH{cs:List PV}(h:cs.all PV.flat=J)(n:Nat):(cs.take n).all PV.flat=J:=by rw[j8]at h |-;exact λx c=>h x (zS c)
theorem IG{cs:List PV}(h:cs.all PV.flat=J)(n:Nat):(cs.drop n).all PV.flat=J:=by rw[j8]at h |-;exact λx c=>h x (cZ c)
theorem Gp{t:fN}{x:fO}{te:fN}{cs ds:List PV}{n tt gg j:Nat}{s:Bool}{p:PV}(E:o.op=.load t x)(F:D x=.mp tt gg j)(G:H[tt]?=O (.mt te gg cs))(K:qh P t=O s)(hn:gq P t=O n)(L:n=1)(k:cs[j]?.map PV.flat=O J)(hc:cut cs j n=O ds)(Q:je s ds=O p)(y:Qu P g X (I H) H w)(hi:Inv X w0 S0 g w)(M:Nai g H w a D):
  Nah P o a X w0 S0 H g w p H:=by
 obtain⟨c1,c2,R⟩:=lq hc;have h:=M x;rw[F]at h;generalize r:a.eval x=v at h;cases h with
 |mp t' gg' j' v v0 m h1 S h3 T h5=>
  obtain⟨v1,k1,k2⟩:=y.mt tt _ _ _ G;rw[S]at k1;simp only[j9,jI]at k1;obtain⟨rfl,rfl⟩:=k1;obtain⟨b,l,cap,z,rfl⟩:=T rfl;rcases k2 with⟨rfl,A⟩|⟨b',l',B,cur,rfl,q0,q1,q2,q3,q4,q5,q6,q7,W⟩|f
  rotate_right
  .exact absurd k (f.px j)
  .simp at c2;omega
  .simp only[Value.slice.injEq,j9,Addr.mk.injEq]at z;obtain⟨⟨rfl,_,_⟩,_,_⟩:=z
   have d:∀(q:Nat) u,((cur.toList.drop j).take n)[q]?=O u->q<n/\cur[j+q]?=O u:=λq u e=>by
    rw[jR]at e;split at e
    .exact⟨by assumption,by simpa using e⟩
    .cases e
   obtain⟨p1,Y⟩:=fW.je (g:=g) (w:=w) (N:=I H) (us:=(cur.toList.drop j).take n) (n:=n) yA c1 (λq v c g1 C=>by obtain⟨hj,r⟩:=d q v g1;rw[R q hj]at C;exact W _ v c r C) Q
   have hr:=kD (P:=P) (w:=w) (b:=b') (off:=j) ((cur.toList.drop j).take n) K hn yA p1 (λq u e=>by rw[cell_of_row w _ _ cur _ (0,0) q2];exact(d q u e).2)
   exact⟨_,g,w,.inl (by simp only[execOp,E,r];simp[Instr.loadAt,Instr.sureAddr,hr]),.same y hi Y⟩
theorem Nk{v:fP}{p:PV}{N:Nat}(h:fW g N w v p)(c:p.cell=J):v.cells=#[v]/\p.cells=[p]:=by
 have e:=lZ h c;refine⟨?_,?_⟩
 .cases v<;>first|rfl|(simp[Value.oneCell']at e)
 .cases p with
  |b7 d=>cases d<;>first|rfl|(simp[PV.cell]at c)
  |agg|fz|undef=>simp[PV.cell]at c
  |_=>rfl
theorem Dz{t:fN}{x y:fO}{te:fN}{cs:List PV}{tt gg j:Nat}(ho:o.op=.store t x y)(hx:D x=.mp tt gg j)(F:H[tt]?=O (.mt te gg cs))(hn:gq P t=O 1)(d:(D y).cell=J)(r:cs[j]?.map PV.flat=O J)(G:Qu P g X (I H) H w)(hi:Inv X w0 S0 g w)(M:Nai g H w a D):
  Nah P o a X w0 S0 H g w (.fz []) (H.set tt (.mt te gg (cs.set j (D y)))):=by
 have h:=M x;rw[hx]at h;generalize hv:a.eval x=v at h;have s:tt<I H:=(af.1 F).1
 have hj:j<I cs:=by rw[j5]at r;obtain⟨_,h,_⟩:=r;exact(af.1 h).1
 cases h with
 |mp t' gg' j' v v0 m h1 h2 h3 h4 h5=>
  obtain⟨v1,k1,k2⟩:=G.mt tt _ _ _ F;have f:=h2;rw[h2]at k1;simp only[j9,jI]at k1;obtain⟨rfl,rfl⟩:=k1;obtain⟨b,l,cap,e1,rfl⟩:=h4 rfl;rcases k2 with⟨rfl,hnil⟩|⟨b',l',K,cur,rfl,q0,q1,q2,q3,q4,q5,q6,q7,q8⟩|L
  rotate_right
  .exact absurd r (L.px j)
  .simp at hj
  .simp only[Value.slice.injEq,j9,Addr.mk.injEq]at e1;obtain⟨⟨rfl,_,_⟩,rfl,rfl⟩:=e1;have k:e8 g H tt=O b':=by rw[iO F,f];simp[gh];omega
   obtain⟨y1,y2⟩:=Nk (M y) d;have N:=lZ (M y) d;have hst:=run_storeCells_at P b' j te [a.eval y] 0 cur w q2 yA (by simpa using N);simp only[zY]at hst;generalize p:(cur.toList.take j++[a.eval y]++cur.toList.drop (j+[a.eval y].length))=new at hst
   have Q:∀q,new[q]?=if q<j then cur[q]? else if q<j+1 then[a.eval y][q - j]? else cur[q]?:=λq=>by rw[<-p,iP _ _ _ yA];simp
   have z:(w.setRow b' new.toArray).heap[b']?=O (.cells new.toArray te (0,0)):=setRow_heap w _ _ _ _ _ q2
   have R:Ext (I H) g w g (w.setRow b' new.toArray):=⟨λ_ _ h=>h,λb S T=>cell_setRow_other w _ _ _ (λe=>by simp only at e;subst e;exact q7 S T),λ_ _ h=>⟨rfl,h⟩,λ_ _ v n h=>⟨v,n,h,j7 _,λ_=>rfl⟩⟩
   refine⟨undef,g,_,.inr ⟨?_,rfl⟩,R,by simp,.fz _ _ rfl (λj v c h=>by simp at h),?_,⟨?_,by simp;exact hi.size,hi.kk,λb S T=>by simp;exact hi.lt b S T⟩,⟨by simp,λb _ hn=>setRow_other w _ _ _ (λe=>hn tt (by rw[k,e])),λi b W _=>?_,λb o h=>.inl h⟩⟩
   .simp only[execOp,ho,hv];simp[Instr.storeAt,Instr.sureAddr,storeVar,y1,iZ hn,hst]
   .refine G.nb R yB (j7 _) _ s (λi b A B=>setRow_other w _ _ _ (λe=>A (G.sep i tt b B (by rw[k,e]))))
     (λ_ _ _ _ _ h=>h) (λ_ _ _=>rfl) (λY hc=>by cases hc) (λ_ _ h=>by cases h) (λi b A B h=>?_) (λe' n' Y hc=>?_) (hmt0:=λ_ _ hc=>by cases hc;exact G.xb _ _ _ F)
    .rw[iO (e:=te) (n:=m) (cs:=cs.set j (D y)) (by simp[s]),f]at h;simp[gh]at h;obtain⟨_,rfl⟩:=h;exact A (G.sep i _ _ B k)
    .cases hc;have C:new.toArray.size=cur.size:=by rw[<-p];simp;omega
     refine⟨_,f,.inr (.inl ⟨b',l',K,new.toArray,rfl,q0,q1,z,by rw[C];exact q3,⟨by rw[C];simpa using q4.1,KT q4.2 (qk d) j⟩,q5,by rw[C];exact q6,q7,λq u c g1 E=>?_⟩)⟩;simp only[bb]at g1;rw[Q]at g1;rw[zF]at E;by_cases hq:j=q
     .subst hq;rw[ae (zA _),aj y9,cH]at g1;rw[aj rfl,aj hj]at E;simp at g1 E;subst g1;subst E;exact(M y).ext R yB
     .rw[ae hq]at E
      have:cur[q]?=O u:=by
       split at g1
       .exact g1
       .split at g1
        .omega
        .exact g1
      exact(q8 q u c this E).ext R yB
   .exact below_setRow hi.below q1 _
   .rcases na s W with⟨_,h⟩|⟨rfl,h⟩
    .exact⟨i,h⟩
    .exact⟨i,by rw[iO F];exact h⟩
theorem Aj{size:Nat}{ds:List fS}(h:ds.all (fS.fits size)=J)(n:Nat):(ds.take n).all (fS.fits size)=J:=by rw[j8]at h |-;exact λx c=>h x (zS c)
theorem qS.take{e:fN}{cs:List PV}{v0:fP}(h:qS P g X w e cs v0)(n:Nat):qS P g X w e (cs.take n) v0:=by
 obtain⟨b,n',cap,cur,size,ds,rfl,h0,m,p,q,f,rfl,k,l,r,s,t,x⟩:=h;refine⟨b,n',cap,cur,size,ds.take n,rfl,h0,m,p,q,f,by rw[cM],Aj k n,by rw[zW];omega,r,s,t,λi j d u v c y z=>?_⟩;rw[jR]at c;split at c
 .exact x i j d u v c y z
 .cases c
theorem Fe{N:Nat}{v:fP}{p:PV}{n:Nat}(h:fW g N w v p)(hn:mi p=O n):∃ad cap,v=.slice ad n cap/\n<=cap/\(ad=Z->cap=0):=by
 have ew:∀{v:fP} {es:List fS},gL w g.S v (.ew es)->∃ad cap,v=.slice ad (I es) cap/\(I es)<=cap/\(ad=Z->cap=0):=λh=>by
  cases h with
  |nil=>exact⟨Z,0,rfl,j7 _,λ_=>rfl⟩
  |empty a cap=>exact⟨O a,cap,rfl,zQ _,λh=>by cases h⟩
  |ew b off len cap k es c f j=>exact⟨_,cap,by rw[f],by omega,λh=>by cases h⟩
 cases h with
 |b7 v d h=>
  cases d with
  |ew es=>simp[mi]at hn;subst hn;exact ew h
  |_=>simp[mi]at hn
 |vec v t es v0 n' f j=>simp[mi]at hn;subst hn;exact ew j
 |arr i o len cap h l=>simp[mi]at hn;subst hn;exact⟨_,_,rfl,l,λh=>by cases h⟩
 |j0 b v f j=>
  simp[mi]at hn;subst hn;cases b with
  |true=>exact⟨Z,0,f rfl,j7 _,λ_=>rfl⟩
  |false=>obtain⟨a,cap,rfl⟩:=j rfl;exact⟨_,_,rfl,zQ _,λh=>by cases h⟩
 |ms _ _ _ _ _ _ _ _ _ _ _ _ m=>simp[mi]at hn;subst hn;obtain⟨a,c,rfl,_,h,q⟩:=m;exact⟨_,_,rfl,h,λe=>by subst e;cases c with|zero=>rfl|succ c=>simp at q⟩
 |_=>simp[mi]at hn
theorem tz{args:Array Operand}{s x:PV}(h:args.toList.map D=[s,x]):∃s' c,args=#[s',c]/\s=D s'/\x=D c:=by
 obtain⟨l⟩:=args
 match l,h with
 |[s',c],h=>simp at h;exact⟨s',c,rfl,h.1.symm,h.2.symm⟩
theorem DF{args:Array Operand}{s:PV}(h:args.toList.map D=[s]):∃s',args=#[s']/\s=D s':=by
 obtain⟨l⟩:=args
 match l,h with
 |[s'],h=>simp at h;exact⟨s',rfl,h.symm⟩
theorem CU{len cap l h m:Nat}{lo:Option Operand}{hi d:fO}(c:jc D 0 lo=O l)(e:rv (D hi)=O h)(f:rv (D d)=O m)(q:l<=h)(j:h<=m)(k:m<=cap)(M:Nai g H w a D):(Instr.sliceBounds J len cap (lo.map a.eval) (O (a.eval hi)) (O (a.eval d))).run P w=.ok (l,h,m) w:=by
 obtain⟨k1,n⟩:=kz (M hi) e;obtain⟨k2,p⟩:=kz (M d) f;unfold Instr.sliceBounds;cases lo with
 |none=>simp[jc]at c;subst c;simp[iR (P:=P) .slice3Acap p k w,iR (P:=P) .slice3B n j w]
 |some lo=>
  obtain⟨k3,r⟩:=kz (M lo) c;simp[iR (P:=P) .slice3Acap p k w,iR (P:=P) .slice3B n j w,iR (P:=P) .slice3C r q w]
theorem sq(f:Qu P g X (I H) H w)(hi:Inv X w0 S0 g w)(e:fN)(ad:Option Addr):
  ∃g',Good P X w0 S0 H g w (.ms (I H) 0 0 0 0) (H++[.mt e 0 []]) (.slice ad 0 0) g' w:=by
 have k:Lg (.slice ad 0 0):=by cases ad with|none=>exact .inl rfl|some a=>exact .inr (.inl ⟨a,rfl⟩)
 have l:Value.slice ad 0 0=iK (.slice ad 0 0) 0 0:=by cases ad with|none=>rfl|some a=>simp[iK,Addr.add]
 have V:gh (.slice ad 0 0)=Z:=by cases ad<;>simp[gh]
 have c:Ext (I H) g w (g.eE (I H) (.slice ad 0 0) 0) w:=.pt _ _ _ (j7 _);refine⟨_,c,by simp,.ms _ _ _ _ _ _ (.slice ad 0 0) 0 yB (by simp[Gh.eE]) (j7 _) (λ_=>⟨l,k⟩) ⟨ad,0,rfl,j7 _,j7 _,λh=>absurd h (zA _)⟩,?_,⟨hi.below,hi.size,hi.kk,hi.lt⟩,Fr.kk (j7 _) (λ_ _=>rfl) λi b h _=>?_⟩
 case refine_2=>
  rcases oL h with h|⟨_,h⟩
  .exact⟨i,iE (g:=g) h (λ_ _=>rfl) (λj m=>by simp only[Gh.eE];rw[ae y9])⟩
  .simp[Gh.eE,V]at h
 refine Qu.snoc (f.ey c yB (j7 _) (λ_ _ _=>rfl) (λ_ _ _ _ h=>h) (λt p=>by simp[Gh.eE];omega)) _ (λcs h=>by cases h) (λe' n h=>by cases h) (λi b h d=>?_) (λe' n cs h=>?_) (hmt0:=λ_ _ _=>⟨.slice ad 0 0,by simp[Gh.eE],V⟩)
 .rw[iO (e:=e) (n:=0) (cs:=[]) yB]at d;simp[Gh.eE,V]at d
 .cases h;refine⟨.slice ad 0 0,by simp[Gh.eE],.inl ⟨rfl,?_⟩⟩;cases ad with|none=>exact .inl rfl|some a=>exact .inr ⟨a,rfl⟩
theorem Fp{t e:fN}{x:fO}{lo:Option Operand}{hi k:fO}{n l h m:Nat}(p:o.op=.slice t x lo (O hi) (O k))(q:fV P t=O e)(c:(gq P e).isSome)(r:mi (D x)=O n)(d:jc D 0 lo=O l)(f:rv (D hi)=O h)(j:rv (D k)=O m)(s:l<=h)(u:h<=m)(z:m<=n)(M:Nai g H w a D):∃ad,gN P o a w (.slice ad (h - l) (m - l)) w/\(ad=Z->m - l=0):=by
 obtain⟨ad,cap,v,hc,hn⟩:=Fe (M x) r;obtain⟨size,c⟩:=aC.1 c;have y:=CU (P:=P) (len:=n) (cap:=cap) d f j s u y9 M
 exact⟨_,.inl (by simp[execOp,p,Instr.sliceAt,Instr.slice,run_underlying (Q0 q),v,y,iZ c];rfl),λe=>by
  have:ad=Z:=by split at e<;>first|exact e|exact(Option.map_eq_none_iff.1 e)
  have:=hn this;omega⟩
theorem EW{t e:fN}{x:fO}{lo hi:Option Operand}{tt gg K len cap:Nat}(L:o.op=.slice t x lo hi Z)(N:fV P t=O e)(d:gq P e=O 1\/((gq P e).isSome=J/\lo.isNone=J))(T:D x=.ms tt gg K len cap)(q:tj D lo hi tt gg K len cap=O p)(W:Qu P g X (I H) H w)(A:Inv X w0 S0 g w)(M:Nai g H w a D):
  Nah P o a X w0 S0 H g w p H:=by
 have B:=M x;rw[T]at B;generalize Q:a.eval x=v at B;unfold tj at q;split at q
 .rename_i l h f j;split at q
  .rename_i hc;obtain⟨r,Y⟩:=hc;cases B with
   |ms _ _ _ _ _ v v0 m k1 k2 k3 k4 k5=>
    obtain⟨ad,c,rfl,k6,k7,R⟩:=k5
    have C:(Instr.sliceBounds J len c (lo.map a.eval) (hi.map a.eval) Z).run P w=.ok (l,h,c) w:=by
     have n:h<=c:=by omega
     unfold Instr.sliceBounds;cases hi with
     |none=>
      cases lo with
      |none=>simp[jc]at f j;subst f j;simp
      |some lo=>
       obtain⟨k,E⟩:=kz (M lo) f;simp[jc]at j;subst j;simp[iR (P:=P) .sliceB E r w]
     |some hi=>
      obtain⟨k',s⟩:=kz (M hi) j;cases lo with
      |none=>simp[jc]at f;subst f;simp[iR (P:=P) .sliceAcap s n w]
      |some lo=>
       obtain⟨k,E⟩:=kz (M lo) f;simp[iR (P:=P) .sliceB E r w,iR (P:=P) .sliceAcap s n w]
    have u:gN P o a w (.slice (if c=l then ad else ad.map (·.add (l*1))) (h - l) (c - l)) w:=by
     rcases d with d|⟨d,z⟩
     .exact .inl (by simp[execOp,L,Instr.sliceAt,Instr.slice,run_underlying (Q0 N),Q,C,iZ d])
     .obtain⟨size,d⟩:=aC.1 d;cases lo with
      |some y=>cases z
      |none=>
       have F:l=0:=by simpa[jc]using f.symm
       subst F;simp only[dH]at C;exact .inl (by simp[execOp,L,Instr.sliceAt,Instr.slice,run_underlying (Q0 N),Q,C,iZ d])
    refine⟨_,g,w,u,.same W A ?_⟩;cases q;by_cases S:l=0\/l<h
    .rw[aj S]
     have G:(if c=l then ad else ad.map (·.add (l*1)))=ad.map (·.add l):=by
      split
      .rename_i e
       have:l=0:=by omega
       subst this;cases ad<;>simp[Addr.add]
      .simp
     rw[G];refine .ms _ _ _ _ _ _ v0 m k1 k2 k3 (λe'=>?_) ⟨_,_,rfl,by omega,by omega,λhl=>by simp;exact R y9⟩;obtain⟨q1,q2⟩:=k4 e';refine⟨?_,q2⟩;rcases q2 with rfl|⟨a0,rfl⟩|⟨b,l',cc,rfl⟩
     .simp[iK]at q1;obtain⟨rfl,rfl,rfl⟩:=q1;simp[iK];omega
     .simp[iK]at q1;obtain⟨rfl,rfl,rfl⟩:=q1
      have:l=0/\h=0:=by omega
      obtain⟨rfl,rfl⟩:=this;simp[iK,Addr.add]
     .simp[iK]at q1;obtain⟨rfl,rfl⟩:=q1;simp[iK,jm];omega
    .rw[ae S]
     have:h - l=0:=by omega
     rw[this];refine .b7 _ _ ?_;have hc:0<c:=by omega
     obtain⟨a0,rfl⟩:=aC.1 (R hc);split <;>exact .empty _ _
  .cases q
 .cases q
theorem MV{tt te gg lo b Y d:Nat}{cs es:List PV}{news:List Value}{cur:Array Value}{v0:fP}(F:H[tt]?=O (.mt te gg cs))(f:g.own tt=O (v0,gg))(L:v0=.slice (O ⟨b,0,Z⟩) Y d)(q0:0<d)(q1:X<=b)(q2:w.heap[b]?=O (.cells cur te (0,0)))(q3:∃size,gq P te=O size/\0<size/\cur.size=d*size)(q4:I cs<=cur.size/\cs.all PV.flat=J)(q5:d<=maxLen)(q6:d<=cur.size)(q7:∀o,¬g.S b o)(q8:∀(j:Nat) v c,cur[j]?=O v->cs[j]?=O c->fW g (I H) w v c)(hlen:I news=I es)(M:es.all PV.flat=J)(s:lo+I es<=I cs)(B:∀(j:Nat) u c,news[j]?=O u->es[j]?=O c->fW g (I H) w u c)(G:Qu P g X (I H) H w)(hi:Inv X w0 S0 g w){v:fP}{p:PV}(hv:fW g (I H) w v p):
  Good P X w0 S0 H g w p (H.set tt (.mt te gg (cs.take lo++es++cs.drop (lo+I es)))) v g (w.setRow b (cur.toList.take lo++news++cur.toList.drop (lo+I news)).toArray):=by
 subst L;have t:tt<I H:=(af.1 F).1;have k:e8 g H tt=O b:=by rw[iO F,f];simp[gh];omega
 have C:lo+I news<=I cur.toList:=by simp;omega
 generalize m:(cur.toList.take lo++news++cur.toList.drop (lo+I news))=new
 have D:∀q,new[q]?=if q<lo then cur[q]? else if q<lo+I news then news[q - lo]? else cur[q]?:=λq=>by rw[<-m,iP _ _ _ C];simp
 have l:∀q,(cs.take lo++es++cs.drop (lo+I es))[q]?=if q<lo then cs[q]? else if q<lo+I es then es[q - lo]? else cs[q]?:=λq=>iP _ _ _ s q
 have N:I (cs.take lo++es++cs.drop (lo+I es))=I cs:=by simp;omega
 have E:(cs.take lo++es++cs.drop (lo+I es)).all PV.flat=J:=by rw[zR,zR,AH q4.2,M,IG q4.2];rfl
 generalize (cs.take lo++es++cs.drop (lo+I es))=x at l N E;have y:(w.setRow b new.toArray).heap[b]?=O (.cells new.toArray te (0,0)):=setRow_heap w _ _ _ _ _ q2
 have K:Ext (I H) g w g (w.setRow b new.toArray):=⟨λ_ _ h=>h,λb Q R=>cell_setRow_other w _ _ _ (λe=>by simp only at e;subst e;exact q7 Q R),λ_ _ h=>⟨rfl,h⟩,λ_ _ v n h=>⟨v,n,h,j7 _,λ_=>rfl⟩⟩
 refine⟨K,by simp,hv.ext K yB,?_,⟨?_,by simp;exact hi.size,hi.kk,λb Q R=>by simp;exact hi.lt b Q R⟩,⟨by simp,λb _ hn=>setRow_other w _ _ _ (λe=>hn tt (by rw[k,e])),λi b T _=>?_,λb o h=>.inl h⟩⟩
 .refine G.nb K yB (j7 _) _ t (λi b z A=>setRow_other w _ _ _ (λe=>z (G.sep i tt b A (by rw[k,e]))))
   (λ_ _ _ _ _ h=>h) (λ_ _ _=>rfl) (λx hc=>by cases hc) (λ_ _ h=>by cases h) (λi b z A h=>?_) (λe' n' x hc=>?_) (hmt0:=λ_ _ hc=>by cases hc;exact G.xb _ _ _ F)
  .rw[iO (e:=te) (n:=gg) (cs:=x) (by simp[t]),f]at h;simp[gh]at h;obtain⟨_,rfl⟩:=h;exact z (G.sep i _ _ A k)
  .cases hc;have W:new.toArray.size=cur.size:=by rw[<-m];simp;simp at C;omega
   refine⟨_,f,.inr (.inl ⟨b,Y,d,new.toArray,rfl,q0,q1,y,by rw[W];exact q3,⟨by omega,E⟩,q5,by omega,q7,λq u c g1 r=>?_⟩)⟩;simp only[bb]at g1;rw[D]at g1;rw[l]at r
   have:fW g (I H) w u c:=by
    by_cases c1:q<lo
    .rw[aj c1]at g1 r;exact q8 q u c g1 r
    .rw[ae c1]at g1 r;by_cases c2:q<lo+I es
     .rw[aj y9]at g1;rw[aj c2]at r;exact B _ u c g1 r
     .rw[ae y9]at g1;rw[ae c2]at r;exact q8 q u c g1 r
   exact this.ext K yB
 .exact below_setRow hi.below q1 _
 .rcases na t T with⟨_,h⟩|⟨rfl,h⟩
  .exact⟨i,h⟩
  .exact⟨i,by rw[iO F];exact h⟩
theorem CX{tt te gg b l0 d size L:Nat}{cs es:List PV}{news:List Value}{cur:Array Value}{v0:fP}(Y:H[tt]?=O (.mt te gg cs))(r:g.own tt=O (v0,gg))(F:v0=.slice (O ⟨b,0,Z⟩) l0 d)(q0:0<d)(q1:X<=b)(q2:w.heap[b]?=O (.cells cur te (0,0)))(q3:gq P te=O size)(B:0<size)(hL:L*size=I cs+I es)(q4:cs.all PV.flat=J)(q5:d<=maxLen)(q6:cur.size=d*size)(q7:∀o,¬g.S b o)(q8:∀(j:Nat) v c,cur[j]?=O v->cs[j]?=O c->fW g (I H) w v c)(hlen:I news=I es)(G:es.all PV.flat=J)(f:L<=d)(C:∀(j:Nat) u c,news[j]?=O u->es[j]?=O c->fW g (I H) w u c)(K:Qu P g X (I H) H w)(hi:Inv X w0 S0 g w):
  ∃g',Good P X w0 S0 H g w (.ms tt (gg+1) 0 L L) (H.set tt (.mt te (gg+1) (cs++es))) (.slice (O ⟨b,0,Z⟩) L d) g' (w.setRow b (cur.toList.take (I cs)++news++cur.toList.drop (I cs+I news)).toArray):=by
 subst F;have m:tt<I H:=(af.1 Y).1;have l:e8 g H tt=O b:=by rw[iO Y,r];simp[gh];omega
 have hLc:L*size<=d*size:=au _ f;have D:I cs+I news<=I cur.toList:=by simp;omega
 generalize s:(cur.toList.take (I cs)++news++cur.toList.drop (I cs+I news))=new
 have E:∀q,new[q]?=if q<I cs then cur[q]? else if q<I cs+I news then news[q - I cs]? else cur[q]?:=λq=>by rw[<-s,iP _ _ _ D];simp
 have t:(w.setRow b new.toArray).heap[b]?=O (.cells new.toArray te (0,0)):=setRow_heap w _ _ _ _ _ q2
 let x:Value:=.slice (O ⟨b,0,Z⟩) L d
 let g1:=g.eE tt x (gg+1)
 have M:Ext (I H) g w g1 (w.setRow b new.toArray):=⟨λ_ _ h=>h,λb N Q=>cell_setRow_other w _ _ _ (λe=>by
  simp only at e;subst e;exact q7 N Q),λ_ _ h=>⟨rfl,h⟩,λt' _ v n h=>by
   by_cases e':t'=tt
   .subst e';rw[r]at h;cases h;exact⟨x,gg+1,by simp[g1,Gh.eE],by omega,λe=>by omega⟩
   .exact⟨v,n,by simp only[g1,Gh.eE];rw[ae e'];exact h,j7 _,λ_=>rfl⟩⟩
 refine⟨g1,M,by simp,.ms _ _ _ _ _ _ x (gg+1) (by simpa using m) (by simp[g1,Gh.eE]) (j7 _) (λ_=>⟨by simp[x,iK,Addr.add],.inr (.inr ⟨b,_,_,rfl⟩)⟩) ⟨_,_,rfl,f,f,λ_=>rfl⟩,?_,⟨?_,by simp;exact hi.size,hi.kk,λb N Q=>by simp;exact hi.lt b N Q⟩,⟨by simp,λb _ hn=>setRow_other w _ _ _ (λe=>hn tt (by rw[l,e])),λi b' R _=>?_,λb o h=>.inl h⟩⟩
 .refine K.nb M yB (j7 _) _ m (λi b y z=>setRow_other w _ _ _ (λe=>y (K.sep i tt b z (by rw[l,e]))))
   (λ_ _ _ _ _ h=>h) (λt' _ p=>by simp only[g1,Gh.eE];rw[ae p]) (λT hc=>by cases hc) (λ_ _ h=>by cases h) (λi b' y z h=>?_) (λe' n' T hc=>?_)
  .rw[iO (e:=te) (n:=gg+1) (cs:=cs++es) (by simp[m])]at h;simp[g1,Gh.eE,x,gh]at h;obtain⟨_,rfl⟩:=h;exact y (K.sep i _ _ z l)
  .cases hc;have W:new.toArray.size=cur.size:=by rw[<-s];simp;simp at D;omega
   have hcc:d<=d*size:=aQ _ B;refine⟨x,by simp[g1,Gh.eE],.inr (.inl ⟨b,_,d,new.toArray,rfl,q0,q1,t,⟨size,q3,B,by omega⟩,⟨by rw[W];simp;omega,by rw[zR,q4,G];rfl⟩,q5,by omega,q7,λq u c k A=>?_⟩)⟩;simp only[bb]at k;rw[E]at k;rw[jT]at A
   have:fW g (I H) w u c:=by
    by_cases c1:q<I cs
    .rw[aj c1]at k A;exact q8 q u c k A
    .rw[ae c1]at k A;have c2:q - I cs<I es:=(af.1 A).1;rw[aj y9]at k;exact C _ u c k A
   exact this.ext M yB
 .exact below_setRow hi.below q1 _
 .rcases na m R with⟨p,h⟩|⟨rfl,h⟩
  .refine⟨i,?_⟩;unfold e8 at h |-;split at h
   .exact h
   .simp only[g1,Gh.eE]at h;rw[ae p]at h;exact h
   .simp only[g1,Gh.eE]at h;rw[ae p]at h;exact h
   .exact h
   .cases h
   .cases h
  .refine⟨i,?_⟩;simp[g1,Gh.eE,x,gh]at h;obtain⟨_,rfl⟩:=h;exact l
theorem OX{tt te gg b p d:Nat}{cs es:List PV}{news:List Value}{cur:Array Value}{v0:fP}(q:H[tt]?=O (.mt te gg cs))(f:g.own tt=O (v0,gg))(m:v0=.slice (O ⟨b,0,Z⟩) p d)(q0:0<d)(q1:X<=b)(q2:w.heap[b]?=O (.cells cur te (0,0)))(q3:gq P te=O 1)(q4:cs.all PV.flat=J)(q5:d<=maxLen)(q6:cur.size=d)(q7:∀o,¬g.S b o)(r:∀(j:Nat) v c,cur[j]?=O v->cs[j]?=O c->fW g (I H) w v c)(k:I news=I es)(n:es.all PV.flat=J)(e:I cs+I es<=d)(l:∀(j:Nat) u c,news[j]?=O u->es[j]?=O c->fW g (I H) w u c)(s:Qu P g X (I H) H w)(hi:Inv X w0 S0 g w):
  ∃g',Good P X w0 S0 H g w (.ms tt (gg+1) 0 (I cs+I es) (I cs+I es)) (H.set tt (.mt te (gg+1) (cs++es))) (.slice (O ⟨b,0,Z⟩) (I cs+I es) d) g' (w.setRow b (cur.toList.take (I cs)++news++cur.toList.drop (I cs+I news)).toArray):=
 CX q f m q0 q1 q2 q3 yD (aW _) q4 q5 y9 q7 r k n e l s hi
theorem wj{tt te gg cap size L:Nat}{cs es:List PV}{olds news:List Value}{zs:Array Value}{v0:fP}(s:H[tt]?=O (.mt te gg cs))(A:g.own tt=O (v0,gg))(q3:gq P te=O size)(B:0<size)(hL:L*size=I cs+I es)(q4:L<=cap)(M:cs.all PV.flat=J)(N:es.all PV.flat=J)(q5:cap<=maxLen)(e7:0<I es)(l:I olds=I cs)(C:I news=I es)(hz:zs.size=cap*size - (I cs+I es))(D:∀(j:Nat) u c,olds[j]?=O u->cs[j]?=O c->fW g (I H) w u c)(E:∀(j:Nat) u c,news[j]?=O u->es[j]?=O c->fW g (I H) w u c)(K:Qu P g X (I H) H w)(hi:Inv X w0 S0 g w)(vals:Array Value)(d:vals=olds.toArray++news.toArray++zs):
  ∃g',Good P X w0 S0 H g w (.ms tt (gg+1) 0 L L) (H.set tt (.mt te (gg+1) (cs++es))) (.slice (O ⟨w.heap.size,0,Z⟩) L cap) g' (w.drew.alloc (.cells vals te)):=by
 have m:tt<I H:=(af.1 s).1;have F:Inv X w0 S0 g w.drew:=⟨hi.below.drew,hi.size,hi.kk,hi.lt⟩;have W:Ext (I H) g w g w.drew:=⟨λ_ _ h=>h,λ_ _ _=>rfl,λ_ _ h=>⟨rfl,h⟩,λ_ _ v n h=>⟨v,n,h,j7 _,λ_=>rfl⟩⟩;have hHD:Qu P g X (I H) H w.drew:=K.ey W (j7 _) (j7 _) (λ_ _ _=>rfl) (λ_ _ _ _ h=>h) (λ_ _=>rfl)
 let t:Value:=.slice (O ⟨w.heap.size,0,Z⟩) L cap
 let k:=g.eE tt t (gg+1)
 let z:=w.drew.alloc (.cells vals te)
 have k1:Ext (I H) g w.drew g z:=Ext.alloc F (I H) _;have p:Inv X w0 S0 g z:=F.alloc _;have x:z.heap[w.heap.size]?=O (.cells vals te (0,0)):=heap_alloc_new w.drew _
 have e2:Ext (I H) g z k z:=⟨λ_ _ h=>h,λ_ _ _=>rfl,λ_ _ h=>⟨rfl,h⟩,λY ht' v n' h=>by
  by_cases e':Y=tt
  .subst e';rw[A]at h;cases h;exact⟨t,gg+1,by simp[k,Gh.eE],by omega,λe=>by omega⟩
  .exact⟨v,n',by simp only[k,Gh.eE];rw[ae e'];exact h,j7 _,λ_=>rfl⟩⟩
 have Q:Ext (I H) g w k z:=(W.trans k1 (j7 _)).trans e2 (j7 _);have R:L*size<=cap*size:=au _ q4;have hcc:cap<=cap*size:=aQ _ B
 have y:0<cap:=by
  cases cap with
  |zero=>simp at R;omega
  |succ n=>omega
 have G:vals.size=cap*size:=by rw[d];simp only[eB,cb,l,C,hz];omega
 refine⟨k,Q,by simp,.ms _ _ _ _ _ _ t (gg+1) (by simpa using m) (by simp[k,Gh.eE]) (j7 _) (λ_=>⟨by simp[t,iK,Addr.add],.inr (.inr ⟨_,_,_,rfl⟩)⟩) ⟨_,_,rfl,q4,q4,λ_=>rfl⟩,?_,⟨p.below,p.size,p.kk,p.lt⟩,Fr.kk yB (λb s=>Below.heap_alloc w.drew _ b s) (λi b h S=>?_)⟩
 case refine_2=>
  rcases na m h with⟨r,h⟩|⟨rfl,h⟩
  .refine⟨i,?_⟩;unfold e8 at h |-;split at h
   .exact h
   .simp only[k,Gh.eE]at h;rw[ae r]at h;exact h
   .simp only[k,Gh.eE]at h;rw[ae r]at h;exact h
   .exact h
   .cases h
   .cases h
  .simp[k,Gh.eE,t,gh]at h;obtain⟨_,rfl⟩:=h;exact absurd S (zA _)
 refine K.nb Q yB (j7 _) _ m (λi b _ s=>Below.heap_alloc w.drew _ b (K.eM s).2.1) (λi b _ s o T=>T) (λY _ r=>by simp only[k,Gh.eE];rw[ae r]) (λ_ h=>by cases h) (λ_ _ h=>by cases h) (λi b hik s h=>?_) (λe' n' cs' hc=>?_)
 .rw[iO (e:=te) (n:=gg+1) (cs:=cs++es) (by simp[m])]at h;simp[k,Gh.eE,t,gh]at h;obtain⟨_,rfl⟩:=h;exact zA _ (K.eM s).2.1
 .cases hc;refine⟨t,by simp[k,Gh.eE],.inr (.inl ⟨w.heap.size,_,cap,vals,rfl,y,hi.size,x,⟨size,q3,B,G⟩,⟨by rw[G];simp;omega,by rw[zR,M,N];rfl⟩,q5,by omega,λo T=>zA _ (hi.lt _ _ T),λq u c g1 f=>?_⟩)⟩;rw[jT]at f
  have:fW g (I H) w u c:=by
   by_cases c1:q<I cs
   .rw[aj c1]at f;refine D q u c ?_ f;rw[d,aL,aj yA,aL,aj yA]at g1
    simpa using g1
   .rw[ae c1]at f;have c2:q - I cs<I es:=(af.1 f).1;refine E _ u c ?_ f;rw[d,aL,aj yA,aL,ae yA]at g1
    simpa[l]using g1
  exact this.ext Q yB
theorem Fa{tt te gg cap:Nat}{cs es:List PV}{olds news:List Value}{zs:Array Value}{v0:fP}(q:H[tt]?=O (.mt te gg cs))(f:g.own tt=O (v0,gg))(q3:gq P te=O 1)(q4:I cs+I es<=cap)(n:cs.all PV.flat=J)(p:es.all PV.flat=J)(q5:cap<=maxLen)(e7:0<I es)(d:I olds=I cs)(k:I news=I es)(s:zs.size=cap - (I cs+I es))(l:∀(j:Nat) u c,olds[j]?=O u->cs[j]?=O c->fW g (I H) w u c)(m:∀(j:Nat) u c,news[j]?=O u->es[j]?=O c->fW g (I H) w u c)(r:Qu P g X (I H) H w)(hi:Inv X w0 S0 g w)(vals:Array Value)(e:vals=olds.toArray++news.toArray++zs):
  ∃g',Good P X w0 S0 H g w (.ms tt (gg+1) 0 (I cs+I es) (I cs+I es)) (H.set tt (.mt te (gg+1) (cs++es))) (.slice (O ⟨w.heap.size,0,Z⟩) (I cs+I es) cap) g' (w.drew.alloc (.cells vals te)):=
 wj q f q3 yD (aW _) q4 n p q5 e7 d k y9 l m r hi vals e
structure PH (g:Gh) (N:Nat) (w:fK) (v:fP) (es:List PV) (news:List Value):Prop where
 shape:(v=.slice Z 0 0/\es=[])\/∃ad c,v=.slice (O ad) (I es) c/\∀(j:Nat) u,news[j]?=O u->w.cell? (ad.add j)=O u
 len:I news=I es
 rep:∀(j:Nat) u c,news[j]?=O u->es[j]?=O c->fW g N w u c
theorem qN{d:fS}(h:d.ez=J):d.cells=[d]:=by cases d<;>simp_all [fS.cells,fS.ez]
theorem yy{ds:List fS}(h:ds.all fS.ez=J):ds.all (fS.fits 1)=J:=by rw[j8]at h |-;intro d e;have c:=h d e;simp[fS.fits,qN c,c,fS.im]
theorem O3{N:Nat}{v:fP}{ds:List fS}{news:List Value}(h:Src w g.S v ds 1 news)(l:ds.all fS.ez=J):PH g N w v (ds.map .b7) news:=by
 refine⟨?_,by simp[h.len],λj u c m e=>?_⟩
 .rcases h.shape with⟨f,k⟩|⟨ad,c,f,k⟩
  .exact .inl ⟨f,by rw[k];rfl⟩
  .exact .inr ⟨ad,c,by simpa using f,k⟩
 .rw[jD,j5]at e;obtain⟨d,e,rfl⟩:=e;have hc:=an.1 l d (jF e);have:=h.rep j 0 d d e (by rw[qN hc];rfl);simp only[aW,zY,jB,m,aE]at this;exact .b7 _ _ this
theorem IA{N:Nat}{v:fP}{p:PV}{es:List PV}(x:Qu P g X N H w)(h:fW g N w v p)(d:kC H p=O es)(l:es.all PV.cell=J):∃news,PH g N w v es news:=by
 unfold kC at d;split at d
 .rename_i t gg lo len cp;split at d
  .rename_i te g' cs V;split at d
   .rename_i e;subst e;have A:=ZO V;obtain⟨c1,c2,y⟩:=lq d;cases h with
    |ms _ _ _ _ _ v v0 m M B Q C D=>
     obtain⟨R,k1,k2⟩:=x.mt t _ _ _ A;rw[B]at k1;simp only[j9,jI]at k1;obtain⟨rfl,rfl⟩:=k1;obtain⟨q,_⟩:=C rfl;rcases k2 with⟨f,s⟩|⟨b',S,n,cur,rfl,q0,q1,q2,q3,q4,q5,q6,q7,E⟩|k
     rotate_right
     .have:es=[]:=by
       cases es with
       |nil=>rfl
       |cons c es=>
        have h0:0<len:=by rw[<-c1];simp
        have:=y 0 h0;exact absurd (by rw[<-this];simp[qk (an.1 l c yB)]) (k.px (lo+0))
      subst this;obtain rfl:len=0:=by simpa using c1.symm
      obtain⟨a,c,rfl,_,_,_⟩:=D;cases a with
      |none=>exact⟨[],.inl ⟨by obtain⟨b,n',cap,cur,size,ds,rfl,_⟩:=k;simp[iK]at q,rfl⟩,rfl,λj u c h=>by simp at h⟩
      |some a=>exact⟨[],.inr ⟨a,c,rfl,λj u h=>by simp at h⟩,rfl,λj u c h=>by simp at h⟩
     .simp only at f;subst f
      have:lo=0/\len=0:=by simp at c2;omega
      obtain⟨rfl,rfl⟩:=this;have F:es=[]:=aw y9;subst F;refine⟨[],?_,rfl,λj u c h=>by simp at h⟩;rcases s with rfl|⟨a,rfl⟩
      .exact .inl ⟨q,rfl⟩
      .exact .inr ⟨a.add 0,0,by rw[q];rfl,λj u h=>by simp at h⟩
     .refine⟨(cur.toList.drop lo).take len,.inr ⟨⟨b',lo,Z⟩,n - lo,by rw[q];simp[iK,jm,c1],λj u r=>?_⟩,by simp only at q4 c2;simp;omega,λj u c g1 z=>?_⟩
      .rw[jR]at r;split at r
       .rw[jm,cell_of_row w _ _ cur _ (0,0) q2];simpa using r
       .cases r
      .rw[jR]at g1;split at g1
       .rename_i G;rw[y j G]at z;exact E (lo+j) u c (by simpa using g1) z
       .cases g1
   .cases d
  .cases d
 .split at d
  .rename_i ds K;split at d
   .rename_i hc;cases d;obtain⟨news,L⟩:=FE (P:=P) (size:=1) x h K (yy hc);exact⟨news,O3 L hc⟩
   .cases d
  .cases d
theorem PH.one{N:Nat}{v:fP}{es:List PV}{news:List Value}(h:PH g N w v es news)(hc:es.all PV.cell=J):∀u∈news,u.oneCell'=J:=λu d=>by
 obtain⟨j,c⟩:=aT d;have hl:j<I es:=by rw[<-h.len];exact(af.1 c).1
 exact lZ (h.rep j u _ c (jC hl)) (an.1 hc _ (zD hl))
theorem vZ{e size tt gg len cap:Nat}{x s:fO}{ts:fN}(u:o.op=.call {callee:=.builtin .append,args:=#[s,x],argTypes:=#[ts,ts]})(f:fV P ts=O e)(y:gq P e=O size)(j:D s=.ms tt gg 0 len cap)(k:kC H (D x)=O [])(t:Qu P g X (I H) H w)(hi:Inv X w0 S0 g w)(M:Nai g H w a D):
  Nah P o a X w0 S0 H g w (.ms tt gg 0 len cap) H:=by
 obtain⟨news,l⟩:=IA (P:=P) t (M x) k rfl;have d:=M s;rw[j]at d;generalize n:a.eval s=vs at d
 have p:∀v w',(Builtin.append_ #[ts,ts] o.type #[vs,a.eval x]).run P w=.ok v w'->gN P o a w v w':=λv w' z=>by left;simp[execOp,u,resolve,invoke,builtin,n,z]
 obtain⟨ad,c,q⟩:∃ad c,a.eval x=.slice ad 0 c:=by
  rcases l.shape with⟨h,_⟩|⟨ad,c,h,_⟩
  .exact⟨Z,0,h⟩
  .exact⟨O ad,c,h⟩
 refine⟨vs,g,w,?_,.same t hi d⟩;cases d with
 |ms _ _ _ _ _ v v0 m k1 k2 k3 E A=>
  obtain⟨r,B,rfl,F,C,G⟩:=A;refine p _ _ ?_;rw[q];exact nF f y r ad _ B c C
theorem ue{e bytes tt gg lo len cap:Nat}{x s:fO}{ts:fN}{es:List PV}(ho:o.op=.call {callee:=.builtin .append,args:=#[s,x],argTypes:=#[ts,ts]})(L:fV P ts=O e)(hs:gq P e=O 1)(hb:bytesOf P e=O bytes)(hz:(gB P e).map fS.num=O 1)(h0b:0<bytes)(hsv:D s=.ms tt gg lo len cap)(hxv:kC H (D x)=O es)(f:ly H e bytes tt gg lo len cap es=O (p,H'))(hH:Qu P g X (I H) H w)(hi:Inv X w0 S0 g w)(M:Nai g H w a D):
  Nah P o a X w0 S0 H g w p H':=by
 simp only[j5]at hz;obtain⟨z,hz,hzn⟩:=hz;obtain⟨ie,zv,i1,i2,i3,_⟩:=iS hz;have r:ie.size=1:=by simp only[gq,i1,jN,j9]at hs;exact hs
 have hby:ie.bytes=bytes:=by simp only[bytesOf,i1,jN,j9]at hb;exact hb
 have hzs:zv.cells.size=1:=by rw[(i3 w g.S).cells.1,<-fS.im,hzn]
 have F:es.all PV.cell=J:=by
  unfold ly at f;split at f
  .rename_i hc;exact hc.1
  .cases f
 have k:=nk F;obtain⟨news,A⟩:=IA (P:=P) hH (M x) hxv F;have l:=M s;rw[hsv]at l;generalize hvs:a.eval s=vs at l
 have N:∀v w',(Builtin.append_ #[ts,ts] o.type #[vs,a.eval x]).run P w=.ok v w'->gN P o a w v w':=λv w' G=>by left;simp[execOp,ho,resolve,invoke,builtin,hvs,G]
 unfold ly at f;split at f
 case isFalse=>cases f
 rename_i hc;obtain⟨hcell,rfl⟩:=hc;have hone:=A.one hcell;split at f
 ·-- nothing is appended
  rename_i Q
  have:es=[]:=by simpa using Q
  subst this;cases f
  obtain⟨ad,c,B⟩:∃ad c,a.eval x=.slice ad 0 c:=by
   rcases A.shape with⟨h,_⟩|⟨ad,c,h,_⟩
   .exact⟨Z,0,h⟩
   .exact⟨O ad,c,h⟩
  refine⟨vs,g,w,?_,.same hH hi l⟩;cases l with
  |ms _ _ _ _ _ v v0 m k1 k2 k3 k4 k5=>
   obtain⟨ad',c',rfl,k6,k7,k8⟩:=k5;refine N _ _ ?_;rw[B];exact nF L hs ad' ad _ c' c k7
 rename_i Q;have e7:0<I es:=by cases es with|nil=>simp at Q|cons=>simp
 obtain⟨ad,c,B,n⟩:∃ad c,a.eval x=.slice (O ad) (I es) c/\∀(j:Nat) u,news[j]?=O u->w.cell? (ad.add j)=O u:=by
  rcases A.shape with⟨_,h⟩|⟨ad,c,h,h'⟩
  .subst h;exact absurd e7 yB
  .exact⟨ad,c,h,h'⟩
 have t:=A.len;split at f
 case h_2=>cases f
 rename_i te g' cs V;split at f
 case isFalse=>cases f
 rename_i hc;obtain⟨rfl,rfl⟩:=hc;have C:=ZO V;simp only at C;cases l with
 |ms _ _ _ _ _ v v0 m k1 k2 k3 k4 k5=>
  obtain⟨v1,j1,j2⟩:=hH.mt tt _ _ _ C;have y:=k2;rw[k2]at j1;simp only[j9,jI]at j1;obtain⟨rfl,rfl⟩:=j1;obtain⟨hv,hbase⟩:=k4 rfl;split at f
  ·-- within the list
   rename_i hfit;cases f;rcases j2 with⟨R,_⟩|⟨b,l',d,cur,rfl,q0,q1,q2,q3,q4,q5,q6,q7,q8⟩|T
   rotate_right
   .exact absurd hs T.xc
   .simp only[R,jL]at hfit;omega
   .have q3':=q3;have q4':=q4;have q6':=q6;obtain⟨q3,q4,q6⟩:=Hu q3 hs q4;have E:vs=.slice (O ⟨b,0,Z⟩) len d:=by rw[hv];simp[iK,Addr.add]
    have G:=run_append_room (P:=P) w ts o.type te ie (Q0 L) i1 b len d cur q2 ad (I es) c news (by rw[r,aW];exact t) n hone y9 (by rw[r];omega);rw[r,aW]at G
    have W:=MV (P:=P) (S0:=S0) (w0:=w0) (lo:=len) C y rfl q0 q1 q2 q3' q4' q5 q6' q7 q8 t k hfit A.rep hH hi
     (v:=.slice (O ⟨b,0,Z⟩) (len+I es) d) (p:=.ms tt m 0 (len+I es) (max cap (len+I es))) (.ms _ _ _ _ _ _ _ m k1 y (j7 _) (λ_=>⟨by simp[iK,Addr.add],hbase⟩) ⟨_,d,rfl,by obtain⟨a',c',e1,e2,_⟩:=k5;rw[E]at e1;cases e1;omega,by omega,λ_=>rfl⟩)
    exact⟨_,g,_,N _ _ (by rw[B,E];exact G),W⟩
  .rename_i hnfit;split at f
   case isFalse=>cases f
   rename_i hc;obtain⟨rfl,q⟩:=hc;cases f;have hlb:I cs+I es<=jd:=jX (aQ _ h0b) q;have K:I cs+I es<=maxLen:=by simp only[jd]at hlb;simp only[maxLen];omega
   have h63:((I cs+I es:Nat):Int)<=9223372036854775807:=by simp only[jd]at hlb;omega
   rcases j2 with⟨R,hv0⟩|⟨b,l',d,cur,rfl,q0,q1,q2,q3,q4,q5,q6,q7,q8⟩|T
   rotate_right
   .exact absurd hs T.xc
   .subst R;simp only[jL,zZ]at q hlb K h63 hv |-;rcases hv0 with rfl|⟨a0,rfl⟩
    .have G:=run_append_nil (P:=P) w ts o.type te ie zv (Q0 L) i1 i2 ad (I es) c news (by rw[r,aW];exact t) n e7 h63 (by rw[hby];simp only[jd]at q;omega);have Y:=grownCap_ge w (I es) 0 te;have hcm:=grownCap_le_maxLen w (I es) 0 te K
     obtain⟨g',W⟩:=Fa (P:=P) (S0:=S0) (w0:=w0) (olds:=[]) (zs:=Builtin.zeroCells zv.cells (grownCap w (I es) 0 te - I es)) (cap:=grownCap w (I es) 0 te) C y hs (by simpa using Y) rfl k hcm e7 rfl t
      (by simp[size_zeroCells,hzs]) (λj u c h=>by simp at h) A.rep hH hi (news.toArray++Builtin.zeroCells zv.cells (grownCap w (I es) 0 te - I es)) yB
     simp only[jL,zZ]at W;exact⟨_,g',_,N _ _ (by rw[B,hv];exact G),W⟩
    .have E:vs=.slice (O (a0.add 0)) 0 0:=by rw[hv];simp[iK]
     have G:=run_append_grow (P:=P) w ts o.type te ie zv (Q0 L) i1 i2 (a0.add 0) 0 0 [] yB (λj v h=>by simp at h) ad (I es) c news (by rw[r,aW];exact t) n y9 (by simpa using h63) (growslice_fits y9 (by rw[hby];simpa[jd]using q));have Y:=grownCap_ge w (0+I es) 0 te;have hcm:=grownCap_le_maxLen w (0+I es) 0 te (by simpa using K)
     obtain⟨g',W⟩:=Fa (P:=P) (S0:=S0) (w0:=w0) (olds:=[]) (zs:=Builtin.zeroCells zv.cells (grownCap w (0+I es) 0 te - (0+I es))) (cap:=grownCap w (0+I es) 0 te) C y hs (by simpa using Y) rfl k hcm e7 rfl t
      (by simp[size_zeroCells,hzs]) (λj u c h=>by simp at h) A.rep hH hi _ rfl
     simp only[jL,zZ]at W G;exact⟨_,g',_,N _ _ (by rw[B,E];exact G),W⟩
   .obtain⟨q3,q4,q6⟩:=Hu q3 hs q4;have E:vs=.slice (O ⟨b,0,Z⟩) (I cs) d:=by rw[hv];simp[iK,Addr.add]
    by_cases hcap:I cs+I es<=d
    .have G:=run_append_room (P:=P) w ts o.type te ie (Q0 L) i1 b (I cs) d cur q2 ad (I es) c news (by rw[r,aW];exact t) n hone hcap (by rw[r];omega);rw[r,aW]at G;obtain⟨g',W⟩:=OX (P:=P) (S0:=S0) (w0:=w0) C y rfl q0 q1 q2 q3 q4.2 q5 q6 q7 q8 t k hcap A.rep hH hi;exact⟨_,g',_,N _ _ (by rw[B,E];exact G),W⟩
    .have holds:∀(j:Nat) v,(cur.toList.take (I cs))[j]?=O v->w.cell? ((⟨b,0,Z⟩:Addr).add j)=O v:=λj v h=>by
      rw[jR]at h;split at h
      .rw[jm,cell_of_row w _ _ cur _ (0,0) q2];simpa using h
      .cases h
     have G:=run_append_grow (P:=P) w ts o.type te ie zv (Q0 L) i1 i2 ⟨b,0,Z⟩ (I cs) d (cur.toList.take (I cs)) (by rw[r];simp;omega) holds ad (I es) c news (by rw[r,aW];exact t) n y9 h63 (growslice_fits y9 (by rw[hby];exact q));have Y:=grownCap_ge w (I cs+I es) d te;have hcm:=grownCap_le_maxLen w (I cs+I es) d te K
     obtain⟨g',W⟩:=Fa (P:=P) (S0:=S0) (w0:=w0) (olds:=cur.toList.take (I cs)) (zs:=Builtin.zeroCells zv.cells (grownCap w (I cs+I es) d te - (I cs+I es))) (cap:=grownCap w (I cs+I es) d te) C y hs Y q4.2 k hcm e7 yA t
      (by simp[size_zeroCells,hzs]) (λj u c g1 g2=>by
       rw[jR]at g1;split at g1
       .exact q8 j u c (by simpa using g1) g2
       .cases g1) A.rep hH hi _ rfl
     exact⟨_,g',_,N _ _ (by rw[B,E];exact G),W⟩
theorem zp{e bytes i off:Nat}{x s:fO}{ts:fN}{es:List fS}(K:o.op=.call {callee:=.builtin .append,args:=#[s,x],argTypes:=#[ts,ts]})(C:fV P ts=O e)(L:gq P e=O 1)(N:bytesOf P e=O bytes)(l:(gB P e).map fS.num=O 1)(E:0<bytes)(m:D s=.arr i off 0 0)(n:D x=.b7 (.ew es))(f:ve H e bytes es=O (p,H'))(Q:Qu P g X (I H) H w)(hi:Inv X w0 S0 g w)(M:Nai g H w a D):
  Nah P o a X w0 S0 H g w p H':=by
 unfold ve at f;split at f
 case isFalse=>cases f
 rename_i hc;obtain⟨c,q⟩:=hc;have r:=M s;rw[m]at r;generalize F:a.eval s=vs at r;cases r with
 |arr _ _ _ _ R S=>
  obtain⟨g1,k⟩:=sq (P:=P) (S0:=S0) (w0:=w0) Q hi e (O ⟨g.fg i,off,Z⟩);have T:∀z,z=s->D z=.arr i off 0 0:=λz l=>by rw[l];exact m
  have G:¬x=s:=λh=>by rw[h,m]at n;cases n
  classical
  let j:fO->PV:=λz=>if z=s then .ms (I H) 0 0 0 0 else D z
  have u:∀z,fW g1 (I (H++[fU.mt e 0 []])) w (a.eval z) (j z):=λz=>by
   show fW _ _ _ _ (if z=s then PV.ms (I H) 0 0 0 0 else D z)
   by_cases l:z=s
   .rw[aj l,l,F];exact k.rep
   .rw[ae l];exact(M z).ext k.ext k.len
  have W:j s=.ms (I H) 0 0 0 0:=aj rfl;have Y:j x=.b7 (.ew es):=(ae G).trans n
  have y:(es.map PV.b7).all PV.cell=J:=by rw[aV];rw[j8]at c |-;intro d hd;have:=c d hd;cases d<;>simp_all [PV.cell,fS.ez]
  have A:kC (H++[fU.mt e 0 []]) (j x)=O (es.map .b7):=by rw[Y];simp[kC,kb,gH,ja,c]
  have V:ga (H++[fU.mt e 0 []]) (I H)=O (e,0,[]):=by simp[ga,fU.ga]
  have B:ly (H++[fU.mt e 0 []]) e bytes (I H) 0 0 0 0 (es.map .b7)=O (p,H'):=by
   unfold ly;rw[aj ⟨y,rfl⟩];cases es with
   |nil=>simpa using f
   |cons d es=>
    simp only[zV,List.isEmpty_cons,j6,ai]at f |-;rw[V];simp only[and_self,ak];rw[ae yB,aj ⟨rfl,by simpa using q⟩];simp only[jQ];rw[<-f];simp
  obtain⟨v,g2,w2,h1,t⟩:=ue (D:=j) K C L N l E W A B k.heap k.inv u;exact⟨v,g2,w2,h1,⟨k.ext.trans t.ext k.len,jX k.len t.len,t.rep,t.heap,t.inv,k.fr.trans t.fr⟩⟩
theorem Cc{x:fO}{ts:fN}(k:o.op=.call {callee:=.builtin .clear,args:=#[x],argTypes:=#[ts]})(d:(fV P ts).isSome)(f:D x=.b7 (.ew []))(l:Qu P g X (I H) H w)(hi:Inv X w0 S0 g w)(M:Nai g H w a D):
  Nah P o a X w0 S0 H g w (.fz []) H:=by
 obtain⟨e,d⟩:=aC.1 d;obtain⟨ad,cap,m⟩:=Ax (n:=0) (M x) (by rw[f];rfl);refine⟨.tuple #[],g,w,.inl ?_,.same l hi (.fz _ _ rfl (λj v c h=>by simp at h))⟩;cases ad<;>simp[execOp,k,resolve,invoke,builtin,m,Builtin.clear_,run_underlying (Q0 d)]
end
section
variable{P:fL}{X N:Nat}{w0:fK}{S0:Nat->Nat->Prop}{g:Gh}{H H':List fU}{w:fK}{p:PV}{o:Oper}{a:Act}{D:fO->PV}
def mN(cs:List PV):Nat:=match cs with
 |.b7 d::_=>I cs*d.num
 |_=>I cs
theorem xC{cs:List PV}(h:cs.all PV.flat=J):I cs<=mN cs:=by
 unfold mN;split
 .rename_i d r;simp only[bH,jE]at h;cases d with
  |agg=>simp[PV.flat]at h
  |raw=>simp[fS.num]
  |ew=>simp[fS.num]
 .exact j7 _
theorem Gd{size:Nat}{ds:List fS}(h:ds.all (fS.fits size)=J):mN (ds.map PV.b7)=I ds*size:=by
 cases ds with
 |nil=>simp[mN]
 |cons d ds=>simp only[zV,mN];rw[ia (an.1 h d yB)];simp
def Pp(w:fK)(S:Nat->Nat->Prop)(size:Nat)(ds:List fS)(cur:Array Value):Prop:=
 ∀(i j:Nat) d u v,ds[i]?=O d->d.cells[j]?=O u->cur[i*size+j]?=O v->gL w S v u
theorem pn{size i j n:Nat}{ds:List fS}{d u:fS}(e:ds.all (fS.fits size)=J)(c:ds[i]?=O d)(f:d.cells[j]?=O u)(hn:I ds<=n):j<size/\i<I ds/\i*size+j<n*size:=by
 have g:j<size:=by rw[<-ia (an.1 e d (jF c)),fS.im];exact(af.1 f).1
 have hi:i<I ds:=(af.1 c).1
 have:(i+1)*size<=n*size:=au _ y9
 rw[av]at this;exact⟨g,hi,by omega⟩
theorem Hs{Q:Nat->Nat->Prop}{e lo len:Nat}{cs:List PV}{v v0:fP}{ds:List fS}(V:qZ P g N X w e cs v0)(C:v=iK v0 lo len)(m:(cut cs lo len).bind iG=O ds)(p:xW lo ds=J)(D:∃a c,v=.slice a len c/\len<=c)(hS:∀b o,g.S b o->Q b o)(E:∀b o,gh v0=O b->o<mN cs->Q b o):gL w Q v (.ew ds):=by
 simp only[jK]at m;obtain⟨cs',m,F⟩:=m;obtain⟨c1,c2,c3⟩:=lq m;have K:=lx _ _ F;subst K;simp at c1
 have q:∀(i:Nat) d,ds[i]?=O d->cs[lo+i]?=O (.b7 d):=λi d f=>by have:=c3 i (by rw[<-c1];exact(af.1 f).1);rw[jD,f]at this;exact this.symm
 rcases V with⟨rfl,hn⟩|⟨b,l,cap,cur,rfl,q0,q1,q2,q3,q4,q5,q6,q7,R⟩|⟨b,l,cap,cur,size,L,rfl,q0,q1,q2,q3,q3',rfl,q4,T,q5,q6,q7,R⟩
 .simp at c2;obtain⟨rfl,rfl⟩:=c2
  have:ds=[]:=aw c1
  subst this;rcases hn with rfl|⟨a,rfl⟩
  .rw[C];exact .nil
  .rw[C];exact .empty _ _
 .have y:∀d∈ds,d.ez=J:=λd f=>by obtain⟨i,hi⟩:=aT f;have:=an.1 q4.2 _ (jF (q i d hi));cases d<;>simp_all [PV.flat,fS.ez]
  have x:∀d∈ds,d.cells=[d]:=λd f=>by have:=y d f;cases d<;>simp_all [fS.cells,fS.ez]
  have hml:=xC q4.2
  have G:len<=cap - lo:=by obtain⟨a,c,K,e2⟩:=D;rw[C]at K;simp[iK]at K;omega
  have z:gh (.slice (O ⟨b,0,Z⟩) l cap)=O b:=by simp[gh];omega
  rw[C,iK,jm,zZ];refine .ew b lo len (cap - lo) 1 ds (λj=>cur.getD (lo+j) undef) c1.symm G (λd f=>by rw[fS.im,x d f];rfl) (λj M=>?_) (λs j d u f A=>?_)
  .rw[aW]at M;have k:lo+j<cur.size:=by omega
   refine⟨?_,E _ _ z y9⟩;rw[cell_of_row w _ _ cur _ (0,0) q2,jH,jA k];rfl
  .rw[x d (jF f)]at A;have M:j=0:=by cases j with|zero=>rfl|succ j=>simp at A
   subst M;simp at A;subst A;have hi':s<len:=by rw[<-c1];exact(af.1 f).1
   have k:lo+s<cur.size:=by omega
   have:=((R (lo+s) _ _ (jA k) (q s d f)).hX).mono hS (λ_ _ _=>rfl)
   simpa[jH,jA k]using this
 .have z:gh (.slice (O ⟨b,0,Z⟩) l cap)=O b:=by simp[gh];omega
  rw[C,iK,jm,zZ];cases t:ds with
  |nil=>
   subst t;obtain rfl:len=0:=by simpa using c1.symm
   exact .empty _ _
  |cons W r=>
   have B:∀(i:Nat) d,ds[i]?=O d->L[lo+i]?=O d:=λi d f=>by have:=q i d f;rw[jD,j5]at this;obtain⟨d',Y,h2⟩:=this;cases h2;exact Y
   have hlo:lo=0:=by
    simp only[xW,zT,jE,bE]at p;rcases p with p|p
    .exfalso
     have h0:=B 0 W (by rw[t];rfl);have Y:=ia (an.1 q4 _ (jF h0));have h2:=an.1 p W (by rw[t];simp);cases W<;>simp[fS.num,fS.ez]at Y h2<;>omega
    .exact p.1
   subst hlo
   have H:ds.all (fS.fits size)=J:=by rw[j8];intro d f;obtain⟨i,hi⟩:=aT f;exact an.1 q4 d (jF (B i d hi))
   rw[<-t];have hle:len<=I L:=by simpa using c2
   have hll:len*size<=I L*size:=au _ hle;have D:I L*size<=cap*size:=au _ T;refine .ew b 0 len (cap - 0) size ds (λj=>cur.getD (0+j) undef) c1.symm y9 (λd f=>ia (an.1 H d f)) (λj M=>?_) (λs j d u f A=>?_)
   .have k:0+j<cur.size:=by omega
    refine⟨?_,E _ _ z (by rw[Gd q4];omega)⟩;rw[cell_of_row w _ _ cur _ (0,0) q2,jH,jA k];rfl
   .obtain⟨k1,k2,k3⟩:=pn H f A (n:=cap) y9;have k:0+(s*size+j)<cur.size:=by omega
    have h3:=B s d f;rw[zZ]at h3;have:=(R s j d u _ h3 A (jA y9)).mono hS (λ_ _ _=>rfl)
    simpa[jH,jA (show s*size+j<cur.size by omega)]using this
theorem FL{p:PV}{n:Nat}(h:p.numOf=O n):∃d,p=.b7 d/\d.num=n:=by
 cases p with
 |b7 d=>exact⟨d,rfl,by simpa[PV.numOf]using h⟩
 |_=>simp[PV.numOf]at h
theorem oE{d:fS}{n:Nat}(h:d.num=n)(c:1<n):d=.agg d.cells:=by
 cases d with
 |agg cs=>rfl
 |raw=>simp[fS.num]at h;omega
 |ew=>simp[fS.num]at h;omega
theorem qZ.mul{e:fN}{cs:List PV}{v0:fP}{i n:Nat}(h:qZ P g N X w e cs v0)(hn:cs[i]?.bind PV.numOf=O n)(f:1<n):qS P g X w e cs v0:=by
 rw[jK]at hn;obtain⟨p,c,hn⟩:=hn;obtain⟨d,rfl,j⟩:=FL hn;rcases h with⟨rfl,_⟩|⟨b,l,cap,cur,rfl,q0,q1,q2,q3,q4,_⟩|h
 .simp at c
 .have:=an.1 q4.2 _ (jF c);rw[oE j f]at this;simp[PV.flat]at this
 .exact h
theorem qZ.toMul{e size:fN}{cs:List PV}{v0:fP}(h:qZ P g N X w e cs v0)(m:gq P e=O size)(n:1<size)(f:cs.all (λc=>!c.flat)=J):
  (cs=[]/\(v0=.slice Z 0 0\/∃a,v0=.slice (O a) 0 0))\/qS P g X w e cs v0:=by
 rcases h with h|⟨b,l,cap,cur,rfl,q0,q1,q2,⟨r,q3,p,k⟩,q4,q5,q6,q7,s⟩|h
 .exact .inl h
 .rw[m]at q3;cases q3;cases cs with
  |nil=>exact .inr ⟨b,l,cap,cur,size,[],rfl,q0,q1,q2,m,n,rfl,rfl,zQ _,q5,k,q7,λi j d u v a=>by simp at a⟩
  |cons c cs=>
   simp only[bH,jE]at f q4;have q:=q4.2.1;rw[q]at f;exact absurd f.1 yD
 .exact .inr h
theorem EF{t:fN}{x:fO}{te:fN}{cs:List PV}{n tt gg j:Nat}{p:PV}(L:o.op=.load t x)(N:D x=.mp tt gg j)(Q:H[tt]?=O (.mt te gg cs))(R:qh P t=O J)(hn:gq P t=O n)(r:1<n)(E:j%n=0)(e:cs[j/n]?.bind PV.numOf=O n)(B:cs[j/n]?=O p)(F:Qu P g X (I H) H w)(hi:Inv X w0 S0 g w)(M:Nai g H w a D):
  Nah P o a X w0 S0 H g w p H:=by
 have h:=M x;rw[N]at h;generalize S:a.eval x=v at h;cases h with
 |mp t' gg' j' v v0 m h1 T h3 W h5=>
  obtain⟨v1,k1,k2⟩:=F.mt tt _ _ _ Q;rw[T]at k1;simp only[j9,jI]at k1;obtain⟨rfl,rfl⟩:=k1;obtain⟨b,l,cap,G,rfl⟩:=W rfl;obtain⟨b',l',s,cur,size,ds,rfl,q0,q1,q2,q3,Y,rfl,q4,q4',q5,q6,q7,q8⟩:=k2.mul e r;simp only[Value.slice.injEq,j9,Addr.mk.injEq]at G;obtain⟨⟨rfl,_,_⟩,_,_⟩:=G;rw[B]at e;rw[jD,j5]at B;obtain⟨d,C,rfl⟩:=B;have y:d.num=n:=by simpa[PV.numOf]using e
  have hds:d.num=size:=ia (an.1 q4 d (jF C));obtain rfl:n=size:=by omega
  have z:j/n*n=j:=by have:=cz j n;rw[bK];omega
  have hil:j/n<I ds:=(af.1 C).1
  have K:j+n<=cur.size:=by
   have:(j/n+1)*n<=s*n:=au _ y9
   rw[av,z]at this;omega
  have f:∀(q:Nat) u,((cur.toList.drop j).take n)[q]?=O u->q<n/\cur[j+q]?=O u:=λq u k=>by
   rw[jR]at k;split at k
   .exact⟨by assumption,by simpa using k⟩
   .cases k
  have A:=oE y r;have hdl:I d.cells=n:=by rw[<-fS.im];exact y
  have hr:=kD (P:=P) (w:=w) (b:=b') (off:=j) ((cur.toList.drop j).take n) R hn yA (λh=>by cases h) (λq u k=>by rw[cell_of_row w _ _ cur _ (0,0) q2];exact(f q u k).2)
  refine⟨_,g,w,.inl (by simp only[execOp,L,S];simp[Instr.loadAt,Instr.sureAddr,hr];rfl),.same F hi (.b7 _ _ ?_)⟩;rw[A];refine .agg _ _ yA λq u c g1 g2=>?_
  simp only[bb]at g1;obtain⟨_,k⟩:=f q u g1;exact q8 (j/n) q d c u C g2 (by rw[z];exact k)
theorem BJ{tt te gg gg' b N l1 c size:Nat}{cs:List PV}{ds':List fS}{cur new:Array Value}{v:fP}{p:PV}(D:H[tt]?=O (.mt te gg cs))(l:g.own tt=O (.slice (O ⟨b,0,Z⟩) N c,gg))(q0:0<c)(q1:X<=b)(q2:w.heap[b]?=O (.cells cur te (0,0)))(q3:gq P te=O size)(E:1<size)(q5:c<=maxLen)(q6:cur.size=c*size)(q7:∀o,¬g.S b o)(R:ds'.all (fS.fits size)=J)(hl:I ds'<=c)(hn:new.size=cur.size)(z:Pp w g.S size ds' new)(F:gg'=gg/\l1=N\/gg'=gg+1)(C:Qu P g X (I H) H w)(hi:Inv X w0 S0 g w)(T:fW (g.eE tt (.slice (O ⟨b,0,Z⟩) l1 c) gg') (I H) w v p):
  Good P X w0 S0 H g w p (H.set tt (.mt te gg' (ds'.map .b7))) v (g.eE tt (.slice (O ⟨b,0,Z⟩) l1 c) gg') (w.setRow b new):=by
 have r:tt<I H:=(af.1 D).1;have k:e8 g H tt=O b:=by rw[iO D,l];simp[gh];omega
 have s:(w.setRow b new).heap[b]?=O (.cells new te (0,0)):=setRow_heap w _ _ _ _ _ q2
 have m:∀b' t,g.S b' t->(w.setRow b new).cell? ⟨b',t,Z⟩=w.cell? ⟨b',t,Z⟩:=λb' t G=>cell_setRow_other w _ _ _ (λe=>by simp only at e;subst e;exact q7 t G)
 have K:Ext (I H) g w (g.eE tt (.slice (O ⟨b,0,Z⟩) l1 c) gg') (w.setRow b new):=⟨λ_ _ h=>h,m,λ_ _ h=>⟨rfl,h⟩,λQ _ v n h=>by
   by_cases e':Q=tt
   .subst e';rw[l]at h;cases h;refine⟨_,gg',by simp[Gh.eE];rfl,by omega,λe=>?_⟩;rcases F with⟨_,rfl⟩|F
    .rfl
    .omega
   .exact⟨v,n,by simp only[Gh.eE];rw[ae e'];exact h,j7 _,λ_=>rfl⟩⟩
 have L:Ext (I H) (g.eE tt (.slice (O ⟨b,0,Z⟩) l1 c) gg') w (g.eE tt (.slice (O ⟨b,0,Z⟩) l1 c) gg') (w.setRow b new):=⟨λ_ _ h=>h,m,λ_ _ h=>⟨rfl,h⟩,λ_ _ v n h=>⟨v,n,h,j7 _,λ_=>rfl⟩⟩;have f:(g.eE tt (.slice (O ⟨b,0,Z⟩) l1 c) gg').own tt=O (.slice (O ⟨b,0,Z⟩) l1 c,gg'):=by simp[Gh.eE]
 have A:gh (.slice (O ⟨b,0,Z⟩) l1 c)=O b:=by simp[gh];omega
 refine⟨K,by simp,T.ext L yB,?_,⟨below_setRow hi.below q1 _,by simp;exact hi.size,hi.kk,λb t G=>by simp;exact hi.lt b t G⟩,⟨by simp,λb _ hn=>setRow_other w _ _ _ (λe=>hn tt (by rw[k,e])),λi b' M _=>?_,λb o h=>.inl h⟩⟩
 .refine C.nb K yB (j7 _) _ r (λi b x y=>setRow_other w _ _ _ (λe=>x (C.sep i tt b y (by rw[k,e]))))
   (λ_ _ _ _ _ h=>h) (λQ _ q=>by simp only[Gh.eE];rw[ae q]) (λB hc=>by cases hc) (λ_ _ h=>by cases h) (λi b' x y h=>?_) (λe' n' B hc=>?_) (hmt0:=λe' B hc=>?_)
  .rw[iO (e:=te) (n:=gg') (cs:=ds'.map .b7) (by simp[r]),f]at h;simp only[zX,A,j9]at h;subst h;exact x (C.sep i _ _ y k)
  .cases hc;exact⟨_,f,.inr (.inr ⟨b,l1,c,new,size,ds',rfl,q0,q1,s,q3,E,rfl,R,hl,q5,by omega,q7,λi j d u v W Y a3=>(z i j d u v W Y a3).ext K⟩)⟩
  .exfalso
   rcases F with⟨rfl,_⟩|rfl
   .cases hc;obtain⟨v1,k1,k2⟩:=C.xb _ _ _ D;rw[l]at k1;cases k1;simp[gh]at k2;omega
   .cases hc
 .rcases na r M with⟨q,h⟩|⟨rfl,h⟩
  .refine⟨i,?_⟩;unfold e8 at h |-;split at h
   .exact h
   .simp only[Gh.eE]at h;rw[ae q]at h;exact h
   .simp only[Gh.eE]at h;rw[ae q]at h;exact h
   .exact h
   .cases h
   .cases h
  .refine⟨i,?_⟩;rw[f]at h;simp only[zX,A,j9]at h;subst h;exact k
theorem Bs{t:fN}{x y:fO}{te:fN}{cs:List PV}{tt gg j n:Nat}{d:fS}(ho:o.op=.store t x y)(hx:D x=.mp tt gg j)(hy:D y=.b7 d)(hb:H[tt]?=O (.mt te gg cs))(hn:gq P t=O n)(T:1<n)(Q:d.fits n=J)(hmod:j%n=0)(e:cs[j/n]?.bind PV.numOf=O n)(hH:Qu P g X (I H) H w)(hi:Inv X w0 S0 g w)(M:Nai g H w a D):
  Nah P o a X w0 S0 H g w (.fz []) (H.set tt (.mt te gg (cs.set (j/n) (.b7 d)))):=by
 have h:=M x;rw[hx]at h;generalize hv:a.eval x=v at h;cases h with
 |mp t' gg' j' v v0 m h1 h2 h3 h4 h5=>
  obtain⟨v1,k1,k2⟩:=hH.mt tt _ _ _ hb;have C:=h2;rw[h2]at k1;simp only[j9,jI]at k1;obtain⟨rfl,rfl⟩:=k1;obtain⟨b,l,cap,e1,rfl⟩:=h4 rfl;obtain⟨b',l',E,cur,size,ds,rfl,q0,q1,q2,q3,W,rfl,q4,F,q5,q6,q7,q8⟩:=k2.mul e T;simp only[Value.slice.injEq,j9,Addr.mk.injEq]at e1;obtain⟨⟨rfl,_,_⟩,_,_⟩:=e1;rw[jK]at e;obtain⟨p0,G,e⟩:=e;rw[jD,j5]at G;obtain⟨Y,K,rfl⟩:=G;have hds:Y.num=size:=ia (an.1 q4 Y (jF K));have hd0n:Y.num=n:=by simpa[PV.numOf]using e
  obtain rfl:n=size:=by omega
  have k:j/n*n=j:=by have:=cz j n;rw[bK];omega
  have hil:j/n<I ds:=(af.1 K).1
  have r:j+n<=cur.size:=by
   have:(j/n+1)*n<=E*n:=au _ y9
   rw[av,k]at this;omega
  have hry:gL w g.S (a.eval y) d:=by have:=M y;rw[hy]at this;exact this.hX
  obtain⟨y1,y2⟩:=hry.cells;have hdl:I d.cells=n:=by rw[<-fS.im];exact ia Q
  have f:(a.eval y).cells.toList.length=n:=by simp;omega
  have L:∀u∈(a.eval y).cells.toList,u.oneCell'=J:=by refine qn (M y) ?_;rw[hy];simp only[PV.cells,aV];rw[j8];intro c hc;simp only[fS.fits,jE]at Q;have:=an.1 Q.2 c hc;cases c<;>simp_all [PV.cell,fS.ez]
  have hst:=run_storeCells_at P b' j te (a.eval y).cells.toList 0 cur w q2 (by rw[f];simpa using r) L;simp only[zY]at hst;generalize s:(cur.toList.take j++(a.eval y).cells.toList++cur.toList.drop (j+(a.eval y).cells.toList.length))=new at hst
  have N:∀q,new[q]?=if q<j then cur[q]? else if q<j+n then(a.eval y).cells[q - j]? else cur[q]?:=λq=>by rw[<-s,iP _ _ _ (by rw[f];simpa using r),f];simp
  have hg:=BJ (P:=P) (S0:=S0) (w0:=w0) (gg':=m) (l1:=l') (ds':=ds.set (j/n) d) (cur:=cur) (new:=new.toArray) (v:=undef) (p:=.fz []) hb C q0 q1 q2 q3 W q5 q6 q7
   (by
    rw[j8]at q4 |-;intro c hc;rcases dj hc with hc|rfl
    .exact q4 c hc
    .exact Q) (by simpa using F) (by rw[<-s];simp only[cb,jW,zW,y7,bj,f];omega)
   (λi q d' u v' B R z=>by
    simp only[bb]at z;rw[N]at z;rw[zF]at B;by_cases A:j/n=i
    .subst A;rw[aj rfl,aj hil]at B;cases B;have hq:q<n:=by rw[<-hdl];exact(af.1 R).1
     rw[k,ae y9,aj y9,show j+q - j=q by omega]at z;exact y2 q _ _ z R
    .rw[ae A]at B;obtain⟨z1,z2,z3⟩:=pn q4 B R F
     have hc:cur[i*n+q]?=O v':=by
      have:i*n+q<j\/j+n<=i*n+q:=by
       rcases Nat.lt_or_gt_of_ne A with h|h
       .have:(j/n+1)*n<=i*n:=au _ y9
        rw[av,k]at this;omega
       .have:(i+1)*n<=(j/n)*n:=au _ y9
        rw[av,k]at this;omega
      rcases this with h|h
      .rw[aj h]at z;exact z
      .rw[ae y9,ae y9]at z;exact z
     exact q8 i q d' u v' B R hc)
   (.inl ⟨rfl,rfl⟩) hH hi (.fz _ _ rfl (λj v c h=>by simp at h))
  rw[fG]at hg;refine⟨undef,_,_,.inr ⟨?_,rfl⟩,hg⟩;have hsz:(a.eval y).cells.size=n:=by simpa using f
  simp only[execOp,ho,hv];simp[Instr.storeAt,Instr.sureAddr,storeVar,hsz,iZ hn,hst]
theorem B3{tt te gg cap size:Nat}{xs es:List fS}{olds news:List Value}{zs:Array Value}{v0:fP}(r:H[tt]?=O (.mt te gg (xs.map PV.b7)))(C:g.own tt=O (v0,gg))(q3:gq P te=O size)(M:1<size)(q4:I xs+I es<=cap)(q5:cap<=maxLen)(e7:0<I es)(x:xs.all (fS.fits size)=J)(y:es.all (fS.fits size)=J)(c:I olds=I xs*size)(s:I news=I es*size)(hz:zs.size=(cap - (I xs+I es))*size)(D:∀(i j:Nat) d u,xs[i]?=O d->d.cells[j]?=O u->gL w g.S (olds.getD (i*size+j) undef) u)(E:∀(i j:Nat) d u,es[i]?=O d->d.cells[j]?=O u->gL w g.S (news.getD (i*size+j) undef) u)(L:Qu P g X (I H) H w)(hi:Inv X w0 S0 g w)(vals:Array Value)(f:vals=olds.toArray++news.toArray++zs):
  ∃g',Good P X w0 S0 H g w (.ms tt (gg+1) 0 (I xs+I es) (I xs+I es)) (H.set tt (.mt te (gg+1) (xs.map PV.b7++es.map PV.b7))) (.slice (O ⟨w.heap.size,0,Z⟩) (I xs+I es) cap) g' (w.drew.alloc (.cells vals te)):=by
 have l:tt<I H:=(af.1 r).1;have F:Inv X w0 S0 g w.drew:=⟨hi.below.drew,hi.size,hi.kk,hi.lt⟩;have eD:Ext (I H) g w g w.drew:=⟨λ_ _ h=>h,λ_ _ _=>rfl,λ_ _ h=>⟨rfl,h⟩,λ_ _ v n h=>⟨v,n,h,j7 _,λ_=>rfl⟩⟩;have hHD:Qu P g X (I H) H w.drew:=L.ey eD (j7 _) (j7 _) (λ_ _ _=>rfl) (λ_ _ _ _ h=>h) (λ_ _=>rfl)
 let z:Value:=.slice (O ⟨w.heap.size,0,Z⟩) (I xs+I es) cap
 let k:=g.eE tt z (gg+1)
 let B:=w.drew.alloc (.cells vals te)
 have k1:Ext (I H) g w.drew g B:=Ext.alloc F (I H) _;have m:Inv X w0 S0 g B:=F.alloc _;have A:B.heap[w.heap.size]?=O (.cells vals te (0,0)):=heap_alloc_new w.drew _
 have e2:Ext (I H) g B k B:=⟨λ_ _ h=>h,λ_ _ _=>rfl,λ_ _ h=>⟨rfl,h⟩,λt' ht' v n' h=>by
  by_cases e':t'=tt
  .subst e';rw[C]at h;cases h;exact⟨z,gg+1,by simp[k,Gh.eE],by omega,λe=>by omega⟩
  .exact⟨v,n',by simp only[k,Gh.eE];rw[ae e'];exact h,j7 _,λ_=>rfl⟩⟩
 have N:Ext (I H) g w k B:=(eD.trans k1 (j7 _)).trans e2 (j7 _)
 have Q:vals.size=cap*size:=by rw[f];simp only[eB,cb,c,s,hz];rw[<-av,<-av];congr 1;omega
 refine⟨k,N,by simp,.ms _ _ _ _ _ _ z (gg+1) (by simpa using l) (by simp[k,Gh.eE]) (j7 _) (λ_=>⟨by simp[z,iK,Addr.add],.inr (.inr ⟨_,_,_,rfl⟩)⟩) ⟨_,_,rfl,q4,q4,λ_=>rfl⟩,?_,⟨m.below,m.size,m.kk,m.lt⟩,Fr.kk yB (λb r=>Below.heap_alloc w.drew _ b r) (λi b h R=>?_)⟩
 case refine_2=>
  rcases na l h with⟨p,h⟩|⟨rfl,h⟩
  .refine⟨i,?_⟩;unfold e8 at h |-;split at h
   .exact h
   .simp only[k,Gh.eE]at h;rw[ae p]at h;exact h
   .simp only[k,Gh.eE]at h;rw[ae p]at h;exact h
   .exact h
   .cases h
   .cases h
  .simp[k,Gh.eE,z,gh]at h;obtain⟨_,rfl⟩:=h;exact absurd R (zA _)
 refine L.nb N yB (j7 _) _ l (λi b _ r=>Below.heap_alloc w.drew _ b (L.eM r).2.1) (λi b _ r o T=>T) (λt' _ p=>by simp only[k,Gh.eE];rw[ae p]) (λ_ h=>by cases h) (λ_ _ h=>by cases h) (λi b hik r h=>?_) (λe' n' cs' hc=>?_)
 .rw[iO (e:=te) (n:=gg+1) (cs:=xs.map PV.b7++es.map PV.b7) (by simp[l])]at h;simp[k,Gh.eE,z,gh]at h;obtain⟨_,rfl⟩:=h;exact zA _ (L.eM r).2.1
 .cases hc;refine⟨z,by simp[k,Gh.eE],.inr (.inr ⟨w.heap.size,_,cap,vals,size,xs++es,rfl,by omega,hi.size,A,q3,M,by rw[zM],by rw[zR,x,y];rfl,by simp;omega,q5,Q,λo T=>zA _ (hi.lt _ _ T),λi j d u v t G K=>?_⟩)⟩;have W:(xs++es).all (fS.fits size)=J:=by rw[zR,x,y];rfl
  obtain⟨z1,z2,z3⟩:=pn W t G (j7 _)
  have:gL w g.S v u:=by
   rw[jT]at t;split at t
   .rename_i Y;have hq:i*size+j<I olds:=by rw[c];exact(pn x t G (j7 _)).2.2
    have:=D i j d u t G;rw[f,aL,aj yA,aL,aj (by simpa using hq)]at K;rw[jB,show olds[i*size+j]?=O v by simpa using K]at this;exact this
   .rename_i Y;obtain⟨q,rfl⟩:∃q,i=I xs+q:=⟨i - I xs,by omega⟩;rw[show I xs+q - I xs=q by omega]at t;have hq:q*size+j<I news:=by rw[s];exact(pn y t G (j7 _)).2.2
    have nf:(I xs+q)*size+j=I olds+(q*size+j):=by rw[c,av];omega
    have:=E q j d u t G;rw[f,aL,aj yA,aL,ae yA]at K
    rw[jB,show news[q*size+j]?=O v by
     rw[nf]at K
     simpa using K]at this
    exact this
  exact this.ext N
theorem zt{e bytes size tt gg lo len cap:Nat}{x s:fO}{ts:fN}(ho:o.op=.call {callee:=.builtin .append,args:=#[s,x],argTypes:=#[ts,ts]})(hty:fV P ts=O e)(hs:gq P e=O size)(hb:bytesOf P e=O bytes)(hz:(gB P e).map fS.num=O size)(h0b:0<bytes)(hsv:D s=.ms tt gg lo len cap)(G:qf H e size bytes tt gg lo len (D x)=O (p,H'))(hH:Qu P g X (I H) H w)(hi:Inv X w0 S0 g w)(M:Nai g H w a D):
  Nah P o a X w0 S0 H g w p H':=by
 unfold qf at G;split at G
 case h_2=>cases G
 rename_i es te g' cs hxv V;split at G
 case isFalse=>cases G
 rename_i hc;obtain⟨N,he,rfl,rfl,rfl,rfl,e7,k,hnf⟩:=hc;cases G;simp only[j5]at hz;obtain⟨z,hz,hzn⟩:=hz;obtain⟨ie,zv,i1,i2,i3,_⟩:=iS hz;have B:ie.size=size:=by simp only[gq,i1,jN,j9]at hs;exact hs
 have hby:ie.bytes=bytes:=by simp only[bytesOf,i1,jN,j9]at hb;exact hb
 have hzs:zv.cells.size=size:=by rw[(i3 w g.S).cells.1,<-fS.im,hzn]
 obtain⟨news,C⟩:=FE (P:=P) (size:=size) hH (M x) hxv he;have hone:=GG C y9 he;have l:=C.len;have K:=ZO V;simp only at K;have E:=M s;rw[hsv]at E;generalize hvs:a.eval s=vs at E
 have hex:∀v w',(Builtin.append_ #[ts,ts] o.type #[vs,a.eval x]).run P w=.ok v w'->gN P o a w v w':=λv w' L=>by left;simp[execOp,ho,resolve,invoke,builtin,hvs,L]
 have hlb:I cs+I es<=jd:=jX (aQ _ h0b) k;have y:I cs+I es<=maxLen:=by simp only[jd]at hlb;simp only[maxLen];omega
 have Q:((I cs+I es:Nat):Int)<=9223372036854775807:=by simp only[jd]at hlb;omega
 obtain⟨ad,c,hxa,n⟩:∃ad c,a.eval x=.slice (O ad) (I es) c/\∀(j:Nat) u,news[j]?=O u->w.cell? (ad.add j)=O u:=by
  rcases C.shape with⟨_,h⟩|⟨ad,c,h,h'⟩
  .subst h;simp at e7
  .exact⟨ad,c,h,h'⟩
 cases E with
 |ms _ _ _ _ _ v v0 m k1 k2 k3 k4 k5=>
  obtain⟨v1,j1,j2⟩:=hH.mt tt _ _ _ K;have F:=k2;rw[k2]at j1;simp only[j9,jI]at j1;obtain⟨rfl,rfl⟩:=j1;obtain⟨hv,hbase⟩:=k4 rfl;rcases j2.toMul hs N hnf with⟨rfl,hv0⟩|⟨b,l',f,cur,size',xs,rfl,q0,q1,q2,q3,q3',rfl,q4,q4',q5,q6,q7,q8⟩
  rotate_left
  .obtain rfl:size=size':=by rw[hs]at q3;exact jS q3
   simp only[jZ]at k hlb y Q hv hsv |-;have hv':vs=.slice (O ⟨b,0,Z⟩) (I xs) f:=by rw[hv];simp[iK,Addr.add]
   have hxc:I xs*size<=f*size:=au _ q4';by_cases A:I xs+I es<=f
   .have t:I xs*ie.size+I news<=cur.size:=by rw[l,q6,B,<-av];exact au _ A
    have L:=run_append_room (P:=P) w ts o.type te ie (Q0 hty) i1 b (I xs) f cur q2 ad (I es) c news (by rw[B];exact l) n hone A t;rw[B]at L t;generalize hnew:(cur.toList.take (I xs*size)++news++cur.toList.drop (I xs*size+I news))=new at L
    have hget:∀q,new[q]?=if q<I xs*size then cur[q]? else if q<I xs*size+I news then news[q - I xs*size]? else cur[q]?:=λq=>by rw[<-hnew,iP _ _ _ (by simpa using t)];simp
    have W:=BJ (P:=P) (S0:=S0) (w0:=w0) (gg':=m+1) (l1:=I xs+I es) (ds':=xs++es) (cur:=cur) (new:=new.toArray) (v:=.slice (O ⟨b,0,Z⟩) (I xs+I es) f) (p:=.ms tt (m+1) 0 (I xs+I es) (I xs+I es)) K F q0 q1 q2 hs N q5 q6 q7
     (by rw[zR,q4,he];rfl) (by simpa using A) (by rw[<-hnew];simp only[cb,jW,zW,y7,bj];omega)
     (λi q d u v' Y a2 a3=>by
      simp only[bb]at a3;rw[hget]at a3;rw[jT]at Y;split at Y
      .obtain⟨z1,z2,z3⟩:=pn q4 Y a2 (j7 _);rw[aj z3]at a3;exact q8 i q d u v' Y a2 a3
      .obtain⟨r,rfl⟩:∃r,i=I xs+r:=⟨i - I xs,by omega⟩;rw[show I xs+r - I xs=r by omega]at Y;obtain⟨z1,z2,z3⟩:=pn he Y a2 (j7 _);have nf:(I xs+r)*size+q=I xs*size+(r*size+q):=by rw[av];omega
       rw[nf,ae y9,aj (by rw[l];omega),show I xs*size+(r*size+q) - I xs*size=r*size+q by omega]at a3;have:=C.rep r q d u Y a2;rw[jB,a3]at this;exact this)
     (.inr rfl) hH hi (.ms _ _ _ _ _ _ (.slice (O ⟨b,0,Z⟩) (I xs+I es) f) (m+1) k1 (by simp[Gh.eE]) (j7 _) (λ_=>⟨by simp[iK,Addr.add],.inr (.inr ⟨b,_,_,rfl⟩)⟩) ⟨_,_,rfl,A,A,λ_=>rfl⟩)
    rw[zM]at W;exact⟨_,_,_,hex _ _ (by rw[hxa,hv'];exact L),W⟩
   .have holds:∀(j:Nat) v,(cur.toList.take (I xs*size))[j]?=O v->w.cell? ((⟨b,0,Z⟩:Addr).add j)=O v:=λj v h=>by
     rw[jR]at h;split at h
     .rw[jm,cell_of_row w _ _ cur _ (0,0) q2];simpa using h
     .cases h
    have L:=run_append_grow (P:=P) w ts o.type te ie zv (Q0 hty) i1 i2 ⟨b,0,Z⟩ (I xs) f (cur.toList.take (I xs*size)) (by rw[B];simp;omega) holds ad (I es) c news (by rw[B];exact l) n y9 Q (growslice_fits y9 (by rw[hby];exact k));have R:=grownCap_ge w (I xs+I es) f te;have T:=grownCap_le_maxLen w (I xs+I es) f te y
    obtain⟨g',W⟩:=B3 (P:=P) (S0:=S0) (w0:=w0) (olds:=cur.toList.take (I xs*size)) (zs:=Builtin.zeroCells zv.cells (grownCap w (I xs+I es) f te - (I xs+I es))) (cap:=grownCap w (I xs+I es) f te) K F hs N R T e7 q4 he yA l
     (by simp[size_zeroCells,hzs]) (λi j d u Y a2=>by obtain⟨z1,z2,z3⟩:=pn q4 Y a2 (j7 _);have hc:cur[i*size+j]?=O (cur[i*size+j]'y9):=jA y9;have:=q8 i j d u _ Y a2 hc;rw[jB,jR,aj z3,zI,hc];exact this) C.rep hH hi _ rfl
    exact⟨_,g',_,hex _ _ (by rw[hxa,hv'];exact L),W⟩
  .simp only[jL,zZ]at k hlb y Q hv hsv |-;rcases hv0 with rfl|⟨a0,rfl⟩
   .have L:=run_append_nil (P:=P) w ts o.type te ie zv (Q0 hty) i1 i2 ad (I es) c news (by rw[B];exact l) n e7 Q (by rw[hby];simp only[jd]at k;omega);have R:=grownCap_ge w (I es) 0 te;have T:=grownCap_le_maxLen w (I es) 0 te y
    obtain⟨g',W⟩:=B3 (P:=P) (S0:=S0) (w0:=w0) (xs:=[]) (olds:=[]) (zs:=Builtin.zeroCells zv.cells (grownCap w (I es) 0 te - I es)) (cap:=grownCap w (I es) 0 te) K F hs N (by simpa using R) T e7 rfl he yB l
     (by simp[size_zeroCells,hzs]) (λi j d u h=>by simp at h) C.rep hH hi (news.toArray++Builtin.zeroCells zv.cells (grownCap w (I es) 0 te - I es)) yB
    simp only[jL,zZ,aH,jQ]at W |-;exact⟨_,g',_,hex _ _ (by rw[hxa,hv];exact L),W⟩
   .have hv':vs=.slice (O (a0.add 0)) 0 0:=by rw[hv];simp[iK]
    have L:=run_append_grow (P:=P) w ts o.type te ie zv (Q0 hty) i1 i2 (a0.add 0) 0 0 [] yB (λj v h=>by simp at h) ad (I es) c news (by rw[B];exact l) n y9 (by simpa using Q) (growslice_fits y9 (by rw[hby];simpa[jd]using k));have R:=grownCap_ge w (0+I es) 0 te;have T:=grownCap_le_maxLen w (0+I es) 0 te (by simpa using y)
    obtain⟨g',W⟩:=B3 (P:=P) (S0:=S0) (w0:=w0) (xs:=[]) (olds:=[]) (zs:=Builtin.zeroCells zv.cells (grownCap w (0+I es) 0 te - (0+I es))) (cap:=grownCap w (0+I es) 0 te) K F hs N (by simpa using R) T e7 rfl he yB l
     (by simp[size_zeroCells,hzs]) (λi j d u h=>by simp at h) C.rep hH hi _ rfl
    simp only[jL,zZ,aH,jQ]at W L |-;exact⟨_,g',_,hex _ _ (by rw[hxa,hv'];exact L),W⟩
theorem M4{e len cap:Nat}{cs:List PV}(vals:Array Value)(k:len<=cap)(e7:0<cap)(l:∀w',w'.heap[w.heap.size]?=O (.cells vals e (0,0))->Ext (I H) g w g w'->∀g',Ext (I H) g w g' w'->g'.S=g.S->qZ P g' (I H+1) X w' e cs (.slice (O ⟨w.heap.size,0,Z⟩) len cap))(q:Qu P g X (I H) H w)(hi:Inv X w0 S0 g w):
  ∃g',Good P X w0 S0 H g w (.ms (I H) 1 0 len cap) (H++[.mt e 1 cs]) (.slice (O ⟨w.heap.size,0,Z⟩) len cap) g' (w.alloc (.cells vals e)):=by
 let v0:Value:=.slice (O ⟨w.heap.size,0,Z⟩) len cap
 have k1:Ext (I H) g w g (w.alloc (.cells vals e)):=Ext.alloc hi (I H) _;have m:=q.alloc hi (j7 _) (.cells vals e);have d:=hi.alloc (.cells vals e);have r:Ext (I H) g (w.alloc (.cells vals e)) (g.eE (I H) v0 1) (w.alloc (.cells vals e)):=.pt _ _ _ (j7 _);have s:=k1.trans r (j7 _);have f:gh v0=O w.heap.size:=by simp[v0,gh];omega
 have c:(g.eE (I H) v0 1).own (I H)=O (v0,1):=by simp[Gh.eE]
 refine⟨g.eE (I H) v0 1,s,by simp,.ms _ _ _ _ _ _ v0 1 yB c (j7 _) (λ_=>⟨by simp[v0,iK,Addr.add],.inr (.inr ⟨_,_,_,rfl⟩)⟩) ⟨_,_,rfl,j7 _,k,λ_=>rfl⟩,?_,⟨d.below,d.size,d.kk,d.lt⟩,Fr.kk yB (λb u=>Below.heap_alloc w _ b u) λi b h u=>?_⟩
 .have v:=m.ey r (show I H<=I (H++[fU.mt e 1 cs]) by simp) (j7 _) (λ_ _ _=>rfl) (λ_ _ _ _ h=>h) (λt z=>by simp only[Gh.eE];rw[ae y9]);refine v.snoc _ (λcs h=>by cases h) (λe' n h=>by cases h) (λi b h p=>?_) (λe' n cs h=>?_) (hmt0:=λ_ _ h=>by cases h)
  .rw[iO (e:=e) (n:=1) (cs:=cs) yB,c]at p;simp only[zX,f,j9]at p;subst p;have x:e8 g H i=O w.heap.size:=iE (g:=g) h (λ_ _=>rfl) (λj y=>by simp only[Gh.eE];rw[ae y9]);exact zA _ (q.eM x).2.1
  .cases h;refine⟨v0,c,?_⟩;have:=l (w.alloc (.cells vals e)) (heap_alloc_new w _) k1 _ s rfl
   simpa using this
 .rcases oL h with h|⟨_,h⟩
  .exact⟨i,iE (g:=g) h (λ_ _=>rfl) (λj y=>by simp only[Gh.eE];rw[ae y9])⟩
  .rw[c]at h;simp only[zX,f,j9]at h;omega
theorem Gl{t e size bytes:Nat}{T W:fO}{z:fS}{c:Int}(ho:o.op=.makeSlice t T W)(he:fV P t=O e)(hz:gB P e=O z)(N:gq P e=O size)(Q:bytesOf P e=O bytes)(hl:D T=.b7 (.raw (.int .i64 c)))(hc:D W=.b7 (.raw (.int .i64 c)))(V:qw H e size bytes z c=O (p,H'))(hH:Qu P g X (I H) H w)(hi:Inv X w0 S0 g w)(M:Nai g H w a D):
  Nah P o a X w0 S0 H g w p H':=by
 unfold qw at V;split at V
 case isFalse=>cases V
 rename_i y;obtain⟨h0,k,Y,hbp,hel⟩:=y;obtain⟨n,f,i1,i2,i3,_⟩:=iS hz;have B:n.size=size:=by simp only[gq,i1,jN,j9]at N;exact N
 have hby:n.bytes=bytes:=by simp only[bytesOf,i1,jN,j9]at Q;exact Q
 have vl:=mj (by rw[<-hl];exact M T);have vc:=mj (by rw[<-hc];exact M W);have hr:=run_make (P:=P) w t e n f (Q0 he) i1 i2 .i64 .i64 c c h0 (aG _) (by rw[hby,bI];simp only[jd]at k;omega) Y;have C:gN P o a w (.slice (O ⟨w.heap.size,0,Z⟩) c.toNat c.toNat) (w.alloc (.cells (madeCells f.cells (c.toNat*n.size)) e)):=.inl (by simp only[execOp,ho,vl,vc,Sem.run_bind];rw[hr];rfl);split at V
 .rename_i E;subst E;cases V;have hH1:=hH.alloc hi (j7 _) (.cells (madeCells f.cells ((0:Int).toNat*n.size)) e);have hi1:=hi.alloc (.cells (madeCells f.cells ((0:Int).toNat*n.size)) e);obtain⟨g',r⟩:=sq (P:=P) (S0:=S0) (w0:=w0) hH1 hi1 e (O ⟨w.heap.size,0,Z⟩);refine⟨_,g',_,C,⟨(Ext.alloc hi (I H) _).trans r.ext (j7 _),r.len,r.rep,r.heap,r.inv,?_⟩⟩;exact(Fr.kk yB (λb Q=>Below.heap_alloc w _ b Q) (λi b h _=>⟨i,h⟩)).trans r.fr
 .rename_i E;cases V;have e7:0<c.toNat:=by omega
  have s:c.toNat<=maxLen:=by
   have h1:c.toNat*bytes<=jd:=by
    have:((c.toNat*bytes:Nat):Int)<=(jd:Int):=by rw[cy,de h0];exact k
    omega
   have h2:c.toNat<=c.toNat*bytes:=aQ _ hbp;simp only[jd]at h1;simp only[maxLen];omega
  have l:∀(m:Nat) v,(madeCells f.cells (c.toNat*n.size))[m]?=O v->v=f.cells[m%f.cells.size]!:=λm v h=>by
   simp only[madeCells,zL,j5]at h;obtain⟨m',q,rfl⟩:=h;rw[fq]at q;split at q
   .cases q;rfl
   .cases q
  obtain⟨g',r⟩:=M4 (P:=P) (S0:=S0) (w0:=w0) (e:=e) (len:=c.toNat) (cap:=c.toNat) (cs:=Nab c.toNat (.b7 z)) (madeCells f.cells (c.toNat*n.size)) (j7 _) e7 (λw' F e1 g' e2 hS=>by
   obtain⟨z1,z2⟩:=(i3 w' g'.S).cells;rcases hel with⟨rfl,hzc⟩|⟨h1s,G⟩
   .have A:f.cells.size=1:=by rw[z1];cases z<;>simp_all [fS.cells,fS.ez]
    have hmz:(madeCells f.cells (c.toNat*n.size)).size=c.toNat:=by rw[size_madeCells,B];omega
    refine .inr (.inl ⟨w.heap.size,_,c.toNat,_,rfl,e7,hi.size,F,⟨1,N,by decide,by omega⟩,⟨by rw[hmz];simp,?_⟩,s,by omega,λo h=>?_,λj v d g1 R=>?_⟩)
    .rw[j8];intro x hx;rw[bZ hx];cases z<;>simp_all [PV.flat,fS.ez]
    .rw[hS]at h;exact zA _ (hi.lt _ _ h)
    .obtain rfl:=bZ (jF R);rw[l j v g1];have h0:f.cells[0]?=O f.cells[0]:=jA y9;have V:j%f.cells.size=0:=by rw[A];exact fI _
     have:f.cells[j%f.cells.size]! =f.cells[0]:=by simp only[V,cO,jH,h0,aE]
     rw[this];exact .b7 _ _ (z2 0 _ z h0 (by cases z<;>simp_all [fS.cells,fS.ez]))
   .have K:I z.cells=size:=by rw[<-fS.im];exact ia G
    have A:f.cells.size=size:=by rw[z1,K]
    refine .inr (.inr ⟨w.heap.size,_,c.toNat,_,size,Nab c.toNat z,rfl,e7,hi.size,F,N,h1s,by simp,?_,by simp,s,by rw[size_madeCells,B],λo h=>?_,λi j d u v g1 R g3=>?_⟩)
    .rw[j8];intro x hx;rw[bZ hx];exact G
    .rw[hS]at h;exact zA _ (hi.lt _ _ h)
    .obtain rfl:=bZ (jF g1);have hj:j<size:=by rw[<-K];exact(af.1 R).1
     rw[l _ v g3];have V:(i*size+j)%f.cells.size=j:=by rw[A,bK,eT];exact cq hj
     have L:f.cells[j]?=O (f.cells[j]'y9):=jA y9
     have:f.cells[(i*size+j)%f.cells.size]! =f.cells[j]'y9:=by simp only[V,cO,jH,L,aE]
     rw[this];exact z2 j _ u L R) hH hi
  exact⟨_,g',_,C,r⟩
theorem vU{t e:fN}{len size:Nat}{c:Array (Nat×Operand)}{ds:List fS}(Y:o.op=.buildSlice t len c)(N:fV P t=O e)(y:gq P e=O size)(A:(gB P e).isSome=J)(hp:gR H (c.toList.map λ(_,x)=>D x)=O ds)(hl:c.size=len)(hd:oK 0 c.toList=J)(hf:ds.all (fS.fits size)=J)(h0:0<size)(h24:len*size<=16777216)(B:c.toList.any (λ(_,x)=>(D x).fx)=U)(hH:Qu P g X (I H) H w)(hi:Inv X w0 S0 g w)(M:Nai g H w a D):
  ∃vals:Array Value,(execOp a.eval o).run P w=.ok (.value (.slice (O ⟨w.heap.size,0,Z⟩) len len)) (w.alloc (.cells vals e))/\vals.size=len*size/\(I ds)=len/\
   Pp w g.S size ds vals:=by
 obtain⟨p1,p2⟩:=kE _ _ hp;have m:I ds=len:=by rw[p1];simpa using hl
 obtain⟨z,A⟩:=aC.1 A;obtain⟨Q,C,R,i2,_⟩:=iS A;have l:Q.size=size:=by simp only[gq,R,jN,j9]at y;exact y
 have k:∀(i:Nat) q d,c.toList[i]?=O q->ds[i]?=O d->gL w g.S (a.eval q.2) d:=λi q d g1 s=>by
  have V:q∈c.toList:=jF g1;refine nR (M q.2) (p2 i (D q.2) d (by simp only[jD,g1,jN]) s) ?_;have:=bF.1 B q V
  simpa using this
 have E:∀(i:Nat) q,c.toList[i]?=O q->∃d,ds[i]?=O d:=λi q h=>⟨_,jC (by rw[p1];simpa using(af.1 h).1)⟩
 have f:∀(i:Nat) d,ds[i]?=O d->d.num=size:=λi d h=>ia (an.1 hf d (jF h))
 obtain⟨vals,f1,f2,f3,_⟩:=nh (size:=size) (c.toList.map λ(i,x)=>(i,a.eval x)) 0 ((Array.range (len*size)).map (C.cells[· %C.cells.size]!)) (λi q h=>by simp only[jD,j5]at h;obtain⟨F,h,rfl⟩:=h;obtain⟨d,n⟩:=E i F h;exact⟨pN _ 0 hd i F h,by rw[(k i F d h n).cells.1,<-fS.im,f i d n]⟩) (by simp[hl])
 have p:vals.size=len*size:=by rw[f2];simp
 have hb:(Instr.buildSlice t len (c.map λ(i,x)=>(i,a.eval x))).run P w=.ok (.slice (O ⟨w.heap.size,0,Z⟩) len len) (w.alloc (.cells vals e)):=by
  by_cases e7:len*size=0
  .have G:len=0:=by
    rcases eW.1 e7 with h|h
    .exact h
    .omega
   subst G;have K:c=#[]:=by simpa using hl
   subst K
   have:vals=#[]:=by simpa using p
   subst this;simp[Instr.buildSlice,run_underlying (Q0 N),iZ y,Instr.fill,newRow,eu]
  .refine run_buildSlice w t e len _ vals Q C (Q0 N) R i2 (by rw[l];omega) (by rw[l];exact e7) ?_;rw[l];simpa using f1
 refine⟨vals,by simp[execOp,Y,hb],p,m,?_⟩;intro i j d u v g1 s g3;have r:i<I ds:=(af.1 g1).1;obtain⟨q,T⟩:∃q,c.toList[i]?=O q:=⟨_,jC (by rw[p1]at r;simpa using r)⟩;have W:j<size:=by rw[<-f i d g1,fS.im];exact(af.1 s).1
 have L:=f3 i j (q.1,a.eval q.2) (by simp only[jD,T,jN]) W;simp only[zZ]at L;obtain⟨c1,c2⟩:=(k i q d T g1).cells;have hj':j<(a.eval q.2).cells.size:=by rw[c1,<-fS.im,f i d g1];exact W
 rw[g3]at L;exact c2 j v u L.symm s
theorem tC{t e:fN}{len size:Nat}{f:Array (Nat×Operand)}{ds:List fS}(N:o.op=.buildSlice t len f)(Q:fV P t=O e)(p:gq P e=O size)(R:(gB P e).isSome=J)(S:gR H (f.toList.map λ(_,x)=>D x)=O ds)(hl:f.size=len)(m:oK 0 f.toList=J)(B:ds.all (fS.fits size)=J)(h0:0<size)(q:len*size<=16777216)(r:f.toList.any (λ(_,x)=>(D x).fx)=U)(s:ds.isEmpty=U)(y:size=1/\ds.all fS.ez=J\/1<size)(C:Qu P g X (I H) H w)(hi:Inv X w0 S0 g w)(M:Nai g H w a D):
  Nah P o a X w0 S0 H g w (.ms (I H) 1 0 (I ds) (I ds)) (H++[.mt e 1 (ds.map .b7)]):=by
 obtain⟨vals,T,W,E,F⟩:=vU (S0:=S0) (w0:=w0) N Q p R S hl m B h0 q r C hi M;have e7:0<I ds:=by cases ds with|nil=>simp at s|cons=>simp
 have k:I ds<=maxLen:=by
  have:len<=len*size:=aQ _ h0
  simp only[maxLen];omega
 obtain⟨g',G⟩:=M4 (P:=P) (S0:=S0) (w0:=w0) (e:=e) (len:=I ds) (cap:=I ds) (cs:=ds.map .b7) vals (j7 _) e7 (λw' l e1 g' K L=>by
  rcases y with⟨rfl,hc⟩|z
  .have A:vals.size=I ds:=by omega
   refine .inr (.inl ⟨w.heap.size,_,I ds,_,rfl,e7,hi.size,l,⟨1,p,by decide,by omega⟩,⟨by rw[A];simp,?_⟩,k,by omega,λo h=>?_,λj v c g1 n=>?_⟩)
   .rw[aV,j8];intro x Y;have:=an.1 hc x Y;cases x<;>simp_all [PV.flat,fS.ez]
   .rw[L]at h;exact zA _ (hi.lt _ _ h)
   .rw[jD,j5]at n;obtain⟨d,m,rfl⟩:=n;have hdc:=an.1 hc d (jF m);exact .b7 _ _ ((F j 0 d d v m (by cases d<;>simp_all [fS.cells,fS.ez]) (by simpa using g1)).ext K)
  .exact .inr (.inr ⟨w.heap.size,_,I ds,_,size,ds,rfl,e7,hi.size,l,p,z,rfl,B,j7 _,k,by rw[W,E],λo h=>by rw[L]at h;exact zA _ (hi.lt _ _ h),λi j d u v g1 n g3=>(F i j d u v g1 n g3).ext K⟩)) C hi
 rw[E]at G |-;exact⟨_,g',_,.inl T,G⟩
end
section
variable{P:fL}{r:Nat}{o o':Obj}
theorem EG{W:fK}(h:W.heap[r]?=O o)(g:o.isCells=U)(f:o'.isCells=U)(a:Addr):(W.putObj r o').cell? a=W.cell? a:=by
 by_cases e:a.block=r
 .have j:W.cell? a=Z:=by
   cases hc:W.cell? a with
   |none=>rfl
   |some v=>obtain⟨x,d,c⟩:=cells_of_cell hc;rw[e,h]at d;cases d;rw[g]at c;cases c
  have k:(W.putObj r o').cell? a=Z:=by
   cases hc:(W.putObj r o').cell? a with
   |none=>rfl
   |some v=>obtain⟨x,d,c⟩:=cells_of_cell hc;rw[e,World.putObj_heap_same (iQ h)]at d;cases d;rw[f]at c;cases c
  rw[j,k]
 .exact World.cell?_of_block (World.putObj_heap_other e)
theorem Ext.put{W:fK}(N:Nat)(g:Gh)(h:W.heap[r]?=O o)(d:o.isCells=U)(c:o'.isCells=U):Ext N g W g (W.putObj r o'):=
 ⟨λ_ _ h=>h,λb o' _=>EG h d c _,λ_ _ h=>⟨rfl,h⟩,λ_ _ v n h=>⟨v,n,h,j7 _,λ_=>rfl⟩⟩
theorem Below.putObj{X:Nat}{w0 W:fK}(c:Below X w0 W)(e:X<=r):Below X w0 (W.putObj r o'):=
 ⟨c.os,c.tape,c.output,by simpa using c.size,λk d=>(World.putObj_heap_other y9).trans (c.block k d)⟩
end
section
variable{P:fL}{X:Nat}{w0:fK}{S0:Nat->Nat->Prop}{g:Gh}{H H':List fU}{w:fK}{p:PV}{o:Oper}{a:Act}{D:fO->PV}
theorem kS{i:Nat}{es:List (Value×PV)}(h:mapOf H i=O es):H[i]?=O (.map es):=by
 simp only[mapOf,jK]at h;obtain⟨b,d,c⟩:=h;rw[d];cases b with
 |map es=>simp only[fU.mapOf]at c;split at c<;>cases c;rfl
 |box|tok|mt|hole=>simp[fU.mapOf]at c
theorem ln{i:Nat}{es:List (Value×PV)}(h:mapOf H i=O es):es.all (λe=>k9 e.1)=J:=by
 simp only[mapOf,jK]at h;obtain⟨b,d,c⟩:=h;cases b with
 |map es=>simp only[fU.mapOf]at c;split at c<;>cases c;assumption
 |box|tok|mt|hole=>simp[fU.mapOf]at c
theorem rO{o:Obj}{arr:Array MapEntry}{es:List (Value×PV)}(h:nQ o=O arr)(hl:arr.size=I es)(d:∀(j:Nat) m c,arr[j]?=O m->es[j]?=O c->m.key=c.1)(hn:es.all (λe=>k9 e.1)=J):∃clock,o=.map arr clock/\arr.all (λe=>k9 e.key)=J/\qm arr clock:=by
 cases o<;>simp only[nQ,reduceCtorEq]at h
 .split at h
  .cases h;exact⟨_,rfl,by assumption⟩
  .cases h
 .cases h
  match es,hl,d,hn with
  |[c],_,d,hn=>
   have:=d 0 _ c rfl rfl;simp[<-this,k9]at hn
theorem O4{ob:Obj}{arr:Array MapEntry}{es:List (Value×PV)}{q:PV}{v:fP}(t:nQ ob=O arr)(hl:arr.size=I es)(n:∀(j:Nat) m c,arr[j]?=O m->es[j]?=O c->m.key=c.1/\∀G N W,fW G N W m.val c.2)(u:fW (g.box (I H) w.heap.size) (I (H++[fU.map es])) (w.alloc ob) v q)(k:Qu P g X (I H) H w)(hi:Inv X w0 S0 g w):Good P X w0 S0 H g w q (H++[.map es]) v (g.box (I H) w.heap.size) (w.alloc ob):=by
 have e:=hi.alloc ob;have p:Ext (I H) g w (g.box (I H) w.heap.size) (w.alloc ob):=(Ext.alloc hi (I H) _).trans (Ext.box (I H) _ (j7 _)) (j7 _);have d:(g.box (I H) w.heap.size).fg (I H)=w.heap.size:=by simp[Gh.box]
 refine⟨p,by simp,u,?_,⟨e.below,e.size,e.kk,e.lt⟩,Fr.kk yB (λb f=>Below.heap_alloc w _ b f) λi b h f=>?_⟩
 .refine Qu.snoc (k.ey p yB (j7 _) (λi b f=>Below.heap_alloc w _ b (k.eM f).2.1) (λ_ _ _ _ h=>h) (λ_ _=>rfl)) _ (λx h=>by cases h) (λ_ _ h=>by cases h) (λi b h r=>?_) (hmap:=λy h=>?_)
  .rw[ku (es:=es) yB,d]at r;cases r;have f:e8 g H i=O w.heap.size:=iE (g:=g) h (λj l=>by simp only[Gh.box];rw[ae y9]) (λj l=>rfl);exact zA _ (k.eM f).2.1
  .cases h;rw[d];exact⟨hi.size,⟨arr,ob,⟨World.alloc_heap_new w _,t⟩,hl,λj m c g1 s=>⟨(n j m c g1 s).1,(n j m c g1 s).2 _ _ _⟩⟩,λo z=>zA _ (hi.lt _ o z)⟩
 .rcases tT h with h|⟨_,rfl⟩
  .exact⟨i,iE (g:=g) h (λj l=>by simp only[Gh.box];rw[ae y9]) (λj l=>rfl)⟩
  .rw[d]at f;exact absurd f (zA _)
theorem Gm{t:fN}(d:o.op=.makeMap t Z)(e:Qu P g X (I H) H w)(hi:Inv X w0 S0 g w):
  Nah P o a X w0 S0 H g w (.hC (I H)) (H++[.map []]):=by
 refine⟨.map (O w.heap.size),g.box (I H) w.heap.size,w.alloc (.map #[] 0),.inl ?_,O4 (arr:=#[]) (by simp[nQ,qm]) rfl (λj m c g1 f=>by simp at f) ?_ e hi⟩
 .simp only[execOp,d];simp[Instr.makeMap]
 .have:=fW.hC (g:=g.box (I H) w.heap.size) (N:=I (H++[fU.map []])) (w:=w.alloc (.map #[] 0)) (I H) ⟨by simp,.inl rfl⟩
  rwa [show(g.box (I H) w.heap.size).fg (I H)=w.heap.size by simp[Gh.box]]at this
theorem DV{q:PV}{v:fP}{i:Nat}{es f:List (Value×PV)}{o o':Obj}(V:H[i]?=O (.map es))(d:Array MapEntry)(s:o.isCells=U/\o'.isCells=U)(y:nQ o'=O d)(z:fW g (I H) w v q)(hl:d.size=I f)(t:∀(j:Nat) m c,d[j]?=O m->f[j]?=O c->m.key=c.1/\fW g (I H) w m.val c.2)(u:w.heap[g.fg i]?=O o)(n:Qu P g X (I H) H w)(hi:Inv X w0 S0 g w):Good P X w0 S0 H g w q (H.set i (.map f)) v g (w.putObj (g.fg i) o'):=by
 have k:i<I H:=(af.1 V).1;have A:g.live i:=n.s3 V;obtain⟨q1,_,q3⟩:=n.map i es V;have r:Ext (I H) g w g (w.putObj (g.fg i) o'):=Ext.put _ g u s.1 s.2
 refine⟨r,by simp,z.ext r yB,?_,⟨Below.putObj hi.below q1,by simpa using hi.size,hi.kk,λb o h=>by simpa using hi.lt b o h⟩,
  ⟨by simp,λb _ hn=>World.putObj_heap_other (λe=>hn i (by rw[ku V,e])),λj b p _=>?_,λb o h=>.inl h⟩⟩
 .refine n.nb r yB (j7 _) _ k (λj b p l=>World.putObj_heap_other (λe=>p (n.sep j i b l (by rw[ku V,e]))))
   (λ_ _ _ _ _ h=>h) (λ_ _ _=>rfl) (λB hc=>by cases hc) (λ_ _ h=>by cases h) (λj b p l h=>?_) (hmap:=λC h=>?_)
  .rw[ku (es:=f) (by simp[k])]at h;cases h;exact p (n.sep j i _ l (ku V))
  .cases h;exact⟨q1,⟨d,o',⟨World.putObj_heap_same (iQ u),y⟩,hl,λj m c g1 x=>⟨(t j m c g1 x).1,(t j m c g1 x).2.ext r yB⟩⟩,q3⟩
 .rcases DG k p with⟨_,h⟩|⟨_,rfl⟩
  .exact⟨j,h⟩
  .exact⟨i,ku V⟩
theorem xP(c:TypeDesc)(x y:fP):Instr.sameNow c x y=EM c x y:=by cases c<;>cases x<;>cases y<;>rfl
theorem uR{f:TypeDesc}{k:fP}:∀(l:List MapEntry) (es:List (Value×PV)) (i:Nat) (r:Option (Nat×PV)),I l=I es->(∀(j:Nat) m c,l[j]?=O m->es[j]?=O c->m.key=c.1)->AW f k es i=O r->
  (r=Z/\Instr.findNow f k l i=O Z)\/∃(j:Nat) (m:MapEntry) (c:Value×PV),r=O (i+j,c.2)/\l[j]?=O m/\es[j]?=O c/\Instr.findNow f k l i=O (O (i+j,m.val))/\EM f k c.1=O J
 |[],[],i,r,_,_,h=>by simp[AW]at h;exact .inl ⟨h.symm,rfl⟩
 |[],_::_,i,r,hl,_,h=>by simp at hl
 |_::_,[],i,r,hl,_,h=>by simp at hl
 |m::l,e::es,i,r,hl,p,h=>by
  have h0:m.key=e.1:=p 0 m e rfl rfl;simp only[AW]at h;split at h
  .rename_i d;cases h;exact .inr ⟨0,m,e,rfl,rfl,rfl,by simp only[Instr.findNow,xP,h0,d];rfl,d⟩
  .rename_i d;rcases uR l es (i+1) r (by simpa using hl) (λj m c g1 v=>p (j+1) m c (by simpa using g1) (by simpa using v)) h with⟨g,n⟩|⟨j,q,c,g,n,s,t,u⟩
   .exact .inl ⟨g,by simp only[Instr.findNow,xP,h0,d];exact n⟩
   .exact .inr ⟨j+1,q,c,by rw[g,show i+1+j=i+(j+1) by omega],by simpa using n,by simpa using s,by simp only[Instr.findNow,xP,h0,d];rw[t,show i+1+j=i+(j+1) by omega],u⟩
  .cases h
theorem Gc{c:TypeDesc}{x y:fP}(h:EM c x y=O J):x=y/\∀n,Instr.sameBits n y x=J:=by
 unfold EM at h;split at h
 .split at h
  .rename_i d;subst d;simp at h;subst h;exact⟨rfl,λn=>by cases n<;>simp[Instr.sameBits]⟩
  .cases h
 .rename_i a b;simp only[j9]at h;have e:a=b:=MapKept.bytes_beq a b|>.1 h;subst e;exact⟨rfl,λn=>by cases n<;>(simp only[Instr.sameBits];exact h)⟩
 .simp at h;subst h;exact⟨rfl,λn=>by cases n<;>simp[Instr.sameBits]⟩
 .cases h
theorem xS{kt:fN}{c:TypeDesc}{k:fP}(d:P.underlying kt=O c)(f:yR c=J)(e:Bool)(n:Nat):(Instr.checkKey e (n+1) kt k).run P w=.ok () w:=by unfold Instr.checkKey;simp only[Sem.run_bind,run_underlying d,Result.andThen];cases c<;>first|(cases f;done)|(cases k<;>rfl)
theorem IM{q:PV}{v u:fP}{N:Nat}(h:q.e6=O u)(c:fW g N w v q):k9 u=J:=by
 have d:=c.e6 h;subst d;unfold PV.e6 at h;split at h
 .cases h;have:=c.hX;cases this;rename_i e;cases v<;>first|rfl|cases e
 .simp only[j5]at h;obtain⟨vs,_,rfl⟩:=h;rfl
 .cases h
structure US (P:fL) (g:Gh) (N:Nat) (w:fK) (b:Nat) (es:List (Value×PV)) (kt:fN) (key:fP) (arr:Array MapEntry) (clock:Nat) (r:Option (Nat×PV)):Prop where
 at_:w.heap[b]?=O (.map arr clock)
 keys:arr.all (λe=>k9 e.key)=J/\k9 key=J
 st:qm arr clock
 size:arr.size=I es
 rep:∀(j:Nat) m c,arr[j]?=O m->es[j]?=O c->m.key=c.1/\fW g N w m.val c.2
 check:∀e n,(Instr.checkKey e (n+1) kt key).run P w=.ok () w
 none:r=Z->(Instr.findKey kt key arr.toList).run P w=.ok Z w
 some:∀j v,r=O (j,v)->∃m c,arr[j]?=O m/\es[j]?=O c/\c.2=v/\(Instr.findKey kt key arr.toList).run P w=.ok (O (j,m.val)) w/\m.key=key/\∀n,Instr.sameBits n m.key key=J
theorem A1{t e:fN}{k:fO}{i:Nat}{es:List (Value×PV)}{y:fP}{r:Option (Nat×PV)}(V:H[i]?=O (.map es))(hn:es.all (λe=>k9 e.1)=J)(d:oh P D k t es=O (y,e,r))(G:Qu P g X (I H) H w)(M:Nai g H w a D):∃kt arr clock,P.underlying t=O (.map kt e)/\a.eval k=y/\US P g (I H) w (g.fg i) es kt y arr clock r:=by
 unfold oh at d;split at d
 case h_2=>cases d
 rename_i kt e' K L p;split at d
 case h_2=>cases d
 rename_i T l;split at d
 case isFalse=>cases d
 rename_i z;simp only[j5,jI]at d;obtain⟨A,B,rfl,rfl,rfl⟩:=d;obtain⟨_,⟨arr,o1,⟨q1,q0⟩,q2,q3⟩,_⟩:=G.map i es V;obtain⟨clock,rfl,q4⟩:=rO q0 q2 (λj m c g1 q=>(q3 j m c g1 q).1) hn;have N:=(M k).e6 p;refine⟨kt,arr,clock,L,N,q1,⟨q4.1,IM p (M k)⟩,q4.2,q2,q3,λe n=>xS l z e n,λhn=>?_,λj v C=>?_⟩
 .rcases uR arr.toList es 0 A (by simpa using q2) (λj m c g1 q=>(q3 j m c (by simpa using g1) q).1) B with⟨_,u⟩|⟨j,m,c,f,_⟩
  .exact MapKept.run_findKey l u
  .rw[hn]at f;cases f
 .rcases uR arr.toList es 0 A (by simpa using q2) (λj m c g1 q=>(q3 j m c (by simpa using g1) q).1) B with⟨f,_⟩|⟨W,m,c,f,u,E,F,Q⟩
  .rw[C]at f;cases f
  .rw[C]at f;simp only[zZ,j9,jI]at f F;obtain⟨rfl,rfl⟩:=f;obtain⟨R,S⟩:=Gc Q;have s:m.key=c.1:=(q3 j m c (by simpa using u) E).1;exact⟨m,c,by simpa using u,E,rfl,MapKept.run_findKey l F,by rw[s,R],λn=>by rw[s];exact S n⟩
theorem IW{arr:Array MapEntry}{e:MapEntry}(h:arr.all (λe=>k9 e.key)=J)(c:k9 e.key=J):(arr.push e).all (λe=>k9 e.key)=J:=by rw[Array.all_push,h,c];rfl
theorem D8{arr:Array MapEntry}{j:Nat}{k:fP}{f:MapEntry->fP}(h:arr.all (λe=>k9 e.key)=J)(c:k9 k=J):(arr.modify j λe=>{e with key:=k,val:=f e}).all (λe=>k9 e.key)=J:=by
 rw[Array.all_eq_true]at h |-;intro i hi;rw[ft];split
 .exact c
 .exact h i (by simpa using hi)
theorem F7{arr:Array MapEntry}{clock:Nat}(h:qm arr clock)(k v:fP):qm (arr.push {key:=k,val:=v,born:=clock}) (clock+1):=by
 refine⟨λx c=>?_,?_⟩
 .rw[Array.toList_push,aU,jY]at c;rcases c with c|rfl
  .exact Nat.lt_succ_of_lt (h.1 x c)
  .exact du _
 .rw[Array.toList_push,zM];refine List.nodup_append.2 ⟨h.2,by simp,λa d b e=>?_⟩;obtain⟨x,c,rfl⟩:=aq.1 d;have:=h.1 x c;simp at e;omega
theorem BW{arr:Array MapEntry}{clock:Nat}(h:qm arr clock)(j:Nat)(f:MapEntry->MapEntry)(c:∀e,(f e).born=e.born):qm (arr.modify j f) clock:=by
 have e:(arr.modify j f).toList.map (·.born)=arr.toList.map (·.born):=by
  refine cE yB λi l m=>?_
  simp only[eC,Array.getElem_toList,ft];split <;>simp[c]
 refine⟨λx d=>?_,by rw[e];exact h.2⟩
 have:x.born∈arr.toList.map (·.born):=by rw[<-e];exact aq.2 ⟨x,d,rfl⟩
 obtain⟨y,g,k⟩:=aq.1 this;rw[<-k];exact h.1 y g
theorem nK{t e:fN}{m k x:fO}{i:Nat}{es:List (Value×PV)}{p:fP}{r:Option (Nat×PV)}(l:o.op=.mapUpdate t m k x\/o.op=.insert t m k x)(u:D m=.hC i)(V:H[i]?=O (.map es))(hn:es.all (λe=>k9 e.1)=J)(N:oh P D k t es=O (p,e,r))(y:Qu P g X (I H) H w)(hi:Inv X w0 S0 g w)(M:Nai g H w a D):
  Nah P o a X w0 S0 H g w (.fz []) (H.set i (.map (match r with|some (j,_)=>es.set j (p,D x)|none=>es++[(p,D x)]))):=by
 obtain⟨kt,arr,clock,B,C,F⟩:=A1 V hn N y M;have z:=M m;rw[u]at z;generalize E:a.eval m=v at z;cases z with
 |hC _ Q=>
  cases r with
  |none=>
   have n:=F.none rfl
   have f:(execOp a.eval o).run P w=.ok .skip (w.putObj (g.fg i) (.map (arr.push {key:=p,val:=a.eval x,born:=clock}) (clock+1))):=by rcases l with l|l<;>simp only[execOp,l,E,C]<;>simp[Instr.mapUpdate,run_underlying B,MapKept.run_getObj_map F.at_,F.check,n,MapKept.run_setObj_map _ F.at_,World.putObj]
   refine⟨undef,g,_,.inr ⟨f,rfl⟩,DV V _ ⟨rfl,rfl⟩ (aj ⟨IW F.keys.1 F.keys.2,F7 F.st _ _⟩) (.fz _ _ rfl λj v c h=>by simp at h) (by simp[F.size]) (λj G c g1 d=>?_) F.at_ y hi⟩;rw[Array.getElem?_push]at g1;rw[jT]at d;by_cases s:j<I es
   .rw[aj s]at d;rw[ae (by rw[F.size];omega)]at g1;exact F.rep j G c g1 d
   .rw[ae s]at d;by_cases A:j=I es
    .subst A;rw[aj F.size.symm]at g1;simp at g1 d;subst g1;subst d;exact⟨rfl,M x⟩
    .have:([(p,D x)]:List (Value×PV))[j - I es]?=Z:=aD yA
     rw[this]at d;cases d
  |some q=>
   obtain⟨j,v0⟩:=q;obtain⟨G,c,K,T,W,R,Y,S⟩:=F.some j v0 rfl
   have f:(execOp a.eval o).run P w=.ok .skip (w.putObj (g.fg i) (.map (arr.modify j λe=>{e with key:=p,val:=a.eval x}) clock)):=by rcases l with l|l<;>simp only[execOp,l,E,C]<;>simp[Instr.mapUpdate,run_underlying B,MapKept.run_getObj_map F.at_,F.check,R,MapKept.run_setObj_map _ F.at_,World.putObj,Instr.keyThatStays,K,S]
   refine⟨undef,g,_,.inr ⟨f,rfl⟩,DV V _ ⟨rfl,rfl⟩ (aj ⟨D8 F.keys.1 F.keys.2,BW F.st _ _ λ_=>rfl⟩) (.fz _ _ rfl λj v c h=>by simp at h) (by simp[F.size]) (λL m2 c2 g1 d=>?_) F.at_ y hi⟩;rw[fb]at g1;rw[zF]at d;by_cases s:j=L
   .subst s;rw[aj rfl,K]at g1;rw[aj rfl]at d;split at d
    .simp at g1 d;subst g1;subst d;exact⟨rfl,M x⟩
    .cases d
   .rw[ae s]at g1 d;exact F.rep L m2 c2 g1 d
theorem A9{t e:fN}{m k:fO}{ok:Bool}{i:Nat}{es:List (Value×PV)}{K:fP}{r:Option (Nat×PV)}(A:o.op=.lookup t m k ok)(n:D m=.hC i)(V:H[i]?=O (.map es))(hn:es.all (λe=>k9 e.1)=J)(L:oh P D k t es=O (K,e,r)){q:PV}(B:match r with|some (_,v)=>q=v|none=>∃z,gB P e=O z/\q=.b7 z)(p:Qu P g X (I H) H w)(hi:Inv X w0 S0 g w)(M:Nai g H w a D):
  Nah P o a X w0 S0 H g w (if ok then .fz [q,Qp r.isSome]else q) H:=by
 obtain⟨kt,arr,clock,C,E,F⟩:=A1 V hn L p M;have s:=M m;rw[n]at s;generalize G:a.eval m=v at s
 have fin:∀u b,fW g (I H) w u q->fW g (I H) w (if ok then .tuple #[u,.bool b]else u) (if ok then .fz [q,Qp b]else q):=λu b h=>by
  cases ok with
  |false=>exact h
  |true=>
   refine .fz _ _ rfl λj v c g1 d=>?_
   match j,g1,d with
   |0,g1,d=>simp at g1 d;subst g1;subst d;exact h
   |1,g1,d=>simp at g1 d;subst g1;subst d;exact .b7 _ _ (.raw _ rfl)
   |j+2,g1,d=>simp at d
 cases s with
 |hC _ N=>
  cases r with
  |none=>
   obtain⟨z,Q,rfl⟩:=B;obtain⟨ie,y,R,T,W,_⟩:=iS Q;have f:=F.none rfl;refine⟨if ok then .tuple #[y,.bool U]else y,g,w,.inl ?_,.same p hi (fin y U (.b7 _ _ (W w g.S)))⟩;simp only[execOp,A,G,E];simp[Instr.lookup,run_underlying C,MapKept.run_getObj_map F.at_,F.check,f,zeroValue,typeInfo,R,T]
  |some x=>
   obtain⟨j,v0⟩:=x;obtain⟨l,c,Y,h2,h3,h4,h5,h6⟩:=F.some j v0 rfl;obtain rfl:q=v0:=B;refine⟨if ok then .tuple #[l.val,.bool J]else l.val,g,w,.inl ?_,.same p hi (fin l.val J (by rw[<-h3];exact(F.rep j l c Y h2).2))⟩;simp only[execOp,A,G,E];simp[Instr.lookup,run_underlying C,MapKept.run_getObj_map F.at_,F.check,h4]
theorem Gi{x:fO}{ts:Array TypeId}{t kt f:fN}{i:Nat}{es:List (Value×PV)}(k:o.op=.call {callee:=.builtin .len,args:=#[x],argTypes:=ts})(l:ts[0]?=O t)(n:P.underlying t=O (.map kt f))(p:D x=.hC i)(V:mapOf H i=O es)(e:Qu P g X (I H) H w)(hi:Inv X w0 S0 g w)(M:Nai g H w a D):
  Nah P o a X w0 S0 H g w (Qd (I es:Int)) H:=by
 have d:=M x;rw[p]at d;generalize q:a.eval x=v at d;cases d with
 |hC _ r=>
  obtain⟨_,⟨arr,o1,⟨q1,q0⟩,q2,q3⟩,_⟩:=e.map i es (kS V);obtain⟨clock,rfl,_⟩:=rO q0 q2 (λj m c g1 s=>(q3 j m c g1 s).1) (ln V);refine⟨.int .i64 (I es),g,w,.inl ?_,.same e hi (.b7 _ _ (.raw _ rfl))⟩;simp[execOp,k,resolve,invoke,builtin,Builtin.len_,l,run_underlying n,q,MapKept.run_getObj_map q1,goInt,q2]
theorem u5{t e:fN}{len size:Nat}{c:Array (Nat×Operand)}{ds:List fS}(n:o.op=.buildSlice t len c)(p:fV P t=O e)(q:gq P e=O size)(r:(gB P e).isSome=J)(s:gR H (c.toList.map λ(_,x)=>D x)=O ds)(hl:c.size=len)(u:oK 0 c.toList=J)(y:ds.all (fS.fits size)=J)(h0:0<size)(j:len*size<=16777216)(k:c.toList.any (λ(_,x)=>(D x).fx)=U)(f:ds=[])(m:Qu P g X (I H) H w)(hi:Inv X w0 S0 g w)(M:Nai g H w a D):
  Nah P o a X w0 S0 H g w (.ms (I H) 0 0 0 0) (H++[.mt e 0 []]):=by
 obtain⟨vals,z,F,A,G⟩:=og (S0:=S0) (w0:=w0) n p q r s hl u y h0 j k m hi M;subst f;obtain rfl:len=0:=by simpa using A.symm
 have l:=hi.alloc (.cells vals e);have B:=m.alloc hi (j7 _) (.cells vals e);obtain⟨g',d⟩:=sq (P:=P) (S0:=S0) (w0:=w0) B l e (O ⟨w.heap.size,0,Z⟩);have C:Ext (I H) g w g (w.alloc (.cells vals e)):=Ext.alloc hi (I H) _;exact⟨_,g',_,.inl z,C.trans d.ext (j7 _),d.len,d.rep,d.heap,d.inv,(Fr.kk yB (λb E=>Below.heap_alloc w _ b E) λi b h _=>⟨i,h⟩).trans d.fr⟩
theorem Gq{op:BinOp}{t B:fN}{x y:fO}{b:Bool}(r:o.op=.binOp op t x y B)(M:Nai g H w a D)(f:ux P op t (D x) y=O b):
  (execOp a.eval o).run P w=.ok (.value (.bool b)) w:=by
 unfold ux at f;split at f
 .rename_i e C;simp only[jK]at f;obtain⟨c,hc,f⟩:=f;have j:=M x
  have key:∃ad n cap,a.eval x=.slice ad n cap/\ad.isNone=c:=by
   split at hc
   .rename_i b' m;cases hc;rw[m]at j;generalize a.eval x=v at j;cases j with
    |j0 b v s E=>
     cases l:c with
     |true=>exact⟨Z,0,0,s l,rfl⟩
     |false=>obtain⟨a,cap,rfl⟩:=E l;exact⟨O a,0,cap,rfl,rfl⟩
   .rename_i d ds m;cases hc;rw[m]at j;have:=j.hX;generalize a.eval x=v at this;cases this with
    |ew b off len cap k es F s=>exact⟨_,_,_,rfl,rfl⟩
   .cases hc
  obtain⟨ad,n,cap,u,p⟩:=key
  have q:∀d,(Op.equalIn (d+1) t (.slice ad n cap) (.slice Z 0 0)).run P w=.ok c w:=λd=>by subst p;cases ad<;>simp[Op.equalIn,run_underlying C]
  have z:=q 9999;have A:a.eval (.const (.slice Z 0 0))=.slice Z 0 0:=rfl;split at f
  .cases f;simp only[execOp,r,u,A];simp[binOp,eqGuard,Op.equal,Op.maxDepth,z]
  .cases f;simp only[execOp,r,u,A];simp[binOp,eqGuard,Op.equal,Op.maxDepth,z]
  .cases f
 .cases f
theorem Ct{t e:fN}{x:fO}{lo hi:Option Operand}{size i off len cap:Nat}(B:o.op=.slice t x lo hi Z)(C:fV P t=O e)(r:gq P e=O size)(E:D x=.arr i off len cap)(f:CH D lo hi size i off len cap=O p)(F:Qu P g X (I H) H w)(s:Inv X w0 S0 g w)(M:Nai g H w a D):
  Nah P o a X w0 S0 H g w p H:=by
 have u:=M x;rw[E]at u;generalize G:a.eval x=v at u;unfold CH at f;split at f
 .rename_i l h c d;split at f
  .rename_i hc;obtain⟨j,m⟩:=hc;cases u with
   |arr _ _ _ _ k1 k2=>
    have K:(Instr.sliceBounds J len cap (lo.map a.eval) (hi.map a.eval) Z).run P w=.ok (l,h,cap) w:=by
     unfold Instr.sliceBounds;cases hi with
     |none=>
      cases lo with
      |none=>simp[jc]at c d;subst c d;simp
      |some lo=>
       obtain⟨k,y⟩:=kz (M lo) c;simp[jc]at d;subst d;simp[iR (P:=P) .sliceB y j w]
     |some hi=>
      obtain⟨L,n⟩:=kz (M hi) d;cases lo with
      |none=>simp[jc]at c;subst c;simp[iR (P:=P) .sliceAcap n m w]
      |some lo=>
       obtain⟨k,y⟩:=kz (M lo) c;simp[iR (P:=P) .sliceB y j w,iR (P:=P) .sliceAcap n m w]
    have q:gN P o a w (.slice (if cap=l then O ⟨g.fg i,off,Z⟩else(O (⟨g.fg i,off,Z⟩:Addr)).map (·.add (l*size))) (h - l) (cap - l)) w:=.inl (by simp[execOp,B,Instr.sliceAt,Instr.slice,run_underlying (Q0 C),G,K,iZ r]);refine⟨_,g,w,q,.same F s ?_⟩;cases f;by_cases A:l=0\/l<h
    .rw[aj A]
     have z:(if cap=l then O ⟨g.fg i,off,Z⟩else(O (⟨g.fg i,off,Z⟩:Addr)).map (·.add (l*size)))=O ⟨g.fg i,off+l*size,Z⟩:=by
      split
      .rename_i e
       have:l=0:=by omega
       subst this;simp
      .simp[jm]
     rw[z];exact .arr _ _ _ _ k1 y9
    .rw[ae A]
     have:h - l=0:=by omega
     rw[this];refine .b7 _ _ ?_;split <;>exact .empty _ _
  .cases f
 .cases f
def Gh.ma(g:Gh)(H:List fU)(t n m:Nat):Gh:={g with S:=λb o=>g.S b o\/(e8 g H t=O b/\o<m),own:=λj=>if j=t then O (.slice Z 0 0,n+1)else g.own j}
theorem B1{te:fN}{cs:List PV}{t n:Nat}(s:H[t]?=O (.mt te n cs))(k:Qu P g X (I H) H w)(hi:Inv X w0 S0 g w):
  Ext (I H) g w (g.ma H t n (mN cs)) w/\Qu P (g.ma H t n (mN cs)) X (I H) (H.set t (.mt te (n+1) [])) w/\Inv X w0 S0 (g.ma H t n (mN cs)) w/\Fr g H w (g.ma H t n (mN cs)) (H.set t (.mt te (n+1) [])) w:=by
 have l:t<I H:=(af.1 s).1;obtain⟨y,k1,_⟩:=k.mt t _ _ _ s;have c:(g.ma H t n (mN cs)).own t=O (.slice Z 0 0,n+1):=by simp[Gh.ma]
 have u:Ext (I H) g w (g.ma H t n (mN cs)) w:=⟨λ_ _ h=>.inl h,λ_ _ _=>rfl,λ_ _ h=>⟨rfl,h⟩,λj _ v m h=>by
  by_cases e:j=t
  .subst e;rw[k1]at h;cases h;exact⟨_,_,c,by omega,λh=>by omega⟩
  .exact⟨v,m,by simpa[Gh.ma,e]using h,j7 _,λ_=>rfl⟩⟩
 have f:∀b,e8 (g.ma H t n (mN cs)) (H.set t (.mt te (n+1) [])) t≠O b:=λb h=>by rw[iO (e:=te) (n:=n+1) (cs:=[]) (by simp[l]),c]at h;simp[gh]at h
 refine⟨u,?_,⟨hi.below,hi.size,λb o h=>?_,λb o h=>?_⟩,⟨j7 _,λ_ _ _=>rfl,λi b d _=>?_,λb o h=>?_⟩⟩
 .refine k.nb u (j7 _) (j7 _) _ l (λ_ _ _ _=>rfl) (λi b p q o h=>?_) (λj _ x=>by simp[Gh.ma,x]) (λr hc=>by cases hc) (λ_ _ h=>by cases h) (λi b p q h=>f b h) (λe' n' r hc=>?_)
  .rcases h with h|⟨h,_⟩
   .exact h
   .exact absurd (k.sep i t b q h) p
  .cases hc;exact⟨_,c,.inl ⟨rfl,.inl rfl⟩⟩
 .rcases h with h|⟨h,_⟩
  .exact hi.kk b o h
  .exact .inr (k.eM h).1
 .rcases h with h|⟨h,_⟩
  .exact hi.lt b o h
  .exact(k.eM h).2.1
 .by_cases e:i=t
  .subst e;exact absurd d (f b)
  .refine⟨i,?_⟩;unfold e8 at d |-;rw[dI (λh=>e h.symm)]at d
   simpa[Gh.ma,e]using d
 .rcases h with h|⟨h,_⟩
  .exact .inl h
  .exact .inr (.inr ⟨t,h⟩)
theorem Nn{t gg lo len cp:Nat}{v:fP}{te:fN}{cs:List PV}{d:fS}(j:H[t]?=O (.mt te gg cs))(r:Qu P g X (I H) H w)(s:fW g (I H) w v (.ms t gg lo len cp))(e:gH H (.ms t gg lo len cp)=O d):
  gL w (g.ma H t gg (mN cs)).S v d:=by
 have p:∀b o,g.S b o->(g.ma H t gg (mN cs)).S b o:=λ_ _ h=>.inl h
 have u:Ext 0 g w (g.ma H t gg (mN cs)) w:=⟨p,λ_ _ _=>rfl,λ_ h=>absurd h (bY _),λ_ h=>absurd h (bY _)⟩;cases s with
 |ms t gg lo len cp v v0 n C q D x y=>
  have k:ga H t=O (te,gg,cs):=by simp[ga,j,fU.ga]
  simp only[gH,k,ak]at e;rw[jK]at e;obtain⟨ds,f,e⟩:=e;split at e
  .rename_i l;cases e;obtain⟨E,k1,k2⟩:=r.mt t _ _ _ j;rw[q]at k1;simp only[j9,jI]at k1;obtain⟨rfl,rfl⟩:=k1;exact Hs k2 (x rfl).1 f l (by obtain⟨a,c,z,_,A,_⟩:=y;exact⟨a,c,z,A⟩) p (λb o m B=>.inr ⟨by rw[iO j,q];exact m,B⟩)
  .cases e
theorem mW:∀(cs:List PV) (vs:List Value) (g:Gh) (H:List fU) (ds:List fS) (H':List fU),Qu P g X (I H) H w->Inv X w0 S0 g w->(∀(j:Nat) v c,vs[j]?=O v->cs[j]?=O c->fW g (I H) w v c)->gy H cs=O (ds,H')->
  ∃g',I H'=I H/\Ext (I H) g w g' w/\Qu P g' X (I H) H' w/\Inv X w0 S0 g' w/\Fr g H w g' H' w/\(I ds)=I cs/\∀(j:Nat) v d,vs[j]?=O v->ds[j]?=O d->gL w g'.S v d
 |[],vs,g,H,ds,H',l,hi,n,h=>by simp only[gy,j9,jI]at h;obtain⟨rfl,rfl⟩:=h;exact⟨g,rfl,Ext.refl _ _ _,l,hi,Fr.refl _ _ _,rfl,λj v d _ h=>by simp at h⟩
 |c::cs,vs,g,H,ds,H',l,hi,n,h=>by
  simp only[gy]at h;cases e:iw H c with
  |none=>rw[e]at h;cases h
  |some x=>
   obtain⟨d,H1⟩:=x;rw[e]at h;simp only at h;cases p:gy H1 cs with
   |none=>rw[p]at h;cases h
   |some y=>
    obtain⟨ds',H2⟩:=y;rw[p]at h;simp only[j9,jI]at h;obtain⟨rfl,rfl⟩:=h
    have key:∃g1,I H1=I H/\Ext (I H) g w g1 w/\Qu P g1 X (I H) H1 w/\Inv X w0 S0 g1 w/\Fr g H w g1 H1 w/\∀v,fW g (I H) w v c->gL w g1.S v d:=by
     cases c with
     |b7 D=>
      simp only[iw,j9,jI]at e;obtain⟨rfl,rfl⟩:=e;exact⟨g,rfl,Ext.refl _ _ _,l,hi,Fr.refl _ _ _,λv f=>f.hX⟩
     |vec t es=>
      simp only[iw,j9,jI]at e;obtain⟨rfl,rfl⟩:=e;exact⟨g,rfl,Ext.refl _ _ _,l,hi,Fr.refl _ _ _,λv f=>by cases f;assumption⟩
     |ms t gg lo len cp=>
      simp only[iw]at e;cases k:gH H (.ms t gg lo len cp)with
      |none=>rw[k]at e;cases e
      |some D=>
       cases V:ga H t with
       |none=>rw[k,V]at e;cases e
       |some z=>
        obtain⟨te,g',E⟩:=z;rw[k,V]at e;simp only[j9,jI]at e;obtain⟨rfl,rfl⟩:=e
        have q:g'=gg:=by
         simp only[gH,V]at k;split at k
         .assumption
         .cases k
        subst q;obtain⟨k1,k2,k3,F⟩:=B1 (ZO V) l hi;exact⟨_,by simp,k1,k2,k3,F,λv f=>Nn (ZO V) l f k⟩
     |_=>simp[iw]at e
    obtain⟨g1,l1,C,r,s,G,K⟩:=key
    obtain⟨L,l2,u,m,A,M,N,Q⟩:=mW cs vs.tail g1 H1 ds' H2 (by rw[l1];exact r) s (λj v R f hc=>by have:=n (j+1) v R (by rw[List.getElem?_tail]at f;exact f) (by simpa using hc);rw[l1];exact this.ext C (j7 _)) p
    rw[l1]at l2 u m;refine⟨L,l2,C.trans u (j7 _),m,A,G.trans M,by simp[N],λj v T f B=>?_⟩;cases j with
    |zero=>
     simp at B;subst B;exact(K v (n 0 v c f rfl)).ext u
    |succ j=>exact Q j v T (by rw[List.getElem?_tail];exact f) (by simpa using B)
end
section
variable{P:fL}{X:Nat}{w0:fK}{S0:Nat->Nat->Prop}{g:Gh}{H:List fU}{w:fK}{o:Oper}{a:Act}{D:fO->PV}
theorem qa{d g:Type}(f:d->List g)(size:Nat):∀(l:List d),(∀x∈l,I (f x)=size)->∀i j,j<size->(l.flatMap f)[i*size+j]?=(l[i]?).bind λx=>(f x)[j]?
 |[],_,i,j,_=>by simp
 |x::l,h,0,j,c=>by rw[aI,eK,zZ,zP (by rw[h x yB];exact c)];rfl
 |x::l,h,i+1,j,c=>by have e:=h x yB;rw[aI,zO (by rw[e,av];omega),e,show(i+1)*size+j - size=i*size+j by rw[av];omega,qa f size l (λy k=>h y (jG _ k)) i j c];rfl
theorem pL{c d:Type}(f:c->List d)(size:Nat):∀(l:List c),(∀x∈l,I (f x)=size)->I (l.flatMap f)=I l*size
 |[],_=>by simp
 |x::l,h=>by rw[aI,jW,h x yB,pL f size l λy e=>h y (jG _ e),zH,av];omega
theorem Eg{m size n:Nat}(h0:0<size)(h:m<n*size):∃i j,m=i*size+j/\i<n/\j<size:=
 ⟨m/size,m%size,by rw[bK];exact(cz m size).symm,(fh h0).2 h,br _ h0⟩
theorem CO{t e:fN}{len size:Nat}{f:Array (Nat×Operand)}(Y:o.op=.buildSlice t len f)(L:fV P t=O e)(y:gq P e=O size)(A:(gB P e).isSome=J)(hl:f.size=len)(hd:oK 0 f.toList=J)(h0:0<size)(h24:len*size<=16777216)(B:sw D size f.toList=J)(hH:Qu P g X (I H) H w)(hi:Inv X w0 S0 g w)(M:Nai g H w a D):
  Nah P o a X w0 S0 H g w (.arr (I H) 0 len len) (H++[.box (f.toList.flatMap λ(_,x)=>(D x).cells)]):=by
 obtain⟨z,A⟩:=aC.1 A;obtain⟨Q,C,R,i2,_⟩:=iS A;have n:Q.size=size:=by simp only[gq,R,jN,j9]at y;exact y
 have s:∀q∈f.toList,(D q.2).cells.length=size/\(D q.2).cells.all PV.cell=J:=λq k=>by
  have:=an.1 B q k
  simpa only[jE,bE]using this
 have hc:∀q∈f.toList,(a.eval q.2).cells.size=size/\∀(j:Nat) u c,(a.eval q.2).cells[j]?=O u->(D q.2).cells[j]?=O c->fW g (I H) w u c:=λq k=>by obtain⟨c1,c2⟩:=(M q.2).cells (kG (s q k).2);exact⟨by rw[c1,(s q k).1],c2⟩
 obtain⟨vals,f1,f2,f3,_⟩:=nh (size:=size) (f.toList.map λ(i,x)=>(i,a.eval x)) 0 ((Array.range (len*size)).map (C.cells[· %C.cells.size]!)) (λi q h=>by simp only[jD,j5]at h;obtain⟨S,h,rfl⟩:=h;exact⟨pN _ 0 hd i S h,(hc S (jF h)).1⟩) (by simp[hl])
 have p:vals.size=len*size:=by rw[f2];simp
 have E:I f.toList=len:=by simpa using hl
 have F:=pL (λ(q:Nat×Operand)=>(D q.2).cells) size f.toList λq k=>(s q k).1
 have hb:(Instr.buildSlice t len (f.map λ(i,x)=>(i,a.eval x))).run P w=.ok (.slice (O ⟨w.heap.size,0,Z⟩) len len) (w.alloc (.cells vals e)):=by
  by_cases e7:len*size=0
  .have G:len=0:=by
    rcases eW.1 e7 with h|h
    .exact h
    .omega
   subst G;have K:f=#[]:=by simpa using hl
   subst K
   have:vals=#[]:=by simpa using p
   subst this;simp[Instr.buildSlice,run_underlying (Q0 L),iZ y,Instr.fill,newRow,eu]
  .refine run_buildSlice w t e len _ vals Q C (Q0 L) R i2 (by rw[n];omega) (by rw[n];exact e7) ?_;rw[n];simpa using f1
 have r:=tX (P:=P) (S0:=S0) (w0:=w0) hH hi vals e (f.toList.flatMap λ(_,x)=>(D x).cells) (by rw[p];exact(F.trans (by rw[E])).symm) (λm v d g1 g2=>by
  have V:m<len*size:=by rw[<-p];exact(aA.1 g1).1
  obtain⟨i,j,rfl,hil,T⟩:=Eg h0 V;have k:f.toList[i]?=O (f.toList[i]'y9):=jC y9;have l:(f.toList.flatMap λq=>(D q.2).cells)[i*size+j]?=O d:=g2;rw[qa (λ(q:Nat×Operand)=>(D q.2).cells) size f.toList (λq k=>(s q k).1) i j T,k]at l;simp only[zX]at l;generalize f.toList[i]'y9=q at k l;have W:=f3 i j (q.1,a.eval q.2) (by simp only[jD,k,jN]) T;rw[zZ,g1]at W;exact(hc q (jF k)).2 j v d W.symm l)
 refine⟨.slice (O ⟨w.heap.size,0,Z⟩) len len,g.box (I H) w.heap.size,w.alloc (.cells vals e),.inl (by simp[execOp,Y,hb]),r.ext,r.len,?_,r.heap,r.inv,r.fr⟩;have:=fW.arr (g:=g.box (I H) w.heap.size) (N:=I (H++[fU.box (f.toList.flatMap λ(_,x)=>(D x).cells)])) (w:=w.alloc (.cells vals e)) (I H) 0 len len ⟨by simp,.inl rfl⟩ (j7 _)
 rwa [show(g.box (I H) w.heap.size).fg (I H)=w.heap.size by simp[Gh.box]]at this
theorem BL{e i off len cap size:Nat}{x:fO}{ts:fN}{cs:List PV}{z:fS}(ho:o.op=.call {callee:=.builtin .clear,args:=#[x],argTypes:=#[ts]})(hty:fV P ts=O e)(hz:gB P e=O z)(l:I z.cells=size)(hx:D x=.arr i off len cap)(R:H[i]?=O (.box cs))(e7:0<len)(E:off+len*size<=I cs)(hH:Qu P g X (I H) H w)(hi:Inv X w0 S0 g w)(M:Nai g H w a D):
  Nah P o a X w0 S0 H g w (.fz []) (H.set i (.box (cs.take off++(Nab len (z.cells.map PV.b7)).flatten++cs.drop (off+len*size)))):=by
 obtain⟨ie,Q,i1,i2,i3,_,i5⟩:=iS hz;obtain⟨z1,z2⟩:=(i3 w g.S).cells
 have T:∀u∈Q.cells.toList,u.oneCell'=J:=qn (g:=g) (N:=I H) (w:=w) (fW.b7 Q z (i3 w g.S)) (by
  rw[j8]at i5 |-;intro p hp
  have:p∈z.cells.map PV.b7:=hp
  obtain⟨d,hd,rfl⟩:=aq.1 this;have:=i5 d hd;cases d<;>first|rfl|(simp[fS.ez]at this))
 generalize W:(Nab len (z.cells.map PV.b7)).flatten=es;generalize F:(Builtin.zeroCells Q.cells len).toList=news;have y:I es=len*size:=by rw[<-W];simp[List.length_flatten,l]
 have r:I news=len*size:=by rw[<-F];simp[Builtin.zeroCells,z1,l]
 have Y:∀m,m<len*size->es[m]?=(z.cells[m%size]?).map PV.b7:=λm V=>by
  have h0:0<size:=by rcases dU size with e|e;(rw[e]at V;simp at V);exact e
  obtain⟨p,q,rfl,hp,hq⟩:=Eg h0 V;have:=qa (λx:List PV=>x) size (Nab len (z.cells.map PV.b7)) (λx hx=>by rw[bZ hx];simp[l]) p q hq;rw[List.flatMap_id']at this;rw[<-W,this,zN,aj hp,bK p size,eT,cq hq];simp
 have A:∀m,m<len*size->news[m]?=Q.cells[m%size]?:=λm V=>by
  have h0:0<size:=by rcases dU size with e|e;(rw[e]at V;simp at V);exact e
  have t:m%size<Q.cells.size:=by rw[z1,l];exact br _ h0
  rw[<-F];simp only[Builtin.zeroCells,Array.toList_map,Array.toList_range,jD,z1,l,fC V,jN];rw[getElem!_pos Q.cells _ t,jA t]
 have hrep:∀(m:Nat) u c,news[m]?=O u->es[m]?=O c->fW g (I H) w u c:=λm u c h1 h2=>by
  have V:m<len*size:=by rw[<-r];exact(af.1 h1).1
  rw[A m V]at h1;rw[Y m V,j5]at h2;obtain⟨d,hd,rfl⟩:=h2;exact .b7 _ _ (z2 _ u d h1 hd)
 have G:∀u∈news,u.oneCell'=J:=λu hu=>by obtain⟨m,V⟩:=aT hu;rw[A m (by rw[<-r];exact(af.1 V).1)]at V;exact T u (by rw[aA]at V;obtain⟨t,rfl⟩:=V;exact dn t)
 have hr:=M x;rw[hx]at hr;generalize hv:a.eval x=v at hr;generalize hn:len*size=n at *;cases hr with
 |arr _ _ _ _ s hcap=>
  obtain⟨s,hil⟩:=s;obtain⟨q1,⟨vals,ty,k1,k2,k3⟩,q3⟩:=hH.box i cs R;have hst:=run_storeCells_at P (g.fg i) off ty news 0 vals w k1 (by rw[r];omega) G;simp only[zY]at hst;generalize B:(vals.toList.take off++news++vals.toList.drop (off+I news))=new at hst
  have hget:∀j,new[j]?=if j<off then vals[j]? else if j<off+n then news[j - off]? else vals[j]?:=λj=>by rw[<-B,iP _ _ _ (by rw[r];simp;omega),r];simp
  have hds:∀j,(cs.take off++es++cs.drop (off+n))[j]?=if j<off then cs[j]? else if j<off+n then es[j - off]? else cs[j]?:=λj=>by have:=iP cs es off (by rw[y];exact E) j;rw[y]at this;exact this
  have K:(w.setRow (g.fg i) new.toArray).heap[g.fg i]?=O (.cells new.toArray ty (0,0)):=setRow_heap w _ _ _ _ _ k1
  have f:Ext (I H) g w g (w.setRow (g.fg i) new.toArray):=⟨λ_ _ h=>h,λb o' hs=>cell_setRow_other w _ _ _ (λe=>by simp only at e;subst e;exact q3 o' hs),λ_ _ h=>⟨rfl,h⟩,λ_ _ v n h=>⟨v,n,h,j7 _,λ_=>rfl⟩⟩
  refine⟨.tuple #[],g,_,.inl ?_,f,by simp,.fz _ _ rfl (λj v c h=>by simp at h),?_,⟨?_,by simp;exact hi.size,hi.kk,λb o' hs=>by simp;exact hi.lt b o' hs⟩,⟨by simp,λb _ hn=>setRow_other w _ _ _ (λe=>hn i (by rw[iI R,e])),λj b hj _=>?_,λb o h=>.inl h⟩⟩
  .obtain⟨k,rfl⟩:∃k,len=k+1:=⟨len - 1,by omega⟩;simp[execOp,ho,resolve,invoke,builtin,hv,Builtin.clear_,run_underlying (Q0 hty),zeroValue,typeInfo,i1,i2,F,hst]
  .refine hH.nb f yB (j7 _) _ s (λj b hj L=>setRow_other w _ _ _ (λe=>hj (hH.sep j i b L (by rw[iI R,e]))))
    (λ_ _ _ _ _ h=>h) (λ_ _ _=>rfl) (λcs' hc=>?_) (λ_ _ h=>by cases h) (λj b hj L h=>?_)
   .cases hc;refine⟨q1,⟨new.toArray,ty,K,?_,λj u c g1 C=>?_⟩,q3⟩
    .rw[<-B];simp only[cb,jW,zW,y7,bj];omega
    .simp only[bb]at g1;rw[hget]at g1;rw[hds]at C;split at g1
     .rename_i h;rw[aj h]at C;exact(k3 j u c g1 C).ext f yB
     .rename_i h;rw[ae h]at C;split at g1
      .rename_i h';rw[aj h']at C;exact(hrep _ u c g1 C).ext f yB
      .rename_i h';rw[ae h']at C;exact(k3 j u c g1 C).ext f yB
   .rw[iI (cs:=cs.take off++es++cs.drop (off+n)) (by simp[s])]at h;cases h;exact hj (hH.sep j i _ L (iI R))
  .exact below_setRow hi.below q1 _
  .rcases wv s hj with⟨_,h⟩|⟨_,⟨cs',_,rfl⟩|⟨e,n,h,_⟩⟩
   .exact⟨j,h⟩
   .exact⟨i,iI R⟩
   .cases h
end
end Go.Pm
