/-
 The pure machine: a deterministic interpreter of the translated code over data without addresses. Definitions alone; its soundness stands in PmSound.
-/
import Derived.WalkKit
namespace Go.Pm
open Go
abbrev ae:=@List.getElem?_eq_some_iff
abbrev af:=@if_neg
abbrev ai:=@if_pos
abbrev aj:=@if_false
abbrev ak:=@if_true
abbrev an:=@List.all_eq_true
abbrev aq:=@List.mem_cons
abbrev ar:=@List.mem_map
abbrev au:=@Nat.mul_le_mul_right
abbrev av:=@Nat.add_mul
abbrev aw:=@List.eq_nil_of_length_eq_zero
abbrev ay:=@Array.getElem?_eq_some_iff
abbrev aA:=@Option.isSome_iff_exists
abbrev aB:=@List.append_assoc
abbrev aC:=@Int.le_refl
abbrev aD:=@Nat.le_mul_of_pos_right
abbrev aE:=@Option.getD_some
abbrev aF:=@List.getElem?_eq_none
abbrev aG:=@Array.getElem?_append
abbrev aH:=@List.eq_of_mem_replicate
abbrev aI:=@Int.mul_le_mul_of_nonneg_right
abbrev aJ:=@List.replicate_succ
abbrev aK:=@Nat.mul_one
abbrev aL:=@List.getElem?_of_mem
abbrev aM:=@List.singleton_append
abbrev aN:=@List.map_nil
abbrev aO:=@List.getElem?_toArray
abbrev aP:=@Array.length_toList
abbrev aQ:=@List.map_congr_left
abbrev aR:=@List.all_map
abbrev aS:=@List.flatMap_cons
abbrev aT:=@List.pairwise_cons
abbrev aU:=@List.drop_eq_getElem_cons
abbrev aV:=@List.mem_append
abbrev aW:=@List.cons_append
abbrev aX:=@Int.emod_lt_of_pos
abbrev aY:=@Bool.true_and
abbrev aZ:=@Bool.decide_and
abbrev bb:=@Bool.not_eq_true
abbrev bd:=@Nat.mod_lt
abbrev bg:=@Int.mul_le_mul
abbrev bj:=@Int.mul_comm
abbrev bk:=@List.mem_filter
abbrev bn:=@Int.mul_le_mul_of_nonneg_left
abbrev bo:=@beq_iff_eq
abbrev bp:=@List.any_eq_false
abbrev bq:=@List.all_cons
abbrev br:=@Int.toNat_zero
abbrev bz:=@Int.emod_nonneg
abbrev bA:=@Nat.one_mul
abbrev bB:=@Nat.mul_comm
abbrev bC:=@Bool.not_true
abbrev bD:=@List.ext_getElem?
abbrev bE:=@List.mem_flatMap
abbrev bF:=@Int.mul_assoc
abbrev bG:=@List.filter_cons_of_pos
abbrev bH:=@List.filter_cons_of_neg
abbrev bI:=@congrArg
abbrev bJ:=@Int.emod_eq_of_lt
abbrev bK:=@List.size_toArray
abbrev bL:=@Nat.not_lt_zero
abbrev bM:=@List.getElem_of_mem
abbrev bN:=@Option.bind_eq_bind
abbrev bO:=@Int.mul_one
abbrev bP:=@Nat.add_assoc
abbrev bQ:=@Option.isNone_iff_eq_none
abbrev bR:=@Int.natCast_mul
abbrev bS:=@List.length_eq_zero_iff
abbrev bT:=@List.getElem?_cons_zero
abbrev bU:=@Int.toNat_of_nonneg
abbrev bV:=@List.not_mem_nil
abbrev bW:=@List.ext_getElem
abbrev bX:=@Nat.mod_eq_of_lt
abbrev bY:=@List.zipWith_cons_cons
abbrev bZ:=@List.set_cons_succ
abbrev ca:=@List.mem_singleton
abbrev cb:=@Nat.le_of_eq
abbrev cd:=@List.foldl_cons
abbrev cg:=@List.length_singleton
abbrev cj:=@Nat.div_add_mod
abbrev ck:=@List.set_getElem_self
abbrev cm:=@Bool.not_eq_true'
abbrev cn:=@Nat.lt_trichotomy
abbrev cq:=@Int.one_mul
abbrev cr:=@Int.mul_nonneg
abbrev ct:=@List.mem_range
abbrev cu:=@Bool.false_and
abbrev cw:=@List.drop_zero
abbrev cy:=@Int.natCast_emod
abbrev cz:=@List.countP_cons
abbrev cA:=@List.range'_succ
abbrev cB:=@Nat.sub_self
abbrev cC:=@List.countP_cons_of_pos
abbrev cD:=@List.countP_cons_of_neg
abbrev cE:=@Bool.false_or
abbrev cF:=@List.drop_of_length_le
abbrev cG:=@List.take_of_length_le
abbrev cH:=@Int.add_mul
abbrev cI:=@Array.getElem!_eq_getD
abbrev cJ:=@Int.toNat_natCast
abbrev cK:=@Array.isEmpty_iff
abbrev cL:=@Int.emod_add_mul_ediv
abbrev cM:=@Array.getElem?_setIfInBounds
abbrev cN:=@Array.size_range
abbrev cO:=@List.take_length
abbrev cP:=@Nat.le_of_not_lt
abbrev cQ:=@Int.tmod_eq_emod_of_nonneg
abbrev cR:=@List.map_id
abbrev cT:=@List.getD_cons_succ
abbrev cU:=@List.countP_eq_zero
abbrev cV:=@List.pairwise_iff_getElem
abbrev cW:=@List.countP_map
abbrev cX:=@Array.getElem_mem_toList
abbrev cY:=@Bool.and_true
abbrev cZ:=@Nat.lt_succ_self
abbrev db:=@List.any_eq_true
abbrev dc:=@List.flatMap_nil
abbrev dd:=@List.isEmpty_iff
abbrev de:=@List.eq_nil_or_concat
abbrev df:=@List.concat_eq_append
abbrev dg:=@List.mem_append_right
abbrev dh:=@List.length_filter_le
abbrev di:=@Array.getElem?_setIfInBounds_ne
abbrev dj:=@Array.eq_empty_of_size_eq_zero
abbrev dn:=@Bool.or_true
abbrev dp:=@Int.ediv_nonneg
abbrev dq:=@List.replicate_succ'
abbrev dr:=@Int.add_comm
abbrev dt:=@List.mem_of_mem_drop
abbrev du:=@Option.map_none
abbrev dv:=@List.getElem?_set_ne
abbrev dw:=@List.range_eq_range'
abbrev dx:=@List.flatMap_append
abbrev dy:=@List.countP_pos_iff
abbrev dz:=@Bool.and_false
abbrev dA:=@Nat.mul_le_mul
abbrev dB:=@List.drop_drop
abbrev dC:=@List.take_left
abbrev dD:=@Int.mul_add
abbrev dE:=@Nat.mod_one
abbrev dF:=@List.countP_append
abbrev dG:=@List.mem_replicate
abbrev dH:=@Int.lt_tmod_of_pos
abbrev dI:=@Nat.eq_zero_or_pos
abbrev dJ:=@Array.foldl_toList
abbrev dK:=@Int.tdiv_eq_ediv_of_nonneg
abbrev dL:=@Int.add_mul_emod_self_left
abbrev dM:=@List.map_take
abbrev dN:=@List.pairwise_map
abbrev dP:=@Array.range_zero'
abbrev dQ:=@List.all_eq_false
abbrev dR:=@Array.size_append
abbrev dS:=@List.mem_or_eq_of_mem_set
abbrev dT:=@List.getElem_map
abbrev dU:=@List.filter_cons
abbrev dV:=@List.length_erase_of_mem
abbrev dW:=@List.drop_length
abbrev dX:=@Array.getElem?_replicate
abbrev dY:=@List.eraseIdx_cons_succ
abbrev dZ:=@List.getElem?_cons_succ
abbrev ea:=@List.nodup_cons
abbrev ej:=@List.range_succ
abbrev eu:=@Nat.mul_add_mod
abbrev eA:=@Nat.le_add_left
abbrev eB:=@Int.natCast_add
abbrev eC:=@Nat.mul_eq_zero
abbrev eE:=@List.length_pos_of_mem
abbrev eF:=@Int.mul_sub
abbrev eG:=@Int.sub_mul
abbrev eH:=@Nat.le_succ
abbrev eJ:=@List.getElem_cons_zero
abbrev eK:=@Array.getElem?_modify
abbrev eL:=@List.zipWith_nil_left
abbrev eM:=@Nat.div_lt_iff_lt_mul
abbrev eN:=@Array.mem_of_getElem?
abbrev eO:=@List.drop_left
abbrev eP:=@List.mem_erase_of_ne
abbrev eQ:=@Nat.div_lt_of_lt_mul
abbrev eS:=@Bool.or_eq_false_iff
abbrev eT:=@Array.getElem?_range
abbrev eU:=@List.getElem_toArray
abbrev eV:=@Array.getElem_modify
abbrev eW:=@Int.zero_emod
abbrev eX:=@List.any_cons
abbrev eY:=@List.length_pos_iff
abbrev eZ:=@List.filter_eq_self
abbrev e7:=@Nat.mul_le_mul_left
abbrev e8:=@Int.le_trans
abbrev fb:=@Int.zero_mul
abbrev fc:=@Int.add_zero
abbrev fe:=@Nat.zero_mul
abbrev ff:=@Int.zero_add
abbrev fg:=@List.map_set
abbrev fh:=@Nat.sub_mul
abbrev fj:=List Int
abbrev fk:=World
abbrev fm:=Program
abbrev fo:=FuncId
abbrev fq:=TypeId
abbrev ft:=Operand
abbrev fu:=Value
abbrev j5:=@Option.map_eq_some_iff
abbrev j6:=@Bool.false_eq_true
abbrev j7:=@Nat.le_refl
abbrev j8:=@List.all_eq_true
abbrev j9:=@Option.some.injEq
abbrev jA:=@Array.getElem?_eq_getElem
abbrev jB:=@List.getD_eq_getElem?_getD
abbrev jC:=@List.getElem?_eq_getElem
abbrev jD:=@List.getElem?_map
abbrev jE:=@Bool.and_eq_true
abbrev jF:=@List.mem_of_getElem?
abbrev jG:=@List.mem_cons_of_mem
abbrev jH:=@Array.getD_eq_getD_getElem?
abbrev jI:=@Prod.mk.injEq
abbrev jJ:=@Int.natCast_zero
abbrev jK:=@Option.bind_eq_some_iff
abbrev jL:=@List.length_nil
abbrev jM:=@List.mem_cons_self
abbrev jN:=@Option.map_some
abbrev jO:=@Bool.true_eq_false
abbrev jP:=@Nat.lt_of_lt_of_le
abbrev jQ:=@List.nil_append
abbrev jR:=@List.getElem?_take
abbrev jS:=@Option.some.inj
abbrev jT:=@List.getElem?_append
abbrev jU:=@List.append_nil
abbrev jV:=@List.length_append
abbrev jW:=@Nat.le_trans
abbrev jX:=@List.mem_singleton
abbrev jY:=@List.length_map
abbrev jZ:=@Nat.lt_irrefl
abbrev zA:=@Nat.lt_of_lt_of_eq
abbrev zB:=@Int.eq_ofNat_of_zero_le
abbrev zC:=@List.getElem_mem
abbrev zD:=@decide_eq_true_eq
abbrev zE:=@List.getElem?_set
abbrev zF:=@List.map_map
abbrev zG:=@List.length_cons
abbrev zH:=@Array.getElem?_toList
abbrev zI:=@List.getElem?_drop
abbrev zJ:=@List.length_replicate
abbrev zK:=@Array.getElem?_map
abbrev zL:=@List.map_append
abbrev zM:=@List.getElem?_replicate
abbrev zN:=@List.getElem?_append_right
abbrev zO:=@List.getElem?_append_left
abbrev zP:=@Nat.zero_le
abbrev zQ:=@List.all_append
abbrev zR:=@List.mem_of_mem_take
abbrev zS:=@Bool.or_eq_true
abbrev zT:=@List.length_set
abbrev zU:=@List.map_cons
abbrev zV:=@List.length_take
abbrev zW:=@Option.bind_some
abbrev zX:=@Nat.add_zero
abbrev zY:=@Nat.zero_add
abbrev zZ:=@decide_eq_false
abbrev y3:=@decide_false
abbrev y5:=@List.mem_append_left
abbrev y6:=@List.length_drop
abbrev y7:=@List.take_append_drop
theorem y8{p:Prop}(h:p:=by omega):p:=h
theorem y9{p:Prop}(h:p:=by simp;omega):p:=h
theorem yA{p:Prop}(h:p:=by simp):p:=h
theorem yB{p:Prop}(h:p:=by exact λ_=>rfl):p:=h
theorem yC{p:Prop}(h:p:=by decide):p:=h
inductive fy where
 |raw (v:fu)
 |lst (es:List fy)
 |agg (cs:List fy)
 deriving Inhabited
inductive PV where
 |dat (d:fy)
 |agg (cs:List PV)
 |tup (vs:List PV)
 |vec (t:Nat) (es:List fy)
 |ptr (i o:Nat)
 |iptr (cs:List fy)
 |arr (i o len cap:Nat)
 |fn (f:fo) (cap:List PV)
 |ms (t g lo len cap:Nat)
 |mp (t g j:Nat)
 |mapv (i:Nat)
 |empv (isNil:Bool)
 |undef
 deriving Inhabited
inductive fB where
 |box (cs:List PV)
 |tok (e:fq) (n:Nat)
 |mt (e:fq) (g:Nat) (cs:List PV)
 |map (es:List (Value×PV))
 |hole
 deriving Inhabited
structure St where
 slots:List PV
 heap:List fB
def isRaw:fu->Bool
 | .bool _|.int _ _|.string _|.pointer none|.map none|.chan none|.nilFunc|.nilIface=>true
 | .func (.func _) first cap=>first.isEmpty &&cap.isEmpty
 |_=>false
def fy.cells:fy->List fy
 | .agg cs=>cs
 |d=>[d]
def fy.num:fy->Nat
 | .agg cs=>cs.length
 |_=>1
def fy.isCell:fy->Bool
 | .agg _=>false
 |_=>true
def wQ(lo:Nat)(ds:List fy):Bool:=ds.all fy.isCell||(lo==0 &&ds.all λd=>!d.isCell)
def fy.fits(size:Nat)(d:fy):Bool:=d.num==size &&d.cells.all fy.isCell
def PV.cells:PV->List PV
 | .dat d=>d.cells.map .dat
 | .agg cs=>cs
 |v=>[v]
def gQ:List PV->Option (List fy)
 |[]=>some []
 | .dat d::r=>(gQ r).map (d::·)
 |_::_=>none
def mkAgg(cs:List PV):PV:=
 match gQ cs with
 |some ds=>.dat (.agg ds)
 |none=>.agg cs
def PV.cell:PV->Bool
 | .dat (.raw _)|.dat (.lst _)|.vec ..|.ptr ..|.iptr _|.arr ..|.fn ..|.ms ..|.mp ..|.mapv _|.empv _=>true
 |_=>false
def tX:fu->Option fy
 | .slice none 0 0=>some (.lst [])
 | .agg cs=>if cs.all isRaw then some (.agg (cs.toList.map .raw))else none
 |v=>if isRaw v then some (.raw v)else none
def qv(v:fu):PV:=
 match v with
 | .tuple vs=>if vs.isEmpty then .tup []else .undef
 |v=>match tX v with|some d=>.dat d|none=>.undef
def wY:Nat->Option (List fy):=λ_=>none
def ev(s:List PV):ft->PV
 | .tmp t=>s.getD t (.tup [])
 | .const v=>qv v
 | .func f=>.dat (.raw (.func (.func f) #[] #[]))
 | .global g=>match wY g with|some cs=>.iptr cs|none=>.undef
def nP:List fy->Option (List Value)
 |[]=>some []
 | .raw v::r=>(nP r).map (v::·)
 |_::_=>none
def PV.toVal:PV->Option Value
 | .dat (.raw v)=>some v
 | .dat (.agg cs)=>(nP cs).map λvs=>.agg vs.toArray
 |_=>none
def iK(P:fm){c:Type}:Sem c->Option c
 | .pure a=>some a
 | .program k=>iK P (k P)
 |_=>none
def rF(v:fu):Option PV:=
 match v with
 | .tuple vs=>if vs.all isRaw then some (.tup (vs.toList.map λv=>.dat (.raw v)))else none
 |v=>(tX v).map .dat
section
variable(P:fm)
def fJ(t:fq):Option Nat:=(P.info? t).map (·.size)
def bytesOf(t:fq):Option Nat:=(P.info? t).map (·.bytes)
def pF(t:fq):Option Bool:=(P.underlying t).map λ|.struct _|.array _ _=>true|_=>false
def fL(t:fq):Option fy:=((P.info? t).bind (·.zero)).bind rawZero
 where
 rawZero:fu->Option fy
 | .agg cs=>(cells cs.toList).map .agg
 |v=>tX v
 cells:List Value->Option (List fy)
 |[]=>some []
 |v::r=>if isRaw v then(cells r).map (.raw v::·)else match v with|.slice none 0 0=>(cells r).map (.lst []::·)|_=>none
def fieldsOf(t:fq):Option (List Field):=
 match P.underlying t with
 |some (.struct fs)=>some fs.toList
 |_=>none
def fA(t:fq):Option TypeId:=
 match P.underlying t with
 |some (.slice e)=>some e
 |_=>none
def lV(t:fq):Option (Nat×TypeId):=
 match P.underlying t with
 |some (.array n e)=>some (n,e)
 |_=>none
def cut{c:Type}(cs:List c)(o n:Nat):Option (List c):=
 if o+n<=cs.length then some ((cs.drop o).take n)else none
def nY{c:Type}(cs:List c)(o:Nat)(vs:List c):Option (List c):=
 if o+vs.length<=cs.length then some (cs.take o++vs++cs.drop (o+vs.length))else none
def ofCells(agg:Bool)(cs:List PV):Option PV:=
 if agg then some (mkAgg cs)else match cs with|[c]=>some c|_=>none
def kL(agg:Bool)(cs:List fy):Option fy:=
 if agg then some (.agg cs)else match cs with|[c]=>some c|_=>none
def fB.mtOf:fB->Option (TypeId×Nat×List PV)
 | .box _=>none
 | .tok _ _=>none
 | .map _=>none
 | .hole=>none
 | .mt e g cs=>some (e,g,cs)
def mtOf(H:List fB)(t:Nat):Option (TypeId×Nat×List PV):=(H[t]?).bind fB.mtOf
def mh(size len:Nat)(ds:List fy):List fy:=(List.range len).map λi=>.agg ((ds.drop (i*size)).take size)
def wy(cs:List PV)(o len cap:Nat):Option (List fy):=
 if o=0/\0<cap/\2*cap<=cs.length then((cut cs 0 (len*(cs.length/cap))).bind gQ).bind λds=>if ds.all fy.isCell then some (mh (cs.length/cap) len ds)else none
 else((cut cs o len).bind gQ).bind λds=>if ds.all fy.isCell then some ds else none
def fR(H:List fB):PV->Option fy
 | .dat d=>some d
 | .empv _=>some (.lst [])
 | .vec _ es=>some (.lst es)
 | .arr i o len cap=>match H[i]? with
  |some (.box cs)=>(wy cs o len cap).map .lst
  |_=>none
 | .ms t g lo len _=>match mtOf H t with
  |some (_,g',cs)=>if g'=g then((cut cs lo len).bind gQ).bind λds=>if wQ lo ds then some (.lst ds)else none else none
  |none=>none
 |_=>none
def kC(H:List fB):List PV->Option (List fy)
 |[]=>some []
 |c::r=>match fR H c,kC H r with|some d,some ds=>some (d::ds)|_,_=>none
def iu(H:List fB):PV->Option fy
 | .agg cs=>(kC H cs).map .agg
 |c=>fR H c
def gp(H:List fB):List PV->Option (List fy)
 |[]=>some []
 |c::r=>match iu H c,gp H r with|some d,some ds=>some (d::ds)|_,_=>none
def PV.isArr:PV->Bool
 | .arr ..|.ms ..=>true
 |_=>false
def PV.lends:PV->Bool
 | .arr ..|.ms ..=>true
 | .agg cs=>cs.any PV.isArr
 |_=>false
def fy.scalar:fy->Bool
 | .raw _=>true
 | .agg cs=>cs.all λ|.raw _=>true|_=>false
 | .lst _=>false
def jx:fu->Bool
 | .tuple _=>false
 |_=>true
def fB.mapOf:fB->Option (List (Value×PV))
 | .map es=>if es.all (λe=>jx e.1)then some es else none
 |_=>none
def mapOf(H:List fB)(i:Nat):Option (List (Value×PV)):=(H[i]?).bind fB.mapOf
def pI(s:ByteArray)(pos:Nat):List (Value×PV):=[(.tuple #[.string s],.dat (.raw (.int .i64 pos)))]
def DA:List (Value×PV)->Option (ByteArray×Nat)
 |[(.tuple vs,.dat (.raw (.int .i64 n)))]=>match vs.toList with
  |[.string s]=>if 0<=n then some (s,n.toNat)else none
  |_=>none
 |_=>none
def zh(H:List fB)(i:Nat):Option (ByteArray×Nat):=match H[i]? with
 |some (.map es)=>DA es
 |_=>none
def r8(s:ByteArray)(pos i:Nat)(H:List fB):PV×List fB:=
 if pos<s.size then(.tup [.dat (.raw (.bool true)),.dat (.raw (.int .i64 pos)),.dat (.raw (.int .i32 (Utf8.decode s pos).1))],H.set i (.map (pI s (pos+(Utf8.decode s pos).2))))
 else(.tup [.dat (.raw (.bool false))],H)
def BF:TypeDesc->fu->fu->Option Bool
 | .int _,.int k a,.int c b=>if k=c then some (a==b)else none
 | .string,.string a,.string b|.bool,.bool a,.bool b=>some (a==b)
 |_,_,_=>none
def ye(kind:TypeDesc)(k:fu):List (Value×PV)->Nat->Option (Option (Nat×PV))
 |[],_=>some none
 |e::es,i=>match BF kind k e.1 with
  |some true=>some (some (i,e.2))
  |some false=>ye kind k es (i+1)
  |none=>none
def xe:TypeDesc->Bool
 | .int _|.string|.bool=>true
 |_=>false
def iW(k:Nat)(cs:List PV):List (Nat×TypeId)->Option (List PV×List fB)
 |[]=>some (cs,[])
 |(j,e)::r=>match cs[j]? with
  |some (.dat (.lst []))=>match iW (k+1) (cs.set j (.vec k [])) r with
   |some (cs,bs)=>some (cs,.tok e 0::bs)
   |none=>none
  |_=>none
def kW{d:Type}(c:Nat->Option (Nat×Nat))(cs:List d):List (Nat×List d)->Option (List d)
 |[]=>some cs
 |(i,vs)::r=>match c i with
  |none=>none
  |some (off,size)=>if vs.length=size then(nY cs off vs).bind λcs=>kW c cs r else none
def rh(t:fq):Option (Nat->Option (Nat×Nat)):=
 match P.underlying t with
 |some (.struct fs)=>(fs.toList.mapM λf=>(P.info? f.type).map λi=>(f.offset,i.size)).map λl i=>l[i]?
 |some (.array _ e)=>(fJ P e).map λs i=>some (i*s,s)
 |_=>none
def lb(d:Nat->Option (Nat×Nat))(j:Nat)(c:List (Nat×Operand)):Bool:=
 c.all λ(i,_)=>match d i with|some (off,size)=>j<off||off+size<=j|none=>false
def np:Nat->List (Nat×Operand)->Bool
 |_,[]=>true
 |k,(i,_)::r=>i==k &&np (k+1) r
def pV:PV->Option Nat
 | .dat (.raw (.int _ n))=>if 0<=n then some n.toNat else none
 |_=>none
def iD(ρ:ft->PV)(d:Nat):Option Operand->Option Nat
 |none=>some d
 |some x=>pV (ρ x)
def nF:PV->Option Bool
 | .dat (.raw (.bool b))=>some b
 |_=>none
def Qd(n:Int):PV:=.dat (.raw (.int .i64 n))
def Qp(b:Bool):PV:=.dat (.raw (.bool b))
abbrev gk:=FuncId->List PV->List fB->Option (PV×List fB)
def gO:Nat:=140737488355328
def sg(H:List fB)(e:fq)(size bytes:Nat)(s:PV)(es:List fy):Option (PV×List fB):=
 if es.all (fy.fits size)then
  match s with
  | .vec t xs=>match H[t]? with
   |some (.tok e' n)=>if xs.all (fy.fits size)/\e'=e/\n=xs.length/\(xs.length+es.length)*bytes<=gO then
     some (.vec t (xs++es),H.set t (.tok e (xs.length+es.length)))else none
   |_=>none
  |_=>none
 else none
def iE(H:List fB):PV->Option (List fy)
 | .empv _=>some []
 | .dat (.lst es)=>some es
 | .vec _ es=>some es
 | .arr i o len cap=>match fR H (.arr i o len cap)with|some (.lst ds)=>some ds|_=>none
 |_=>none
def EM:List (Nat×TypeId)->Bool
 |(j,_)::_=>j==1001
 |[]=>false
def qB(ρ:ft->PV)(size:Nat)(c:List (Nat×Operand)):Bool:=c.all λ(_,x)=>(ρ x).cells.length==size &&(ρ x).cells.all PV.cell
def iR(H:List fB):PV->Option (List PV)
 | .ms t g lo len _=>match mtOf H t with
  |some (_,g',cs)=>if g'=g then cut cs lo len else none
  |none=>none
 |p=>match iE H p with
  |some es=>if es.all fy.isCell then some (es.map .dat)else none
  |none=>none
def PV.flat:PV->Bool
 | .dat (.agg _)=>false
 |_=>true
def ku(H:List fB)(e bytes tt g lo len cap:Nat)(es:List PV):Option (PV×List fB):=
 if es.all PV.cell/\lo=0 then
  if es.isEmpty then some (.ms tt g lo len cap,H)else
  match mtOf H tt with
  |some (e',g',cs)=>if g'=g/\e'=e then
    if len+es.length<=cs.length then some (.ms tt g 0 (len+es.length) (max cap (len+es.length)),H.set tt (.mt e g (cs.take len++es++cs.drop (len+es.length))))
    else if len=cs.length/\(len+es.length)*bytes<=gO then some (.ms tt (g+1) 0 (len+es.length) (len+es.length),H.set tt (.mt e (g+1) (cs++es)))
    else none
   else none
  |none=>none
 else none
def wi(H:List fB)(e bytes:Nat)(es:List fy):Option (PV×List fB):=
 if es.all fy.isCell=true/\es.length*bytes<=gO then
  some (.ms H.length (if es.isEmpty then 0 else 1) 0 es.length es.length,H++[.mt e (if es.isEmpty then 0 else 1) (es.map .dat)])else none
def oy(H:List fB)(e size bytes tt g lo len:Nat)(x:PV):Option (PV×List fB):=
 match iE H x,mtOf H tt with
 |some es,some (e',g',cs)=>if 1<size/\es.all (fy.fits size)/\lo=0/\g'=g/\e'=e/\len=cs.length/\0<es.length/\(len+es.length)*bytes<=gO/\cs.all (λc=>!c.flat)=true then
   some (.ms tt (g+1) 0 (len+es.length) (len+es.length),H.set tt (.mt e (g+1) (cs++es.map .dat)))else none
 |_,_=>none
def oJ(H:List fB)(e size bytes:Nat)(z:fy)(c:Int):Option (PV×List fB):=
 if 0<=c/\c*bytes<=gO/\c<=9223372036854775807/\0<bytes/\(size=1/\z.isCell=true\/1<size/\z.fits size=true)then
  (if c=0 then some (.ms H.length 0 0 0 0,H++[.mt e 0 []])else some (.ms H.length 1 0 c.toNat c.toNat,H++[.mt e 1 (List.replicate c.toNat (.dat z))]))else none
def tL(H:List fB)(e bytes tt g lo len:Nat)(z:fy)(n:Nat):Option (PV×List fB):=
 match mtOf H tt with
 |some (e',g',cs)=>if g'=g/\g=0/\e'=e/\cs=[]/\lo=0/\len=0/\0<n/\n*bytes<=gO/\z.isCell=true then some (.ms tt (g+1) 0 n n,H.set tt (.mt e (g+1) (List.replicate n (.dat z))))else none
 |none=>none
def tE(H:List fB):PV->Option (List PV)
 | .arr i o len _=>match H[i]? with
  |some (.box cs)=>cut cs o len
  |_=>none
 | .dat (.lst es)|.vec _ es=>if es.all fy.isCell then some (es.map .dat)else none
 | .ms t g lo len _=>match mtOf H t with
  |some (_,g',cs)=>if g'=g then cut cs lo len else none
  |none=>none
 |_=>none
def PV.isMap:PV->Bool
 | .mapv _=>true
 |_=>false
def lr:PV->Option Nat
 | .ms _ _ _ len _=>some len
 | .empv _=>some 0
 | .dat (.lst es)=>some es.length
 | .vec _ es=>some es.length
 | .arr _ _ len _=>some len
 |_=>none
def fZ(b:Builtin)(argTypes:Array TypeId)(args:List PV)(H:List fB):Option (PV×List fB):=
 match b,args with
 | .len,[x]=>match(argTypes[0]?).bind P.underlying with
  |some (.slice _)=>match lr x with
   |some n=>some (Qd (n:Int),H)
   |none=>none
  |some (.map _ _)=>match x with
   | .mapv i=>match mapOf H i with
    |some es=>some (Qd (es.length:Int),H)
    |none=>none
   |_=>none
  |_=>none
 | .copy,[.arr i o len _,x]=>match(argTypes[0]?).bind (fA P)with
  |some e=>if fJ P e=some 1 then
    match H[i]?,tE H x with
    |some (.box cs),some es=>if es.all PV.cell then(nY cs o (es.take (min es.length len))).map λcs=>(Qd ((min es.length len:Nat):Int),H.set i (.box cs))else none
    |_,_=>none
   else none
  |none=>none
 | .cap,[.ms tt g lo len _]=>match(argTypes[0]?).bind P.underlying with
  |some (.slice _)=>match mtOf H tt with
   |some (_,g',cs)=>if g'=g/\g=0/\cs=[]/\lo=0/\len=0 then some (Qd 0,H)else none
   |none=>none
  |_=>none
 | .append,[.ms tt g lo len _,.dat (.raw (.int _ n))]=>match argTypes.toList with
  |[t,c]=>match fA P t,P.underlying c with
   |some e,some (.int _)=>match bytesOf P e,fL P e with
    |some bytes,some z=>if fJ P e=some 1/\0<bytes/\0<=n/\n<=9223372036854775807 then tL H e bytes tt g lo len z n.toNat else none
    |_,_=>none
   |_,_=>none
  |_=>none
 | .append,[.ms tt g lo len cap,x]=>match argTypes.toList with
  |[t,c]=>match fA P t with
   |some e=>match bytesOf P e,iR H x with
    |some bytes,some es=>if fJ P e=some 1/\0<bytes/\c=t/\(fL P e).map fy.num=some 1 then ku H e bytes tt g lo len cap es
     else if es.isEmpty=true/\lo=0/\c=t/\(fJ P e).isSome=true then some (.ms tt g lo len cap,H)else none
    |some bytes,none=>match fJ P e with
     |some size=>if 0<bytes/\c=t/\(fL P e).map fy.num=some size then oy H e size bytes tt g lo len x else none
     |none=>none
    |_,_=>none
   |none=>none
  |_=>none
 | .append,[.arr _ _ 0 0,.dat (.lst es)]=>match argTypes.toList with
  |[t,c]=>match fA P t with
   |some e=>match bytesOf P e with
    |some bytes=>if fJ P e=some 1/\0<bytes/\c=t/\(fL P e).map fy.num=some 1 then wi H e bytes es else none
    |none=>none
   |none=>none
  |_=>none
 | .append,[s,x]=>match argTypes.toList with
  |[t,c]=>match fA P t with
   |some e=>match fJ P e,bytesOf P e,iE H x with
    |some size,some bytes,some es=>if 0<size/\0<bytes/\c=t/\(fL P e).map fy.num=some size then sg H e size bytes s es else none
    |_,_,_=>none
   |none=>none
  |_=>none
 | .clear,[.ms tt g lo len _]=>match argTypes.toList with
  |[t]=>match fA P t with
   |some e=>match fL P e,mtOf H tt with
    |some z,some (e',g',cs)=>if g'=g/\e'=e/\z.isCell/\fJ P e=some 1/\0<len/\lo+len<=cs.length then
      some (.tup [],H.set tt (.mt e g (cs.take lo++List.replicate len (.dat z)++cs.drop (lo+(List.replicate len (PV.dat z)).length))))else none
    |_,_=>none
   |none=>none
  |_=>none
 | .clear,[.arr i off len _]=>match argTypes.toList with
  |[t]=>match fA P t with
   |some e=>match fL P e,fJ P e,H[i]? with
    |some z,some size,some (.box cs)=>if 0<len/\off+len*size<=cs.length/\z.cells.length=size then
      some (.tup [],H.set i (.box (cs.take off++(List.replicate len (z.cells.map PV.dat)).flatten++cs.drop (off+len*size))))else none
    |_,_,_=>none
   |none=>none
  |_=>none
 | .clear,[.dat (.lst [])]=>match argTypes.toList with
  |[t]=>if(fA P t).isSome then some (.tup [],H)else none
  |_=>none
 |_,_=>none
def sn(ρ:ft->PV)(lo hi:Option Operand)(tt g c len cap:Nat):Option PV:=
 match iD ρ 0 lo,iD ρ len hi with
 |some l,some h=>if l<=h/\h<=max len cap then some (if l=0\/l<h then .ms tt g (c+l) (h - l) (max len cap - l)else .dat (.lst []))else none
 |_,_=>none
def zu(ρ:ft->PV)(lo hi:Option Operand)(size i off len cap:Nat):Option PV:=
 match iD ρ 0 lo,iD ρ len hi with
 |some l,some h=>if l<=h/\h<=cap then some (if l=0\/l<h then .arr i (off+l*size) (h - l) (cap - l)else .dat (.lst []))else none
 |_,_=>none
def mM(ρ:ft->PV)(k:ft)(t:fq)(es:List (Value×PV)):Option (Value×TypeId×Option (Nat×PV)):=
 match P.underlying t,(ρ k).toVal with
 |some (.map kt e),some c=>match P.underlying kt with
  |some d=>if xe d then(ye d c es 0).map λr=>(c,e,r)else none
  |none=>none
 |_,_=>none
def gv(o:Oper)(ρ:ft->PV)(H:List fB):Option (PV×List fB):=
 let vals:=o.op.operands.toList.map λx=>(ρ x).toVal
 if vals.all Option.isSome then
  match iK P (execOp (λx=>((ρ x).toVal).getD undef) o)with
  |some (.value v)=>(rF v).map (·,H)
  |_=>none
 else none
def Bi(op:BinOp)(t:fq)(p q:PV):Option Bool:=
 match p,q with
 | .fn _ _,.dat (.raw .nilFunc)=>match P.underlying t with
  |some (.func _ _ _)=>match op with|.eql=>some false|.neq=>some true|_=>none
  |_=>none
 | .ptr _ _,.dat (.raw (.pointer none))|.iptr _,.dat (.raw (.pointer none))=>match P.underlying t with
  |some (.pointer _)=>match op with|.eql=>some false|.neq=>some true|_=>none
  |_=>none
 |_,_=>none
def ti(op:BinOp)(t:fq)(p:PV)(y:ft):Option Bool:=
 match P.underlying t,y with
 |some (.slice _),.const (.slice none 0 0)=>
  (match p with|.empv b=>some b|.dat (.lst (_::_))=>some false|_=>none).bind λb=>match op with|.eql=>some b|.neq=>some (!b)|_=>none
 |_,_=>none
def PV.isFn:PV->Bool
 | .fn ..=>true
 |_=>false
def uP(d:List (Nat×TypeId))(ρ:ft->PV)(c:List (Nat×Operand)):Bool:=!d.isEmpty &&(!c.isEmpty &&c.all λ(_,x)=>(ρ x).isFn)
def PV.plainCell:PV->Bool
 | .dat d=>d.scalar
 |_=>false
def kf(call:gk)(f:fo)(args:List PV)(H:List fB):Option (PV×List fB):=
 match gp H args with
 |some ds=>match call f (ds.map .dat) []with
  |some (.ms t g 0 len _,H')=>match mtOf H' t with
   |some (e,g',cs)=>if g'=g/\len<=cs.length/\(gQ (cs.take len)).isSome/\(!(args.any PV.lends)||(cs.take len).all PV.plainCell)then some (.ms H.length 1 0 len len,H++[.mt e 1 (cs.take len)])else none
   |none=>none
  |some (.mapv 0,[.map es])=>if args.isEmpty=true/\es.all (λe=>e.2.plainCell)=true then some (.mapv H.length,H++[.map es])else none
  |_=>none
 |none=>none
def uR(call:gk)(f:fo)(ops:List Operand)(args:List PV)(j:Nat)(e:fq)(H:List fB):Option (PV×List fB):=
 match ops[j]? with
 |some (.const (.slice none 0 0))=>call f (args.set j (.ms H.length 0 0 0 0)) (H++[.mt e 0 []])
 |_=>none
def Gl:fu->fu->Bool
 | .int k a,.int c b=>decide (k=c) &&a==b
 | .bool a,.bool b=>a==b
 | .string a,.string b=>a.data==b.data
 | .nilFunc,.nilFunc=>true
 | .pointer none,.pointer none=>true
 | .map none,.map none=>true
 | .nilIface,.nilIface=>true
 | .func (.func f) x y,.func (.func g) d e=>(decide (f=g) &&(x.toList.isEmpty &&d.toList.isEmpty)) &&(y.toList.isEmpty &&e.toList.isEmpty)
 |_,_=>false
mutual
def pv:fy->fy->Bool
 | .raw v,.raw w=>Gl v w
 | .lst es,.lst fs=>oO es fs
 | .agg es,.agg fs=>oO es fs
 |_,_=>false
def oO:List fy->List fy->Bool
 |[],[]=>true
 |a::l,b::m=>pv a b &&oO l m
 |_,_=>false
end
mutual
def lJ:PV->PV->Bool
 | .dat d,.dat e=>pv d e
 | .agg l,.agg m=>nH l m
 | .tup l,.tup m=>nH l m
 | .vec t es,.vec k fs=>decide (t=k) &&oO es fs
 | .ptr i o,.ptr n o'=>decide (i=n) &&decide (o=o')
 | .iptr cs,.iptr ds=>oO cs ds
 | .arr i o l c,.arr n o' p q=>(decide (i=n) &&decide (o=o')) &&(decide (l=p) &&decide (c=q))
 | .fn f l,.fn r m=>decide (f=r) &&nH l m
 | .ms t g o l c,.ms k g' o' p q=>(decide (t=k) &&decide (g=g')) &&(decide (o=o') &&(decide (l=p) &&decide (c=q)))
 | .mp t g j,.mp k g' s=>decide (t=k) &&(decide (g=g') &&decide (j=s))
 | .mapv i,.mapv n=>decide (i=n)
 | .empv b,.empv u=>b==u
 | .undef,.undef=>true
 |_,_=>false
def nH:List PV->List PV->Bool
 |[],[]=>true
 |a::l,b::m=>lJ a b &&nH l m
 |_,_=>false
end
def yQ:List (Value×PV)->List (Value×PV)->Bool
 |[],[]=>true
 |a::l,b::m=>(Gl a.1 b.1 &&lJ a.2 b.2) &&yQ l m
 |_,_=>false
def Kz:fB->fB->Bool
 | .map l,.map m=>yQ l m
 | .box l,.box m=>nH l m
 | .tok e n,.tok e' n'=>decide (e=e') &&decide (n=n')
 | .mt e g l,.mt e' g' m=>(decide (e=e') &&decide (g=g')) &&nH l m
 |_,_=>false
def wm:List fB->List fB->Bool
 |[],[]=>true
 |a::l,b::m=>Kz a b &&wm l m
 |_,_=>false
def lz(call:gk)(c:PV)(args:List PV)(H:List fB):Option (PV×List fB):=
 match c with
 | .dat (.raw (.func (.func f) _ _))=>call f args H
 | .fn f cap=>call f (args++cap) H
 |_=>none
open Classical in
noncomputable def pN(call:gk)(c:PV)(args:List PV)(H:List fB):Option (PV×List fB):=
 match lz call c args H with
 |some (v,H')=>if wm H H'=true\/H'=H then some (v,H')else none
 |none=>none
def PV.numOf:PV->Option Nat
 | .dat d=>some d.num
 |_=>none
def pR(size n:Nat):Nat:=if size=1 then n else n*size
def iP(t:fq)(f c:PV)(H:List fB):Option (PV×List fB):=
 match fJ P t with
  |some size=>match f with
   | .ptr i off=>match H[i]? with
    |some (.box cs)=>if c.cells.length=size/\c.cells.all PV.cell then(nY cs off c.cells).map λcs=>(.tup [],H.set i (.box cs))else none
    |_=>none
   | .mp tt gg j=>match mtOf H tt with
    |some (e,g',cs)=>if g'=gg/\size=1/\c.cell=true/\cs[j]?.map PV.flat=some true then some (.tup [],H.set tt (.mt e gg (cs.set j c)))
     else match c with
      | .dat d=>if g'=gg/\1<size/\d.fits size=true/\j%size=0/\(cs[j/size]?.bind PV.numOf)=some size then some (.tup [],H.set tt (.mt e gg (cs.set (j/size) (.dat d))))else none
      |_=>none
    |none=>none
   |_=>none
  |none=>none
def jy(t:fq)(c:PV)(H:List fB):Option (PV×List fB):=
 match pF P t,fJ P t with
  |some g,some size=>match c with
   | .ptr i off=>match H[i]? with
    |some (.box cs)=>((cut cs off size).bind (ofCells g)).map (·,H)
    |_=>none
   | .iptr cs=>((cut cs 0 size).bind (kL g)).map λd=>(.dat d,H)
   | .mp t gg j=>match mtOf H t with
    |some (_,g',cs)=>if g'=gg/\size=1/\cs[j]?.map PV.flat=some true then((cut cs j size).bind (ofCells g)).map (·,H)
     else if g'=gg/\1<size/\g=true/\j%size=0/\(cs[j/size]?.bind PV.numOf)=some size then(cs[j/size]?).map (·,H)else none
    |none=>none
   |_=>none
  |_,_=>none
def gY(H:List fB):PV->Option (fy×List fB)
 | .dat d=>some (d,H)
 | .vec _ es=>some (.lst es,H)
 | .ms t g lo len cap=>match fR H (.ms t g lo len cap),mtOf H t with
  |some d,some (e,_,_)=>some (d,H.set t (.mt e (g+1) []))
  |_,_=>none
 |_=>none
def ga:List fB->List PV->Option (List fy×List fB)
 |H,[]=>some ([],H)
 |H,c::cs=>match gY H c with
  |some (d,H1)=>match ga H1 cs with
   |some (ds,H2)=>some (d::ds,H2)
   |none=>none
  |none=>none
def si(call:gk)(f:fo)(args:List PV)(H:List fB):Option (PV×List fB):=
 match kf call f args H with
 |some (p,H1)=>(gY H1 p).map λx=>(.dat x.1,x.2)
 |none=>none
def oe(call:gk)(c:PV)(args:List PV)(H:List fB):Option (PV×List fB):=
 match c with
 | .dat (.raw (.func (.func f) _ _))=>if args.any PV.lends=true then none else match gp H args with
  |some ds=>match call f (ds.map .dat) []with
   |some (p,H1)=>(iu H1 p).map λd=>(.dat d,H)
   |none=>none
  |none=>none
 |_=>none
mutual
def PV.under (n:Nat):PV->Bool
 | .dat _=>true
 | .agg cs=>ly n cs
 | .tup cs=>ly n cs
 | .vec t _=>decide (t<n)
 | .ptr i _=>decide (i<n)
 | .iptr _=>true
 | .arr i _ _ _=>decide (i<n)
 | .fn _ cs=>ly n cs
 | .ms t _ _ _ _=>decide (t<n)
 | .mp t _ _=>decide (t<n)
 | .mapv i=>decide (i<n)
 | .empv _=>true
 | .undef=>true
def ly (n:Nat):List PV->Bool
 |[]=>true
 |c::cs=>c.under n &&ly n cs
end
def fB.under(n:Nat):fB->Bool
 | .box cs=>ly n cs
 | .mt _ _ cs=>ly n cs
 | .map es=>es.all λe=>e.2.under n
 |_=>true
def iI(call:gk)(f:fo)(args:List PV)(n:Nat)(H:List fB):Option (PV×List fB):=
 if n<=H.length/\ly n args=true/\(H.take n).all (fB.under n)=true then
  match call f args (H.take n)with
  |some (p,H1)=>if p.under n=true/\(H1.take n).all (fB.under n)=true then some (p,H1.take n++H.drop n)else none
  |none=>none
 else none
mutual
def PV.ren (f:Nat->Nat):PV->PV
 | .dat d=>.dat d
 | .agg cs=>.agg (PV.rens f cs)
 | .tup vs=>.tup (PV.rens f vs)
 | .vec t es=>.vec (f t) es
 | .ptr i o=>.ptr (f i) o
 | .iptr cs=>.iptr cs
 | .arr i o l c=>.arr (f i) o l c
 | .fn g cap=>.fn g (PV.rens f cap)
 | .ms t g lo len cap=>.ms (f t) g lo len cap
 | .mp t g j=>.mp (f t) g j
 | .mapv i=>.mapv (f i)
 | .empv b=>.empv b
 | .undef=>.undef
def PV.rens (f:Nat->Nat):List PV->List PV
 |[]=>[]
 |c::r=>PV.ren f c::PV.rens f r
end
def fB.ren(f:Nat->Nat):fB->fB
 | .box cs=>.box (cs.map (PV.ren f))
 | .tok e n=>.tok e n
 | .mt e g cs=>.mt e g (cs.map (PV.ren f))
 | .map es=>.map (es.map λx=>(x.1,x.2.ren f))
 | .hole=>.hole
def qA(b n i:Nat):Nat:=if i<b then i+(n - b)else if i<n then i - b else i
def uZ(b n i:Nat):Nat:=if i<n - b then i+b else if i<n then i - (n - b)else i
def th(call:gk)(f:fo)(args:List PV)(b n:Nat)(H:List fB):Option (PV×List fB):=
 if b<=n/\n<=H.length then
  match iI call f (args.map (PV.ren (qA b n))) (n - b) (((H.take n).drop b).map (fB.ren (qA b n)))with
  |some (p,R)=>some (p.ren (uZ b n),H.take b++R.map (fB.ren (uZ b n))++H.drop n)
  |none=>none
 else none
mutual
def PV.top:PV->Nat
 | .dat _=>0
 | .agg cs=>tA cs
 | .tup cs=>tA cs
 | .vec t _=>t+1
 | .ptr i _=>i+1
 | .iptr _=>0
 | .arr i _ _ _=>i+1
 | .fn _ cs=>tA cs
 | .ms t _ _ _ _=>t+1
 | .mp t _ _=>t+1
 | .mapv i=>i+1
 | .empv _=>0
 | .undef=>0
def tA:List PV->Nat
 |[]=>0
 |c::cs=>max c.top (tA cs)
end
def kF(call:gk)(c:PV)(args:List PV)(d:Nat)(H:List fB):Option (PV×List fB):=
 match c with
 | .dat (.raw (.func (.func f) _ _))=>iI call f args (tA args+d) H
 |_=>none
def wX(call:gk)(f:fo)(args:List PV)(H:List fB):Option (PV×List fB):=
 if ly 0 args=true then
  match call f args []with
  |some (p,R)=>some (p.ren (·+H.length),H++R.map (fB.ren (·+H.length)))
  |none=>none
 else none
def DU(call:gk)(b d:Nat):gk:=λf args H=>if H.length<=b then wX call f args H else th call f args b (tA args+d) H
def qx(call:gk)(c:PV)(args:List PV)(b d:Nat)(H:List fB):Option (PV×List fB):=lz (DU call b d) c args H
def HK:PV->Option (FuncId×List PV)
 | .dat (.raw (.func (.func f) _ _))=>some (f,[])
 | .fn f cap=>some (f,cap)
 |_=>none
theorem Dw{call:gk}{c:PV}{f:fo}{cap:List PV}(h:HK c=some (f,cap))(args:List PV)(H:List fB):lz call c args H=call f (args++cap) H:=by
 unfold HK at h;split at h
 .simp only[j9,jI]at h;obtain⟨rfl,rfl⟩:=h;rw[lz,jU]
 .simp only[j9,jI]at h;obtain⟨rfl,rfl⟩:=h;rw[lz]
 .cases h
open Classical in
noncomputable def oq(call:gk)(c:PV)(args:List PV)(d:Nat)(H:List fB):Option (PV×List fB):=
 match kF call c args d H with
 |some (p,H1)=>if wm H1 H=true then some (p,H)else if H1=H then some (p,H)else none
 |none=>none
def jh:List (Nat×TypeId)->Bool
 |(j,_)::_=>j==5000
 |[]=>false
def kO(d:List (Nat×TypeId))(ρ:ft->PV)(t:fq)(c:Array (Nat×Operand))(H:List fB):Option (PV×List fB):=
 match fL P t,rh P t with
  |some z,some e=>match kW e (z.cells.map PV.dat) (c.toList.map λ(i,x)=>(i,(ρ x).cells))with
   |some cs=>if c.toList.all (λ(_,x)=>(ρ x).cells.all PV.cell)then(if d.all λ(j,_)=>lb e j c.toList then
     (match iW H.length cs d with
      |some (cs,bs)=>some (mkAgg cs,H++bs)
      |none=>none)else none)else none
   |none=>none
  |_,_=>none
noncomputable section
def gq(call:gk)(q:List (Nat×TypeId))(o:Oper)(ρ:ft->PV)(H:List fB):Option (PV×List fB):=
 match o.op with
 | .move x=>if jh q=true then(gY H (ρ x)).map λy=>(.dat y.1,y.2)else some (ρ x,H)
 | .assign x=>match q with
  |[]=>some (ρ x,H)
  |(j,e)::_=>match x with
   | .const (.slice none 0 0)=>if j=1000 then some (.ms H.length 0 0 0 0,H++[.mt e 0 []])else some (.vec H.length [],H++[.tok e 0])
   |_=>none
 | .pick c a b=>(nF (ρ c)).map λt=>(if t then ρ a else ρ b,H)
 | .alloc e=>match fL P e with
  |some z=>match iW (H.length+1) (z.cells.map .dat) q with
   |some (cs,bs)=>some (.ptr H.length 0,H++.box cs::bs)
   |none=>none
  |none=>none
 | .box _ x=>match q with
  |[]=>if(ρ x).cells.all PV.cell then some (.ptr H.length 0,H++[.box (ρ x).cells])else none
  |_::_=>(gQ (ρ x).cells).map λds=>(.iptr ds,H)
 | .build t p=>if jh q=true then(match kO P [] ρ t p H with
   |some (.agg cs,H1)=>(match ga H1 cs with
    |some (ds,H2)=>some (.dat (.agg ds),H2)
    |none=>none)
   |_=>none)else kO P q ρ t p H
 | .buildSlice t len p=>match fA P t with
  |some e=>if EM q=true then
    (match fJ P e with
     |some size=>if(fL P e).isSome/\p.size=len/\np 0 p.toList/\0<size/\len*size<=16777216/\qB ρ size p.toList=true then
       some (.arr H.length 0 len len,H++[.box (p.toList.flatMap λ(_,x)=>(ρ x).cells)])else none
     |none=>none)
   else if uP q ρ p.toList then
    (if fJ P e=some 1/\(fL P e).isSome/\p.size=len/\np 0 p.toList/\len<=16777216 then some (.arr H.length 0 len len,H++[.box (p.toList.map λ(_,x)=>ρ x)])else none)
   else match fJ P e,gp H (p.toList.map λ(_,x)=>ρ x)with
   |some size,some ds=>
    if(fL P e).isSome/\p.size=len/\np 0 p.toList/\ds.all (fy.fits size)/\0<size/\len*size<=16777216/\!(p.toList.any λ(_,x)=>(ρ x).lends)then
     (match q with
      |[]=>some (.dat (.lst ds),H)
      |(j,e')::_=>if e'=e then(if j=1000 then(if ds.isEmpty then some (.ms H.length 0 0 0 0,H++[.mt e 0 []])else if size=1/\ds.all fy.isCell=true\/1<size then some (.ms H.length 1 0 ds.length ds.length,H++[.mt e 1 (ds.map .dat)])else none)else some (.vec H.length ds,H++[.tok e ds.length]))else none)else none
   |_,_=>none
  |none=>none
 | .load t a=>match q with
  |[]=>jy P t (ρ a) H
  |_::_=>match jy P t (ρ a) H with
   |some (.agg cs,H1)=>(ga H1 cs).map λx=>(.dat (.agg x.1),x.2)
   |_=>none
 | .store t a x=>match q with
  |[]=>iP P t (ρ a) (ρ x) H
  |(_,e)::_=>match x with
   | .const (.slice none 0 0)=>iP P t (ρ a) (.vec H.length []) (H++[.tok e 0])
   |_=>match ρ x with
    | .vec _ es=>iP P t (ρ a) (.dat (.lst es)) H
    | .ms tt gg _ len _=>match mtOf H tt with
     |some (e',g',cs)=>if g'=gg then iP P t (ρ a) (ρ x) (H.set tt (.mt e' gg (cs.take len)))else none
     |none=>none
    |_=>none
 | .nilCheck x=>match ρ x with
  | .ptr i off=>some (.ptr i off,H)
  | .iptr cs=>some (.iptr cs,H)
  | .fn f cap=>some (.fn f cap,H)
  | .dat (.raw (.func (.func f) first cap))=>some (.dat (.raw (.func (.func f) first cap)),H)
  |_=>none
 | .makeFunc (.func f) first cap=>if first.isEmpty then
   (if cap.isEmpty then some (.dat (.raw (.func (.func f) #[] #[])),H)else some (.fn f (cap.toList.map ρ),H))else none
 | .makeSlice t l c=>match q with
  |[]=>match fA P t with
   |some e=>match fL P e,fJ P e,bytesOf P e,ρ l,ρ c with
    |some z,some 1,some bytes,.dat (.raw (.int .i64 l)),.dat (.raw (.int .i64 c))=>
     if 0<=l/\l<=c/\c*bytes<=gO/\c<=9223372036854775807/\z.isCell then
      some (.arr H.length 0 l.toNat c.toNat,H++[.box (List.replicate c.toNat (.dat z))])else none
    |_,_,_,_,_=>none
   |none=>none
  |(j,e')::_=>if 8000<=j then(match fA P t with
   |some e=>match fL P e,fJ P e,bytesOf P e,ρ l,ρ c with
    |some z,some 1,some bytes,.dat (.raw (.int .i64 l)),.dat (.raw (.int .i64 c))=>
     if 0<=l/\l=c/\c*bytes<=gO/\c<=9223372036854775807/\z.isCell then some (.dat (.lst (List.replicate c.toNat z)),H)else none
    |_,_,_,_,_=>none
   |none=>none)
  else if j=1000 then(match fA P t with
   |some e=>match fL P e,fJ P e,bytesOf P e,ρ l,ρ c with
    |some z,some size,some bytes,.dat (.raw (.int .i64 l)),.dat (.raw (.int .i64 c))=>if e'=e/\l=c then oJ H e size bytes z c else none
    |_,_,_,_,_=>none
   |none=>none)
  else match fA P t with
   |some e=>match fL P e,fJ P e,bytesOf P e,ρ l,ρ c with
    |some _,some 1,some bytes,.dat (.raw (.int .i64 l)),.dat (.raw (.int .i64 c))=>
     if e'=e/\l=0/\0<=c/\c*bytes<=gO/\c<=9223372036854775807/\0<bytes then some (.vec H.length [],H++[.tok e 0])else none
    |_,_,_,_,_=>none
   |none=>none
 | .makeMap t none=>match P.underlying t with
  |some (.map _ _)=>some (.mapv H.length,H++[.map []])
  |_=>none
 | .range t x=>match P.underlying t,ρ x with
  |some .string,.dat (.raw (.string s))=>some (.ptr H.length 0,H++[.map (pI s 0)])
  |_,_=>none
 | .next x true=>match ρ x with
  | .ptr i 0=>match zh H i with
   |some (s,pos)=>some (r8 s pos i H)
   |none=>none
  |_=>none
 | .mapUpdate t m k x|.insert t m k x=>match ρ m with
  | .mapv i=>match mapOf H i with
   |some es=>match mM P ρ k t es with
    |some (w,_,some (j,_))=>some (.tup [],H.set i (.map (es.set j (w,ρ x))))
    |some (w,_,none)=>some (.tup [],H.set i (.map (es++[(w,ρ x)])))
    |none=>none
   |none=>none
  |_=>none
 | .lookup t m k ok=>match ρ m with
  | .mapv i=>match mapOf H i with
   |some es=>match mM P ρ k t es with
    |some (_,_,some (_,v))=>some (if ok then .tup [v,Qp true]else v,H)
    |some (_,e,none)=>(fL P e).map λz=>(if ok then .tup [.dat z,Qp false]else .dat z,H)
    |none=>none
   |none=>none
  |_=>none
 | .fieldAddr s x f=>match fieldsOf P s with
  |some fs=>match fs[f]? with
   |some u=>match fJ P u.type with
    |some (_+1)=>match ρ x with
     | .ptr i off=>some (.ptr i (off+u.offset),H)
     | .iptr cs=>some (.iptr (cs.drop u.offset),H)
     |_=>none
    |_=>none
   |none=>none
  |none=>none
 | .indexAddr t x A=>match ρ A with
  | .dat (.raw (.int _ n))=>match fA P t with
   |some e=>match fJ P e with
    |some size=>if 0<=n then(match ρ x with
     | .dat (.lst es)|.vec _ es=>match es[n.toNat]? with
      |some d=>if d.num=size then some (.iptr d.cells,H)else none
      |none=>none
     | .arr i off len _=>if n.toNat<len then some (.ptr i (off+n.toNat*size),H)else none
     | .ms t g lo len _=>if(size=1\/lo=0)/\n.toNat<len then some (.mp t g (lo+pR size n.toNat),H)else none
     |_=>none)else none
    |none=>none
   |none=>match lV P t with
    |some (len,e)=>match fJ P e,ρ x with
     |some size,.iptr cs=>if 0<=n/\n<(len:Int)then some (.iptr (cs.drop (n.toNat*size)),H)else none
     |some size,.ptr i off=>if 0<=n/\n<(len:Int)then some (.ptr i (off+n.toNat*size),H)else none
     |_,_=>none
    |none=>none
  |_=>none
 | .slice t x lo hi none=>match ρ x with
  | .dat (.lst es)|.vec _ es=>match fA P t with
   |some e=>
    match iD ρ 0 lo,iD ρ es.length hi,fJ P e with
    |some l,some h,some size=>if l<=h/\h<=es.length/\(l==0||es.all λd=>d.num==size)then some (.dat (.lst ((es.take h).drop l)),H)else none
    |_,_,_=>none
   |none=>none
  | .ms tt g B len cap=>match fA P t with
   |some e=>if fJ P e=some 1\/((fJ P e).isSome=true/\lo.isNone=true)then(sn ρ lo hi tt g B len cap).map (·,H)else none
   |none=>none
  | .arr i off len cap=>match fA P t with
   |some e=>match fJ P e with
    |some size=>(zu ρ lo hi size i off len cap).map (·,H)
    |none=>none
   |none=>none
  |_=>gv P o ρ H
 | .slice t x lo (some hi) (some C)=>match fA P t with
  |some e=>match lr (ρ x),iD ρ 0 lo,pV (ρ hi),pV (ρ C)with
   |some n,some l,some h,some m=>if l<=h/\h<=m/\m<=n/\(fJ P e).isSome then
     (if h=l then(match q with
      |[]=>some (.dat (.lst []),H)
      |(_,e')::_=>if l=0/\m=0 then some (.ms H.length 0 0 0 0,H++[.mt e' 0 []])else none)
      else some (.undef,H))else none
   |_,_,_,_=>none
  |none=>none
 | .field t x f=>match ρ x with
  | .dat (.agg cs)=>(do let fs <-fieldsOf P t;let u <-fs[f]?;let size <-fJ P u.type;let g <-pF P u.type;let d <-(cut cs u.offset size).bind (kL g);some (.dat d,H))
  | .agg cs=>(do let fs <-fieldsOf P t;let u <-fs[f]?;let size <-fJ P u.type;let g <-pF P u.type;let d <-(cut cs u.offset size).bind (ofCells g);some (d,H))
  |_=>none
 | .extract x k=>match ρ x with
  | .tup vs=>(vs[k]?).map (·,H)
  |_=>none
 | .call c=>match c.callee with
  | .value f=>match q with
   |[]=>match ρ f with
    | .dat (.raw (.func (.func f) _ _))=>call f (c.args.toList.map ρ) H
    | .fn f cap=>call f (c.args.toList.map ρ++cap) H
    |_=>none
   |(j,e)::_=>if 13000<=j then oq call (ρ f) (c.args.toList.map ρ) e H else if 12000<=j then(if 12500<=j then qx call (ρ f) (c.args.toList.map ρ) (j - 12500) e H else kF call (ρ f) (c.args.toList.map ρ) e H)else if j=7000 then oe call (ρ f) (c.args.toList.map ρ) H else if 6000<=j then pN call (ρ f) (c.args.toList.map ρ) H else match ρ f with
    | .dat (.raw (.func (.func f) _ _))=>if j=5000 then si call f (c.args.toList.map ρ) H else if 2000<=j then uR call f c.args.toList (c.args.toList.map ρ) (j - 2000) e H else kf call f (c.args.toList.map ρ) H
    |_=>none
  | .builtin b=>match fZ P b c.argTypes (c.args.toList.map ρ) H with
   |some r=>some r
   |none=>gv P o ρ H
  | .invoke ..=>none
 | .binOp op t x y _=>match Bi P op t (ρ x) (ρ y)with
  |some b=>some (Qp b,H)
  |none=>match ti P op t (ρ x) y with
   |some b=>some (Qp b,H)
   |none=>gv P o ρ H
 | .unOp ..|.convert ..|.index ..=>gv P o ρ H
 |_=>none
structure Hint where
 own:List ((Nat×Nat)×List (Nat×TypeId)):=[]
 keep:List (Nat×List Nat):=[]
 late:List (Nat×Nat):=[]
 flat:List (Nat×List (Nat×List Nat)):=[]
 deriving Inhabited
def Hint.ownAt(h:Hint)(r i:Nat):List (Nat×TypeId):=((h.own.find? λx=>x.1==(r,i)).map (·.2)).getD []
def Hint.keepAt(h:Hint)(r:Nat):Option (List Nat):=(h.keep.find? λx=>x.1==r).map (·.2)
def lN(s:List PV)(d:Option Tmp)(v:PV):List PV:=
 match d with
 |some d=>s.set d v
 |none=>s
def fU(ops:Array Oper)(s:List PV)(o:Oper):Option Bool:=
 match o.guard with
 |none=>some true
 |some (j,c)=>match(ops[j]?).bind (·.dst)with
  |none=>none
  |some d=>match s[d]? with
   |some (.dat (.raw (.bool b)))=>some (b==c)
   |some (.tup [])=>some false
   |_=>none
def iJ(call:gk)(h:Hint)(r:Nat)(ops:Array Oper)(i:Nat)(o:Oper)(st:St):Option St:=
 match fU ops st.slots o with
 |some true=>match gq P call (h.ownAt r i) o (ev st.slots) st.heap with
  |some (v,H)=>some ⟨lN st.slots o.dst v,H⟩
  |none=>none
 |some false=>some ⟨lN st.slots o.dst (.tup []),st.heap⟩
 |none=>none
def kP(call:gk)(h:Hint)(r:Nat)(ops:Array Oper):Nat->List Oper->St->Option St
 |_,[],st=>some st
 |i,o::os,st=>match iJ P call h r ops i o st with
  |some st=>kP call h r ops (i+1) os st
  |none=>none
def xP(H:List fB)(t:Nat):Option (List fy×List fB):=
 match mtOf H t with
 |some (e,g,cs)=>if cs.isEmpty then some ([],H)else if cs.all PV.flat then match ga H cs with
  |some (ds,H1)=>match mtOf H1 t with
   |some (e',g',_)=>if e'=e/\g'=g then some (ds,H1.set t (.mt e g (ds.map .dat)))else none
   |none=>none
  |none=>none else none
 |none=>none
def Gf(ρ:ft->PV)(d:fq)(c:Array (Nat×Operand))(k:Nat):Option (List PV):=
 match fL P d,rh P d with
 |some z,some e=>match kW e (z.cells.map PV.dat) (c.toList.map λ(i,x)=>(i,(ρ x).cells))with
  |some cs=>if c.toList.all (λ(_,x)=>(ρ x).cells.all PV.cell)/\lb e k c.toList=true then match cs[k]? with
   |some (.dat (.lst []))=>some cs
   |_=>none else none
  |none=>none
 |_,_=>none
def sF(fl:List Nat)(o:Oper)(ρ:ft->PV)(H:List fB):Option (PV×List fB):=
 match fl,o.op with
 |[1],.fieldAddr s x f=>match fieldsOf P s with
  |some fs=>match fs[f]? with
   |some n=>match fJ P n.type,ρ x with
    |some (_+1),.mp t g j=>match mtOf H t with
     |some (_,g',_)=>if g'=g then some (.mp t g (j+n.offset),H)else none
     |none=>none
    |_,_=>none
   |none=>none
  |none=>none
 |[2,t,h,k],.build m d=>match Gf P ρ m d k,xP H t with
  |some cs,some (_,H1)=>match mtOf H1 h with
   |some (e,g,_)=>some (mkAgg (cs.set k (.ms h (g+1) 0 0 0)),H1.set h (.mt e (g+1) []))
   |none=>none
  |_,_=>none
 |[3],.buildSlice m len d=>match fA P m,d.toList with
  |some e,[(0,x)]=>match fJ P e with
   |some size=>if len=1/\(fL P e).isSome=true/\(ρ x).cells.length=size/\(ρ x).cells.all PV.cell=true/\0<size/\size<=16777216 then some (.arr H.length 0 1 1,H++[.box (ρ x).cells])else none
   |none=>none
  |_,_=>none
 |[4],.call c=>match c.callee,c.argTypes.toList,c.args.toList.map ρ with
  | .builtin .append,[t,p],[.ms tt g lo len _,.arr i 0 1 1]=>match fA P t,mtOf H tt,H[i]? with
   |some e,some (e',g',cs),some (.box l)=>match fJ P e,bytesOf P e with
    |some size,some bytes=>if(p=t/\0<bytes/\(fL P e).map fy.num=some size)/\(0<size/\lo=0/\g'=g/\e'=e)/\(cs.length=len*size/\cs.all PV.flat=true)/\(l.length=size/\l.all PV.cell=true)/\(len+1)*bytes<=gO then
      some (.ms tt (g+1) 0 (len+1) (len+1),H.set tt (.mt e (g+1) (cs++l)))else none
    |_,_=>none
   |_,_,_=>none
  |_,_,_=>none
 |[5],.move x=>match ρ x with
  | .ms t g lo len _=>match xP H t with
   |some (ds,H1)=>match mtOf H1 t with
    |some (e,g',_)=>match fJ P e with
     |some size=>if g'=g/\lo=0/\1<size/\ds.length=len*size then some (.dat (.lst (mh size len ds)),H1.set t (.mt e (g+1) []))else none
     |none=>none
    |none=>none
   |none=>none
  |_=>none
 |_,_=>none
def rP(call:gk)(h:Hint)(r:Nat)(ops:Array Oper)(fl:List (Nat×List Nat))(i:Nat)(o:Oper)(st:St):Option St:=
 match(fl.find? λx=>x.1==i).map (·.2)with
 |none=>iJ P call h r ops i o st
 |some l=>match o.guard with
  |none=>(sF P l o (ev st.slots) st.heap).map λx=>⟨lN st.slots o.dst x.1,x.2⟩
  |some _=>none
def oT(call:gk)(h:Hint)(r:Nat)(ops:Array Oper)(fl:List (Nat×List Nat)):Nat->List Oper->St->Option St
 |_,[],st=>some st
 |i,o::os,st=>match rP P call h r ops fl i o st with
  |some st=>oT call h r ops fl (i+1) os st
  |none=>none
def Hint.flatAt(h:Hint)(r:Nat):Option (List (Nat×List Nat)):=(h.flat.find? λx=>x.1==r).map (·.2)
def H6:List PV->Bool
 | .vec _ _::_=>true
 |_=>false
def GW:List PV->Bool
 |[.arr _ _ 0 0,.dat (.lst _)]=>true
 |_=>false
def fF(pf:fo->Bool)(d:List (Nat×TypeId))(o:Oper)(ρ:ft->PV):Nat:=
 match o.op with
 | .load _ a=>match d with|[]=>(match ρ a with|.iptr _=>0|_=>1)|_::_=>3
 | .alloc _=>2
 | .box ..=>match d with|[]=>2|_::_=>0
 | .makeSlice ..=>match d with|(j,_)::_=>if 8000<=j then 0 else 2|[]=>2
 | .store ..=>3
 | .mapUpdate ..|.insert ..|.range ..|.next ..=>3
 | .lookup ..=>1
 | .makeMap ..=>2
 | .move _=>if jh d=true then 3 else 0
 | .build ..=>match d with|[]=>0|(j,_)::_=>if j=5000 then 3 else 2
 | .assign _|.buildSlice ..|.slice _ _ _ (some _) (some _)=>match d with|[]=>0|_=>2
 | .call c=>match c.callee with
  | .value f=>match d with
   |(j,_)::_=>if 13000<=j then 1 else if 12000<=j then 3 else if 6000<=j then 6 else if 2000<=j then 3 else if(c.args.toList.map ρ).any PV.lends then 3 else 2
   |[]=>match ρ f with
   | .dat (.raw (.func (.func f) _ _))=>if pf f then(if(c.args.toList.map ρ).any PV.lends then 1 else 0)else 3
   |_=>3
  | .builtin .append=>if H6 (c.args.toList.map ρ)then 4 else if GW (c.args.toList.map ρ)then 2 else 3
  | .builtin .clear=>3
  | .builtin .copy=>3
  | .builtin .cap=>3
  | .builtin .len=>if(c.args.toList.map ρ).any PV.isMap then 3 else 0
  |_=>0
 |_=>0
def ic(d:List (Nat×TypeId))(o:Oper)(ρ:ft->PV):Option Nat:=
 match o.op with
 | .call c=>match c.callee,d with
  | .value _,(j,e)::_=>if 13000<=j then some (tA (c.args.toList.map ρ)+e)else none
  |_,_=>none
 |_=>none
def qM:Option Nat->Nat
 |some n=>16*(n+1)
 |none=>0
def kI(pf:fo->Bool)(h:Hint)(r i:Nat)(o:Oper)(ρ:ft->PV):Nat:=
 fF pf (h.ownAt r i) o ρ+(if h.late.contains (r,i) &&(h.ownAt r i).isEmpty then(match o.op with
  | .load _ a=>(match ρ a with|.ptr i _=>8+16*(i+1)|_=>0)
  | .store _ a _=>(match ρ a with|.mp _ _ _=>8|.ptr i _=>8+16*(i+1)|_=>0)
  |_=>0)else 0)+qM (ic (h.ownAt r i) o ρ)
def s8(a b:Nat):Bool:=!((2<=a &&2<=b && !(a==2 &&b==2))||(a==1 &&b==3)||(a==3 &&b==1))
def yZ(a b:Nat):Bool:=s8 (a%8) (b%8)||(a%16==9 &&b%16==11)||(a%16==11 &&b%16==9)
def gR(call:gk)(pf:fo->Bool)(h:Hint)(r:Nat)(ops:Array Oper):Nat->List Oper->St->Option (St×List Nat)
 |_,[],st=>some (st,[])
 |i,o::os,st=>match iJ P call h r ops i o st with
  |some c=>match gR call pf h r ops (i+1) os c with
   |some (d,fl)=>some (d,(if fU ops st.slots o=some true then kI pf h r i o (ev st.slots)else 0)::fl)
   |none=>none
  |none=>none
def A2(A:List Nat)(o:Oper):Nat:=o.after.toList.foldl (λs e=>if Region.binds .any e then s|||(2 ^e.on|||A.getD e.on 0)else s) 0
def Kt:List Oper->List Nat->List Nat
 |[],A=>A
 |o::os,A=>Kt os (A++[A2 A o])
def yw(ops:Array Oper)(o:Oper):List Tmp:=
 (o.op.operands.toList.filterMap λ|.tmp t=>some t|_=>none)++(match o.guard with|some (j,_)=>((ops[j]?).bind (·.dst)).toList|none=>[])
def pX(ops:Array Oper)(fl A:List Nat)(i j:Nat):Bool:=
 match ops[i]?,ops[j]? with
 |some oi,some oj=>
  let anc:=(A.getD j 0).testBit i
  -- what j looks at and i writes
  (i==j||anc||(A.getD i 0).testBit j||(match oi.dst with|some d=>!(yw ops oj).contains d|none=>true)) &&
  -- written once
  (i==j||(match oi.dst,oj.dst with|some d,some c=>d !=c|_,_=>true)) &&
  -- what turns the heap and what minds it
  (!(i<j)||anc||yZ (fl.getD i 0) (fl.getD j 0))
 |_,_=>true
def FE(h0:Nat)(fl:List Nat):Bool:=
 (List.range fl.length).all λj=>decide (fl.getD j 0<16)||decide (fl.getD j 0%16≠1)||(decide (fl.getD j 0/16<=h0+1) &&((List.range j).all λk=>decide (fl.getD k 0%8<=2)) &&(List.range fl.length).all λk=>decide (fl.getD k 0%8≠4))
def Ix(fl:List Nat):Bool:=fl.all λa=>decide (a%16≠9)||fl.all λb=>decide (b%16≠11)||decide (b/16≠a/16)
def kR(h0:Nat)(ops:Array Oper)(fl:List Nat):Bool:=
 let n:=ops.size
 (FE h0 fl &&Ix fl) &&
 let A:=Kt ops.toList []
 (List.range n).all (λj=>match ops[j]? with
  |some o=>A.getD j 0==A2 A o &&o.after.toList.all (λe=>!Region.binds .any e||e.on<j) &&(match o.op with|.select ..=>false|_=>true)
  |none=>false) &&
 (List.range n).all (λj=>(List.range n).all λi=>pX ops fl A i j)
def Ly(ks:List Nat):Bool:=ks.contains 100000
def jt(fl:Bool)(H:List fB)(h0:Nat):PV->PV
 | .dat d=>.dat d
 | .vec t es=>if t<h0/\fl=false then .vec t es else .dat (.lst es)
 | .ptr i o=>if i<h0 then .ptr i o else .undef
 | .iptr cs=>.iptr cs
 | .arr i o len cap=>if i<h0 then .arr i o len cap else match fR H (.arr i o len cap)with|some d=>.dat d|none=>.undef
 | .fn f cap=>if cap.all (λ|.ptr i _=>i<h0|.dat _=>true|.iptr _=>true|_=>false)then .fn f cap else .undef
 | .ms t g lo len cap=>if t<h0 then .ms t g lo len cap else match fR H (.ms t g lo len cap)with|some d=>.dat d|none=>.undef
 | .mp t g j=>if t<h0 then .mp t g j else .undef
 | .mapv i=>if i<h0 then .mapv i else .undef
 | .empv b=>.empv b
 |_=>.undef
def vG(fl:Bool)(H:List fB)(h0:Nat):PV->PV
 | .agg cs=>mkAgg (cs.map (jt fl H h0))
 | .tup []=>.tup []
 |v=>jt fl H h0 v
def fN(fl:Bool)(H:List fB)(h0:Nat):fB->fB
 | .box cs=>.box (cs.map (jt fl H h0))
 | .mt e g cs=>.mt e g (cs.map (jt fl H h0))
 | .map es=>.map (es.map λx=>(x.1,vG fl H h0 x.2))
 |b=>b
def qV(fl:Bool)(H:List fB)(h0:Nat)(keep:List Nat):Nat->List PV->List PV
 |_,[]=>[]
 |i,v::r=>(if keep.contains i then vG fl H h0 v else .undef)::qV fl H h0 keep (i+1) r
def iU(h0:Nat)(keep:Option (List Nat))(st:St):St:=
 match keep with
 |none=>st
 |some ks=>⟨qV (Ly ks) st.heap h0 ks 0 st.slots,(st.heap.take h0).map (fN (Ly ks) st.heap h0)⟩
def Q0:Code->Option Nat
 | .region id _ _=>some id
 | .seq a b=>match Q0 a with|some r=>some r|none=>Q0 b
 | .block _ c|.scope c|.loop c=>Q0 c
 | .cond _ a b=>match Q0 a with|some r=>some r|none=>Q0 b
 |_=>none
inductive Ex where
 |normal
 |exit (id:Nat)
 |ret
 deriving DecidableEq,Inhabited
structure Env where
 summ:fo->Option (List fy->Option PV)
 pure:fo->Bool
 hint:fo->Hint
 split:fo->Bool:=λ_=>false
 hsum:fo->Option (List PV->List fB->Option (PV×List fB)):=λ_=>none
structure nQ (σ:Type) where
 st:St
 ys:List Tmp
 out:σ
section
variable{σ:Type}(call:gk)(h:Hint)(Y:List fy->σ->Option (Bool×σ))
def rJ(ys:List Tmp)(d:Option Tmp):List Tmp:=match d with|some d=>ys.filter (· !=d)|none=>ys
def ze(k:Option (List Nat))(ys:List Tmp):List Tmp:=match k with|some ks=>ys.filter λt=>ks.contains t|none=>ys
def ln(r:Nat)(ops:Array Oper)(i:Nat)(o:Oper)(is:nQ σ):Option (nQ σ):=
 match o.op,o.guard with
 | .move (.tmp t),none=>if is.ys.contains t then
   (match o.dst with
    |some d=>if d<is.st.slots.length then some ⟨⟨is.st.slots.set d .undef,is.st.heap⟩,d::is.ys,is.out⟩else none
    |none=>none)
  else(iJ P call h r ops i o is.st).map λst=>⟨st,rJ is.ys o.dst,is.out⟩
 | .call {callee:=.value (.tmp t),args,..},none=>if is.ys.contains t then
   (match gp is.st.heap (args.toList.map (ev is.st.slots))with
    |some ds=>if(args.toList.map (ev is.st.slots)).any PV.lends then none else
     (match Y ds is.out with
     |some (b,out)=>some ⟨⟨lN is.st.slots o.dst (Qp b),is.st.heap⟩,rJ is.ys o.dst,out⟩
     |none=>none)
    |none=>none)
  else(iJ P call h r ops i o is.st).map λst=>⟨st,rJ is.ys o.dst,is.out⟩
 |_,_=>(iJ P call h r ops i o is.st).map λst=>⟨st,rJ is.ys o.dst,is.out⟩
def jr(r:Nat)(ops:Array Oper):Nat->List Oper->nQ σ->Option (nQ σ)
 |_,[],is=>some is
 |i,o::os,is=>match ln P call h Y r ops i o is with
  |some is=>jr r ops (i+1) os is
  |none=>none
def gA:Nat->Code->nQ σ->Option (Ex×nQ σ)
 |0,_,_=>none
 |n+1,c,is=>match c with
  | .skip=>some (.normal,is)
  | .region r ops false=>(jr P call h Y r ops 0 ops.toList is).map (Ex.normal,·)
  | .seq a b=>match gA n a is with
   |some (.normal,is)=>gA n b is
   |r=>r
  | .cond x a b=>match nF (ev is.st.slots x)with
   |some true=>gA n a is
   |some false=>gA n b is
   |none=>none
  | .block id b=>match gA n b is with
   |some (.exit d,is)=>if d=id then some (.normal,is)else some (.exit d,is)
   |r=>r
  | .loop b=>iloop b is.st.heap.length n is
  | .exit id=>some (.exit id,is)
  | .ret=>some (.ret,is)
  |_=>none
 where
 iloop (b:Code) (h0:Nat):Nat->nQ σ->Option (Ex×nQ σ)
 |0,_=>none
 |n+1,is=>match gA n b ⟨iU h0 ((Q0 b).bind h.keepAt) is.st,ze ((Q0 b).bind h.keepAt) is.ys,is.out⟩with
  |some (.normal,is)=>iloop b h0 n is
  |r=>r
def PV.still:PV->Bool
 | .dat _|.iptr _=>true
 |_=>false
def Kl(fn:Func)(caps:List PV)(n:Nat)(out:σ):Option σ:=
 match fn.body with
 |some c=>if caps.all PV.still &&fn.results.isEmpty then
   match gA P call h Y n c ⟨⟨.undef::caps++List.replicate (fn.ntmps - (caps.length+1)) (.tup []),[]⟩,[0],out⟩with
   |some (.exit _,_)=>none
   |some (_,is)=>some is.out
   |none=>none
  else none
 |none=>none
end
structure yX where
 heap:List fB
 pend:Option Ex
def sC(s:List PV):List Tmp->List fy->Option (List PV)
 |[],[]=>some s
 |t::ts,d::ds=>sC (s.set t (.dat d)) ts ds
 |_,_=>none
def ll(d f:St->Option (Ex×St))(h0:Nat)(slots:List PV)(j:List Tmp)(ds:List fy)(x:yX):Option (Bool×yX):=
 match x.pend with
 |some _=>none
 |none=>match sC slots j ds with
  |some s=>match d ⟨s,x.heap⟩with
   |some (.normal,g)=>match f g with
    |some (.normal,c)=>some (true,⟨(iU h0 (some []) c).heap,none⟩)
    |some (e,c)=>some (false,⟨(iU h0 (some []) c).heap,some e⟩)
    |none=>none
   |_=>none
  |none=>none
def nc(call:gk)(hint:fo->Hint)(Y:List fy->yX->Option (Bool×yX))(n:Nat)(st:St)(gf:fo)(caps:List PV):Option (Ex×St):=
 match P.funcs[gf]? with
 |some fn=>if fn.name== "runtime.NumGoroutine" then none else
  match Kl P call (hint gf) Y fn caps n ⟨st.heap,none⟩with
  |some x=>some (x.pend.getD .normal,⟨st.slots,x.heap⟩)
  |none=>none
 |none=>none
def fP(call:gk)(pf:fo->Bool)(hint:fo->Hint)(h:Hint):Bool->Nat->Code->St->Option (Ex×St)
 |_,0,_,_=>none
 |d,n+1,c,st=>match c with
  | .skip=>some (.normal,st)
  | .region r ops false=>match h.flatAt r with
   |some fl=>(oT P call h r ops fl 0 ops.toList st).map (Ex.normal,·)
   |none=>(kP P call h r ops 0 ops.toList st).map (Ex.normal,·)
  | .region r ops true=>match gR P call pf h r ops 0 ops.toList st with
   |some (st',fl)=>if kR st.heap.length ops fl then some (.normal,st')else none
   |none=>none
  | .seq a b=>match fP call pf hint h d n a st with
   |some (.normal,st)=>fP call pf hint h d n b st
   |r=>r
  | .cond x a b=>match nF (ev st.slots x)with
   |some true=>fP call pf hint h d n a st
   |some false=>fP call pf hint h d n b st
   |none=>none
  | .block id b=>match fP call pf hint h d n b st with
   |some (.exit e,st)=>if e=id then some (.normal,st)else some (.exit e,st)
   |r=>r
  | .loop b=>ploop d b st.heap.length n st
  | .exit id=>some (.exit id,st)
  | .ret=>some (.ret,st)
  | .label _=>some (.normal,st)
  | .scope b=>fP call pf hint h d n b st
  | .rangeFunc f g assign body=>if d then
    match ev st.slots f with
    | .fn gf caps=>nc P call hint (ll (fP call pf hint h false n assign) (fP call pf hint h false n body) st.heap.length st.slots g.toList) n st gf caps
    | .dat (.raw (.func (.func gf) _ _))=>nc P call hint (ll (fP call pf hint h false n assign) (fP call pf hint h false n body) st.heap.length st.slots g.toList) n st gf []
    |_=>none
   else none
  |_=>none
 where
 ploop (d:Bool) (b:Code) (h0:Nat):Nat->St->Option (Ex×St)
 |0,_=>none
 |n+1,st=>match fP call pf hint h d n b (iU h0 ((Q0 b).bind h.keepAt) st)with
  |some (.normal,st)=>ploop d b h0 n st
  |r=>r
end
end
noncomputable section
def EV(P:fm)(slots:List PV)(H:List fB):ResultVar->Option PV
 | .tmp t=>some (slots.getD t (.tup []))
 | .cell a t=>match pF P t,fJ P t,slots.getD a (.tup [])with
  |some g,some size,.ptr i off=>match H[i]? with
   |some (.box cs)=>(cut cs off size).bind (ofCells g)
   |_=>none
  |_,_,_=>none
def ir(P:fm)(slots:List PV)(H:List fB):List ResultVar->Option (List PV)
 |[]=>some []
 |r::c=>match EV P slots H r,ir P slots H c with
  |some v,some vs=>some (v::vs)
  |_,_=>none
def iO:List PV->PV
 |[v]=>v
 |vs=>.tup vs
def rA(H:List fB):PV->Option PV
 | .ptr i o=>match H[i]? with
  |some (.box cs)=>(kC H (cs.drop o)).map .iptr
  |_=>none
 | .iptr cs=>some (.iptr cs)
 |v=>(fR H v).map .dat
def uJ(H:List fB):List PV->Option (List PV)
 |[]=>some []
 |c::r=>match rA H c,uJ H r with|some d,some ds=>some (d::ds)|_,_=>none
def gM(H:List fB):PV->Option PV
 | .tup vs=>(gp H vs).map λds=>.tup (ds.map .dat)
 | .fn f caps=>(uJ H caps).map (.fn f ·)
 |v=>(iu H v).map .dat
def sc:fy->Bool
 | .raw _=>true
 | .lst es=>es.isEmpty
 | .agg _=>false
def IY:fy->Bool
 | .agg cs=>cs.all sc
 |d=>sc d
def fy.isRaw:fy->Bool
 | .raw _=>true
 |_=>false
def xi:Option fy->Bool
 |some (.lst ds)=>ds.all fy.isRaw
 |_=>false
def lF(H:List fB):PV->Bool
 | .dat d=>IY d
 | .arr i o len cap=>xi (fR H (.arr i o len cap))
 | .ms t g lo len cap=>xi (fR H (.ms t g lo len cap))
 |_=>false
def A1(H:List fB):PV->Bool
 | .agg cs=>cs.all (lF H)
 |c=>lF H c
def kN(H:List fB):PV->Bool
 | .tup vs=>vs.all (A1 H)
 |v=>A1 H v
def la:PV->Bool
 | .dat d=>d.scalar
 | .tup vs=>vs.all λ|.dat d=>d.scalar|_=>false
 |_=>false
def Env.pf(E:Env)(f:fo):Bool:=E.pure f||((E.summ f).isSome &&(E.hsum f).isNone)
def qh(P:fm)(E:Env)(call:gk)(n:Nat)(f:fo)(args:List PV)(H:List fB):Option (PV×List fB):=
 match P.funcs[f]? with
 |some fn=>match fn.body with
  |some c=>
   match fP P call E.pf E.hint (E.hint f) true n c ⟨args++List.replicate (fn.ntmps - args.length) (.tup []),H⟩with
   |some (.exit _,_)=>none
   |some (_,st)=>(ir P st.slots st.heap fn.results.toList).map λvs=>(iO vs,st.heap)
   |none=>none
  |none=>none
 |none=>none
def mN(c d:Option (PV×List fB)):Option (PV×List fB):=
 match c,d with
 |some (.ms 0 0 0 0 0,[.mt e 0 []]),some (.ms 0 0 0 0 0,[.mt e' 0 []])=>if e=e' then some (.ms 0 0 0 0 0,[.mt e 0 []])else none
 |_,_=>none
def nm:List PV->Bool
 |[.dat (.lst [])]=>true
 |_=>false
def kV(P:fm)(E:Env)(call:gk)(n:Nat)(f:fo)(args:List PV)(H:List fB):Option (PV×List fB):=
 if E.split f &&(nm args &&H.isEmpty)then mN (qh P E call n f [.empv true] []) (qh P E call n f [.empv false] [])else qh P E call n f args H
def mO(P:fm)(f:fo):Bool:=
 match P.funcs[f]? with
 |some fn=>fn.body.isSome && !(fn.name== "runtime.NumGoroutine")
 |none=>false
def jq(P:fm)(E:Env):Nat->gk
 |0,_,_,_=>none
 |n+1,f,args,H=>if !mO P f then none else
  match E.summ f with
  |some F=>match E.hsum f with
   |some G=>G args H
   |none=>match gp H args with
    |some ds=>match F ds with
     |some v=>if args.any PV.lends && !la v then none else some (v,H)
     |none=>none
    |none=>none
  |none=>if E.pure f then
    match gp H args with
    |some ds=>match kV P E (jq P E n) n f (ds.map .dat) []with
     |some (r,H')=>match gM H' r with
      |some v=>if args.any PV.lends && !(la v||kN H' r)then none else some (v,H)
      |none=>none
     |none=>none
    |none=>none
   else kV P E (jq P E n) n f args H
end
end Go.Pm
