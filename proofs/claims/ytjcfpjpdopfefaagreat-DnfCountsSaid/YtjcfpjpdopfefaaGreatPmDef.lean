/-
 The pure machine: a deterministic interpreter of the translated code over data without addresses. Definitions alone; its soundness stands in PmSound.
-/
import Derived.WalkKit
namespace Go.Pm
open Go
abbrev j5:=@Option.map_eq_some_iff
abbrev j6:=@Bool.false_eq_true
abbrev j7:=@Nat.le_refl
abbrev j8:=@List.all_eq_true
abbrev j9:=@Option.some.injEq
abbrev jA:=@Array.getElem?_eq_getElem
abbrev jB:=@List.getD_eq_getElem?_getD
abbrev jC:=@List.getElem?_eq_getElem
abbrev jD:=@List.getElem?_map
abbrev jE:=@Bool.and_eq_true
abbrev jF:=@List.mem_of_getElem?
abbrev jG:=@List.mem_cons_of_mem
abbrev jH:=@Array.getD_eq_getD_getElem?
abbrev jI:=@Prod.mk.injEq
abbrev jJ:=@Int.natCast_zero
abbrev jK:=@Option.bind_eq_some_iff
abbrev jL:=@List.length_nil
abbrev jM:=@List.mem_cons_self
abbrev jN:=@Option.map_some
abbrev jO:=@Bool.true_eq_false
abbrev jP:=@Nat.lt_of_lt_of_le
abbrev jQ:=@List.nil_append
abbrev jR:=@List.getElem?_take
abbrev jS:=@Option.some.inj
abbrev jT:=@List.getElem?_append
abbrev jU:=@List.append_nil
abbrev jV:=@List.length_append
abbrev jW:=@Nat.le_trans
abbrev jX:=@List.mem_singleton
abbrev jY:=@List.length_map
abbrev jZ:=@Nat.lt_irrefl
abbrev z6:=@Nat.lt_of_lt_of_eq
abbrev z7:=@Int.eq_ofNat_of_zero_le
abbrev z8:=@List.getElem_mem
abbrev zA:=@decide_eq_true_eq
abbrev zB:=@not_false_eq_true
abbrev zC:=@List.getElem?_set
abbrev zD:=@List.map_map
abbrev zE:=@List.length_cons
abbrev zF:=@Array.getElem?_toList
abbrev zG:=@List.getElem?_drop
abbrev zH:=@List.length_replicate
abbrev zI:=@Array.getElem?_map
abbrev zJ:=@List.map_append
abbrev zK:=@List.getElem?_replicate
abbrev zL:=@List.getElem?_append_right
abbrev zM:=@List.getElem?_append_left
abbrev zN:=@Nat.zero_le
abbrev zO:=@List.all_append
abbrev zP:=@List.mem_of_mem_take
abbrev zQ:=@Bool.or_eq_true
abbrev zR:=@List.length_set
abbrev zS:=@List.map_cons
abbrev zT:=@List.length_take
abbrev zU:=@Option.bind_some
abbrev zV:=@Nat.add_zero
abbrev zW:=@Nat.zero_add
abbrev zX:=@decide_eq_false
abbrev zY:=@decide_false
abbrev zZ:=@List.length_drop
abbrev y3:=@List.take_append_drop
theorem y5 {p:Prop} (h:p:=by omega):p:=h
theorem y6 {p:Prop} (h:p:=by simp; omega):p:=h
theorem y7 {p:Prop} (h:p:=by simp):p:=h
theorem y8 {p:Prop} (h:p:=by exact fun _=>rfl):p:=h
theorem y9 {p:Prop} (h:p:=by decide):p:=h

inductive Dat where
 | raw (v:Value)
 | lst (es:List Dat)
 | agg (cs:List Dat)
 deriving Inhabited

inductive PV where
 | dat (d:Dat)
 | agg (cs:List PV)
 | tup (vs:List PV)
 | vec (t:Nat) (es:List Dat)
 | ptr (i o:Nat)
 | iptr (cs:List Dat)
 | arr (i o len cap:Nat)
 | fn (f:FuncId) (cap:List PV)
 | ms (t g lo len cap:Nat)
 | mp (t g j:Nat)
 | mapv (i:Nat)
 | empv (isNil:Bool)
 | undef
 deriving Inhabited

inductive Blk where
 | box (cs:List PV)
 | tok (e:TypeId) (n:Nat)
 | mt (e:TypeId) (g:Nat) (cs:List PV)
 | map (es:List (Value × PV))
 | hole
 deriving Inhabited

structure St where
 slots:List PV
 heap:List Blk

def isRaw:Value→Bool
 | .bool _|.int _ _|.string _|.pointer none|.map none|.chan none|.nilFunc|.nilIface=>true
 | .func (.func _) first cap=>first.isEmpty && cap.isEmpty
 | _=>false

def Dat.cells:Dat→List Dat
 | .agg cs=>cs
 | d=>[d]

def Dat.num:Dat→Nat
 | .agg cs=>cs.length
 | _=>1

def Dat.isCell:Dat→Bool
 | .agg _=>false
 | _=>true
def evenD (lo:Nat) (ds:List Dat):Bool:=ds.all Dat.isCell || (lo == 0 && ds.all fun d=>!d.isCell)

def Dat.fits (size:Nat) (d:Dat):Bool:=d.num == size && d.cells.all Dat.isCell

def PV.cells:PV→List PV
 | .dat d=>d.cells.map .dat
 | .agg cs=>cs
 | v=>[v]

def allDat:List PV→Option (List Dat)
 | []=>some []
 | .dat d::r=>(allDat r).map (d::·)
 | _::_=>none

def mkAgg (cs:List PV):PV :=
 match allDat cs with
 | some ds=>.dat (.agg ds)
 | none=>.agg cs

def PV.cell:PV→Bool
 | .dat (.raw _)|.dat (.lst _)|.vec ..|.ptr ..|.iptr _|.arr ..|.fn ..|.ms ..|.mp ..|.mapv _|.empv _=>true
 | _=>false

def rawOf:Value→Option Dat
 | .slice none 0 0=>some (.lst [])
 | .agg cs=>if cs.all isRaw then some (.agg (cs.toList.map .raw)) else none
 | v=>if isRaw v then some (.raw v) else none

def constOf (v:Value):PV :=
 match v with
 | .tuple vs=>if vs.isEmpty then .tup [] else .undef
 | v=>match rawOf v with|some d=>.dat d|none=>.undef

def globOf:Nat→Option (List Dat):=fun _=>none

def ev (s:List PV):Operand→PV
 | .tmp t=>s.getD t (.tup [])
 | .const v=>constOf v
 | .func f=>.dat (.raw (.func (.func f) #[] #[]))
 | .global g=>match globOf g with|some cs=>.iptr cs|none=>.undef

def rawCells:List Dat→Option (List Value)
 | []=>some []
 | .raw v::r=>(rawCells r).map (v::·)
 | _::_=>none

def PV.toVal:PV→Option Value
 | .dat (.raw v)=>some v
 | .dat (.agg cs)=>(rawCells cs).map fun vs=>.agg vs.toArray
 | _=>none

def evalP (P:Program) {α:Type}:Sem α→Option α
 | .pure a=>some a
 | .program k=>evalP P (k P)
 | _=>none

def backOf (v:Value):Option PV :=
 match v with
 | .tuple vs=>if vs.all isRaw then some (.tup (vs.toList.map fun v=>.dat (.raw v))) else none
 | v=>(rawOf v).map .dat

section
variable (P:Program)
def szOf (t:TypeId):Option Nat:=(P.info? t).map (·.size)
def bytesOf (t:TypeId):Option Nat:=(P.info? t).map (·.bytes)
def aggT (t:TypeId):Option Bool:=(P.underlying t).map fun|.struct _|.array _ _=>true|_=>false
def zeroOf (t:TypeId):Option Dat:=((P.info? t).bind (·.zero)).bind rawZero
 where
 rawZero:Value→Option Dat
 | .agg cs=>(cells cs.toList).map .agg
 | v=>rawOf v
 cells:List Value→Option (List Dat)
 | []=>some []
 | v::r=>if isRaw v then (cells r).map (.raw v::·) else match v with|.slice none 0 0=>(cells r).map (.lst []::·)|_=>none

def fieldsOf (t:TypeId):Option (List Field) :=
 match P.underlying t with
 | some (.struct fs)=>some fs.toList
 | _=>none
def elemOfSlice (t:TypeId):Option TypeId :=
 match P.underlying t with
 | some (.slice e)=>some e
 | _=>none
def elemOfArray (t:TypeId):Option (Nat × TypeId) :=
 match P.underlying t with
 | some (.array n e)=>some (n,e)
 | _=>none

def cut {α:Type} (cs:List α) (o n:Nat):Option (List α) :=
 if o+n≤cs.length then some ((cs.drop o).take n) else none

def paste {α:Type} (cs:List α) (o:Nat) (vs:List α):Option (List α) :=
 if o+vs.length≤cs.length then some (cs.take o++vs++cs.drop (o+vs.length)) else none

def ofCells (agg:Bool) (cs:List PV):Option PV :=
 if agg then some (mkAgg cs) else match cs with|[c]=>some c|_=>none
def ofCellsD (agg:Bool) (cs:List Dat):Option Dat :=
 if agg then some (.agg cs) else match cs with|[c]=>some c|_=>none

def Blk.mtOf:Blk→Option (TypeId × Nat × List PV)
 | .box _=>none
 | .tok _ _=>none
 | .map _=>none
 | .hole=>none
 | .mt e g cs=>some (e,g,cs)
def mtOf (H:List Blk) (t:Nat):Option (TypeId × Nat × List PV):=(H[t]?).bind Blk.mtOf

def chunks (size len:Nat) (ds:List Dat):List Dat:=(List.range len).map fun i=>.agg ((ds.drop (i * size)).take size)
def arrDat (cs:List PV) (o len cap:Nat):Option (List Dat) :=
 if o=0∧0 < cap∧2 * cap≤cs.length then ((cut cs 0 (len * (cs.length / cap))).bind allDat).bind fun ds=>if ds.all Dat.isCell then some (chunks (cs.length / cap) len ds) else none
 else ((cut cs o len).bind allDat).bind fun ds=>if ds.all Dat.isCell then some ds else none

def pureC (H:List Blk):PV→Option Dat
 | .dat d=>some d
 | .empv _=>some (.lst [])
 | .vec _ es=>some (.lst es)
 | .arr i o len cap=>match H[i]? with
  | some (.box cs)=>(arrDat cs o len cap).map .lst
  | _=>none
 | .ms t g lo len _=>match mtOf H t with
  | some (_,g',cs)=>if g'=g then ((cut cs lo len).bind allDat).bind fun ds=>if evenD lo ds then some (.lst ds) else none else none
  | none=>none
 | _=>none
def pureCs (H:List Blk):List PV→Option (List Dat)
 | []=>some []
 | c::r=>match pureC H c,pureCs H r with|some d,some ds=>some (d::ds)|_,_=>none
def pure1 (H:List Blk):PV→Option Dat
 | .agg cs=>(pureCs H cs).map .agg
 | c=>pureC H c
def pures (H:List Blk):List PV→Option (List Dat)
 | []=>some []
 | c::r=>match pure1 H c,pures H r with|some d,some ds=>some (d::ds)|_,_=>none

def PV.isArr:PV→Bool
 | .arr ..|.ms ..=>true
 | _=>false

def PV.lends:PV→Bool
 | .arr ..|.ms ..=>true
 | .agg cs=>cs.any PV.isArr
 | _=>false
def Dat.scalar:Dat→Bool
 | .raw _=>true
 | .agg cs=>cs.all fun|.raw _=>true|_=>false
 | .lst _=>false
def notTup:Value→Bool
 | .tuple _=>false
 | _=>true
def Blk.mapOf:Blk→Option (List (Value × PV))
 | .map es=>if es.all (fun e=>notTup e.1) then some es else none
 | _=>none
def mapOf (H:List Blk) (i:Nat):Option (List (Value × PV)):=(H[i]?).bind Blk.mapOf
def iterE (s:ByteArray) (pos:Nat):List (Value × PV):=[(.tuple #[.string s],.dat (.raw (.int .i64 pos)))]
def iterIn:List (Value × PV)→Option (ByteArray × Nat)
 | [(.tuple vs,.dat (.raw (.int .i64 n)))]=>match vs.toList with
  | [.string s]=>if 0≤n then some (s,n.toNat) else none
  | _=>none
 | _=>none
def iterOf (H:List Blk) (i:Nat):Option (ByteArray × Nat):=match H[i]? with
 | some (.map es)=>iterIn es
 | _=>none
def nextSem (s:ByteArray) (pos i:Nat) (H:List Blk):PV × List Blk :=
 if pos < s.size then (.tup [.dat (.raw (.bool true)),.dat (.raw (.int .i64 pos)),.dat (.raw (.int .i32 (Utf8.decode s pos).1))],H.set i (.map (iterE s (pos+(Utf8.decode s pos).2))))
 else (.tup [.dat (.raw (.bool false))],H)
def sameK:TypeDesc→Value→Value→Option Bool
 | .int _,.int k a,.int k' b=>if k=k' then some (a == b) else none
 | .string,.string a,.string b|.bool,.bool a,.bool b=>some (a == b)
 | _,_,_=>none
def findK (kind:TypeDesc) (k:Value):List (Value × PV)→Nat→Option (Option (Nat × PV))
 | [],_=>some none
 | e::es,i=>match sameK kind k e.1 with
  | some true=>some (some (i,e.2))
  | some false=>findK kind k es (i+1)
  | none=>none
def plainKey:TypeDesc→Bool
 | .int _|.string|.bool=>true
 | _=>false

def tokCells (k:Nat) (cs:List PV):List (Nat × TypeId)→Option (List PV × List Blk)
 | []=>some (cs,[])
 | (j,e)::r=>match cs[j]? with
  | some (.dat (.lst []))=>match tokCells (k+1) (cs.set j (.vec k [])) r with
   | some (cs,bs)=>some (cs,.tok e 0::bs)
   | none=>none
  | _=>none

def fillA {α:Type} (place:Nat→Option (Nat × Nat)) (cs:List α):List (Nat × List α)→Option (List α)
 | []=>some cs
 | (i,vs)::r=>match place i with
  | none=>none
  | some (off,size)=>if vs.length=size then (paste cs off vs).bind fun cs=>fillA place cs r else none

def places (t:TypeId):Option (Nat→Option (Nat × Nat)) :=
 match P.underlying t with
 | some (.struct fs)=>(fs.toList.mapM fun f=>(P.info? f.type).map fun i=>(f.offset,i.size)).map fun l i=>l[i]?
 | some (.array _ e)=>(szOf P e).map fun s i=>some (i * s,s)
 | _=>none

def uncovered (pl:Nat→Option (Nat × Nat)) (j:Nat) (parts:List (Nat × Operand)):Bool :=
 parts.all fun (i,_)=>match pl i with|some (off,size)=>j < off || off+size≤j|none=>false

def dense:Nat→List (Nat × Operand)→Bool
 | _,[]=>true
 | k,(i,_)::r=>i == k && dense (k+1) r

def natOf:PV→Option Nat
 | .dat (.raw (.int _ n))=>if 0≤n then some n.toNat else none
 | _=>none
def bndOf (ρ:Operand→PV) (d:Nat):Option Operand→Option Nat
 | none=>some d
 | some x=>natOf (ρ x)
def boolOf:PV→Option Bool
 | .dat (.raw (.bool b))=>some b
 | _=>none
def Qd (n:Int):PV:=.dat (.raw (.int .i64 n))
def Qq (b:Bool):PV:=.dat (.raw (.bool b))

abbrev CallF:=FuncId→List PV→List Blk→Option (PV × List Blk)

def room:Nat:=140737488355328

def appendTo (H:List Blk) (e:TypeId) (size bytes:Nat) (s:PV) (es:List Dat):Option (PV × List Blk) :=
 if es.all (Dat.fits size) then
  match s with
  | .vec t xs=>match H[t]? with
   | some (.tok e' n)=>if xs.all (Dat.fits size)∧e'=e∧n=xs.length∧(xs.length+es.length) * bytes≤room then
     some (.vec t (xs++es),H.set t (.tok e (xs.length+es.length))) else none
   | _=>none
  | _=>none
 else none

def appended (H:List Blk):PV→Option (List Dat)
 | .empv _=>some []
 | .dat (.lst es)=>some es
 | .vec _ es=>some es
 | .arr i o len cap=>match pureC H (.arr i o len cap) with|some (.lst ds)=>some ds|_=>none
 | _=>none

def arrHint:List (Nat × TypeId)→Bool
 | (j,_)::_=>j == 1001
 | []=>false
def cellParts (ρ:Operand→PV) (size:Nat) (parts:List (Nat × Operand)):Bool:=parts.all fun (_,x)=>(ρ x).cells.length == size && (ρ x).cells.all PV.cell

def sourceOf (H:List Blk):PV→Option (List PV)
 | .ms t g lo len _=>match mtOf H t with
  | some (_,g',cs)=>if g'=g then cut cs lo len else none
  | none=>none
 | p=>match appended H p with
  | some es=>if es.all Dat.isCell then some (es.map .dat) else none
  | none=>none

def PV.flat:PV→Bool
 | .dat (.agg _)=>false
 | _=>true
def appendMs (H:List Blk) (e bytes tt g lo len cap:Nat) (es:List PV):Option (PV × List Blk) :=
 if es.all PV.cell∧lo=0 then
  if es.isEmpty then some (.ms tt g lo len cap,H) else
  match mtOf H tt with
  | some (e',g',cs)=>if g'=g∧e'=e then
    if len+es.length≤cs.length then some (.ms tt g 0 (len+es.length) (max cap (len+es.length)),H.set tt (.mt e g (cs.take len++es++cs.drop (len+es.length))))
    else if len=cs.length∧(len+es.length) * bytes≤room then some (.ms tt (g+1) 0 (len+es.length) (len+es.length),H.set tt (.mt e (g+1) (cs++es)))
    else none
   else none
  | none=>none
 else none

def newApp (H:List Blk) (e bytes:Nat) (es:List Dat):Option (PV × List Blk) :=
 if es.all Dat.isCell=true∧es.length * bytes≤room then
  some (.ms H.length (if es.isEmpty then 0 else 1) 0 es.length es.length,H++[.mt e (if es.isEmpty then 0 else 1) (es.map .dat)]) else none
def appendMul (H:List Blk) (e size bytes tt g lo len:Nat) (x:PV):Option (PV × List Blk) :=
 match appended H x,mtOf H tt with
 | some es,some (e',g',cs)=>if 1 < size∧es.all (Dat.fits size)∧lo=0∧g'=g∧e'=e∧len=cs.length∧0 < es.length∧(len+es.length) * bytes≤room∧cs.all (fun c=>!c.flat)=true then
   some (.ms tt (g+1) 0 (len+es.length) (len+es.length),H.set tt (.mt e (g+1) (cs++es.map .dat))) else none
 | _,_=>none

def ownMake (H:List Blk) (e size bytes:Nat) (z:Dat) (c:Int):Option (PV × List Blk) :=
 if 0≤c∧c * bytes≤room∧c≤9223372036854775807∧0 < bytes∧(size=1∧z.isCell=true∨1 < size∧z.fits size=true) then
  (if c=0 then some (.ms H.length 0 0 0 0,H++[.mt e 0 []]) else some (.ms H.length 1 0 c.toNat c.toNat,H++[.mt e 1 (List.replicate c.toNat (.dat z))])) else none

def appendZeros (H:List Blk) (e bytes tt g lo len:Nat) (z:Dat) (n:Nat):Option (PV × List Blk) :=
 match mtOf H tt with
 | some (e',g',cs)=>if g'=g∧g=0∧e'=e∧cs=[]∧lo=0∧len=0∧0 < n∧n * bytes≤room∧z.isCell=true then some (.ms tt (g+1) 0 n n,H.set tt (.mt e (g+1) (List.replicate n (.dat z)))) else none
 | none=>none

def copied (H:List Blk):PV→Option (List PV)
 | .arr i o len _=>match H[i]? with
  | some (.box cs)=>cut cs o len
  | _=>none
 | .dat (.lst es)|.vec _ es=>if es.all Dat.isCell then some (es.map .dat) else none
 | .ms t g lo len _=>match mtOf H t with
  | some (_,g',cs)=>if g'=g then cut cs lo len else none
  | none=>none
 | _=>none

def PV.isMap:PV→Bool
 | .mapv _=>true
 | _=>false
def lenPV:PV→Option Nat
 | .ms _ _ _ len _=>some len
 | .empv _=>some 0
 | .dat (.lst es)=>some es.length
 | .vec _ es=>some es.length
 | .arr _ _ len _=>some len
 | _=>none

def builtinSem (b:Builtin) (argTypes:Array TypeId) (args:List PV) (H:List Blk):Option (PV × List Blk) :=
 match b,args with
 | .len,[x]=>match (argTypes[0]?).bind P.underlying with
  | some (.slice _)=>match lenPV x with
   | some n=>some (Qd (n:Int),H)
   | none=>none
  | some (.map _ _)=>match x with
   | .mapv i=>match mapOf H i with
    | some es=>some (Qd (es.length:Int),H)
    | none=>none
   | _=>none
  | _=>none
 | .copy,[.arr i o len _,x]=>match (argTypes[0]?).bind (elemOfSlice P) with
  | some e=>if szOf P e=some 1 then
    match H[i]?,copied H x with
    | some (.box cs),some es=>if es.all PV.cell then (paste cs o (es.take (min es.length len))).map fun cs=>(Qd ((min es.length len:Nat):Int),H.set i (.box cs)) else none
    | _,_=>none
   else none
  | none=>none
 | .cap,[.ms tt g lo len _]=>match (argTypes[0]?).bind P.underlying with
  | some (.slice _)=>match mtOf H tt with
   | some (_,g',cs)=>if g'=g∧g=0∧cs=[]∧lo=0∧len=0 then some (Qd 0,H) else none
   | none=>none
  | _=>none
 | .append,[.ms tt g lo len _,.dat (.raw (.int _ n))]=>match argTypes.toList with
  | [t,t']=>match elemOfSlice P t,P.underlying t' with
   | some e,some (.int _)=>match bytesOf P e,zeroOf P e with
    | some bytes,some z=>if szOf P e=some 1∧0 < bytes∧0≤n∧n≤9223372036854775807 then appendZeros H e bytes tt g lo len z n.toNat else none
    | _,_=>none
   | _,_=>none
  | _=>none
 | .append,[.ms tt g lo len cap,x]=>match argTypes.toList with
  | [t,t']=>match elemOfSlice P t with
   | some e=>match bytesOf P e,sourceOf H x with
    | some bytes,some es=>if szOf P e=some 1∧0 < bytes∧t'=t∧(zeroOf P e).map Dat.num=some 1 then appendMs H e bytes tt g lo len cap es
     else if es.isEmpty=true∧lo=0∧t'=t∧(szOf P e).isSome=true then some (.ms tt g lo len cap,H) else none
    | some bytes,none=>match szOf P e with
     | some size=>if 0 < bytes∧t'=t∧(zeroOf P e).map Dat.num=some size then appendMul H e size bytes tt g lo len x else none
     | none=>none
    | _,_=>none
   | none=>none
  | _=>none
 | .append,[.arr _ _ 0 0,.dat (.lst es)]=>match argTypes.toList with
  | [t,t']=>match elemOfSlice P t with
   | some e=>match bytesOf P e with
    | some bytes=>if szOf P e=some 1∧0 < bytes∧t'=t∧(zeroOf P e).map Dat.num=some 1 then newApp H e bytes es else none
    | none=>none
   | none=>none
  | _=>none
 | .append,[s,x]=>match argTypes.toList with
  | [t,t']=>match elemOfSlice P t with
   | some e=>match szOf P e,bytesOf P e,appended H x with
    | some size,some bytes,some es=>if 0 < size∧0 < bytes∧t'=t∧(zeroOf P e).map Dat.num=some size then appendTo H e size bytes s es else none
    | _,_,_=>none
   | none=>none
  | _=>none
 | .clear,[.ms tt g lo len _]=>match argTypes.toList with
  | [t]=>match elemOfSlice P t with
   | some e=>match zeroOf P e,mtOf H tt with
    | some z,some (e',g',cs)=>if g'=g∧e'=e∧z.isCell∧szOf P e=some 1∧0 < len∧lo+len≤cs.length then
      some (.tup [],H.set tt (.mt e g (cs.take lo++List.replicate len (.dat z)++cs.drop (lo+(List.replicate len (PV.dat z)).length)))) else none
    | _,_=>none
   | none=>none
  | _=>none
 | .clear,[.arr i off len _]=>match argTypes.toList with
  | [t]=>match elemOfSlice P t with
   | some e=>match zeroOf P e,szOf P e,H[i]? with
    | some z,some size,some (.box cs)=>if 0 < len∧off+len * size≤cs.length∧z.cells.length=size then
      some (.tup [],H.set i (.box (cs.take off++(List.replicate len (z.cells.map PV.dat)).flatten++cs.drop (off+len * size)))) else none
    | _,_,_=>none
   | none=>none
  | _=>none
 | .clear,[.dat (.lst [])]=>match argTypes.toList with
  | [t]=>if (elemOfSlice P t).isSome then some (.tup [],H) else none
  | _=>none
 | _,_=>none

def cutMs (ρ:Operand→PV) (lo hi:Option Operand) (tt g l0 len cap:Nat):Option PV :=
 match bndOf ρ 0 lo,bndOf ρ len hi with
 | some l,some h=>if l≤h∧h≤max len cap then some (if l=0∨l < h then .ms tt g (l0+l) (h - l) (max len cap - l) else .dat (.lst [])) else none
 | _,_=>none

def cutArr (ρ:Operand→PV) (lo hi:Option Operand) (size i off len cap:Nat):Option PV :=
 match bndOf ρ 0 lo,bndOf ρ len hi with
 | some l,some h=>if l≤h∧h≤cap then some (if l=0∨l < h then .arr i (off+l * size) (h - l) (cap - l) else .dat (.lst [])) else none
 | _,_=>none

def findIn (ρ:Operand→PV) (k:Operand) (t:TypeId) (es:List (Value × PV)):Option (Value × TypeId × Option (Nat × PV)) :=
 match P.underlying t,(ρ k).toVal with
 | some (.map kt e),some kv=>match P.underlying kt with
  | some kd=>if plainKey kd then (findK kd kv es 0).map fun r=>(kv,e,r) else none
  | none=>none
 | _,_=>none

def plainSem (o:Oper) (ρ:Operand→PV) (H:List Blk):Option (PV × List Blk) :=
 let vals:=o.op.operands.toList.map fun x=>(ρ x).toVal
 if vals.all Option.isSome then
  match evalP P (execOp (fun x=>((ρ x).toVal).getD undef) o) with
  | some (.value v)=>(backOf v).map (·,H)
  | _=>none
 else none

def fnNil (op:BinOp) (t:TypeId) (p q:PV):Option Bool :=
 match p,q with
 | .fn _ _,.dat (.raw .nilFunc)=>match P.underlying t with
  | some (.func _ _ _)=>match op with|.eql=>some false|.neq=>some true|_=>none
  | _=>none
 | .ptr _ _,.dat (.raw (.pointer none))|.iptr _,.dat (.raw (.pointer none))=>match P.underlying t with
  | some (.pointer _)=>match op with|.eql=>some false|.neq=>some true|_=>none
  | _=>none
 | _,_=>none

def lstNil (op:BinOp) (t:TypeId) (p:PV) (y:Operand):Option Bool :=
 match P.underlying t,y with
 | some (.slice _),.const (.slice none 0 0) =>
  (match p with|.empv b=>some b|.dat (.lst (_::_))=>some false|_=>none).bind fun b=>match op with|.eql=>some b|.neq=>some (!b)|_=>none
 | _,_=>none

def PV.isFn:PV→Bool
 | .fn ..=>true
 | _=>false
def fnParts (ow:List (Nat × TypeId)) (ρ:Operand→PV) (parts:List (Nat × Operand)):Bool:=!ow.isEmpty && (!parts.isEmpty && parts.all fun (_,x)=>(ρ x).isFn)

def PV.plainCell:PV→Bool
 | .dat d=>d.scalar
 | _=>false
def freshCall (call:CallF) (f:FuncId) (args:List PV) (H:List Blk):Option (PV × List Blk) :=
 match pures H args with
 | some ds=>match call f (ds.map .dat) [] with
  | some (.ms t g 0 len _,H')=>match mtOf H' t with
   | some (e,g',cs)=>if g'=g∧len≤cs.length∧(allDat (cs.take len)).isSome∧(!(args.any PV.lends) || (cs.take len).all PV.plainCell) then some (.ms H.length 1 0 len len,H++[.mt e 1 (cs.take len)]) else none
   | none=>none
  | some (.mapv 0,[.map es])=>if args.isEmpty=true∧es.all (fun e=>e.2.plainCell)=true then some (.mapv H.length,H++[.map es]) else none
  | _=>none
 | none=>none

def nilCall (call:CallF) (f:FuncId) (ops:List Operand) (args:List PV) (j:Nat) (e:TypeId) (H:List Blk):Option (PV × List Blk) :=
 match ops[j]? with
 | some (.const (.slice none 0 0))=>call f (args.set j (.ms H.length 0 0 0 0)) (H++[.mt e 0 []])
 | _=>none

def sameV:Value→Value→Bool
 | .int k a,.int k' b=>decide (k=k') && a == b
 | .bool a,.bool b=>a == b
 | .string a,.string b=>a.data == b.data
 | .nilFunc,.nilFunc=>true
 | .pointer none,.pointer none=>true
 | .map none,.map none=>true
 | .nilIface,.nilIface=>true
 | .func (.func f) x y,.func (.func g) x' y'=>(decide (f=g) && (x.toList.isEmpty && x'.toList.isEmpty)) && (y.toList.isEmpty && y'.toList.isEmpty)
 | _,_=>false
mutual
def sameD:Dat→Dat→Bool
 | .raw v,.raw w=>sameV v w
 | .lst es,.lst fs=>sameDs es fs
 | .agg es,.agg fs=>sameDs es fs
 | _,_=>false
def sameDs:List Dat→List Dat→Bool
 | [],[]=>true
 | a::l,b::m=>sameD a b && sameDs l m
 | _,_=>false
end
mutual
def sameP:PV→PV→Bool
 | .dat d,.dat e=>sameD d e
 | .agg l,.agg m=>samePs l m
 | .tup l,.tup m=>samePs l m
 | .vec t es,.vec t' fs=>decide (t=t') && sameDs es fs
 | .ptr i o,.ptr i' o'=>decide (i=i') && decide (o=o')
 | .iptr cs,.iptr ds=>sameDs cs ds
 | .arr i o l c,.arr i' o' l' c'=>(decide (i=i') && decide (o=o')) && (decide (l=l') && decide (c=c'))
 | .fn f l,.fn f' m=>decide (f=f') && samePs l m
 | .ms t g o l c,.ms t' g' o' l' c'=>(decide (t=t') && decide (g=g')) && (decide (o=o') && (decide (l=l') && decide (c=c')))
 | .mp t g j,.mp t' g' j'=>decide (t=t') && (decide (g=g') && decide (j=j'))
 | .mapv i,.mapv i'=>decide (i=i')
 | .empv b,.empv b'=>b == b'
 | .undef,.undef=>true
 | _,_=>false
def samePs:List PV→List PV→Bool
 | [],[]=>true
 | a::l,b::m=>sameP a b && samePs l m
 | _,_=>false
end
def sameE:List (Value × PV)→List (Value × PV)→Bool
 | [],[]=>true
 | a::l,b::m=>(sameV a.1 b.1 && sameP a.2 b.2) && sameE l m
 | _,_=>false
def sameB:Blk→Blk→Bool
 | .map l,.map m=>sameE l m
 | .box l,.box m=>samePs l m
 | .tok e n,.tok e' n'=>decide (e=e') && decide (n=n')
 | .mt e g l,.mt e' g' m=>(decide (e=e') && decide (g=g')) && samePs l m
 | _,_=>false
def sameH:List Blk→List Blk→Bool
 | [],[]=>true
 | a::l,b::m=>sameB a b && sameH l m
 | _,_=>false
def valCall (call:CallF) (fv:PV) (args:List PV) (H:List Blk):Option (PV × List Blk) :=
 match fv with
 | .dat (.raw (.func (.func f) _ _))=>call f args H
 | .fn f cap=>call f (args++cap) H
 | _=>none
open Classical in
noncomputable def calmCall (call:CallF) (fv:PV) (args:List PV) (H:List Blk):Option (PV × List Blk) :=
 match valCall call fv args H with
 | some (v,H')=>if sameH H H'=true∨H'=H then some (v,H') else none
 | none=>none

def PV.numOf:PV→Option Nat
 | .dat d=>some d.num
 | _=>none

def stepN (size n:Nat):Nat:=if size=1 then n else n * size
def storeSem (t:TypeId) (pa px:PV) (H:List Blk):Option (PV × List Blk) :=
 match szOf P t with
  | some size=>match pa with
   | .ptr i off=>match H[i]? with
    | some (.box cs)=>if px.cells.length=size∧px.cells.all PV.cell then (paste cs off px.cells).map fun cs=>(.tup [],H.set i (.box cs)) else none
    | _=>none
   | .mp tt gg j=>match mtOf H tt with
    | some (e,g',cs)=>if g'=gg∧size=1∧px.cell=true∧cs[j]?.map PV.flat=some true then some (.tup [],H.set tt (.mt e gg (cs.set j px)))
     else match px with
      | .dat d=>if g'=gg∧1 < size∧d.fits size=true∧j % size=0∧(cs[j / size]?.bind PV.numOf)=some size then some (.tup [],H.set tt (.mt e gg (cs.set (j / size) (.dat d)))) else none
      | _=>none
    | none=>none
   | _=>none
  | none=>none

def loadSem (t:TypeId) (pa:PV) (H:List Blk):Option (PV × List Blk) :=
 match aggT P t,szOf P t with
  | some g,some size=>match pa with
   | .ptr i off=>match H[i]? with
    | some (.box cs)=>((cut cs off size).bind (ofCells g)).map (·,H)
    | _=>none
   | .iptr cs=>((cut cs 0 size).bind (ofCellsD g)).map fun d=>(.dat d,H)
   | .mp t gg j=>match mtOf H t with
    | some (_,g',cs)=>if g'=gg∧size=1∧cs[j]?.map PV.flat=some true then ((cut cs j size).bind (ofCells g)).map (·,H)
     else if g'=gg∧1 < size∧g=true∧j % size=0∧(cs[j / size]?.bind PV.numOf)=some size then (cs[j / size]?).map (·,H) else none
    | none=>none
   | _=>none
  | _,_=>none
def consume1 (H:List Blk):PV→Option (Dat × List Blk)
 | .dat d=>some (d,H)
 | .vec _ es=>some (.lst es,H)
 | .ms t g lo len cap=>match pureC H (.ms t g lo len cap),mtOf H t with
  | some d,some (e,_,_)=>some (d,H.set t (.mt e (g+1) []))
  | _,_=>none
 | _=>none
def consumeL:List Blk→List PV→Option (List Dat × List Blk)
 | H,[]=>some ([],H)
 | H,c::cs=>match consume1 H c with
  | some (d,H1)=>match consumeL H1 cs with
   | some (ds,H2)=>some (d::ds,H2)
   | none=>none
  | none=>none

def giveCall (call:CallF) (f:FuncId) (args:List PV) (H:List Blk):Option (PV × List Blk) :=
 match freshCall call f args H with
 | some (p,H1)=>(consume1 H1 p).map fun x=>(.dat x.1,x.2)
 | none=>none

def aloneCall (call:CallF) (fv:PV) (args:List PV) (H:List Blk):Option (PV × List Blk) :=
 match fv with
 | .dat (.raw (.func (.func f) _ _))=>if args.any PV.lends=true then none else match pures H args with
  | some ds=>match call f (ds.map .dat) [] with
   | some (p,H1)=>(pure1 H1 p).map fun d=>(.dat d,H)
   | none=>none
  | none=>none
 | _=>none

mutual
def PV.under (n:Nat):PV→Bool
 | .dat _=>true
 | .agg cs=>unders n cs
 | .tup cs=>unders n cs
 | .vec t _=>decide (t < n)
 | .ptr i _=>decide (i < n)
 | .iptr _=>true
 | .arr i _ _ _=>decide (i < n)
 | .fn _ cs=>unders n cs
 | .ms t _ _ _ _=>decide (t < n)
 | .mp t _ _=>decide (t < n)
 | .mapv i=>decide (i < n)
 | .empv _=>true
 | .undef=>true
def unders (n:Nat):List PV→Bool
 | []=>true
 | c::cs=>c.under n && unders n cs
end
def Blk.under (n:Nat):Blk→Bool
 | .box cs=>unders n cs
 | .mt _ _ cs=>unders n cs
 | .map es=>es.all fun e=>e.2.under n
 | _=>true
def frameRun (call:CallF) (f:FuncId) (args:List PV) (n:Nat) (H:List Blk):Option (PV × List Blk) :=
 if n≤H.length∧unders n args=true∧(H.take n).all (Blk.under n)=true then
  match call f args (H.take n) with
  | some (p,H1)=>if p.under n=true∧(H1.take n).all (Blk.under n)=true then some (p,H1.take n++H.drop n) else none
  | none=>none
 else none
mutual
def PV.ren (f:Nat→Nat):PV→PV
 | .dat d=>.dat d
 | .agg cs=>.agg (PV.rens f cs)
 | .tup vs=>.tup (PV.rens f vs)
 | .vec t es=>.vec (f t) es
 | .ptr i o=>.ptr (f i) o
 | .iptr cs=>.iptr cs
 | .arr i o l c=>.arr (f i) o l c
 | .fn g cap=>.fn g (PV.rens f cap)
 | .ms t g lo len cap=>.ms (f t) g lo len cap
 | .mp t g j=>.mp (f t) g j
 | .mapv i=>.mapv (f i)
 | .empv b=>.empv b
 | .undef=>.undef
def PV.rens (f:Nat→Nat):List PV→List PV
 | []=>[]
 | c::r=>PV.ren f c::PV.rens f r
end
def Blk.ren (f:Nat→Nat):Blk→Blk
 | .box cs=>.box (cs.map (PV.ren f))
 | .tok e n=>.tok e n
 | .mt e g cs=>.mt e g (cs.map (PV.ren f))
 | .map es=>.map (es.map fun x=>(x.1,x.2.ren f))
 | .hole=>.hole

def wup (b n i:Nat):Nat:=if i < b then i+(n - b) else if i < n then i - b else i
def wdn (b n i:Nat):Nat:=if i < n - b then i+b else if i < n then i - (n - b) else i
def winRun (call:CallF) (f:FuncId) (args:List PV) (b n:Nat) (H:List Blk):Option (PV × List Blk) :=
 if b≤n∧n≤H.length then
  match frameRun call f (args.map (PV.ren (wup b n))) (n - b) (((H.take n).drop b).map (Blk.ren (wup b n))) with
  | some (p,R)=>some (p.ren (wdn b n),H.take b++R.map (Blk.ren (wdn b n))++H.drop n)
  | none=>none
 else none
mutual
def PV.top:PV→Nat
 | .dat _=>0
 | .agg cs=>tops cs
 | .tup cs=>tops cs
 | .vec t _=>t+1
 | .ptr i _=>i+1
 | .iptr _=>0
 | .arr i _ _ _=>i+1
 | .fn _ cs=>tops cs
 | .ms t _ _ _ _=>t+1
 | .mp t _ _=>t+1
 | .mapv i=>i+1
 | .empv _=>0
 | .undef=>0
def tops:List PV→Nat
 | []=>0
 | c::cs=>max c.top (tops cs)
end
def frameCall (call:CallF) (fv:PV) (args:List PV) (d:Nat) (H:List Blk):Option (PV × List Blk) :=
 match fv with
 | .dat (.raw (.func (.func f) _ _))=>frameRun call f args (tops args+d) H
 | _=>none

def newRun (call:CallF) (f:FuncId) (args:List PV) (H:List Blk):Option (PV × List Blk) :=
 if unders 0 args=true then
  match call f args [] with
  | some (p,R)=>some (p.ren (·+H.length),H++R.map (Blk.ren (·+H.length)))
  | none=>none
 else none
def winF (call:CallF) (b d:Nat):CallF:=fun f args H=>if H.length≤b then newRun call f args H else winRun call f args b (tops args+d) H
def winCall (call:CallF) (fv:PV) (args:List PV) (b d:Nat) (H:List Blk):Option (PV × List Blk):=valCall (winF call b d) fv args H
open Classical in
noncomputable def readCall (call:CallF) (fv:PV) (args:List PV) (d:Nat) (H:List Blk):Option (PV × List Blk) :=
 match frameCall call fv args d H with
 | some (p,H1)=>if sameH H1 H=true then some (p,H) else if H1=H then some (p,H) else none
 | none=>none
def giveHint:List (Nat × TypeId)→Bool
 | (j,_)::_=>j == 5000
 | []=>false
def buildSem (ow:List (Nat × TypeId)) (ρ:Operand→PV) (t:TypeId) (parts:Array (Nat × Operand)) (H:List Blk):Option (PV × List Blk) :=
 match zeroOf P t,places P t with
  | some z,some pl=>match fillA pl (z.cells.map PV.dat) (parts.toList.map fun (i,x)=>(i,(ρ x).cells)) with
   | some cs=>if parts.toList.all (fun (_,x)=>(ρ x).cells.all PV.cell) then (if ow.all fun (j,_)=>uncovered pl j parts.toList then
     (match tokCells H.length cs ow with
      | some (cs,bs)=>some (mkAgg cs,H++bs)
      | none=>none) else none) else none
   | none=>none
  | _,_=>none
noncomputable section
def sem (call:CallF) (ow:List (Nat × TypeId)) (o:Oper) (ρ:Operand→PV) (H:List Blk):Option (PV × List Blk) :=
 match o.op with
 | .move x=>if giveHint ow=true then (consume1 H (ρ x)).map fun y=>(.dat y.1,y.2) else some (ρ x,H)
 | .assign x=>match ow with
  | []=>some (ρ x,H)
  | (j,e)::_=>match x with
   | .const (.slice none 0 0)=>if j=1000 then some (.ms H.length 0 0 0 0,H++[.mt e 0 []]) else some (.vec H.length [],H++[.tok e 0])
   | _=>none
 | .pick c a b=>(boolOf (ρ c)).map fun t=>(if t then ρ a else ρ b,H)
 | .alloc e=>match zeroOf P e with
  | some z=>match tokCells (H.length+1) (z.cells.map .dat) ow with
   | some (cs,bs)=>some (.ptr H.length 0,H++.box cs::bs)
   | none=>none
  | none=>none
 | .box _ x=>match ow with
  | []=>if (ρ x).cells.all PV.cell then some (.ptr H.length 0,H++[.box (ρ x).cells]) else none
  | _::_=>(allDat (ρ x).cells).map fun ds=>(.iptr ds,H)
 | .build t parts=>if giveHint ow=true then (match buildSem P [] ρ t parts H with
   | some (.agg cs,H1)=>(match consumeL H1 cs with
    | some (ds,H2)=>some (.dat (.agg ds),H2)
    | none=>none)
   | _=>none) else buildSem P ow ρ t parts H
 | .buildSlice t len parts=>match elemOfSlice P t with
  | some e=>if arrHint ow=true then
    (match szOf P e with
     | some size=>if (zeroOf P e).isSome∧parts.size=len∧dense 0 parts.toList∧0 < size∧len * size≤16777216∧cellParts ρ size parts.toList=true then
       some (.arr H.length 0 len len,H++[.box (parts.toList.flatMap fun (_,x)=>(ρ x).cells)]) else none
     | none=>none)
   else if fnParts ow ρ parts.toList then
    (if szOf P e=some 1∧(zeroOf P e).isSome∧parts.size=len∧dense 0 parts.toList∧len≤16777216 then some (.arr H.length 0 len len,H++[.box (parts.toList.map fun (_,x)=>ρ x)]) else none)
   else match szOf P e,pures H (parts.toList.map fun (_,x)=>ρ x) with
   | some size,some ds =>
    if (zeroOf P e).isSome∧parts.size=len∧dense 0 parts.toList∧ds.all (Dat.fits size)∧0 < size∧len * size≤16777216∧!(parts.toList.any fun (_,x)=>(ρ x).lends) then
     (match ow with
      | []=>some (.dat (.lst ds),H)
      | (j,e')::_=>if e'=e then (if j=1000 then (if ds.isEmpty then some (.ms H.length 0 0 0 0,H++[.mt e 0 []]) else if size=1∧ds.all Dat.isCell=true∨1 < size then some (.ms H.length 1 0 ds.length ds.length,H++[.mt e 1 (ds.map .dat)]) else none) else some (.vec H.length ds,H++[.tok e ds.length])) else none) else none
   | _,_=>none
  | none=>none
 | .load t a=>match ow with
  | []=>loadSem P t (ρ a) H
  | _::_=>match loadSem P t (ρ a) H with
   | some (.agg cs,H1)=>(consumeL H1 cs).map fun x=>(.dat (.agg x.1),x.2)
   | _=>none
 | .store t a x=>match ow with
  | []=>storeSem P t (ρ a) (ρ x) H
  | (_,e)::_=>match x with
   | .const (.slice none 0 0)=>storeSem P t (ρ a) (.vec H.length []) (H++[.tok e 0])
   | _=>match ρ x with
    | .vec _ es=>storeSem P t (ρ a) (.dat (.lst es)) H
    | .ms tt gg _ len _=>match mtOf H tt with
     | some (e',g',cs)=>if g'=gg then storeSem P t (ρ a) (ρ x) (H.set tt (.mt e' gg (cs.take len))) else none
     | none=>none
    | _=>none
 | .nilCheck x=>match ρ x with
  | .ptr i off=>some (.ptr i off,H)
  | .iptr cs=>some (.iptr cs,H)
  | .fn f cap=>some (.fn f cap,H)
  | .dat (.raw (.func (.func f) first cap))=>some (.dat (.raw (.func (.func f) first cap)),H)
  | _=>none
 | .makeFunc (.func f) first cap=>if first.isEmpty then
   (if cap.isEmpty then some (.dat (.raw (.func (.func f) #[] #[])),H) else some (.fn f (cap.toList.map ρ),H)) else none
 | .makeSlice t l c=>match ow with
  | []=>match elemOfSlice P t with
   | some e=>match zeroOf P e,szOf P e,bytesOf P e,ρ l,ρ c with
    | some z,some 1,some bytes,.dat (.raw (.int .i64 l)),.dat (.raw (.int .i64 c)) =>
     if 0≤l∧l≤c∧c * bytes≤room∧c≤9223372036854775807∧z.isCell then
      some (.arr H.length 0 l.toNat c.toNat,H++[.box (List.replicate c.toNat (.dat z))]) else none
    | _,_,_,_,_=>none
   | none=>none
  | (j,e')::_=>if 8000≤j then (match elemOfSlice P t with
   | some e=>match zeroOf P e,szOf P e,bytesOf P e,ρ l,ρ c with
    | some z,some 1,some bytes,.dat (.raw (.int .i64 l)),.dat (.raw (.int .i64 c)) =>
     if 0≤l∧l=c∧c * bytes≤room∧c≤9223372036854775807∧z.isCell then some (.dat (.lst (List.replicate c.toNat z)),H) else none
    | _,_,_,_,_=>none
   | none=>none)
  else if j=1000 then (match elemOfSlice P t with
   | some e=>match zeroOf P e,szOf P e,bytesOf P e,ρ l,ρ c with
    | some z,some size,some bytes,.dat (.raw (.int .i64 l)),.dat (.raw (.int .i64 c))=>if e'=e∧l=c then ownMake H e size bytes z c else none
    | _,_,_,_,_=>none
   | none=>none)
  else match elemOfSlice P t with
   | some e=>match zeroOf P e,szOf P e,bytesOf P e,ρ l,ρ c with
    | some _,some 1,some bytes,.dat (.raw (.int .i64 l)),.dat (.raw (.int .i64 c)) =>
     if e'=e∧l=0∧0≤c∧c * bytes≤room∧c≤9223372036854775807∧0 < bytes then some (.vec H.length [],H++[.tok e 0]) else none
    | _,_,_,_,_=>none
   | none=>none
 | .makeMap t none=>match P.underlying t with
  | some (.map _ _)=>some (.mapv H.length,H++[.map []])
  | _=>none
 | .range t x=>match P.underlying t,ρ x with
  | some .string,.dat (.raw (.string s))=>some (.ptr H.length 0,H++[.map (iterE s 0)])
  | _,_=>none
 | .next x true=>match ρ x with
  | .ptr i 0=>match iterOf H i with
   | some (s,pos)=>some (nextSem s pos i H)
   | none=>none
  | _=>none
 | .mapUpdate t m k x|.insert t m k x=>match ρ m with
  | .mapv i=>match mapOf H i with
   | some es=>match findIn P ρ k t es with
    | some (kv,_,some (j,_))=>some (.tup [],H.set i (.map (es.set j (kv,ρ x))))
    | some (kv,_,none)=>some (.tup [],H.set i (.map (es++[(kv,ρ x)])))
    | none=>none
   | none=>none
  | _=>none
 | .lookup t m k ok=>match ρ m with
  | .mapv i=>match mapOf H i with
   | some es=>match findIn P ρ k t es with
    | some (_,_,some (_,v))=>some (if ok then .tup [v,Qq true] else v,H)
    | some (_,e,none)=>(zeroOf P e).map fun z=>(if ok then .tup [.dat z,Qq false] else .dat z,H)
    | none=>none
   | none=>none
  | _=>none
 | .fieldAddr s x f=>match fieldsOf P s with
  | some fs=>match fs[f]? with
   | some fd=>match szOf P fd.type with
    | some (_+1)=>match ρ x with
     | .ptr i off=>some (.ptr i (off+fd.offset),H)
     | .iptr cs=>some (.iptr (cs.drop fd.offset),H)
     | _=>none
    | _=>none
   | none=>none
  | none=>none
 | .indexAddr t x ix=>match ρ ix with
  | .dat (.raw (.int _ n))=>match elemOfSlice P t with
   | some e=>match szOf P e with
    | some size=>if 0≤n then (match ρ x with
     | .dat (.lst es)|.vec _ es=>match es[n.toNat]? with
      | some d=>if d.num=size then some (.iptr d.cells,H) else none
      | none=>none
     | .arr i off len _=>if n.toNat < len then some (.ptr i (off+n.toNat * size),H) else none
     | .ms t g lo len _=>if (size=1∨lo=0)∧n.toNat < len then some (.mp t g (lo+stepN size n.toNat),H) else none
     | _=>none) else none
    | none=>none
   | none=>match elemOfArray P t with
    | some (len,e)=>match szOf P e,ρ x with
     | some size,.iptr cs=>if 0≤n∧n < (len:Int) then some (.iptr (cs.drop (n.toNat * size)),H) else none
     | some size,.ptr i off=>if 0≤n∧n < (len:Int) then some (.ptr i (off+n.toNat * size),H) else none
     | _,_=>none
    | none=>none
  | _=>none
 | .slice t x lo hi none=>match ρ x with
  | .dat (.lst es)|.vec _ es=>match elemOfSlice P t with
   | some e =>
    match bndOf ρ 0 lo,bndOf ρ es.length hi,szOf P e with
    | some l,some h,some size=>if l≤h∧h≤es.length∧(l == 0 || es.all fun d=>d.num == size) then some (.dat (.lst ((es.take h).drop l)),H) else none
    | _,_,_=>none
   | none=>none
  | .ms tt g l0 len cap=>match elemOfSlice P t with
   | some e=>if szOf P e=some 1∨((szOf P e).isSome=true∧lo.isNone=true) then (cutMs ρ lo hi tt g l0 len cap).map (·,H) else none
   | none=>none
  | .arr i off len cap=>match elemOfSlice P t with
   | some e=>match szOf P e with
    | some size=>(cutArr ρ lo hi size i off len cap).map (·,H)
    | none=>none
   | none=>none
  | _=>plainSem P o ρ H
 | .slice t x lo (some hi) (some mx)=>match elemOfSlice P t with
  | some e=>match lenPV (ρ x),bndOf ρ 0 lo,natOf (ρ hi),natOf (ρ mx) with
   | some n,some l,some h,some m=>if l≤h∧h≤m∧m≤n∧(szOf P e).isSome then
     (if h=l then (match ow with
      | []=>some (.dat (.lst []),H)
      | (_,e')::_=>if l=0∧m=0 then some (.ms H.length 0 0 0 0,H++[.mt e' 0 []]) else none)
      else some (.undef,H)) else none
   | _,_,_,_=>none
  | none=>none
 | .field t x f=>match ρ x with
  | .dat (.agg cs)=>(do let fs ← fieldsOf P t; let fd ← fs[f]?; let size ← szOf P fd.type; let g ← aggT P fd.type; let d ← (cut cs fd.offset size).bind (ofCellsD g); some (.dat d,H))
  | .agg cs=>(do let fs ← fieldsOf P t; let fd ← fs[f]?; let size ← szOf P fd.type; let g ← aggT P fd.type; let d ← (cut cs fd.offset size).bind (ofCells g); some (d,H))
  | _=>none
 | .extract x k=>match ρ x with
  | .tup vs=>(vs[k]?).map (·,H)
  | _=>none
 | .call c=>match c.callee with
  | .value f=>match ow with
   | []=>match ρ f with
    | .dat (.raw (.func (.func f) _ _))=>call f (c.args.toList.map ρ) H
    | .fn f cap=>call f (c.args.toList.map ρ++cap) H
    | _=>none
   | (j,e)::_=>if 13000≤j then readCall call (ρ f) (c.args.toList.map ρ) e H else if 12000≤j then (if 12500≤j then winCall call (ρ f) (c.args.toList.map ρ) (j - 12500) e H else frameCall call (ρ f) (c.args.toList.map ρ) e H) else if j=7000 then aloneCall call (ρ f) (c.args.toList.map ρ) H else if 6000≤j then calmCall call (ρ f) (c.args.toList.map ρ) H else match ρ f with
    | .dat (.raw (.func (.func f) _ _))=>if j=5000 then giveCall call f (c.args.toList.map ρ) H else if 2000≤j then nilCall call f c.args.toList (c.args.toList.map ρ) (j - 2000) e H else freshCall call f (c.args.toList.map ρ) H
    | _=>none
  | .builtin b=>match builtinSem P b c.argTypes (c.args.toList.map ρ) H with
   | some r=>some r
   | none=>plainSem P o ρ H
  | .invoke ..=>none
 | .binOp op t x y _=>match fnNil P op t (ρ x) (ρ y) with
  | some b=>some (Qq b,H)
  | none=>match lstNil P op t (ρ x) y with
   | some b=>some (Qq b,H)
   | none=>plainSem P o ρ H
 | .unOp ..|.convert ..|.index ..=>plainSem P o ρ H
 | _=>none

structure Hint where
 own:List ((Nat × Nat) × List (Nat × TypeId)):=[]
 keep:List (Nat × List Nat):=[]
 late:List (Nat × Nat):=[]
 flat:List (Nat × List (Nat × List Nat)):=[]
 deriving Inhabited

def Hint.ownAt (h:Hint) (r i:Nat):List (Nat × TypeId):=((h.own.find? fun x=>x.1 == (r,i)).map (·.2)).getD []
def Hint.keepAt (h:Hint) (r:Nat):Option (List Nat):=(h.keep.find? fun x=>x.1 == r).map (·.2)

def putS (s:List PV) (d:Option Tmp) (v:PV):List PV :=
 match d with
 | some d=>s.set d v
 | none=>s

def wantedA (ops:Array Oper) (s:List PV) (o:Oper):Option Bool :=
 match o.guard with
 | none=>some true
 | some (j,want)=>match (ops[j]?).bind (·.dst) with
  | none=>none
  | some d=>match s[d]? with
   | some (.dat (.raw (.bool b)))=>some (b == want)
   | some (.tup [])=>some false
   | _=>none

def opStep (call:CallF) (h:Hint) (r:Nat) (ops:Array Oper) (i:Nat) (o:Oper) (st:St):Option St :=
 match wantedA ops st.slots o with
 | some true=>match sem P call (h.ownAt r i) o (ev st.slots) st.heap with
  | some (v,H)=>some ⟨putS st.slots o.dst v,H⟩
  | none=>none
 | some false=>some ⟨putS st.slots o.dst (.tup []),st.heap⟩
 | none=>none

def opsFrom (call:CallF) (h:Hint) (r:Nat) (ops:Array Oper):Nat→List Oper→St→Option St
 | _,[],st=>some st
 | i,o::os,st=>match opStep P call h r ops i o st with
  | some st=>opsFrom call h r ops (i+1) os st
  | none=>none

def coolB (H:List Blk) (t:Nat):Option (List Dat × List Blk) :=
 match mtOf H t with
 | some (e,g,cs)=>if cs.isEmpty then some ([],H) else if cs.all PV.flat then match consumeL H cs with
  | some (ds,H1)=>match mtOf H1 t with
   | some (e',g',_)=>if e'=e∧g'=g then some (ds,H1.set t (.mt e g (ds.map .dat))) else none
   | none=>none
  | none=>none else none
 | none=>none
def buildCs (ρ:Operand→PV) (ty:TypeId) (parts:Array (Nat × Operand)) (k:Nat):Option (List PV) :=
 match zeroOf P ty,places P ty with
 | some z,some pl=>match fillA pl (z.cells.map PV.dat) (parts.toList.map fun (i,x)=>(i,(ρ x).cells)) with
  | some cs=>if parts.toList.all (fun (_,x)=>(ρ x).cells.all PV.cell)∧uncovered pl k parts.toList=true then match cs[k]? with
   | some (.dat (.lst []))=>some cs
   | _=>none else none
  | none=>none
 | _,_=>none
def flatSem (fl:List Nat) (o:Oper) (ρ:Operand→PV) (H:List Blk):Option (PV × List Blk) :=
 match fl,o.op with
 | [1],.fieldAddr s x f=>match fieldsOf P s with
  | some fs=>match fs[f]? with
   | some fd=>match szOf P fd.type,ρ x with
    | some (_+1),.mp t g j=>match mtOf H t with
     | some (_,g',_)=>if g'=g then some (.mp t g (j+fd.offset),H) else none
     | none=>none
    | _,_=>none
   | none=>none
  | none=>none
 | [2,t,h,k],.build ty parts=>match buildCs P ρ ty parts k,coolB H t with
  | some cs,some (_,H1)=>match mtOf H1 h with
   | some (e,g,_)=>some (mkAgg (cs.set k (.ms h (g+1) 0 0 0)),H1.set h (.mt e (g+1) []))
   | none=>none
  | _,_=>none
 | [3],.buildSlice ty len parts=>match elemOfSlice P ty,parts.toList with
  | some e,[(0,x)]=>match szOf P e with
   | some size=>if len=1∧(zeroOf P e).isSome=true∧(ρ x).cells.length=size∧(ρ x).cells.all PV.cell=true∧0 < size∧size≤16777216 then some (.arr H.length 0 1 1,H++[.box (ρ x).cells]) else none
   | none=>none
  | _,_=>none
 | [4],.call c=>match c.callee,c.argTypes.toList,c.args.toList.map ρ with
  | .builtin .append,[t,t'],[.ms tt g lo len _,.arr i 0 1 1]=>match elemOfSlice P t,mtOf H tt,H[i]? with
   | some e,some (e',g',cs),some (.box pcs)=>match szOf P e,bytesOf P e with
    | some size,some bytes=>if (t'=t∧0 < bytes∧(zeroOf P e).map Dat.num=some size)∧(0 < size∧lo=0∧g'=g∧e'=e)∧(cs.length=len * size∧cs.all PV.flat=true)∧(pcs.length=size∧pcs.all PV.cell=true)∧(len+1) * bytes≤room then
      some (.ms tt (g+1) 0 (len+1) (len+1),H.set tt (.mt e (g+1) (cs++pcs))) else none
    | _,_=>none
   | _,_,_=>none
  | _,_,_=>none
 | [5],.move x=>match ρ x with
  | .ms t g lo len _=>match coolB H t with
   | some (ds,H1)=>match mtOf H1 t with
    | some (e,g',_)=>match szOf P e with
     | some size=>if g'=g∧lo=0∧1 < size∧ds.length=len * size then some (.dat (.lst (chunks size len ds)),H1.set t (.mt e (g+1) [])) else none
     | none=>none
    | none=>none
   | none=>none
  | _=>none
 | _,_=>none
def flatStep (call:CallF) (h:Hint) (r:Nat) (ops:Array Oper) (fl:List (Nat × List Nat)) (i:Nat) (o:Oper) (st:St):Option St :=
 match (fl.find? fun x=>x.1 == i).map (·.2) with
 | none=>opStep P call h r ops i o st
 | some l=>match o.guard with
  | none=>(flatSem P l o (ev st.slots) st.heap).map fun x=>⟨putS st.slots o.dst x.1,x.2⟩
  | some _=>none
def opsFlat (call:CallF) (h:Hint) (r:Nat) (ops:Array Oper) (fl:List (Nat × List Nat)):Nat→List Oper→St→Option St
 | _,[],st=>some st
 | i,o::os,st=>match flatStep P call h r ops fl i o st with
  | some st=>opsFlat call h r ops fl (i+1) os st
  | none=>none
def Hint.flatAt (h:Hint) (r:Nat):Option (List (Nat × List Nat)):=(h.flat.find? fun x=>x.1 == r).map (·.2)

def vecFirst:List PV→Bool
 | .vec _ _::_=>true
 | _=>false
def zeroFirst:List PV→Bool
 | [.arr _ _ 0 0,.dat (.lst _)]=>true
 | _=>false
def sens (pf:FuncId→Bool) (ow:List (Nat × TypeId)) (o:Oper) (ρ:Operand→PV):Nat :=
 match o.op with
 | .load _ a=>match ow with|[]=>(match ρ a with|.iptr _=>0|_=>1)|_::_=>3
 | .alloc _=>2
 | .box ..=>match ow with|[]=>2|_::_=>0
 | .makeSlice ..=>match ow with|(j,_)::_=>if 8000≤j then 0 else 2|[]=>2
 | .store ..=>3
 | .mapUpdate ..|.insert ..|.range ..|.next ..=>3
 | .lookup ..=>1
 | .makeMap ..=>2
 | .move _=>if giveHint ow=true then 3 else 0
 | .build ..=>match ow with|[]=>0|(j,_)::_=>if j=5000 then 3 else 2
 | .assign _|.buildSlice ..|.slice _ _ _ (some _) (some _)=>match ow with|[]=>0|_=>2
 | .call c=>match c.callee with
  | .value f=>match ow with
   | (j,_)::_=>if 13000≤j then 1 else if 12000≤j then 3 else if 6000≤j then 6 else if 2000≤j then 3 else if (c.args.toList.map ρ).any PV.lends then 3 else 2
   | []=>match ρ f with
   | .dat (.raw (.func (.func f) _ _))=>if pf f then (if (c.args.toList.map ρ).any PV.lends then 1 else 0) else 3
   | _=>3
  | .builtin .append=>if vecFirst (c.args.toList.map ρ) then 4 else if zeroFirst (c.args.toList.map ρ) then 2 else 3
  | .builtin .clear=>3
  | .builtin .copy=>3
  | .builtin .cap=>3
  | .builtin .len=>if (c.args.toList.map ρ).any PV.isMap then 3 else 0
  | _=>0
 | _=>0

def readBound (ow:List (Nat × TypeId)) (o:Oper) (ρ:Operand→PV):Option Nat :=
 match o.op with
 | .call c=>match c.callee,ow with
  | .value _,(j,e)::_=>if 13000≤j then some (tops (c.args.toList.map ρ)+e) else none
  | _,_=>none
 | _=>none
def readTag:Option Nat→Nat
 | some n=>16 * (n+1)
 | none=>0
def sensT (pf:FuncId→Bool) (h:Hint) (r i:Nat) (o:Oper) (ρ:Operand→PV):Nat :=
 sens pf (h.ownAt r i) o ρ+(if h.late.contains (r,i) && (h.ownAt r i).isEmpty then (match o.op with
  | .load _ a=>(match ρ a with|.ptr i _=>8+16 * (i+1)|_=>0)
  | .store _ a _=>(match ρ a with|.mp _ _ _=>8|.ptr i _=>8+16 * (i+1)|_=>0)
  | _=>0) else 0)+readTag (readBound (h.ownAt r i) o ρ)

def freeOf (a b:Nat):Bool:=!((2≤a && 2≤b && !(a == 2 && b == 2)) || (a == 1 && b == 3) || (a == 3 && b == 1))

def freeT (a b:Nat):Bool:=freeOf (a % 8) (b % 8) || (a % 16 == 9 && b % 16 == 11) || (a % 16 == 11 && b % 16 == 9)
def drawRun (call:CallF) (pf:FuncId→Bool) (h:Hint) (r:Nat) (ops:Array Oper):Nat→List Oper→St→Option (St × List Nat)
 | _,[],st=>some (st,[])
 | i,o::os,st=>match opStep P call h r ops i o st with
  | some st1=>match drawRun call pf h r ops (i+1) os st1 with
   | some (st2,fl)=>some (st2,(if wantedA ops st.slots o=some true then sensT pf h r i o (ev st.slots) else 0)::fl)
   | none=>none
  | none=>none

def maskOf (A:List Nat) (o:Oper):Nat:=o.after.toList.foldl (fun s e=>if Region.binds .any e then s ||| (2 ^ e.on ||| A.getD e.on 0) else s) 0
def masks:List Oper→List Nat→List Nat
 | [],A=>A
 | o::os,A=>masks os (A++[maskOf A o])

def looks (ops:Array Oper) (o:Oper):List Tmp :=
 (o.op.operands.toList.filterMap fun|.tmp t=>some t|_=>none)++(match o.guard with|some (j,_)=>((ops[j]?).bind (·.dst)).toList|none=>[])

def pairOk (ops:Array Oper) (fl A:List Nat) (i j:Nat):Bool :=
 match ops[i]?,ops[j]? with
 | some oi,some oj =>
  let anc:=(A.getD j 0).testBit i
  -- what j looks at and i writes
  (i == j || anc || (A.getD i 0).testBit j || (match oi.dst with|some d=>!(looks ops oj).contains d|none=>true)) &&
  -- written once
  (i == j || (match oi.dst,oj.dst with|some d,some d'=>d != d'|_,_=>true)) &&
  -- what turns the heap and what minds it
  (!(i < j) || anc || freeT (fl.getD i 0) (fl.getD j 0))
 | _,_=>true

def readsOk (h0:Nat) (fl:List Nat):Bool :=
 (List.range fl.length).all fun j=>decide (fl.getD j 0 < 16) || decide (fl.getD j 0 % 16≠1) || (decide (fl.getD j 0 / 16≤h0+1) && ((List.range j).all fun k=>decide (fl.getD k 0 % 8≤2)) && (List.range fl.length).all fun k=>decide (fl.getD k 0 % 8≠4))
def lateOk (fl:List Nat):Bool:=fl.all fun a=>decide (a % 16≠9) || fl.all fun b=>decide (b % 16≠11) || decide (b / 16≠a / 16)
def orderOk (h0:Nat) (ops:Array Oper) (fl:List Nat):Bool :=
 let n:=ops.size
 (readsOk h0 fl && lateOk fl) &&
 let A:=masks ops.toList []
 (List.range n).all (fun j=>match ops[j]? with
  | some o=>A.getD j 0 == maskOf A o && o.after.toList.all (fun e=>!Region.binds .any e || e.on < j) && (match o.op with|.select ..=>false|_=>true)
  | none=>false) &&
 (List.range n).all (fun j=>(List.range n).all fun i=>pairOk ops fl A i j)

def fgt (ks:List Nat):Bool:=ks.contains 100000
def purgeC (fl:Bool) (H:List Blk) (h0:Nat):PV→PV
 | .dat d=>.dat d
 | .vec t es=>if t < h0∧fl=false then .vec t es else .dat (.lst es)
 | .ptr i o=>if i < h0 then .ptr i o else .undef
 | .iptr cs=>.iptr cs
 | .arr i o len cap=>if i < h0 then .arr i o len cap else match pureC H (.arr i o len cap) with|some d=>.dat d|none=>.undef
 | .fn f cap=>if cap.all (fun|.ptr i _=>i < h0|.dat _=>true|.iptr _=>true|_=>false) then .fn f cap else .undef
 | .ms t g lo len cap=>if t < h0 then .ms t g lo len cap else match pureC H (.ms t g lo len cap) with|some d=>.dat d|none=>.undef
 | .mp t g j=>if t < h0 then .mp t g j else .undef
 | .mapv i=>if i < h0 then .mapv i else .undef
 | .empv b=>.empv b
 | _=>.undef
def purgeV (fl:Bool) (H:List Blk) (h0:Nat):PV→PV
 | .agg cs=>mkAgg (cs.map (purgeC fl H h0))
 | .tup []=>.tup []
 | v=>purgeC fl H h0 v
def purgeB (fl:Bool) (H:List Blk) (h0:Nat):Blk→Blk
 | .box cs=>.box (cs.map (purgeC fl H h0))
 | .mt e g cs=>.mt e g (cs.map (purgeC fl H h0))
 | .map es=>.map (es.map fun x=>(x.1,purgeV fl H h0 x.2))
 | b=>b
def keepS (fl:Bool) (H:List Blk) (h0:Nat) (keep:List Nat):Nat→List PV→List PV
 | _,[]=>[]
 | i,v::r=>(if keep.contains i then purgeV fl H h0 v else .undef)::keepS fl H h0 keep (i+1) r
def prune (h0:Nat) (keep:Option (List Nat)) (st:St):St :=
 match keep with
 | none=>st
 | some ks=>⟨keepS (fgt ks) st.heap h0 ks 0 st.slots,(st.heap.take h0).map (purgeB (fgt ks) st.heap h0)⟩

def QO:Code→Option Nat
 | .region id _ _=>some id
 | .seq a b=>match QO a with|some r=>some r|none=>QO b
 | .block _ c|.scope c|.loop c=>QO c
 | .cond _ a b=>match QO a with|some r=>some r|none=>QO b
 | _=>none

inductive Ex where
 | normal
 | exit (id:Nat)
 | ret
 deriving DecidableEq,Inhabited

structure Env where
 summ:FuncId→Option (List Dat→Option PV)
 pure:FuncId→Bool
 hint:FuncId→Hint
 split:FuncId→Bool:=fun _=>false
 hsum:FuncId→Option (List PV→List Blk→Option (PV × List Blk)):=fun _=>none

structure ISt (σ:Type) where
 st:St
 ys:List Tmp
 out:σ

section
variable {σ:Type} (call:CallF) (h:Hint) (Y:List Dat→σ→Option (Bool × σ))

def offY (ys:List Tmp) (d:Option Tmp):List Tmp:=match d with|some d=>ys.filter (· != d)|none=>ys

def keptY (k:Option (List Nat)) (ys:List Tmp):List Tmp:=match k with|some ks=>ys.filter fun t=>ks.contains t|none=>ys

def iopStep (r:Nat) (ops:Array Oper) (i:Nat) (o:Oper) (is:ISt σ):Option (ISt σ) :=
 match o.op,o.guard with
 | .move (.tmp t),none=>if is.ys.contains t then
   (match o.dst with
    | some d=>if d < is.st.slots.length then some ⟨⟨is.st.slots.set d .undef,is.st.heap⟩,d::is.ys,is.out⟩ else none
    | none=>none)
  else (opStep P call h r ops i o is.st).map fun st=>⟨st,offY is.ys o.dst,is.out⟩
 | .call { callee:=.value (.tmp t),args,.. },none=>if is.ys.contains t then
   (match pures is.st.heap (args.toList.map (ev is.st.slots)) with
    | some ds=>if (args.toList.map (ev is.st.slots)).any PV.lends then none else
     (match Y ds is.out with
     | some (b,out)=>some ⟨⟨putS is.st.slots o.dst (Qq b),is.st.heap⟩,offY is.ys o.dst,out⟩
     | none=>none)
    | none=>none)
  else (opStep P call h r ops i o is.st).map fun st=>⟨st,offY is.ys o.dst,is.out⟩
 | _,_=>(opStep P call h r ops i o is.st).map fun st=>⟨st,offY is.ys o.dst,is.out⟩

def iopsFrom (r:Nat) (ops:Array Oper):Nat→List Oper→ISt σ→Option (ISt σ)
 | _,[],is=>some is
 | i,o::os,is=>match iopStep P call h Y r ops i o is with
  | some is=>iopsFrom r ops (i+1) os is
  | none=>none

def icode:Nat→Code→ISt σ→Option (Ex × ISt σ)
 | 0,_,_=>none
 | n+1,c,is=>match c with
  | .skip=>some (.normal,is)
  | .region r ops false=>(iopsFrom P call h Y r ops 0 ops.toList is).map (Ex.normal,·)
  | .seq a b=>match icode n a is with
   | some (.normal,is)=>icode n b is
   | r=>r
  | .cond x a b=>match boolOf (ev is.st.slots x) with
   | some true=>icode n a is
   | some false=>icode n b is
   | none=>none
  | .block id b=>match icode n b is with
   | some (.exit id',is)=>if id'=id then some (.normal,is) else some (.exit id',is)
   | r=>r
  | .loop b=>iloop b is.st.heap.length n is
  | .exit id=>some (.exit id,is)
  | .ret=>some (.ret,is)
  | _=>none
 where
 iloop (b:Code) (h0:Nat):Nat→ISt σ→Option (Ex × ISt σ)
 | 0,_=>none
 | n+1,is=>match icode n b ⟨prune h0 ((QO b).bind h.keepAt) is.st,keptY ((QO b).bind h.keepAt) is.ys,is.out⟩ with
  | some (.normal,is)=>iloop b h0 n is
  | r=>r

def PV.still:PV→Bool
 | .dat _|.iptr _=>true
 | _=>false

def irun (fn:Func) (caps:List PV) (n:Nat) (out:σ):Option σ :=
 match fn.body with
 | some c=>if caps.all PV.still && fn.results.isEmpty then
   match icode P call h Y n c ⟨⟨.undef::caps++List.replicate (fn.ntmps - (caps.length+1)) (.tup []),[]⟩,[0],out⟩ with
   | some (.exit _,_)=>none
   | some (_,is)=>some is.out
   | none=>none
  else none
 | none=>none
end

structure Rnd where
 heap:List Blk
 pend:Option Ex

def setPs (s:List PV):List Tmp→List Dat→Option (List PV)
 | [],[]=>some s
 | t::ts,d::ds=>setPs (s.set t (.dat d)) ts ds
 | _,_=>none

def roundOf (asg bod:St→Option (Ex × St)) (h0:Nat) (slots:List PV) (ps:List Tmp) (ds:List Dat) (x:Rnd):Option (Bool × Rnd) :=
 match x.pend with
 | some _=>none
 | none=>match setPs slots ps ds with
  | some s=>match asg ⟨s,x.heap⟩ with
   | some (.normal,st1)=>match bod st1 with
    | some (.normal,st2)=>some (true,⟨(prune h0 (some []) st2).heap,none⟩)
    | some (e,st2)=>some (false,⟨(prune h0 (some []) st2).heap,some e⟩)
    | none=>none
   | _=>none
  | none=>none

def rangeOf (call:CallF) (hint:FuncId→Hint) (Y:List Dat→Rnd→Option (Bool × Rnd)) (n:Nat) (st:St) (gf:FuncId) (caps:List PV):Option (Ex × St) :=
 match P.funcs[gf]? with
 | some fn => if fn.name == "runtime.NumGoroutine" then none else
  match irun P call (hint gf) Y fn caps n ⟨st.heap,none⟩ with
  | some x=>some (x.pend.getD .normal,⟨st.slots,x.heap⟩)
  | none=>none
 | none=>none

def pcode (call:CallF) (pf:FuncId→Bool) (hint:FuncId→Hint) (h:Hint):Bool→Nat→Code→St→Option (Ex × St)
 | _,0,_,_=>none
 | rg,n+1,c,st=>match c with
  | .skip=>some (.normal,st)
  | .region r ops false=>match h.flatAt r with
   | some fl=>(opsFlat P call h r ops fl 0 ops.toList st).map (Ex.normal,·)
   | none=>(opsFrom P call h r ops 0 ops.toList st).map (Ex.normal,·)
  | .region r ops true=>match drawRun P call pf h r ops 0 ops.toList st with
   | some (st',fl)=>if orderOk st.heap.length ops fl then some (.normal,st') else none
   | none=>none
  | .seq a b=>match pcode call pf hint h rg n a st with
   | some (.normal,st)=>pcode call pf hint h rg n b st
   | r=>r
  | .cond x a b=>match boolOf (ev st.slots x) with
   | some true=>pcode call pf hint h rg n a st
   | some false=>pcode call pf hint h rg n b st
   | none=>none
  | .block id b=>match pcode call pf hint h rg n b st with
   | some (.exit id',st)=>if id'=id then some (.normal,st) else some (.exit id',st)
   | r=>r
  | .loop b=>ploop rg b st.heap.length n st
  | .exit id=>some (.exit id,st)
  | .ret=>some (.ret,st)
  | .label _=>some (.normal,st)
  | .scope b=>pcode call pf hint h rg n b st
  | .rangeFunc f ps assign body=>if rg then
    match ev st.slots f with
    | .fn gf caps=>rangeOf P call hint (roundOf (pcode call pf hint h false n assign) (pcode call pf hint h false n body) st.heap.length st.slots ps.toList) n st gf caps
    | .dat (.raw (.func (.func gf) _ _))=>rangeOf P call hint (roundOf (pcode call pf hint h false n assign) (pcode call pf hint h false n body) st.heap.length st.slots ps.toList) n st gf []
    | _=>none
   else none
  | _=>none
 where
 ploop (rg:Bool) (b:Code) (h0:Nat):Nat→St→Option (Ex × St)
 | 0,_=>none
 | n+1,st=>match pcode call pf hint h rg n b (prune h0 ((QO b).bind h.keepAt) st) with
  | some (.normal,st)=>ploop rg b h0 n st
  | r=>r

end
end
noncomputable section

def resOf (P:Program) (slots:List PV) (H:List Blk):ResultVar→Option PV
 | .tmp t=>some (slots.getD t (.tup []))
 | .cell a t=>match aggT P t,szOf P t,slots.getD a (.tup []) with
  | some g,some size,.ptr i off=>match H[i]? with
   | some (.box cs)=>(cut cs off size).bind (ofCells g)
   | _=>none
  | _,_,_=>none
def ressOf (P:Program) (slots:List PV) (H:List Blk):List ResultVar→Option (List PV)
 | []=>some []
 | r::rs=>match resOf P slots H r,ressOf P slots H rs with
  | some v,some vs=>some (v::vs)
  | _,_=>none
def tupOf:List PV→PV
 | [v]=>v
 | vs=>.tup vs

def stillC (H:List Blk):PV→Option PV
 | .ptr i o=>match H[i]? with
  | some (.box cs)=>(pureCs H (cs.drop o)).map .iptr
  | _=>none
 | .iptr cs=>some (.iptr cs)
 | v=>(pureC H v).map .dat
def stillCs (H:List Blk):List PV→Option (List PV)
 | []=>some []
 | c::r=>match stillC H c,stillCs H r with|some d,some ds=>some (d::ds)|_,_=>none

def pureOut (H:List Blk):PV→Option PV
 | .tup vs=>(pures H vs).map fun ds=>.tup (ds.map .dat)
 | .fn f caps=>(stillCs H caps).map (.fn f ·)
 | v=>(pure1 H v).map .dat
def freshD0:Dat→Bool
 | .raw _=>true
 | .lst es=>es.isEmpty
 | .agg _=>false
def freshD:Dat→Bool
 | .agg cs=>cs.all freshD0
 | d=>freshD0 d
def Dat.isRaw:Dat→Bool
 | .raw _=>true
 | _=>false
def rawLst:Option Dat→Bool
 | some (.lst ds)=>ds.all Dat.isRaw
 | _=>false
def freshC (H:List Blk):PV→Bool
 | .dat d=>freshD d
 | .arr i o len cap=>rawLst (pureC H (.arr i o len cap))
 | .ms t g lo len cap=>rawLst (pureC H (.ms t g lo len cap))
 | _=>false
def fresh1 (H:List Blk):PV→Bool
 | .agg cs=>cs.all (freshC H)
 | c=>freshC H c
def freshOut (H:List Blk):PV→Bool
 | .tup vs=>vs.all (fresh1 H)
 | v=>fresh1 H v
def scalarOut:PV→Bool
 | .dat d=>d.scalar
 | .tup vs=>vs.all fun|.dat d=>d.scalar|_=>false
 | _=>false

def Env.pf (E:Env) (f:FuncId):Bool:=E.pure f || ((E.summ f).isSome && (E.hsum f).isNone)

def pbody (P:Program) (E:Env) (call:CallF) (n:Nat) (f:FuncId) (args:List PV) (H:List Blk):Option (PV × List Blk) :=
 match P.funcs[f]? with
 | some fn=>match fn.body with
  | some c =>
   match pcode P call E.pf E.hint (E.hint f) true n c ⟨args++List.replicate (fn.ntmps - args.length) (.tup []),H⟩ with
   | some (.exit _,_)=>none
   | some (_,st)=>(ressOf P st.slots st.heap fn.results.toList).map fun vs=>(tupOf vs,st.heap)
   | none=>none
  | none=>none
 | none=>none

def splitRun (r1 r2:Option (PV × List Blk)):Option (PV × List Blk) :=
 match r1,r2 with
 | some (.ms 0 0 0 0 0,[.mt e 0 []]),some (.ms 0 0 0 0 0,[.mt e' 0 []])=>if e=e' then some (.ms 0 0 0 0 0,[.mt e 0 []]) else none
 | _,_=>none
def isEmp:List PV→Bool
 | [.dat (.lst [])]=>true
 | _=>false
def pbodyS (P:Program) (E:Env) (call:CallF) (n:Nat) (f:FuncId) (args:List PV) (H:List Blk):Option (PV × List Blk) :=
 if E.split f && (isEmp args && H.isEmpty) then splitRun (pbody P E call n f [.empv true] []) (pbody P E call n f [.empv false] []) else pbody P E call n f args H

def enters (P:Program) (f:FuncId):Bool :=
 match P.funcs[f]? with
 | some fn => fn.body.isSome && !(fn.name == "runtime.NumGoroutine")
 | none=>false

def pfun (P:Program) (E:Env):Nat→CallF
 | 0,_,_,_=>none
 | n+1,f,args,H=>if !enters P f then none else
  match E.summ f with
  | some F=>match E.hsum f with
   | some G=>G args H
   | none=>match pures H args with
    | some ds=>match F ds with
     | some v=>if args.any PV.lends && !scalarOut v then none else some (v,H)
     | none=>none
    | none=>none
  | none=>if E.pure f then
    match pures H args with
    | some ds=>match pbodyS P E (pfun P E n) n f (ds.map .dat) [] with
     | some (r,H')=>match pureOut H' r with
      | some v=>if args.any PV.lends && !(scalarOut v || freshOut H' r) then none else some (v,H)
      | none=>none
     | none=>none
    | none=>none
   else pbodyS P E (pfun P E n) n f args H

end
end Go.Pm
