/-
 The pure machine: its operations, one law each.
-/
import Derived.Test.YtjcfpjpdopfefaaGreatPmWp
namespace Go.Pm
open Go
set_option linter.unusedVariables false

section
variable {P:Program} {E:Env} {ow:List (Nat × TypeId)} {o:Oper} {ρ:Operand→PV} {H:List Blk} {K:PV→List Blk→Prop}

theorem cut_one {cs:List PV} {off:Nat} {v:PV} (h:cs[off]? = some v):cut cs off 1=some [v]:=by
 obtain ⟨hlt,rfl⟩:=List.getElem?_eq_some_iff.1 h;unfold cut;rw [if_pos y5,List.drop_eq_getElem_cons hlt]; rfl
theorem cutMs_of {lo hi:Option Operand} {tt g l0 len cap l h:Nat} (hl:bndOf ρ 0 lo=some l) (hh:bndOf ρ len hi=some h) (h1:l≤h) (h2:h≤max len cap) (h3:l=0∨l < h):cutMs ρ lo hi tt g l0 len cap=some (.ms tt g (l0+l) (h - l) (max len cap - l)):=by
 simp only [cutMs,hl,hh]; rw [if_pos ⟨h1,h2⟩,if_pos h3]
theorem Y3 {t e:TypeId} {x ix:Operand} {n:Int} {j tt g lo len cap:Nat} {k:IntKind} (he:elemOfSlice P t=some e) (hs:szOf P e=some 1) (ho:o.op=.indexAddr t x ix) (hi:ρ ix=.dat (.raw (.int k n))) (hx:ρ x=.ms tt g lo len cap)
  (hn:n=(j:Int)) (hj:j < len) (hk:K (.mp tt g (lo+j)) H):SemE P E ow o ρ H K:=by
 subst hn;have h0:(0:Int)≤(j:Int):=Int.natCast_nonneg j;exact SemE_of (fun call=>by simp [sem,ho,hi,he,hs,h0,hx,hj,stepN]) hk
theorem JZ {t e:TypeId} {x:Operand} {tt g j:Nat} {cs:List PV} {v:PV} (hg:aggT P t=some false) (hn:szOf P t=some 1) (ho:o.op=.load t x) (hx:ρ x=.mp tt g j) (hb:mtOf H tt=some (e,g,cs)) (hv:cs[j]? = some v) (hk:K v H) (hw:ow=[]:=by kernel_rfl) (hfl:v.flat=true:=by rfl):SemE P E ow o ρ H K :=
 SemE_of (fun call=>by simp [sem,loadSem,hw,ho,hg,hn,hx,hb,cut_one hv,ofCells,hv,hfl]) hk
theorem Qa0 {t e:TypeId} {x y:Operand} {tt g j:Nat} {cs:List PV} {v:PV} (hn:szOf P t=some 1) (ho:o.op=.store t x y) (hx:ρ x=.mp tt g j) (hb:mtOf H tt=some (e,g,cs)) (hy:ρ y=v) (hc:v.cell=true) (hl:j < cs.length) (hw:ow=[])
  (hk:K (.tup []) (H.set tt (.mt e g (cs.set j v)))) (hfl:cs.all PV.flat=true):SemE P E ow o ρ H K :=
 SemE_of (fun call=>by simp [sem,storeSem,hw,ho,hn,hx,hb,hy,hc,hl,List.all_eq_true.1 hfl _ (z8 hl)]) hk
theorem Qae {ts e:TypeId} {x s:Operand} {bytes tt g lo len cap:Nat} {es:List PV} {v:PV} {H':List Blk} (he:elemOfSlice P ts=some e) (hs:szOf P e=some 1) (hb:bytesOf P e=some bytes) (hz:(zeroOf P e).map Dat.num=some 1) (h0:0 < bytes)
  (ho:o.op=.call { callee:=.builtin .append,args:=#[s,x],argTypes:=#[ts,ts] }) (hsv:ρ s=.ms tt g lo len cap) (hx:sourceOf H (ρ x)=some es) (ha:appendMs H e bytes tt g lo len cap es=some (v,H')) (hk:K v H'):SemE P E ow o ρ H K :=
 SemE_of (fun call=>by
  have:builtinSem P .append #[ts,ts] [ρ s,ρ x] H=some (v,H'):=by
   rw [hsv];cases hρ:ρ x with
   | dat d=>cases d with
    | raw u=>rw [hρ] at hx; cases u <;> simp [sourceOf,appended] at hx
    | _=>rw [hρ] at hx; simp [builtinSem,he,hb,hx,hs,h0,hz,ha]
   | _=>rw [hρ] at hx; simp [builtinSem,he,hb,hx,hs,h0,hz,ha]
  simp only [sem,ho,zS,List.map_nil,this]) hk
theorem Qa4 {t e:TypeId} {m k x:Operand} {i:Nat} {es:List (Value × PV)} {kv:Value} (ho:o.op=.mapUpdate t m k x) (hm:ρ m=.mapv i) (hb:mapOf H i=some es) (hf:findIn P ρ k t es=some (kv,e,none))
  (hk:K (.tup []) (H.set i (.map (es++[(kv,ρ x)])))):SemE P E ow o ρ H K :=
 SemE_of (fun call=>by simp only [sem,ho,hm,hb,hf]) hk
theorem Qa5 {t e:TypeId} {m k x:Operand} {i j:Nat} {es:List (Value × PV)} {kv:Value} {v:PV} (ho:o.op=.mapUpdate t m k x) (hm:ρ m=.mapv i) (hb:mapOf H i=some es) (hf:findIn P ρ k t es=some (kv,e,some (j,v)))
  (hk:K (.tup []) (H.set i (.map (es.set j (kv,ρ x))))):SemE P E ow o ρ H K :=
 SemE_of (fun call=>by simp only [sem,ho,hm,hb,hf]) hk
theorem appendMs_grow {e bytes tt g len cap:Nat} {es cs:List PV} (hm:mtOf H tt=some (e,g,cs)) (hc:es.all PV.cell=true) (h0:0 < es.length) (hl:len=cs.length) (h:(len+es.length) * bytes≤room) :
  appendMs H e bytes tt g 0 len cap es=some (.ms tt (g+1) 0 (len+es.length) (len+es.length),H.set tt (.mt e (g+1) (cs++es))):=by
 have hn:es.isEmpty=false:=by cases es with|nil=>simp at h0|cons=>rfl
 subst hl;have hne:¬ (cs.length+es.length≤cs.length):=by omega
 simp only [appendMs,hm,hc,hn,and_self,if_true,j6,if_false,if_neg hne,true_and,if_pos h]
theorem J0 {p:PV} (hp:∀ call,sem P call ow o ρ H=plainSem P o ρ H) (hv:plainSem P o ρ H=some (p,H)) (hk:K p H):SemE P E ow o ρ H K :=
 SemE_of (fun call=>(hp call).trans hv) hk

theorem evalP_bind {P:Program} {α β:Type}:∀ (s:Sem α) (f:α→Sem β),evalP P (s>>=f)=(evalP P s).bind fun a=>evalP P (f a)
 | .pure a,f=>rfl
 | .program k,f=>evalP_bind (k P) f
 | .load ..,f=>rfl
 | .store ..,f=>rfl
 | .new ..,f=>rfl
 | .shape ..,f=>rfl
 | .freeze ..,f=>rfl
 | .frozen ..,f=>rfl
 | .getObj ..,f=>rfl
 | .setObj ..,f=>rfl
 | .choose ..,f=>rfl
 | .sys ..,f=>rfl
 | .mark ..,f=>rfl
 | .halt ..,f=>rfl

def intBin (op:BinOp) (k:IntKind) (a b:Int):Option Value :=
 match op with
 | .add=>some (.int k (k.wrap (a+b)))
 | .sub=>some (.int k (k.wrap (a - b)))
 | .mul=>some (.int k (k.wrap (a * b)))
 | .quo=>if b=0 then none else some (.int k (k.wrap (a.tdiv b)))
 | .rem=>if b=0 then none else some (.int k (a.tmod b))
 | .eql=>some (.bool (a == b))
 | .neq=>some (.bool (a != b))
 | .lss=>some (.bool (decide (a < b)))
 | .leq=>some (.bool (decide (a≤b)))
 | .gtr=>some (.bool (decide (a > b)))
 | .geq=>some (.bool (decide (a≥b)))
 | _=>none

theorem exec_int {op:BinOp} {t yt:TypeId} {x y:Operand} {k:IntKind} {a b:Int} {r:Value} {ρ':Operand→Value} (ho:o.op=.binOp op t x y yt) (hx:ρ' x=.int k a) (hy:ρ' y=.int k b) (hr:intBin op k a b=some r) :
  evalP P (execOp ρ' o)=some (.value r)∧isRaw r=true∧backOf r=some (.dat (.raw r)):=by
 simp only [execOp,ho,hx,hy];cases op <;> simp only [intBin,j9,reduceCtorEq] at hr <;> try (subst hr; cases k <;> exact ⟨rfl,rfl,rfl⟩)
 all_goals
  split at hr
  ·cases hr
  ·rename_i hb;cases hr;cases k <;> simp [eqGuard,binOp,Op.intDiv,hb,evalP,Pure.pure,Bind.bind,Sem.bind,isRaw,backOf,rawOf]

theorem intBin_back {op:BinOp} {k:IntKind} {a b:Int} {r:Value} (hr:intBin op k a b=some r):backOf r=some (.dat (.raw r)):=by
 cases op <;> simp only [intBin,j9,reduceCtorEq] at hr <;> try (subst hr; rfl)
 all_goals
  split at hr
  ·cases hr
  ·cases hr; rfl

theorem plain_bin {op:BinOp} {t yt:TypeId} {x y:Operand} {u v r:Value} (ho:o.op=.binOp op t x y yt) (hx:(ρ x).toVal=some u) (hy:(ρ y).toVal=some v) {p:PV} (he:∀ ρ':Operand→Value,ρ' x=u→ρ' y=v→evalP P (execOp ρ' o)=some (.value r))
  (hb:backOf r=some p):plainSem P o ρ H=some (p,H):=by
 have:=he (fun z=>((ρ z).toVal).getD undef) (by simp [hx]) (by simp [hy]);simp only [plainSem,ho,Op.operands];simp [hx,hy,this,hb]

theorem toVal_fnNil {op:BinOp} {t:TypeId} {p q:PV} {u:Value} (h:p.toVal=some u):fnNil P op t p q=none:=by
 cases p <;> first|rfl|(simp [PV.toVal] at h)

theorem toVal_lstNil {op:BinOp} {t:TypeId} {p:PV} {y:Operand} {u:Value} (h:p.toVal=some u):lstNil P op t p y=none:=by
 unfold lstNil;split
 ·cases p with
  | dat d=>cases d with
   | lst es=>simp [PV.toVal] at h
   | raw v=>rfl
   | agg cs=>rfl
  | _=>simp [PV.toVal] at h
 ·rfl

theorem QbD {op:BinOp} {t yt:TypeId} {x y:Operand} {k:IntKind} {a b:Int} {r:Value} (ho:o.op=.binOp op t x y yt) (hx:ρ x=.dat (.raw (.int k a))) (hy:ρ y=.dat (.raw (.int k b))) (hr:intBin op k a b=some r)
  (hk:K (.dat (.raw r)) H):SemE P E ow o ρ H K:=by
 have hx':(ρ x).toVal=some (.int k a):=by rw [hx]; rfl
 have hy':(ρ y).toVal=some (.int k b):=by rw [hy]; rfl
 exact J0 (fun call=>by simp only [sem,ho,toVal_fnNil hx',toVal_lstNil hx']) (plain_bin ho hx' hy' (fun ρ' h1 h2=>(exec_int ho h1 h2 hr).1) (intBin_back hr)) hk

section
variable {α β:Type}
theorem n0 (s:List PV) (d:Nat) (v:PV):putS s (some d) v=s.set d v:=rfl
theorem n1 (s:List PV) (v:PV):putS s none v=s:=rfl
theorem n2 (a:α) (s:List α) (v:α):(a::s).set 0 v=v::s:=rfl
theorem n3 (a:α) (s:List α) (n:Nat) (v:α):(a::s).set (n+1) v=a::s.set n v:=rfl
theorem n5 (a:PV) (s:List PV) (n:Nat):ev (a::s) (.tmp (n+1))=ev s (.tmp n):=rfl
theorem n6 (s:List PV) (v:Value):ev s (.const v)=constOf v:=rfl
theorem n7 (s:List PV) (f:FuncId):ev s (.func f)=.dat (.raw (.func (.func f) #[] #[])):=rfl
theorem m0:constOf (.slice none 0 0)=.dat (.lst []):=rfl
theorem m1:constOf .nilFunc=.dat (.raw .nilFunc):=rfl
theorem m2:([]:List α).length=0:=rfl
theorem m3 (a:α) (s:List α):(a::s).length=s.length+1:=rfl
theorem m4 (s:List α):[]++s=s:=rfl
theorem m5 (a:α) (s t:List α):(a::s)++t=a::(s++t):=rfl
theorem m6 (f:α→β) (a:α) (s:List α):(a::s).map f=f a::s.map f:=rfl
theorem m7 (f:α→β):([]:List α).map f=[]:=rfl
theorem o1 (a:α) (s:List α) (n:Nat):(a::s).take (n+1)=a::s.take n:=rfl
theorem o2 (n:Nat):n+0=n:=rfl
theorem o3:(false=true)=False:=j6
end

end
end Go.Pm
