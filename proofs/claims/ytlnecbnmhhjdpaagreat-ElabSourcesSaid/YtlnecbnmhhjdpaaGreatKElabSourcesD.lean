/-
 Models of functions, their walks, and plain laws.
-/
import Derived.Test.YtlnecbnmhhjdpaaGreatPmLaw
import Derived.Test.YtlnecbnmhhjdpaaGreatKElabSourcesC
namespace Go.Proofs.Tryz
open Go Go.Pm
set_option linter.unusedVariables false
set_option linter.unusedSimpArgs false
set_option maxHeartbeats 2000000
set_option maxRecDepth 2000
theorem ua9:prog.underlying 9=some TypeDesc.string:=by kernel_rfl
theorem ua3:prog.underlying 3=some (TypeDesc.int IntKind.i64):=by kernel_rfl
theorem ua35:prog.underlying 35=some (TypeDesc.slice 3):=by kernel_rfl
theorem ua2:prog.underlying 2=some (TypeDesc.int IntKind.i64):=by kernel_rfl
theorem ua23:prog.underlying 23=some (TypeDesc.slice 2):=by kernel_rfl
theorem ua37 : prog.underlying 37 = some (TypeDesc.struct { toList := [{ name := "Shape", type := 35, offset := 0, embedded := false, tag := "", pkgPath := "", byteOffset := 0 }, { name := "Data", type := 23, offset := 1, embedded := false, tag := "", pkgPath := "", byteOffset := 24 }] }) := by kernel_rfl
theorem ua39 : prog.underlying 39 = some (TypeDesc.struct { toList := [{ name := "Name", type := 9, offset := 0, embedded := false, tag := "", pkgPath := "", byteOffset := 0 }, { name := "Value", type := 37, offset := 1, embedded := false, tag := "", pkgPath := "", byteOffset := 16 }] }) := by kernel_rfl
theorem ua22:prog.underlying 22=some (TypeDesc.slice 39):=by kernel_rfl
theorem ua26 : prog.underlying 26 = some (TypeDesc.struct { toList := [{ name := "Kind", type := 3, offset := 0, embedded := false, tag := "", pkgPath := "", byteOffset := 0 }, { name := "Fn", type := 3, offset := 1, embedded := false, tag := "", pkgPath := "", byteOffset := 8 }, { name := "Axis", type := 3, offset := 2, embedded := false, tag := "", pkgPath := "", byteOffset := 16 }, { name := "Name", type := 9, offset := 3, embedded := false, tag := "", pkgPath := "", byteOffset := 24 }, { name := "Nums", type := 23, offset := 4, embedded := false, tag := "", pkgPath := "", byteOffset := 40 }, { name := "Kids", type := 24, offset := 5, embedded := false, tag := "", pkgPath := "", byteOffset := 64 }] }) := by kernel_rfl
theorem ua24:prog.underlying 24=some (TypeDesc.slice 26):=by kernel_rfl
theorem ua4:prog.underlying 4=some TypeDesc.bool:=by kernel_rfl
theorem exists_map {α β:Type} {f:β→α} {p:β→Prop}:∀ {L:List α},(∀ x∈L,∃ y,x=f y∧p y)→∃ l:List β,L=l.map f∧∀ y∈l,p y
 | [],_=>⟨[],rfl,fun y h=>by cases h⟩
 | x::L,h=>by
  obtain ⟨y,rfl,hy⟩:=h x (List.mem_cons_self ..)
  obtain ⟨l,rfl,hl⟩:=exists_map (fun x hx=>h x (List.mem_cons_of_mem _ hx))
  exact ⟨y::l,rfl,fun z hz=>by
   rcases List.mem_cons.1 hz with rfl|hz
   ·exact hy
   ·exact hl z hz⟩
variable {B:Nat} {n:Nat} {cs:List Dat}
theorem tc9 (h:TyC prog B n 9 cs):∃ m:ByteArray,cs=[strD m]∧m.size≤B:=by
 cases n with
 | zero=>exact h.elim
 | succ n =>
  simp only [TyC,ua9] at h
  obtain ⟨m,rfl,hm⟩:=h
  exact ⟨m,rfl,hm⟩
theorem tc3 (h:TyC prog B n 3 cs):∃ m:Int,cs=[(Qj m)]∧((-9223372036854775808)≤m∧m≤9223372036854775807):=by
 cases n with
 | zero=>exact h.elim
 | succ n =>
  simp only [TyC,ua3] at h
  obtain ⟨m,rfl,hm⟩:=h
  refine ⟨m,rfl,?_⟩
  simpa [Lit.wf,IntKind.min,IntKind.max,IntKind.signed,IntKind.bits] using hm
def ok35 (B:Nat) (x:(List Int)):Prop:=x.length≤B∧∀ m∈x,((-9223372036854775808)≤m∧m≤9223372036854775807)
theorem tc35 (h:TyC prog B n 35 cs):∃ l:(List Int),cs=[.lst ((List.map Qj) l)]∧ok35 B l:=by
 cases n with
 | zero=>exact h.elim
 | succ n =>
  simp only [TyC,ua35] at h
  obtain ⟨L,rfl,hl,hx⟩:=h
  obtain ⟨l,rfl,hm⟩:=exists_map (f:=fun m=>[(Qj m)]) (p:=fun m=>((-9223372036854775808)≤m∧m≤9223372036854775807)) (fun x hx'=>tc3 (hx x hx'))
  refine ⟨l,?_,by simpa using hl,hm⟩
  have e:(l.map (fun m=>[(Qj m)])).map (elemD prog 3)=l.map Qj:=by
   rw [List.map_map]; exact List.map_congr_left (fun m _=>by simp only [Function.comp_apply]; simp [elemD,aggB,ua3])
  rw [e]
theorem tc2 (h:TyC prog B n 2 cs):∃ m:Int,cs=[(Qj m)]∧((-9223372036854775808)≤m∧m≤9223372036854775807):=by
 cases n with
 | zero=>exact h.elim
 | succ n =>
  simp only [TyC,ua2] at h
  obtain ⟨m,rfl,hm⟩:=h
  refine ⟨m,rfl,?_⟩
  simpa [Lit.wf,IntKind.min,IntKind.max,IntKind.signed,IntKind.bits] using hm
def ok23 (B:Nat) (x:(List Int)):Prop:=x.length≤B∧∀ m∈x,((-9223372036854775808)≤m∧m≤9223372036854775807)
theorem tc23 (h:TyC prog B n 23 cs):∃ l:(List Int),cs=[.lst ((List.map Qj) l)]∧ok23 B l:=by
 cases n with
 | zero=>exact h.elim
 | succ n =>
  simp only [TyC,ua23] at h
  obtain ⟨L,rfl,hl,hx⟩:=h
  obtain ⟨l,rfl,hm⟩:=exists_map (f:=fun m=>[(Qj m)]) (p:=fun m=>((-9223372036854775808)≤m∧m≤9223372036854775807)) (fun x hx'=>tc2 (hx x hx'))
  refine ⟨l,?_,by simpa using hl,hm⟩
  have e:(l.map (fun m=>[(Qj m)])).map (elemD prog 2)=l.map Qj:=by
   rw [List.map_map]; exact List.map_congr_left (fun m _=>by simp only [Function.comp_apply]; simp [elemD,aggB,ua2])
  rw [e]
structure ok37 (B:Nat) (x:Qw):Prop where
 shape:(ok35 B x.shape)
 data:(ok23 B x.data)
theorem tc37 (h:TyC prog B n 37 cs):∃ x:Qw,cs=[(.lst ((List.map Qj) x.shape)),(.lst ((List.map Qj) x.data))]∧ok37 B x:=by
 cases n with
 | zero=>exact h.elim
 | succ n =>
  simp only [TyC,ua37,List.foldr] at h
  obtain ⟨_,_,rfl,h0,_,_,rfl,h1,rfl⟩:=h
  obtain ⟨m0,rfl,i0⟩:=tc35 h0
  obtain ⟨m1,rfl,i1⟩:=tc23 h1
  exact ⟨⟨m0,m1⟩,rfl,i0,i1⟩
structure ok39 (B:Nat) (x:Qa):Prop where
 name:(x.name.size≤B)
 value:(ok37 B x.value)
theorem tc39 (h:TyC prog B n 39 cs):∃ x:Qa,cs=[(strD x.name),(.lst ((List.map Qj) x.value.shape)),(.lst ((List.map Qj) x.value.data))]∧ok39 B x:=by
 cases n with
 | zero=>exact h.elim
 | succ n =>
  simp only [TyC,ua39,List.foldr] at h
  obtain ⟨_,_,rfl,h0,_,_,rfl,h1,rfl⟩:=h
  obtain ⟨m0,rfl,i0⟩:=tc9 h0
  obtain ⟨m1,rfl,i1⟩:=tc37 h1
  exact ⟨⟨m0,m1⟩,rfl,i0,i1⟩
def ok22 (B:Nat) (x:(List Qa)):Prop:=x.length≤B∧∀ m∈x,(ok39 B m)
theorem tc22 (h:TyC prog B n 22 cs):∃ l:(List Qa),cs=[.lst ((List.map Qa.toD) l)]∧ok22 B l:=by
 cases n with
 | zero=>exact h.elim
 | succ n =>
  simp only [TyC,ua22] at h
  obtain ⟨L,rfl,hl,hx⟩:=h
  obtain ⟨l,rfl,hm⟩:=exists_map (f:=fun m=>[(strD m.name),(.lst ((List.map Qj) m.value.shape)),(.lst ((List.map Qj) m.value.data))]) (p:=fun m=>(ok39 B m)) (fun x hx'=>tc39 (hx x hx'))
  refine ⟨l,?_,by simpa using hl,hm⟩
  have e:(l.map (fun m=>[(strD m.name),(.lst ((List.map Qj) m.value.shape)),(.lst ((List.map Qj) m.value.data))])).map (elemD prog 39)=l.map Qa.toD:=by
   rw [List.map_map]; exact List.map_congr_left (fun m _=>by simp only [Function.comp_apply]; simp [elemD,aggB,ua39]; rfl)
  rw [e]
mutual
def ok26 (B:Nat):Qc→Prop
 | ⟨kind,fn,axis,name,nums,kids⟩=>(((-9223372036854775808)≤kind∧kind≤9223372036854775807))∧(((-9223372036854775808)≤fn∧fn≤9223372036854775807))∧(((-9223372036854775808)≤axis∧axis≤9223372036854775807))∧((name.size≤B))∧((ok23 B nums))∧(kids.length≤B∧okl26 B kids)
def okl26 (B:Nat):List Qc→Prop
 | []=>True
 | k::ks=>ok26 B k∧okl26 B ks
end
theorem okl26_of:∀ {l:List Qc},(∀ y∈l,ok26 B y)→okl26 B l
 | [],_=>by rw [okl26]; trivial
 | y::l,h=>by rw [okl26]; exact ⟨h y (List.mem_cons_self ..),okl26_of fun z hz=>h z (List.mem_cons_of_mem _ hz)⟩
theorem ts26 (ih:∀ cs,TyC prog B n 24 cs→∃ l:List Qc,cs=[.lst (Qc.toDs l)]∧l.length≤B∧okl26 B l) (h:TyC prog B (n+1) 26 cs):∃ x:Qc,cs=[(Qj x.kind),(Qj x.fn),(Qj x.axis),(strD x.name),(.lst ((List.map Qj) x.nums)),(.lst (Qc.toDs x.kids))]∧ok26 B x:=by
 simp only [TyC,ua26,List.foldr] at h
 obtain ⟨_,_,rfl,h0,_,_,rfl,h1,_,_,rfl,h2,_,_,rfl,h3,_,_,rfl,h4,_,_,rfl,h5,rfl⟩:=h
 obtain ⟨m0,rfl,i0⟩:=tc3 h0
 obtain ⟨m1,rfl,i1⟩:=tc3 h1
 obtain ⟨m2,rfl,i2⟩:=tc3 h2
 obtain ⟨m3,rfl,i3⟩:=tc9 h3
 obtain ⟨m4,rfl,i4⟩:=tc23 h4
 obtain ⟨m5,rfl,i5⟩:=ih _ h5
 exact ⟨⟨m0,m1,m2,m3,m4,m5⟩,rfl,by rw [ok26]; exact ⟨i0,i1,i2,i3,i4,i5⟩⟩
theorem tl26 (ih:∀ cs,TyC prog B n 26 cs→∃ x:Qc,cs=[(Qj x.kind),(Qj x.fn),(Qj x.axis),(strD x.name),(.lst ((List.map Qj) x.nums)),(.lst (Qc.toDs x.kids))]∧ok26 B x) (h:TyC prog B (n+1) 24 cs):∃ l:List Qc,cs=[.lst (Qc.toDs l)]∧l.length≤B∧okl26 B l:=by
 simp only [TyC,ua24] at h
 obtain ⟨L,rfl,hl,hx⟩:=h
 obtain ⟨l,rfl,hm⟩:=exists_map (f:=fun (x:Qc)=>[(Qj x.kind),(Qj x.fn),(Qj x.axis),(strD x.name),(.lst ((List.map Qj) x.nums)),(.lst (Qc.toDs x.kids))]) (p:=fun x=>ok26 B x) (fun c hc=>ih c (hx c hc))
 refine ⟨l,?_,by simpa using hl,okl26_of hm⟩
 have e:(l.map (fun (x:Qc)=>[(Qj x.kind),(Qj x.fn),(Qj x.axis),(strD x.name),(.lst ((List.map Qj) x.nums)),(.lst (Qc.toDs x.kids))])).map (elemD prog 26)=Qc.toDs l:=by
  rw [Qc.toDs_eq,List.map_map]; exact List.map_congr_left (fun m _=>by rw [Qc.toD_eq]; simp only [Function.comp_apply]; simp [elemD,aggB,ua26]; rfl)
 rw [e]
theorem tr26:∀ n,(∀ cs,TyC prog B n 26 cs→∃ x:Qc,cs=[(Qj x.kind),(Qj x.fn),(Qj x.axis),(strD x.name),(.lst ((List.map Qj) x.nums)),(.lst (Qc.toDs x.kids))]∧ok26 B x)∧(∀ cs,TyC prog B n 24 cs→∃ l:List Qc,cs=[.lst (Qc.toDs l)]∧l.length≤B∧okl26 B l)
 | 0=>⟨fun _ h=>h.elim,fun _ h=>h.elim⟩
 | n+1=>⟨fun _ h=>ts26 (tr26 n).2 h,fun _ h=>tl26 (tr26 n).1 h⟩
theorem tc26 (h:TyC prog B n 26 cs):∃ x:Qc,cs=[(Qj x.kind),(Qj x.fn),(Qj x.axis),(strD x.name),(.lst ((List.map Qj) x.nums)),(.lst (Qc.toDs x.kids))]∧ok26 B x:=(tr26 n).1 cs h
theorem ty22 {d:Dat} (h:TyA prog B 22 d):∃ m:(List Qa),d=(.lst ((List.map Qa.toD) m))∧(ok22 B m):=by
 obtain ⟨n,cs,h,hd⟩:=h
 obtain ⟨m,rfl,hm⟩:=tc22 h
 exact ⟨m,by rw [hd]; simp [elemD,aggB,ua22],hm⟩
theorem ty26 {d:Dat} (h:TyA prog B 26 d):∃ m:Qc,d=(Qc.ex m)∧(ok26 B m):=by
 obtain ⟨n,cs,h,hd⟩:=h
 obtain ⟨m,rfl,hm⟩:=tc26 h
 exact ⟨m,by rw [hd]; simp [elemD,aggB,ua26]; rfl,hm⟩
def argTs:List TypeId:=[9,3,35,2,23,37,39,22,26,24,4]
theorem argTs_closed:closedTs prog argTs=true:=by kernel_rfl
theorem laidOut:laidOutB prog=true:=by kernel_rfl
theorem summ:SummOK prog env:=fun f s h=>by cases h
theorem mixed:prog.follows .mixedOrders=true:=by kernel_rfl
theorem pure_of {f:FuncId} {dss:List Dat} {p:PV} (ho:p.out=true) (h:PC prog env f (dss.map .dat) [] p []):PureCall prog f dss p:=by
 obtain ⟨N,hN⟩:=h
 exact pure_sound summ mixed (hN N (Nat.le_refl _)) ho
mutual
theorem numT_le (B:Nat):∀ t:Qc,ok26 B t→numT t≤szT t * B
 | ⟨_,_,_,_,nums,kids⟩,h=>by
  rw [ok26] at h
  have:=numTs_le B kids h.2.2.2.2.2.2
  have:=h.2.2.2.2.1.1
  rw [numT,szT,Nat.add_mul,Nat.one_mul]; omega
theorem numTs_le (B:Nat):∀ l:List Qc,okl26 B l→numTs l≤szTs l * B
 | [],_=>Nat.zero_le _
 | k::ks,h=>by
  rw [okl26] at h
  have:=numT_le B k h.1
  have:=numTs_le B ks h.2
  rw [numTs,szTs,Nat.add_mul]; omega
end
mutual
theorem namesOk_of:∀ t:Qc,ok26 140737488351232 t→namesOk t
 | ⟨_,_,_,nm,_,ks⟩,h=>by
  rw [ok26] at h
  rw [namesOk]
  exact ⟨by have:=h.2.2.2.1; unfold nmOk; omega,namesOks_of ks h.2.2.2.2.2.2⟩
theorem namesOks_of:∀ l:List Qc,okl26 140737488351232 l→namesOks l
 | [],_=>by rw [namesOks]; trivial
 | k::ks,h=>by
  rw [okl26] at h
  rw [namesOks]
  exact ⟨namesOk_of k h.1,namesOks_of ks h.2⟩
end
theorem ElabSources_of (l:List Qa) (t:Qc) (h:ok26 140737488351232 t):Y2 (l,t)=some true:=ElabSources_ok l t (numT_le _ t h) (namesOk_of t h)
end Go.Proofs.Tryz
