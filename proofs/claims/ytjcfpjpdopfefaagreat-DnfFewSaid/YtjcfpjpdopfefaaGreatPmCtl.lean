/-
 The pure machine: soundness of control and of loops.
-/
import Derived.Test.YtjcfpjpdopfefaaGreatPmCode
import Derived.Test.YtjcfpjpdopfefaaGreatPmFlat
namespace Go.Pm
open Go Go.RowKit
set_option linter.all false
section
variable{P:fm}{B0:Nat}{w0:fk}{S0:Nat->Nat->Prop}{Nb:Nat}{F:Fence}{m:Nat}{pf:fo->Bool}{hint:fo->Hint}{call:gk}{h:Hint}
theorem lY{b:Frame}{a:Act}{k:List Item}{cs:List Frame}{w:fk}{c:Code}:step P (lone (b.atR a (.code (.scope c)::k)) cs w)=.next (lone (b.atR a (.code c::.inScope c::k)) cs w):=
 step_lone_go (by simp[stepG,stepG.exec,Frame.atR])
theorem xD{b:Frame}{a:Act}{k:List Item}{cs:List Frame}{w:fk}{c:Code}:step P (lone (b.atR a (.inScope c::k)) cs w)=.next (lone (b.atR a k) cs w):=
 step_lone_go (by simp[stepG,stepG.exec,Frame.atR])
theorem DF{n:Nat}{a:Act}{w:fk}{Q:Exit->Act->fk->Prop}{c:Code}(h:c.wpIn F n P (Exit.noGoto Q) a w):(Code.scope c).wpIn F n P Q a w:=by
 intro b k cs m p q;have h0:(lone (b.atR a (.code (.scope c)::k)) cs w).fenced P F:=fenced_calm p q rfl;obtain⟨e,f,g,j,d⟩:=h b (.inScope c::k) cs m p q;cases e with
 |normal=>exact⟨.normal,f,g,j,.head h0 lY (StepsIn.trans d (.one (fenced_calm p q rfl) xD))⟩
 |exit id=>exact⟨.exit id,f,g,j,.of_steps (.one h0 lY) ⟨λt r=>d.1 t (by simpa[exitTo]using r),λs r=>d.2 s (by simpa[exitTo]using r)⟩⟩
 |goto l=>exact j.elim
 |ret=>exact⟨_,f,g,j,.of_steps (.one h0 lY) d⟩
 |panic u=>exact⟨_,f,g,j,.of_steps (.one h0 lY) d⟩
 |outgrown=>exact⟨_,f,g,j,.of_steps (.one h0 lY) d⟩
theorem Cc(G:iX P pf call)(U:tf P call pf h):∀(n:Nat),
  (∀(D:Bool) (c:Code) (st st':St) (e:Ex),fP P call pf hint h D n c st=some (e,st')->Ae P call D c st e st')/\
  (∀(D:Bool) (b:Code) (h0:Nat) (st st':St) (e:Ex),fP.ploop P call pf hint h D b h0 n st=some (e,st')->h0<=st.heap.length->
   ∀(B0:Nat) (w0:fk) (S0:Nat->Nat->Prop) (g:Gh) (a:Act) (w:fk) (F:Fence) (m:Nat) (Q:Exit->Act->fk->Prop),rm F->(D=true->F=Fence.wide)->kT P B0 w0 S0 h0 g st a w->
    (∀g' N w',Ext h0 g w g' w'->Fr g st.heap w g' st'.heap w'->kT P B0 w0 S0 h0 g' st' N w'->Df a w N w'->Q (xA e) N w')->Code.roundsIn F m P b Q n a w):=by
 intro n;induction n with
 |zero=>exact⟨λD c st st' e k=>by simp[fP]at k,λD b h0 st st' e k=>by simp[fP.ploop]at k⟩
 |succ n ih=>
  obtain⟨q,Z⟩:=ih;refine⟨λD c st st' e k=>?_,λD b h0 st st' e k hle=>?_⟩
  .intro B0 w0 S0 Nb g a w F m Q H t hst E;cases c with
   |skip=>simp only[fP,j9,jI]at k;obtain⟨rfl,rfl⟩:=k;exact wpIn_skip (E g a w (Ext.refl _ _ _) (Fr.refl _ _ _) hst (Df.same rfl))
   |region r ops draw=>
    cases draw
    .simp only[fP]at k;split at k
     .simp only[j5]at k;obtain⟨A,k,L⟩:=k;simp only[jI]at L;obtain⟨rfl,rfl⟩:=L;refine wpIn_region ?_;have:=lT (Q:=Q) (m:=m) H G ops.toList 0 st A g a w k (λj=>by simp) hst λg' N w' C B V W=>E g' N w' C B V (Df.same W)
      rwa [aP,<-dw]at this
     simp only[j5]at k;obtain⟨A,k,L⟩:=k;simp only[jI]at L;obtain⟨rfl,rfl⟩:=L;refine wpIn_region ?_;have:=nB (Q:=Q) (m:=m) H G ops.toList 0 st A g a w k (λj=>by simp) hst λg' N w' C B V W=>E g' N w' C B V (Df.same W)
     rwa [aP,<-dw]at this
    .simp only[fP]at k;split at k
     .rename_i A fl L;split at k
      .rename_i ho;simp only[j9,jI]at k;obtain⟨rfl,rfl⟩:=k;exact U r ops st A fl ho L B0 w0 S0 Nb g a w F m Q H (λh=>by cases h) hst E
      .cases k
     .cases k
   |seq x y=>
    simp only[fP]at k;refine wpIn_seq ?_;split at k
    .rename_i A L;refine q D x st A .normal L B0 w0 S0 Nb g a w F m _ H t hst λI J K C B d p=>?_
     exact q D y A st' e k B0 w0 S0 Nb I J K F m Q H t d λg2 a2 w2 e2 f2 O X=>E g2 a2 w2 (C.trans e2 (j7 _)) (B.trans f2) O (p.trans B.size d.heap f2 X)
    .rename_i R;refine q D x st st' e k B0 w0 S0 Nb g a w F m _ H t hst λI J K C B d p=>?_
     have:=E I J K C B d p;cases e with
     |normal=>exact absurd k (R st')
     |exit id=>exact this
     |ret=>exact this
   |cond x y z=>
    simp only[fP]at k;split at k
    .rename_i hb;exact wpIn_cond_true (mz (hst.rep.ev x) hb) (q D y st st' e k B0 w0 S0 Nb g a w F m Q H t hst E)
    .rename_i hb;exact wpIn_cond_false (mz (hst.rep.ev x) hb) (q D z st st' e k B0 w0 S0 Nb g a w F m Q H t hst E)
    .cases k
   |block id b=>
    simp only[fP]at k;refine wpIn_block ?_;split at k
    .rename_i id' A L;refine q D b st A _ L B0 w0 S0 Nb g a w F m _ H t hst λI J K C B d p=>?_
     split at k
     .rename_i Y;simp only[j9,jI]at k;obtain⟨rfl,rfl⟩:=k;have:=E I J K C B d p
      simpa[xA,Exit.inBlock,Y]using this
     .rename_i Y;simp only[j9,jI]at k;obtain⟨rfl,rfl⟩:=k;have:=E I J K C B d p
      simpa[xA,Exit.inBlock,Y]using this
    .rename_i R;refine q D b st st' e k B0 w0 S0 Nb g a w F m _ H t hst λI J K C B d p=>?_
     have:=E I J K C B d p;cases e with
     |normal=>exact this
     |exit id=>exact absurd k (R id st')
     |ret=>exact this
   |loop b=>
    simp only[fP]at k;refine wpIn_loop_rounds n ?_;refine Z D b st.heap.length st st' e k (j7 _) B0 w0 S0 g a w F m Q H t ⟨hst.heap,hst.inv,hst.rep,j7 _⟩ λI J K C B d p=>?_
    exact E I J K (C.less hst.base) B ⟨d.heap,d.inv,d.rep,jW hst.base d.base⟩ p
   |exit id=>simp only[fP,j9,jI]at k;obtain⟨rfl,rfl⟩:=k;exact wpIn_exit (E g a w (Ext.refl _ _ _) (Fr.refl _ _ _) hst (Df.same rfl))
   |label l=>simp only[fP,j9,jI]at k;obtain⟨rfl,rfl⟩:=k;exact wpIn_label (E g a w (Ext.refl _ _ _) (Fr.refl _ _ _) hst (Df.same rfl))
   |scope b=>
    simp only[fP]at k;refine DF ?_;refine q D b st st' e k B0 w0 S0 Nb g a w F m _ H t hst λI J K C B d p=>?_
    have:=E I J K C B d p;cases e<;>exact this
   |ret=>simp only[fP,j9,jI]at k;obtain⟨rfl,rfl⟩:=k;exact wpIn_ret (E g a w (Ext.refl _ _ _) (Fr.refl _ _ _) hst (Df.same rfl))
   |rangeFunc f ps assign body=>
    simp only[fP]at k;split at k
    .rename_i hrgt;obtain rfl:=t hrgt;have M:=hst.rep.ev f;split at k
     .rename_i gf caps hx;rw[hx]at M;generalize hv:a.eval f=vf at M;cases M with
      |fn _ vs cs L h2=>
       exact CI (λs e s' h=>q false assign s s' e h) (λs e s' h=>q false body s s' e h) G k hv L h2 hst λg' N w' C B V W=>E g' N w' (C.less hst.base) B V W
     .rename_i gf first cap hx
      rw[hx]at M;have hd:=M.datInv;have hv:=M.toVal (u:=.func (.func gf) first cap) rfl;rw[hv]at hd;have S:isRaw (.func (.func gf) first cap)=true:=by cases hd;assumption
      simp only[isRaw,jE,cK]at S;obtain⟨rfl,rfl⟩:=S;exact CI (λs e s' h=>q false assign s s' e h) (λs e s' h=>q false body s s' e h) G k hv rfl (λj v c h=>by simp at h) hst λg' N w' C B V W=>E g' N w' (C.less hst.base) B V W
     .cases k
    .cases k
   |_=>simp[fP]at k
  .intro B0 w0 S0 g a w F m Q H t hst E;rw[roundsIn_succ];simp only[fP.ploop]at k;obtain⟨g0,e0,f0,T⟩:=wg ((Q0 b).bind h.keepAt) hst;split at k
   .rename_i A L;refine q D b _ A .normal L B0 w0 S0 h0 g0 a w F m _ H t T λI J K C B d p=>?_
    exact Z D b h0 A st' e k d.base B0 w0 S0 I J K F m Q H t d λg2 a2 w2 e2 f2 O X=>E g2 a2 w2 ((e0.trans C (j7 _)).trans e2 (j7 _)) ((f0.trans B).trans f2) O (p.trans B.size d.heap f2 X)
   .rename_i R;refine q D b _ st' e k B0 w0 S0 h0 g0 a w F m _ H t T λI J K C B d p=>?_
    have:=E I J K (e0.trans C (j7 _)) (f0.trans B) d p;cases e with
    |normal=>exact absurd k (R st')
    |exit id=>exact this
    |ret=>exact this
end
end Go.Pm
