/- Code on terms. Whole functions and loops on terms. Triples for loops over functions, facts of functions on heaps, regions that draw their order and turn the heap. Deferred calls: a function that is left by a return or by a panic. Functions that are handed to an iterator, as facts. A range over a map that nobody writes, whatever its order. Lemmas. What holds at a small heap holds at a great one. -/
import Derived.Test.YtmjplflnlggbeaaGreatDoorESy6
import Derived.Test.YtmjplflnlggbeaaGreatDoorEEvDraw8
import Derived.Test.YtmjplflnlggbeaaGreatDoorESy3
import Derived.Laws.IdiomRangeMap
import Derived.LoopN
import Derived.Test.YtmjplflnlggbeaaGreatDoorEEvFact
import Derived.Laws.LoneSync
namespace Go.Ev
open Go Go.Proofs
set_option linter.unusedSimpArgs false
set_option linter.unusedVariables false
set_option linter.unnecessarySimpa false
set_option maxRecDepth 100000
open Go
theorem zaB:∀(p q:List Bool)(c:Code),sub (p++q) c=sub q (sub p c)
 | [],q,c=>by
  have:sub [] c=c:=by cases c<;>rfl
  rw[this];rfl
 |b::p,q,c=>by
  have leaf:∀c:Code,(∀b p,sub (b::p) c=c)→sub ((b::p)++q) c=sub q (sub (b::p) c):=fun c h=>by
   rw[jEa,h,h];cases q with
   |nil=>cases c<;>rfl
   |cons d q=>rw[h]
  cases c<;>cases b<;>first
   |exact zaB p q _
   |exact leaf _ fun b p=>by cases b<;>rfl
noncomputable def ctx (P:Program)(T:Tab):List Bool→Code→(Out→Prop)→(Out→Prop)
 |false::p,.seq a b,Q=>ctx P T p a (zjc P T b Q)
 |true::p,.seq _ b,Q=>ctx P T p b Q
 |false::p,.cond _ a _,Q=>ctx P T p a Q
 |true::p,.cond _ _ b,Q=>ctx P T p b Q
 |_::p,.block id c,Q=>ctx P T p c (zdK id Q)
 |_::p,.loop c,Q=>ctx P T p c (inLoop P T c Q)
 |_,_,Q=>Q
theorem zdj {P:Program}{T:Tab}(c:Code)(Q:Out→Prop):ctx P T [] c Q=Q:=by cases c<;>rfl
theorem zax {P:Program}{T:Tab}:∀(p q:List Bool)(c:Code)(Q:Out→Prop),ctx P T (p++q) c Q=ctx P T q (sub p c) (ctx P T p c Q)
 | [],q,c,Q=>by
  have:sub [] c=c:=by cases c<;>rfl
  rw[this,zdj];rfl
 |b::p,q,c,Q=>by
  have leaf:∀c:Code,(∀b p,sub (b::p) c=c)→(∀b p Q,ctx P T (b::p) c Q=Q)→ctx P T ((b::p)++q) c Q=ctx P T q (sub (b::p) c) (ctx P T (b::p) c Q):=fun c h h2=>by
   rw[jEa,h2,h,h2];cases q with
   |nil=>rw[zdj]
   |cons d q=>rw[h2]
  cases c<;>cases b<;>first
   |exact zax p q _ _
   |exact leaf _ (fun b p=>by cases b<;>rfl) (fun b p Q=>by cases b<;>rfl)
theorem zlh {P:Program}{T:Tab}{t:Tm}{H:zaa}:∀(p:List Bool)(c:Code)(Q:Out→Prop),Q (.ret t H)→ctx P T p c Q (.ret t H)
 | [],c,Q,h=>by rw[zdj];exact h
 |b::p,c,Q,h=>by
  cases c<;>cases b<;>first
   |exact zlh p _ _ h
   |exact h
noncomputable def fNs {α:Type}(l:List Nat):(List Nat→α)→α:=List.rec (motive:=fun _=>(List Nat→α)→α) (fun k=>k []) (fun n _ r k=>fN n fun n=>r fun l=>k (n::l)) l
theorem zpS {α:Type}:∀(l:List Nat)(k:List Nat→α),fNs l k=k l
 | [],_=>rfl
 |n::l,k=>by
  show fN n (fun n=>fNs l fun l=>k (n::l))=_;rw[zcp,zpS l]
noncomputable def turns (sh:Nat→Option Shape)(o:Oper):Bool:=match o.op with
 | .alloc _=>true
 | .box _ _=>true
 | .store _ _ _=>true
 | .buildSlice _ _ _=>true
 | .makeMap _ _=>true
 | .mapUpdate _ _ _ _=>true
 | .insert _ _ _ _=>true
 | .call c=>match c.callee with
  | .value (.func f)=>match sh f with
   |some s=>(match s.kind with
    | .turns=>true
    | .keeps _=>true
    |_=>false)
   |none=>false
  | .builtin .append=>true
  | .builtin .unsafeString=>true
  |_=>false
 |_=>false
noncomputable def zzZ (T:Tab)(sh:Nat→Option Shape)(w:Nat)(ops:Array Oper)(d:Bool)(st:St)(kp:St→E→Tree)(k:St→Tree):Tree:=
 bif d then(bif ops.toList.any (turns sh)then zwt T sh w ops ops.toList [] st fun acc st=>fNs (zbt ops.toList []) fun ms=>cond (zbF ops.toList ops ms&&zws ms acc.reverse) (k st) (.stuck 13)
  else fNs (zbt ops.toList []) fun ms=>cond (zbF ops.toList ops ms) (match st with|⟨tm,h,nv,kn⟩=>zxz ms w ops T sh tm kp 0 ops.toList ⟨tm,h,nv,kn⟩ k) (.stuck 17))
 else zwC T sh w ops kp ops.toList st k
structure Kk where
  norm:St→Tree
  exit:Nat→St→Tree
  ret:St→Tree
  pan:St→E→Tree
  stop:List Bool→St→Tree
  again:List Bool→St→Tree
noncomputable def zaQ (T:Tab)(sh:Nat→Option Shape)(w:Nat)(stops:List Nat):Code→List Bool→St→Kk→Tree
 | .skip,_,st,K=>K.norm st
 | .label _,_,st,K=>K.norm st
 | .region id ops d,p,st,K=>bif stops.any (Nat.beq id)then K.stop p st else zzZ T sh w ops d st K.pan K.norm
 | .seq a b,p,st,K=>zaQ T sh w stops a (p++[false]) st {K with norm:=fun st=>zaQ T sh w stops b (p++[true]) st K}
 | .cond g x y,p,st,K=>(match sv st.tm g with
  |some (.f1 .vb c)=>zwV st c fun st b=>bif b then zaQ T sh w stops x (p++[false]) st K else zaQ T sh w stops y (p++[true]) st K
  |_=>.stuck 18)
 | .block id c,p,st,K=>zaQ T sh w stops c (p++[false]) st {K with exit:=fun j st=>bif Nat.beq j id then K.norm st else K.exit j st}
 | .loop c,p,st,K=>bif stops.any (Nat.beq (1000000+p.length))then zaQ T sh w stops c (p++[false]) st {K with norm:=fun st=>K.again (p++[false]) st}else K.stop p st
 | .exit id,_,st,K=>K.exit id st
 | .ret,_,st,K=>K.ret st
 | .rangeFunc ..,p,st,K=>K.stop p st
 |_,_,_,_=>.stuck 19
section
variable {P:Program}{T:Tab}{call:zad}{w:Nat}{L:LO→List U→Tm→zaa→Prop}{R:OR→Prop}{code0:Code}{Q0:Out→Prop}
structure KOk (P:Program) (T:Tab) (call:zad) (w:Nat) (L:LO→List U→Tm→zaa→Prop) (R:OR→Prop) (code0:Code) (Q0:Out→Prop) (K:Kk) (Q:Out→Prop):Prop where
  norm:∀σ st t H,Holds w σ st t H→VC T call w L R σ (K.norm st)→Q (.norm t H)
  exit:∀σ st t H j,Holds w σ st t H→VC T call w L R σ (K.exit j st)→Q (.exit j t H)
  ret:∀σ st t H,Holds w σ st t H→VC T call w L R σ (K.ret st)→Q (.ret t H)
  pan:∀σ st t H e,Holds w σ st t H→VC T call w L R σ (K.pan st e)→Q (.pan (e.den σ).val t H)
  stop:∀σ st t H p,Holds w σ st t H→VC T call w L R σ (K.stop p st)→Tri P T (sub p code0) t H (ctx P T p code0 Q0)
  again:∀σ st t H p,Holds w σ st t H→VC T call w L R σ (K.again p st)→ctx P T p code0 Q0 (.norm t H)
theorem zvs (hT:TOk P T)(hC:call.Sound P T){sh:Nat→Option Shape}{id:Nat}{ops:Array Oper}{d:Bool}{σ:List U}{st:St}{t:Tm}{H:zaa}{K:Kk}{Q:Out→Prop}(hK:KOk P T call w L R code0 Q0 K Q)
 (hv:VC T call w L R σ (zzZ T sh w ops d st K.pan K.norm))(hh:Holds w σ st t H):Tri P T (.region id ops d) t H Q:=by
 unfold zzZ at hv;cases d with
 |false=>
  simp only[jMd]at hv;have:=zjD _ _ _ _ _ hv hh;refine Tri.reg hT hC (o:=zaK (zb7 T call) ops ops.toList t H) (zlw ..) ?_;revert this;cases zaK (zb7 T call) ops ops.toList t H with
  |norm t' H'=>rintro⟨σ',st',h1,h2⟩;exact hK.norm σ' st' t' H' h1 h2
  |pan v t' H'=>rintro⟨σ',st',e,h1,rfl,h2⟩;exact hK.pan σ' st' t' H' e h1 h2
  |exit id t' H'=>exact False.elim
  |ret t' H'=>exact False.elim
  |no=>exact False.elim
 |true=>
  simp only[jVc]at hv;cases ha:ops.toList.any (turns sh)with
  |true=>
   rw[ha]at hv;simp only[jVc]at hv;obtain⟨ks,t',H',σ',st',h1,h2,h3⟩:=ziV _ _ _ _ _ _ hv hh;rw[zpS,jWb,List.reverse_reverse]at h3;cases hc:zbF ops.toList ops (zbt ops.toList [])&&zws (zbt ops.toList []) ks with
   |false=>rw[hc]at h3;exact h3.elim
   |true=>
    rw[hc]at h3;exact Tri.regN hT hC (zbG (fun _=>True) hc trivial h1 rfl) (hK.norm σ' st' t' H' h2 h3)
  |false=>
   rw[ha]at hv;simp only[jMd,zpS]at hv;cases hc:zbF ops.toList ops (zbt ops.toList [])with
   |false=>rw[hc]at hv;exact hv.elim
   |true=>
    rw[hc]at hv;simp only[jVc]at hv;rcases zlP hh ops.toList 0 σ st t H (jHb _) hv hh with⟨t',σ',st',h1,h2,h3⟩|⟨q,H',σ',st',e,fl,h1,h2,h3,h4⟩
    ·exact Tri.regN hT hC (zcF hc h1 rfl) (hK.norm σ' st' t' H h2 h3)
    ·refine Tri.drawPan hT hC q _ H' fl (by rw[hc];simpa using h2) h1 ?_;exact hK.pan σ' st' _ H' e h3 h4
theorem zbP (hT:TOk P T) (hC:call.Sound P T) {sh:Nat→Option Shape} {stops:List Nat}:∀(c:Code) (p:List Bool) (σ:List U) (st:St) (t:Tm) (H:zaa) (K:Kk) (Q:Out→Prop),KOk P T call w L R code0 Q0 K Q→sub p code0=c→ctx P T p code0 Q0=Q →
    VC T call w L R σ (zaQ T sh w stops c p st K)→Holds w σ st t H→Tri P T c t H Q
  | .skip,p,σ,st,t,H,K,Q,hK,h1,h2,hv,hh=>Tri.skip (hK.norm _ _ _ _ hh hv)
  | .label _,p,σ,st,t,H,K,Q,hK,h1,h2,hv,hh=>Tri.label (hK.norm _ _ _ _ hh hv)
  | .exit id,p,σ,st,t,H,K,Q,hK,h1,h2,hv,hh=>Tri.exit (hK.exit _ _ _ _ _ hh hv)
  | .ret,p,σ,st,t,H,K,Q,hK,h1,h2,hv,hh=>Tri.ret (hK.ret _ _ _ _ hh hv)
  | .region id ops d,p,σ,st,t,H,K,Q,hK,h1,h2,hv,hh=>by
    simp only[zaQ]at hv
    cases hs:stops.any (Nat.beq id)with
    | true=>
      rw[hs]at hv
      have:=hK.stop _ _ _ _ _ hh hv
      rwa [h1,h2]at this
    | false=>
      rw[hs]at hv
      exact zvs hT hC hK hv hh
  | .loop c,p,σ,st,t,H,K,Q,hK,h1,h2,hv,hh=>by
    simp only[zaQ]at hv
    cases hs:stops.any (Nat.beq (1000000+p.length))with
    | false=>
      rw[hs]at hv
      have:=hK.stop _ _ _ _ _ hh hv
      rwa [h1,h2]at this
    | true=>
      rw[hs]at hv
      have e1:sub (p++[false]) code0=c:=by rw[zaB,h1];cases c<;>rfl
      have e2:ctx P T (p++[false]) code0 Q0=inLoop P T c Q:=by rw[zax,h1,h2];cases c<;>rfl
      refine Tri.loop (zaM.round' (zbP hT hC c (p++[false]) σ st t H _ _ ?_ e1 e2 hv hh))
      exact⟨fun σ' st' t' H' k1 k2=>by have:=hK.again _ _ _ _ _ k1 k2;rwa [e2]at this,hK.exit,hK.ret,hK.pan,hK.stop,hK.again⟩
  | .rangeFunc f ps a c,p,σ,st,t,H,K,Q,hK,h1,h2,hv,hh=>by
    have:=hK.stop _ _ _ _ _ hh hv
    rwa [h1,h2]at this
  | .scope _,p,σ,st,t,H,K,Q,hK,h1,h2,hv,hh=>hv.elim
  | .goto _,p,σ,st,t,H,K,Q,hK,h1,h2,hv,hh=>hv.elim
  | .refuse _,p,σ,st,t,H,K,Q,hK,h1,h2,hv,hh=>hv.elim
  | .seq a b,p,σ,st,t,H,K,Q,hK,h1,h2,hv,hh=>by
    simp only[zaQ]at hv
    refine Tri.seq' (zbP hT hC a (p++[false]) σ st t H _ _ ?_ (by rw[zaB,h1];cases a<;>rfl) (by rw[zax,h1,h2];cases a<;>rfl) hv hh)
    exact⟨fun σ' st' t' H' k1 k2=>zbP hT hC b (p++[true]) σ' st' t' H' K Q hK (by rw[zaB,h1];cases b<;>rfl) (by rw[zax,h1,h2];cases b<;>rfl) k2 k1,hK.exit,hK.ret,hK.pan,hK.stop,hK.again⟩
  | .cond g x y,p,σ,st,t,H,K,Q,hK,h1,h2,hv,hh=>by
    simp only[zaQ]at hv
    split at hv
    · rename_i c hg
      have hg:=zbD hh.sees hg
      obtain⟨st',_,hh',hv'⟩:=zlk hv hh
      refine Tri.cond hg (fun hb=>?_) fun hb=>?_
      · rw[show(c.den σ).boo=true from hb]at hv'
        exact zbP hT hC x (p++[false]) σ st' t H K Q hK (by rw[zaB,h1];cases x<;>rfl) (by rw[zax,h1,h2];cases x<;>rfl) hv' hh'
      · rw[show(c.den σ).boo=false from hb]at hv'
        exact zbP hT hC y (p++[true]) σ st' t H K Q hK (by rw[zaB,h1];cases y<;>rfl) (by rw[zax,h1,h2];cases y<;>rfl) hv' hh'
    · exact hv.elim
  | .block id c,p,σ,st,t,H,K,Q,hK,h1,h2,hv,hh=>by
    simp only[zaQ]at hv
    refine Tri.block' (zbP hT hC c (p++[false]) σ st t H _ _ ?_ (by rw[zaB,h1];cases c<;>rfl) (by rw[zax,h1,h2];cases c<;>rfl) hv hh)
    refine⟨hK.norm,fun σ' st' t' H' j k1 k2=>?_,hK.ret,hK.pan,hK.stop,hK.again⟩
    simp only at k2
    cases hj:Nat.beq j id with
    | true=>
      rw[hj]at k2
      have:=jTc hj
      subst this
      exact zav (hK.norm _ _ _ _ k1 k2)
    | false=>
      rw[hj]at k2
      exact zfy (by have:=Nat.ne_of_beq_eq_false hj;simpa using this) (hK.exit _ _ _ _ _ k1 k2)

/-! From a place on, with what has come there: an end, or an exit. -/
inductive Oc where
  |norm|exit (j:Nat)
def Oc.out (o:Oc)(t:Tm)(H:zaa):Out:=match o with
 | .norm=>.norm t H
 | .exit j=>.exit j t H
noncomputable def Kk.at (K:Kk)(o:Oc)(st:St):Tree:=match o with
 | .norm=>K.norm st
 | .exit j=>K.exit j st
noncomputable def zhE (T:Tab)(sh:Nat→Option Shape)(w:Nat)(stops:List Nat):List Bool→Code→List Bool→Oc→St→Kk→Tree
 |false::p,.seq a b,q,o,st,K=>zhE T sh w stops p a (q++[false]) o st {K with norm:=fun st=>zaQ T sh w stops b (q++[true]) st K}
 |true::p,.seq _ b,q,o,st,K=>zhE T sh w stops p b (q++[true]) o st K
 |false::p,.cond _ x _,q,o,st,K=>zhE T sh w stops p x (q++[false]) o st K
 |true::p,.cond _ _ y,q,o,st,K=>zhE T sh w stops p y (q++[true]) o st K
 |_::p,.block id c,q,o,st,K=>zhE T sh w stops p c (q++[false]) o st {K with exit:=fun j st=>bif Nat.beq j id then K.norm st else K.exit j st}
 |_::p,.loop c,q,o,st,K=>zhE T sh w stops p c (q++[false]) o st {K with norm:=fun st=>K.again (q++[false]) st}
 |_,_,_,o,st,K=>K.at o st
theorem KOk.out {K:Kk}{Q:Out→Prop}(hK:KOk P T call w L R code0 Q0 K Q){o:Oc}{σ:List U}{st:St}{t:Tm}{H:zaa}(hh:Holds w σ st t H)(hv:VC T call w L R σ (K.at o st)):Q (o.out t H):=by
 cases o with
 |norm=>exact hK.norm _ _ _ _ hh hv
 |exit j=>exact hK.exit _ _ _ _ _ hh hv
theorem zdi (hT:TOk P T) (hC:call.Sound P T) {sh:Nat→Option Shape} {stops:List Nat} {o:Oc}:∀(p:List Bool) (c:Code) (q:List Bool) (σ:List U) (st:St) (t:Tm) (H:zaa) (K:Kk) (Q:Out→Prop),KOk P T call w L R code0 Q0 K Q→sub q code0=c→ctx P T q code0 Q0=Q →
    VC T call w L R σ (zhE T sh w stops p c q o st K)→Holds w σ st t H→ctx P T p c Q (o.out t H)
  | [],c,q,σ,st,t,H,K,Q,hK,h1,h2,hv,hh=>by
    rw[zdj]
    refine hK.out hh ?_
    cases c<;>exact hv
  | b :: p,c,q,σ,st,t,H,K,Q,hK,h1,h2,hv,hh=>by
    cases c with
    | seq x y=>
      cases b with
      | false=>
        refine zdi hT hC p x (q++[false]) σ st t H _ _ ?_ (by rw[zaB,h1];cases x<;>rfl) (by rw[zax,h1,h2];cases x<;>rfl) hv hh
        exact⟨fun σ' st' t' H' k1 k2=>zbP hT hC y (q++[true]) σ' st' t' H' K Q hK (by rw[zaB,h1];cases y<;>rfl) (by rw[zax,h1,h2];cases y<;>rfl) k2 k1,hK.exit,hK.ret,hK.pan,hK.stop,hK.again⟩
      |true=>exact zdi hT hC p y (q++[true]) σ st t H K Q hK (by rw[zaB,h1];cases y<;>rfl) (by rw[zax,h1,h2];cases y<;>rfl) hv hh
    | cond g x y=>
      cases b with
      |false=>exact zdi hT hC p x (q++[false]) σ st t H K Q hK (by rw[zaB,h1];cases x<;>rfl) (by rw[zax,h1,h2];cases x<;>rfl) hv hh
      |true=>exact zdi hT hC p y (q++[true]) σ st t H K Q hK (by rw[zaB,h1];cases y<;>rfl) (by rw[zax,h1,h2];cases y<;>rfl) hv hh
    | block id c=>
      have key:∀{K':Kk},KOk P T call w L R code0 Q0 K' (zdK id Q)→VC T call w L R σ (zhE T sh w stops p c (q++[false]) o st K')→ctx P T p c (zdK id Q) (o.out t H):=fun hK' hv'=>
        zdi hT hC p c (q++[false]) σ st t H _ _ hK' (by rw[zaB,h1];cases c<;>rfl) (by rw[zax,h1,h2];cases c<;>rfl) hv' hh
      have hK':KOk P T call w L R code0 Q0 {K with exit:=fun j st=>bif Nat.beq j id then K.norm st else K.exit j st} (zdK id Q):=by
        refine⟨hK.norm,fun σ' st' t' H' j k1 k2=>?_,hK.ret,hK.pan,hK.stop,hK.again⟩
        simp only at k2
        cases hj:Nat.beq j id with
        | true=>
          rw[hj]at k2
          have:=jTc hj
          subst this
          exact zav (hK.norm _ _ _ _ k1 k2)
        | false=>
          rw[hj]at k2
          exact zfy (by have:=Nat.ne_of_beq_eq_false hj;simpa using this) (hK.exit _ _ _ _ _ k1 k2)
      cases b<;>exact key hK' hv
    | loop c=>
      have e1:sub (q++[false]) code0=c:=by rw[zaB,h1];cases c<;>rfl
      have e2:ctx P T (q++[false]) code0 Q0=inLoop P T c Q:=by rw[zax,h1,h2];cases c<;>rfl
      have hK':KOk P T call w L R code0 Q0 {K with norm:=fun st=>K.again (q++[false]) st} (inLoop P T c Q):=
        ⟨fun σ' st' t' H' k1 k2=>by have:=hK.again _ _ _ _ _ k1 k2;rwa [e2]at this,hK.exit,hK.ret,hK.pan,hK.stop,hK.again⟩
      cases b<;>exact zdi hT hC p c (q++[false]) σ st t H _ _ hK' e1 e2 hv hh
    |_=>cases b<;>exact hK.out hh hv

noncomputable def goT (T:Tab)(sh:Nat→Option Shape)(w:Nat)(stops:List Nat):List Bool→Code→List Bool→St→Kk→Tree
 |false::p,.seq a b,q,st,K=>goT T sh w stops p a (q++[false]) st {K with norm:=fun st=>zaQ T sh w stops b (q++[true]) st K}
 |true::p,.seq _ b,q,st,K=>goT T sh w stops p b (q++[true]) st K
 |false::p,.cond _ x _,q,st,K=>goT T sh w stops p x (q++[false]) st K
 |true::p,.cond _ _ y,q,st,K=>goT T sh w stops p y (q++[true]) st K
 |_::p,.block id c,q,st,K=>goT T sh w stops p c (q++[false]) st {K with exit:=fun j st=>bif Nat.beq j id then K.norm st else K.exit j st}
 |_::p,.loop c,q,st,K=>goT T sh w stops p c (q++[false]) st {K with norm:=fun st=>K.again (q++[false]) st}
 |_,c,q,st,K=>zaQ T sh w stops c q st K
theorem zg0 (hT:TOk P T) (hC:call.Sound P T) {sh:Nat→Option Shape} {stops:List Nat}:∀(p:List Bool) (c:Code) (q:List Bool) (σ:List U) (st:St) (t:Tm) (H:zaa) (K:Kk) (Q:Out→Prop),KOk P T call w L R code0 Q0 K Q→sub q code0=c→ctx P T q code0 Q0=Q →
    VC T call w L R σ (goT T sh w stops p c q st K)→Holds w σ st t H→Tri P T (sub p c) t H (ctx P T p c Q)
  | [],c,q,σ,st,t,H,K,Q,hK,h1,h2,hv,hh=>by
    have e:sub [] c=c:=by cases c<;>rfl
    rw[zdj,e]
    refine zbP (sh:=sh) (stops:=stops) hT hC c q σ st t H K Q hK h1 h2 ?_ hh
    cases c<;>exact hv
  | b :: p,c,q,σ,st,t,H,K,Q,hK,h1,h2,hv,hh=>by
    cases c with
    | seq x y=>
      cases b with
      | false=>
        refine zg0 hT hC p x (q++[false]) σ st t H _ _ ?_ (by rw[zaB,h1];cases x<;>rfl) (by rw[zax,h1,h2];cases x<;>rfl) hv hh
        exact⟨fun σ' st' t' H' k1 k2=>zbP hT hC y (q++[true]) σ' st' t' H' K Q hK (by rw[zaB,h1];cases y<;>rfl) (by rw[zax,h1,h2];cases y<;>rfl) k2 k1,hK.exit,hK.ret,hK.pan,hK.stop,hK.again⟩
      |true=>exact zg0 hT hC p y (q++[true]) σ st t H K Q hK (by rw[zaB,h1];cases y<;>rfl) (by rw[zax,h1,h2];cases y<;>rfl) hv hh
    | cond g x y=>
      cases b with
      |false=>exact zg0 hT hC p x (q++[false]) σ st t H K Q hK (by rw[zaB,h1];cases x<;>rfl) (by rw[zax,h1,h2];cases x<;>rfl) hv hh
      |true=>exact zg0 hT hC p y (q++[true]) σ st t H K Q hK (by rw[zaB,h1];cases y<;>rfl) (by rw[zax,h1,h2];cases y<;>rfl) hv hh
    | block id c=>
      have key:∀{K':Kk},KOk P T call w L R code0 Q0 K' (zdK id Q)→VC T call w L R σ (goT T sh w stops p c (q++[false]) st K')→Tri P T (sub p c) t H (ctx P T p c (zdK id Q)):=fun hK' hv'=>
        zg0 hT hC p c (q++[false]) σ st t H _ _ hK' (by rw[zaB,h1];cases c<;>rfl) (by rw[zax,h1,h2];cases c<;>rfl) hv' hh
      have hK':KOk P T call w L R code0 Q0 {K with exit:=fun j st=>bif Nat.beq j id then K.norm st else K.exit j st} (zdK id Q):=by
        refine⟨hK.norm,fun σ' st' t' H' j k1 k2=>?_,hK.ret,hK.pan,hK.stop,hK.again⟩
        simp only at k2
        cases hj:Nat.beq j id with
        | true=>
          rw[hj]at k2
          have:=jTc hj
          subst this
          exact zav (hK.norm _ _ _ _ k1 k2)
        | false=>
          rw[hj]at k2
          exact zfy (by have:=Nat.ne_of_beq_eq_false hj;simpa using this) (hK.exit _ _ _ _ _ k1 k2)
      cases b<;>exact key hK' hv
    | loop c=>
      have e1:sub (q++[false]) code0=c:=by rw[zaB,h1];cases c<;>rfl
      have e2:ctx P T (q++[false]) code0 Q0=inLoop P T c Q:=by rw[zax,h1,h2];cases c<;>rfl
      have hK':KOk P T call w L R code0 Q0 {K with norm:=fun st=>K.again (q++[false]) st} (inLoop P T c Q):=
        ⟨fun σ' st' t' H' k1 k2=>by have:=hK.again _ _ _ _ _ k1 k2;rwa [e2]at this,hK.exit,hK.ret,hK.pan,hK.stop,hK.again⟩
      cases b<;>exact zg0 hT hC p c (q++[false]) σ st t H _ _ hK' e1 e2 hv hh
    |_=>cases b<;>exact zbP hT hC _ q σ st t H K Q hK h1 h2 hv hh

/-! The whole. -/
noncomputable def zje (ks:List Nat)(st:St):List (Nat×E):=ks.filterMap fun k=>(zjS st.tm k).map fun e=>(k,e)
noncomputable def K0 (ks:List Nat):Kk where
 norm st:=.leaf .norm (zje ks st) st.h
 exit j st:=.leaf (.exit j) (zje ks st) st.h
 ret st:=.leaf .ret (zje ks st) st.h
 pan st e:=.leaf (.pan e) (zje ks st) st.h
 stop p st:=.leaf (.stop p) (zje ks st) st.h
 again p st:=.leaf (.again p) (zje ks st) st.h
@[simp] def LQ (P:Program)(T:Tab)(code0:Code)(Q0:Out→Prop):LO→List U→Tm→zaa→Prop
 | .norm,_,t,H=>Q0 (.norm t H)
 | .exit j,_,t,H=>Q0 (.exit j t H)
 | .ret,_,t,H=>Q0 (.ret t H)
 | .pan x,σ,t,H=>Q0 (.pan (x.den σ).val t H)
 | .stop p,_,t,H=>Tri P T (sub p code0) t H (ctx P T p code0 Q0)
 | .again p,_,t,H=>ctx P T p code0 Q0 (.norm t H)
theorem zfV {σ:List U}{t:Tm}{p:Prop}:∀{l:List (Nat×E)},(∀k e,(k,e)∈l→t.get k=(e.den σ).val)→zai σ t p l→p
 | [],_,h=>h
 |(k,e)::r,hf,h=>zfV (fun k' e' hm=>hf k' e' (jYb _ hm)) (h (hf k e (jIc ..)))
theorem zdZ {o:LO}{ks:List Nat}{σ:List U}{st:St}{t:Tm}{H:zaa}(hh:Holds w σ st t H)(hv:VC T call w L R σ (.leaf o (zje ks st) st.h)):L o σ t H:=by
 rw[hh.heap];refine zfV (fun k e hm=>?_) (hv t hh.wid);obtain⟨k',_,hk⟩:=List.mem_filterMap.1 hm;cases hg:zjS st.tm k' with
 |none=>rw[hg]at hk;cases hk
 |some e'=>
  rw[hg]at hk;cases hk;exact hh.tm _ _ hg
theorem zzy (ks:List Nat):KOk P T call w (LQ P T code0 Q0) R code0 Q0 (K0 ks) Q0 where
 norm _ _ _ _ hh hv:=zdZ (L:=LQ P T code0 Q0) (o:=.norm) hh hv
 exit _ _ _ _ j hh hv:=zdZ (L:=LQ P T code0 Q0) (o:=.exit j) hh hv
 ret _ _ _ _ hh hv:=zdZ (L:=LQ P T code0 Q0) (o:=.ret) hh hv
 pan σ _ _ _ e hh hv:=zdZ (L:=LQ P T code0 Q0) (o:=.pan e) hh hv
 stop _ _ _ _ p hh hv:=zdZ (L:=LQ P T code0 Q0) (o:=.stop p) hh hv
 again _ _ _ _ p hh hv:=zdZ (L:=LQ P T code0 Q0) (o:=.again p) hh hv
@[simp] def zcW (σ:List U)(t:Tm):List (Nat×E)→Prop
 | []=>True
 |(k,e)::r=>t.get k=(e.den σ).val∧zcW σ t r
theorem zfU {σ:List U}{t:Tm}:∀{l:List (Nat×E)},zcW σ t l→∀p∈l,t.get p.1=(p.2.den σ).val
 | [],_,p,hp=>by simp at hp
 |(k,e)::r,h,p,hp=>by
  rcases jOb.1 hp with rfl|hp
  ·exact h.1
  ·exact zfU h.2 p hp
theorem Holds.init {σ:List U}{t:Tm}{H:zaa}{tm:List (Nat×E)}{h:SH}{nv:Nat}(hw:t.wid=w)(hf:zcW σ t tm)(hH:H=h.den σ)(hW:h.WF σ)(hn:σ.length=nv)(hs:(tm.all (fun p=>p.2.scop nv)&&h.scop nv)=true):Holds w σ ⟨tm,h,nv,[]⟩ t H where
 wid:=hw
 tm k e he:=zfU hf _ (zi8 he)
 heap:=hH
 wf:=hW
 nv:=hn
 kn p hp:=by simp at hp
 sc p hp:=jBb.1 (jMa _ _▸hs).1 p hp
 sh:=(jMa _ _▸hs).2
 sk p hp:=by simp at hp
theorem Tri.sym (hT:TOk P T)(hC:call.Sound P T){sh:Nat→Option Shape}{stops ks:List Nat}{code:Code}{Q:Out→Prop}{σ:List U}{t:Tm}{H:zaa}{tm:List (Nat×E)}{h:SH}{nv:Nat}{tree:Tree}
 (he:zaQ T sh w stops code [] ⟨tm,h,nv,[]⟩ (K0 ks)=tree)(hs:(tm.all (fun p=>p.2.scop nv)&&h.scop nv)=true)(hw:t.wid=w)(hn:σ.length=nv)(hf:zcW σ t tm)(hH:H=h.den σ)(hW:h.WF σ)
 (hv:VC T call w (LQ P T code Q) R σ tree):Tri P T code t H Q:=by
 subst he;exact zbP hT hC code [] σ _ t H _ _ (zzy ks) (by cases code<;>rfl) (zdj ..) hv (Holds.init hw hf hH hW hn hs)
end
open Go
/-! Whole functions. -/
noncomputable def zwB (T:Tab)(tm:List (Nat×E))(h:SH):List ResultVar→Option (List E)
 | []=>some []
 | .tmp k::rs=>match zjS tm k,zwB T tm h rs with
  |some x,some l=>some (x::l)
  |_,_=>none
 | .cell a ty::rs=>match zjS tm a,zwB T tm h rs with
  |some p,some l=>(match zqO T ty h p with
   | .val x=>some (x::l)
   |_=>none)
  |_,_=>none
noncomputable def zzl (T:Tab)(fn:Func)(st:St):Tree:=match zwB T st.tm st.h fn.results.toList with
 |some [x]=>.fin x st.h
 |some l=>.fin (.f1 .tup (toE l)) st.h
 |none=>.stuck 20
noncomputable def KF (T:Tab)(fn:Func)(ks:List Nat):Kk where
 norm st:=zzl T fn st
 exit _ _:=.stuck 21
 ret st:=zzl T fn st
 pan st e:=.pnc e st.h
 stop p st:=.leaf (.stop p) (zje ks st) st.h
 again p st:=.leaf (.again p) (zje ks st) st.h
section
variable {P:Program}{T:Tab}{call:zad}{w:Nat}{L:LO→List U→Tm→zaa→Prop}{R:OR→Prop}{code0:Code}{fn:Func}{σ:List U}{st:St}{t:Tm}{H:zaa}
theorem zjt (hh:Holds w σ st t H):∀{l:List ResultVar}{es:List E},zwB T st.tm st.h l=some es→zbg T t.get H l=some (dv σ es)
 | [],es,e=>by cases e;rfl
 | .tmp k::rs,es,e=>by
  simp only[zwB]at e;split at e
  ·rename_i x l hx hl;cases e;simp only[zbg,zci,hh.tm _ _ hx,zjt hh hl,dv,jJb]
  ·cases e
 | .cell a ty::rs,es,e=>by
  simp only[zwB]at e;split at e
  ·rename_i p l hp hl;split at e
   ·rename_i x hx;cases e;have k:SRes.Ok T (fun _ _ _=>.no) σ (st.h.den σ) (zqO T ty st.h p) (lift (zah T ty (st.h.den σ) (p.den σ).val) (st.h.den σ)):=zm5 hh.wf ty p;rw[hx]at k;have k:lift (zah T ty (st.h.den σ) (p.den σ).val) (st.h.den σ)=.val (x.den σ).val (st.h.den σ):=k;have k2:zah T ty H (t.get a)=some (x.den σ).val:=by
     rw[hh.tm _ _ hp,hh.heap];cases hq:zah T ty (st.h.den σ) (p.den σ).val with
     |none=>rw[hq]at k;cases k
     |some v=>rw[hq]at k;simp only[lift,OR.val.injEq,jGb]at k;rw[k]
    simp only[zbg,zci,k2,zjt hh hl,dv,jJb]
   ·cases e
  ·cases e
theorem zpU (hh:Holds w σ st t H)(hv:VC T call w L R σ (zzl T fn st)):∃v,R (.val v H)∧zaZ T fn t.get H=.val v H:=by
 unfold zzl at hv;unfold zaZ;split at hv
 ·rename_i x hx;have:=zjt hh hx;refine⟨(x.den σ).val,by rw[hh.heap];exact hv,by rw[this];rfl⟩
 ·rename_i l hl hx;have:=zjt hh hx;have hv:R (.val (V.tup ((toE l).den σ).lst) (st.h.den σ)):=hv;rw[zbS,←hh.heap]at hv;refine⟨_,hv,?_⟩;rw[this];cases l with
  |nil=>rfl
  |cons a l=>
   cases l with
   |nil=>exact absurd rfl (hl a)
   |cons b l=>rfl
 ·exact hv.elim
abbrev LF (P:Program)(T:Tab)(code0:Code)(fn:Func)(R:OR→Prop):=LQ P T code0 (zaF T fn R)
theorem zua (ks:List Nat):KOk P T call w (LF P T code0 fn R) R code0 (zaF T fn R) (KF T fn ks) (zaF T fn R) where
 norm _ _ _ _ hh hv:=zpU hh hv
 exit _ _ _ _ j hh hv:=hv.elim
 ret _ _ _ _ hh hv:=zpU hh hv
 pan σ st _ H e hh hv:=by rw[hh.heap];exact hv
 stop _ _ _ _ p hh hv:=zdZ (L:=LF P T code0 fn R) (o:=.stop p) hh hv
 again _ _ _ _ p hh hv:=zdZ (L:=LF P T code0 fn R) (o:=.again p) hh hv
theorem zaA.sym (hT:TOk P T)(hC:call.Sound P T){sh:Nat→Option Shape}{stops ks:List Nat}{F:FuncId}{c:Code}{vs:List V}{tm:List (Nat×E)}{h:SH}{nv:Nat}{tree:Tree}
 (hf:T.func F=some fn)(hb:fn.body=some c)(hl:vs.length≤fn.ntmps)(he:zaQ T sh fn.ntmps stops c [] ⟨tm,h,nv,[]⟩ (KF T fn ks)=tree)(hs:(tm.all (fun p=>p.2.scop nv)&&h.scop nv)=true)(σ:List U)(hn:σ.length=nv)
 (hfa:zcW σ (Tm.init fn.ntmps vs) tm)(hH:H=h.den σ)(hW:h.WF σ)(hv:VC T call fn.ntmps (LF P T c fn R) R σ tree):zaA P T F vs H R:=by
 subst he;exact⟨fn,c,hf,hb,hl,zbP hT hC c [] σ _ _ H _ _ (zua ks) (by cases c<;>rfl) (zdj ..) hv (Holds.init rfl hfa hH hW hn hs)⟩
theorem zaF.sym (hT:TOk P T)(hC:call.Sound P T){sh:Nat→Option Shape}{stops ks:List Nat}{p:List Bool}{code:Code}{tm:List (Nat×E)}{h:SH}{nv:Nat}{tree:Tree}{o:Oc}
 (he:zhE T sh w stops p code [] o ⟨tm,h,nv,[]⟩ (KF T fn ks)=tree)(hs:(tm.all (fun p=>p.2.scop nv)&&h.scop nv)=true)(σ:List U)(hn:σ.length=nv)(hw:t.wid=w)(hf:zcW σ t tm)(hH:H=h.den σ)(hW:h.WF σ)
 (hv:VC T call w (LF P T code fn R) R σ tree):ctx P T p code (zaF T fn R) (o.out t H):=by
 subst he;exact zdi hT hC p code [] σ _ t H _ _ (zua ks) (by cases code<;>rfl) (zdj ..) hv (Holds.init hw hf hH hW hn hs)
theorem Tri.symIn (hT:TOk P T)(hC:call.Sound P T){sh:Nat→Option Shape}{stops ks:List Nat}{p:List Bool}{code:Code}{tm:List (Nat×E)}{h:SH}{nv:Nat}{tree:Tree}
 (he:goT T sh w stops p code [] ⟨tm,h,nv,[]⟩ (KF T fn ks)=tree)(hs:(tm.all (fun p=>p.2.scop nv)&&h.scop nv)=true)(σ:List U)(hn:σ.length=nv)(hw:t.wid=w)(hf:zcW σ t tm)(hH:H=h.den σ)(hW:h.WF σ)
 (hv:VC T call w (LF P T code fn R) R σ tree):Tri P T (sub p code) t H (ctx P T p code (zaF T fn R)):=by
 subst he;exact zg0 hT hC p code [] σ _ t H _ _ (zua ks) (by cases code<;>rfl) (zdj ..) hv (Holds.init hw hf hH hW hn hs)
theorem zaM.symIn (hT:TOk P T)(hC:call.Sound P T){sh:Nat→Option Shape}{stops ks:List Nat}{p:List Bool}{code c:Code}{tm:List (Nat×E)}{h:SH}{nv:Nat}{tree:Tree}(hl:sub p code=.loop c)
 (he:goT T sh w stops (p++[false]) code [] ⟨tm,h,nv,[]⟩ (KF T fn ks)=tree)(hs:(tm.all (fun p=>p.2.scop nv)&&h.scop nv)=true)(σ:List U)(hn:σ.length=nv)(hw:t.wid=w)(hf:zcW σ t tm)(hH:H=h.den σ)(hW:h.WF σ)
 (hv:VC T call w (LF P T code fn R) R σ tree):ctx P T (p++[false]) code (zaF T fn R) (.norm t H):=by
 have e1:sub (p++[false]) code=c:=by rw[zaB,hl];cases c<;>rfl
 have e2:ctx P T (p++[false]) code (zaF T fn R)=inLoop P T c (ctx P T p code (zaF T fn R)):=by rw[zax,hl];cases c<;>rfl
 have:=Tri.symIn hT hC he hs σ hn hw hf hH hW hv;rw[e1,e2]at this;rw[e2];exact zaM.round' this
theorem Tri.symLoop {p:List Bool}{code c:Code}(hl:sub p code=.loop c){Q:Out→Prop}(h:ctx P T (p++[false]) code Q (.norm t H)):Tri P T (sub p code) t H (ctx P T p code Q):=by
 have e2:ctx P T (p++[false]) code Q=inLoop P T c (ctx P T p code Q):=by rw[zax,hl];cases c<;>rfl
 rw[e2]at h;rw[hl];exact Tri.loop h
theorem zaA.pure {F:FuncId}{vs:List V}{S:Res→Prop}(h:zaA P T F vs [] fun r=>match r with | .val v _=>S (.val v) | .pan v _=>S (.pan v) | .no=>False):zaV P T F vs S:=by
 obtain⟨fn,c,h1,h2,h3,h4⟩:=h;refine⟨fn,c,h1,h2,h3,h4.mono fun o ho=>?_⟩;cases o with
 |norm t H=>obtain⟨v,k1,k2⟩:=ho;exact⟨_,k1,k2⟩
 |ret t H=>obtain⟨v,k1,k2⟩:=ho;exact⟨_,k1,k2⟩
 |pan v t H=>exact⟨_,ho,rfl⟩
 |exit j t H=>exact ho.elim
 |no=>exact ho.elim
def isR (r:Res):OR→Prop
 | .val v _=>r=.val v
 | .pan v _=>r=.pan v
 | .no=>False
theorem zbC (hT:TOk P T)(hp:T.Plain)(F:FuncId){α:Type}(enc:α→List V)(D:α→Prop)(r:α→Res)(hnl:∀a,D a→nlL (enc a)=true∧(r a).nl=true)(inj:∀a b,D a→D b→enc a=enc b→r a=r b)
 (h:∀a,D a→zaA P T F (enc a) [] (isR (r a))):∃g,zak P T F g∧∀a,D a→∀H,g (enc a) H=(r a).at H:=by
 obtain⟨g,k,s⟩:=zcM hT hp F (fun vs=>∃a,D a∧vs=enc a) (fun vs x=>∃a,D a∧vs=enc a∧x=r a) (by
  rintro vs ⟨a,ha,rfl⟩;refine⟨(hnl a ha).1,?_,?_⟩
  ·rintro x ⟨b,hb,he,rfl⟩;exact(hnl b hb).2
  ·refine zaA.pure ?_;obtain⟨fn,c,h1,h2,h3,h4⟩:=h a ha;refine⟨fn,c,h1,h2,h3,h4.mono fun o ho=>?_⟩;cases o with
   |norm t H=>obtain⟨v,k1,k2⟩:=ho;exact⟨v,⟨a,ha,rfl,k1.symm⟩,k2⟩
   |ret t H=>obtain⟨v,k1,k2⟩:=ho;exact⟨v,⟨a,ha,rfl,k1.symm⟩,k2⟩
   |pan v t H=>exact⟨a,ha,rfl,Eq.symm ho⟩
   |exit j t H=>exact ho.elim
   |no=>exact ho.elim)
 refine⟨g,k,fun a ha H=>?_⟩;obtain⟨x,⟨b,hb,he,rfl⟩,h2⟩:=s (enc a) ⟨a,ha,rfl⟩;rw[h2 H,inj a b ha hb he]
theorem zc2 (hT:TOk P T)(F:FuncId){α:Type}(enc:α→List V)(D:α→zaa→Prop)(S:α→zaa→OR→Prop)(inj:∀a b H r,D a H→D b H→enc a=enc b→S a H r→S b H r)
 (h:∀a H,D a H→zaA P T F (enc a) H (S a H)):∃g,zak P T F g∧∀a H,D a H→S a H (g (enc a) H):=by
 obtain⟨g,k,s⟩:=zbX.spec (F:=F) hT (D:=fun vs H=>∃a,D a H∧vs=enc a) (R:=fun vs H r=>∃a,D a H∧vs=enc a∧S a H r) (by
  rintro vs H ⟨a,ha,rfl⟩;exact(zaA.fact hT (h a H ha)).mono fun r hr=>⟨a,ha,rfl,hr⟩)
 refine⟨g,k,fun a H ha=>?_⟩;obtain⟨r,⟨b,hb,he,hr⟩,h2⟩:=s (enc a) H ⟨a,ha,rfl⟩;rw[h2];exact inj b a H r hb ha he.symm hr
end
theorem zaC (σ:List U)(n:Nat):(⟨.va n,[],[]⟩:SH).WF σ:=⟨by simp,by simp⟩
theorem zaa.set_self {H:zaa}{n:Nat}{b:Option Blk}(h:H[n]? = some b):H=H.set n b:=by
 obtain⟨h1,h2⟩:=jGa.1 h;rw[←h2,List.set_getElem_self]
theorem zaa.get_self {H:zaa}{n:Nat}{b c:Option Blk}(h:H[n]? = some c):(H.set n b)[n]? = some b:=jFb (jGa.1 h).1
theorem zaa.lt {H:zaa}{n:Nat}{c:Option Blk}(h:H[n]? = some c):n<H.length:=(jGa.1 h).1
theorem uu:(∀n,U.int (.ui n)=n)∧(∀x,U.boo (.ub x)=x)∧(∀v,U.val (.uv v)=v)∧(∀l,U.lst (.ul l)=l)∧(∀l,U.str (.us l)=l)∧(∀n,U.nat (.un n)=n)∧(∀h,U.heap (.uh h)=h)∧(∀a b:Int,(ltB a b=true)=(a<b))∧(∀a b:Int,(ltB a b=false)=¬a<b)∧(∀a b:Int,(leB a b=true)=(a≤b))∧(∀a b:Int,(leB a b=false)=¬a≤b)∧(∀n:Nat,(n:Int).toNat=n):=⟨U.int_ui,U.boo_ub,U.val_uv,U.lst_ul,U.str_us,U.nat_un,U.heap_uh,by simp,by simp,by simp,by simp,fun n=>rfl⟩
theorem uW {α:Type}:(∀(a:α) l m,(a::l)++m=a::(l++m))∧(∀l:List α,[]++l=l)∧(∀(a:α) l,(a::l)[0]? = some a)∧(∀(a:α) l (i:Nat),(a::l)[i+1]? = l[i]?)∧(∀a b:α,(some a).getD b=a)∧(∀(p:α→Prop)(b:α),(∀a,a=b→p a)=p b):=⟨fun _ _ _=>rfl,fun _=>rfl,fun _ _=>rfl,fun _ _ _=>rfl,fun _ _=>rfl,fun _ _=>propext ⟨fun h=>h _ rfl,fun h a e=>e▸h⟩⟩
open Go.RowKit (Below)
section
variable {P:Program}{T:Tab}{M:Mem}{ρ:Ren}{H:zaa}{w w':World}
theorem zpP (hb:Below w.heap.size w w'):Ext M ρ w M ρ w' where
 os:=hb.os
 tape:=hb.tape
 output:=hb.output
 size:=hb.size
 mem:=Mem.le.refl _
 pre:=jHb _
 frame k h _:=hb.block k h
 newM _ _ _:=rfl
 newR _ c h:=.inl ⟨c,h⟩
theorem zpV (hS:SR T M ρ H w){b:Nat}{o:Obj}(h:M b=some o):b<w.heap.size:=by
 have:=hS.frozen b o h;by_cases hlt:b<w.heap.size
 ·exact hlt
 ·rw[Array.getElem?_eq_none (by omega)]at this;cases this
theorem ztl (hS:SR T M ρ H w) (hb:Below w.heap.size w w'):SR T M ρ H w' where
  frozen b o h:=by rw[hb.block b (zpV hS h)];exact hS.frozen b o h
  len:=hS.len
  blk n b hn:=by
    obtain⟨c,q,hr,hM,hlt,hok⟩:=hS.blk n b hn
    refine⟨c,q,hr,hM,Nat.lt_of_lt_of_le hlt hb.size,?_⟩
    rw[hb.block c hlt]
    exact hok
  inj:=hS.inj
  glob:=hS.glob
  gint:=hS.gint
theorem zbk {f:FuncId}{args:Array Value}{x:Value}{v:V}(hS:SR T M ρ H w)(h:Calls P f args w fun e w'=>e=.returned x∧Below w.heap.size w w')(hx:rel M ρ v x):zaR P T f args M ρ w (.val v H):=by
 refine jTd h ?_;rintro e w' ⟨rfl,hb⟩;exact⟨x,M,ρ,rfl,zpP hb,hx,ztl hS hb⟩
end
end Go.Ev
namespace Go.Ev
open Go Go.RowKit
set_option linter.unusedVariables false
section
variable {P:Program}{T:Tab}{M M':Mem}{ρ ρ':Ren}{w w':World}{H H':zaa}{t t':Tm}{c x y:Code}{F:FuncId}{id:Nat}{m:Option V}
def zno (P:Program)(T:Tab)(c:Code)(t:Tm)(H:zaa)(m:Option V)(Q:Out→Prop):Prop:=
 ∃o,Q o∧∀(a:Act)(w:World)(M:Mem)(ρ:Ren)(R:Exit→Act→List Frame→World→Prop)(c₀:Frame)(cs:List Frame)(y:Value),SR T M ρ H w→zaS M ρ t a.tmps→(∀u,m=some u→rel M ρ u y)→c₀.mode=zid m y →
  zen T M ρ w (fun e a w=>R e a ({c₀ with mode:=zdb m y}::cs) w) a.defers o→c.wpS P R a (c₀::cs) w
variable {Q Q':Out→Prop}
theorem zno.seq (h:zno P T x t H m fun o=>match o with | .norm t' H'=>Tri P T y t' H' Q|o=>Q o):zno P T (.seq x y) t H m Q:=by
 obtain⟨o,ho,hx⟩:=h;cases o with
 |norm t' H'=>
  obtain⟨o2,h2,hy⟩:=ho;refine⟨o2,h2,fun a w M ρ R c₀ cs v hS ht hv hm k=>wpS_seq (hx a w M ρ _ c₀ cs v hS ht hv hm ?_)⟩;intro a' w' M' ρ' he ht' hS' hd;refine wpS_of_wp (hy a' w' M' ρ' _ hS' ht' ?_);rw[hd];exact k.later he
 |exit id t' H'=>exact⟨_,ho,fun a w M ρ R c₀ cs v hS ht hv hm k=>wpS_seq (hx a w M ρ _ c₀ cs v hS ht hv hm k)⟩
 |ret t' H'=>exact⟨_,ho,fun a w M ρ R c₀ cs v hS ht hv hm k=>wpS_seq (hx a w M ρ _ c₀ cs v hS ht hv hm k)⟩
 |pan u t' H'=>exact⟨_,ho,fun a w M ρ R c₀ cs v hS ht hv hm k=>wpS_seq (hx a w M ρ _ c₀ cs v hS ht hv hm k)⟩
 |no=>exact⟨.no,ho,fun a w M ρ R c₀ cs v hS ht hv hm k=>k.elim⟩
theorem ze4 (hT:TOk P T) {call:zad} (hcall:call.Sound P T) (ops:Array Oper) {Q:Exit→Act→List Frame→World→Prop} {cs:List Frame} (rest:List Nat):∀(l:List Nat) (os:List Oper) (t:Tm) (H:zaa) (a:Act) (w:World) (M:Mem) (ρ:Ren) (t':Tm) (H':zaa),SR T M ρ H w→zaS M ρ t a.tmps →
    (l.map fun i=>ops[i]?)=os.map some→zaK (zb7 T call) ops os t H=.norm t' H' →
    (∀a' w' M' ρ',Ext M ρ w M' ρ' w'→zaS M' ρ' t' a'.tmps→SR T M' ρ' H' w'→a'.defers=a.defers→wpOpsS P ops Q rest a' cs w')→wpOpsS P ops Q (l++rest) a cs w
  | [],os,t,H,a,w,M,ρ,t',H',hS,ht,hl,h,k=>by
    cases os with
    |cons o os=>simp at hl
    | nil=>
      simp only[zaK]at h
      cases h
      exact k a w M ρ (Ext.refl _ _ _) ht hS rfl
  | i :: l, os,t,H,a,w,M,ρ,t',H',hS,ht,hl,h,k=>by
    cases os with
    |nil=>simp at hl
    | cons o os=>
      simp only[jJb,jPa]at hl
      obtain⟨hi,hl⟩:=hl
      simp only[zaK,zbJ,zbp]at h
      rw[jEa]
      unfold wpOpsS
      rw[hi]
      simp only
      split at h
      · rename_i hw
        rw[za8 ht.2 hw]
        simp only[if_true]
        split at h
        · rename_i v H2 hv
          split at h
          · rename_i hfit
            have key:o.wp P a w (fun a' w'=>wpOpsS P ops Q (l++rest) a' cs w') (fun e a' w'=>Q e a' cs w'):=by
              refine zcE hT hcall hS ht.2 (r:=.val v H2) hv ?_
              intro x M' ρ' w' he hx hS'
              refine ze4 hT hcall ops rest l os _ H2 _ w' M' ρ' t' H' hS' (zbu (za0 he.mem he.pre ht) hx o.dst hfit) hl h ?_
              intro a' w2 M2 ρ2 he2 ht2 hS2 hd
              rw[zau]at hd
              exact k a' w2 M2 ρ2 (he.trans he2) ht2 hS2 hd
            unfold Oper.wp at key
            split
            · rename_i w1 e1
              rw[e1]at key
              simp[Oper.upon]at key
            · exact key
          · cases h
        · cases h
        · cases h
      · rename_i hw
        rw[za8 ht.2 hw]
        simp only[jSa,if_false]
        split at h
        · rename_i hfit
          refine ze4 hT hcall ops rest l os _ H _ w M ρ t' H' hS (zbu ht za6 o.dst hfit) hl h ?_
          intro a' w2 M2 ρ2 he2 ht2 hS2 hd
          rw[zau]at hd
          exact k a' w2 M2 ρ2 he2 ht2 hS2 hd
        · cases h
      · cases h
def zg4 (o:Oper):Bool:=match o.op with
 | .call ⟨.builtin .recover,args,_⟩=>args.size==0
 |_=>false
theorem zjd {o:Oper}{a:Act}{w:World}(h:zg4 o=true):(execOp a.eval o).run P w=.ok .recover w:=by
 unfold zg4 at h;split at h
 ·rename_i args ts ho;have:args=#[]:=Array.eq_empty_of_size_eq_zero (by simpa using h);subst this;simp[execOp,ho,resolve,invoke,builtin]
 ·cases h
def zzo (m:Option V):V:=match m with
 |none=>.nili
 |some u=>u
theorem zlT {n q:Nat}(h:q<n):List.range n=List.range q++q::List.range' (q+1) (n-(q+1)):=by
 have e:=List.range'_append_1 (s:=0) (m:=q) (n:=n-q);rw[show q+(n-q)=n from by omega,show n-q=(n-(q+1))+1 from by omega,List.range'_succ,jKb]at e;rw[List.range_eq_range',List.range_eq_range'];exact e.symm
theorem zno.reg (hT:TOk P T){call:zad}(hC:call.Sound P T){ops:Array Oper}(q:Nat){o:Oper}{t1 t2:Tm}{H1 H2:zaa}
 (hops:ops.toList=ops.toList.take q++o::ops.toList.drop (q+1))(hg:o.guard=none)(ho:zg4 o=true)
 (h1:zaK (zb7 T call) ops (ops.toList.take q) t H=.norm t1 H1)(hfit:t1.fits o.dst=true)
 (h2:zaK (zb7 T call) ops (ops.toList.drop (q+1)) (t1.put o.dst (zzo m)) H1=.norm t2 H2)(h:Q (.norm t2 H2)):zno P T (.region id ops false) t H m Q:=by
 have hq:q<ops.size:=by
  have:=congrArg List.length hops;simp only[jLa,jIa,jSb,jJa,Array.length_toList]at this;omega
 have hoq:ops[q]? = some o:=by
  rw[←Array.getElem?_toList,hops,jPb (by simp;omega)];simp[Nat.min_eq_left (Nat.le_of_lt hq)]
 refine⟨_,h,fun a w M ρ R c₀ cs y hS ht hy hm k=>wpS_region ?_⟩;rw[zlT hq];refine ze4 hT hC ops _ (List.range q) (ops.toList.take q) t H a w M ρ t1 H1 hS ht ?_ h1 ?_
 ·apply List.ext_getElem?;intro i;by_cases hi:i<q
  ·have:i<ops.size:=by omega
   simp[hi,this]
  ·simp[hi,List.getElem?_take]
 ·intro a' w' M' ρ' he ht' hS' hd;unfold wpOpsS;rw[hoq];have hw:Region.wanted o (yielded ops a'.tmps)=true:=by simp[Region.wanted,hg]
  simp only[hw,if_true,zjd ho];have fin:∀(z:Value),rel M' ρ' (zzo m) z→wpOpsS P ops R (List.range' (q+1) (ops.size-(q+1))) (a'.put o.dst z) ({c₀ with mode:=zdb m y}::cs) w':=by
   intro z hz;have e2:=ze4 (Q:=R) (cs:={c₀ with mode:=zdb m y}::cs) hT hC ops [] (List.range' (q+1) (ops.size-(q+1))) (ops.toList.drop (q+1)) (t1.put o.dst (zzo m)) H1 (a'.put o.dst z) w' M' ρ' t2 H2 hS' (zbu ht' hz o.dst hfit) ?_ h2 ?_
   ·rwa [jWb]at e2
   ·apply List.ext_getElem?;intro i;simp only[jUb,jOc,Array.getElem?_toList];by_cases hi:i<ops.size-(q+1)
    ·have:q+1+i<ops.size:=by omega
     simp[hi,this]
    ·have:¬q+1+i<ops.size:=by omega
     simp[hi,this]
   ·intro a2 w2 M2 ρ2 he2 ht2 hS2 hd2;rw[zau]at hd2;exact k a2 w2 M2 ρ2 (he.trans he2) ht2 hS2 (hd2.trans hd)
  cases m with
  |none=>
   have:recoverD (c₀::cs)=none:=by simp[recoverD,hm,zid]
   rw[this];have:=fin .nilIface (by simp only[zzo,rel]);have e:({c₀ with mode:=zdb none y}:Frame)=c₀:=by
    show({c₀ with mode:=FrameMode.returning}:Frame)=c₀;rw[←show c₀.mode=FrameMode.returning from hm]
   rwa [e]at this
  |some u=>
   have:recoverD (c₀::cs)=some (y,{c₀ with mode:=zdb (some u) y}::cs):=by simp[recoverD,hm,zid,zdb]
   rw[this];exact fin y (zbx he.mem he.pre _ _ (hy u rfl))
theorem zgF (hT:TOk P T){f:FuncId}{vs:List V}{H2:zaa}{fn:Func}(hfn:T.func f=some fn)(hc:fn.body=some c)(hle:vs.length≤fn.ntmps)
 (h:zno P T c (Tm.init fn.ntmps vs) H m fun o=>∃tI v,(o=.norm tI H2∨o=.ret tI H2)∧zaZ T fn tI.get H2=.val v H2):zeT P T f vs m H H2:=by
 obtain⟨hf,hent⟩:=hT.func f fn c hfn hc;obtain⟨o,⟨tI,v,ho,hfin⟩,hx⟩:=h;refine⟨hent,fun M ρ w xs y hS hr hy=>callsD_of_wpS hf hc fun c₀ cs hu=>?_⟩;refine hx _ w M ρ _ c₀ cs y hS (zbr hr hle) hy hu ?_;have key:∀(a':Act)(w':World)(M':Mem)(ρ':Ren),Ext M ρ w M' ρ' w'→zaS M' ρ' tI a'.tmps→SR T M' ρ' H2 w'→a'.defers=[]→a'.defers=[]∧∃u',({c₀ with mode:=zdb m y}::cs)={c₀ with mode:=u'}::cs∧∃z,(results fn a'.tmps).run P w'=.ok z w'∧∃x M' ρ',(Ending.returned z)=.returned x∧u'=zdb m y∧Ext M ρ w M' ρ' w'∧SR T M' ρ' H2 w':=by
  intro a' w' M' ρ' he ht' hS' hd;obtain⟨_,z,hz,_⟩:=za3 hT hS' ht'.2 hfin;exact⟨hd,_,rfl,z,hz,z,M',ρ',rfl,rfl,he,hS'⟩
 rcases ho with rfl|rfl
 ·exact fun a' w' M' ρ' he ht' hS' hd=>key a' w' M' ρ' he ht' hS' hd
 ·exact fun a' w' M' ρ' he ht' hS' hd=>key a' w' M' ρ' he ht' hS' hd
end
end Go.Ev
namespace Go.Ev
open Go Go.RowKit
section
variable {P:Program}{T:Tab}{H:zaa}{t:Tm}{c:Code}{Q:Out→Prop}
theorem zno.plain (h:Tri P T c t H Q):zno P T c t H none Q:=by
 obtain⟨o,h1,hx⟩:=h;refine⟨o,h1,fun a w M ρ R c₀ cs y hS ht hy hm k=>wpS_of_wp (hx a w M ρ _ hS ht ?_)⟩;have e:({c₀ with mode:=zdb none y}:Frame)=c₀:=by
  show({c₀ with mode:=FrameMode.returning}:Frame)=c₀;rw[←show c₀.mode=FrameMode.returning from hm]
 rw[e]at k;exact k
theorem zfL (hT:TOk P T){f:FuncId}{vs:List V}{H2:zaa}(h:zaA P T f vs H fun r=>∃v,r=.val v H2):zeT P T f vs none H H2:=by
 obtain⟨fn,c,hfn,hc,hle,ht⟩:=h;refine zgF hT hfn hc hle (zno.plain (ht.mono fun o ho=>?_));cases o with
 |norm t' H'=>obtain⟨v,⟨v',h1⟩,h2⟩:=ho;cases h1;exact⟨t',v,.inl rfl,h2⟩
 |ret t' H'=>obtain⟨v,⟨v',h1⟩,h2⟩:=ho;cases h1;exact⟨t',v,.inr rfl,h2⟩
 |pan v t' H'=>obtain⟨v',h1⟩:=ho;cases h1
 |exit id t' H'=>exact ho.elim
 |no=>exact ho.elim
end
end Go.Ev
namespace Go.Ev
open Go Go.Proofs
set_option linter.unusedSimpArgs false
set_option linter.unusedVariables false
set_option linter.unnecessarySimpa false
open Go Go.RowKit
section
variable {P:Program}{T:Tab}{F:FuncId}
def zmi (P:Program)(T:Tab)(F:FuncId)(vs:List V)(H:zaa)(R:OR→Prop):Prop:=
 ∃fn c,T.func F=some fn∧fn.body=some c∧vs.length≤fn.ntmps∧zba P T none [] c (Tm.init fn.ntmps vs) H fun o _=>zaF T fn R o
theorem zmi.fact (hT:TOk P T){vs:List V}{H:zaa}{R:OR→Prop}(h:zmi P T F vs H R):zbX P T F vs H R:=by
 obtain⟨fn,c,hfn,hc,hle,o,hs',ho,hx⟩:=h;obtain⟨hf,hent⟩:=hT.func F fn c hfn hc;have key:∀(v:V)(H':zaa),(∃tI,(o=.norm tI H'∨o=.ret tI H')∧zaZ T fn tI.get H'=.val v H')→R (.val v H')→zbX P T F vs H R:=fun v H' hfin hR=>by
  refine⟨_,hR,by simp,hent,fun M ρ w args hS hr=>?_⟩;have s:StX T M ρ w M ρ [] (Tm.init 0 []) H ([]++[]) {tmps:=#[],defers:=[]} w:=⟨Ext.refl _ _ _,hS,zcC,by simp,rfl,by simp,by simp⟩;refine jTd (callsIn_wide.1 (zey hT hf hc hle hx hfin hr s)) ?_;rintro e w' ⟨x,M',ρ',rfl,_,_,hv,s'⟩;exact⟨x,M',ρ',rfl,s'.ext,hv,s'.sr⟩
 cases o with
 |norm t H'=>obtain⟨v,h1,h2⟩:=ho;exact key v H' ⟨t,.inl rfl,h2⟩ h1
 |ret t H'=>obtain⟨v,h1,h2⟩:=ho;exact key v H' ⟨t,.inr rfl,h2⟩ h1
 |pan v t H'=>
  refine⟨.pan v H',ho,by simp,hent,fun M ρ w args hS hr=>?_⟩;have s:StX T M ρ w M ρ [] (Tm.init 0 []) H ([]++[]) {tmps:=#[],defers:=[]} w:=⟨Ext.refl _ _ _,hS,zcC,by simp,rfl,by simp,by simp⟩;refine jTd (callsIn_wide.1 (zex hf hc hle hx hr s)) ?_;rintro e w' ⟨x,M',ρ',rfl,_,_,hv,s'⟩;exact⟨x,M',ρ',rfl,s'.ext,hv,s'.sr⟩
 |exit id t H'=>exact ho.elim
 |no=>exact ho.elim
end
open Go Go.RowKit
section
variable {P:Program}{T:Tab}{M M':Mem}{ρ ρ':Ren}{w w':World}{H H':zaa}{t:Tm}{a:Act}
def zkE (M:Mem)(ρ:Ren)(l:List (V×V))(es:List MapEntry):Prop:=
 l.length=es.length∧∀(i:Nat)(p:V×V)(e:MapEntry),l[i]? = some p→es[i]? = some e→rel M ρ p.1 e.key∧rel M ρ p.2 e.val
theorem zkE.mono {l:List (V×V)}{es:List MapEntry}(hM:M.le M')(hρ:ρ <+: ρ')(h:zkE M ρ l es):zkE M' ρ' l es:=
 ⟨h.1,fun i p e h1 h2=>⟨zbx hM hρ _ _ (h.2 i p e h1 h2).1,zbx hM hρ _ _ (h.2 i p e h1 h2).2⟩⟩
theorem zkE.erase {l:List (V×V)}{es:List MapEntry}(h:zkE M ρ l es)(j:Nat):zkE M ρ (l.eraseIdx j) (es.eraseIdx j):=by
 refine⟨by rw[List.length_eraseIdx,List.length_eraseIdx,h.1],fun i p e h1 h2=>?_⟩;rw[List.getElem?_eraseIdx]at h1 h2;by_cases hi:i<j
 ·rw[if_pos hi]at h1 h2;exact h.2 i p e h1 h2
 ·rw[if_neg hi]at h1 h2;exact h.2 _ p e h1 h2
theorem zmW:∀{l:List (V×V)}{es:List MapEntry},zeS M ρ (l.flatMap fun p=>[p.1,p.2]) es→zkE M ρ l es
 | [],es,h=>by
  have h:es=[]:=by simpa[zeS]using h
  subst h;exact⟨rfl,fun i p e h1=>by simp at h1⟩
 |p::l,es,h=>by
  simp only[List.flatMap_cons,jEa,jFa,zeS]at h;obtain⟨e,r,rfl,h1,h2,h3⟩:=h;have ih:=zmW h3;refine⟨by simp[ih.1],fun i q e' k1 k2=>?_⟩;cases i with
  |zero=>simp at k1 k2;subst k1 k2;exact⟨h1,h2⟩
  |succ i=>simp at k1 k2;exact ih.2 i q e' k1 k2
theorem zfX:∀(L:List MapEntry)(j:Nat)(e:MapEntry),(L.map (·.born)).Nodup→L[j]? = some e→L.filter (fun x=>!(x.born==e.born))=L.eraseIdx j
 | [],j,e,_,h=>by simp at h
 |x::L,0,e,hn,h=>by
  simp at h;subst h;have hx:x.born∉L.map (·.born):=(List.nodup_cons.1 hn).1;simp only[jDc,beq_self_eq_true,Bool.not_true,jSa,if_false,List.eraseIdx_zero,List.tail_cons];rw[List.filter_eq_self];intro y hy;have:y.born≠x.born:=fun q=>hx (q▸jHd hy);simpa using this
 |x::L,j+1,e,hn,h=>by
  simp at h;have hn':=List.nodup_cons.1 hn;have hx:x.born≠e.born:=fun q=>by
   have:=jHd (f:=fun x:MapEntry=>x.born) (jIb h);rw[←q]at this;exact hn'.1 this
  have:(!(x.born==e.born))=true:=by simpa using hx
  simp only[jDc,this,if_true,List.eraseIdx_cons_succ];rw[zfX L j e hn'.2 h]
theorem zg8 (es:Array MapEntry)(seen:Array Nat):(leftOf es seen).toList=es.toList.filter fun e=>!seen.contains e.born:=by
 unfold leftOf;exact Array.toList_filter ..
theorem zqc {es:Array MapEntry}{seen:Array Nat}{j:Nat}{e:MapEntry}(hn:(es.toList.map (·.born)).Nodup)(h:(leftOf es seen).toList[j]? = some e):(leftOf es (seen.push e.born)).toList=(leftOf es seen).toList.eraseIdx j:=by
 have hn2:((leftOf es seen).toList.map (·.born)).Nodup:=by
  rw[zg8];exact hn.sublist ((List.filter_sublist ..).map _)
 rw[←zfX _ _ _ hn2 h,zg8,zg8,List.filter_filter];congr 1;funext x;rw[contains_push];cases hx:seen.contains x.born<;>cases hy:x.born==e.born<;>rfl
theorem zlY {l b clock:Nat}{seen:Array Nat}{es:Array MapEntry}(ty:TypeId)(hl:w.heap[l]? = some (.mapIter (some b) clock seen clock))(hb:w.heap[b]? = some (.map es clock))(hold:∀x∈es.toList,x.born<clock) :
 ((leftOf es seen).toList=[]∧(Instr.next (.pointer (some ⟨l,0,none⟩)) false ty).run P w=.ok (.tuple #[.bool false]) w) ∨
 ∃(j:Nat)(e:MapEntry),(leftOf es seen).toList[j]? = some e∧∃w1:World,(w1=w∨w1={w with drawn:=w.drawn+1})∧(Instr.next (.pointer (some ⟨l,0,none⟩)) false ty).run P w=.ok (.tuple #[.bool true,e.key,e.val]) (w1.putObj l (.mapIter (some b) clock (seen.push e.born) clock)):=by
 simp only[Instr.next,getObj,jHc,Sem.run,hl,hb,Result.andThen,next_test_false seen es clock clock hold (jDb _),jSa,if_false];unfold leftOf;have hmem:∀x∈(Array.filter (fun e=>!seen.contains e.born) es).toList,x.born<clock:=fun x hx=>hold x (by simp at hx ⊢;exact hx.1);generalize Array.filter (fun e=>!seen.contains e.born) es=L at hmem ⊢;have e1:L.filter (fun x=>decide (x.born<clock))=L:=Array.filter_eq_self.2 (fun x hx=>by simpa using hmem x (by simpa using hx));have e2:L.filter (fun x=>decide (x.born≥clock))=#[]:=by
  rw[Array.filter_eq_empty_iff];intro x hx;have:=hmem x (by simpa using hx);simp;omega
 simp only[e1,e2,Array.append_empty];by_cases h0:L.size=0
 ·left;have:L=#[]:=Array.eq_empty_of_size_eq_zero h0;subst this;refine⟨rfl,?_⟩;simp[choose,Sem.run,Question.forced]
 ·right;have hne:L.isEmpty=false:=by simp[Array.isEmpty,h0]
  simp only[hne,jSa,if_false,Array.empty_append,Array.size_map];have hch:∃(j:Nat)(w1:World),j<L.size∧(w1=w∨w1={w with drawn:=w.drawn+1})∧(choose (Question.mapNext L.size)).run P w=.ok j w1:=by
   by_cases hf:L.size≤1
   ·exact⟨0,w,by omega,.inl rfl,by simp[choose,Sem.run,Question.forced,hf]⟩
   ·exact ⟨_,_,Nat.mod_lt _ (by omega),.inr rfl,by
     simp only[choose,Sem.run,Question.forced,jTa,hf,if_false,Question.cut];rfl⟩
  obtain⟨j,w1,hj,hw1,hrun⟩:=hch;have hl1:w1.heap[l]? = some (.mapIter (some b) clock seen clock):=by rcases hw1 with rfl|rfl<;>exact hl
  refine⟨j,L[j],by simp[hj],w1,hw1,?_⟩;simp only[hrun,Array.getElem?_map,Array.getElem?_eq_getElem hj,jXa,jHc,Result.andThen,setObj,Sem.run,hl1];rfl
theorem zkK {l b clock:Nat}{seen:Array Nat}{es:Array MapEntry}{e:MapEntry}(hl:w.heap[l]? = some (.mapIter (some b) clock (seen.push e.born) clock))(hb:w.heap[b]? = some (.map es clock))(he:e∈es.toList)(hn:(es.toList.map (·.born)).Nodup) :
 (Instr.entry (.pointer (some ⟨l,0,none⟩))).run P w=.ok (.tuple #[e.key,e.val]) w:=by
 have hf:es.find? (·.born==e.born)=some e:=by rw[←Array.find?_toList];exact find_born e es.toList hn he
 simp only[Instr.entry,getObj,jHc,Sem.run,hl,hb,Result.andThen,Array.back?_push,bne_self_eq_false,jSa,if_false,hf];rfl
structure ItrOK (M:Mem) (ρ:Ren) (w:World) (l:Nat) (left:List (V×V)):Prop where
  ex:∃(b clock:Nat)(es:Array MapEntry)(seen:Array Nat),Hid l (.mapIter (some b) clock seen clock) M ρ w∧M b=some (.map es clock)∧zdh es.toList clock∧zkE M ρ left (leftOf es seen).toList
theorem ItrOK.ext {l:Nat}{left:List (V×V)}(h:ItrOK M ρ w l left)(he:Ext M ρ w M' ρ' w'):ItrOK M' ρ' w' l left:=by
 obtain⟨b,clock,es,seen,h1,h2,h3,h4⟩:=h;exact⟨b,clock,es,seen,h1.ext he,he.mem _ _ h2,h3,h4.mono he.mem he.pre⟩
def zz1 (it:Nat)(v:V)(J:Tm→zaa→Prop)(Q:Out→Prop):Out→Prop
 | .norm t H=>t.get it=v∧J t H
 |o=>Q o
theorem zlV {l:List V}(cs:List Value)(h:relL M ρ l cs):rel M ρ (.tup l) (.tuple cs.toArray):=by
 simp only[rel];exact⟨cs,rfl,h⟩
theorem zgq {o:Oper}{K:Act→World→Prop}{Q:Exit→Act→World→Prop}{s:Sem Value}{x:Value}(hexec:execOp a.eval o=(do Pure.pure (.value (←s))))(hr:s.run P w=.ok x w')(h:K (a.put o.dst x) w'):o.wp P a w K Q:=by
 unfold Oper.wp;rw[hexec];simp only[jHc,hr,jXb,jGd,Oper.upon];exact h
theorem zvd (hT:TOk P T) {call:zad} (hC:call.Sound P T) {b c d f it te:Nat} {opsC opsF:Array Oper} {oN oY:Oper} {rC rF:List Oper} {X:Code} {I:List (V×V)→Tm→zaa→Prop} {Q:Out→Prop}
    (hc:opsC.toList=oN::rC)(hN:oN.op=.next (.tmp it) false)(gN:oN.guard=none)(hf:opsF.toList=oY::rF)(hY:oY.op=.entry (.tmp it))(gY:oY.guard=none)
    (hround:∀(left:List (V×V)) (t:Tm) (H:zaa) (j:Nat) (k v:V),I left t H→left[j]? = some (k,v)→∃t1 H1 t2 H2,t.fits oN.dst=true∧zaK (zb7 T call) opsC rC (t.put oN.dst (.tup [.b true,k,v])) H=.norm t1 H1∧t1.get te=.b true∧t1.get it=t.get it∧t1.fits oY.dst=true ∧
      zaK (zb7 T call) opsF rF (t1.put oY.dst (.tup [k,v])) H1=.norm t2 H2∧t2.get it=t.get it∧ziF P T X t2 H2 (zg2 d (zz1 it (t.get it) (I (left.eraseIdx j)) Q)))
    (hend:∀(t:Tm)(H:zaa),I [] t H→∃t1 H1,t.fits oN.dst=true∧zaK (zb7 T call) opsC rC (t.put oN.dst (.tup [.b false])) H=.norm t1 H1∧t1.get te=.b false∧Q (.exit b t1 H1)) :
    ∀ (n:Nat) (left:List (V×V)) (t:Tm) (H:zaa),left.length<n→I left t H→∀(M0:Mem) (ρ0:Ren) (w0:World) (a:Act) (w:World) (M:Mem) (ρ:Ren) (R:Exit→Act→World→Prop) (l:Nat),Ext M0 ρ0 w0 M ρ w→w0.heap.size≤l→SR T M ρ H w→zaS M ρ t a.tmps→t.get it=.itr l→ItrOK M ρ w l left →
      (∀o,Q o→zen T M0 ρ0 w0 R a.defers o)→Code.rounds P (.seq (.region c opsC false) (.seq (.cond (.tmp te) .skip (.exit b)) (.block d (.seq (.region f opsF false) X)))) R n a w:=by
  intro n
  induction n with
  |zero=>intro left t H h;omega
  | succ n ih=>
    intro left t H hn hI M0 ρ0 w0 a w M ρ R l he hl0 hS ht hit hitr hQ
    rw[rounds_succ]
    obtain⟨bm,clock,es,seen,hid,hfrz,hst,hkv⟩:=hitr
    have hbm:=hS.frozen _ _ hfrz
    have hv:a.eval (.tmp it)=.pointer (some ⟨l,0,none⟩):=by
      have:=ht.2 it
      rw[hit]at this
      simp only[rel]at this
      exact this
    have hexN:execOp a.eval oN=(do Pure.pure (.value (←Instr.next (.pointer (some ⟨l,0,none⟩)) false oN.type))):=by simp[execOp,hN,hv]
    refine wp_seq (wp_region_list ?_)
    rw[hc]
    refine wpList_step fun K hK=>?_
    rw[show Region.wanted oN (yielded opsC a.tmps)=true from by simp[Region.wanted,gN]]
    simp only[if_true]
    rcases zlY (P:=P) oN.type hid.at_ hbm hst.1 with⟨hnil,hrun⟩|⟨j,e,hej,w1,hw1,hrun⟩
    · have hleft:left=[]:=by
        have:=hkv.1
        rw[hnil]at this
        exact List.length_eq_zero_iff.1 this
      subst hleft
      obtain⟨t1,H1,hfit,hev,hte,hq⟩:=hend t H hI
      refine zgq hexN hrun (hK _ _ (zee hT hC opsC rC _ H _ w M ρ hS (zbu ht (zlV [.bool false] (zaw (show rel M ρ (.b false) (.bool false)by simp[rel]) zdy)) oN.dst hfit) ?_))
      rw[hev]
      intro a2 w2 M2 ρ2 e2 ht2 hS2 hd2
      rw[zau]at hd2
      refine wp_seq (wp_cond_false ?_ (wp_exit ?_))
      · have:=ht2.2 te
        rw[hte]at this
        simp only[rel]at this
        exact this
      · exact hQ _ hq a2 w2 M2 ρ2 (he.trans e2) ht2 hS2 hd2
    · obtain⟨p,hp⟩:∃p,left[j]? = some p:=by
        have h1:=(jGa.1 hej).1
        rw[←hkv.1]at h1
        exact⟨_,jKa h1⟩
      obtain⟨rk,rv⟩:=hkv.2 j p e hp hej
      obtain⟨t1,H1,t2,H2,hfit,hev,hte,hit1,hfit2,hev2,hit2,hX⟩:=hround left t H j p.1 p.2 hI hp
      have hem:e∈es.toList:=(mem_left (jIb hej)).1
      have hw1S:SR T M ρ H w1:=by
        rcases hw1 with rfl|rfl
        · exact hS
        · exact hS.drew
      have hw1E:Ext M0 ρ0 w0 M ρ w1:=by
        rcases hw1 with rfl|rfl
        · exact he
        · exact he.trans (Ext.drew M ρ w)
      have hid1:Hid l (.mapIter (some bm) clock seen clock) M ρ w1:=by
        rcases hw1 with rfl|rfl
        · exact hid
        · exact⟨hid.at_,hid.free,hid.un⟩
      have hid2:=hid1.put (.mapIter (some bm) clock (seen.push e.born) clock)
      have hS2:=zrd (o':=.mapIter (some bm) clock (seen.push e.born) clock) hw1S hid1
      have hE2:=zlz (o':=.mapIter (some bm) clock (seen.push e.born) clock) hw1E hl0
      have hlt2:ItrOK M ρ (w1.putObj l (.mapIter (some bm) clock (seen.push e.born) clock)) l (left.eraseIdx j):=⟨bm,clock,es,_,hid2,hfrz,hst,by rw[zqc hst.2 hej];exact hkv.erase j⟩
      refine zgq hexN hrun (hK _ _ (zee hT hC opsC rC _ H _ _ M ρ hS2 (zbu ht (zlV [.bool true,e.key,e.val] (zaw (show rel M ρ (.b true) (.bool true)by simp[rel]) (zaw rk (zaw rv zdy)))) oN.dst hfit) ?_))
      rw[hev]
      intro a3 w3 M3 ρ3 e3 ht3 hS3 hd3
      rw[zau]at hd3
      refine wp_seq (wp_cond_true ?_ (wp_skip ?_))
      · have:=ht3.2 te
        rw[hte]at this
        simp only[rel]at this
        exact this
      refine wp_block (wp_seq (wp_region_list ?_))
      rw[hf]
      refine wpList_step fun K2 hK2=>?_
      rw[show Region.wanted oY (yielded opsF a3.tmps)=true from by simp[Region.wanted,gY]]
      simp only[if_true]
      have hid3:=hid2.ext e3
      have hv3:a3.eval (.tmp it)=.pointer (some ⟨l,0,none⟩):=by
        have:=ht3.2 it
        rw[hit1,hit]at this
        simp only[rel]at this
        exact this
      have hexY:execOp a3.eval oY=(do Pure.pure (.value (←Instr.entry (.pointer (some ⟨l,0,none⟩))))):=by simp[execOp,hY,hv3]
      refine zgq hexY (zkK hid3.at_ (hS3.frozen _ _ (e3.mem _ _ hfrz)) hem hst.2) (hK2 _ _ (zee hT hC opsF rF _ H1 _ _ M3 ρ3 hS3 (zbu ht3 (zlV [e.key,e.val] (zaw (zbx e3.mem e3.pre _ _ rk) (zaw (zbx e3.mem e3.pre _ _ rv) zdy))) oY.dst hfit2) ?_))
      rw[hev2]
      intro a4 w4 M4 ρ4 e4 ht4 hS4 hd4
      rw[zau]at hd4
      have hE4:=(hE2.trans e3).trans e4
      have hi4:=(hlt2.ext e3).ext e4
      refine hX a4 w4 M4 ρ4 _ hS4 ht4 fun o ho=>?_
      have again:∀(t':Tm) (H':zaa),zz1 it (t.get it) (I (left.eraseIdx j)) Q (.norm t' H')→∀a' w' M' ρ',Ext M4 ρ4 w4 M' ρ' w'→zaS M' ρ' t' a'.tmps→SR T M' ρ' H' w'→a'.defers=a4.defers →
          Code.rounds P (.seq (.region c opsC false) (.seq (.cond (.tmp te) .skip (.exit b)) (.block d (.seq (.region f opsF false) X)))) R n a' w':=by
        intro t' H' hr a' w' M' ρ' e5 ht5 hS5 hd5
        obtain⟨hit5,hI5⟩:=hr
        refine ih (left.eraseIdx j) t' H' ?_ hI5 M0 ρ0 w0 a' w' M' ρ' R l (hE4.trans e5) hl0 hS5 ht5 (hit5.trans hit) (hi4.ext e5) ?_
        · have h1:=(jGa.1 hp).1
          rw[List.length_eraseIdx,if_pos h1]
          omega
        · rw[hd5,hd4,hd3];exact hQ
      have pass:∀o2,Q o2→zen T M4 ρ4 w4 R a4.defers o2:=fun o2 h2=>by
        rw[hd4,hd3];exact(hQ o2 h2).later hE4
      cases o with
      |norm t' H'=>exact again t' H' ho
      | exit i t' H'=>
        simp only[zg2]at ho
        by_cases hid':i=d
        · rw[if_pos hid']at ho
          intro a' w' M' ρ' e5 ht5 hS5 hd5
          simp only[Exit.then,Exit.inBlock]
          rw[if_pos hid']
          exact again t' H' ho a' w' M' ρ' e5 ht5 hS5 hd5
        · rw[if_neg hid']at ho
          intro a' w' M' ρ' e5 ht5 hS5 hd5
          simp only[Exit.then,Exit.inBlock]
          rw[if_neg hid']
          exact pass _ ho a' w' M' ρ' e5 ht5 hS5 hd5
      |ret t' H'=>exact pass _ ho
      |pan v t' H'=>exact pass _ ho
      |no=>exact(pass _ ho).elim
theorem SR.still (hS:SR T M ρ H w){n b c:Nat}{blk:Blk}{o:Obj}(hn:H[n]? = some (some blk))(hr:ρ[n]? = some (b,c))(hM:M b=none)(ho:w.heap[b]? = some o) :
 SR T (fun k=>if k=b then some o else M k) ρ (H.set n none) w∧Ext M ρ w (fun k=>if k=b then some o else M k) ρ w:=by
 have hle:M.le (fun k=>if k=b then some o else M k):=fun k x hk=>by
  show(if k=b then some o else M k)=some x;rw[if_neg (fun e=>by rw[e,hM]at hk;cases hk)];exact hk
 have hset:∀{m:Nat}{z:Blk},(H.set n none)[m]? = some (some z)→m≠n∧H[m]? = some (some z):=by
  intro m z hm;rw[List.getElem?_set]at hm;by_cases e:n=m
  ·rw[if_pos e]at hm;split at hm<;>cases hm
  ·rw[if_neg e]at hm;exact⟨fun q=>e q.symm,hm⟩
 refine⟨⟨?_,by simp[hS.len],?_,?_,?_,fun g hg=>?_⟩,⟨rfl,rfl,rfl,jDb _,hle,jHb _,fun _ _ _=>rfl,fun k _ hk=>?_,fun k q hq=>.inl ⟨q,hq⟩⟩⟩
 ·intro k x hk;split at hk
  ·rename_i e;subst e;cases hk;exact ho
  ·exact hS.frozen k x hk
 ·intro m z hm;obtain⟨hne,hm⟩:=hset hm;obtain⟨b',c',h1,h2,h3,h4⟩:=hS.blk m z hm;refine⟨b',c',h1,?_,h3,h4.mono hle (jHb _)⟩;rw[if_neg]
  ·exact h2
  ·intro e;subst e;exact hne (hS.inj m n z blk b' c' c hm hn h1 hr)
 ·intro m k x y b' c' c'' h1 h2 h3 h4;exact hS.inj m k x y b' c' c'' (hset h1).2 (hset h2).2 h3 h4
 ·intro g l hg;obtain⟨cs,ty,fr,h1,h2⟩:=hS.glob g l hg;exact⟨cs,ty,fr,hle _ _ h1,relL_mono hle (jHb _) _ _ h2⟩
 ·obtain⟨m,ty,fr,h1⟩:=hS.gint g hg;exact⟨m,ty,fr,hle _ _ h1⟩
 ·rw[if_neg (fun e=>by subst e;exact hk c (jIb hr))]
theorem ziF.rangeMap (hT:TOk P T) {call:zad} (hC:call.Sound P T) {ia b c d f it te x mt kt et n:Nat} {opsA opsC opsF:Array Oper} {oR oN oY:Oper} {rC rF:List Oper} {X:Code} (q:Nat) (I:List (V×V)→Tm→zaa→Prop) {Q:Out→Prop} {t1:Tm} {H1:zaa} {blk:Blk} (kvs:List (V×V))
    (hA:opsA.toList=opsA.toList.take q++[oR])(hR:oR.op=.range mt (.tmp x))(gR:oR.guard=none)(dR:oR.dst=some it)(hev:zaK (zb7 T call) opsA (opsA.toList.take q) t H=.norm t1 H1)(hfit:t1.fits (some it)=true)(hx:t1.get x=.mp n)(hb:zdL H1 n=some blk)(hbc:blk.cells=kvs.flatMap fun p=>[p.1,p.2])(hall:H1.all Option.isSome=true)(hu:T.und mt=some (.map kt et))
    (hI:∀l,I kvs (t1.put (some it) (.itr l)) (H1.set n none))
    (hc:opsC.toList=oN::rC)(hN:oN.op=.next (.tmp it) false)(gN:oN.guard=none)(hf:opsF.toList=oY::rF)(hY:oY.op=.entry (.tmp it))(gY:oY.guard=none)
    (hround:∀(left:List (V×V)) (t:Tm) (H:zaa) (j:Nat) (k v:V),I left t H→left[j]? = some (k,v)→∃t1 H1 t2 H2,t.fits oN.dst=true∧zaK (zb7 T call) opsC rC (t.put oN.dst (.tup [.b true,k,v])) H=.norm t1 H1∧t1.get te=.b true∧t1.get it=t.get it∧t1.fits oY.dst=true ∧
      zaK (zb7 T call) opsF rF (t1.put oY.dst (.tup [k,v])) H1=.norm t2 H2∧t2.get it=t.get it∧ziF P T X t2 H2 (zg2 d (zz1 it (t.get it) (I (left.eraseIdx j)) (zg2 b Q))))
    (hend:∀(t:Tm)(H:zaa),I [] t H→∃t1 H1,t.fits oN.dst=true∧zaK (zb7 T call) opsC rC (t.put oN.dst (.tup [.b false])) H=.norm t1 H1∧t1.get te=.b false∧Q (.norm t1 H1)) :
    ziF P T (.seq (.region ia opsA false) (.block b (.loop (.seq (.region c opsC false) (.seq (.cond (.tmp te) .skip (.exit b)) (.block d (.seq (.region f opsF false) X))))))) t H Q:=by
  intro a w M ρ R hS ht hQ
  refine wp_seq (wp_region_list ?_)
  rw[hA]
  have split : ∀(l:List Oper) (t:Tm) (H:zaa) (a:Act) (w:World) (M:Mem) (ρ:Ren) (Q:Exit→Act→World→Prop),SR T M ρ H w→zaS M ρ t a.tmps→zaK (zb7 T call) opsA l t H=.norm t1 H1 →
      (∀a' w' M' ρ',Ext M ρ w M' ρ' w'→zaS M' ρ' t1 a'.tmps→SR T M' ρ' H1 w'→a'.defers=a.defers→wpList P opsA Q [oR] a' w')→wpList P opsA Q (l++[oR]) a w:=by
    intro l
    induction l with
    | nil=>
      intro t H a w M ρ Q hS ht h k
      cases h
      exact k a w M ρ (Ext.refl _ _ _) ht hS rfl
    | cons o l ih=>
      intro t H a w M ρ Q hS ht h k
      simp only[zaK,zbJ,zbp]at h
      rw[jEa]
      refine wpList_step fun K hK=>?_
      split at h
      · rename_i hw
        rw[za8 ht.2 hw]
        simp only[if_true]
        split at h
        · rename_i v H2 hv
          split at h
          · rename_i hfit
            refine zcE hT hC hS ht.2 (r:=.val v H2) hv ?_
            intro x M' ρ' w' he hx hS'
            refine hK _ _ (ih _ H2 _ w' M' ρ' Q hS' (zbu (za0 he.mem he.pre ht) hx o.dst hfit) h ?_)
            intro a' w2 M2 ρ2 he2 ht2 hS2 hd
            rw[zau]at hd
            exact k a' w2 M2 ρ2 (he.trans he2) ht2 hS2 hd
          · cases h
        · cases h
        · cases h
      · rename_i hw
        rw[za8 ht.2 hw]
        simp only[jSa,if_false]
        split at h
        · rename_i hfit
          refine hK _ _ (ih _ H _ w M ρ Q hS (zbu ht za6 o.dst hfit) h ?_)
          intro a' w2 M2 ρ2 he2 ht2 hS2 hd
          rw[zau]at hd
          exact k a' w2 M2 ρ2 he2 ht2 hS2 hd
        · cases h
      · cases h
  refine split (opsA.toList.take q) t H a w M ρ _ hS ht hev ?_
  intro a1 w1 M1 ρ1 e1 ht1 hS1 hd1
  refine wpList_step fun K hK=>?_
  rw[show Region.wanted oR (yielded opsA a1.tmps)=true from by simp[Region.wanted,gR]]
  simp only[if_true]
  obtain⟨bm,cm,es,clock,hr,hMb,hheap,hrel,hst⟩:=hS1.map hb
  have hbn:=(zeh hb).1
  obtain⟨hS2,he2⟩:=hS1.still hbn hr hMb hheap
  have hv:a1.eval (.tmp x)=.map (some bm):=by
    have:=ht1.2 x
    rw[hx]at this
    simp only[rel]at this
    obtain⟨b',c',h1,h2⟩:=this
    rw[hr]at h1
    cases h1
    exact h2
  have hexR:execOp a1.eval oR=(do Pure.pure (.value (←Instr.range mt (.map (some bm))))):=by simp[execOp,hR,hv]
  refine zgq hexR (run_range_map w1 mt kt et bm es.toArray clock (hT.und _ _ hu) hheap) (hK _ _ (wpList_nil ?_))
  have un:=zt8 hS1 hall
  have hbl:bm<w1.heap.size:=(Array.getElem?_eq_some_iff.1 hheap).1
  refine wp_block (wp_loop_rounds (kvs.length+1) ?_)
  have hS3:=zjI hS2 (.mapIter (some bm) clock #[] clock)
  have he3:=(he2.trans (zgU (M:=fun k=>if k=bm then some (.map es.toArray clock)else M1 k) (ρ:=ρ1) (w:=w1) (.mapIter (some bm) clock #[] clock)))
  have hid:Hid w1.heap.size (.mapIter (some bm) clock #[] clock) (fun k=>if k=bm then some (.map es.toArray clock)else M1 k) ρ1 (w1.alloc (.mapIter (some bm) clock #[] clock)):=by
    refine⟨heap_alloc_new _ _,?_,(un _ (jDb _)).2⟩
    rw[if_neg (by omega)]
    exact(un _ (jDb _)).1
  have hleft:leftOf es.toArray #[]=es.toArray:=by
    unfold leftOf
    exact Array.filter_eq_self.2 (fun x _=>by simp)
  refine zvd hT hC hc hN gN hf hY gY (I:=I) (Q:=zg2 b Q) hround ?_ (kvs.length+1) kvs (t1.put (some it) (.itr w1.heap.size)) (H1.set n none) (by omega) (hI _) M1 ρ1 w1 (a1.put oR.dst (.pointer (some ⟨w1.heap.size,0,none⟩))) _ _ ρ1 _ w1.heap.size he3 (jDb _) hS3 ?_ ?_ ?_ ?_
  · intro t H hi
    obtain⟨t2,H2,k1,k2,k3,k4⟩:=hend t H hi
    refine⟨t2,H2,k1,k2,k3,?_⟩
    simp only[zg2,if_true]
    exact k4
  · rw[dR]
    exact zbu (za0 he2.mem he2.pre ht1) (by simp only[rel]) (some it) hfit
  · rw[Tm.get_put];simp[put]
  · refine⟨bm,clock,es.toArray,#[],hid,by simp,by simpa using hst,?_⟩
    rw[hleft]
    refine(zmW ?_).mono he2.mem he2.pre
    rw[←hbc]
    simpa using hrel
  · intro o ho
    rw[zau,hd1]
    cases o with
    |norm t' H'=>exact(hQ _ ho).later e1
    | exit i t' H'=>
      simp only[zg2]at ho
      by_cases hi:i=b
      · rw[if_pos hi]at ho
        intro a' w' M' ρ' e5 ht5 hS5 hd5
        simp only[Exit.inBlock]
        rw[if_pos hi]
        exact(hQ _ ho).later e1 a' w' M' ρ' e5 ht5 hS5 hd5
      · rw[if_neg hi]at ho
        intro a' w' M' ρ' e5 ht5 hS5 hd5
        simp only[Exit.inBlock]
        rw[if_neg hi]
        exact(hQ _ ho).later e1 a' w' M' ρ' e5 ht5 hS5 hd5
    |ret t' H'=>exact(hQ _ ho).later e1
    |pan v t' H'=>exact(hQ _ ho).later e1
    |no=>exact(hQ _ ho).elim
end
open Go
section
variable {P:Program}{T:Tab}
theorem zgQ (hT:TOk P T){reg:zad→zoy}(hreg:∀call:zad,call.Sound P T→zoy.Sound P T (reg call)){G:Gam}{n:Nat}(ih:(zb1 T reg G n).Sound P T){f:FuncId}{vs:List V}{H:zaa}{r:OR}(hg:G f vs H=none)(h:zb1 T reg G (n+1) f vs H=r)(hr:r≠.no) :
 Go.Proofs.Enters P f∧∀M ρ w args,SR T M ρ H w→relL M ρ vs args→zaR P T f args.toArray M ρ w r:=by
 simp only[zb1,hg]at h
 ·split at h
  ·exact absurd h.symm hr
  ·rename_i fn hfn;split at h
   ·exact absurd h.symm hr
   ·rename_i c hc;obtain⟨hf,hent⟩:=hT.func f fn c hfn hc;refine⟨hent,fun M ρ w args hS hargs=>?_⟩;have hR:=hreg _ ih;have hL:=ze2 (P:=P) (T:=T) hR n;cases hw:Nat.ble vs.length fn.ntmps with
    |false=>rw[hw]at h;exact absurd h.symm hr
    |true=>
    rw[hw]at h;simp only[jVc]at h;have hle:vs.length≤fn.ntmps:=Nat.le_of_ble_eq_true hw;have hl:=zam hargs;have htm:zaS M ρ (Tm.init fn.ntmps vs) (args.toArray++Array.replicate (fn.ntmps-args.toArray.size) undef):=by
     refine⟨by simp[Tm.init];omega,fun k=>?_⟩;simp only[Tm.init,Tm.get];rw[Tr.get_fill,if_pos (Nat.zero_le _),Nat.sub_zero];simp only[Tr.get,jCb];by_cases hk:k<vs.length
     ·rw[Array.getElem?_append_left (by simp;omega)];obtain⟨x,hx,hxr⟩:=za2 hargs (i:=k) (v:=vs[k]) (jKa hk);rw[jKa hk];simp only[jEd,hx,jHa];exact hxr
     ·rw [jGc (by omega)];have:((args.toArray++Array.replicate (fn.ntmps-args.toArray.size) undef)[k]?).getD undef=undef:=by
       rw[Array.getElem?_append_right (by simp;omega),jXc];split<;>rfl
      rw[this];exact za6
    have key:=fun R=>zbM (P:=P) (T:=T) hR hL c (Tm.init fn.ntmps vs) H {tmps:=args.toArray++Array.replicate (fn.ntmps-args.toArray.size) undef,defers:=[]} w M ρ (bodyPost P fn R) hS htm;cases hev:zbU (reg (zb1 T reg G n)) (zgR (reg (zb1 T reg G n)) n) c (Tm.init fn.ntmps vs) H with
    |norm t' H'=>
     rw[hev]at h;simp only at h;cases r with
     |no=>trivial
     |pan v H2=>exact absurd h zcx
     |val v H2=>
      refine calls_of_wp hf hc ((key _ ?_).1);rw[hev];intro a' w' M' ρ' he ht' hS' hd;obtain⟨rfl,x,hx,hxr⟩:=za3 hT hS' ht'.2 h;exact⟨hd,x,hx,x,M',ρ',rfl,he,hxr,hS'⟩
    |ret t' H'=>
     rw[hev]at h;simp only at h;cases r with
     |no=>trivial
     |pan v H2=>exact absurd h zcx
     |val v H2=>
      refine calls_of_wp hf hc ((key _ ?_).1);rw[hev];intro a' w' M' ρ' he ht' hS' hd;obtain⟨rfl,x,hx,hxr⟩:=za3 hT hS' ht'.2 h;exact⟨hd,x,hx,x,M',ρ',rfl,he,hxr,hS'⟩
    |pan v t' H'=>
     rw[hev]at h;simp only at h;subst h;refine calls_of_wp hf hc ((key _ ?_).1);rw[hev];intro a' w' M' ρ' x he _ hx hS' hd;exact⟨hd,x,M',ρ',rfl,he,hx,hS'⟩
    |exit id t' H'=>rw[hev]at h;exact absurd h.symm hr
    |no=>rw[hev]at h;exact absurd h.symm hr
def Gam.SoundX (P:Program)(T:Tab)(G:Gam):Prop:=
 ∀f vs H r,G f vs H=some r→r≠.no→(Go.Proofs.Enters P f∧∀M ρ w args,SR T M ρ H w→relL M ρ vs args→zaR P T f args.toArray M ρ w r)∨zoG P T f vs H r
theorem zfu (hT:TOk P T){reg:zad→zoy}(hreg:∀call:zad,call.Sound P T→zoy.Sound P T (reg call)){G:Gam}(hG:G.SoundX P T):∀n,(zb1 T reg G n).Sound P T
 |0=>fun f vs H r h hr=>absurd h.symm hr
 |n+1=>by
  intro f vs H r h hr;cases hg:G f vs H with
  |none=>exact .inl (zgQ hT hreg (zfu hT hreg hG n) hg h hr)
  |some r'=>
   simp only[zb1,hg]at h;subst h;exact hG f vs H _ hg hr
theorem zdU (hT:TOk P T) {G:Gam} (hG:G.SoundX P T) {n:Nat} {f:FuncId} {vs:List V} {H:zaa} {r:OR} (hg:G f vs H=none) (h:zcw T G (n+1) f vs H=r) (hr:r≠.no) :
    Go.Proofs.Enters P f∧∀M ρ w args,SR T M ρ H w→relL M ρ vs args→zaR P T f args.toArray M ρ w r:=
  zgQ hT (fun _ h=>zec hT h) (zfu hT (fun _ h=>zec hT h) hG n) hg h hr
end
open Go Go.RowKit
section
variable {P:Program}{T:Tab}{M:Mem}{ρ:Ren}{w:World}{H:zaa}{f:FuncId}{fn:Func}
theorem SR.cellOf (hS:SR T M ρ H w){n off:Nat}{blk:Blk}{v:V}{x:Value}(hb:zap H n=some blk)(hv:blk.cells[off]? = some v)(hx:rel M ρ (.ptr n off) x) :
 ∃b c y,ρ[n]? = some (b,c)∧x=.pointer (some ⟨b,off,none⟩)∧w.cell? ⟨b,off,none⟩=some y∧w.frozen? ⟨b,off,none⟩=false∧rel M ρ v y:=by
 obtain⟨b,c,cs,cs',hr,hM,hlen,hheap,hrel,_⟩:=hS.cells hb;simp only[rel]at hx;obtain⟨b',c',hr',rfl⟩:=hx;rw[hr]at hr';cases hr';obtain⟨y,hy,hyr⟩:=za2 hrel hv;refine⟨b,c,y,hr,rfl,?_,?_,hyr⟩
 ·simp only[World.cell?,hheap];have:=(jGa.1 hy).1;simp[jQa this,hy]
 ·simp[World.frozen?,hheap]
theorem SR.setCell (hS:SR T M ρ H w){n off:Nat}{blk:Blk}{v v':V}{b c:Nat}{y:Value}(hb:zap H n=some blk)(hv:blk.cells[off]? = some v)(hr:ρ[n]? = some (b,c))(hy:rel M ρ v' y) :
 Ext M ρ w M ρ (w.setCell ⟨b,off,none⟩ y)∧SR T M ρ (H.set n (some {blk with cells:=blk.cells.set off v'})) (w.setCell ⟨b,off,none⟩ y):=by
 obtain⟨b',c',cs,cs',hr',hM,hlen,hheap,hrel,hall⟩:=hS.cells hb;rw[hr]at hr';cases hr';obtain⟨hb0,hk⟩:=zbl hb;have hother:∀k,k≠b→(w.setCell ⟨b,off,none⟩ y).heap[k]? = w.heap[k]?:=fun k hk=>by
  simp only[World.setCell];rw[Array.getElem?_modify,if_neg (fun e=>hk e.symm)]
 have hsz:(w.setCell ⟨b,off,none⟩ y).heap.size=w.heap.size:=by simp[World.setCell]
 have hoff:off<cs.length:=by
  rw[zam hrel];exact(jGa.1 hv).1
 refine⟨⟨rfl,rfl,rfl,by omega,Mem.le.refl _,jHb _,fun k _ hn=>hother k (fun e=>hn c (by rw[e];exact jIb hr)),fun _ _ _=>rfl,fun _ q hq=>.inl ⟨q,hq⟩⟩,?_⟩;refine hS.upd hb0 hr hother hsz (zbQ.of_cells hk ⟨cs.set off y,cs',by simpa using hlen,?_,zmX off hrel hy,hall⟩);simp only[World.setCell];rw[Array.getElem?_modify,if_pos rfl,hheap];simp only[jXa,Option.isSome_none,jSa,if_false];congr 2;apply jWc;simp[List.set_append_left _ _ hoff]
def zmm (k:IntKind):zhA:=fun vs H=>match vs with
 | [.ptr n off]=>(match zap H n with
  |some blk=>(match blk.cells[off]? with
   |some (.i j x)=>if j=k then .val (.i k x) H else .no
   |_=>.no)
  |none=>.no)
 |_=>.no
def ziK (k:IntKind):zhA:=fun vs H=>match vs with
 | [.ptr n off,.i j y]=>(match zap H n with
  |some blk=>(match blk.cells[off]? with
   |some _=>if j=k then .val .un (H.set n (some {blk with cells:=blk.cells.set off (.i k y)}))else .no
   |none=>.no)
  |none=>.no)
 |_=>.no
def zrK (k:IntKind):zhA:=fun vs H=>match vs with
 | [.ptr n off,.i j x,.i j' y]=>(match zap H n with
  |some blk=>(match blk.cells[off]? with
   |some (.i j2 z)=>if j=k∧j'=k∧j2=k∧z=x then .val (.b true) (H.set n (some {blk with cells:=blk.cells.set off (.i k y)}))else .no
   |_=>.no)
  |none=>.no)
 |_=>.no
def zrI (k:IntKind):zhA:=fun vs H=>match vs with
 | [.ptr n off,.i j y]=>(match zap H n with
  |some blk=>(match blk.cells[off]? with
   |some (.i j2 x)=>if j=k∧j2=k then .val (.i k (k.wrap (x+y))) (H.set n (some {blk with cells:=blk.cells.set off (.i k (k.wrap (x+y)))}))else .no
   |_=>.no)
  |none=>.no)
 |_=>.no
theorem zoN (k:IntKind) (hf:P.funcs[f]? = some fn) (hname:(fn.name == "runtime.NumGoroutine")=false) (hb:fn.body.isNone=true) (hn:Extern.findNext fn=none) (he:Extern.find fn=some (Extern.Atomic.loadT (.int k))):zeU P T f (zmm k):=by
  intro vs H r h hne
  unfold zmm at h
  split at h
  case h_2=>exact absurd h.symm hne
  rename_i n off
  split at h
  case h_2=>exact absurd h.symm hne
  rename_i blk hblk
  split at h
  case h_2=>exact absurd h.symm hne
  rename_i j x hx
  split at h
  case isFalse=>exact absurd h.symm hne
  rename_i hj
  subst hj
  subst h
  refine⟨_,_,rfl,fun M ρ w args hS hr=>?_⟩
  simp only[relL]at hr
  obtain⟨p,r,rfl,hp,rfl⟩:=hr
  obtain⟨b,c,y,hr,rfl,hc,hz,hy⟩:=hS.cellOf hblk hx hp
  simp only[rel]at hy
  subst hy
  exact⟨_,M,ρ,w,run_call_load hf hname hb hn _ he hc,Ext.refl _ _ _,by simp only[rel],hS⟩
theorem znp (k:IntKind) (hf:P.funcs[f]? = some fn) (hname:(fn.name == "runtime.NumGoroutine")=false) (hb:fn.body.isNone=true) (hn:Extern.findNext fn=none) (he:Extern.find fn=some Extern.Atomic.storeT):zeU P T f (ziK k):=by
  intro vs H r h hne
  unfold ziK at h
  split at h
  case h_2=>exact absurd h.symm hne
  rename_i n off j y
  split at h
  case h_2=>exact absurd h.symm hne
  rename_i blk hblk
  split at h
  case h_2=>exact absurd h.symm hne
  rename_i v hx
  split at h
  case isFalse=>exact absurd h.symm hne
  rename_i hj
  subst hj
  subst h
  refine⟨_,_,rfl,fun M ρ w args hS hr=>?_⟩
  simp only[relL]at hr
  obtain⟨p,r,rfl,hp,q,r2,rfl,hq,rfl⟩:=hr
  obtain⟨b,c,z,hr,rfl,hc,hz,hy⟩:=hS.cellOf hblk hx hp
  have hq':=hq
  simp only[rel]at hq
  subst hq
  obtain⟨e1,e2⟩:=hS.setCell hblk hx hr hq'
  exact⟨_,M,ρ,_,run_call_store hf hname hb hn he hc hz,e1,by simp[rel,relL],e2⟩
theorem zrL (k:IntKind) (hf:P.funcs[f]? = some fn) (hname:(fn.name == "runtime.NumGoroutine")=false) (hb:fn.body.isNone=true) (hn:Extern.findNext fn=none) (he:Extern.find fn=some (Extern.Atomic.casT (.int k))):zeU P T f (zrK k):=by
  intro vs H r h hne
  unfold zrK at h
  split at h
  case h_2=>exact absurd h.symm hne
  rename_i n off j x j' y
  split at h
  case h_2=>exact absurd h.symm hne
  rename_i blk hblk
  split at h
  case h_2=>exact absurd h.symm hne
  rename_i j2 z hx
  split at h
  case isFalse=>exact absurd h.symm hne
  rename_i hj
  obtain⟨rfl,rfl,rfl,rfl⟩:=hj
  subst h
  refine⟨_,_,rfl,fun M ρ w args hS hr=>?_⟩
  simp only[relL]at hr
  obtain⟨p,r,rfl,hp,q,r2,rfl,hq,s,r3,rfl,hs,rfl⟩:=hr
  obtain⟨b,c,u,hr,rfl,hc,hz,hy⟩:=hS.cellOf hblk hx hp
  have hs':=hs
  simp only[rel]at hq hs hy
  subst hq hs hy
  obtain⟨e1,e2⟩:=hS.setCell hblk hx hr hs'
  exact⟨_,M,ρ,_,run_call_cas_hit hf hname hb hn _ he hc hz,e1,by simp only[rel],e2⟩
theorem zrJ (k:IntKind) (hf:P.funcs[f]? = some fn) (hname:(fn.name == "runtime.NumGoroutine")=false) (hb:fn.body.isNone=true) (hn:Extern.findNext fn=none) (he:Extern.find fn=some (Extern.Atomic.update (Op.intArith .add) k true)):zeU P T f (zrI k):=by
  intro vs H r h hne
  unfold zrI at h
  split at h
  case h_2=>exact absurd h.symm hne
  rename_i n off j y
  split at h
  case h_2=>exact absurd h.symm hne
  rename_i blk hblk
  split at h
  case h_2=>exact absurd h.symm hne
  rename_i j2 x hx
  split at h
  case isFalse=>exact absurd h.symm hne
  rename_i hj
  obtain⟨rfl,rfl⟩:=hj
  subst h
  refine⟨_,_,rfl,fun M ρ w args hS hr=>?_⟩
  simp only[relL]at hr
  obtain⟨p,r,rfl,hp,q,r2,rfl,hq,rfl⟩:=hr
  obtain⟨b,c,u,hr,rfl,hc,hz,hy⟩:=hS.cellOf hblk hx hp
  simp only[rel]at hq hy
  subst hq hy
  obtain⟨e1,e2⟩:=hS.setCell (v':=.i j2 (j2.wrap (x+y))) (y:=.int j2 (j2.wrap (x+y))) hblk hx hr (by simp only[rel])
  exact⟨_,M,ρ,_,run_call_add hf hname hb hn _ he hc hz (by simp[Op.intArith,Sem.run]),e1,by simp only[rel],e2⟩
theorem zhR (hf:P.funcs[f]? = some fn) (hname:(fn.name == "runtime.NumGoroutine")=false) (hb:fn.body.isNone=true) (hn:Extern.findNext fn=none) (m:Mark) (he:Extern.find fn=some (fun _=>do Go.mark m;pure Extern.Race.none_)):zeU P T f (fun vs H=>match vs with | []=>.val .un H|_=>.no):=by
  intro vs H r h hne
  simp only at h
  split at h
  case h_2=>exact absurd h.symm hne
  subst h
  refine⟨_,_,rfl,fun M ρ w args hS hr=>?_⟩
  simp only[relL]at hr
  subst hr
  exact⟨_,M,ρ,w,run_call_mark0 hf hname hb hn m he w,Ext.refl _ _ _,by simp[rel,relL],hS⟩
theorem zjX (hf:P.funcs[f]? = some fn) (hname:(fn.name == "runtime.NumGoroutine")=false) (hb:fn.body.isNone=true) (hn:Extern.findNext fn=none) (m:Addr→Mark) (he:Extern.find fn=some (Extern.Race.marked m)):zeU P T f (fun vs H=>match vs with | [.ptr n off]=>.val .un H|_=>.no):=by
  intro vs H r h hne
  simp only at h
  split at h
  case h_2=>exact absurd h.symm hne
  subst h
  refine⟨_,_,rfl,fun M ρ w args hS hr=>?_⟩
  simp only[relL,rel]at hr
  obtain⟨p,r,rfl,⟨b,c,_,rfl⟩,rfl⟩:=hr
  exact⟨_,M,ρ,w,run_call_marked hf hname hb hn m he _ w,Ext.refl _ _ _,by simp[rel,relL],hS⟩
end
open Go
section
variable {P:Program}{T:Tab}
theorem zaA.of_run (hT:TOk P T){G:Gam}(hG:G.SoundX P T){n:Nat}{f:FuncId}{vs:List V}{H:zaa}{r:OR}(hg:G f vs H=none)(h:zcw T G (n+1) f vs H=r)(hr:r≠.no):zaA P T f vs H fun r'=>r'=r:=by
 have ih:=zfu hT (reg:=zc7 T) (fun _ h=>zec hT h) hG n;have hR:=zec hT ih;have hL:=ze2 (P:=P) (T:=T) hR n;simp only[zcw,zb1,hg]at h;split at h
 ·exact absurd h.symm hr
 ·rename_i fn hfn;split at h
  ·exact absurd h.symm hr
  ·rename_i c hc;cases hw:Nat.ble vs.length fn.ntmps with
   |false=>rw[hw]at h;exact absurd h.symm hr
   |true=>
    rw[hw]at h;simp only[jVc]at h;refine⟨fn,c,hfn,hc,Nat.le_of_ble_eq_true hw,zbU (zc7 T (zb1 T (zc7 T) G n)) (zgR (zc7 T (zb1 T (zc7 T) G n)) n) c (Tm.init fn.ntmps vs) H,?_,fun a w M ρ R hS ht k=>(zbM hR hL c _ H a w M ρ R hS ht k).1⟩;have fin:∀{t:Tm}{H':zaa},zaZ T fn t.get H'=r→∃v,OR.val v H'=r∧zaZ T fn t.get H'=.val v H':=fun{t H'} e=>by
     unfold zaZ at e ⊢;split at e
     ·exact⟨_,e,rfl⟩
     ·exact⟨_,e,rfl⟩
     ·exact absurd e.symm hr
    cases hev:zbU (zc7 T (zb1 T (zc7 T) G n)) (zgR (zc7 T (zb1 T (zc7 T) G n)) n) c (Tm.init fn.ntmps vs) H with
    |norm t H'=>rw[hev]at h;exact fin h
    |ret t H'=>rw[hev]at h;exact fin h
    |pan v t H'=>rw[hev]at h;exact h
    |exit id t H'=>rw[hev]at h;exact absurd h.symm hr
    |no=>rw[hev]at h;exact absurd h.symm hr
theorem zew.condT {g:Operand}{x y:Code}{o:Option V}{t:Tm}{H:zaa}{g0:List (Nat×List V)}{Q:Out→List (Nat×List V)→Prop}(hg:ev1 t.get g=o)(ho:o=some (.b true))(h:zew P T x t H g0 Q):zew P T (.cond g x y) t H g0 Q:=by
 subst ho;obtain⟨o,g',h1,h2⟩:=h;refine⟨o,g',h1,fun a w M ρ R hS ht hd k=>?_⟩;have:=zas ht.2 hg;simp only[rel]at this;exact wp_cond_true this (h2 a w M ρ R hS ht hd k)
def ztj (vs:List V)(H0:zaa)(r:OR):zhA:=fun us H=>if(V.beqL us vs&&zaa.beq H H0)=true then r else .no
theorem zl6 (vs:List V)(H0:zaa)(r:OR):ztj vs H0 r vs H0=r:=by
 unfold ztj;rw[V.beqL_refl,zaa.beq_refl];rfl
theorem zjE {F:FuncId}{vs:List V}{H0:zaa}{r:OR}(h:r≠.no→Go.Proofs.Enters P F∧∀M ρ w args,SR T M ρ H0 w→relL M ρ vs args→zaR P T F args.toArray M ρ w r):zak P T F (ztj vs H0 r):=by
 intro us H x hx hne;unfold ztj at hx;split at hx
 ·rename_i hb;rw[jMa]at hb;have e1:=V.beqL_eq _ _ hb.1;have e2:=zaa.beq_eq _ _ hb.2;subst e1 e2 hx;exact h hne
 ·exact absurd hx.symm hne
end
open Go
mutual
/-- Other names. -/
def V.ren (f:Nat→Nat):V→V
  | .agg l=>.agg (V.renL f l)
  | .tup l=>.tup (V.renL f l)
  | .fn g l=>.fn g (V.renL f l)
  | .bfn g l=>.bfn g (V.renL f l)
  | .ifc t v=>.ifc t (V.ren f v)
  | .isl z l=>.isl z (V.renL f l)
  | .ipt z l j o=>.ipt z (V.renL f l) j o
  | .ptr n o=>.ptr (f n) o
  | .sl n z o l c=>.sl (f n) z o l c
  | .mp n=>.mp (f n)
  |v=>v
def V.renL (f:Nat→Nat):List V→List V
  | []=>[]
  |v::l=>V.ren f v::V.renL f l
end
mutual
/-- All names are less than k. -/
def V.lt (k:Nat):V→Bool
  | .agg l=>V.ltL k l
  | .tup l=>V.ltL k l
  | .fn _ l=>V.ltL k l
  | .bfn _ l=>V.ltL k l
  | .ifc _ v=>V.lt k v
  | .isl _ l=>V.ltL k l
  | .ipt _ l _ _=>V.ltL k l
  | .ptr n _=>Nat.blt n k
  | .sl n _ _ _ _=>Nat.blt n k
  | .mp n=>Nat.blt n k
  |_=>true
def V.ltL (k:Nat):List V→Bool
  | []=>true
  |v::l=>V.lt k v&&V.ltL k l
end
theorem zho (f:Nat→Nat):∀l:List V,(V.renL f l).length=l.length
 | []=>rfl
 |v::l=>by simp only[V.renL,jIa,zho f l]
section
variable {M:Mem}{ρ σ:Ren}{f:Nat→Nat}{k:Nat}
mutual
theorem zfE (h:∀n,n<k→σ[f n]? = ρ[n]?):∀(v:V) (x:Value),V.lt k v=true→(rel M σ (v.ren f) x↔rel M ρ v x)
  | .i ..,x,_=>by simp only[V.ren,rel]
  | .b ..,x,_=>by simp only[V.ren,rel]
  | .s ..,x,_=>by simp only[V.ren,rel]
  | .nilp,x,_=>by simp only[V.ren,rel]
  | .nils,x,_=>by simp only[V.ren,rel]
  | .nilf,x,_=>by simp only[V.ren,rel]
  | .nili,x,_=>by simp only[V.ren,rel]
  | .nilm,x,_=>by simp only[V.ren,rel]
  | .emp,x,_=>by simp only[V.ren,rel]
  | .gp ..,x,_=>by simp only[V.ren,rel]
  | .yld ..,x,_=>by simp only[V.ren,rel]
  | .itr ..,x,_=>by simp only[V.ren,rel]
  | .ptr n o,x,hl=>by
    have e:=h n (by simpa[V.lt,Nat.blt_eq]using hl)
    simp only[V.ren,rel,e]
  | .sl n z o l c,x,hl=>by
    have e:=h n (by simpa[V.lt,Nat.blt_eq]using hl)
    simp only[V.ren,rel,e]
  | .mp n,x,hl=>by
    have e:=h n (by simpa[V.lt,Nat.blt_eq]using hl)
    simp only[V.ren,rel,e]
  | .agg l,x,hl=>by
    have ih:=fun cs=>relL_ren h l cs (by simpa only[V.lt]using hl)
    simp only[V.ren,rel,ih]
  | .tup l,x,hl=>by
    have ih:=fun cs=>relL_ren h l cs (by simpa only[V.lt]using hl)
    simp only[V.ren,rel,ih]
  | .fn g l,x,hl=>by
    have ih:=fun cs=>relL_ren h l cs (by simpa only[V.lt]using hl)
    simp only[V.ren,rel,ih]
  | .bfn g l,x,hl=>by
    have ih:=fun cs=>relL_ren h l cs (by simpa only[V.lt]using hl)
    simp only[V.ren,rel,ih]
  | .ifc t v,x,hl=>by
    have ih:=fun y=>zfE h v y (by simpa only[V.lt]using hl)
    simp only[V.ren,rel,ih]
  | .isl z l,x,hl=>by
    have ih:=fun b o=>relRow_ren h z l b o (by simpa only[V.lt]using hl)
    have el:=zho f l
    have en:V.renL f l≠[]↔l≠[]:=by
      cases l<;>simp[V.renL]
    simp only[V.ren,rel,ih,el,en]
  | .ipt z l j o,x,hl=>by
    have ih:=fun b o=>relRow_ren h z l b o (by simpa only[V.lt]using hl)
    simp only[V.ren,rel,ih]
theorem relL_ren (h:∀n,n<k→σ[f n]? = ρ[n]?):∀(l:List V) (cs:List Value),V.ltL k l=true→(relL M σ (V.renL f l) cs↔relL M ρ l cs)
  | [],cs,_=>by simp only[V.renL,relL]
  | v::l,cs,hl=>by
    simp only[V.ltL,jMa]at hl
    have i1:=fun x=>zfE h v x hl.1
    have i2:=fun cs=>relL_ren h l cs hl.2
    simp only[V.renL,relL,i1,i2]
theorem relRow_ren (h:∀n,n<k→σ[f n]? = ρ[n]?) (sz:Nat):∀(l:List V) (b o:Nat),V.ltL k l=true→(relRow M σ sz (V.renL f l) b o↔relRow M ρ sz l b o)
  | [],b,o,_=>by simp only[V.renL,relRow]
  | v::l,b,o,hl=>by
    simp only[V.ltL,jMa]at hl
    have i1:=fun x=>zfE h v x hl.1
    have i2:=fun b o=>relRow_ren h sz l b o hl.2
    simp only[V.renL,relRow,i1,i2]
end
theorem zmY (h:∀n,n<k→σ[f n]? = ρ[n]?):∀(l:List V)(es:List MapEntry),V.ltL k l=true→(zeS M σ (V.renL f l) es↔zeS M ρ l es)
 | [],es,_=>by simp only[V.renL,zeS]
 | [v],es,_=>by simp only[V.renL,zeS]
 |a::v::l,es,hl=>by
  simp only[V.ltL,jMa]at hl;have i1:=fun x=>zfE (M:=M) h a x hl.1;have i2:=fun x=>zfE (M:=M) h v x hl.2.1;have i3:=fun es=>zmY h l es hl.2.2;simp only[V.renL,zeS,i1,i2,i3]
theorem zse (l:List V):zgX (V.renL f l)=(zgX l).map (V.renL f):=by
  cases l with
  |nil=>rfl
  | cons v l=>
    cases v<;>try rfl
    rename_i r
    cases r<;>rfl
def Blk.ren (f:Nat→Nat)(b:Blk):Blk:={b with cells:=V.renL f b.cells}
theorem zpW {l r:List V}(hl:V.ltL k l=true)(h:zgX l=some r):V.ltL k r=true:=by
 unfold zgX at h;split at h
 ·cases h;simp only[V.ltL,jMa]at hl;exact hl.2
 ·cases h
theorem zbQ.ren (h:∀n,n<k→σ[f n]? = ρ[n]?){ob:Option Obj}{blk:Blk}{c:Nat}(hl:V.ltL k blk.cells=true):zbQ M σ ob (blk.ren f) c↔zbQ M ρ ob blk c:=by
 obtain⟨ty,cells,kind⟩:=blk;simp only at hl;have i1:=fun cs=>relL_ren (M:=M) h cells cs hl;have i2:=fun es=>zmY (M:=M) h cells es hl;unfold zbQ Blk.ren;simp only[zse];split
 ·rw[show((zgX cells).map (V.renL f)).isNone=(zgX cells).isNone from by cases zgX cells<;>rfl];constructor
  ·rintro(⟨es,clock,h1,h2,h3⟩|⟨l,cs,cs',fr,h1,h2,h3,h4⟩)
   ·exact .inl ⟨es,clock,h1,(i2 _).1 h2,h3⟩
   ·rw[Option.map_eq_some_iff]at h1;obtain⟨l0,h1,rfl⟩:=h1;exact .inr ⟨l0,cs,cs',fr,h1,h2,h3,(relL_ren h l0 cs (zpW hl h1)).1 h4⟩
  ·rintro(⟨es,clock,h1,h2,h3⟩|⟨l,cs,cs',fr,h1,h2,h3,h4⟩)
   ·exact .inl ⟨es,clock,h1,(i2 _).2 h2,h3⟩
   ·exact .inr ⟨V.renL f l,cs,cs',fr,by rw[h1];rfl,h2,h3,(relL_ren h l cs (zpW hl h1)).2 h4⟩
 ·simp only[i1]
end
def zaa.under (k:Nat)(H:zaa):Bool:=H.all fun b=>match b with|some b=>V.ltL k b.cells|none=>true
theorem zaa.under_at {k:Nat}{H:zaa}(h:zaa.under k H=true){n:Nat}{b:Blk}(hb:H[n]? = some (some b)):V.ltL k b.cells=true:=jBb.1 h (some b) (jIb hb)
section
variable {P:Program}{T:Tab}
structure PartOK (H H0 H1 B:zaa) (g:Nat→Nat):Prop where
  len:B.length=H.length+(H1.length-H0.length)
  old:∀k,k<H0.length→B[g k]? = (H1[k]?).map fun b=>b.map (Blk.ren fun n=>if n<H0.length then g n else H.length+(n-H0.length))
  new:∀k,H0.length≤k→k<H1.length→B[H.length+(k-H0.length)]? = (H1[k]?).map fun b=>b.map (Blk.ren fun n=>if n<H0.length then g n else H.length+(n-H0.length))
  rest:∀j,j<H.length→(∀k,k<H0.length→j≠g k)→B[j]? = H[j]?
theorem zaR.part {M:Mem}{ρ:Ren}{w:World}{F:FuncId}{args:List Value}{vs:List V}{v:V}{H H0 H1 B:zaa}{g:Nat→Nat}(hp:T.Plain)
 (hg:∀k,k<H0.length→g k<H.length)(hi:∀k j,k<H0.length→j<H0.length→g k=g j→k=j)(hin:∀k,k<H0.length→∃b,H0[k]? = some (some b)∧H[g k]? = some (some (b.ren g)))
 (h0:zaa.under H0.length H0=true)(h1:zaa.under H1.length H1=true)(hle:H0.length≤H1.length)(hvs:V.ltL H0.length vs=true)(hv:V.lt H1.length v=true)(hB:PartOK H H0 H1 B g)
 (h:∀(M:Mem)(ρ:Ren)(w:World)(args:List Value),SR T M ρ H0 w→relL M ρ vs args→zaR P T F args.toArray M ρ w (.val v H1))
 (hS:SR T M ρ H w)(hr:relL M ρ (V.renL g vs) args):zaR P T F args.toArray M ρ w (.val (v.ren fun n=>if n<H0.length then g n else H.length+(n-H0.length)) B):=by
 let ρ0:Ren:=(List.range H0.length).map fun k=>(ρ[g k]?).getD (0,0)
 have hρl:ρ.length=H.length:=hS.len;have e0:∀n,n<H0.length→ρ[g n]? = ρ0[n]?:=fun n hn=>by
  have h2:g n<ρ.length:=by rw[hρl];exact hg n hn
  show _=((List.range H0.length).map fun k=>(ρ[g k]?).getD (0,0))[n]?;rw[jUb,List.getElem?_range hn,jXa,jKa h2,jHa]
 have l0:ρ0.length=H0.length:=by show((List.range H0.length).map _).length=_;simp
 have sub:∀b c,(b,c)∈ρ0→∃n,n<H0.length∧ρ[g n]? = some (b,c):=fun b c hm=>by
  obtain⟨n,hn⟩:=List.getElem?_of_mem hm;have hlt:n<H0.length:=by rw[←l0];exact(jGa.1 hn).1
  exact⟨n,hlt,(e0 n hlt).trans hn⟩
 have hS0:SR T M ρ0 H0 w:=by
  refine⟨hS.frozen,l0,fun n blk hn=>?_,fun n m x y b c c' hn hm hb hc=>?_,fun gl l hl=>?_,hS.gint⟩
  ·have hlt:n<H0.length:=(jGa.1 hn).1;obtain⟨b0,hb0,hb1⟩:=hin n hlt;rw[hn]at hb0;cases hb0;obtain⟨b,c,q1,q2,q3,q4⟩:=hS.blk _ _ hb1;exact⟨b,c,(e0 n hlt).symm.trans q1,q2,q3,(zbQ.ren e0 (zaa.under_at h0 hn)).1 q4⟩
  ·have hlt:n<H0.length:=(jGa.1 hn).1;have hlt2:m<H0.length:=(jGa.1 hm).1;obtain⟨b0,hb0,hb1⟩:=hin n hlt;obtain⟨b2,hb2,hb3⟩:=hin m hlt2;exact hi n m hlt hlt2 (hS.inj _ _ _ _ b c c' hb1 hb3 ((e0 n hlt).trans hb) ((e0 m hlt2).trans hc))
  ·obtain⟨cs,ty,fr,q1,q2⟩:=hS.glob gl l hl;exact⟨cs,ty,fr,q1,nlL_rel l cs (hp gl l hl) q2⟩
 have hr0:relL M ρ0 vs args:=(relL_ren e0 vs args hvs).1 hr;refine jTd (h M ρ0 w args hS0 hr0) ?_;rintro e w' ⟨x,M',ρ1,rfl,he,hx,hk⟩;have l1:ρ1.length=H1.length:=hk.len;obtain⟨tl,htl⟩:=he.pre;let f:Nat→Nat:=fun n=>if n<H0.length then g n else H.length+(n-H0.length)
 let ρ':Ren:=ρ++ρ1.drop H0.length;have e1:∀n,n<H1.length→ρ'[f n]? = ρ1[n]?:=fun n hn=>by
  show(ρ++ρ1.drop H0.length)[if n<H0.length then g n else H.length+(n-H0.length)]? = _;by_cases hlt:n<H0.length
  ·rw[if_pos hlt,jQa (by rw[hρl];exact hg n hlt),e0 n hlt];have hn0:ρ0[n]? = some ρ0[n]:=jKa (by rw[l0];exact hlt);rw[zfD he.pre hn0,hn0]
  ·rw[if_neg hlt,jPb (by omega),jOc];congr 1;omega
 have hρ':ρ'.length=B.length:=by
  show(ρ++ρ1.drop H0.length).length=_;rw[jLa,jJa,hρl,l1,hB.len]
 have fin:∀n,n<H1.length→f n<B.length∧B[f n]? = (H1[n]?).map fun b=>b.map (Blk.ren f):=fun n hn=>by
  by_cases hlt:n<H0.length
  ·have ef:f n=g n:=if_pos hlt;rw[ef];exact⟨by rw[hB.len];have:=hg n hlt;omega,hB.old n hlt⟩
  ·have ef:f n=H.length+(n-H0.length):=if_neg hlt;rw[ef];exact⟨by rw[hB.len];omega,hB.new n (by omega) hn⟩
 have cases_:∀m,m<B.length→(∃n,n<H1.length∧m=f n)∨(m<H.length∧∀n,n<H0.length→m≠g n):=fun m hm=>by
  by_cases hlt:m<H.length
  ·by_cases hx:∃n,n<H0.length∧m=g n
   ·obtain⟨n,hn,rfl⟩:=hx;exact .inl ⟨n,by omega,(if_pos hn:f n=g n).symm⟩
   ·exact .inr ⟨hlt,fun n hn e=>hx ⟨n,hn,e⟩⟩
  ·refine .inl ⟨H0.length+(m-H.length),by rw[hB.len]at hm;omega,?_⟩;have:f (H0.length+(m-H.length))=H.length+(H0.length+(m-H.length)-H0.length):=if_neg (by omega);rw[this];omega
 have rest_:∀m,m<H.length→(∀n,n<H0.length→m≠g n)→ρ'[m]? = ρ[m]?:=fun m hm _=>by
  show(ρ++ρ1.drop H0.length)[m]? = _;rw[jQa (by rw[hρl];exact hm)]
 have apart:∀m (y:Blk) b c,H[m]? = some (some y)→(∀n,n<H0.length→m≠g n)→ρ[m]? = some (b,c)→∀c',(b,c')∉ρ0:=fun m y b c hy hne hb c' hm=>by
  obtain⟨n,hn,q⟩:=sub b c' hm;obtain⟨b0,_,q2⟩:=hin n hn;exact hne n hn (hS.inj _ _ _ _ b c c' hy q2 hb q)
 have hpre:ρ <+: ρ':=jMb _ _;have memN:∀b c,(b,c)∈ρ'→(∃c',(b,c')∈ρ)∨w.heap.size≤b:=fun b c hm=>by
  rcases jKd.1 hm with hm|hm
  ·exact .inl ⟨c,hm⟩
  ·rcases he.newR b c (List.mem_of_mem_drop hm)with⟨c',hc'⟩|hge
   ·obtain⟨n,_,q⟩:=sub b c' hc';exact .inl ⟨c',jIb q⟩
   ·exact .inr hge
 have notin:∀b,(∀c,(b,c)∉ρ)→∀c,(b,c)∉ρ0:=fun b hb c hm=>by
  obtain⟨n,_,q⟩:=sub b c hm;exact hb c (jIb q)
 refine⟨x,M',ρ',rfl,⟨he.os,he.tape,he.output,he.size,he.mem,hpre,fun b hb hn=>he.frame b hb (notin b hn),fun b hb hn=>he.newM b hb (notin b hn),memN⟩,(zfE e1 v x hv).2 hx,?_⟩;refine⟨hk.frozen,hρ',fun m blk hm=>?_,fun m m2 y y2 b c c' hm hm2 hb hb2=>?_,fun gl l hl=>?_,hk.gint⟩
 ·have hlt:m<B.length:=(jGa.1 hm).1;rcases cases_ m hlt with⟨n,hn,rfl⟩|⟨hlt2,hne⟩
  ·have hq:=(fin n hn).2;rw[hm]at hq;rcases hb:H1[n]? with _|b1
   ·rw[List.getElem?_eq_none_iff]at hb;omega
   ·rw[hb]at hq;cases b1 with
    |none=>cases hq
    |some b1=>
     simp only[jXa,jNa]at hq;subst hq;obtain⟨b,c,q1,q2,q3,q4⟩:=hk.blk n b1 hb;exact⟨b,c,(e1 n hn).trans q1,q2,q3,(zbQ.ren e1 (zaa.under_at h1 hb)).2 q4⟩
  ·rw[hB.rest m hlt2 hne]at hm;obtain⟨b,c,q1,q2,q3,q4⟩:=hS.blk m blk hm;have ha:=apart m blk b c hm hne q1;refine⟨b,c,(rest_ m hlt2 hne).trans q1,(he.newM b q3 ha).trans q2,Nat.lt_of_lt_of_le q3 he.size,?_⟩;rw[he.frame b q3 ha];exact q4.mono he.mem hpre
 ·have hlt:m<B.length:=(jGa.1 hm).1;have hlt2:m2<B.length:=(jGa.1 hm2).1;have live:∀n,n<H1.length→∀z:Blk,B[f n]? = some (some z)→∃z1,H1[n]? = some (some z1):=fun n hn z hz=>by
   have hq:=(fin n hn).2;rw[hz]at hq;rcases hb:H1[n]? with _|b1
   ·rw[List.getElem?_eq_none_iff]at hb;omega
   ·rw[hb]at hq;cases b1 with
    |none=>cases hq
    |some b1=>exact⟨b1,rfl⟩
  have mix:∀(n m:Nat)(z z2:Blk)(b c c':Nat),n<H1.length→B[f n]? = some (some z)→m<H.length→(∀n,n<H0.length→m≠g n)→B[m]? = some (some z2)→ρ'[f n]? = some (b,c)→ρ'[m]? = some (b,c')→False:=fun n m z z2 b c c' hn hz hm hne hz2 hb hb2=>by
   rw[hB.rest m hm hne]at hz2;rw[rest_ m hm hne]at hb2;rw[e1 n hn]at hb;obtain⟨b',c2,q1,q2,q3,q4⟩:=hS.blk m z2 hz2;rw[hb2]at q1;cases q1;rcases he.newR b c (jIb hb)with⟨c3,hc3⟩|hge
   ·exact apart m z2 b c' hz2 hne hb2 c3 hc3
   ·omega
  rcases cases_ m hlt with⟨n,hn,rfl⟩|⟨hl1,hne⟩
  ·rcases cases_ m2 hlt2 with⟨n2,hn2,rfl⟩|⟨hl2,hne2⟩
   ·obtain⟨z,hz⟩:=live n hn y hm;obtain⟨z2,hz2⟩:=live n2 hn2 y2 hm2;rw[hk.inj n n2 z z2 b c c' hz hz2 ((e1 n hn).symm.trans hb) ((e1 n2 hn2).symm.trans hb2)]
   ·exact absurd (mix n m2 y y2 b c c' hn hm hl2 hne2 hm2 hb hb2) id
  ·rcases cases_ m2 hlt2 with⟨n2,hn2,rfl⟩|⟨hl2,hne2⟩
   ·exact absurd (mix n2 m y2 y b c' c hn2 hm2 hl1 hne hm hb2 hb) id
   ·rw[hB.rest m hl1 hne]at hm;rw[hB.rest m2 hl2 hne2]at hm2;exact hS.inj m m2 y y2 b c c' hm hm2 ((rest_ m hl1 hne).symm.trans hb) ((rest_ m2 hl2 hne2).symm.trans hb2)
 ·obtain⟨cs,ty,fr,q1,q2⟩:=hk.glob gl l hl;exact⟨cs,ty,fr,q1,nlL_rel l cs (hp gl l hl) q2⟩
end
open Go
def zn9 (N n0:Nat)(g:Nat→Nat):Nat→Nat:=fun n=>if n<n0 then g n else N+(n-n0)
def zqp (H H0 H1:zaa)(g:Nat→Nat):zaa:=(List.range (H.length+(H1.length-H0.length))).map fun j=>
 if j<H.length then(match(List.range H0.length).find? (fun k=>g k==j)with
  |some k=>((H1[k]?).getD none).map (Blk.ren (zn9 H.length H0.length g))
  |none=>(H[j]?).getD none)
 else((H1[H0.length+(j-H.length)]?).getD none).map (Blk.ren (zn9 H.length H0.length g))
theorem zgn {H H0 H1:zaa} {g:Nat→Nat} (hg:∀k,k<H0.length→g k<H.length) (hi:∀k j,k<H0.length→j<H0.length→g k=g j→k=j) (hle:H0.length≤H1.length):PartOK H H0 H1 (zqp H H0 H1 g) g:=by
  have at_:∀j,j<H.length+(H1.length-H0.length)→(zqp H H0 H1 g)[j]? = some (if j<H.length then(match(List.range H0.length).find? (fun k=>g k==j)with
    |some k=>((H1[k]?).getD none).map (Blk.ren (zn9 H.length H0.length g))
    |none=>(H[j]?).getD none)
    else((H1[H0.length+(j-H.length)]?).getD none).map (Blk.ren (zn9 H.length H0.length g))):=fun j hj=>by
    unfold zqp
    rw[jUb,List.getElem?_range hj,jXa]
  refine⟨by unfold zqp;simp,fun k hk=>?_,fun k h1 h2=>?_,fun j hj hne=>?_⟩
  · have hgk:=hg k hk
    rw[at_ (g k) (by omega),if_pos hgk]
    have hf:(List.range H0.length).find? (fun k'=>g k'==g k)=some k:=by
      cases hx:(List.range H0.length).find? (fun k'=>g k'==g k)with
      | none=>
        have:=List.find?_eq_none.1 hx k (jCc.2 hk)
        simp at this
      | some k'=>
        have h1:=List.find?_some hx
        have h2:=jCc.1 (List.mem_of_find?_eq_some hx)
        rw[hi k' k h2 hk (by simpa using h1)]
    rw[hf]
    have hlt:k<H1.length:=by omega
    show some (((H1[k]?).getD none).map (Blk.ren (zn9 H.length H0.length g)))=_
    rw[jKa hlt]
    rfl
  · rw[at_ _ (by omega),if_neg (by omega),show H0.length+(H.length+(k-H0.length)-H.length)=k from by omega,jKa h2]
    rfl
  · rw [at_ j (by omega),if_pos hj]
    have hf:(List.range H0.length).find? (fun k'=>g k'==j)=none:=by
      rw[List.find?_eq_none]
      intro k hk
      have:=hne k (jCc.1 hk)
      simp
      exact fun e=>this e.symm
    rw[hf,jKa hj]
    rfl
section
variable {P:Program}{T:Tab}
theorem zbX.part (hp:T.Plain){F:FuncId}{vs:List V}{v:V}{H H0 H1:zaa}{g:Nat→Nat}
 (hg:∀k,k<H0.length→g k<H.length)(hi:∀k j,k<H0.length→j<H0.length→g k=g j→k=j)(hin:∀k,k<H0.length→∃b,H0[k]? = some (some b)∧H[g k]? = some (some (b.ren g)))
 (h0:zaa.under H0.length H0=true)(h1:zaa.under H1.length H1=true)(hle:H0.length≤H1.length)(hvs:V.ltL H0.length vs=true)(hv:V.lt H1.length v=true)
 (h:zbX P T F vs H0 fun r=>r=.val v H1):zbX P T F (V.renL g vs) H fun r=>r=.val (v.ren (zn9 H.length H0.length g)) (zqp H H0 H1 g):=by
 obtain⟨r,rfl,hne,hent,hc⟩:=h;exact⟨_,rfl,by simp,hent,fun M ρ w args hS hr=>zaR.part hp hg hi hin h0 h1 hle hvs hv (zgn hg hi hle) hc hS hr⟩
end
end Go.Ev
