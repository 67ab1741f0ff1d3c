/- One statement of a region, a whole region, a whole function does what the evaluator says. A region in which the tape is drawn from does what the evaluator says on every tape. The evaluator with given answers for some calls, sound if those answers are. Triples over regions: what holds ahead of a region and behind it, with one outcome for all worlds. Rules by which a triple is shown from the statements of a region; regions that turn nothing; the steps of a walk. What is known of a function is a relation between its arguments and its value; such facts serve as answers to calls. -/
import Derived.Test.YtmjplflnlggbeaaGreatDoorEEvStep
namespace Go.Ev
open Go Go.Proofs
set_option linter.unusedSimpArgs false
set_option linter.unusedVariables false
set_option linter.unnecessarySimpa false
open Go
section
variable {P:Program}{T:Tab}{M:Mem}{ρ:Ren}{w:World}{H:zaa}{Q:Exit→Act→World→Prop}{K:Act→World→Prop}{o:Oper}{a:Act}

theorem zlu (hT:TOk P T){ty:TypeId}{ok:Bool}{p v:V}{x:Value}(hx:rel M ρ p x)(h:zdm T ty ok p=some v)(xT:TypeId):∃z,(∀w,(Instr.typeAssert x xT ty ok).run P w=.ok z w)∧rel M ρ v z:=by
 unfold zdm at h;have zero:∀(h:(bif ok then(T.zero ty).map fun z=>V.tup [z,.b false]else none)=some v),ok=true∧∃z,(∀w,(zeroValue ty).run P w=.ok z w)∧rel M ρ v (.tuple #[z,.bool false]):=by
  intro h;cases ok with
  |false=>cases h
  |true=>
   simp only[jVc]at h;cases hz:T.zero ty with
   |none=>rw[hz]at h;cases h
   |some z=>
    rw[hz]at h;cases h;obtain⟨zv,h1,h2⟩:=hT.run_zero hz;refine⟨rfl,zv,h2,?_⟩;simp only[rel,relL];exact⟨[zv,.bool false],rfl,zv,_,rfl,zb4 h1,_,_,rfl,rfl,rfl⟩
 split at h
 ·cases h
 ·cases h
 ·rename_i d hni hd;have hu:=jQb (hT.und _ _ hd);split at h
  ·rename_i t u;simp only[rel]at hx;obtain⟨y,rfl,hy⟩:=hx;split at h
   ·rename_i e;subst e;refine⟨if ok=true then .tuple #[y,.bool true]else y,fun w=>?_,?_⟩
    ·cases d<;>first
      |exact absurd rfl (hni _)
      |(cases ok<;>simp[Instr.typeAssert,hu])
    ·cases ok with
     |true=>
      cases h;simp only[rel,relL];exact⟨[y,.bool true],rfl,y,_,rfl,hy,_,_,rfl,rfl,rfl⟩
     |false=>cases h;exact hy
   ·rename_i e;obtain⟨rfl,z,h1,h2⟩:=zero h;refine⟨_,fun w=>?_,h2⟩;cases d<;>first
     |exact absurd rfl (hni _)
     |simp[Instr.typeAssert,hu,e,h1]
  ·simp only[rel]at hx;subst hx;obtain⟨rfl,z,h1,h2⟩:=zero h;refine⟨_,fun w=>?_,h2⟩;cases d<;>first
    |exact absurd rfl (hni _)
    |simp[Instr.typeAssert,hu,h1]
  ·cases h
theorem zcE (hT:TOk P T) {call:zad} (hcall:call.Sound P T) (hS:SR T M ρ H w) {t:Env} (ht:zik M ρ t a.tmps) {r:OR} (h:zb7 T call o t H=r):zfJ P T o a M ρ w Q K r:=by
  unfold zb7 at h
  simp only[zaX]at h
  split at h
  case h_1 x ho=>subst h;exact zaP (s:=Pure.pure (a.eval x)) (by simp[execOp,ho]) hS fun v hv=>⟨_,by simp,zas ht hv⟩
  case h_2 x ho=>subst h;exact zaP (s:=Pure.pure (a.eval x)) (by simp[execOp,ho]) hS fun v hv=>⟨_,by simp,zas ht hv⟩
  case h_3 c x y ho=>
    split at h
    · rename_i hc
      have:=zas ht hc
      simp only[rel]at this
      subst h
      exact zaP (s:=Pure.pure (a.eval x)) (by simp[execOp,ho,this,asBool]) hS fun v hv=>⟨_,by simp,zas ht hv⟩
    · rename_i hc
      have:=zas ht hc
      simp only[rel]at this
      subst h
      exact zaP (s:=Pure.pure (a.eval y)) (by simp[execOp,ho,this,asBool]) hS fun v hv=>⟨_,by simp,zas ht hv⟩
    · subst h;trivial
  case h_4 e ho=>
    split at h
    · rename_i z hz
      subst h
      obtain⟨zv,hzv,hzr⟩:=hT.run_zero hz
      have hc:=zbi (zb4 (M:=M) (ρ:=ρ) hzv)
      obtain⟨a1,a2,a3⟩:=zf8 (P:=P) hS e hc
      refine zbs (s:=Instr.alloc e true (.tuple #[])) (by simp[execOp,ho]) ⟨.pointer (some ⟨w.heap.size,0,none⟩),_,_,?_,a3,?_,a2⟩
      · have a1':(newRow e zv.cells).run P w=.ok ⟨w.heap.size,0,none⟩ (w.alloc (.cells zv.cells.toList.toArray e)):=by simpa using a1
        simp[Instr.alloc,hzr,newVar,a1']
      · simp only[rel]
        exact⟨w.heap.size,_,by rw[←hS.len,jRc],rfl⟩
    · subst h;trivial
  case h_5 e x ho=>
    split at h
    · rename_i v hv
      split at h
      · subst h
        have hc:=zbi (zas ht hv)
        obtain⟨a1,a2,a3⟩:=zf8 (P:=P) hS e hc
        refine zbs (s:=Instr.box e (a.eval x)) (by simp[execOp,ho]) ⟨.pointer (some ⟨w.heap.size,0,none⟩),_,_,?_,a3,?_,a2⟩
        · have a1':(newRow e (a.eval x).cells).run P w=.ok ⟨w.heap.size,0,none⟩ (w.alloc (.cells (a.eval x).cells.toList.toArray e)):=by simpa using a1
          simp[Instr.box,newVar,a1']
        · simp only[rel]
          exact⟨w.heap.size,_,by rw[←hS.len,jRc],rfl⟩
      · subst h;trivial
    · subst h;trivial
  case h_6 ty parts ho=>
    split at h
    · rename_i ps hps
      have hp:=zeH ht hps
      subst h
      refine zaP (s:=Instr.build ty (parts.map fun(i,x)=>(i,a.eval x))) (by simp[execOp,ho]) hS fun v hv=>?_
      obtain⟨x,hx,hr⟩:=znQ hT hp hv
      have he:(parts.toList.map fun(i,x)=>(i,a.eval x)).toArray=parts.map fun(i,x)=>(i,a.eval x):=by apply jWc;simp
      exact⟨x,by rw[←he];exact hx w,hr⟩
    · subst h;trivial
  case h_7 ty len parts ho=>
    split at h
    · rename_i ps hps
      have hp:=zeH ht hps
      have he:(parts.toList.map fun(i,x)=>(i,a.eval x)).toArray=parts.map fun(i,x)=>(i,a.eval x):=by apply jWc;simp
      cases r with
      |no=>trivial
      | val v H'=>
        have:=zgN hT hS hp h
        rw[he]at this
        exact zbs (by simp[execOp,ho]) this
      | pan v H'=>
        exfalso
        unfold zaE at h
        simp only[zaX]at h
        repeat' (split at h)
        all_goals cases h
    · subst h;trivial
  case h_8 ty x ho=>
    split at h
    · rename_i p hp
      subst h
      refine zaP (s:=Instr.loadAt ty (a.eval x)) (by simp[execOp,ho]) hS fun v hv=>?_
      exact zmM hT hS hv (zas ht hp)
    · subst h;trivial
  case h_9 ty x y ho=>
    split at h
    · rename_i p v hp hv
      split at h
      · rename_i H' hst
        subst h
        intro hK
        obtain⟨w',h1,h2,h3⟩:=zri (P:=P) hT hS hst (zas ht hp) (zas ht hv)
        unfold Oper.wp
        simp only[execOp,ho,jHc,h1,jXb,jGd,Oper.upon]
        exact hK undef M ρ w' h2 za6 h3
      · subst h;trivial
    · subst h;trivial
  case h_10 x ho=>
    split at h<;>first
      |(subst h;trivial)
      | (rename_i hp
         subst h
         have hr:=zas ht hp
         have hr0:=hr
         simp only[rel]at hr
         refine zcn (s:=Pure.pure (a.eval x)) ?_ hS (x:=a.eval x) (by simp) hr0
         first
           |(obtain⟨_,_,_,hx⟩:=hr;simp[execOp,ho,hx];done)
           |(obtain⟨_,_,hx,_⟩:=hr;simp[execOp,ho,hx];done)
           |(obtain⟨_,hx,_⟩:=hr;simp[execOp,ho,hx])
           |(simp[execOp,ho,hr]))
  case h_11 op xT x y yT ho=>
    split at h
    · rename_i p q hp hq
      subst h
      refine zaP (s:=(do eqGuard op xT x y (a.eval x) (a.eval y);binOp op xT (a.eval x) (a.eval y))) (by simp[execOp,ho]) hS fun v hv=>?_
      obtain⟨z,hz,hr⟩:=zpG hT x y (zas ht hp) (zas ht hq) hv
      exact⟨z,hz w,hr⟩
    · subst h;trivial
  case h_12 op xT x ho=>
    split at h
    · rename_i p hp
      subst h
      refine zaP (s:=Op.unary op (a.eval x)) (by simp[execOp,ho]) hS fun v hv=>?_
      obtain⟨z,hz,hr⟩:=zuN (P:=P) (zas ht hp) hv
      exact⟨z,hz w,hr⟩
    · subst h;trivial
  case h_13 src dst x ho=>
    split at h
    · rename_i p hp
      cases r with
      |no=>trivial
      |val v H'=>exact zbs (s:=convert src dst (a.eval x)) (by simp[execOp,ho]) (znS hT hS (zas ht hp) h)
      |pan v H'=>exact absurd h zhF
    · subst h;trivial
  case h_14 ty x ho=>
    split at h
    · subst h;trivial
    · rename_i d v hnot hd hv
      subst h
      refine zcn (s:=Instr.makeInterface ty (a.eval x)) (by simp[execOp,ho]) hS (x:=.iface ty (a.eval x)) ?_ (by simp only[rel];exact⟨_,rfl,zas ht hv⟩)
      simp only[Instr.makeInterface,jHc,hT.run_und hd,jXb]
      simp
    · subst h;trivial
  case h_15 g first captured ho=>
    split at h
    · rename_i cs hf hc
      subst h
      have hr:=zeI ht hc
      refine zcn (s:=Instr.makeFunc (.func g) (first.map a.eval) (captured.map a.eval)) (by simp[execOp,ho]) hS (x:=.func (.func g) #[] (captured.map a.eval)) ?_ ?_
      · have:first=#[]:=by apply jWc;simpa using hf
        simp[Instr.makeFunc,this]
      · simp only[rel]
        exact⟨captured.toList.map a.eval,by congr 1;apply jWc;simp,hr⟩
    · rename_i q l hf hc
      split at h
      · rename_i fs hfs
        subst h
        have hr:=zeI ht hfs
        have hc0:captured.toList=[]:=by
          cases hcl:captured.toList with
          |nil=>rfl
          | cons x r=>
            rw[hcl]at hc
            unfold evs at hc
            repeat' (split at hc)
            all_goals cases hc
        have hce:captured=#[]:=by apply jWc;simpa using hc0
        refine zcn (s:=Instr.makeFunc (.func g) (first.map a.eval) (captured.map a.eval)) (by simp[execOp,ho]) hS (x:=.func (.func g) (first.map a.eval) #[]) ?_ ?_
        · simp[Instr.makeFunc,hce]
        · simp only[rel]
          refine⟨first.toList.map a.eval,by congr 1;apply jWc;simp,?_⟩
          rw[hf]
          exact hr
      · subst h;trivial
    · subst h;trivial
  case h_16 ty l c ho=>
    split at h
    · rename_i p q hp hq
      cases r with
      |no=>trivial
      |val v H'=>exact zbs (by simp[execOp,ho]) (zhI hT hS (zas ht hp) (zas ht hq) h)
      | pan v H'=>
        exfalso
        unfold zbf at h
        simp only[zaX]at h
        repeat' (split at h)
        all_goals cases h
    · subst h;trivial
  case h_17 ty x lo hi mx ho=>
    split at h
    · rename_i p hp
      subst h
      refine zaP (s:=Instr.sliceAt ty (a.eval x) (lo.map a.eval) (hi.map a.eval) (mx.map a.eval)) (by simp[execOp,ho]) hS fun v hv=>?_
      obtain⟨z,hz,hr⟩:=znV hT ht (zas ht hp) hv
      exact⟨z,hz w,hr⟩
    · subst h;trivial
  case h_18 ty x f ho=>
    split at h
    · rename_i p hp
      subst h
      refine zaP (s:=Instr.fieldAt ty (a.eval x) f) (by simp[execOp,ho]) hS fun v hv=>?_
      obtain⟨z,hz,hr⟩:=zhG hT (zas ht hp) hv
      exact⟨z,hz w,hr⟩
    · subst h;trivial
  case h_19 ty x f ho=>
    split at h
    · rename_i p hp
      subst h
      refine zaP (s:=Instr.field ty (a.eval x) f) (by simp[execOp,ho]) hS fun v hv=>?_
      obtain⟨z,hz,hr⟩:=znT hT (zas ht hp) hv
      exact⟨z,hz w,hr⟩
    · subst h;trivial
  case h_20 ty x ix ho=>
    split at h
    · rename_i p q hp hq
      subst h
      refine zaP (s:=Instr.indexAt ty (a.eval x) (a.eval ix)) (by simp[execOp,ho]) hS fun v hv=>?_
      obtain⟨z,hz,hr⟩:=zhH hT (zas ht hp) (zas ht hq) hv
      exact⟨z,hz w,hr⟩
    · subst h;trivial
  case h_21 ty x ix ho=>
    split at h
    · rename_i p q hp hq
      subst h
      refine zaP (s:=Instr.index ty (a.eval x) (a.eval ix)) (by simp[execOp,ho]) hS fun v hv=>?_
      obtain⟨z,hz,hr⟩:=znU hT (zas ht hp) (zas ht hq) hv
      exact⟨z,hz w,hr⟩
    · subst h;trivial
  case h_22 x ix ho=>
    split at h
    · rename_i l hp
      have hr:=zas ht hp
      simp only[rel]at hr
      obtain⟨cs,hx,hcs⟩:=hr
      subst h
      refine zaP (s:=Instr.extract (a.eval x) ix) (by simp[execOp,ho]) hS fun v hv=>?_
      obtain⟨y,hy,hyr⟩:=za2 hcs hv
      exact⟨y,by simp[Instr.extract,hx,hy],hyr⟩
    · subst h;trivial
  case h_23 ty r' ho=>
    have hnew:∀(rv:Option Value),(∀x,rv=some x→∃k n d e,x=.int k n∧P.underlying ty=some (.map d e))→execOp a.eval o=(do Pure.pure (.value (←Instr.makeMap ty rv)))→zfJ P T o a M ρ w Q K (.val (.mp H.length) (H++[some {ty,cells:=[],kind:=.map}])):=by
      intro rv hrv hexec
      have hok:zbQ M ρ (some (.map #[] 0)) {ty,cells:=[],kind:=.map} 0:=by
        unfold zbQ
        exact .inl ⟨[],0,rfl,by simp[zeS],rfl,by simp[zdh]⟩
      have a2:=hS.allocB hS.lt (.map #[] 0) {ty,cells:=[],kind:=.map} 0 hok
      refine zbs hexec ⟨.map (some w.heap.size),_,_,?_,Ext.alloc M ρ w (.map #[] 0) 0,?_,a2⟩
      · have hn:(newObj (.map #[] 0)).run P w=.ok w.heap.size (w.alloc (.map #[] 0)):=by simp[newObj,Sem.run]
        cases rv with
        |none=>simp only[Instr.makeMap,jHc,jGd,jXb,hn]
        | some x=>
          obtain⟨k,n,d,e,rfl,hu⟩:=hrv x rfl
          simp only[Instr.makeMap,jHc,jQb hu,jXb,asInt,asIntOf,jGd,hn]
      · simp only[rel]
        exact⟨w.heap.size,0,by rw[←hS.len,jRc],rfl⟩
    split at h
    · subst h
      exact hnew none (fun x hx=>by cases hx) (by simp[execOp,ho])
    · rename_i rr
      split at h
      · rename_i d e k n hu hn
        subst h
        have hv:=zas ht hn
        simp only[rel]at hv
        exact hnew (some (a.eval rr)) (fun x hx=>by cases hx;exact⟨_,_,_,_,hv,hT.und _ _ hu⟩) (by simp[execOp,ho])
      · subst h;trivial
  case h_24 ty m k v ho=>
    split at h
    · rename_i p q x hp hq hx
      cases r with
      |no=>trivial
      | val u H'=>
        obtain⟨rfl,w',h1,h2,h3⟩:=zgS hT hS (zas ht hp) (zas ht hq) (zas ht hx) h
        intro hK
        unfold Oper.wp
        simp only[execOp,ho,jHc,h1,jXb,jGd,Oper.upon]
        exact hK undef M ρ w' h2 za6 h3
      | pan u H'=>
        exfalso
        unfold zcV at h
        simp only[zcL]at h
        repeat' (split at h)
        all_goals cases h
    · subst h;trivial
  case h_25 ty m k v ho=>
    split at h
    · rename_i p q x hp hq hx
      cases r with
      |no=>trivial
      | val u H'=>
        obtain⟨rfl,w',h1,h2,h3⟩:=zgS hT hS (zas ht hp) (zas ht hq) (zas ht hx) h
        intro hK
        unfold Oper.wp
        simp only[execOp,ho,jHc,h1,jXb,jGd,Oper.upon]
        exact hK undef M ρ w' h2 za6 h3
      | pan u H'=>
        exfalso
        unfold zcV at h
        simp only[zcL]at h
        repeat' (split at h)
        all_goals cases h
    · subst h;trivial
  case h_26 ty m k ok ho=>
    split at h
    · rename_i p q hp hq
      subst h
      refine zaP (s:=Instr.lookup ty (a.eval m) (a.eval k) ok) (by simp[execOp,ho]) hS fun v hv=>?_
      exact zlv hT hS (zas ht hp) (zas ht hq) hv
    · subst h;trivial
  case h_27 c ho=>exact zpH hT hcall hS ht ho h
  case h_28 x ho=>
    split at h
    · rename_i ty v hp
      have hr:=zas ht hp
      have hr0:=hr
      simp only[rel]at hr
      obtain⟨y,hx,hyr⟩:=hr
      subst h
      intro hK
      unfold Oper.wp
      have:(execOp a.eval o).run P w=.halt (.panic (.iface ty y)) w:=by
        simp[execOp,ho,hx,Instr.panic,goPanic,Sem.run]
      rw[this]
      exact hK _ M ρ w (Ext.refl _ _ _) (hx▸hr0) hS
    · subst h;trivial
  case h_29 x xT ty ok ho=>
    split at h
    · rename_i p hp
      subst h
      refine zaP (s:=Instr.typeAssert (a.eval x) xT ty ok) (by simp[execOp,ho]) hS fun v hv=>?_
      obtain⟨z,hz,hr⟩:=zlu hT (zas ht hp) hv xT
      exact⟨z,hz w,hr⟩
    · subst h;trivial
  case h_30=>subst h;trivial

def zkG (M:Mem)(ρ:Ren)(t:Tm)(tmps:Array Value):Prop:=∀k,t.get k=.un∨rel M ρ (t.get k) (tmps.getD k undef)
theorem zaS.weak {t:Tm}{tmps:Array Value}(h:zaS M ρ t tmps):zkG M ρ t tmps:=fun k=>.inr (h.2 k)
theorem zob {M':Mem}{ρ':Ren}{t:Tm}{tmps:Array Value}(hM:M.le M')(hρ:ρ <+: ρ')(h:zkG M ρ t tmps):zkG M' ρ' t tmps:=fun k=>(h k).imp id fun h=>zbx hM hρ _ _ h
def zen (T:Tab)(M:Mem)(ρ:Ren)(w:World)(Q:Exit→Act→World→Prop)(ds:List Deferred):Out→Prop
 | .norm t H'=>∀a' w' M' ρ',Ext M ρ w M' ρ' w'→zaS M' ρ' t a'.tmps→SR T M' ρ' H' w'→a'.defers=ds→Q .normal a' w'
 | .exit id t H'=>∀a' w' M' ρ',Ext M ρ w M' ρ' w'→zaS M' ρ' t a'.tmps→SR T M' ρ' H' w'→a'.defers=ds→Q (.exit id) a' w'
 | .ret t H'=>∀a' w' M' ρ',Ext M ρ w M' ρ' w'→zaS M' ρ' t a'.tmps→SR T M' ρ' H' w'→a'.defers=ds→Q .ret a' w'
 | .pan v t H'=>∀a' w' M' ρ' x,Ext M ρ w M' ρ' w'→zkG M' ρ' t a'.tmps→rel M' ρ' v x→SR T M' ρ' H' w'→a'.defers=ds→Q (.panic [{v:=x,recovered:=false}]) a' w'
 | .no=>False
theorem zen.later {M':Mem}{ρ':Ren}{w':World}(he:Ext M ρ w M' ρ' w'){ds:List Deferred}{r:Out}(h:zen T M ρ w Q ds r):zen T M' ρ' w' Q ds r:=by
 cases r with
 |norm t H=>exact fun a' w2 M2 ρ2 h1=>h a' w2 M2 ρ2 (he.trans h1)
 |exit id t H=>exact fun a' w2 M2 ρ2 h1=>h a' w2 M2 ρ2 (he.trans h1)
 |ret t H=>exact fun a' w2 M2 ρ2 h1=>h a' w2 M2 ρ2 (he.trans h1)
 |pan v t H=>exact fun a' w2 M2 ρ2 x h1=>h a' w2 M2 ρ2 x (he.trans h1)
 |no=>exact h
theorem za8 {ops:Array Oper}{t:Env}(ht:zik M ρ t a.tmps){y:Bool}(h:zaD ops o t=some y):Region.wanted o (yielded ops a.tmps)=y:=by
 unfold zaD at h;unfold Region.wanted;split at h
 ·rename_i hg;rw[hg];cases h;rfl
 ·rename_i j want hg;rw[hg];simp only;unfold yielded;split at h
  ·rename_i hd;rw[hd];cases h;rfl
  ·rename_i d hd;rw[hd];have hr:=ht d;split at h
   ·rename_i z hz;rw[hz]at hr;simp only[rel]at hr;have:a.tmps[d]? = some (.bool z):=by
     rw[jCb]at hr;cases hx:a.tmps[d]? with
     |none=>rw[hx]at hr;cases hr
     |some y=>rw[hx]at hr;simpa using hr
    cases h;simp only[Option.bind_some,this];cases z<;>cases want<;>rfl
   ·rename_i hz;rw[hz]at hr;simp only[rel,relL]at hr;obtain⟨cs,hr,rfl⟩:=hr;cases h;rw[jCb]at hr;simp only[Option.bind_some];cases hx:a.tmps[d]? with
    |none=>simp
    |some y=>
     rw[hx]at hr;simp at hr;subst hr;simp
   ·cases h
theorem zau (a:Act)(d:Option Tmp)(x:Value):(a.put d x).defers=a.defers:=by cases d<;>rfl
theorem zee (hT:TOk P T) {call:zad} (hcall:call.Sound P T) (ops:Array Oper):∀(l:List Oper) (t:Tm) (H:zaa) (a:Act) (w:World) (M:Mem) (ρ:Ren),SR T M ρ H w→zaS M ρ t a.tmps →
    zen T M ρ w Q a.defers (zaK (zb7 T call) ops l t H)→wpList P ops Q l a w
  | [],t,H,a,w,M,ρ,hS,ht,h=>wpList_nil (h a w M ρ (Ext.refl _ _ _) ht hS rfl)
  | o :: r,t,H,a,w,M,ρ,hS,ht,h=>by
    refine wpList_step fun K hK=>?_
    simp only[zaK,zbJ,zbp]at h
    split at h
    · rename_i hw
      rw[za8 ht.2 hw]
      simp only[if_true]
      split at h
      · rename_i v H' hv
        split at h
        · rename_i hfit
          refine zcE hT hcall hS ht.2 (r:=.val v H') hv ?_
          intro x M' ρ' w' he hx hS'
          refine hK _ _ (zee hT hcall ops r _ H' _ w' M' ρ' hS' (zbu (za0 he.mem he.pre ht) hx o.dst hfit) ?_)
          rw[zau]
          exact h.later he
        · exact h.elim
      · rename_i v H' hv
        refine zcE hT hcall hS ht.2 (r:=.pan v H') hv ?_
        intro x M' ρ' w' he hx hS'
        exact h a w' M' ρ' x he (zaS.weak (za0 he.mem he.pre ht)) hx hS' rfl
      · exact h.elim
    · rename_i hw
      rw[za8 ht.2 hw]
      simp only[jSa,if_false]
      split at h
      · rename_i hfit
        refine hK _ _ (zee hT hcall ops r _ H _ w M ρ hS (zbu ht za6 o.dst hfit) ?_)
        rw[zau]
        exact h
      · exact h.elim
    · exact h.elim

def zgw (P:Program)(c:Code)(Q:Exit→Act→World→Prop)(a:Act)(w:World):Prop:=
 ∀(b:Frame)(k:List Item)(cs:List Frame),∃e a' w',Q e a' w'∧Arrives P (lone (b.at a (.code c::.inLoop c::k)) cs w) b k cs e a' w'
theorem zf2 {c:Code}{a:Act}{w:World}(h:zgw P c Q a w):(Code.loop c).wp P Q a w:=fun b k cs=>
 let⟨e,a',w',q,r⟩:=h b k cs;⟨e,a',w',q,.of_steps (.one step_loop) r⟩
theorem zcm {c:Code}{a:Act}{w:World}(h:c.wp P (Exit.then (zgw P c Q) Q) a w):zgw P c Q a w:=by
 intro b k cs;obtain⟨e,a₁,w₁,hq,harr⟩:=h b (.inLoop c::k) cs;cases e with
 |normal=>
  obtain⟨e₂,a₂,w₂,hq₂,harr₂⟩:=hq b k cs;exact⟨e₂,a₂,w₂,hq₂,.of_steps (Steps.trans harr (.one step_inLoop)) harr₂⟩
 |exit id=>exact⟨_,a₁,w₁,hq,.pass (x:=.inLoop c) rfl (fun _ _=>.inl (by simp)) harr⟩
 |goto l=>exact⟨_,a₁,w₁,hq,.pass (x:=.inLoop c) rfl (fun _ _=>.inl (by simp)) harr⟩
 |ret=>exact⟨_,a₁,w₁,hq,.pass (x:=.inLoop c) rfl (fun _ _=>.inl (by simp)) harr⟩
 |panic ch=>exact⟨_,a₁,w₁,hq,.pass (x:=.inLoop c) rfl (fun _ _=>.inl (by simp)) harr⟩
 |outgrown=>exact⟨_,a₁,w₁,hq,.pass (x:=.inLoop c) rfl (fun _ _=>.inl (by simp)) harr⟩
abbrev zoy:=Array Oper→Bool→Tm→zaa→Out
abbrev zrE:=Code→Tm→zaa→Out
def zoy.Sound (P:Program)(T:Tab)(reg:zoy):Prop:=
 ∀id ops d t H a w M ρ Q,SR T M ρ H w→zaS M ρ t a.tmps→zen T M ρ w Q a.defers (reg ops d t H)→(Code.region id ops d).wp P Q a w
def zrE.Sound (P:Program)(T:Tab)(loop:zrE):Prop:=
 ∀c t H a w M ρ Q,SR T M ρ H w→zaS M ρ t a.tmps→zen T M ρ w Q a.defers (loop c t H)→zgw P c Q a w
theorem zbM {reg:zoy} {loop:zrE} (hreg:reg.Sound P T) (hloop:loop.Sound P T):∀(c:Code) (t:Tm) (H:zaa) (a:Act) (w:World) (M:Mem) (ρ:Ren) (Q:Exit→Act→World→Prop),SR T M ρ H w→zaS M ρ t a.tmps →
    zen T M ρ w Q a.defers (zbU reg loop c t H)→c.wp P Q a w∧(∀d,c=.loop d→zgw P d Q a w)
  | .skip,t,H,a,w,M,ρ,Q,hS,ht,h=>⟨wp_skip (h a w M ρ (Ext.refl _ _ _) ht hS rfl),fun d e=>by cases e⟩
  | .label _,t,H,a,w,M,ρ,Q,hS,ht,h=>⟨wp_label (h a w M ρ (Ext.refl _ _ _) ht hS rfl),fun d e=>by cases e⟩
  | .exit id,t,H,a,w,M,ρ,Q,hS,ht,h=>⟨wp_exit (h a w M ρ (Ext.refl _ _ _) ht hS rfl),fun d e=>by cases e⟩
  | .ret,t,H,a,w,M,ρ,Q,hS,ht,h=>⟨wp_ret (h a w M ρ (Ext.refl _ _ _) ht hS rfl),fun d e=>by cases e⟩
  | .region id ops d,t,H,a,w,M,ρ,Q,hS,ht,h=>⟨hreg id ops d t H a w M ρ Q hS ht h,fun d e=>by cases e⟩
  | .seq x y,t,H,a,w,M,ρ,Q,hS,ht,h=>by
    refine⟨wp_seq ((zbM hreg hloop x t H a w M ρ _ hS ht ?_).1),fun d e=>by cases e⟩
    simp only[zbU]at h
    split at h
    · rename_i t' H' hx
      rw[hx]
      intro a' w' M' ρ' he ht' hS' hd
      refine(zbM hreg hloop y t' H' a' w' M' ρ' Q hS' ht' ?_).1
      rw[hd]
      exact h.later he
    · rename_i hne
      cases hx:zbU reg loop x t H with
      |norm t' H'=>exact absurd hx (hne t' H')
      |exit id t' H'=>rw[hx]at h;exact h
      |ret t' H'=>rw[hx]at h;exact h
      |pan v t' H'=>rw[hx]at h;exact h
      |no=>rw[hx]at h;exact h.elim
  | .cond c x y,t,H,a,w,M,ρ,Q,hS,ht,h=>by
    refine⟨?_,fun d e=>by cases e⟩
    simp only[zbU]at h
    split at h
    · rename_i hc
      have:=zas ht.2 hc
      simp only[rel]at this
      exact wp_cond_true this (zbM hreg hloop x t H a w M ρ Q hS ht h).1
    · rename_i hc
      have:=zas ht.2 hc
      simp only[rel]at this
      exact wp_cond_false this (zbM hreg hloop y t H a w M ρ Q hS ht h).1
    · exact h.elim
  | .block id c,t,H,a,w,M,ρ,Q,hS,ht,h=>by
    refine⟨wp_block ((zbM hreg hloop c t H a w M ρ _ hS ht ?_).1),fun d e=>by cases e⟩
    simp only[zbU]at h
    cases hx:zbU reg loop c t H with
    |norm t' H'=>rw[hx]at h;exact h
    | exit j t' H'=>
      rw[hx]at h
      simp only at h
      intro a' w' M' ρ' he ht' hS' hd
      simp only[Exit.inBlock]
      split at h
      · rename_i e
        rw[if_pos e]
        exact h a' w' M' ρ' he ht' hS' hd
      · rename_i e
        rw[if_neg e]
        exact h a' w' M' ρ' he ht' hS' hd
    |ret t' H'=>rw[hx]at h;exact h
    |pan v t' H'=>rw[hx]at h;exact h
    |no=>rw[hx]at h;exact h.elim
  | .loop c,t,H,a,w,M,ρ,Q,hS,ht,h=>by
    have key:zgw P c Q a w:=by
      refine zcm ((zbM hreg hloop c t H a w M ρ _ hS ht ?_).1)
      simp only[zbU]at h
      split at h
      · rename_i t' H' hx
        rw[hx]
        intro a' w' M' ρ' he ht' hS' hd
        refine hloop c t' H' a' w' M' ρ' Q hS' ht' ?_
        rw[hd]
        exact h.later he
      · rename_i hne
        cases hx:zbU reg loop c t H with
        |norm t' H'=>exact absurd hx (hne t' H')
        |exit id t' H'=>rw[hx]at h;exact h
        |ret t' H'=>rw[hx]at h;exact h
        |pan v t' H'=>rw[hx]at h;exact h
        |no=>rw[hx]at h;exact h.elim
    exact⟨zf2 key,fun d e=>by cases e;exact key⟩
  | .rangeFunc ..,_,_,_,_,_,_,_,_,_,h=>h.elim
  | .scope ..,_,_,_,_,_,_,_,_,_,h=>h.elim
  | .goto ..,_,_,_,_,_,_,_,_,_,h=>h.elim
  | .refuse ..,_,_,_,_,_,_,_,_,_,h=>h.elim

theorem ze2 {reg:zoy}(hreg:reg.Sound P T):∀n,zrE.Sound P T (zgR reg n)
 |0=>fun _ _ _ _ _ _ _ _ _ _ h=>h.elim
 |n+1=>fun c t H a w M ρ Q hS ht h=>(zbM hreg (ze2 hreg n) (.loop c) t H a w M ρ Q hS ht h).2 c rfl
theorem zgT (hT:TOk P T)(hS:SR T M ρ H w){t:Env}{tmps:Array Value}(ht:zik M ρ t tmps){r:ResultVar}{v:V}(h:zci T t H r=some v) :
 ∃x,(match r with | .tmp k=>Pure.pure (tmps.getD k undef) | .cell b ty=>do loadVar ty (←asAddr (tmps.getD b undef)):Sem Value).run P w=.ok x w∧rel M ρ v x:=by
 cases r with
 |tmp k=>
  simp only[zci,jNa]at h;subst h;exact⟨_,by simp,ht k⟩
 |cell b ty=>
  simp only[zci]at h;obtain⟨y,hy,hr⟩:=zmM hT hS h (ht b);refine⟨y,?_,hr⟩;have hx:=ht b;simp only[Instr.loadAt,jHc]at hy ⊢;cases hv:tmps.getD b undef with
  |pointer ad=>
   rw[hv]at hy;cases ad with
   |none=>simp[Instr.sureAddr,stuck]at hy
   |some ad=>simpa[Instr.sureAddr,asAddr]using hy
  |_=>rw[hv]at hy;simp[Instr.sureAddr,stuck]at hy
def zmJ:ResultVar→Bool
 | .cell .. =>true
 |_=>false
theorem zki (hT:TOk P T)(hS:SR T M ρ H w){t:Tm}{tmps:Array Value}(ht:zkG M ρ t tmps){r:ResultVar}(hc:zmJ r=true){v:V}(h:zci T t.get H r=some v) :
 ∃x,(match r with | .tmp k=>Pure.pure (tmps.getD k undef) | .cell b ty=>do loadVar ty (←asAddr (tmps.getD b undef)):Sem Value).run P w=.ok x w∧rel M ρ v x:=by
 cases r with
 |tmp k=>cases hc
 |cell b ty=>
  rcases ht b with hb|hb
  ·simp only[zci,hb]at h;simp[zah]at h
  ·refine zgT (P:=P) (r:=.cell 0 ty) (t:=fun k=>if k=0 then t.get b else .un) (tmps:=#[tmps.getD b undef]) hT hS (fun k=>?_) (v:=v) (by simpa[zci]using h);by_cases hk:k=0
   ·subst hk;simpa using hb
   ·show rel M ρ (if k=0 then t.get b else .un) _;rw[if_neg hk];have:(#[tmps.getD b undef]:Array Value).getD k undef=undef:=by
     rw[jCb,Array.getElem?_eq_none (by simp;omega)];rfl
    rw[this];exact za6
theorem ze3 (hT:TOk P T) (hS:SR T M ρ H w) {t:Tm} {tmps:Array Value} (ht:zkG M ρ t tmps):∀{l:List ResultVar} {vs:List V},l.all zmJ=true→zbg T t.get H l=some vs →
    ∃xs,(l.mapM (m:=Sem) fun r=>match r with | .tmp k=>Pure.pure (tmps.getD k undef) | .cell b ty=>do loadVar ty (←asAddr (tmps.getD b undef))).run P w=.ok xs w∧relL M ρ vs xs
  | [],vs,_,h=>by simp only[zbg,jNa]at h;subst h;exact⟨[],by simp,by simp[relL]⟩
  | r :: l,vs,hc,h=>by
    simp only[zbg]at h
    simp only[List.all_cons,jMa]at hc
    split at h
    · rename_i x l' hx hl
      cases h
      obtain⟨y,hy,hr⟩:=zki hT hS ht hc.1 hx
      obtain⟨ys,hys,hrs⟩:=ze3 hT hS ht hc.2 hl
      refine⟨y::ys,?_,zaw hr hrs⟩
      simp only[List.mapM_cons,jHc,hy,jXb,hys,jGd]
    · cases h
theorem zfR (hT:TOk P T) (hS:SR T M ρ H w) {t:Env} {tmps:Array Value} (ht:zik M ρ t tmps):∀{l:List ResultVar} {vs:List V},zbg T t H l=some vs →
    ∃xs,(l.mapM (m:=Sem) fun r=>match r with | .tmp k=>Pure.pure (tmps.getD k undef) | .cell b ty=>do loadVar ty (←asAddr (tmps.getD b undef))).run P w=.ok xs w∧relL M ρ vs xs
  | [],vs,h=>by simp only[zbg,jNa]at h;subst h;exact⟨[],by simp,by simp[relL]⟩
  | r :: l,vs,h=>by
    simp only[zbg]at h
    split at h
    · rename_i x l' hx hl
      cases h
      obtain⟨y,hy,hr⟩:=zgT hT hS ht hx
      obtain⟨ys,hys,hrs⟩:=zfR hT hS ht hl
      refine⟨y::ys,?_,zaw hr hrs⟩
      simp only[List.mapM_cons,jHc,hy,jXb,hys,jGd]
    · cases h
end
open Go
section
variable {P:Program}{T:Tab}

def Gam.Sound (P:Program)(T:Tab)(G:Gam):Prop:=
 ∀f vs H r,G f vs H=some r→r≠.no→Go.Proofs.Enters P f∧∀M ρ w args,SR T M ρ H w→relL M ρ vs args→zaR P T f args.toArray M ρ w r
theorem zin {M:Mem} {ρ:Ren} {w:World} {H:zaa} {t:Env} {tmps:Array Value} {fn:Func} (hall:∀vs,zbg T t H fn.results.toList=some vs→∃xs,(fn.results.toList.mapM (m:=Sem) fun r=>match r with | .tmp k=>Pure.pure (tmps.getD k undef) | .cell b ty=>do loadVar ty (←asAddr (tmps.getD b undef))).run P w=.ok xs w∧relL M ρ vs xs) {v:V} {H':zaa} (h:zaZ T fn t H=.val v H') :
    H'=H∧∃x,(results fn tmps).run P w=.ok x w∧rel M ρ v x:=by
  unfold zaZ at h
  have hmm:∀{xs:List Value},(fn.results.toList.mapM (m:=Sem) fun r=>match r with | .tmp k=>Pure.pure (tmps.getD k undef) | .cell b ty=>do loadVar ty (←asAddr (tmps.getD b undef))).run P w=.ok xs w →
      (results fn tmps).run P w=.ok (if h:xs.toArray.size=1 then xs.toArray[0]else .tuple xs.toArray) w:=by
    intro xs hxs
    simp only[results,Array.mapM_eq_mapM_toList,jHc]
    refine(congrArg (fun r=>Result.andThen r _) (zm3 List.toArray _ hxs)).trans ?_
    rfl
  split at h
  · rename_i y hy
    cases h
    obtain⟨xs,hxs,hr⟩:=hall _ hy
    simp only[relL]at hr
    obtain⟨x,r,rfl,hx,rfl⟩:=hr
    exact⟨rfl,x,by simpa using hmm hxs,hx⟩
  · rename_i l hl hy
    cases h
    obtain⟨xs,hxs,hr⟩:=hall _ hy
    have hlen:=zam hr
    have hne:¬xs.toArray.size=1:=by
      intro h1
      simp at h1
      rw[hlen]at h1
      obtain⟨z,rfl⟩:=List.length_eq_one_iff.1 h1
      exact hl z rfl
    refine⟨rfl,.tuple xs.toArray,?_,by simp only[rel];exact⟨xs,rfl,hr⟩⟩
    have:=hmm hxs
    rwa [dif_neg hne]at this
  · cases h
theorem za3 (hT:TOk P T){M:Mem}{ρ:Ren}{w:World}{H:zaa}(hS:SR T M ρ H w){t:Env}{tmps:Array Value}(ht:zik M ρ t tmps){fn:Func}{v:V}{H':zaa}(h:zaZ T fn t H=.val v H') :
 H'=H∧∃x,(results fn tmps).run P w=.ok x w∧rel M ρ v x:=zin (fun _ hy=>zfR hT hS ht hy) h
theorem zlW (hT:TOk P T){M:Mem}{ρ:Ren}{w:World}{H:zaa}(hS:SR T M ρ H w){t:Tm}{tmps:Array Value}(ht:zkG M ρ t tmps){fn:Func}(hc:fn.results.toList.all zmJ=true){v:V}{H':zaa}(h:zaZ T fn t.get H=.val v H') :
 H'=H∧∃x,(results fn tmps).run P w=.ok x w∧rel M ρ v x:=zin (fun _ hy=>ze3 hT hS ht hc hy) h
theorem zcx {T:Tab}{fn:Func}{t:Env}{H H':zaa}{v:V}:zaZ T fn t H≠.pan v H':=by
 unfold zaZ;split<;>simp
def zad.SoundE (P:Program)(T:Tab)(call:zad):Prop:=
 ∀f vs H r,call f vs H=r→r≠.no→Go.Proofs.Enters P f∧∀M ρ w args,SR T M ρ H w→relL M ρ vs args→zaR P T f args.toArray M ρ w r
theorem zad.SoundE.sound {call:zad}(h:call.SoundE P T):call.Sound P T:=fun f vs H r h1 h2=>.inl (h f vs H r h1 h2)
theorem zkh (hT:TOk P T){reg:zad→zoy}(hreg:∀call:zad,call.Sound P T→zoy.Sound P T (reg call)){G:Gam}(hG:G.Sound P T):∀n,zad.SoundE P T (zb1 T reg G n)
 |0=>fun f vs H r h hr=>absurd h.symm hr
 |n+1=>by
  have ih:=(zkh hT hreg hG n).sound;intro f vs H r h hr;simp only[zb1]at h;split at h
  ·rename_i r' hg;subst h;exact hG f vs H _ hg hr
  ·split at h
   ·exact absurd h.symm hr
   ·rename_i fn hfn;split at h
    ·exact absurd h.symm hr
    ·rename_i c hc;obtain⟨hf,hent⟩:=hT.func f fn c hfn hc;refine⟨hent,fun M ρ w args hS hargs=>?_⟩;have hR:=hreg _ ih;have hL:=ze2 (P:=P) (T:=T) hR n;cases hw:Nat.ble vs.length fn.ntmps with
     |false=>rw[hw]at h;exact absurd h.symm hr
     |true=>
     rw[hw]at h;simp only[jVc]at h;have hle:vs.length≤fn.ntmps:=Nat.le_of_ble_eq_true hw;have hl:=zam hargs;have htm:zaS M ρ (Tm.init fn.ntmps vs) (args.toArray++Array.replicate (fn.ntmps-args.toArray.size) undef):=by
      refine⟨by simp[Tm.init];omega,fun k=>?_⟩;simp only[Tm.init,Tm.get];rw[Tr.get_fill,if_pos (Nat.zero_le _),Nat.sub_zero];simp only[Tr.get,jCb];by_cases hk:k<vs.length
      ·rw[Array.getElem?_append_left (by simp;omega)];obtain⟨x,hx,hxr⟩:=za2 hargs (i:=k) (v:=vs[k]) (jKa hk);rw[jKa hk];simp only[jEd,hx,jHa];exact hxr
      ·rw [jGc (by omega)];have:((args.toArray++Array.replicate (fn.ntmps-args.toArray.size) undef)[k]?).getD undef=undef:=by
        rw[Array.getElem?_append_right (by simp;omega),jXc];split<;>rfl
       rw[this];exact za6
     have key:=fun R=>zbM (P:=P) (T:=T) hR hL c (Tm.init fn.ntmps vs) H {tmps:=args.toArray++Array.replicate (fn.ntmps-args.toArray.size) undef,defers:=[]} w M ρ (bodyPost P fn R) hS htm;cases hev:zbU (reg (zb1 T reg G n)) (zgR (reg (zb1 T reg G n)) n) c (Tm.init fn.ntmps vs) H with
     |norm t' H'=>
      rw[hev]at h;simp only at h;cases r with
      |no=>trivial
      |pan v H2=>exact absurd h zcx
      |val v H2=>
       refine calls_of_wp hf hc ((key _ ?_).1);rw[hev];intro a' w' M' ρ' he ht' hS' hd;obtain⟨rfl,x,hx,hxr⟩:=za3 hT hS' ht'.2 h;exact⟨hd,x,hx,x,M',ρ',rfl,he,hxr,hS'⟩
     |ret t' H'=>
      rw[hev]at h;simp only at h;cases r with
      |no=>trivial
      |pan v H2=>exact absurd h zcx
      |val v H2=>
       refine calls_of_wp hf hc ((key _ ?_).1);rw[hev];intro a' w' M' ρ' he ht' hS' hd;obtain⟨rfl,x,hx,hxr⟩:=za3 hT hS' ht'.2 h;exact⟨hd,x,hx,x,M',ρ',rfl,he,hxr,hS'⟩
     |pan v t' H'=>
      rw[hev]at h;simp only at h;subst h;refine calls_of_wp hf hc ((key _ ?_).1);rw[hev];intro a' w' M' ρ' x he _ hx hS' hd;exact⟨hd,x,M',ρ',rfl,he,hx,hS'⟩
     |exit id t' H'=>rw[hev]at h;exact absurd h.symm hr
     |no=>rw[hev]at h;exact absurd h.symm hr
theorem zlx (hT:TOk P T) {call:zad} (hcall:call.Sound P T) {id:Nat} {ops:Array Oper} {t:Tm} {H:zaa} {a:Act} {w:World} {M:Mem} {ρ:Ren} {Q:Exit→Act→World→Prop} (hS:SR T M ρ H w) (ht:zaS M ρ t a.tmps)
    (h:zen T M ρ w Q a.defers (zaK (zb7 T call) ops ops.toList t H)):(Code.region id ops false).wp P Q a w:=
  wp_region_list (zee hT hcall ops ops.toList t H a w M ρ hS ht h)
end
open Go

mutual
def V.beq:V→V→Bool
  | .i k n,.i k' n'=>decide (k=k')&&decide (n=n')
  | .b x,.b y=>x==y
  | .s l,.s l'=>decide (l=l')
  | .agg l,.agg l'=>V.beqL l l'
  | .tup l,.tup l'=>V.beqL l l'
  | .nilp,.nilp=>true
  | .nils,.nils=>true
  | .nilf,.nilf=>true
  | .nili,.nili=>true
  | .nilm,.nilm=>true
  | .emp,.emp=>true
  | .ptr n o,.ptr n' o'=>n==n'&&o==o'
  | .sl n z o l c,.sl n' z' o' l' c'=>n==n'&&z==z'&&o==o'&&l==l'&&decide (c=c')
  | .fn g l,.fn g' l'=>g==g'&&V.beqL l l'
  | .ifc t v,.ifc t' v'=>t==t'&&V.beq v v'
  | .isl z l,.isl z' l'=>z==z'&&V.beqL l l'
  | .ipt z l j o,.ipt z' l' j' o'=>z==z'&&V.beqL l l'&&j==j'&&o==o'
  | .gp g o,.gp g' o'=>g==g'&&o==o'
  | .mp n,.mp n'=>n==n'
  | .yld n,.yld n'=>n==n'
  | .itr n,.itr n'=>n==n'
  | .bfn g l,.bfn g' l'=>g==g'&&V.beqL l l'
  |_,_=>false
def V.beqL:List V→List V→Bool
  | [],[]=>true
  |v::l,v'::l'=>V.beq v v'&&V.beqL l l'
  |_,_=>false
end
mutual
theorem V.beq_refl:∀v:V,V.beq v v=true
  | .i .. =>by simp[V.beq]
  | .b .. =>by simp[V.beq]
  | .s .. =>by simp[V.beq]
  | .agg l=>by simp[V.beq,V.beqL_refl l]
  | .tup l=>by simp[V.beq,V.beqL_refl l]
  | .nilp=>by simp[V.beq]
  | .nils=>by simp[V.beq]
  | .nilf=>by simp[V.beq]
  | .nili=>by simp[V.beq]
  | .nilm=>by simp[V.beq]
  | .emp=>by simp[V.beq]
  | .ptr .. =>by simp[V.beq]
  | .sl .. =>by simp[V.beq]
  | .fn g l=>by simp[V.beq,V.beqL_refl l]
  | .ifc t v=>by simp[V.beq,V.beq_refl v]
  | .isl z l=>by simp[V.beq,V.beqL_refl l]
  | .ipt z l j o=>by simp[V.beq,V.beqL_refl l]
  | .gp .. =>by simp[V.beq]
  | .mp .. =>by simp[V.beq]
  | .yld .. =>by simp[V.beq]
  | .itr .. =>by simp[V.beq]
  | .bfn g l=>by simp[V.beq,V.beqL_refl l]
theorem V.beqL_refl:∀l:List V,V.beqL l l=true
  | []=>by simp[V.beqL]
  |v::l=>by simp[V.beqL,V.beq_refl v,V.beqL_refl l]
end
mutual
theorem V.beq_eq:∀(v u:V),V.beq v u=true→v=u:=fun v u h=>by
  cases v<;>cases u<;>simp[V.beq]at h<;>first
    |rfl
    |(obtain⟨rfl,rfl⟩:=h;rfl)
    |(subst h;rfl)
    |(obtain⟨⟨⟨⟨rfl,rfl⟩,rfl⟩,rfl⟩,rfl⟩:=h;rfl)
    |(rename_i l l';rw[V.beqL_eq l l' h])
    |(rename_i g l g' l';obtain⟨rfl,h⟩:=h;rw[V.beqL_eq l l' h])
    |(rename_i t v t' v';obtain⟨rfl,h⟩:=h;rw[V.beq_eq v v' h])
    |(rename_i z l j o z' l' j' o';obtain⟨⟨⟨rfl,h⟩,rfl⟩,rfl⟩:=h;rw[V.beqL_eq l l' h])
theorem V.beqL_eq:∀(l l':List V),V.beqL l l'=true→l=l'
  | [],[],_=>rfl
  | [],_::_,h=>by simp[V.beqL]at h
  |_::_,[],h=>by simp[V.beqL]at h
  | v::l,v'::l',h=>by
    simp[V.beqL]at h
    rw[V.beq_eq v v' h.1,V.beqL_eq l l' h.2]
end

def zaa.beq:zaa→zaa→Bool
 | [],[]=>true
 |none::l,none::l'=>zaa.beq l l'
 |some x::l,some y::l'=>x.ty==y.ty&&V.beqL x.cells y.cells&&decide (x.kind=y.kind)&&zaa.beq l l'
 |_,_=>false
theorem zaa.beq_refl:∀H:zaa,zaa.beq H H=true
 | []=>rfl
 |none::l=>by simp[zaa.beq,zaa.beq_refl l]
 |some x::l=>by simp[zaa.beq,V.beqL_refl,zaa.beq_refl l]
theorem zaa.beq_eq:∀(H H':zaa),zaa.beq H H'=true→H=H'
 | [],[],_=>rfl
 | [],_::_,h=>by simp[zaa.beq]at h
 |_::_,[],h=>by simp[zaa.beq]at h
 |none::l,none::l',h=>by simp[zaa.beq]at h;rw[zaa.beq_eq l l' h]
 |none::l,some _::l',h=>by simp[zaa.beq]at h
 |some _::l,none::l',h=>by simp[zaa.beq]at h
 |some x::l,some y::l',h=>by
  obtain⟨tx,cx,kx⟩:=x;obtain⟨ty,cy,ky⟩:=y;simp[zaa.beq]at h;obtain⟨⟨⟨rfl,h1⟩,rfl⟩,h2⟩:=h;rw[V.beqL_eq _ _ h1,zaa.beq_eq l l' h2]
def ze9:Op→Bool
 | .alloc _ | .box .. | .buildSlice .. | .makeSlice .. | .store .. | .panic _ | .makeMap .. | .mapUpdate .. | .insert .. =>true
 | .convert src _ _=>Nat.beq src 9
 | .call {callee:=.builtin .len,..} | .call {callee:=.builtin .max,..} | .call {callee:=.builtin .min,..}=>false
 | .call _=>true
 |_=>false
def looks:Op→Bool
 | .load .. | .convert .. | .lookup .. =>true
 |op=>ze9 op
structure Rec where
  o:Oper
  t:Env
  v:V
  w:Bool
  e:Bool

noncomputable def zbz (step:Oper→Env→zaa→OR)(ops:Array Oper):List Oper→Tm→zaa→Option (List Rec×List zaa×Tm)
 | [],t,H=>some ([],[H],t)
 |o::r,t,H=>match zaD ops o t.get with
  |some true=>match step o t.get H with
   | .val v H'=>zmT o.op v fun v=>match zvn t o.dst v none fun t'=>zbz step ops r t' H' with
    |some (rs,Hs,tf)=>if ze9 o.op && !zaa.beq H' H then some (⟨o,t.get,v,true,true⟩::rs,H::Hs,tf)else some (⟨o,t.get,v,true,false⟩::rs,Hs,tf)
    |none=>none
   |_=>none
  |some false=>match zvn t o.dst .un none fun t'=>zbz step ops r t' H with
   |some (rs,Hs,tf)=>some (⟨o,t.get,.un,false,false⟩::rs,Hs,tf)
   |none=>none
  |none=>none
def zcO (o:Oper):List Nat:=(o.after.toList.filter fun e=>Region.binds .any e).map (·.on)
def zbt:List Oper→List Nat→List Nat
 | [],acc=>acc
 |o::r,acc=>zbt r (acc++[(zcO o).foldl (fun s e=>s ||| 2^e ||| acc.getD e 0) 0])
def zth (ops:Array Oper)(o:Oper):List Nat:=o.looksAt ops
def zqV (r:OR)(v:V)(H:zaa):Bool:=
 match r with
 | .val u H'=>V.beq u v&&zaa.beq H' H
 |_=>false
def zaH:List Rec→Nat→List Nat
 | [],_=>[]
 |r::rs,k=>if r.e then k::zaH rs (k+1)else zaH rs (k+1)
def zcT (rs:List Rec):List Nat:=zaH rs 0
def zbF (l:List Oper)(ops:Array Oper)(ms:List Nat):Bool:=
 let n:=l.length
 let bef:=fun i j=>(ms.getD i 0).testBit j
 (List.range n).all fun i=>match l[i]? with
  |none=>false
  |some oi=>
   (zcO oi).all (fun e=>decide (e<i)) &&
   (List.range n).all (fun j=>i==j||match l[j]? with
    |none=>false
    |some oj=>match oj.dst with
     |none=>true
     |some d=>decide (oi.dst≠some d)&&(!(zth ops oi).contains d||(if j<i then bef i j else bef j i)))
def zgJ (step:Oper→Env→zaa→OR)(ms:List Nat)(rs:List Rec)(Hs:List zaa):Bool:=
 let n:=rs.length
 let bef:=fun i j=>(ms.getD i 0).testBit j
 let es:=zcT rs
 (List.range n).all fun i=>match rs[i]? with
  |none=>false
  |some ri=>
   (if ri.e then es.all (fun p=>decide (p≤i∨bef p i=true))
    else !(looks ri.o.op&&ri.w)||(List.range (es.length+1)).all (fun q=>
     !(decide ((es.filter fun p=>bef i p).length≤q)&&decide (q≤(es.filter fun p=>!bef p i).length)) ||
     match Hs[q]? with
     |some Hq=>zqV (step ri.o ri.t Hq) ri.v Hq
     |none=>false))
noncomputable def zgP (step:Oper→Env→zaa→OR) (ops:Array Oper) (t:Tm) (H:zaa):Out:=
  match zbz step ops ops.toList t H with
  | some (rs,Hs,tf)=>if(zbF ops.toList ops (zbt ops.toList [])&&((zcT rs).isEmpty||zgJ step (zbt ops.toList []) rs Hs))=true then match Hs.getLast? with
      |some H'=>.norm tf H'
      |none=>.no
    else .no
  |none=>.no


def zcN (t:Env):List Rec→(Nat→Bool)→Env
 | [],_=>t
 |r::rs,L=>zcN (if L 0 then put t r.o.dst r.v else t) rs (fun j=>L (j+1))
theorem zfr:∀(rs:List Rec)(t:Env)(L L':Nat→Bool)(d:Nat),(∀(j:Nat)(r:Rec),rs[j]? = some r→r.o.dst=some d→L j=L' j)→(∀t':Env,t' d=t d→(zcN t rs L) d=(zcN t' rs L') d)
 | [],t,L,L',d,h,t',ht=>ht.symm
 |r::rs,t,L,L',d,h,t',ht=>by
  simp only[zcN];refine zfr rs _ _ _ d (fun j r' hj hd=>h (j+1) r' (by simpa using hj) hd) _ ?_;cases hd:r.o.dst with
  |none=>simp[put,ht]
  |some e=>
   by_cases he:e=d
   ·subst he;have:=h 0 r rfl hd;rw[this];cases L' 0 with
    |false=>simpa using ht
    |true=>simp[put]
   ·have he':¬d=e:=fun h=>he h.symm;have e1:(if L 0 then put t (some e) r.v else t) d=t d:=by split<;>simp[put,he']
    have e2:(if L' 0 then put t' (some e) r.v else t') d=t' d:=by split<;>simp[put,he']
    rw[e1,e2,ht]
theorem zsU (t:Env){d e:Nat}(h:e≠d)(v u:V):put (put t (some d) v) (some e) u=put (put t (some e) u) (some d) v:=by
 funext k;simp only[put];by_cases h1:k=d
 ·subst h1;have:¬k=e:=fun e'=>h e'.symm;simp[this]
 ·simp[h1]
theorem zmt:∀(rs:List Rec)(t:Env)(L:Nat→Bool)(d:Nat)(v:V),(∀(j:Nat)(r:Rec),rs[j]? = some r→r.o.dst≠some d)→zcN (put t (some d) v) rs L=put (zcN t rs L) (some d) v
 | [],t,L,d,v,h=>rfl
 |r::rs,t,L,d,v,h=>by
  simp only[zcN];have h0:=h 0 r rfl;have:(if L 0 then put (put t (some d) v) r.o.dst r.v else put t (some d) v)=put (if L 0 then put t r.o.dst r.v else t) (some d) v:=by
   split
   ·cases hd:r.o.dst with
    |none=>rfl
    |some e=>
     have:e≠d:=fun e'=>h0 (by rw[hd,e']);exact zsU t this v r.v
   ·rfl
  rw[this,zmt rs _ _ d v (fun j r' hj=>h (j+1) r' (by simpa using hj))]
theorem ziP:∀(rs:List Rec) (t:Env) (L L':Nat→Bool) (i:Nat) (r:Rec),rs[i]? = some r→L i=false→(∀j,L' j=(L j||j==i))→(∀(j:Nat) (q:Rec),j≠i→rs[j]? = some q→∀d,q.o.dst=some d→r.o.dst≠some d) →
    zcN t rs L'=put (zcN t rs L) r.o.dst r.v
  | [],t,L,L',i,r,hi,_,_,_=>by simp at hi
  | q :: rs,t,L,L',0,r,hi,hL,hL',hd=>by
    simp at hi
    subst hi
    simp only[zcN,hL,hL' 0,jVd,beq_self_eq_true,if_true,jSa,if_false]
    have:(fun j=>L' (j+1))=fun j=>L (j+1):=by funext j;simp[hL' (j+1)]
    rw[this]
    cases hq:q.o.dst with
    |none=>rfl
    | some d=>
      exact zmt rs t _ d q.v (fun j r' hj e=>hd (j+1) r' (by omega) (by simpa using hj) d e hq)
  | q::rs,t,L,L',i+1,r,hi,hL,hL',hd=>by
    simp only[zcN]
    have h0:L' 0=L 0:=by rw[hL' 0];simp
    rw[h0]
    exact ziP rs _ (fun j=>L (j+1)) (fun j=>L' (j+1)) i r (by simpa using hi) hL (fun j=>by rw[hL' (j+1)];congr 1;simp) (fun j q' hj hq=>hd (j+1) q' (by omega) (by simpa using hq))

def cnt (rs:List Rec)(i:Nat):Nat:=((rs.take i).filter (·.e)).length
theorem zcU:∀(rs:List Rec)(k i:Nat),((zaH rs k).filter fun p=>decide (p<k+i)).length=cnt rs i
 | [],k,i=>by simp[zaH,cnt]
 |r::rs,k,0=>by
  have h:∀(rs:List Rec)(m:Nat),∀p∈zaH rs m,m≤p:=by
   intro rs;induction rs with
   |nil=>intro m p hp;simp[zaH]at hp
   |cons r rs ih=>
    intro m p hp;simp only[zaH]at hp;split at hp
    ·simp at hp;rcases hp with rfl|hp
     ·exact jDb _
     ·have:=ih (m+1) p hp;omega
    ·have:=ih (m+1) p hp;omega
  have:(zaH (r::rs) k).filter (fun p=>decide (p<k+0))=[]:=by
   rw[List.filter_eq_nil_iff];intro p hp;have:=h _ _ p hp;simp;omega
  rw[this];simp[cnt]
 |r::rs,k,i+1=>by
  have ih:=zcU rs (k+1) i;have e:(fun p=>decide (p<k+(i+1)))=fun p=>decide (p<k+1+i):=by funext p;congr 1;simp;omega
  rw[e];simp only[zaH,cnt,jUc,jDc];split
  ·rename_i hr;rw[jDc,if_pos (by simp;omega),jIa,jIa,ih];rfl
  ·rename_i hr;rw[ih];rfl
structure Ran (step:Oper→Env→zaa→OR) (ops:Array Oper) (t:Tm) (H:zaa) (l:List Oper) (rs:List Rec) (Hs:List zaa) (tf:Tm):Prop where
  opers:rs.map (·.o)=l
  seen:∀(i:Nat)(r:Rec),rs[i]? = some r→r.t=zcN t.get rs (fun j=>decide (j<i))
  last:tf.get=zcN t.get rs (fun _=>true)
  wide:tf.wid=t.wid
  fits:∀(i:Nat)(r:Rec),rs[i]? = some r→t.fits r.o.dst=true
  off:∀(i:Nat)(r:Rec),rs[i]? = some r→r.w=false→zaD ops r.o r.t=some false∧r.v=.un∧r.e=false
  on:∀(i:Nat)(r:Rec),rs[i]? = some r→r.w=true→zaD ops r.o r.t=some true∧∃Hk H',Hs[cnt rs i]? = some Hk∧step r.o r.t Hk=.val r.v H'∧(r.e=true→Hs[cnt rs i+1]? = some H')∧(r.e=false→H'=Hk)
  heaps:Hs.length=cnt rs rs.length+1
  first:Hs[0]? = some H

theorem zeD {step:Oper→Env→zaa→OR} {ops:Array Oper} (hq:∀o t H v H',ze9 o.op=false→step o t H=.val v H'→H'=H):∀(l:List Oper) (t:Tm) (H:zaa) (rs:List Rec) (Hs:List zaa) (tf:Tm),zbz step ops l t H=some (rs,Hs,tf)→Ran step ops t H l rs Hs tf
  | [],t,H,rs,Hs,tf,h=>by
    simp only[zbz,jNa,jZa]at h
    obtain⟨rfl,rfl,rfl⟩:=h
    exact⟨rfl,by simp,rfl,rfl,by simp,by simp,by simp,by simp[cnt],rfl⟩
  | o :: r, t, H,rs,Hs,tf,h=>by
    have build:∀(v:V) (w e:Bool) (H':zaa) (rs':List Rec) (Hs':List zaa),t.fits o.dst=true→Ran step ops (t.put o.dst v) H' r rs' Hs' tf→(w=false→zaD ops o t.get=some false∧v=.un∧e=false)→(w=true→zaD ops o t.get=some true∧step o t.get H=.val v H')→(e=false→H'=H) →
        Ran step ops t H (o::r) (⟨o,t.get,v,w,e⟩::rs') (if e then H::Hs' else Hs') tf:=by
      intro v w e H' rs' Hs' hfit ih hoff hon he
      have hcnt:∀i,cnt (⟨o,t.get,v,w,e⟩::rs') (i+1)=(if e then 1 else 0)+cnt rs' i:=by
        intro i
        simp only[cnt,jUc,jDc]
        cases e<;>simp;omega
      have hget:∀k,(if e then H::Hs' else Hs')[(if e then 1 else 0)+k]? = Hs'[k]?:=by
        intro k
        cases e
        · simp
        · simp[Nat.add_comm 1 k]
      refine⟨by simp[ih.opers],?_,?_,by rw[ih.wide,Tm.wid_put],?_,?_,?_,?_,?_⟩
      · intro i q hi
        cases i with
        | zero=>
          simp at hi
          subst hi
          have:∀(rs:List Rec) (t:Env),zcN t rs (fun _=>false)=t:=by
            intro rs
            induction rs with
            |nil=>intro t;rfl
            |cons r rs ih=>intro t;simp only[zcN];exact ih t
          simp only[jLd,decide_false]
          exact(this _ _).symm
        | succ i=>
          have:=ih.seen i q (by simpa using hi)
          rw[this,Tm.get_put]
          simp only[zcN,Nat.zero_lt_succ,jCd,if_true,Nat.add_lt_add_iff_right]
      · rw[ih.last,Tm.get_put]
        simp[zcN]
      · intro i q hi
        cases i with
        |zero=>simp at hi;subst hi;exact hfit
        | succ i=>
          have:=ih.fits i q (by simpa using hi)
          cases hq:q.o.dst with
          |none=>rfl
          |some d=>rw[hq]at this;simpa[Tm.fits]using this
      · intro i q hi hw
        cases i with
        |zero=>simp at hi;subst hi;exact hoff hw
        |succ i=>exact ih.off i q (by simpa using hi) hw
      · intro i q hi hw
        cases i with
        | zero=>
          simp at hi
          subst hi
          obtain⟨h1,h2⟩:=hon hw
          refine⟨h1,H,H',?_,h2,?_,he⟩
          · cases e with
            |false=>simp[cnt];rw[ih.first,he rfl]
            |true=>simp[cnt]
          · intro he'
            subst he'
            simp[cnt,ih.first]
        | succ i=>
          obtain⟨h1,Hk,H2,h2,h3,h4,h5⟩:=ih.on i q (by simpa using hi) hw
          refine⟨h1,Hk,H2,by rw[hcnt,hget,h2],h3,fun hh=>?_,h5⟩
          rw[hcnt,jQc,hget]
          exact h4 hh
      · simp only[jIa]
        rw[hcnt]
        have:=ih.heaps
        cases e<;>simp[this];omega
      · cases e with
        |false=>simp[ih.first,he rfl]
        |true=>simp
    simp only[zbz,zbJ,zbp]at h
    split at h
    · rename_i hw
      split at h
      · rename_i v H' hv
        split at h
        · rename_i rs' Hs' tf' hr
          split at hr
          case isFalse=>cases hr
          rename_i hfit
          have ih:=zeD hq r _ _ _ _ _ hr
          split at h
          · cases h
            have:=build v true true H' rs' Hs' hfit ih (by simp) (fun _=>⟨hw,hv⟩) (by simp)
            simpa using this
          · rename_i hne
            cases h
            have:=build v true false H' rs' Hs hfit ih (by simp) (fun _=>⟨hw,hv⟩) (fun _=>by
              by_cases hE:ze9 o.op=true
              · simp only[hE,jSd,jLc]at hne
                exact zaa.beq_eq _ _ (by simpa using hne)
              · exact hq o t.get H v H' (by simpa using hE) hv)
            simpa using this
        · cases h
      · cases h
    · rename_i hw
      split at h
      · rename_i rs' Hs' tf' hr
        split at hr
        case isFalse=>cases hr
        rename_i hfit
        have ih:=zeD hq r _ _ _ _ _ hr
        cases h
        have:=build .un false false H rs' Hs hfit ih (fun _=>⟨hw,rfl,rfl⟩) (by simp) (fun _=>rfl)
        simpa using this
      · cases h
    · cases h

noncomputable def zc7 (T:Tab)(call:zad):zoy:=fun ops d t H=>if d then zgP (zb7 T call) ops t H else zaK (zb7 T call) ops ops.toList t H
noncomputable def zcw (T:Tab)(G:Gam):Nat→zad:=zb1 T (zc7 T) G
open Go
section
variable {P:Program}{T:Tab}

theorem ze5 {t t':Env}:∀{l:List Operand},(∀x∈l,ev1 t x=ev1 t' x)→evs t l=evs t' l
 | [],_=>rfl
 |o::r,h=>by simp only[evs,h o (by simp),ze5 (l:=r) (fun x hx=>h x (by simp[hx]))]
theorem zdo {t t':Env}:∀{l:List (Nat×Operand)},(∀x∈l.map (·.2),ev1 t x=ev1 t' x)→zcc t l=zcc t' l
 | [],_=>rfl
 |(i,o)::r,h=>by simp only[zcc,h o (by simp),zdo (l:=r) (fun x hx=>h x (by simp at hx ⊢;exact .inr hx))]
theorem zgz {t t':Env}{m d:Nat}:∀{o:Option Operand},(∀x∈o.toList,ev1 t x=ev1 t' x)→zbK t m d o=zbK t' m d o
 |none,_=>rfl
 |some o,h=>by simp only[zbK,h o (by simp)]
theorem zi1 {t t':Env}{ty:TypeId}{p:V}{lo hi mx:Option Operand}(h1:∀x∈lo.toList,ev1 t x=ev1 t' x)(h2:∀x∈hi.toList,ev1 t x=ev1 t' x):zco T ty t p lo hi mx=zco T ty t' p lo hi mx:=by
 unfold zco;simp only[zgz h1,zgz h2]
theorem zkf {call:zad}{c:Call}{t t':Env}{H:zaa}(h:∀x∈c.operands,ev1 t x=ev1 t' x):zb0 T call c t H=zb0 T call c t' H:=by
 have h1:evs t c.args.toList=evs t' c.args.toList:=ze5 fun x hx=>h x (by simp only[Call.operands,Array.mem_append];exact .inr (by simpa using hx));unfold zb0;rw[h1];cases hc:c.callee with
 |value f=>
  have:=h f (by simp[Call.operands,hc]);simp only[this]
 |builtin b=>cases b<;>rfl
 |invoke r m=>
  have:=h r (by simp[Call.operands,hc]);simp only[this]
theorem zfv {call:zad} {o:Oper} {t t':Env} {H:zaa} (h:∀x∈o.op.operands,ev1 t x=ev1 t' x):zb7 T call o t H=zb7 T call o t' H:=by
  unfold zb7
  cases ho:o.op<;>rw[ho]at h<;>simp only[Op.operands]at h
  case build ty ps=>simp only[zdo (l:=ps.toList) (fun x hx=>h x (by simpa using hx))]
  case buildSlice ty n ps=>simp only[zdo (l:=ps.toList) (fun x hx=>h x (by simpa using hx))]
  case call c=>exact zkf h
  case makeMap ty r=>
    cases r with
    |none=>rfl
    |some o=>simp only[h o (by simp)]
  case makeFunc fn first captured=>
    cases fn with
    | func g=>
      simp only[ze5 (l:=captured.toList) (fun x hx=>h x (by simp only[Array.mem_append];exact .inr (by simpa using hx)))]
      split
      · rfl
      · rename_i x r hf _
        rw[←hf,ze5 (l:=first.toList) (fun x hx=>h x (by simp only[Array.mem_append];exact .inl (by simpa using hx)))]
      · rfl
    |_=>rfl
  case slice ty x lo hi mx=>
    have hx:=h x (by simp)
    have h1:∀y∈lo.toList,ev1 t y=ev1 t' y:=fun y hy=>h y (by simp at hy ⊢;simp[hy])
    have h2:∀y∈hi.toList,ev1 t y=ev1 t' y:=fun y hy=>h y (by simp at hy ⊢;simp[hy])
    have h3:∀p,zco T ty t p lo hi mx=zco T ty t' p lo hi mx:=fun p=>zi1 h1 h2
    simp only[hx,h3]
  all_goals first
    |rfl
    | (simp only[List.mem_toArray,jOb,List.not_mem_nil,or_false,forall_eq_or_imp,jYa]at h
       first
         |(obtain⟨h1,h2,h3⟩:=h;simp only[h1,h2,h3];done)
         |(obtain⟨h1,h2⟩:=h;simp only[h1,h2];done)
         |(simp only[h];done))

theorem zeL {ops:Array Oper}{o:Oper}{t t':Env}(h:∀d∈o.looksAt ops,t d=t' d):∀x∈o.op.operands,ev1 t x=ev1 t' x:=by
 intro x hx;cases x with
 |tmp d=>exact congrArg some<|h d (List.mem_append_left _ (List.mem_filterMap.2 ⟨.tmp d,by simpa using hx,rfl⟩))
 |_=>rfl
theorem zhy {ops:Array Oper}{o:Oper}{t t':Env}(h:∀d∈o.looksAt ops,t d=t' d):zaD ops o t=zaD ops o t':=by
 unfold zaD;cases hg:o.guard with
 |none=>rfl
 |some gw=>
  obtain⟨g,want⟩:=gw;simp only;cases hd:(ops[g]?).bind (·.dst)with
  |none=>rfl
  |some d=>
   have:=h d (jQd _ (by simp[hg,hd]));simp only[this]
theorem zfa {r:Option V}{H H':zaa}{v:V}(h:lift r H=.val v H'):r=some v∧H'=H:=by
 cases r with
 |none=>cases h
 |some u=>cases h;exact⟨rfl,rfl⟩
theorem ziZ {src dst:TypeId}{p v:V}{H H':zaa}(hq:Nat.beq src 9=false)(h:zaT T src dst p H=.val v H'):H'=H:=by
 unfold zaT at h;repeat' (split at h)
 all_goals first
  |exact(zfa h).2
  |(cases h;rfl)
  |(rename_i hc;rw[hq]at hc;exact absurd hc.1 (by simp))
  |(rename_i hc;rw[hq]at hc;cases hc)
  |cases h
theorem zoa {call:zad}{o:Oper}{t:Env}{H H':zaa}{v:V}(hq:ze9 o.op=false)(h:zb7 T call o t H=.val v H'):H'=H:=by
 unfold zb7 at h;split at h;all_goals first
  |(rename_i ho;rw[ho]at hq;simp[ze9]at hq;done)
  |skip
 case h_13 src dst x ho=>
  rw[ho]at hq;split at h
  ·exact ziZ hq h
  ·cases h
 case h_27 c ho=>
  rw[ho]at hq;unfold zb0 at h;split at h
  ·cases h
  ·split at h;all_goals first
    |(rename_i hc;obtain⟨cal,cargs,cty⟩:=c;simp only at hc;subst hc;simp[ze9]at hq;done)
    |skip
   all_goals
    repeat' (split at h)
    all_goals first
     |exact(zfa h).2
     |cases h
 all_goals
  repeat' (split at h)
  all_goals first
   |exact(zfa h).2
   |(cases h;rfl)
   |cases h
theorem zqs {call:zad}{o:Oper}{t:Env}{H H':zaa}{v:V}(hq:looks o.op=false)(h:zb7 T call o t H=.val v H')(H2:zaa):zb7 T call o t H2=.val v H2:=by
 unfold zb7 at h ⊢;split at h;all_goals first
  |(rename_i ho;rw[ho]at hq;simp[looks,ze9]at hq;done)
  |skip
 case h_27 c ho=>
  rw[ho]at hq;unfold zb0 at h ⊢;split at h
  ·cases h
  ·split at h;all_goals first
    |(rename_i hc;obtain⟨cal,cargs,cty⟩:=c;simp only at hc;subst hc;simp[looks,ze9]at hq;done)
    |skip
   all_goals
    repeat' (split at h)
    all_goals first
     |(simp only[(zfa h).1,lift];done)
     |cases h
 all_goals
  repeat' (split at h)
  all_goals first
   |(simp only[(zfa h).1,lift];done)
   |(cases h;rfl)
   |cases h
end
open Go
section
variable {P:Program}{T:Tab}

theorem zky:∀(l:List Oper)(acc:List Nat),acc <+: zbt l acc
 | [],acc=>jHb _
 |o::r,acc=>by
  simp only[zbt];exact(jMb _ _).trans (zky r _)
theorem zi7 {a b:List Nat}(h:a <+: b){k:Nat}(hk:k<a.length):b.getD k 0=a.getD k 0:=by
 obtain⟨t,rfl⟩:=h;simp[jMc,jQa hk]
theorem zmA (acc:List Nat)(j:Nat):∀(es:List Nat)(s:Nat),((es.foldl (fun s e=>s ||| 2^e ||| acc.getD e 0) s).testBit j)=true→s.testBit j=true∨∃e∈es,j=e∨(acc.getD e 0).testBit j=true
 | [],s,h=>.inl h
 |e::es,s,h=>by
  simp only[List.foldl_cons]at h;rcases zmA acc j es _ h with h|⟨e',he,h⟩
  ·simp only[Nat.testBit_or,jNc,Nat.testBit_two_pow,jTa]at h;rcases h with(h|h)|h
   ·exact .inl h
   ·exact .inr ⟨e,by simp,.inl h.symm⟩
   ·exact .inr ⟨e,by simp,.inr h⟩
  ·exact .inr ⟨e',by simp[he],h⟩
theorem zfB:∀(l:List Oper)(acc:List Nat)(i:Nat)(o:Oper)(j:Nat),l[i]? = some o→((zbt l acc).getD (acc.length+i) 0).testBit j=true→∃e∈zcO o,j=e∨((zbt l acc).getD e 0).testBit j=true
 | [],_,_,_,_,h,_=>by simp at h
 |o'::r,acc,0,o,j,h,hb=>by
  simp at h;subst h;simp only[zbt,jNd]at hb ⊢;have hp:=zky r (acc++[(zcO o').foldl (fun s e=>s ||| 2^e ||| acc.getD e 0) 0]);rw[zi7 hp (by simp)]at hb;simp only[jMc,jRc,jHa]at hb;rcases zmA acc j _ _ (by simpa[jMc]using hb)with h|⟨e,he,h⟩
  ·simp at h
  ·refine ⟨e,he,h.imp id fun h=>?_⟩;have hlt:e<acc.length:=by
    rcases Nat.lt_or_ge e acc.length with h'|h'
    ·exact h'
    ·rw[jMc,jGc h']at h;simp at h
   rw[zi7 hp (by simp;omega)];have:(acc++[(zcO o').foldl (fun s e=>s ||| 2^e ||| acc.getD e 0) 0]).getD e 0=acc.getD e 0:=zi7 (jMb _ _) hlt;rw[this];exact h
 |o'::r,acc,i+1,o,j,h,hb=>by
  simp only[zbt]at hb ⊢;exact zfB r _ i o j (by simpa using h) (by rw[show(acc++[(zcO o').foldl (fun s e=>s ||| 2^e ||| acc.getD e 0) 0]).length+i=acc.length+(i+1)from by simp;omega];exact hb)
theorem zkk {l:List Nat}{p q:Nat→Bool}(h:∀x∈l,p x=true→q x=true):(l.filter p).length≤(l.filter q).length:=by
 induction l with
 |nil=>simp
 |cons x l ih=>
  have ih:=ih fun y hy=>h y (by simp[hy]);have hx:=h x (by simp);simp only[jDc];cases hp:p x<;>cases hq:q x<;>simp_all<;>omega
theorem zdt:∀(rs:List Rec)(k p:Nat),p∈zaH rs k→∃j r,p=k+j∧rs[j]? = some r∧r.e=true
 | [],_,_,h=>by simp[zaH]at h
 |r::rs,k,p,h=>by
  simp only[zaH]at h;split at h
  ·rename_i he;simp at h;rcases h with rfl|h
   ·exact⟨0,r,rfl,rfl,he⟩
   ·obtain⟨j,q,rfl,hj,hq⟩:=zdt rs (k+1) p h;exact⟨j+1,q,by omega,by simpa using hj,hq⟩
  ·obtain⟨j,q,rfl,hj,hq⟩:=zdt rs (k+1) p h;exact⟨j+1,q,by omega,by simpa using hj,hq⟩
theorem zgf:∀(rs:List Rec)(k j:Nat)(r:Rec),rs[j]? = some r→r.e=true→k+j∈zaH rs k
 | [],_,_,_,h,_=>by simp at h
 |q::rs,k,0,r,h,he=>by simp at h;subst h;simp[zaH,he]
 |q::rs,k,j+1,r,h,he=>by
  have:=zgf rs (k+1) j r (by simpa using h) he;simp only[zaH];split
  ·exact jYb _ (by rwa [show k+(j+1)=k+1+j from by omega])
  ·rwa [show k+(j+1)=k+1+j from by omega]
theorem zhY:∀(rs:List Rec)(k:Nat),(zaH rs k).Nodup∧∀p∈zaH rs k,k≤p
 | [],_=>by simp[zaH]
 |r::rs,k=>by
  obtain⟨h1,h2⟩:=zhY rs (k+1);simp only[zaH];split
  ·refine⟨List.nodup_cons.2 ⟨fun h=>by have:=h2 _ h;omega,h1⟩,fun p hp=>?_⟩;rcases jOb.1 hp with rfl|hp
   ·exact jDb _
   ·have:=h2 _ hp;omega
  ·exact⟨h1,fun p hp=>by have:=h2 _ hp;omega⟩
structure Free (step:Oper→Env→zaa→OR) (ops:Array Oper) (bef:Nat→Nat→Bool) (rs:List Rec) (Hs:List zaa):Prop where
  edge:∀(i:Nat)(r:Rec),rs[i]? = some r→∀e∈zcO r.o,e<i
  slot:∀(i j:Nat)(r q:Rec),rs[i]? = some r→rs[j]? = some q→i≠j→∀d,q.o.dst=some d→r.o.dst≠some d∧(d∈zth ops r.o→if j<i then bef i j=true else bef j i=true)
  chain:∀(i:Nat)(r:Rec),rs[i]? = some r→r.e=true→∀p∈zcT rs,p≤i∨bef p i=true
  quiet:∀(i:Nat)(r:Rec),rs[i]? = some r→r.e=false→r.w=true→looks r.o.op=true→∀q,((zcT rs).filter fun p=>bef i p).length≤q→q≤((zcT rs).filter fun p=>!bef p i).length→q≤(zcT rs).length→∃Hq,Hs[q]? = some Hq∧step r.o r.t Hq=.val r.v Hq

theorem zlo {step:Oper→Env→zaa→OR}{ops:Array Oper}{ms:List Nat}{rs:List Rec}{Hs:List zaa}{t:Tm}{H:zaa}{tf:Tm}(R:Ran step ops t H ops.toList rs Hs tf)(h:zbF ops.toList ops ms=true)(h':(zcT rs).isEmpty=true∨zgJ step ms rs Hs=true):Free step ops (fun i j=>(ms.getD i 0).testBit j) rs Hs:=by
 have hop:∀{i:Nat}{r:Rec},rs[i]? = some r→ops.toList[i]? = some r.o:=by
  intro i r hi;have:(rs.map (·.o))[i]? = some r.o:=by simp[hi]
  rwa [R.opers]at this
 have hall:∀(i:Nat)(o:Oper),ops.toList[i]? = some o→_:=fun i r hi=>by
  have hlt:=(jGa.1 hi).1;have:=jBb.1 h i (jCc.2 hlt);simp only[hi]at this;exact this
 have hdyn:zgJ step ms rs Hs=true→∀(i:Nat)(r:Rec),rs[i]? = some r→_:=fun h i r hi=>by
  have hlt:=(jGa.1 hi).1;have:=jBb.1 h i (jCc.2 hlt);simp only[hi]at this;exact this
 refine⟨?_,?_,?_,?_⟩
 ·intro i r hi e he;have:=hall i r.o (hop hi);simp only[jMa]at this;simpa using jBb.1 this.1 e he
 ·intro i j r q hi hj hne d hd;have:=hall i r.o (hop hi);simp only[jMa]at this;have hlt:=(jGa.1 (hop hj)).1;have:=jBb.1 this.2 j (jCc.2 hlt);simp only[hop hj,hd,jNc,jMa,jOa,jTa,jLc,List.contains_eq_mem,jKc]at this;rcases this with e|⟨h1,h2⟩
  ·exact absurd e hne
  ·refine⟨h1,fun hd=>?_⟩;rcases h2 with h2|h2
   ·exact absurd hd h2
   ·split<;>simp_all
 ·intro i r hi he p hp;rcases h' with h'|h'
  ·rw[List.isEmpty_iff.1 h']at hp;cases hp
  have:=hdyn h' i r hi;simp only[he,if_true]at this;simpa using jBb.1 this p hp
 ·intro i r hi he hw hl q h1 h2 h3;rcases h' with h'|h'
  ·have h0:=List.isEmpty_iff.1 h';rw[h0]at h3;have hq:q=0:=by simpa using h3
   subst hq;obtain⟨_,Hk,H',hk,hs,_,h5⟩:=R.on i r hi hw;have hc:cnt rs i=0:=by
    have:=zcU rs 0 i;rw[←this,show zaH rs 0=[]from h0];rfl
   rw[hc]at hk;rw[h5 he]at hs;exact⟨Hk,hk,hs⟩
  have:=hdyn h' i r hi;simp only[he,hw,hl,jSa,if_false,Bool.and_true,Bool.not_true,jVd]at this;have:=jBb.1 this q (jCc.2 (by omega));simp only[h1,h2,jCd,Bool.and_true,Bool.not_true,jVd]at this;split at this
  ·rename_i Hq hq;refine⟨Hq,hq,?_⟩;unfold zqV at this;split at this
   ·rename_i u H' hs;simp only[jMa]at this;rw[hs,V.beq_eq _ _ this.1,zaa.beq_eq _ _ this.2]
   ·cases this
  ·cases this
end
open Go
section
variable {P:Program}{T:Tab}

theorem zmr:∀(rs:List Rec)(t:Env)(L L':Nat→Bool),(∀j,j<rs.length→L j=L' j)→zcN t rs L=zcN t rs L'
 | [],_,_,_,_=>rfl
 |r::rs,t,L,L',h=>by
  simp only[zcN,h 0 (by simp)];exact zmr rs _ _ _ fun j hj=>h (j+1) (by simp;omega)
theorem zc4 {l:List Nat}{L L':Nat→Bool}(h:∀p∈l,L' p=L p):(l.filter L').length=(l.filter L).length:=by
 rw[List.filter_congr h]
theorem zeW:∀{l:List Nat}{L L':Nat→Bool}{i:Nat},l.Nodup→i∈l→L i=false→(∀j,L' j=(L j||j==i))→(l.filter L').length=(l.filter L).length+1
 | [],_,_,_,_,h,_,_=>by simp at h
 |x::l,L,L',i,hn,hi,hL,hL'=>by
  rw[List.nodup_cons]at hn;by_cases hx:x=i
  ·subst hx;have h1:L' x=true:=by rw[hL'];simp
   simp only[jDc,h1,hL,if_true,jSa,if_false,jIa];rw[zc4 (L:=L) (L':=L') fun p hp=>by
    rw[hL'];have:p≠x:=fun e=>hn.1 (e▸hp);simp[this]]
  ·have hi':i∈l:=by
    rcases jOb.1 hi with h|h
    ·exact absurd h.symm hx
    ·exact h
   have ih:=zeW hn.2 hi' hL hL';have h1:L' x=L x:=by rw[hL'];simp[hx]
   simp only[jDc,h1];split<;>simp[ih]
theorem zfc (a:Act)(d:Option Tmp)(x:Value):(a.put d x).tmps.size=a.tmps.size:=by cases d<;>simp[Act.put]
theorem zpK (hT:TOk P T) {call:zad} (hcall:call.Sound P T) {id:Nat} {ops:Array Oper} {t:Tm} {H:zaa} {a:Act} {w:World} {M:Mem} {ρ:Ren} {Q:Exit→Act→World→Prop} (hS:SR T M ρ H w) (ht:zaS M ρ t a.tmps)
    (h:zen T M ρ w Q a.defers (zgP (zb7 T call) ops t H)):(Code.region id ops true).wp P Q a w:=by
  unfold zgP at h
  split at h
  case h_2=>exact h.elim
  rename_i rs Hs tf hrun
  split at h
  case isFalse=>exact h.elim
  rename_i hok
  split at h
  case h_2=>exact h.elim
  rename_i Hl hlast
  have R:=zeD (fun o t H v H' hq hh=>zoa hq hh) ops.toList t H rs Hs tf hrun
  simp only[jMa,jNc]at hok
  have F:=zlo R hok.1 hok.2
  generalize hbefd:(fun i j=>((zbt ops.toList []).getD i 0).testBit j)=bef at F
  have hlen:rs.length=ops.size:=by have:=congrArg List.length R.opers;simpa using this
  have hop:∀{i:Nat} {r:Rec},rs[i]? = some r→ops[i]? = some r.o:=by
    intro i r hi
    have:(rs.map (·.o))[i]? = some r.o:=by simp[hi]
    rw[R.opers]at this
    simpa using this
  have hbef:∀(i:Nat) (r:Rec) (j:Nat),rs[i]? = some r→bef i j=true→∃e∈zcO r.o,j=e∨bef e j=true:=by
    intro i r j hi hb
    subst hbefd
    exact zfB ops.toList [] i r.o j (by simpa using hop hi) (by simpa using hb)
  have hget:∀{i:Nat},i<rs.length→∃r,rs[i]? = some r:=fun hi=>⟨_,jKa hi⟩
  have hin:∀(L:Nat→Bool),(∀i r,rs[i]? = some r→L i=true→∀e∈zcO r.o,L e=true)→∀(i:Nat) (r:Rec) (j:Nat),rs[i]? = some r→(∀e∈zcO r.o,L e=true)→bef i j=true→L j=true:=by
    intro L hcl i
    induction i using Nat.strongRecOn with
    | _ i ih=>
      intro r j hi he hb
      obtain⟨e,hem,hj⟩:=hbef i r j hi hb
      rcases hj with rfl|hj
      · exact he _ hem
      · have hlt:=F.edge i r hi e hem
        obtain⟨re,hre⟩:=hget (i:=e) (by have:=(jGa.1 hi).1;omega)
        exact ih e hlt re j hre (hcl e re hre (he e hem)) hj
  refine wp_region_any hT.mixed ?_
  have key : ∀ (fuel : Nat) (listed:Array Bool) (a':Act) (w':World) (M':Mem) (ρ':Ren),listed.size=ops.size →
      (∀i r,rs[i]? = some r→listed.getD i false=true→∀e∈zcO r.o,listed.getD e false=true) →
      ((List.range ops.size).filter fun i=>!listed.getD i false).length≤fuel→Ext M ρ w M' ρ' w' →
      zik M' ρ' (zcN t.get rs fun j=>listed.getD j false) a'.tmps→a'.tmps.size=t.wid →
      (∃Hq,Hs[((zcT rs).filter fun p=>listed.getD p false).length]? = some Hq∧SR T M' ρ' Hq w')→a'.defers=a.defers →
      wpAny P .any ops Q fuel listed a' w':=by
    have fin:∀(listed:Array Bool) (a':Act) (w':World) (M':Mem) (ρ':Ren),(∀i,i<ops.size→listed.getD i false=true)→Ext M ρ w M' ρ' w'→zik M' ρ' (zcN t.get rs fun j=>listed.getD j false) a'.tmps→a'.tmps.size=t.wid →
        (∃Hq,Hs[((zcT rs).filter fun p=>listed.getD p false).length]? = some Hq∧SR T M' ρ' Hq w')→a'.defers=a.defers→Q .normal a' w':=by
      intro listed a' w' M' ρ' hall hext hrel hsize hheap hdef
      obtain⟨Hq,hq,hS'⟩:=hheap
      have e1:zcN t.get rs (fun j=>listed.getD j false)=tf.get:=by
        rw[R.last]
        exact zmr rs t.get _ _ fun j hj=>hall j (by omega)
      have e2:((zcT rs).filter fun p=>listed.getD p false).length=cnt rs rs.length:=by
        have:=zcU rs 0 rs.length
        rw[←this]
        refine zc4 fun p hp=>?_
        obtain⟨j,r,rfl,hj,_⟩:=zdt rs 0 p hp
        have hlt:=(jGa.1 hj).1
        rw[hall _ (by omega)]
        simp;omega
      have e3:Hl=Hq:=by
        rw[List.getLast?_eq_getElem?,R.heaps,Nat.add_sub_cancel,←e2,hq]at hlast
        exact(jWa hlast).symm
      rw[e1]at hrel
      subst e3
      exact h a' w' M' ρ' hext ⟨by rw[R.wide,hsize],hrel⟩ hS' hdef
    have hready:∀(listed:Array Bool) (i:Nat),listed.size=ops.size→(i∈Region.ready .any ops listed↔∃r,rs[i]? = some r∧listed.getD i false=false∧∀e∈zcO r.o,listed.getD e false=true):=by
      intro listed i hsz
      unfold Region.ready
      rw[List.mem_filter,jCc]
      constructor
      · rintro ⟨hi,hh⟩
        obtain⟨r,hr⟩:=hget (i:=i) (by omega)
        rw[hop hr]at hh
        simp only[jXa,jHa,jMa,jLc,Array.all_eq_true']at hh
        refine⟨r,hr,?_,fun e he=>?_⟩
        · have:=hh.1
          rw[jCb]at this ⊢
          rw[Array.getElem?_eq_getElem (by omega)]at this ⊢
          exact this
        · simp only[zcO,jZc,List.mem_filter]at he
          obtain⟨x,⟨hx,hb⟩,rfl⟩:=he
          have:=hh.2 x (by simpa using hx)
          simpa[hb]using this
      · rintro ⟨r,hr,hL,he⟩
        have hi:=(jGa.1 hr).1
        refine⟨by omega,?_⟩
        rw[hop hr]
        simp only[jXa,jHa,jMa,jLc,Array.all_eq_true']
        refine⟨?_,fun x hx=>?_⟩
        · rw[jCb]at hL ⊢
          rw[Array.getElem?_eq_getElem (by omega)]at hL ⊢
          exact hL
        · cases hb:Region.binds .any x with
          |false=>simp
          | true=>
            simp only[Bool.not_true,jVd]
            exact he x.on (jZc.2 ⟨x,List.mem_filter.2 ⟨by simpa using hx,hb⟩,rfl⟩)
    have hnil:∀(listed:Array Bool),listed.size=ops.size→Region.ready .any ops listed=[]→∀i,i<ops.size→listed.getD i false=true:=by
      intro listed hsz hr i
      induction i using Nat.strongRecOn with
      | _ i ihi=>
        intro hi
        obtain⟨r,hri⟩:=hget (i:=i) (by omega)
        cases hL:listed.getD i false with
        |true=>rfl
        | false=>
          have:i∈Region.ready .any ops listed:=(hready listed i hsz).2 ⟨r,hri,hL,fun e he=>ihi e (F.edge i r hri e he) (by have:=F.edge i r hri e he;omega)⟩
          rw[hr]at this
          cases this
    intro fuel
    induction fuel with
    | zero=>
      intro listed a' w' M' ρ' hsz hcl hcount hext hrel hsize hheap hdef
      have hall:∀i,i<ops.size→listed.getD i false=true:=by
        intro i hi
        have:(List.range ops.size).filter (fun i=>!listed.getD i false)=[]:=jRb (by omega)
        have:=(List.filter_eq_nil_iff.1 this) i (jCc.2 hi)
        simpa using this
      refine⟨?_,fin listed a' w' M' ρ' hall hext hrel hsize hheap hdef⟩
      cases hr:Region.ready .any ops listed with
      |nil=>rfl
      | cons i l=>
        obtain⟨r,hri,hL,_⟩:=(hready listed i hsz).1 (by rw[hr];simp)
        have:=hall i (by have:=(jGa.1 hri).1;omega)
        rw[this]at hL
        cases hL
    | succ fuel ih =>
      intro listed a' w' M' ρ' hsz hcl hcount hext hrel hsize hheap hdef
      refine⟨fun hr=>fin listed a' w' M' ρ' (hnil listed hsz hr) hext hrel hsize hheap hdef,fun i hi=>?_⟩
      obtain⟨r,hri,hL,hedge⟩:=(hready listed i hsz).1 hi
      have hilt:i<ops.size:=by have:=(jGa.1 hri).1;omega
      have hset:∀j,(listed.setIfInBounds i true).getD j false=(listed.getD j false||j==i):=by
        intro j
        simp only[jCb,Array.getElem?_setIfInBounds]
        by_cases hj:i=j
        · subst hj
          simp[hsz,hilt]
        · have:(j==i)=false:=by simp;omega
          simp[hj,this]
      have hslot:∀d∈r.o.looksAt ops,(zcN t.get rs fun j=>listed.getD j false) d=r.t d:=by
        intro d hd
        rw[R.seen i r hri]
        refine zfr rs t.get _ _ d (fun j q hj hqd=>?_) t.get rfl
        by_cases hji:i=j
        · subst hji
          simp only[hL]
          simp
        · have hsl:=(F.slot i j r q hri hj hji d hqd).2 hd
          by_cases hlt:j<i
          · rw[if_pos hlt]at hsl
            have:=hin (fun j=>listed.getD j false) hcl i r j hri hedge hsl
            simp only[this]
            simp[hlt]
          · rw [if_neg hlt]at hsl
            cases hLj:listed.getD j false with
            |false=>simp[hlt]
            | true=>
              have:=hin (fun j=>listed.getD j false) hcl j q i hj (hcl j q hj hLj) hsl
              rw[hL]at this
              cases this
      have hcl':∀k q,rs[k]? = some q→(listed.setIfInBounds i true).getD k false=true→∀e∈zcO q.o,(listed.setIfInBounds i true).getD e false=true:=by
        intro k q hk hLk e he
        rw[hset]at hLk ⊢
        by_cases hki:k=i
        · subst hki
          rw[hri]at hk
          cases hk
          simp[hedge e he]
        · have:(k==i)=false:=by simpa using hki
          rw[this,Bool.or_false]at hLk
          simp[hcl k q hk hLk e he]
      have hcount':((List.range ops.size).filter fun j=>!(listed.setIfInBounds i true).getD j false).length≤fuel:=by
        have e1:=zeW (l:=List.range ops.size) (L:=fun j=>listed.getD j false) (L':=fun j=>(listed.setIfInBounds i true).getD j false) (i:=i) List.nodup_range (jCc.2 hilt) hL hset
        have e2:∀(l:List Nat) (p:Nat→Bool),(l.filter p).length+(l.filter fun j=>!p j).length=l.length:=by
          intro l p
          induction l with
          |nil=>rfl
          |cons x l ih=>simp only[jDc];cases p x<;>simp<;>omega
        have e3:=e2 (List.range ops.size) (fun j=>listed.getD j false)
        have e4:=e2 (List.range ops.size) (fun j=>(listed.setIfInBounds i true).getD j false)
        omega
      have hcurs:zcN t.get rs (fun j=>(listed.setIfInBounds i true).getD j false)=put (zcN t.get rs fun j=>listed.getD j false) r.o.dst r.v:=
        ziP rs t.get _ _ i r hri hL hset fun j q hji hj d hqd=>(F.slot i j r q hri hj (fun e=>hji e.symm) d hqd).1
      have hwants:zaD ops r.o (zcN t.get rs fun j=>listed.getD j false)=zaD ops r.o r.t:=zhy hslot
      have hfd:∀e,r.o.dst=some e→e<a'.tmps.size:=by rw[hsize];exact zlC (R.fits i r hri)
      obtain⟨Hq,hq,hS'⟩:=hheap
      unfold wpOp
      rw[hop hri]
      simp only
      cases hw:r.w with
      | false=>
        obtain⟨h1,h2,h3⟩:=R.off i r hri hw
        rw[za8 hrel (hwants.trans h1)]
        simp only[jSa,if_false]
        refine ih _ _ _ M' ρ' (by simpa using hsz) hcl' hcount' hext (by rw[hcurs,h2];exact zej hrel za6 r.o.dst hfd) (by rw[zfc];exact hsize) ⟨Hq,?_,hS'⟩ (by rw[zau];exact hdef)
        rw[zc4 (L:=fun p=>listed.getD p false) fun p hp=>?_]
        · exact hq
        · rw[hset]
          obtain⟨j,q,rfl,hj,hqe⟩:=zdt rs 0 p hp
          have:j≠i:=fun e=>by subst e;rw[hri]at hj;cases hj;rw[h3]at hqe;cases hqe
          simp;omega
      |true=>
        obtain⟨h1,Hk,H',h2,h3,h4,h5⟩:=R.on i r hri hw
        rw[za8 hrel (hwants.trans h1)]
        simp only[if_true]
        refine .inl ?_
        have hev:∀v H2,zb7 T call r.o r.t Hq=.val v H2→zb7 T call r.o (zcN t.get rs fun j=>listed.getD j false) Hq=.val v H2:=fun v H2 hh=>(zfv (zeL hslot)).trans hh
        cases he:r.e with
        |true=>
          have hcnt : ((zcT rs).filter fun p=>listed.getD p false).length=cnt rs i:=by
            have:=zcU rs 0 i
            rw[←this]
            refine zc4 fun p hp=>?_
            obtain⟨j,q,rfl,hj,hqe⟩:=zdt rs 0 p hp
            simp only[jKb]
            by_cases hlt:j<i
            · have hmem:=zgf rs 0 i r hri he
              rcases F.chain j q hj hqe (0+i) hmem with hc|hc
              · omega
              · rw[jKb]at hc
                have:=hin (fun j=>listed.getD j false) hcl i r j hri hedge hc
                rw[this]
                simp[hlt]
            · have e0:decide (j<i)=false:=by simpa using hlt
              rw[e0]
              by_cases hji:j=i
              · subst hji;exact hL
              · have hmem:=zgf rs 0 j q hj hqe
                rcases F.chain i r hri he (0+j) hmem with hc|hc
                · omega
                · rw [jKb]at hc
                  cases hLj:listed.getD j false with
                  |false=>rfl
                  | true=>
                    have:=hin (fun j=>listed.getD j false) hcl j q i hj (hcl j q hj hLj) hc
                    rw[hL]at this
                    cases this
          rw[hcnt,h2]at hq
          cases hq
          refine zcE hT hcall hS' hrel (hev r.v H' h3) ?_
          intro x M2 ρ2 w2 hx hv hS2
          refine ih _ _ _ M2 ρ2 (by simpa using hsz) hcl' hcount' (hext.trans hx) (by rw[hcurs];exact zej (zfd hx.mem hx.pre hrel) hv r.o.dst hfd) (by rw[zfc];exact hsize) ⟨H',?_,hS2⟩ (by rw[zau];exact hdef)
          have hmem:=zgf rs 0 i r hri he
          rw[jKb]at hmem
          have hnd:(zcT rs).Nodup:=(zhY rs 0).1
          have hmem':i∈zcT rs:=hmem
          have hca:=zeW (L:=fun p=>listed.getD p false) (L':=fun p=>(listed.setIfInBounds i true).getD p false) hnd hmem' hL hset
          rw[hca,hcnt]
          exact h4 he
        |false=>
          have hsame:zb7 T call r.o r.t Hq=.val r.v Hq:=by
            cases hl:looks r.o.op with
            | false=>
              rw[h5 he]at h3
              exact zqs hl h3 Hq
            | true =>
              have hlo:((zcT rs).filter fun p=>bef i p).length≤((zcT rs).filter fun p=>listed.getD p false).length:=
                zkk fun p _ hp=>hin (fun j=>listed.getD j false) hcl i r p hri hedge hp
              have hhi:((zcT rs).filter fun p=>listed.getD p false).length≤((zcT rs).filter fun p=>!bef p i).length:=by
                refine zkk fun p hp hLp=>?_
                obtain⟨j,q,rfl,hj,hqe⟩:=zdt rs 0 p hp
                rw[jKb]at hLp ⊢
                cases hb:bef j i with
                |false=>rfl
                | true=>
                  have:=hin (fun j=>listed.getD j false) hcl j q i hj (hcl j q hj hLp) hb
                  rw[hL]at this
                  cases this
              obtain⟨H2,hq2,hs2⟩:=F.quiet i r hri he hw hl _ hlo hhi (List.length_filter_le _ _)
              rw[hq]at hq2
              cases hq2
              exact hs2
          refine zcE hT hcall hS' hrel (hev r.v Hq hsame) ?_
          intro x M2 ρ2 w2 hx hv hS2
          refine ih _ _ _ M2 ρ2 (by simpa using hsz) hcl' hcount' (hext.trans hx) (by rw[hcurs];exact zej (zfd hx.mem hx.pre hrel) hv r.o.dst hfd) (by rw[zfc];exact hsize) ⟨Hq,?_,hS2⟩ (by rw[zau];exact hdef)
          rw[zc4 (L:=fun p=>listed.getD p false) fun p hp=>?_]
          · exact hq
          · rw[hset]
            obtain⟨j,q,rfl,hj,hqe⟩:=zdt rs 0 p hp
            have:j≠i:=fun e=>by subst e;rw[hri]at hj;cases hj;rw[he]at hqe;cases hqe
            simp;omega
  refine key ops.size (Array.replicate ops.size false) a _ M ρ (by simp) (fun i r hi hL=>?_) ?_ (Ext.drew M ρ w) ?_ ht.1.symm ⟨H,?_,hS.drew⟩ rfl
  · exfalso
    simp[jCb,jXc]at hL
    split at hL<;>simp at hL
  · exact Nat.le_trans (List.length_filter_le _ _) (by simp)
  · have : zcN t.get rs (fun j=>(Array.replicate ops.size false).getD j false)=t.get:=by
      have h0:∀j,(Array.replicate ops.size false).getD j false=false:=by
        intro j
        simp only[jCb,jXc]
        split<;>rfl
      simp only[h0]
      have:∀(rs:List Rec) (t:Env),zcN t rs (fun _=>false)=t:=by
        intro rs
        induction rs with
        |nil=>intro t;rfl
        |cons r rs ih=>intro t;simp only[zcN];exact ih t
      exact this _ _
    rw[this]
    exact ht.2
  · have h0:∀j,(Array.replicate ops.size false).getD j false=false:=by
      intro j
      simp only[jCb,jXc]
      split<;>rfl
    simp only[h0]
    rw[show(zcT rs).filter (fun _=>false)=[]from List.filter_eq_nil_iff.2 (by simp)]
    exact R.first

theorem zec (hT:TOk P T){call:zad}(hcall:call.Sound P T):zoy.Sound P T (zc7 T call):=by
 intro id ops d t H a w M ρ Q hS ht h;cases d with
 |false=>exact zlx hT hcall hS ht h
 |true=>exact zpK hT hcall hS ht h
theorem ze1 (hT:TOk P T){G:Gam}(hG:G.Sound P T)(n:Nat):zad.SoundE P T (zcw T G n):=zkh hT (fun _ h=>zec hT h) hG n
end
open Go

mutual
/-- Values without names. -/
def nl:V→Bool
  | .agg l=>nlL l
  | .tup l=>nlL l
  | .fn _ l=>nlL l
  | .bfn _ l=>nlL l
  | .ifc _ v=>nl v
  | .isl _ l=>nlL l
  | .ipt _ l _ _=>nlL l
  | .ptr .. =>false
  | .sl .. =>false
  | .mp .. =>false
  |_=>true
def nlL:List V→Bool
  | []=>true
  |v::l=>nl v&&nlL l
end
section
variable {P:Program}{T:Tab}{M:Mem}{ρ σ:Ren}{w:World}{H:zaa}
mutual
theorem zdF:∀(v:V) (x:Value),nl v=true→rel M ρ v x→rel M σ v x
  | .i ..,_,_,h=>by simpa[rel]using h
  | .b ..,_,_,h=>by simpa[rel]using h
  | .s ..,_,_,h=>by simpa[rel]using h
  | .nilp,_,_,h=>by simpa[rel]using h
  | .nils,_,_,h=>by simpa[rel]using h
  | .nilf,_,_,h=>by simpa[rel]using h
  | .nili,_,_,h=>by simpa[rel]using h
  | .nilm,_,_,h=>by simpa[rel]using h
  | .emp,_,_,h=>by simpa[rel]using h
  | .gp ..,_,_,h=>by simpa[rel]using h
  | .yld ..,_,_,h=>by simpa[rel]using h
  | .itr ..,_,_,h=>by simpa[rel]using h
  | .ptr ..,_,n,_=>by simp[nl]at n
  | .sl ..,_,n,_=>by simp[nl]at n
  | .mp ..,_,n,_=>by simp[nl]at n
  | .agg l,x,n,h=>by
    simp only[rel,nl]at h n ⊢
    obtain⟨cs,e,k⟩:=h
    exact⟨cs,e,nlL_rel l cs n k⟩
  | .tup l,x,n,h=>by
    simp only[rel,nl]at h n ⊢
    obtain⟨cs,e,k⟩:=h
    exact⟨cs,e,nlL_rel l cs n k⟩
  | .fn g l,x,n,h=>by
    simp only[rel,nl]at h n ⊢
    obtain⟨cs,e,k⟩:=h
    exact⟨cs,e,nlL_rel l cs n k⟩
  | .bfn g l,x,n,h=>by
    simp only[rel,nl]at h n ⊢
    obtain⟨cs,e,k⟩:=h
    exact⟨cs,e,nlL_rel l cs n k⟩
  | .ifc t v,x,n,h=>by
    simp only[rel,nl]at h n ⊢
    obtain⟨y,e,k⟩:=h
    exact⟨y,e,zdF v y n k⟩
  | .isl sz l,x,n,h=>by
    simp only[rel,nl]at h n ⊢
    obtain⟨a,k,e,hk,hr⟩:=h
    refine⟨a,k,e,hk,fun hl=>?_⟩
    obtain⟨b,o,ha,hr⟩:=hr hl
    exact⟨b,o,ha,nl_relRow sz l b o n hr⟩
  | .ipt sz l i off,x,n,h=>by
    simp only[rel,nl]at h n ⊢
    obtain⟨b,o,ha,hr⟩:=h
    exact⟨b,o,ha,nl_relRow sz l b o n hr⟩
theorem nlL_rel:∀(l:List V) (cs:List Value),nlL l=true→relL M ρ l cs→relL M σ l cs
  | [],_,_,h=>by simpa[relL]using h
  | v::l,cs,n,h=>by
    simp only[relL,nlL,jMa]at h n ⊢
    obtain⟨x,r,e,hx,hr⟩:=h
    exact⟨x,r,e,zdF v x n.1 hx,nlL_rel l r n.2 hr⟩
theorem nl_relRow (sz:Nat):∀(l:List V) (b o:Nat),nlL l=true→relRow M ρ sz l b o→relRow M σ sz l b o
  | [],_,_,_,_=>by simp[relRow]
  | v::l,b,o,n,h=>by
    simp only[relRow,nlL,jMa]at h n ⊢
    obtain⟨⟨x,hx,h1,h2⟩,hr⟩:=h
    exact⟨⟨x,zdF v x n.1 hx,h1,h2⟩,nl_relRow sz l b (o+sz) n.2 hr⟩
end

theorem SR.forget (h:SR T M ρ H w) (hg:∀g l,T.glob g=some l→nlL l=true):SR T M [] [] w where
  frozen:=h.frozen
  len:=rfl
  blk n b hn:=by simp at hn
  inj n m x y b c c' hn:=by simp at hn
  glob g l hl:=by
    obtain⟨cs,ty,fr,hM,hr⟩:=h.glob g l hl
    exact⟨cs,ty,fr,hM,nlL_rel l cs (hg g l hl) hr⟩
  gint g hg:=by
    obtain⟨m,ty,fr,hM⟩:=h.gint g hg
    exact⟨m,ty,fr,hM⟩
theorem SR.recall {M':Mem} {σ:Ren} {J:zaa} {w':World} (h:SR T M ρ H w) (k:SR T M' σ J w') (he:Ext M [] w M' σ w'):SR T M' ρ H w' where
  frozen:=k.frozen
  len:=h.len
  blk n b hn:=by
    obtain⟨c,q,hr,hM,hlt,hok⟩:=h.blk n b hn
    refine⟨c,q,hr,by rw[he.newM c hlt (fun _ hc=>by simp at hc)];exact hM,Nat.lt_of_lt_of_le hlt he.size,?_⟩
    rw[he.frame c hlt (fun _ hc=>by simp at hc)]
    exact hok.mono he.mem (jHb _)
  inj:=h.inj
  glob g l hl:=by
    obtain⟨cs,ty,fr,hM,hr⟩:=h.glob g l hl
    exact⟨cs,ty,fr,he.mem _ _ hM,relL_mono he.mem (jHb _) _ _ hr⟩
  gint g hg:=by
    obtain⟨m,ty,fr,hM⟩:=h.gint g hg
    exact⟨m,ty,fr,he.mem _ _ hM⟩
theorem Ext.recall {M':Mem}{σ:Ren}{w':World}(he:Ext M [] w M' σ w'):Ext M ρ w M' ρ w' where
 os:=he.os
 tape:=he.tape
 output:=he.output
 size:=he.size
 mem:=he.mem
 pre:=jHb _
 frame b hb _:=he.frame b hb (fun _ hc=>by simp at hc)
 newM b hb _:=he.newM b hb (fun _ hc=>by simp at hc)
 newR b c h:=.inl ⟨c,h⟩
theorem zaR.frame {f:FuncId}{args:Array Value}{v:V}{J:zaa}(hv:nl v=true)(hS:SR T M ρ H w)(h:zaR P T f args M [] w (.val v J)):zaR P T f args M ρ w (.val v H):=by
 refine jTd h ?_;rintro e w' ⟨x,M',σ,rfl,he,hx,hk⟩;exact⟨x,M',ρ,rfl,he.recall,zdF v x hv hx,hS.recall hk he⟩
theorem zaR.frame_pan {f:FuncId}{args:Array Value}{v:V}{J:zaa}(hv:nl v=true)(hS:SR T M ρ H w)(h:zaR P T f args M [] w (.pan v J)):zaR P T f args M ρ w (.pan v H):=by
 refine jTd h ?_;rintro e w' ⟨x,M',σ,rfl,he,hx,hk⟩;exact⟨x,M',ρ,rfl,he.recall,zdF v x hv hx,hS.recall hk he⟩
inductive Res where
  |val (v:V)
  |pan (v:V)
abbrev Con:=FuncId→List V→Option Res
def Res.at:Res→zaa→OR
 | .val v,H=>.val v H
 | .pan v,H=>.pan v H
def Res.nl:Res→Bool
 | .val v=>Ev.nl v
 | .pan v=>Ev.nl v
def zeu (C:Con):Gam:=fun f vs H=>(C f vs).map (·.at H)
def Con.Sound (P:Program)(T:Tab)(C:Con):Prop:=Gam.Sound P T (zeu C)
def Con.none:Con:=fun _ _=>Option.none
theorem Con.none_sound:Con.none.Sound P T:=fun f vs H r h=>by simp[zeu,Con.none]at h
def Tab.Plain (T:Tab):Prop:=∀g l,T.glob g=some l→nlL l=true
theorem zj6 (hT:TOk P T)(hp:T.Plain){C:Con}(hC:C.Sound P T){f:FuncId}{vs:List V}{r:Res}{J:zaa}{n:Nat}(h:zcw T (zeu C) n f vs []=r.at J)(h1:nlL vs=true)(h2:r.nl=true) :
 Go.Proofs.Enters P f∧∀(H:zaa)(M:Mem)(ρ:Ren)(w:World)(args:List Value),SR T M ρ H w→relL M ρ vs args→zaR P T f args.toArray M ρ w (r.at H):=by
 have hne:r.at J≠.no:=by cases r<;>simp[Res.at]
 obtain⟨he,hok⟩:=ze1 hT hC n f vs [] _ h hne;refine⟨he,fun H M ρ w args hS hr=>?_⟩;have:=hok M [] w args (hS.forget hp) (nlL_rel vs args h1 hr);cases r with
 |val v=>exact zaR.frame h2 hS this
 |pan v=>exact zaR.frame_pan h2 hS this
end
open Go
section
variable {P:Program}{T:Tab}

def zAF (P:Program)(T:Tab)(c:Code)(t:Tm)(H:zaa)(o:Out):Prop:=
 ∀(a:Act)(w:World)(M:Mem)(ρ:Ren)(R:Exit→Act→World→Prop),SR T M ρ H w→zaS M ρ t a.tmps→zen T M ρ w R a.defers o→c.wp P R a w
def zzz (P:Program)(T:Tab)(c:Code)(t:Tm)(H:zaa)(o:Out):Prop:=
 ∀(a:Act)(w:World)(M:Mem)(ρ:Ren)(R:Exit→Act→World→Prop),SR T M ρ H w→zaS M ρ t a.tmps→zen T M ρ w R a.defers o→zgw P c R a w
def Tri (P:Program)(T:Tab)(c:Code)(t:Tm)(H:zaa)(Q:Out→Prop):Prop:=∃o,Q o∧zAF P T c t H o
def zaM (P:Program)(T:Tab)(c:Code)(t:Tm)(H:zaa)(Q:Out→Prop):Prop:=∃o,Q o∧zzz P T c t H o
variable {t:Tm}{H:zaa}{Q Q':Out→Prop}{c:Code}
theorem Tri.mono (h:Tri P T c t H Q)(hq:∀o,Q o→Q' o):Tri P T c t H Q':=h.imp fun o k=>⟨hq o k.1,k.2⟩
theorem Tri.skip (h:Q (.norm t H)):Tri P T .skip t H Q:=⟨_,h,fun a w M ρ _ hS ht k=>wp_skip (k a w M ρ (Ext.refl _ _ _) ht hS rfl)⟩
theorem Tri.label {l:Nat}(h:Q (.norm t H)):Tri P T (.label l) t H Q:=⟨_,h,fun a w M ρ _ hS ht k=>wp_label (k a w M ρ (Ext.refl _ _ _) ht hS rfl)⟩
theorem Tri.exit {id:Nat}(h:Q (.exit id t H)):Tri P T (.exit id) t H Q:=⟨_,h,fun a w M ρ _ hS ht k=>wp_exit (k a w M ρ (Ext.refl _ _ _) ht hS rfl)⟩
theorem Tri.ret (h:Q (.ret t H)):Tri P T .ret t H Q:=⟨_,h,fun a w M ρ _ hS ht k=>wp_ret (k a w M ρ (Ext.refl _ _ _) ht hS rfl)⟩
theorem Tri.reg (hT:TOk P T){call:zad}(hC:call.Sound P T){id:Nat}{ops:Array Oper}{d:Bool}{o:Out}(he:zc7 T call ops d t H=o)(h:Q o):Tri P T (.region id ops d) t H Q:=⟨o,h,fun a w M ρ R hS ht k=>
 zec hT hC id ops d t H a w M ρ R hS ht (by rw[he];exact k)⟩
theorem Tri.seq {x y:Code}(h:Tri P T x t H fun o=>match o with | .norm t' H'=>Tri P T y t' H' Q|o=>Q o):Tri P T (.seq x y) t H Q:=by
 obtain⟨o,ho,hx⟩:=h;cases o with
 |norm t' H'=>
  obtain⟨o2,h2,hy⟩:=ho;refine⟨o2,h2,fun a w M ρ R hS ht k=>wp_seq (hx a w M ρ _ hS ht ?_)⟩;intro a' w' M' ρ' he ht' hS' hd;refine hy a' w' M' ρ' R hS' ht' ?_;rw[hd];exact k.later he
 |exit id t' H'=>exact⟨_,ho,fun a w M ρ R hS ht k=>wp_seq (hx a w M ρ _ hS ht k)⟩
 |ret t' H'=>exact⟨_,ho,fun a w M ρ R hS ht k=>wp_seq (hx a w M ρ _ hS ht k)⟩
 |pan v t' H'=>exact⟨_,ho,fun a w M ρ R hS ht k=>wp_seq (hx a w M ρ _ hS ht k)⟩
 |no=>exact⟨.no,ho,fun a w M ρ R hS ht k=>k.elim⟩
theorem Tri.cond {g:Operand}{x y:Code}{b:Bool}(hg:ev1 t.get g=some (.b b))(h1:b=true→Tri P T x t H Q)(h2:b=false→Tri P T y t H Q):Tri P T (.cond g x y) t H Q:=by
 cases b with
 |true=>
  obtain⟨o,ho,hx⟩:=h1 rfl;refine⟨o,ho,fun a w M ρ R hS ht k=>?_⟩;have:=zas ht.2 hg;simp only[rel]at this;exact wp_cond_true this (hx a w M ρ R hS ht k)
 |false=>
  obtain⟨o,ho,hx⟩:=h2 rfl;refine⟨o,ho,fun a w M ρ R hS ht k=>?_⟩;have:=zas ht.2 hg;simp only[rel]at this;exact wp_cond_false this (hx a w M ρ R hS ht k)
theorem Tri.block {id:Nat}{x:Code}(h:Tri P T x t H fun o=>match o with | .exit j t' H'=>if j=id then Q (.norm t' H')else Q (.exit j t' H')|o=>Q o):Tri P T (.block id x) t H Q:=by
 obtain⟨o,ho,hx⟩:=h;cases o with
 |norm t' H'=>exact⟨_,ho,fun a w M ρ R hS ht k=>wp_block (hx a w M ρ _ hS ht k)⟩
 |exit j t' H'=>
  simp only at ho;by_cases e:j=id
  ·rw[if_pos e]at ho;refine⟨_,ho,fun a w M ρ R hS ht k=>wp_block (hx a w M ρ _ hS ht ?_)⟩;intro a' w' M' ρ' he ht' hS' hd;simp only[Exit.inBlock];rw[if_pos e];exact k a' w' M' ρ' he ht' hS' hd
  ·rw[if_neg e]at ho;refine⟨_,ho,fun a w M ρ R hS ht k=>wp_block (hx a w M ρ _ hS ht ?_)⟩;intro a' w' M' ρ' he ht' hS' hd;simp only[Exit.inBlock];rw[if_neg e];exact k a' w' M' ρ' he ht' hS' hd
 |ret t' H'=>exact⟨_,ho,fun a w M ρ R hS ht k=>wp_block (hx a w M ρ _ hS ht k)⟩
 |pan v t' H'=>exact⟨_,ho,fun a w M ρ R hS ht k=>wp_block (hx a w M ρ _ hS ht k)⟩
 |no=>exact⟨.no,ho,fun a w M ρ R hS ht k=>k.elim⟩
theorem zaM.round (h:Tri P T c t H fun o=>match o with | .norm t' H'=>zaM P T c t' H' Q|o=>Q o):zaM P T c t H Q:=by
 obtain⟨o,ho,hx⟩:=h;cases o with
 |norm t' H'=>
  obtain⟨o2,h2,hy⟩:=ho;refine⟨o2,h2,fun a w M ρ R hS ht k=>zcm (hx a w M ρ _ hS ht ?_)⟩;intro a' w' M' ρ' he ht' hS' hd;refine hy a' w' M' ρ' R hS' ht' ?_;rw[hd];exact k.later he
 |exit id t' H'=>exact⟨_,ho,fun a w M ρ R hS ht k=>zcm (hx a w M ρ _ hS ht k)⟩
 |ret t' H'=>exact⟨_,ho,fun a w M ρ R hS ht k=>zcm (hx a w M ρ _ hS ht k)⟩
 |pan v t' H'=>exact⟨_,ho,fun a w M ρ R hS ht k=>zcm (hx a w M ρ _ hS ht k)⟩
 |no=>exact⟨.no,ho,fun a w M ρ R hS ht k=>k.elim⟩
theorem Tri.loop (h:zaM P T c t H Q):Tri P T (.loop c) t H Q:=h.imp fun _ k=>⟨k.1,fun a w M ρ R hS ht q=>zf2 (k.2 a w M ρ R hS ht q)⟩
def zf3 (T:Tab)(fn:Func)(r:Res)(o:Out):Prop:=
 match o,r with
 | .norm t H,.val v=>zaZ T fn t.get H=.val v H
 | .ret t H,.val v=>zaZ T fn t.get H=.val v H
 | .pan v _ _,.pan u=>v=u
 |_,_=>False
def zjT (P:Program)(T:Tab)(F:FuncId)(vs:List V)(r:Res):Prop:=
 ∃fn c,T.func F=some fn∧fn.body=some c∧vs.length≤fn.ntmps∧Tri P T c (Tm.init fn.ntmps vs) [] (zf3 T fn r)
theorem zbr {M:Mem}{ρ:Ren}{vs:List V}{args:List Value}(hargs:relL M ρ vs args){n:Nat}(hle:vs.length≤n):zaS M ρ (Tm.init n vs) (args.toArray++Array.replicate (n-args.toArray.size) undef):=by
 have hl:=zam hargs;refine⟨by simp[Tm.init];omega,fun k=>?_⟩;simp only[Tm.init,Tm.get];rw[Tr.get_fill,if_pos (Nat.zero_le _),Nat.sub_zero];simp only[Tr.get_leaf,jCb];by_cases hk:k<vs.length
 ·rw[Array.getElem?_append_left (by simp;omega)];obtain⟨x,hx,hxr⟩:=za2 hargs (i:=k) (v:=vs[k]) (jKa hk);rw[jKa hk];simp only[jEd,hx,jHa];exact hxr
 ·rw [jGc (by omega)];have:((args.toArray++Array.replicate (n-args.toArray.size) undef)[k]?).getD undef=undef:=by
   rw[Array.getElem?_append_right (by simp;omega),jXc];split<;>rfl
  rw[this];exact za6
theorem zgG (hT:TOk P T)(hp:T.Plain){f:FuncId}{vs:List V}{r:Res}(h:zjT P T f vs r)(h1:nlL vs=true)(h2:r.nl=true) :
 Go.Proofs.Enters P f∧∀(H:zaa)(M:Mem)(ρ:Ren)(w:World)(args:List Value),SR T M ρ H w→relL M ρ vs args→zaR P T f args.toArray M ρ w (r.at H):=by
 obtain⟨fn,c,hfn,hc,hle,o,ho,ht⟩:=h;obtain⟨hf,hent⟩:=hT.func f fn c hfn hc;refine⟨hent,fun H M ρ w args hS hr=>?_⟩;have hr0:=nlL_rel (σ:=[]) vs args h1 hr;have key:Calls P f args.toArray w fun e w'=>∃M' σ J,SR T M' σ J w'∧Ext M [] w M' σ w'∧(match r with | .val v=>∃x,e=.returned x∧rel M' σ v x | .pan v=>∃x,e=.panicked [{v:=x,recovered:=false}]∧rel M' σ v x):=by
  refine calls_of_wp hf hc (ht {tmps:=args.toArray++Array.replicate (fn.ntmps-args.toArray.size) undef,defers:=[]} w M [] _ (hS.forget hp) (zbr hr0 hle) ?_);cases o with
  |norm t' H'=>
   cases r with
   |pan v=>exact ho.elim
   |val v=>
    intro a' w' M' ρ' he ht' hS' hd;obtain⟨_,x,hx,hxr⟩:=za3 hT hS' ht'.2 ho;exact⟨hd,x,hx,M',ρ',H',hS',he,x,rfl,hxr⟩
  |ret t' H'=>
   cases r with
   |pan v=>exact ho.elim
   |val v=>
    intro a' w' M' ρ' he ht' hS' hd;obtain⟨_,x,hx,hxr⟩:=za3 hT hS' ht'.2 ho;exact⟨hd,x,hx,M',ρ',H',hS',he,x,rfl,hxr⟩
  |pan v t' H'=>
   cases r with
   |val v=>exact ho.elim
   |pan u=>
    intro a' w' M' ρ' x he _ hx hS' hd;cases ho;exact⟨hd,M',ρ',H',hS',he,x,rfl,hx⟩
  |exit id t' H'=>cases r<;>exact ho.elim
  |no=>cases r<;>exact ho.elim
 cases r with
 |val v=>
  refine jTd key ?_;rintro e w' ⟨M',σ,J,hk,he,x,rfl,hx⟩;exact⟨x,M',ρ,rfl,he.recall,zdF v x h2 hx,hS.recall hk he⟩
 |pan v=>
  refine jTd key ?_;rintro e w' ⟨M',σ,J,hk,he,x,rfl,hx⟩;exact⟨x,M',ρ,rfl,he.recall,zdF v x h2 hx,hS.recall hk he⟩
def zaV (P:Program)(T:Tab)(F:FuncId)(vs:List V)(R:Res→Prop):Prop:=
 ∃fn c,T.func F=some fn∧fn.body=some c∧vs.length≤fn.ntmps∧Tri P T c (Tm.init fn.ntmps vs) [] fun o=>∃r,R r∧zf3 T fn r o
theorem zaV.out {F:FuncId}{vs:List V}{R:Res→Prop}(h:zaV P T F vs R):∃r,R r∧zjT P T F vs r:=by
 obtain⟨fn,c,h1,h2,h3,o,⟨r,hr,he⟩,hx⟩:=h;exact⟨r,hr,fn,c,h1,h2,h3,o,he,hx⟩
theorem zjT.ex {F:FuncId}{vs:List V}{r:Res}(h:zjT P T F vs r):zaV P T F vs (·=r):=by
 obtain⟨fn,c,h1,h2,h3,o,he,hx⟩:=h;exact⟨fn,c,h1,h2,h3,o,⟨r,rfl,he⟩,hx⟩
def zwF (T:Tab)(fn:Func)(R:V→zaa→Prop):Out→Prop
 | .norm t H=>∃v,R v H∧zaZ T fn t.get H=.val v H
 | .ret t H=>∃v,R v H∧zaZ T fn t.get H=.val v H
 |_=>False
def ziD (P:Program)(T:Tab)(F:FuncId)(vs:List V)(H:zaa)(R:V→zaa→Prop):Prop:=
 ∃fn c,T.func F=some fn∧fn.body=some c∧vs.length≤fn.ntmps∧Tri P T c (Tm.init fn.ntmps vs) H (zwF T fn R)
theorem znY (hT:TOk P T){f:FuncId}{vs:List V}{H:zaa}{R:V→zaa→Prop}(h:ziD P T f vs H R) :
 ∃v H',R v H'∧Go.Proofs.Enters P f∧∀(M:Mem)(ρ:Ren)(w:World)(args:List Value),SR T M ρ H w→relL M ρ vs args→zaR P T f args.toArray M ρ w (.val v H'):=by
 obtain⟨fn,c,hfn,hc,hle,o,ho,ht⟩:=h;obtain⟨hf,hent⟩:=hT.func f fn c hfn hc;cases o with
 |norm t' H'=>
  obtain⟨v,hR,hv⟩:=ho;refine⟨v,H',hR,hent,fun M ρ w args hS hr=>?_⟩;refine calls_of_wp hf hc (ht {tmps:=args.toArray++Array.replicate (fn.ntmps-args.toArray.size) undef,defers:=[]} w M ρ _ hS (zbr hr hle) ?_);intro a' w' M' ρ' he ht' hS' hd;obtain⟨_,x,hx,hxr⟩:=za3 hT hS' ht'.2 hv;exact⟨hd,x,hx,x,M',ρ',rfl,he,hxr,hS'⟩
 |ret t' H'=>
  obtain⟨v,hR,hv⟩:=ho;refine⟨v,H',hR,hent,fun M ρ w args hS hr=>?_⟩;refine calls_of_wp hf hc (ht {tmps:=args.toArray++Array.replicate (fn.ntmps-args.toArray.size) undef,defers:=[]} w M ρ _ hS (zbr hr hle) ?_);intro a' w' M' ρ' he ht' hS' hd;obtain⟨_,x,hx,hxr⟩:=za3 hT hS' ht'.2 hv;exact⟨hd,x,hx,x,M',ρ',rfl,he,hxr,hS'⟩
 |pan v t' H'=>exact ho.elim
 |exit id t' H'=>exact ho.elim
 |no=>exact ho.elim
end
end Go.Ev
namespace Go.Ev
open Go
section
variable {P:Program}{T:Tab}{t:Tm}{H H':zaa}{Q Q':Out→Prop}{c:Code}

theorem get_put (t:Tm)(d k:Nat)(v:V):(t.put (some d) v).get k=if k=d then v else t.get k:=by rw[Tm.get_put];rfl
theorem zsf (t:Tm)(v:V):t.put none v=t:=rfl
theorem zag (n:Nat)(l:List V)(k:Nat):(Tm.init n l).get k=(l[k]?).getD .un:=by
 simp only[Tm.init,Tm.get,Tr.get_fill,Nat.zero_le,if_true,Nat.sub_zero,Tr.get_leaf]
theorem zbh (t:Tm)(d:Nat):t.fits (some d)=Nat.blt d t.wid:=rfl
theorem zbA (t:Tm):t.fits none=true:=rfl
theorem zlw (call:zad)(ops:Array Oper)(t:Tm)(H:zaa):zc7 T call ops false t H=zaK (zb7 T call) ops ops.toList t H:=rfl
variable {step:Oper→Env→zaa→OR}{ops:Array Oper}{o:Oper}{r:List Oper}{v:V}{out:Out}
theorem zpM (hw:zaD ops o t.get=some true)(hs:step o t.get H=.val v H')(hf:t.fits o.dst=true)(h:zaK step ops r (t.put o.dst v) H'=out):zaK step ops (o::r) t H=out:=by
 simp only[zaK,hw,hs,zbp,zbJ,hf,if_true];exact h
theorem zb2 (hw:zaD ops o t.get=some false)(hf:t.fits o.dst=true)(h:zaK step ops r (t.put o.dst .un) H=out):zaK step ops (o::r) t H=out:=by
 simp only[zaK,hw,zbJ,hf,if_true];exact h
theorem zpL (hw:zaD ops o t.get=some true)(hs:step o t.get H=.pan v H'):zaK step ops (o::r) t H=.pan v t H':=by
 simp only[zaK,hw,hs]
theorem zal:zaK step ops [] t H=.norm t H:=rfl
end
end Go.Ev
namespace Go.Ev
open Go
theorem zab {step:Oper→Env→zaa→OR}{ops:Array Oper}{o:Oper}{r:List Oper}{v:V}{out:Out}{t:Tm}{H H':zaa}{x:OR}(hw:zaD ops o t.get=some true)(hs:step o t.get H=x)(hx:x=.val v H')(hf:t.fits o.dst=true)(h:zaK step ops r (t.put o.dst v) H'=out):zaK step ops (o::r) t H=out:=
 zpM hw (hs.trans hx) hf h
end Go.Ev
namespace Go.Ev
open Go
theorem zaj {n:Int}(h1:-9223372036854775808≤n)(h2:n<9223372036854775808):IntKind.i64.wrap n=n:=by
 have e:(2:Int)^IntKind.i64.bits=18446744073709551616:=rfl;have e2:(2:Int)^(IntKind.i64.bits-1)=9223372036854775808:=rfl;simp only[IntKind.wrap,e,e2,IntKind.signed,jSd,jTa];split<;>omega
end Go.Ev
namespace Go.Ev
open Go Go.Proofs
set_option linter.unusedSimpArgs false
set_option linter.unusedVariables false
set_option linter.unnecessarySimpa false
open Go
section
variable {T:Tab}{step:Oper→Env→zaa→OR}{ops:Array Oper}{H:zaa}
inductive QR (step:Oper→Env→zaa→OR) (ops:Array Oper) (H:zaa):List Oper→Tm→Tm→Prop
  |nil {t:Tm}:QR step ops H [] t t
  |val {o:Oper} {r:List Oper} {t t':Tm} {x:OR} {v:V} (hw:zaD ops o t.get=some true) (hs:step o t.get H=x) (hx:x=.val v H) (hf:t.fits o.dst=true) (h:QR step ops H r (t.put o.dst v) t'):QR step ops H (o::r) t t'
  |off {o:Oper} {r:List Oper} {t t':Tm} (hw:zaD ops o t.get=some false) (hf:t.fits o.dst=true) (h:QR step ops H r (t.put o.dst .un) t'):QR step ops H (o::r) t t'
theorem zka:∀(rs:List Rec)(k:Nat),(∀r∈rs,r.e=false)→zaH rs k=[]
 | [],_,_=>rfl
 |r::rs,k,h=>by simp[zaH,h r (by simp),zka rs (k+1) fun q hq=>h q (by simp[hq])]
theorem QR.run:∀{l:List Oper}{t t':Tm},QR step ops H l t t'→∃rs,zbz step ops l t H=some (rs,[H],t')∧∀r∈rs,r.e=false
 |_,_,_,.nil=>⟨[],rfl,by simp⟩
 |_,_,_,.val (o:=o) (r:=l) (t:=t) (v:=v) hw hs hx hf h=>by
  obtain⟨rs,h1,h2⟩:=QR.run h;subst hx;refine⟨⟨o,t.get,v,true,false⟩::rs,?_,by simpa using h2⟩;simp only[zbz,hw,hs,zbp,zbJ,hf,if_true,h1,zaa.beq_refl,Bool.not_true,Bool.and_false,jSa,if_false]
 |_,_,_,.off (o:=o) (r:=l) (t:=t) hw hf h=>by
  obtain⟨rs,h1,h2⟩:=QR.run h;refine⟨⟨o,t.get,.un,false,false⟩::rs,?_,by simpa using h2⟩;simp only[zbz,hw,zbJ,hf,if_true,h1]
theorem QR.draw {t t':Tm}(h:QR step ops H ops.toList t t')(hs:zbF ops.toList ops (zbt ops.toList [])=true):zgP step ops t H=.norm t' H:=by
 obtain⟨rs,h1,h2⟩:=h.run;have h3:(zcT rs).isEmpty=true:=by rw[zcT,zka rs 0 h2];rfl
 simp only[zgP,h1,hs,h3,Bool.true_or,Bool.and_true,if_true,List.getLast?_singleton]
theorem zcF {call:zad}{t t':Tm}{out:Out}(hs:zbF ops.toList ops (zbt ops.toList [])=true)(h:QR (zb7 T call) ops H ops.toList t t')(ho:Out.norm t' H=out):zc7 T call ops true t H=out:=by
 rw[←ho];exact h.draw hs
end
open Go
noncomputable def sub:List Bool→Code→Code
 |false::p,.seq a _=>sub p a
 |true::p,.seq _ b=>sub p b
 |false::p,.cond _ a _=>sub p a
 |true::p,.cond _ _ b=>sub p b
 |_::p,.block _ c=>sub p c
 |_::p,.loop c=>sub p c
 |_,c=>c
noncomputable def zae (fn:Func):Code:=fn.body.getD .skip
section
variable {P:Program}{T:Tab}{t:Tm}{H:zaa}{Q:Out→Prop}{c y:Code}{id j:Nat}{v:V}
def zjc (P:Program)(T:Tab)(y:Code)(Q:Out→Prop):Out→Prop
 | .norm t H=>Tri P T y t H Q
 |o=>Q o
def zdK (id:Nat)(Q:Out→Prop):Out→Prop
 | .exit j t H=>if j=id then Q (.norm t H)else Q (.exit j t H)
 |o=>Q o
def inLoop (P:Program)(T:Tab)(c:Code)(Q:Out→Prop):Out→Prop
 | .norm t H=>zaM P T c t H Q
 |o=>Q o
theorem Tri.seq' {x:Code}(h:Tri P T x t H (zjc P T y Q)):Tri P T (.seq x y) t H Q:=Tri.seq (h.mono fun o ho=>by cases o<;>exact ho)
theorem Tri.block' {x:Code}(h:Tri P T x t H (zdK id Q)):Tri P T (.block id x) t H Q:=Tri.block (h.mono fun o ho=>by cases o<;>exact ho)
theorem zaM.round' (h:Tri P T c t H (inLoop P T c Q)):zaM P T c t H Q:=zaM.round (h.mono fun o ho=>by cases o<;>exact ho)
theorem zww (h:Tri P T y t H Q):zjc P T y Q (.norm t H):=h
theorem zaz (h:Q (.exit j t H)):zjc P T y Q (.exit j t H):=h
theorem zxe (h:Q (.ret t H)):zjc P T y Q (.ret t H):=h
theorem zku (h:Q (.pan v t H)):zjc P T y Q (.pan v t H):=h
theorem zwv (h:Q (.norm t H)):zdK id Q (.norm t H):=h
theorem zav (h:Q (.norm t H)):zdK id Q (.exit id t H):=by simpa only[zdK,if_true]using h
theorem zfy (hj:(j==id)=false)(h:Q (.exit j t H)):zdK id Q (.exit j t H):=by
 have:¬j=id:=by simpa using hj
 simpa only[zdK,if_neg this]using h
theorem zxc (h:Q (.ret t H)):zdK id Q (.ret t H):=h
theorem zg3 (h:Q (.pan v t H)):zdK id Q (.pan v t H):=h
theorem zaq (h:zaM P T c t H Q):inLoop P T c Q (.norm t H):=h
theorem zay (h:Q (.exit j t H)):inLoop P T c Q (.exit j t H):=h
theorem zce (h:Q (.ret t H)):inLoop P T c Q (.ret t H):=h
theorem zh4 (h:Q (.pan v t H)):inLoop P T c Q (.pan v t H):=h
theorem Tri.regN (hT:TOk P T){call:zad}(hC:call.Sound P T){ops:Array Oper}{d:Bool}{t':Tm}{H':zaa}(he:zc7 T call ops d t H=.norm t' H')(h:Q (.norm t' H')):Tri P T (.region id ops d) t H Q:=Tri.reg hT hC he h
theorem Tri.condG {g:Operand}{x z:Code}{o:Option V}{b:Bool}(hg:ev1 t.get g=o)(ho:o=some (.b b))(h1:b=true→Tri P T x t H Q)(h2:b=false→Tri P T z t H Q):Tri P T (.cond g x z) t H Q:=Tri.cond (hg.trans ho) h1 h2
theorem zar {call:zad}{ops:Array Oper}{out:Out}(h:zaK (zb7 T call) ops ops.toList t H=out):zc7 T call ops false t H=out:=h
end
open Go
abbrev zhA:=List V→zaa→OR
section
variable {P:Program}{T:Tab}{F:FuncId}
def zak (P:Program)(T:Tab)(F:FuncId)(g:zhA):Prop:=
 ∀vs H r,g vs H=r→r≠.no→Go.Proofs.Enters P F∧∀(M:Mem)(ρ:Ren)(w:World)(args:List Value),SR T M ρ H w→relL M ρ vs args→zaR P T F args.toArray M ρ w r
def zad.none:zad:=fun _ _ _=>.no
def zad.with (call:zad)(F:FuncId)(g:zhA):zad:=fun f vs H=>if f=F then g vs H else call f vs H
theorem zad.none_sound:zad.none.Sound P T:=fun _ _ _ _ h hr=>absurd h.symm hr
theorem zad.with_sound {call:zad}(hc:call.Sound P T){g:zhA}(hg:zak P T F g):(call.with F g).Sound P T:=by
 intro f vs H r h hr;simp only[zad.with]at h;by_cases e:f=F
 ·rw[if_pos e]at h;subst e;exact .inl (hg vs H r h hr)
 ·rw[if_neg e]at h;exact hc f vs H r h hr
theorem zad.with_here (call:zad)(F:FuncId)(g:zhA)(vs:List V)(H:zaa):call.with F g F vs H=g vs H:=by simp[zad.with]
theorem zad.with_other (call:zad){F f:FuncId}(g:zhA)(vs:List V)(H:zaa)(h:(f==F)=false):call.with F g f vs H=call f vs H:=by
 have:¬f=F:=by simpa using h
 simp[zad.with,this]
def zeU (P:Program)(T:Tab)(F:FuncId)(g:zhA):Prop:=∀vs H r,g vs H=r→r≠.no→zoG P T F vs H r
theorem zcM (hT:TOk P T) (hp:T.Plain) (F:FuncId) (D:List V→Prop) (R:List V→Res→Prop)
    (h:∀vs,D vs→nlL vs=true∧(∀r,R vs r→r.nl=true)∧zaV P T F vs (R vs)):∃g,zak P T F g∧∀vs,D vs→∃r,R vs r∧∀H,g vs H=r.at H:=by
  classical
  have hx:∀vs,D vs→∃r,R vs r∧zjT P T F vs r:=fun vs hd=>(h vs hd).2.2.out
  refine⟨fun vs H=>if hd:D vs then(hx vs hd).choose.at H else .no,?_,?_⟩
  · intro vs H r hr hne
    simp only at hr
    split at hr
    · rename_i hd
      obtain⟨h1,h2⟩:=(hx vs hd).choose_spec
      obtain⟨h3,h4⟩:=zgG hT hp h2 (h vs hd).1 ((h vs hd).2.1 _ h1)
      subst hr
      exact⟨h3,h4 H⟩
    · exact absurd hr.symm hne
  · intro vs hd
    exact⟨_,(hx vs hd).choose_spec.1,fun H=>dif_pos hd⟩
end
end Go.Ev
