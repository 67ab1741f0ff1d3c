/- Regions whose order is drawn, of which one operation panics. Triples for loops over functions, facts of functions on heaps, regions that draw their order and turn the heap. Deferred calls: the rules for a function that defers. Outcomes that hang on the world. Terms that stand for values not known, and what they mean. Heaps in terms. Rules of terms: integers and lists. -/
import Derived.Test.YtmjplflnlggbeaaGreatDoorEEvDraw8
import Derived.Defers
import Derived.Recover
namespace Go.Ev
open Go Go.Proofs
set_option linter.unusedSimpArgs false
set_option linter.unusedVariables false
set_option linter.unnecessarySimpa false
open Go
section
variable {step:Oper→Env→zaa→OR}{ops:Array Oper}{H H':zaa}{q:Nat}{v:V}
inductive QP (step:Oper→Env→zaa→OR) (ops:Array Oper) (H:zaa) (q:Nat) (v:V) (H':zaa):Nat→List Oper→List Bool→Tm→Prop
  |nil {i:Nat} {t:Tm}:QP step ops H q v H' i [] [] t
  |val {i:Nat} {o:Oper} {r:List Oper} {fl:List Bool} {t:Tm} {x:OR} {u:V} (hw:zaD ops o t.get=some true) (hs:step o t.get H=x) (hx:x=.val u H) (hf:t.fits o.dst=true) (h:QP step ops H q v H' (i+1) r fl (t.put o.dst u)):QP step ops H q v H' i (o::r) (false::fl) t
  |off {i:Nat} {o:Oper} {r:List Oper} {fl:List Bool} {t:Tm} (hw:zaD ops o t.get=some false) (hf:t.fits o.dst=true) (h:QP step ops H q v H' (i+1) r fl (t.put o.dst .un)):QP step ops H q v H' i (o::r) (false::fl) t
  |skip {i:Nat} {o:Oper} {r:List Oper} {fl:List Bool} {t:Tm} (hi:(i==q)=false) (hf:t.fits o.dst=true) (h:QP step ops H q v H' (i+1) r fl (t.put o.dst .un)):QP step ops H q v H' i (o::r) (true::fl) t
  |stop {i:Nat} {o:Oper} {r:List Oper} {fl:List Bool} {t:Tm} {x:OR} (hi:(i==q)=true) (hw:zaD ops o t.get=some true) (hs:step o t.get H=x) (hx:x=.pan v H') (hf:t.fits o.dst=true) (h:QP step ops H q v H' (i+1) r fl (t.put o.dst .un)):QP step ops H q v H' i (o::r) (true::fl) t
def zuw (ms:List Nat)(q:Nat)(fl:List Bool):Bool:=
 fl.getD q false&&(List.range fl.length).all fun i=>!fl.getD i false||i==q||(ms.getD i 0).testBit q
structure RanP (step:Oper→Env→zaa→OR) (ops:Array Oper) (t:Tm) (H:zaa) (q:Nat) (v:V) (H':zaa) (i0:Nat) (l:List Oper) (fl:List Bool) (rs:List Rec):Prop where
  opers:rs.map (·.o)=l
  len:fl.length=l.length
  seen:∀(i:Nat)(r:Rec),rs[i]? = some r→r.t=zcN t.get rs (fun j=>decide (j<i))
  fits:∀(i:Nat)(r:Rec),rs[i]? = some r→t.fits r.o.dst=true
  off:∀(i:Nat)(r:Rec),rs[i]? = some r→fl[i]? = some false→r.w=false→zaD ops r.o r.t=some false∧r.v=.un
  on:∀(i:Nat)(r:Rec),rs[i]? = some r→fl[i]? = some false→r.w=true→zaD ops r.o r.t=some true∧step r.o r.t H=.val r.v H
  pan:∀(i:Nat)(r:Rec),rs[i]? = some r→i0+i=q→zaD ops r.o r.t=some true∧step r.o r.t H=.pan v H'
theorem zc5:∀(rs:List Rec)(t:Env),zcN t rs (fun _=>false)=t
 | [],t=>rfl
 |r::rs,t=>by simp only[zcN];exact zc5 rs t
theorem QP.run:∀{i0:Nat}{l:List Oper}{fl:List Bool}{t:Tm},QP step ops H q v H' i0 l fl t→(fl.getD (q-i0) false=true∨q<i0)→∃rs,RanP step ops t H q v H' i0 l fl rs
 |i0,_,_,t,.nil,_=>⟨[],rfl,rfl,by simp,by simp,by simp,by simp,by simp⟩
 |i0,_,_,t,.val (o:=o) (r:=l) (fl:=fl) (u:=u) hw hs hx hf h,hq=>by
  have hne:i0≠q:=by
   rintro rfl;rcases hq with hq|hq
   ·simp at hq
   ·omega
  obtain⟨rs,ih⟩:=QP.run h (by
   rcases hq with hq|hq
   ·by_cases hlt:i0<q
    ·left;rw[show q-i0=(q-(i0+1))+1 from by omega]at hq;simpa using hq
    ·right;omega
   ·right;omega)
  subst hx;refine⟨⟨o,t.get,u,true,false⟩::rs,by simp[ih.opers],by simp[ih.len],?_,?_,?_,?_,?_⟩
  ·intro i r hi;cases i with
   |zero=>simp at hi;subst hi;simp only[jLd,decide_false];exact(zc5 _ _).symm
   |succ i=>
    have:=ih.seen i r (by simpa using hi);rw[this,Tm.get_put];simp only[zcN,Nat.zero_lt_succ,jCd,if_true,Nat.add_lt_add_iff_right]
  ·intro i r hi;cases i with
   |zero=>simp at hi;subst hi;exact hf
   |succ i=>
    have:=ih.fits i r (by simpa using hi);cases hq:r.o.dst with
    |none=>rfl
    |some d=>rw[hq]at this;simpa[Tm.fits]using this
  ·intro i r hi hfl hw';cases i with
   |zero=>simp at hi;subst hi;cases hw'
   |succ i=>exact ih.off i r (by simpa using hi) (by simpa using hfl) hw'
  ·intro i r hi hfl hw';cases i with
   |zero=>simp at hi;subst hi;exact⟨hw,hs⟩
   |succ i=>exact ih.on i r (by simpa using hi) (by simpa using hfl) hw'
  ·intro i r hi he;cases i with
   |zero=>exact absurd he hne
   |succ i=>exact ih.pan i r (by simpa using hi) (by omega)
 |i0,_,_,t,.off (o:=o) (r:=l) (fl:=fl) hw hf h,hq=>by
  have hne:i0≠q:=by
   rintro rfl;rcases hq with hq|hq
   ·simp at hq
   ·omega
  obtain⟨rs,ih⟩:=QP.run h (by
   rcases hq with hq|hq
   ·by_cases hlt:i0<q
    ·left;rw[show q-i0=(q-(i0+1))+1 from by omega]at hq;simpa using hq
    ·right;omega
   ·right;omega)
  refine⟨⟨o,t.get,.un,false,false⟩::rs,by simp[ih.opers],by simp[ih.len],?_,?_,?_,?_,?_⟩
  ·intro i r hi;cases i with
   |zero=>simp at hi;subst hi;simp only[jLd,decide_false];exact(zc5 _ _).symm
   |succ i=>
    have:=ih.seen i r (by simpa using hi);rw[this,Tm.get_put];simp only[zcN,Nat.zero_lt_succ,jCd,if_true,Nat.add_lt_add_iff_right]
  ·intro i r hi;cases i with
   |zero=>simp at hi;subst hi;exact hf
   |succ i=>
    have:=ih.fits i r (by simpa using hi);cases hq:r.o.dst with
    |none=>rfl
    |some d=>rw[hq]at this;simpa[Tm.fits]using this
  ·intro i r hi hfl hw';cases i with
   |zero=>simp at hi;subst hi;exact⟨hw,rfl⟩
   |succ i=>exact ih.off i r (by simpa using hi) (by simpa using hfl) hw'
  ·intro i r hi hfl hw';cases i with
   |zero=>simp at hi;subst hi;cases hw'
   |succ i=>exact ih.on i r (by simpa using hi) (by simpa using hfl) hw'
  ·intro i r hi he;cases i with
   |zero=>exact absurd he hne
   |succ i=>exact ih.pan i r (by simpa using hi) (by omega)
 |i0,_,_,t,.skip (o:=o) (r:=l) (fl:=fl) hi0 hf h,hq=>by
  have hne:i0≠q:=by simpa using hi0
  obtain⟨rs,ih⟩:=QP.run h (by
   rcases hq with hq|hq
   ·by_cases hlt:i0<q
    ·left;rw[show q-i0=(q-(i0+1))+1 from by omega]at hq;simpa using hq
    ·right;omega
   ·right;omega)
  refine⟨⟨o,t.get,.un,false,false⟩::rs,by simp[ih.opers],by simp[ih.len],?_,?_,?_,?_,?_⟩
  ·intro i r hi;cases i with
   |zero=>simp at hi;subst hi;simp only[jLd,decide_false];exact(zc5 _ _).symm
   |succ i=>
    have:=ih.seen i r (by simpa using hi);rw[this,Tm.get_put];simp only[zcN,Nat.zero_lt_succ,jCd,if_true,Nat.add_lt_add_iff_right]
  ·intro i r hi;cases i with
   |zero=>simp at hi;subst hi;exact hf
   |succ i=>
    have:=ih.fits i r (by simpa using hi);cases hq:r.o.dst with
    |none=>rfl
    |some d=>rw[hq]at this;simpa[Tm.fits]using this
  ·intro i r hi hfl hw';cases i with
   |zero=>simp at hfl
   |succ i=>exact ih.off i r (by simpa using hi) (by simpa using hfl) hw'
  ·intro i r hi hfl hw';cases i with
   |zero=>simp at hfl
   |succ i=>exact ih.on i r (by simpa using hi) (by simpa using hfl) hw'
  ·intro i r hi he;cases i with
   |zero=>exact absurd he hne
   |succ i=>exact ih.pan i r (by simpa using hi) (by omega)
 |i0,_,_,t,.stop (o:=o) (r:=l) (fl:=fl) hi0 hw hs hx hf h,hq=>by
  have heq:i0=q:=by simpa using hi0
  obtain⟨rs,ih⟩:=QP.run h (.inr (by omega));subst hx;refine⟨⟨o,t.get,.un,false,false⟩::rs,by simp[ih.opers],by simp[ih.len],?_,?_,?_,?_,?_⟩
  ·intro i r hi;cases i with
   |zero=>simp at hi;subst hi;simp only[jLd,decide_false];exact(zc5 _ _).symm
   |succ i=>
    have:=ih.seen i r (by simpa using hi);rw[this,Tm.get_put];simp only[zcN,Nat.zero_lt_succ,jCd,if_true,Nat.add_lt_add_iff_right]
  ·intro i r hi;cases i with
   |zero=>simp at hi;subst hi;exact hf
   |succ i=>
    have:=ih.fits i r (by simpa using hi);cases hq:r.o.dst with
    |none=>rfl
    |some d=>rw[hq]at this;simpa[Tm.fits]using this
  ·intro i r hi hfl hw';cases i with
   |zero=>simp at hfl
   |succ i=>exact ih.off i r (by simpa using hi) (by simpa using hfl) hw'
  ·intro i r hi hfl hw';cases i with
   |zero=>simp at hfl
   |succ i=>exact ih.on i r (by simpa using hi) (by simpa using hfl) hw'
  ·intro i r hi he;cases i with
   |zero=>simp at hi;subst hi;exact⟨hw,hs⟩
   |succ i=>exact ih.pan i r (by simpa using hi) (by omega)
theorem zrh {ms:List Nat}{rs:List Rec}(hopers:rs.map (·.o)=ops.toList)(h:zbF ops.toList ops ms=true) :
 (∀(i:Nat)(r:Rec),rs[i]? = some r→∀e∈zcO r.o,e<i)∧(∀(i j:Nat)(r q:Rec),rs[i]? = some r→rs[j]? = some q→i≠j→∀d,q.o.dst=some d→r.o.dst≠some d∧(d∈zth ops r.o→if j<i then(ms.getD i 0).testBit j=true else(ms.getD j 0).testBit i=true)):=by
 have hop:∀{i:Nat}{r:Rec},rs[i]? = some r→ops.toList[i]? = some r.o:=by
  intro i r hi;have:(rs.map (·.o))[i]? = some r.o:=by simp[hi]
  rwa [hopers]at this
 have hall:∀(i:Nat)(o:Oper),ops.toList[i]? = some o→_:=fun i r hi=>by
  have hlt:=(jGa.1 hi).1;have:=jBb.1 h i (jCc.2 hlt);simp only[hi]at this;exact this
 refine⟨?_,?_⟩
 ·intro i r hi e he;have:=hall i r.o (hop hi);simp only[jMa]at this;simpa using jBb.1 this.1 e he
 ·intro i j r q hi hj hne d hd;have:=hall i r.o (hop hi);simp only[jMa]at this;have hlt:=(jGa.1 (hop hj)).1;have:=jBb.1 this.2 j (jCc.2 hlt);simp only[hop hj,hd,jNc,jMa,jOa,jTa,jLc,List.contains_eq_mem,jKc]at this;rcases this with e|⟨h1,h2⟩
  ·exact absurd e hne
  ·refine⟨h1,fun hd=>?_⟩;rcases h2 with h2|h2
   ·exact absurd hd h2
   ·split<;>simp_all
theorem zms:∀(rs:List Rec)(t:Env)(L:Nat→Bool)(k:Nat),(∀r∈rs,r.o.dst≠some k)→zcN t rs L k=t k
 | [],t,L,k,_=>rfl
 |r::rs,t,L,k,h=>by
  simp only[zcN];rw[zms rs _ _ k fun r' hr=>h r' (by simp[hr])];split
  ·have:=h r (by simp);cases hd:r.o.dst with
   |none=>rfl
   |some d=>
    have:¬k=d:=fun e=>by rw[hd,e]at this;exact this rfl
    simp[put,this]
  ·rfl
end
section
variable {P:Program}{T:Tab}
theorem zkg (hT:TOk P T) {call:zad} (hcall:call.Sound P T) {id:Nat} {ops:Array Oper} {t t':Tm} {H H':zaa} {q:Nat} {v:V} {fl:List Bool} {a:Act} {w:World} {M:Mem} {ρ:Ren} {Q:Exit→Act→World→Prop} (hS:SR T M ρ H w) (ht:zaS M ρ t a.tmps)
    (hs:(zbF ops.toList ops (zbt ops.toList [])&&zuw (zbt ops.toList []) q fl)=true)(hq:QP (zb7 T call) ops H q v H' 0 ops.toList fl t)
    (hpan:∀k,t'.get k=.un∨(t'.get k=t.get k∧∀o∈ops.toList,o.dst≠some k))
    (h:zen T M ρ w Q a.defers (.pan v t' H')):(Code.region id ops true).wp P Q a w:=by
  rw[jMa]at hs
  obtain⟨hst,hchk⟩:=hs
  simp only[zuw,jMa]at hchk
  obtain⟨hchk0,hchk⟩:=hchk
  obtain⟨rs,R⟩:=hq.run (.inl (by simpa using hchk0))
  obtain⟨Fedge,Fslot⟩:=zrh R.opers hst
  generalize hbefd:(fun i j=>((zbt ops.toList []).getD i 0).testBit j)=bef
  have hlen:rs.length=ops.size:=by have:=congrArg List.length R.opers;simpa using this
  have hfll:fl.length=ops.size:=by have:=R.len;simpa using this
  have hop:∀{i:Nat} {r:Rec},rs[i]? = some r→ops[i]? = some r.o:=by
    intro i r hi
    have:(rs.map (·.o))[i]? = some r.o:=by simp[hi]
    rw[R.opers]at this
    simpa using this
  have hbef:∀(i:Nat) (r:Rec) (j:Nat),rs[i]? = some r→bef i j=true→∃e∈zcO r.o,j=e∨bef e j=true:=by
    intro i r j hi hb
    subst hbefd
    exact zfB ops.toList [] i r.o j (by simpa using hop hi) (by simpa using hb)
  have hslotb:∀(i j:Nat) (r q:Rec),rs[i]? = some r→rs[j]? = some q→i≠j→∀d,q.o.dst=some d→r.o.dst≠some d∧(d∈zth ops r.o→if j<i then bef i j=true else bef j i=true):=by
    subst hbefd
    exact Fslot
  have hflb:∀i,i<ops.size→fl.getD i false=true→i≠q→bef i q=true:=by
    intro i hi hf hne
    have:=jBb.1 hchk i (jCc.2 (by omega))
    rw[hf]at this
    have e:(i==q)=false:=by simpa using hne
    rw[e]at this
    subst hbefd
    simpa using this
  have hget:∀{i:Nat},i<rs.length→∃r,rs[i]? = some r:=fun hi=>⟨_,jKa hi⟩
  have hqlt:q<ops.size:=by
    rw[jMc]at hchk0
    rcases Nat.lt_or_ge q fl.length with h1|h1
    · omega
    · rw[jGc h1]at hchk0;cases hchk0
  have hin:∀(L:Nat→Bool),(∀i r,rs[i]? = some r→L i=true→∀e∈zcO r.o,L e=true)→∀(i:Nat) (r:Rec) (j:Nat),rs[i]? = some r→(∀e∈zcO r.o,L e=true)→bef i j=true→L j=true:=by
    intro L hcl i
    induction i using Nat.strongRecOn with
    | _ i ih=>
      intro r j hi he hb
      obtain⟨e,hem,hj⟩:=hbef i r j hi hb
      rcases hj with rfl|hj
      · exact he _ hem
      · have hlt:=Fedge i r hi e hem
        obtain⟨re,hre⟩:=hget (i:=e) (by have:=(jGa.1 hi).1;omega)
        exact ih e hlt re j hre (hcl e re hre (he e hem)) hj
  refine wp_region_any hT.mixed ?_
  have key : ∀ (fuel:Nat) (listed:Array Bool) (a':Act) (w':World) (M':Mem) (ρ':Ren),listed.size=ops.size →
      (∀i r,rs[i]? = some r→listed.getD i false=true→∀e∈zcO r.o,listed.getD e false=true)→listed.getD q false=false →
      ((List.range ops.size).filter fun i=>!listed.getD i false).length≤fuel→Ext M ρ w M' ρ' w' →
      zik M' ρ' (zcN t.get rs fun j=>listed.getD j false) a'.tmps→a'.tmps.size=t.wid →
      SR T M' ρ' H w'→a'.defers=a.defers →
      wpAny P .any ops Q fuel listed a' w':=by
    have hready:∀(listed:Array Bool) (i:Nat),listed.size=ops.size→(i∈Region.ready .any ops listed↔∃r,rs[i]? = some r∧listed.getD i false=false∧∀e∈zcO r.o,listed.getD e false=true):=by
      intro listed i hsz
      unfold Region.ready
      rw[List.mem_filter,jCc]
      constructor
      · rintro ⟨hi,hh⟩
        obtain⟨r,hr⟩:=hget (i:=i) (by omega)
        rw[hop hr]at hh
        simp only[jXa,jHa,jMa,jLc,Array.all_eq_true']at hh
        refine⟨r,hr,?_,fun e he=>?_⟩
        · have:=hh.1
          rw[jCb]at this ⊢
          rw[Array.getElem?_eq_getElem (by omega)]at this ⊢
          exact this
        · simp only[zcO,jZc,List.mem_filter]at he
          obtain⟨x,⟨hx,hb⟩,rfl⟩:=he
          have:=hh.2 x (by simpa using hx)
          simpa[hb]using this
      · rintro ⟨r,hr,hL,he⟩
        have hi:=(jGa.1 hr).1
        refine⟨by omega,?_⟩
        rw[hop hr]
        simp only[jXa,jHa,jMa,jLc,Array.all_eq_true']
        refine⟨?_,fun x hx=>?_⟩
        · rw[jCb]at hL ⊢
          rw[Array.getElem?_eq_getElem (by omega)]at hL ⊢
          exact hL
        · cases hb:Region.binds .any x with
          |false=>simp
          | true=>
            simp only[Bool.not_true,jVd]
            exact he x.on (jZc.2 ⟨x,List.mem_filter.2 ⟨by simpa using hx,hb⟩,rfl⟩)
    have hnil:∀(listed:Array Bool),listed.size=ops.size→Region.ready .any ops listed=[]→∀i,i<ops.size→listed.getD i false=true:=by
      intro listed hsz hr i
      induction i using Nat.strongRecOn with
      | _ i ihi=>
        intro hi
        obtain⟨r,hri⟩:=hget (i:=i) (by omega)
        cases hL:listed.getD i false with
        |true=>rfl
        | false=>
          have:i∈Region.ready .any ops listed:=(hready listed i hsz).2 ⟨r,hri,hL,fun e he=>ihi e (Fedge i r hri e he) (by have:=Fedge i r hri e he;omega)⟩
          rw[hr]at this
          cases this
    intro fuel
    induction fuel with
    | zero=>
      intro listed a' w' M' ρ' hsz hcl hnq hcount hext hrel hsize hS' hdef
      exfalso
      have:(List.range ops.size).filter (fun i=>!listed.getD i false)=[]:=jRb (by omega)
      have:=(List.filter_eq_nil_iff.1 this) q (jCc.2 hqlt)
      rw[hnq]at this
      exact this rfl
    | succ fuel ih=>
      intro listed a' w' M' ρ' hsz hcl hnq hcount hext hrel hsize hS' hdef
      refine⟨fun hr=>?_,fun i hi=>?_⟩
      · have:=hnil listed hsz hr q hqlt
        rw[hnq]at this
        cases this
      obtain⟨r,hri,hL,hedge⟩:=(hready listed i hsz).1 hi
      have hilt:i<ops.size:=by have:=(jGa.1 hri).1;omega
      have hset:∀j,(listed.setIfInBounds i true).getD j false=(listed.getD j false||j==i):=by
        intro j
        simp only[jCb,Array.getElem?_setIfInBounds]
        by_cases hj:i=j
        · subst hj
          simp[hsz,hilt]
        · have:(j==i)=false:=by simp;omega
          simp[hj,this]
      have hslot:∀d∈r.o.looksAt ops,(zcN t.get rs fun j=>listed.getD j false) d=r.t d:=by
        intro d hd
        rw[R.seen i r hri]
        refine zfr rs t.get _ _ d (fun j q hj hqd=>?_) t.get rfl
        by_cases hji:i=j
        · subst hji
          simp only[hL]
          simp
        · have hsl:=(hslotb i j r q hri hj hji d hqd).2 hd
          by_cases hlt:j<i
          · rw[if_pos hlt]at hsl
            have:=hin (fun j=>listed.getD j false) hcl i r j hri hedge hsl
            simp only[this]
            simp[hlt]
          · rw [if_neg hlt]at hsl
            cases hLj:listed.getD j false with
            |false=>simp[hlt]
            | true=>
              have:=hin (fun j=>listed.getD j false) hcl j q i hj (hcl j q hj hLj) hsl
              rw[hL]at this
              cases this
      have hwants:zaD ops r.o (zcN t.get rs fun j=>listed.getD j false)=zaD ops r.o r.t:=zhy hslot
      unfold wpOp
      rw[hop hri]
      simp only
      by_cases hiq:i=q
      · subst hiq
        obtain⟨h1,h2⟩:=R.pan i r hri (by omega)
        rw[za8 hrel (hwants.trans h1)]
        simp only[if_true]
        refine .inl ?_
        refine zcE hT hcall hS' hrel ((zfv (zeL hslot)).trans h2) ?_
        intro x M2 ρ2 w2 hx hv hS2
        refine h a' w2 M2 ρ2 x (hext.trans hx) (fun k=>?_) hv hS2 hdef
        rcases hpan k with hk|⟨hk,hno⟩
        · exact .inl hk
        · right
          have:=hrel k
          rw[zms rs t.get _ k (fun r' hr'=>hno r'.o (by rw[←R.opers];exact jHd hr'))]at this
          rw[hk]
          exact zbx hx.mem hx.pre _ _ this
      · cases hf:fl.getD i false with
        | true=>
          have hb:=hflb i hilt hf hiq
          have:=hin (fun j=>listed.getD j false) hcl i r q hri hedge hb
          rw[hnq]at this
          cases this
        | false=>
          have hfi:fl[i]? = some false:=by
            rw[jMc,jKa (by omega)]at hf
            rw[jKa (by omega)]
            simpa using hf
          have hcl':∀k q,rs[k]? = some q→(listed.setIfInBounds i true).getD k false=true→∀e∈zcO q.o,(listed.setIfInBounds i true).getD e false=true:=by
            intro k q hk hLk e he
            rw[hset]at hLk ⊢
            by_cases hki:k=i
            · subst hki
              rw[hri]at hk
              cases hk
              simp[hedge e he]
            · have:(k==i)=false:=by simpa using hki
              rw[this,Bool.or_false]at hLk
              simp[hcl k q hk hLk e he]
          have hcount':((List.range ops.size).filter fun j=>!(listed.setIfInBounds i true).getD j false).length≤fuel:=by
            have e1:=zeW (l:=List.range ops.size) (L:=fun j=>listed.getD j false) (L':=fun j=>(listed.setIfInBounds i true).getD j false) (i:=i) List.nodup_range (jCc.2 hilt) hL hset
            have e2:∀(l:List Nat) (p:Nat→Bool),(l.filter p).length+(l.filter fun j=>!p j).length=l.length:=by
              intro l p
              induction l with
              |nil=>rfl
              |cons x l ih=>simp only[jDc];cases p x<;>simp<;>omega
            have e3:=e2 (List.range ops.size) (fun j=>listed.getD j false)
            have e4:=e2 (List.range ops.size) (fun j=>(listed.setIfInBounds i true).getD j false)
            omega
          have hcurs:zcN t.get rs (fun j=>(listed.setIfInBounds i true).getD j false)=put (zcN t.get rs fun j=>listed.getD j false) r.o.dst r.v:=
            ziP rs t.get _ _ i r hri hL hset fun j q hji hj d hqd=>(hslotb i j r q hri hj (fun e=>hji e.symm) d hqd).1
          have hfd:∀e,r.o.dst=some e→e<a'.tmps.size:=by rw[hsize];exact zlC (R.fits i r hri)
          have hnq':(listed.setIfInBounds i true).getD q false=false:=by
            rw[hset,hnq]
            have:(q==i)=false:=by simp;omega
            simp[this]
          cases hw:r.w with
          | false=>
            obtain⟨h1,h2⟩:=R.off i r hri hfi hw
            rw[za8 hrel (hwants.trans h1)]
            simp only[jSa,if_false]
            exact ih _ _ _ M' ρ' (by simpa using hsz) hcl' hnq' hcount' hext (by rw[hcurs,h2];exact zej hrel za6 r.o.dst hfd) (by rw[zfc];exact hsize) hS' (by rw[zau];exact hdef)
          | true=>
            obtain⟨h1,h2⟩:=R.on i r hri hfi hw
            rw[za8 hrel (hwants.trans h1)]
            simp only[if_true]
            refine .inl ?_
            refine zcE hT hcall hS' hrel ((zfv (zeL hslot)).trans h2) ?_
            intro x M2 ρ2 w2 hx hv hS2
            exact ih _ _ _ M2 ρ2 (by simpa using hsz) hcl' hnq' hcount' (hext.trans hx) (by rw[hcurs];exact zej (zfd hx.mem hx.pre hrel) hv r.o.dst hfd) (by rw[zfc];exact hsize) hS2 (by rw[zau];exact hdef)
  refine key ops.size (Array.replicate ops.size false) a _ M ρ (by simp) (fun i r hi hL=>?_) ?_ ?_ (Ext.drew M ρ w) ?_ ht.1.symm hS.drew rfl
  · exfalso
    simp[jCb,jXc]at hL
    split at hL<;>simp at hL
  · simp only[jCb,jXc]
    split<;>rfl
  · exact Nat.le_trans (List.length_filter_le _ _) (by simp)
  · have h0:∀j,(Array.replicate ops.size false).getD j false=false:=by
      intro j
      simp only[jCb,jXc]
      split<;>rfl
    simp only[h0]
    rw[zc5]
    exact ht.2
noncomputable def forget (t:Tm):List Nat→Tm
 | []=>t
 |d::l=>forget (t.put (some d) .un) l
theorem zcA:∀(l:List Nat)(t:Tm)(k:Nat),(forget t l).get k=if k∈l then .un else t.get k
 | [],t,k=>by simp[forget]
 |d::l,t,k=>by
  rw[forget,zcA l];by_cases h:k∈l
  ·simp[h]
  ·by_cases e:k=d
   ·subst e;simp[h,Tm.get_put,put]
   ·simp[h,e,Tm.get_put,put]
theorem Tri.drawPan (hT:TOk P T){call:zad}(hC:call.Sound P T){id:Nat}{ops:Array Oper}{t:Tm}{H:zaa}(q:Nat)(v:V)(H':zaa)(fl:List Bool){Q:Out→Prop}
 (hs:(zbF ops.toList ops (zbt ops.toList [])&&zuw (zbt ops.toList []) q fl)=true)(hq:QP (zb7 T call) ops H q v H' 0 ops.toList fl t)
 (h:Q (.pan v (forget t (ops.toList.filterMap (·.dst))) H')):Tri P T (.region id ops true) t H Q:=by
 refine⟨_,h,fun a w M ρ R hS ht k=>zkg hT hC hS ht hs hq (fun k=>?_) k⟩;rw[zcA];by_cases hk:k∈ops.toList.filterMap (·.dst)
 ·simp[hk]
 ·rw[if_neg hk];exact .inr ⟨rfl,fun o ho e=>hk (List.mem_filterMap.2 ⟨o,ho,e⟩)⟩
end
open Go Go.RowKit
section
variable {P:Program}{T:Tab}{t t':Tm}{H H':zaa}{hs:List HE}{r:Option Nat}{c x y:Code}{id j:Nat}{v:V}{Q:Out→List HE→Prop}{F:FuncId}
theorem zaI (h:zba P T r hs y t H Q):ztO P T r y Q (.norm t H) hs:=h
theorem zdr (h:Q (.norm t H) hs):zks id Q (.norm t H) hs:=h
theorem zlF (h:Q (.norm t H) hs):zks id Q (.exit id t H) hs:=by simpa only[zks,if_true]using h
theorem zkt (h:zjU P T r hs c t H Q):zlG P T r c Q (.norm t H) hs:=h
def ziI (v v':V):Prop:=∀(M:Mem)(ρ:Ren)(x:Value),rel M ρ v x→rel M ρ v' x
theorem ziI.refl (v:V):ziI v v:=fun _ _ _ h=>h
theorem zhz (n:Nat):ziI .nils (.isl n []):=fun M ρ x h=>by
 simp only[rel]at h ⊢;exact⟨none,0,h,by simp,fun e=>absurd rfl e⟩
def zdP (l l':List V):Prop:=∀(M:Mem)(ρ:Ren)(x:List Value),relL M ρ l x→relL M ρ l' x
theorem zdP.nil:zdP [] []:=fun _ _ _ h=>h
theorem zdP.cons {v v':V}{l l':List V}(h:ziI v v')(hl:zdP l l'):zdP (v::l) (v'::l'):=fun M ρ x k=>by
 simp only[relL]at k ⊢;obtain⟨a,b,e,h1,h2⟩:=k;exact⟨a,b,e,h M ρ a h1,hl M ρ b h2⟩
theorem zdP.tup {l l':List V}(h:zdP l l'):ziI (.tup l) (.tup l'):=fun M ρ x k=>by
 simp only[rel]at k ⊢;obtain⟨cs,e,h1⟩:=k;exact⟨cs,e,h M ρ cs h1⟩
theorem zaR.weak {f:FuncId}{args:Array Value}{M:Mem}{ρ:Ren}{w:World}{v v':V}(hv:ziI v v')(h:zaR P T f args M ρ w (.val v H)):zaR P T f args M ρ w (.val v' H):=by
 refine jTd h ?_;rintro e w' ⟨x,M',σ,rfl,he,hx,hk⟩;exact⟨x,M',σ,rfl,he,hv _ _ _ hx,hk⟩
theorem zkV (hp:T.Plain) {g:zhA} (hg:zak P T F g) (D:List V→Prop) (R:List V→V→Prop)
    (h:∀vs,D vs→nlL vs=true∧∃v J k v' u,g vs []=.val v J∧fz J k v=some v'∧ziI v' u∧R vs u):∃g',zak P T F g'∧∀vs,D vs→∃v',R vs v'∧∀H,g' vs H=.val v' H:=by
  classical
  have hx:∀vs,D vs→∃u,(∃v J k v',g vs []=.val v J∧fz J k v=some v'∧ziI v' u)∧R vs u:=fun vs hd=>by
    obtain⟨_,v,J,k,v',u,h1,h2,h3,h4⟩:=h vs hd
    exact⟨u,⟨v,J,k,v',h1,h2,h3⟩,h4⟩
  refine⟨fun vs H=>if hd:D vs then .val (hx vs hd).choose H else .no,?_,?_⟩
  · intro vs H r hr hne
    simp only at hr
    split at hr
    · rename_i hd
      obtain⟨⟨v,J,k,v',h1,h2,h3⟩,_⟩:=(hx vs hd).choose_spec
      obtain⟨k1,k2⟩:=hg vs [] _ h1 (by simp)
      subst hr
      exact⟨k1,fun M ρ w args hS hr=>zaR.weak h3 (zaR.frame_fz hp hS (k2 M [] w args (hS.forget hp) (nlL_rel vs args (h vs hd).1 hr)) h2)⟩
    · exact absurd hr.symm hne
  · intro vs hd
    exact⟨_,(hx vs hd).choose_spec.2,fun H=>dif_pos hd⟩
end
open Go Go.RowKit
section
variable {P:Program}{T:Tab}{M M':Mem}{ρ ρ':Ren}{w w':World}{H H':zaa}{t t':Tm}{c x y:Code}{F:FuncId}{id:Nat}

def zbX (P:Program)(T:Tab)(F:FuncId)(vs:List V)(H:zaa)(R:OR→Prop):Prop:=
 ∃r,R r∧r≠.no∧Go.Proofs.Enters P F∧∀(M:Mem)(ρ:Ren)(w:World)(args:List Value),SR T M ρ H w→relL M ρ vs args→zaR P T F args.toArray M ρ w r
theorem zbX.mono {vs:List V}{R R':OR→Prop}(h:zbX P T F vs H R)(hr:∀r,R r→R' r):zbX P T F vs H R':=by
 obtain⟨r,h1,h2⟩:=h;exact⟨r,hr r h1,h2⟩
def zaF (T:Tab)(fn:Func)(R:OR→Prop):Out→Prop
 | .norm t H=>∃v,R (.val v H)∧zaZ T fn t.get H=.val v H
 | .ret t H=>∃v,R (.val v H)∧zaZ T fn t.get H=.val v H
 | .pan v _ H=>R (.pan v H)
 |_=>False
def zaA (P:Program)(T:Tab)(F:FuncId)(vs:List V)(H:zaa)(R:OR→Prop):Prop:=
 ∃fn c,T.func F=some fn∧fn.body=some c∧vs.length≤fn.ntmps∧Tri P T c (Tm.init fn.ntmps vs) H (zaF T fn R)
/-! Functions that defer calls. -/
def zgv (M:Mem)(ρ:Ren):List (Nat×List V)→List Deferred→Prop
 | [],ds=>ds=[]
 |(f,vs)::g,ds=>∃xs cs r,ds={target:=.fn (.func f) cs.toArray,args:=xs.toArray}::r∧relL M ρ vs (xs++cs)∧zgv M ρ g r
theorem zgv.mono:∀{g:List (Nat×List V)}{ds:List Deferred}(hM:M.le M')(hρ:ρ <+: ρ')(h:zgv M ρ g ds),zgv M' ρ' g ds
 | [],ds,_,_,h=>h
 |(f,vs)::g,ds,hM,hρ,h=>by
  obtain⟨xs,cs,r,h1,h2,h3⟩:=h;exact⟨xs,cs,r,h1,relL_mono hM hρ _ _ h2,h3.mono hM hρ⟩
def zwH (T:Tab)(M:Mem)(ρ:Ren)(w:World)(Q:Exit→Act→World→Prop)(g:List (Nat×List V)):Out→Prop
 | .norm t H'=>∀a' w' M' ρ',Ext M ρ w M' ρ' w'→zaS M' ρ' t a'.tmps→SR T M' ρ' H' w'→zgv M' ρ' g a'.defers→Q .normal a' w'
 | .exit id t H'=>∀a' w' M' ρ',Ext M ρ w M' ρ' w'→zaS M' ρ' t a'.tmps→SR T M' ρ' H' w'→zgv M' ρ' g a'.defers→Q (.exit id) a' w'
 | .ret t H'=>∀a' w' M' ρ',Ext M ρ w M' ρ' w'→zaS M' ρ' t a'.tmps→SR T M' ρ' H' w'→zgv M' ρ' g a'.defers→Q .ret a' w'
 | .pan v t H'=>∀a' w' M' ρ' x,Ext M ρ w M' ρ' w'→zkG M' ρ' t a'.tmps→rel M' ρ' v x→SR T M' ρ' H' w'→zgv M' ρ' g a'.defers→Q (.panic [{v:=x,recovered:=false}]) a' w'
 | .no=>False
theorem zwH.later {Q:Exit→Act→World→Prop}(he:Ext M ρ w M' ρ' w'){g:List (Nat×List V)}{r:Out}(h:zwH T M ρ w Q g r):zwH T M' ρ' w' Q g r:=by
 cases r with
 |norm t H=>exact fun a' w2 M2 ρ2 h1=>h a' w2 M2 ρ2 (he.trans h1)
 |exit id t H=>exact fun a' w2 M2 ρ2 h1=>h a' w2 M2 ρ2 (he.trans h1)
 |ret t H=>exact fun a' w2 M2 ρ2 h1=>h a' w2 M2 ρ2 (he.trans h1)
 |pan v t H=>exact fun a' w2 M2 ρ2 x h1=>h a' w2 M2 ρ2 x (he.trans h1)
 |no=>exact h
def zew (P:Program)(T:Tab)(c:Code)(t:Tm)(H:zaa)(g0:List (Nat×List V))(Q:Out→List (Nat×List V)→Prop):Prop:=
 ∃o g,Q o g∧∀(a:Act)(w:World)(M:Mem)(ρ:Ren)(R:Exit→Act→World→Prop),SR T M ρ H w→zaS M ρ t a.tmps→zgv M ρ g0 a.defers→zwH T M ρ w R g o→c.wp P R a w
variable {g g0:List (Nat×List V)}{Q Q':Out→List (Nat×List V)→Prop}
theorem zew.lift (h:Tri P T c t H fun o=>Q o g0):zew P T c t H g0 Q:=by
 obtain⟨o,h1,h2⟩:=h;refine⟨o,g0,h1,fun a w M ρ R hS ht hd k=>h2 a w M ρ R hS ht ?_⟩;cases o with
 |norm t' H'=>exact fun a' w' M' ρ' he ht' hS' e=>k a' w' M' ρ' he ht' hS' (e▸hd.mono he.mem he.pre)
 |exit id t' H'=>exact fun a' w' M' ρ' he ht' hS' e=>k a' w' M' ρ' he ht' hS' (e▸hd.mono he.mem he.pre)
 |ret t' H'=>exact fun a' w' M' ρ' he ht' hS' e=>k a' w' M' ρ' he ht' hS' (e▸hd.mono he.mem he.pre)
 |pan v t' H'=>exact fun a' w' M' ρ' x he ht' hx hS' e=>k a' w' M' ρ' x he ht' hx hS' (e▸hd.mono he.mem he.pre)
 |no=>exact k
theorem zew.seq (h:zew P T x t H g0 fun o g=>match o with | .norm t' H'=>zew P T y t' H' g Q|o=>Q o g):zew P T (.seq x y) t H g0 Q:=by
 obtain⟨o,g,ho,hx⟩:=h;cases o with
 |norm t' H'=>
  obtain⟨o2,g2,h2,hy⟩:=ho;refine⟨o2,g2,h2,fun a w M ρ R hS ht hd k=>wp_seq (hx a w M ρ _ hS ht hd ?_)⟩;intro a' w' M' ρ' he ht' hS' hd';exact hy a' w' M' ρ' R hS' ht' hd' (k.later he)
 |exit id t' H'=>exact⟨_,g,ho,fun a w M ρ R hS ht hd k=>wp_seq (hx a w M ρ _ hS ht hd k)⟩
 |ret t' H'=>exact⟨_,g,ho,fun a w M ρ R hS ht hd k=>wp_seq (hx a w M ρ _ hS ht hd k)⟩
 |pan v t' H'=>exact⟨_,g,ho,fun a w M ρ R hS ht hd k=>wp_seq (hx a w M ρ _ hS ht hd k)⟩
 |no=>exact⟨.no,g,ho,fun a w M ρ R hS ht hd k=>k.elim⟩
theorem zed (hT:TOk P T) {call:zad} (hcall:call.Sound P T) (ops:Array Oper) {Q:Exit→Act→World→Prop} (rest:List Oper):∀(l:List Oper) (t:Tm) (H:zaa) (a:Act) (w:World) (M:Mem) (ρ:Ren) (t':Tm) (H':zaa),SR T M ρ H w→zaS M ρ t a.tmps →
    zaK (zb7 T call) ops l t H=.norm t' H' →
    (∀a' w' M' ρ',Ext M ρ w M' ρ' w'→zaS M' ρ' t' a'.tmps→SR T M' ρ' H' w'→a'.defers=a.defers→wpList P ops Q rest a' w')→wpList P ops Q (l++rest) a w
  | [],t,H,a,w,M,ρ,t',H',hS,ht,h,k=>by
    simp only[zaK]at h
    cases h
    exact k a w M ρ (Ext.refl _ _ _) ht hS rfl
  | o :: l,t,H,a,w,M,ρ,t',H',hS,ht,h,k=>by
    simp only[zaK,zbJ,zbp]at h
    rw[jEa]
    refine wpList_step fun K hK=>?_
    split at h
    · rename_i hw
      rw[za8 ht.2 hw]
      simp only[if_true]
      split at h
      · rename_i v H2 hv
        split at h
        · rename_i hfit
          refine zcE hT hcall hS ht.2 (r:=.val v H2) hv ?_
          intro x M' ρ' w' he hx hS'
          refine hK _ _ (zed hT hcall ops rest l _ H2 _ w' M' ρ' t' H' hS' (zbu (za0 he.mem he.pre ht) hx o.dst hfit) h ?_)
          intro a' w2 M2 ρ2 he2 ht2 hS2 hd
          rw[zau]at hd
          exact k a' w2 M2 ρ2 (he.trans he2) ht2 hS2 hd
        · cases h
      · cases h
      · cases h
    · rename_i hw
      rw[za8 ht.2 hw]
      simp only[jSa,if_false]
      split at h
      · rename_i hfit
        refine hK _ _ (zed hT hcall ops rest l _ H _ w M ρ t' H' hS (zbu ht za6 o.dst hfit) h ?_)
        intro a' w2 M2 ρ2 he2 ht2 hS2 hd
        rw[zau]at hd
        exact k a' w2 M2 ρ2 he2 ht2 hS2 hd
      · cases h
    · cases h
def ziQ (o:Oper):Option (Operand×List Operand):=match o.op with
 | .defer ⟨.value x,args,_⟩=>some (x,args.toList)
 |_=>none
theorem zll {o:Oper}{x:Operand}{l:List Operand}(h:ziQ o=some (x,l)):∃c:Call,o.op=.defer c∧c.callee=.value x∧c.args.toList=l:=by
 unfold ziQ at h;split at h
 ·rename_i x' args ts ho;cases h;exact⟨_,ho,rfl,rfl⟩
 ·cases h
theorem zew.reg (hT:TOk P T){call:zad}(hC:call.Sound P T){ops:Array Oper}(q:Nat){o:Oper}{xo:Operand}{xl:List Operand}{f:FuncId}{caps vs:List V}{t1 t2:Tm}{H1 H2:zaa}{xv:Option V}{yv:Option (List V)}
 (hops:ops.toList=ops.toList.take q++o::ops.toList.drop (q+1))(hg:o.guard=none)(ho:ziQ o=some (xo,xl))
 (h1:zaK (zb7 T call) ops (ops.toList.take q) t H=.norm t1 H1)(hx:ev1 t1.get xo=xv)(hxv:xv=some (.fn f caps))(hy:evs t1.get xl=yv)(hyv:yv=some vs)(hfit:t1.fits o.dst=true)
 (h2:zaK (zb7 T call) ops (ops.toList.drop (q+1)) (t1.put o.dst .un) H1=.norm t2 H2)(h:Q (.norm t2 H2) ((f,vs++caps)::g0)):zew P T (.region id ops false) t H g0 Q:=by
 subst hxv hyv;refine⟨_,_,h,fun a w M ρ R hS ht hd k=>wp_region_list ?_⟩;rw[hops];refine zed hT hC ops (o::ops.toList.drop (q+1)) (ops.toList.take q) t H a w M ρ _ _ hS ht h1 ?_;intro a' w' M' ρ' he ht' hS' hd';obtain⟨c,k1,k2,k3⟩:=zll ho;refine wpList_step fun K hK=>?_;have hw:Region.wanted o (yielded ops a'.tmps)=true:=by simp[Region.wanted,hg]
 rw[hw];simp only[if_true];have hv:=zas ht'.2 hx;simp only[rel]at hv;obtain⟨cs,hcv,hcs⟩:=hv;have hys:=zeI ht'.2 hy;have hexec:(execOp a'.eval o).run P w'=.ok (.defer {target:=.fn (.func f) cs.toArray,args:=c.args.map a'.eval}) w':=by
  simp[execOp,k1,resolve,k2,Deferred.ofValue,hcv]
 unfold Oper.wp;rw[hexec,Oper.upon_defer];have hold:zgv M' ρ' g0 a'.defers:=by rw[hd'];exact hd.mono he.mem he.pre
 refine hK _ _ ?_;have hargs:c.args.map a'.eval=(xl.map a'.eval).toArray:=by apply jWc;simp[k3]
 rw[hargs];have e2:=zed hT hC ops (Q:=R) [] (ops.toList.drop (q+1)) (t1.put o.dst .un) H1 ({a' with defers:={target:=.fn (.func f) cs.toArray,args:=(xl.map a'.eval).toArray}::a'.defers}.put o.dst undef) w' M' ρ' _ _ hS' (zbu (show zaS M' ρ' t1 ({a' with defers:={target:=.fn (.func f) cs.toArray,args:=(xl.map a'.eval).toArray}::a'.defers}:Act).tmps from ht') za6 o.dst hfit) h2 ?_
 ·rwa [jWb]at e2
 ·intro a2 w2 M2 ρ2 he2 ht2 hS2 hd2;refine k a2 w2 M2 ρ2 (he.trans he2) ht2 hS2 ?_;rw[zau]at hd2;refine⟨xl.map a'.eval,cs,a'.defers,?_,relL_mono he2.mem he2.pre _ _ (za5 hys hcs),hold.mono he2.mem he2.pre⟩;rw[hd2]
/-! The closure, called behind the body. -/
def zid (m:Option V)(y:Value):FrameMode:=match m with
 |none=>.returning
 |some _=>.panicking [{v:=y,recovered:=false}]
def zdb (m:Option V)(y:Value):FrameMode:=match m with
 |none=>.returning
 |some _=>.panicking [{v:=y,recovered:=true}]
def zeT (P:Program)(T:Tab)(f:FuncId)(vs:List V)(m:Option V)(H H2:zaa):Prop:=
 Go.Proofs.Enters P f∧∀(M:Mem)(ρ:Ren)(w:World)(xs:List Value)(y:Value),SR T M ρ H w→relL M ρ vs xs→(∀u,m=some u→rel M ρ u y) →
  CallsD P f xs.toArray (zid m y) w fun e u' w'=>∃x M' ρ',e=.returned x∧u'=zdb m y∧Ext M ρ w M' ρ' w'∧SR T M' ρ' H2 w'
def ziB (P:Program)(T:Tab):List (Nat×List V)→zaa→zaa→Prop
 | [],H,H2=>H2=H
 |(f,vs)::g,H,H2=>∃H1,zeT P T f vs none H H1∧ziB P T g H1 H2
def zzx (P:Program)(T:Tab)(fn:Func)(R:OR→Prop):Out→List (Nat×List V)→Prop
 | .norm t H,g=>∃H2 v,ziB P T g H H2∧zaZ T fn t.get H2=.val v H2∧R (.val v H2)
 | .ret t H,g=>∃H2 v,ziB P T g H H2∧zaZ T fn t.get H2=.val v H2∧R (.val v H2)
 | .pan v _ H,[]=>R (.pan v H)
 | .pan u t H,[(f,cs)]=>fn.results.toList.all zmJ=true∧∃H2 v,zeT P T f cs (some u) H H2∧zaZ T fn t.get H2=.val v H2∧R (.val v H2)
 |_,_=>False
def zk8 (P:Program)(T:Tab)(F:FuncId)(vs:List V)(H:zaa)(R:OR→Prop):Prop:=
 ∃fn c,T.func F=some fn∧fn.body=some c∧vs.length≤fn.ntmps∧zew P T c (Tm.init fn.ntmps vs) H [] (zzx P T fn R)
theorem ze8 {f:FuncId}{xs cs:List Value}(h:Go.Proofs.Enters P f)(w:World):(invoke (.fn (.func f) cs.toArray) xs.toArray).run P w=.ok (.enter f (xs++cs).toArray) w:=by
 have:=h (xs.toArray++cs.toArray) w;have e:(xs++cs).toArray=xs.toArray++cs.toArray:=by simp
 rw[e];simpa[invoke]using this
theorem zjf (hT:TOk P T){fn:Func}{f:FuncId}{cs:List V}{m:Option V}{H2:zaa}{a:Act}{xs ys:List Value}{y:Value}{v:V}(hc:zeT P T f cs m H H2)(hS:SR T M ρ H w)(hx:relL M ρ cs (xs++ys))(hy:∀u,m=some u→rel M ρ u y)(hf:∀M' ρ' w',Ext M ρ w M' ρ' w'→SR T M' ρ' H2 w'→∃x,(results fn a.tmps).run P w'=.ok x w'∧rel M' ρ' v x){R:Ending→World→Prop}
 (k:∀x M' ρ' w',Ext M ρ w M' ρ' w'→rel M' ρ' v x→SR T M' ρ' H2 w'→R (.returned x) w'):Leaves P fn a.tmps R [{target:=.fn (.func f) ys.toArray,args:=xs.toArray}] (zid m y) w:=by
 refine leaves_cons (by cases m<;>simp[zid]) (ze8 hc.1 w) ((hc.2 M ρ w (xs++ys) y hS hx hy).mono ?_);rintro e u' w' ⟨x,M',ρ',rfl,rfl,he,hS'⟩;have hm:settle (zdb m y)=.returning:=by cases m<;>simp[zdb,settle]
 show Leaves P fn a.tmps R [] (settle (zdb m y)) w';rw[hm];obtain⟨z,hz,hr⟩:=hf M' ρ' w' he hS';exact⟨z,hz,k z M' ρ' w' he hr hS'⟩
theorem zfz (hT:TOk P T) {fn:Func} {a:Act} {H2:zaa} {v:V} {t:Tm} (hfin:zaZ T fn t.get H2=.val v H2) {R:Ending→World→Prop}:∀(g:List (Nat×List V)) (ds:List Deferred) (H:zaa) (w:World) (M:Mem) (ρ:Ren),ziB P T g H H2→SR T M ρ H w→zgv M ρ g ds→zaS M ρ t a.tmps →
    (∀x M' ρ' w',Ext M ρ w M' ρ' w'→rel M' ρ' v x→SR T M' ρ' H2 w'→R (.returned x) w')→Leaves P fn a.tmps R ds .returning w
  | [],ds,H,w,M,ρ,hc,hS,hd,ht,k=>by
    have hc:H2=H:=hc
    subst hc
    have hd:ds=[]:=hd
    subst hd
    obtain⟨_,z,hz,hr⟩:=za3 hT hS ht.2 hfin
    exact⟨z,hz,k z M ρ w (Ext.refl _ _ _) hr hS⟩
  | (f,vs)::g,ds,H,w,M,ρ,hc,hS,hd,ht,k=>by
    obtain⟨H1,hc1,hc2⟩:=hc
    obtain⟨xs,cs,r,rfl,hx,hd2⟩:=hd
    refine leaves_cons (by simp) (ze8 hc1.1 w) ((hc1.2 M ρ w (xs++cs) undef hS hx (by simp)).mono ?_)
    rintro e u' w' ⟨x,M',ρ',rfl,rfl,he,hS'⟩
    show Leaves P fn a.tmps R r (settle .returning) w'
    exact zfz hT hfin g r H1 w' M' ρ' hc2 hS' (hd2.mono he.mem he.pre) (za0 he.mem he.pre ht) fun x M2 ρ2 w2 he2=>k x M2 ρ2 w2 (he.trans he2)
theorem zk8.fact (hT:TOk P T) {vs:List V} {R:OR→Prop} (h:zk8 P T F vs H R):zbX P T F vs H R:=by
  obtain⟨fn,c,hfn,hc,hle,o,g,ho,ht⟩:=h
  obtain⟨hf,hent⟩:=hT.func F fn c hfn hc
  have key:∀(r:OR),r≠.no→(∀(M:Mem) (ρ:Ren) (w:World) (S:Ending→World→Prop),(match r with
      | .val v H'=>∀x M' ρ' w',Ext M ρ w M' ρ' w'→rel M' ρ' v x→SR T M' ρ' H' w'→S (.returned x) w'
      | .pan v H'=>∀x M' ρ' w',Ext M ρ w M' ρ' w'→rel M' ρ' v x→SR T M' ρ' H' w'→S (.panicked [{v:=x,recovered:=false}]) w'
      | .no=>False)→zwH T M ρ w (bodyPostD P fn S) g o)→R r→zbX P T F vs H R:=by
    intro r hne hk hR
    refine⟨r,hR,hne,hent,fun M ρ w args hS hr=>?_⟩
    cases r with
    |no=>exact absurd rfl hne
    | val v H'=>
      refine calls_of_wp_defers hf hc (ht {tmps:=args.toArray++Array.replicate (fn.ntmps-args.toArray.size) undef,defers:=[]} w M ρ _ hS (zbr hr hle) rfl (hk M ρ w _ ?_))
      exact fun x M' ρ' w' he hx hS'=>⟨x,M',ρ',rfl,he,hx,hS'⟩
    | pan v H'=>
      refine calls_of_wp_defers hf hc (ht {tmps:=args.toArray++Array.replicate (fn.ntmps-args.toArray.size) undef,defers:=[]} w M ρ _ hS (zbr hr hle) rfl (hk M ρ w _ ?_))
      exact fun x M' ρ' w' he hx hS'=>⟨x,M',ρ',rfl,he,hx,hS'⟩
  cases o with
  | norm t' H'=>
    obtain⟨H2,v,hcl,hfin,hR⟩:=ho
    refine key (.val v H2) (by simp) (fun M ρ w S hk=>?_) hR
    intro a' w' M' ρ' he ht' hS' hd
    exact zfz hT hfin g a'.defers H' w' M' ρ' hcl hS' hd ht' fun x M2 ρ2 w2 he2=>hk x M2 ρ2 w2 (he.trans he2)
  | ret t' H'=>
    obtain⟨H2,v,hcl,hfin,hR⟩:=ho
    refine key (.val v H2) (by simp) (fun M ρ w S hk=>?_) hR
    intro a' w' M' ρ' he ht' hS' hd
    exact zfz hT hfin g a'.defers H' w' M' ρ' hcl hS' hd ht' fun x M2 ρ2 w2 he2=>hk x M2 ρ2 w2 (he.trans he2)
  | pan u t' H'=>
    match g,ho with
    | [],ho=>
      refine key (.pan u H') (by simp) (fun M ρ w S hk=>?_) ho
      intro a' w' M' ρ' x he ht' hx hS' hd
      show Leaves P fn a'.tmps S a'.defers (.panicking _) w'
      rw[show a'.defers=[]from hd]
      exact hk x M' ρ' w' he hx hS'
    | [(f,cs)],ho=>
      obtain⟨hcells,H2,v,hcl,hfin,hR⟩:=ho
      refine key (.val v H2) (by simp) (fun M ρ w S hk=>?_) hR
      intro a' w' M' ρ' y he ht' hy hS' hd
      obtain⟨xs,ys,r,hd,hxs,hr⟩:=hd
      have hr:r=[]:=hr
      subst hr
      show Leaves P fn a'.tmps S a'.defers (.panicking _) w'
      rw[hd]
      exact zjf (m:=some u) (y:=y) hT hcl hS' hxs (fun u' e=>by cases e;exact hy) (fun M3 ρ3 w3 e3 s3=>(zlW hT s3 (zob e3.mem e3.pre ht') hcells hfin).2) fun x M2 ρ2 w2 he2=>hk x M2 ρ2 w2 (he.trans he2)
    |_::_::_,ho=>exact ho.elim
  |exit id t' H'=>cases g<;>exact ho.elim
  |no=>cases g<;>exact ho.elim
theorem zaA.fact (hT:TOk P T){vs:List V}{R:OR→Prop}(h:zaA P T F vs H R):zbX P T F vs H R:=by
 obtain⟨fn,c,h1,h2,h3,h4⟩:=h;refine zk8.fact hT ⟨fn,c,h1,h2,h3,zew.lift (h4.mono fun o ho=>?_)⟩;cases o with
 |norm t H=>obtain⟨v,k1,k2⟩:=ho;exact⟨H,v,rfl,k2,k1⟩
 |ret t H=>obtain⟨v,k1,k2⟩:=ho;exact⟨H,v,rfl,k2,k1⟩
 |pan v t H=>exact ho
 |exit id t H=>exact ho
 |no=>exact ho
theorem zyu (hT:TOk P T) (F:FuncId) (D:Nat→List V→zaa→Prop) (R:List V→zaa→OR→Prop)
    (h:∀k vs H,D k vs H→∀g,zak P T F g→(∀j,j<k→∀us J,D j us J→∃r,R us J r∧g us J=r)→zbX P T F vs H (R vs H))(K:Nat) :
    ∃g,zak P T F g∧∀j,j<K→∀vs H,D j vs H→∃r,R vs H r∧g vs H=r:=by
  classical
  induction K with
  |zero=>exact⟨fun _ _=>.no,fun _ _ _ e hr=>absurd e.symm hr,fun j hj=>absurd hj (jLd j)⟩
  | succ K ih=>
    obtain⟨g,hg,hgs⟩:=ih
    have hx:∀vs H,D K vs H→∃r,R vs H r∧r≠.no∧Go.Proofs.Enters P F∧∀(M:Mem)(ρ:Ren)(w:World)(args:List Value),SR T M ρ H w→relL M ρ vs args→zaR P T F args.toArray M ρ w r:=fun vs H hd=>h K vs H hd g hg hgs
    refine⟨fun vs H=>if hd:D K vs H then(hx vs H hd).choose else g vs H,?_,?_⟩
    · intro vs H r hr hne
      simp only at hr
      split at hr
      · rename_i hd
        obtain⟨_,_,h2⟩:=(hx vs H hd).choose_spec
        subst hr
        exact h2
      · exact hg vs H r hr hne
    · intro j hj vs H hd
      by_cases hk:D K vs H
      · exact⟨_,(hx vs H hk).choose_spec.1,dif_pos hk⟩
      · have:j<K:=by
          rcases Nat.lt_succ_iff_lt_or_eq.1 hj with h1|h1
          · exact h1
          · subst h1;exact absurd hd hk
        obtain⟨r,h1,h2⟩:=hgs j this vs H hd
        exact⟨r,h1,(dif_neg hk).trans h2⟩
theorem zbX.spec (hT:TOk P T){D:List V→zaa→Prop}{R:List V→zaa→OR→Prop}(h:∀vs H,D vs H→zbX P T F vs H (R vs H)):∃g,zak P T F g∧∀vs H,D vs H→∃r,R vs H r∧g vs H=r:=by
 obtain⟨g,h1,h2⟩:=zyu (P:=P) (T:=T) hT F (fun _=>D) R (fun _ vs H hd _ _ _=>h vs H hd) 1;exact⟨g,h1,h2 0 (by omega)⟩
end
open Go
section
variable {P:Program}{T:Tab}{t:Tm}{H:zaa}{c x y:Code}{Q Q':Out→Prop}{id:Nat}
def ziF (P:Program)(T:Tab)(c:Code)(t:Tm)(H:zaa)(Q:Out→Prop):Prop:=
 ∀(a:Act)(w:World)(M:Mem)(ρ:Ren)(R:Exit→Act→World→Prop),SR T M ρ H w→zaS M ρ t a.tmps→(∀o,Q o→zen T M ρ w R a.defers o)→c.wp P R a w
theorem ziF.mono (h:ziF P T c t H Q)(hq:∀o,Q o→Q' o):ziF P T c t H Q':=fun a w M ρ R hS ht k=>h a w M ρ R hS ht fun o ho=>k o (hq o ho)
theorem Tri.n (h:Tri P T c t H Q):ziF P T c t H Q:=by
 obtain⟨o,h1,h2⟩:=h;exact fun a w M ρ R hS ht k=>h2 a w M ρ R hS ht (k o h1)
def zxd (P:Program)(T:Tab)(y:Code)(Q:Out→Prop):Out→Prop
 | .norm t H=>ziF P T y t H Q
 |o=>Q o
theorem ziF.seq (h:ziF P T x t H (zxd P T y Q)):ziF P T (.seq x y) t H Q:=by
 intro a w M ρ R hS ht k;refine wp_seq (h a w M ρ _ hS ht fun o ho=>?_);cases o with
 |norm t' H'=>
  intro a' w' M' ρ' he ht' hS' hd;refine ho a' w' M' ρ' R hS' ht' fun o2 h2=>?_;rw[hd];exact(k o2 h2).later he
 |exit id t' H'=>exact k _ ho
 |ret t' H'=>exact k _ ho
 |pan v t' H'=>exact k _ ho
 |no=>exact(k _ ho).elim
def zg2 (id:Nat)(Q:Out→Prop):Out→Prop
 | .exit j t H=>if j=id then Q (.norm t H)else Q (.exit j t H)
 |o=>Q o
def zub (P:Program)(T:Tab)(F:FuncId)(vs:List V)(r:Res):Prop:=
 ∃fn c,T.func F=some fn∧fn.body=some c∧vs.length≤fn.ntmps∧ziF P T c (Tm.init fn.ntmps vs) [] (zf3 T fn r)
theorem zj7 (hT:TOk P T)(hp:T.Plain){f:FuncId}{vs:List V}{r:Res}(h:zub P T f vs r)(h1:nlL vs=true)(h2:r.nl=true) :
 Go.Proofs.Enters P f∧∀(H:zaa)(M:Mem)(ρ:Ren)(w:World)(args:List Value),SR T M ρ H w→relL M ρ vs args→zaR P T f args.toArray M ρ w (r.at H):=by
 obtain⟨fn,c,hfn,hc,hle,ht⟩:=h;obtain⟨hf,hent⟩:=hT.func f fn c hfn hc;refine⟨hent,fun H M ρ w args hS hr=>?_⟩;have hr0:=nlL_rel (σ:=[]) vs args h1 hr;have key:Calls P f args.toArray w fun e w'=>∃M' σ J,SR T M' σ J w'∧Ext M [] w M' σ w'∧(match r with | .val v=>∃x,e=.returned x∧rel M' σ v x | .pan v=>∃x,e=.panicked [{v:=x,recovered:=false}]∧rel M' σ v x):=by
  refine calls_of_wp hf hc (ht {tmps:=args.toArray++Array.replicate (fn.ntmps-args.toArray.size) undef,defers:=[]} w M [] _ (hS.forget hp) (zbr hr0 hle) fun o ho=>?_);cases o with
  |norm t' H'=>
   cases r with
   |pan v=>exact ho.elim
   |val v=>
    intro a' w' M' ρ' he ht' hS' hd;obtain⟨_,x,hx,hxr⟩:=za3 hT hS' ht'.2 ho;exact⟨hd,x,hx,M',ρ',H',hS',he,x,rfl,hxr⟩
  |ret t' H'=>
   cases r with
   |pan v=>exact ho.elim
   |val v=>
    intro a' w' M' ρ' he ht' hS' hd;obtain⟨_,x,hx,hxr⟩:=za3 hT hS' ht'.2 ho;exact⟨hd,x,hx,M',ρ',H',hS',he,x,rfl,hxr⟩
  |pan v t' H'=>
   cases r with
   |val v=>exact ho.elim
   |pan u=>
    intro a' w' M' ρ' x he _ hx hS' hd;cases ho;exact⟨hd,M',ρ',H',hS',he,x,rfl,hx⟩
  |exit id t' H'=>cases r<;>exact ho.elim
  |no=>cases r<;>exact ho.elim
 cases r with
 |val v=>
  refine jTd key ?_;rintro e w' ⟨M',σ,J,hk,he,x,rfl,hx⟩;exact⟨x,M',ρ,rfl,he.recall,zdF v x h2 hx,hS.recall hk he⟩
 |pan v=>
  refine jTd key ?_;rintro e w' ⟨M',σ,J,hk,he,x,rfl,hx⟩;exact⟨x,M',ρ,rfl,he.recall,zdF v x h2 hx,hS.recall hk he⟩
theorem zoo (hT:TOk P T) (hp:T.Plain) (F:FuncId) (D:List V→Res→Prop)
    (h:∀vs r,D vs r→nlL vs=true∧r.nl=true∧zub P T F vs r):∃g,zak P T F g∧∀vs,(∃r,D vs r)→∃r,D vs r∧∀H,g vs H=r.at H:=by
  classical
  refine⟨fun vs H=>if hd:∃r,D vs r then hd.choose.at H else .no,?_,?_⟩
  · intro vs H r hr hne
    simp only at hr
    split at hr
    · rename_i hd
      obtain⟨h1,h2,h3⟩:=h vs _ hd.choose_spec
      obtain⟨h4,h5⟩:=zj7 hT hp h3 h1 h2
      subst hr
      exact⟨h4,h5 H⟩
    · exact absurd hr.symm hne
  · intro vs hd
    exact⟨_,hd.choose_spec,fun H=>dif_pos hd⟩
end
open Go
inductive U where
  |ui (n:Int)|ub (x:Bool)|us (l:Bs)|uv (x:V)|un (k:Nat)|ul (xs:List V)|uh (H:zaa)
  deriving Inhabited
def U.int:U→Int | .ui n=>n|_=>0
@[simp] theorem U.int_ui (x):(U.ui x).int=x:=rfl
def U.boo:U→Bool | .ub x=>x|_=>false
@[simp] theorem U.boo_ub (x):(U.ub x).boo=x:=rfl
def U.str:U→Bs | .us l=>l|_=>[]
@[simp] theorem U.str_us (x):(U.us x).str=x:=rfl
def U.val:U→V | .uv x=>x|_=>.un
@[simp] theorem U.val_uv (x):(U.uv x).val=x:=rfl
def U.nat:U→Nat | .un k=>k|_=>0
@[simp] theorem U.nat_un (x):(U.un x).nat=x:=rfl
def U.lst:U→List V | .ul xs=>xs|_=>[]
@[simp] theorem U.lst_ul (x):(U.ul x).lst=x:=rfl
def U.heap:U→zaa | .uh H=>H|_=>[]
@[simp] theorem U.heap_uh (x):(U.uh x).heap=x:=rfl
inductive O1 where
  |vi (k:IntKind)|vb|vs|agg|tup|ifc (t:Nat)|fn (g:Nat)|ptr (off:Nat)|mp|isl (sz:Nat)
  |lenS|lenL|not|wrap (k:IntKind)|hlen|enc|slc (sz len:Nat)|bys|nn
  deriving DecidableEq
inductive O2 where
  |add|sub|mul|eqI|neI|ltI|leI|gtI|geI|eqS|neS|ltS|leS|gtS|geS|eqB|neB|app|at|inS|cons|addn
  |opI (op:BinOp) (k:IntKind)|okI (op:BinOp) (k:IntKind)|sh (op:BinOp) (k j:IntKind)|okSh (op:BinOp) (k j:IntKind)|cat|sl (sz:Nat)|ptrI (sz:Nat)|pushB|andB
  deriving DecidableEq
inductive O3 where
  |sub|subL|ipt (sz off:Nat)|setB
  deriving DecidableEq
inductive E where
  |va (k:Nat)
  |ci (n:Int)|cn (k:Nat)|cb (c:Bool)|cs (l:Bs)|cv (x:V)
  |nil
  |f1 (o:O1) (a:E)
  |f2 (o:O2) (a c:E)
  |f3 (o:O3) (a c d:E)
  deriving Inhabited

def ltB (a b:Int):Bool:=decide (a<b)
def leB (a b:Int):Bool:=decide (a≤b)
@[simp] theorem zmO (a b:Int):(ltB a b=true)=(a<b):=by simp[ltB]
@[simp] theorem zg9 (a b:Int):(ltB a b=false)=(¬a<b):=by simp[ltB]
@[simp] theorem zsv (a b:Int):(leB a b=true)=(a≤b):=by simp[leB]
@[simp] theorem zxi (a b:Int):(leB a b=false)=(¬a≤b):=by simp[leB]
def atS (s:Bs)(i:Int):Int:=match s[i.toNat]? with
 |some c=>c.toNat
 |none=>0
def zf5 (o:Option V):Int:=match o with
 |some (.i _ n)=>n
 |_=>0
@[simp] theorem zcH (k n):zf5 (some (.i k n))=n:=rfl
def zda (o:Option V)(k:IntKind):Bool:=match o with
 |some (.i j _)=>decide (j=k)
 |_=>false
@[simp] theorem zds (k j n):zda (some (.i k n)) j=decide (k=j):=rfl
@[simp] def O1.den:O1→U→U
 | .vi k,a=>.uv (.i k a.int)
 | .vb,a=>.uv (.b a.boo)
 | .vs,a=>.uv (.s a.str)
 | .agg,a=>.uv (.agg a.lst)
 | .tup,a=>.uv (.tup a.lst)
 | .ifc t,a=>.uv (.ifc t a.val)
 | .fn g,a=>.uv (.fn g a.lst)
 | .ptr off,a=>.uv (.ptr a.nat off)
 | .mp,a=>.uv (.mp a.nat)
 | .isl sz,a=>.uv (.isl sz a.lst)
 | .lenS,a=>.ui a.str.length
 | .lenL,a=>.ui a.lst.length
 | .not,a=>.ub !a.boo
 | .wrap k,a=>.ui (k.wrap a.int)
 | .hlen,a=>.un a.heap.length
 | .enc,a=>.us (Utf8.encode a.int).data.toList
 | .slc sz len,a=>.uv (.sl a.nat sz 0 len (some len))
 | .bys,a=>.ul (a.str.map fun c=>.i .u8 c.toNat)
 | .nn,a=>.ui (a.int.toNat:Nat)
@[simp] def O2.den:O2→U→U→U
 | .add,a,c=>.ui (a.int+c.int)
 | .sub,a,c=>.ui (a.int-c.int)
 | .mul,a,c=>.ui (a.int*c.int)
 | .eqI,a,c=>.ub (a.int==c.int)
 | .neI,a,c=>.ub (a.int !=c.int)
 | .ltI,a,c=>.ub (ltB a.int c.int)
 | .leI,a,c=>.ub (leB a.int c.int)
 | .gtI,a,c=>.ub (ltB c.int a.int)
 | .geI,a,c=>.ub (leB c.int a.int)
 | .eqS,a,c=>.ub (a.str==c.str)
 | .neS,a,c=>.ub !(a.str==c.str)
 | .ltS,a,c=>.ub (Op.bytesLess a.str c.str)
 | .leS,a,c=>.ub (Op.bytesLess a.str c.str||a.str==c.str)
 | .gtS,a,c=>.ub !(Op.bytesLess a.str c.str||a.str==c.str)
 | .geS,a,c=>.ub !(Op.bytesLess a.str c.str)
 | .eqB,a,c=>.ub (a.boo==c.boo)
 | .neB,a,c=>.ub !(a.boo==c.boo)
 | .app,a,c=>.us (a.str++c.str)
 | .at,a,c=>.ui (atS a.str c.int)
 | .inS,a,c=>.ub (leB 0 c.int&&ltB c.int a.str.length)
 | .cons,a,c=>.ul (a.val::c.lst)
 | .addn,a,c=>.un (a.nat+c.nat)
 | .opI op k,a,c=>.ui (zf5 (zbj op k a.int c.int))
 | .okI op k,a,c=>.ub (zda (zbj op k a.int c.int) k)
 | .sh op k j,a,c=>.ui (zf5 (zbn op k a.int j c.int))
 | .okSh op k j,a,c=>.ub (zda (zbn op k a.int j c.int) k)
 | .cat,a,c=>.ul (a.lst++c.lst)
 | .sl sz,a,c=>.uv (.sl a.nat sz 0 c.int.toNat none)
 | .ptrI sz,a,c=>.uv (.ptr a.nat (c.int.toNat*sz))
 | .pushB,a,c=>.us (a.str++[UInt8.ofNat c.int.toNat])
 | .andB,a,c=>.ub (a.boo&&c.boo)
@[simp] def O3.den:O3→U→U→U→U
 | .sub,a,c,d=>.us ((a.str.take d.int.toNat).drop c.int.toNat)
 | .subL,a,c,d=>.ul ((a.lst.take d.int.toNat).drop c.int.toNat)
 | .ipt sz off,a,c,d=>.uv (.ipt sz a.lst c.int.toNat off)
 | .setB,a,c,d=>.us (a.str.set c.int.toNat (UInt8.ofNat d.int.toNat))
@[simp] def E.den (σ:List U):E→U
 | .va k=>(σ[k]?).getD (.ui 0)
 | .ci n=>.ui n
 | .cn k=>.un k
 | .cb c=>.ub c
 | .cs l=>.us l
 | .cv x=>.uv x
 | .nil=>.ul []
 | .f1 o a=>o.den (a.den σ)
 | .f2 o a c=>o.den (a.den σ) (c.den σ)
 | .f3 o a c d=>o.den (a.den σ) (c.den σ) (d.den σ)
noncomputable def E.scop (n:Nat)(e:E):Bool:=
 E.rec (fun k=>Nat.blt k n) (fun _=>true) (fun _=>true) (fun _=>true) (fun _=>true) (fun _=>true) true (fun _ _ r=>r) (fun _ _ _ r q=>Bool.rec false q r) (fun _ _ _ _ r q p=>Bool.rec false (Bool.rec false p q) r) e
theorem E.scop_den (σ τ:List U):∀(e:E),e.scop σ.length=true→e.den (σ++τ)=e.den σ
 | .va k,h=>by
  have hk:k<σ.length:=by simpa[E.scop,Nat.blt_eq]using h
  simp[E.den,jQa hk]
 | .ci _,_=>rfl
 | .cn _,_=>rfl
 | .cb _,_=>rfl
 | .cs _,_=>rfl
 | .cv _,_=>rfl
 | .nil,_=>rfl
 | .f1 o a,h=>by
  have h:a.scop σ.length=true:=h;simp only[E.den,E.scop_den σ τ a h]
 | .f2 o a c,h=>by
  have h:(Bool.rec false (c.scop σ.length) (a.scop σ.length):Bool)=true:=h;cases ha:a.scop σ.length
  ·rw[ha]at h;cases h
  ·rw[ha]at h;simp only[E.den,E.scop_den σ τ a ha,E.scop_den σ τ c h]
 | .f3 o a c d,h=>by
  have h:(Bool.rec false (Bool.rec false (d.scop σ.length) (c.scop σ.length):Bool) (a.scop σ.length):Bool)=true:=h;cases ha:a.scop σ.length
  ·rw[ha]at h;cases h
  ·rw[ha]at h;cases hc:c.scop σ.length
   ·rw[hc]at h;cases h
   ·rw[hc]at h;simp only[E.den,E.scop_den σ τ a ha,E.scop_den σ τ c hc,E.scop_den σ τ d h]
theorem E.scop_mono {n m:Nat}(hm:n≤m):∀(e:E),e.scop n=true→e.scop m=true
 | .va k,h=>by
  have h:Nat.blt k n=true:=h;show Nat.blt k m=true;rw[Nat.blt_eq]at h ⊢;omega
 | .ci _,_=>rfl
 | .cn _,_=>rfl
 | .cb _,_=>rfl
 | .cs _,_=>rfl
 | .cv _,_=>rfl
 | .nil,_=>rfl
 | .f1 o a,h=>E.scop_mono hm a h
 | .f2 o a c,h=>by
  have h:(Bool.rec false (c.scop n) (a.scop n):Bool)=true:=h;show(Bool.rec false (c.scop m) (a.scop m):Bool)=true;cases ha:a.scop n
  ·rw[ha]at h;cases h
  ·rw[ha]at h;rw[E.scop_mono hm a ha];exact E.scop_mono hm c h
 | .f3 o a c d,h=>by
  have h:(Bool.rec false (Bool.rec false (d.scop n) (c.scop n):Bool) (a.scop n):Bool)=true:=h;show(Bool.rec false (Bool.rec false (d.scop m) (c.scop m):Bool) (a.scop m):Bool)=true;cases ha:a.scop n
  ·rw[ha]at h;cases h
  ·rw[ha]at h;cases hc:c.scop n
   ·rw[hc]at h;cases h
   ·rw[hc]at h;rw[E.scop_mono hm a ha,E.scop_mono hm c hc];exact E.scop_mono hm d h
noncomputable def E.up (n:Nat)(e:E):E:=
 E.rec (fun k=>.va (n+k)) (fun n=>.ci n) (fun n=>.cn n) (fun c=>.cb c) (fun l=>.cs l) (fun x=>.cv x) .nil (fun o _ r=>.f1 o r) (fun o _ _ r q=>.f2 o r q) (fun o _ _ _ r q p=>.f3 o r q p) e
section
variable {α:Type}
noncomputable def fO1 (o:O1)(k:O1→α):α:=O1.rec (fun j=>k (.vi j)) (k .vb) (k .vs) (k .agg) (k .tup) (fun t=>fN t fun t=>k (.ifc t)) (fun g=>fN g fun g=>k (.fn g)) (fun d=>fN d fun d=>k (.ptr d)) (k .mp) (fun z=>fN z fun z=>k (.isl z))
 (k .lenS) (k .lenL) (k .not) (fun j=>k (.wrap j)) (k .hlen) (k .enc) (fun z n=>fN z fun z=>fN n fun n=>k (.slc z n)) (k .bys) (k .nn) o
theorem zw4 (o:O1)(k:O1→α):fO1 o k=k o:=by cases o<;>simp[fO1,zcp]
noncomputable def fO3 (o:O3)(k:O3→α):α:=O3.rec (k .sub) (k .subL) (fun z d=>fN z fun z=>fN d fun d=>k (.ipt z d)) (k .setB) o
theorem zw6 (o:O3)(k:O3→α):fO3 o k=k o:=by cases o<;>simp[fO3,zcp]
noncomputable def fO2 (o:O2)(k:O2→α):α:=match o with
 | .sl z=>fN z fun z=>k (.sl z)
 | .ptrI z=>fN z fun z=>k (.ptrI z)
 |o=>k o
theorem zw5 (o:O2)(k:O2→α):fO2 o k=k o:=by cases o<;>simp[fO2,zcp]
noncomputable def fE (e:E):(E→α)→α:=
 E.rec (motive:=fun _=>(E→α)→α) (fun n k=>fN n fun n=>k (.va n)) (fun n k=>fI n fun n=>k (.ci n)) (fun n k=>fN n fun n=>k (.cn n)) (fun c k=>Bool.rec (k (.cb false)) (k (.cb true)) c) (fun l k=>fUs l fun l=>k (.cs l)) (fun x k=>fV x fun x=>k (.cv x)) (fun k=>k .nil)
  (fun o _ r k=>r fun a=>fO1 o fun o=>k (.f1 o a)) (fun o _ _ r q k=>r fun a=>q fun c=>fO2 o fun o=>k (.f2 o a c)) (fun o _ _ _ r q p k=>r fun a=>q fun c=>p fun d=>fO3 o fun o=>k (.f3 o a c d)) e
theorem zer:∀(e:E)(k:E→α),fE e k=k e
 | .va n,k=>by show fN n (fun n=>k (.va n))=_;rw[zcp]
 | .ci n,k=>by show fI n (fun n=>k (.ci n))=_;rw[zw3]
 | .cn n,k=>by show fN n (fun n=>k (.cn n))=_;rw[zcp]
 | .cb c,k=>by cases c<;>rfl
 | .cs l,k=>by show fUs l (fun l=>k (.cs l))=_;rw[zpT]
 | .cv x,k=>by show fV x (fun x=>k (.cv x))=_;rw[zsa]
 | .nil,k=>rfl
 | .f1 o a,k=>by show fE a (fun a=>fO1 o fun o=>k (.f1 o a))=_;rw[zer a,zw4]
 | .f2 o a c,k=>by show fE a (fun a=>fE c fun c=>fO2 o fun o=>k (.f2 o a c))=_;rw[zer a,zer c,zw5]
 | .f3 o a c d,k=>by show fE a (fun a=>fE c fun c=>fE d fun d=>fO3 o fun o=>k (.f3 o a c d))=_;rw[zer a,zer c,zer d,zw6]
end
noncomputable def E.same (e:E):E→Bool:=
 E.rec (motive:=fun _=>E→Bool) (fun k f=>match f with | .va j=>Nat.beq k j|_=>false) (fun n f=>match f with | .ci m=>decide (n=m)|_=>false) (fun n f=>match f with | .cn m=>Nat.beq n m|_=>false) (fun c f=>match f with | .cb d=>c==d|_=>false)
  (fun l f=>match f with | .cs m=>eqU l m|_=>false) (fun _ _=>false) (fun f=>match f with | .nil=>true|_=>false)
  (fun o _ r f=>match f with | .f1 p a=>Bool.rec false (r a) (decide (o=p))|_=>false) (fun o _ _ r q f=>match f with | .f2 p a c=>Bool.rec false (Bool.rec false (q c) (r a)) (decide (o=p))|_=>false)
  (fun o _ _ _ r q s f=>match f with | .f3 p a c d=>Bool.rec false (Bool.rec false (Bool.rec false (s d) (q c)) (r a)) (decide (o=p))|_=>false) e
theorem zd7 {a b:Bool}(h:(Bool.rec false b a:Bool)=true):a=true∧b=true:=by
 cases a
 ·cases h
 ·exact⟨rfl,h⟩
theorem E.same_eq:∀(e f:E),e.same f=true→e=f
 | .va k,f,h=>by cases f<;>first|(cases h;done)|(have h:Nat.beq k _=true:=h;rw[jTc h])
 | .ci k,f,h=>by cases f<;>first|(cases h;done)|(have h:decide (k=_)=true:=h;rw[jBc h])
 | .cn k,f,h=>by cases f<;>first|(cases h;done)|(have h:Nat.beq k _=true:=h;rw[jTc h])
 | .cb k,f,h=>by cases f<;>first|(cases h;done)|(have h:(k==_)=true:=h;rw[eq_of_beq h])
 | .cs k,f,h=>by cases f<;>first|(cases h;done)|(have h:eqU k _=true:=h;rw[zfQ]at h;rw[eq_of_beq h])
 | .cv k,f,h=>by cases h
 | .nil,f,h=>by cases f<;>first|rfl|(cases h;done)
 | .f1 o a,f,h=>by
  cases f<;>first|(cases h;done)|skip;rename_i p c;have h:(Bool.rec false (a.same c) (decide (o=p)):Bool)=true:=h;obtain⟨h1,h2⟩:=zd7 h;rw[jBc h1,E.same_eq a c h2]
 | .f2 o a b,f,h=>by
  cases f<;>first|(cases h;done)|skip;rename_i p c d;have h:(Bool.rec false (Bool.rec false (b.same d) (a.same c):Bool) (decide (o=p)):Bool)=true:=h;obtain⟨h1,h2⟩:=zd7 h;obtain⟨h2,h3⟩:=zd7 h2;rw[jBc h1,E.same_eq a c h2,E.same_eq b d h3]
 | .f3 o a b g,f,h=>by
  cases f<;>first|(cases h;done)|skip;rename_i p c d e;have h:(Bool.rec false (Bool.rec false (Bool.rec false (g.same e) (b.same d):Bool) (a.same c):Bool) (decide (o=p)):Bool)=true:=h;obtain⟨h1,h2⟩:=zd7 h;obtain⟨h2,h3⟩:=zd7 h2;obtain⟨h3,h4⟩:=zd7 h3;rw[jBc h1,E.same_eq a c h2,E.same_eq b d h3,E.same_eq g e h4]
/-! Values as terms. -/
def zry:V→E
 | .i k n=>.f1 (.vi k) (.ci n)
 | .b c=>.f1 .vb (.cb c)
 | .s l=>.f1 .vs (.cs l)
 |v=>.cv v
noncomputable def zwz (l:List V):E:=List.rec .nil (fun v _ r=>.f2 .cons (zry v) r) l
noncomputable def ofV:V→E
 | .agg l=>.f1 .agg (zwz l)
 | .tup l=>.f1 .tup (zwz l)
 |v=>zry v
theorem zmu (σ:List U)(v:V):((zry v).den σ).val=v:=by cases v<;>rfl
theorem ziR (σ:List U):∀(l:List V),((zwz l).den σ).lst=l
 | []=>rfl
 |v::l=>by
  show((zry v).den σ).val::((zwz l).den σ).lst=_;rw[zmu,ziR σ l]
theorem zlm (σ:List U)(v:V):((ofV v).den σ).val=v:=by
 cases v with
 |agg l=>
  show V.agg ((zwz l).den σ).lst=_;rw[ziR]
 |tup l=>
  show V.tup ((zwz l).den σ).lst=_;rw[ziR]
 |_=>rfl
noncomputable def E.items (e:E):Option (List E):=
 E.rec (fun _=>none) (fun _=>none) (fun _=>none) (fun _=>none) (fun _=>none) (fun _=>none) (some []) (fun _ _ _=>none)
  (fun o a _ _ q=>match(generalizing:=false) o,q with | .cons,some l=>some (a::l)|_,_=>none) (fun _ _ _ _ _ _ _=>none) e
theorem E.items_den (σ:List U):∀(e:E)(l:List E),e.items=some l→(e.den σ).lst=l.map fun a=>(a.den σ).val
 | .va _,_,h=>by cases h
 | .ci _,_,h=>by cases h
 | .cn _,_,h=>by cases h
 | .cb _,_,h=>by cases h
 | .cs _,_,h=>by cases h
 | .cv _,_,h=>by cases h
 | .nil,l,h=>by cases h;rfl
 | .f1 _ _,_,h=>by cases h
 | .f3 _ _ _ _,_,h=>by cases h
 | .f2 o a c,l,h=>by
  have h:(match(generalizing:=false) o,c.items with | .cons,some l=>some (a::l)|_,_=>none)=some l:=h;cases hc:c.items with
  |none=>rw[hc]at h;cases o<;>cases h
  |some l'=>
   rw[hc]at h;have:o=.cons:=by cases o<;>first|rfl|cases h
   subst this;cases h;show(a.den σ).val::(c.den σ).lst=_;rw[E.items_den σ c l' hc];rfl
noncomputable def toE (l:List E):E:=List.rec .nil (fun v _ r=>.f2 .cons v r) l
theorem zbS (σ:List U):∀(l:List E),((toE l).den σ).lst=l.map fun a=>(a.den σ).val
 | []=>rfl
 |v::l=>by
  show(v.den σ).val::((toE l).den σ).lst=_;rw[zbS σ l];rfl
open Go
/-! Heaps in terms: one that is not looked into, blocks in it that are known, and new blocks behind it. -/
structure SB where
  ty:Nat
  cells:E
  kind:BK
structure SH where
  base:E
  sets:List (E×Option SB)
  new:List (Option SB)
@[simp] def SB.den (σ:List U)(b:SB):Blk:=⟨b.ty,(b.cells.den σ).lst,b.kind⟩
@[simp] def bD (σ:List U):Option SB→Option Blk
 |some b=>some (b.den σ)
 |none=>none
@[simp] def zat (σ:List U)(H:zaa):List (E×Option SB)→zaa
 | []=>H
 |p::r=>(zat σ H r).set (p.1.den σ).nat (bD σ p.2)
@[simp] def za9 (σ:List U):zaa→List (Option SB)→zaa
 |H,[]=>H
 |H,b::r=>za9 σ (H++[bD σ b]) r
@[simp] def SH.den (σ:List U)(h:SH):zaa:=za9 σ (zat σ (h.base.den σ).heap h.sets) h.new
structure SH.WF (σ:List U) (h:SH):Prop where
  lt:∀p∈h.sets,(p.1.den σ).nat<(h.base.den σ).heap.length
  ne:h.sets.Pairwise fun p q=>(p.1.den σ).nat≠(q.1.den σ).nat
noncomputable def zu9 (n:E)(l:List (E×Option SB)):Option (Option SB):=List.rec none (fun p _ r=>bif p.1.same n then some p.2 else r) l
noncomputable def zz6 (n:E)(b:Option SB)(l:List (E×Option SB)):Option (List (E×Option SB)):=List.rec none (fun p t r=>bif p.1.same n then some ((p.1,b)::t)else match r with|some q=>some (p::q)|none=>none) l
noncomputable def zsL (h:SH)(n:E):Option Nat:=match n with
 | .f2 .addn (.f1 .hlen b) (.cn j)=>bif b.same h.base then some j else none
 |_=>none
noncomputable def SH.look0 (h:SH)(n:E):Option (Option SB):=match zsL h n with
 |some j=>zwy h.new j
 |none=>zu9 n h.sets
noncomputable def SH.look (h:SH)(n:E):Option SB:=match h.look0 n with
 |some (some b)=>some b
 |_=>none
noncomputable def SH.put (h:SH)(n:E)(b:Option SB):Option SH:=match zsL h n with
 |some j=>bif Nat.blt j h.new.length then some {h with new:=h.new.set j b}else none
 |none=>match zz6 n b h.sets with
  |some l=>some {h with sets:=l}
  |none=>none
noncomputable def SH.add (h:SH)(b:Option SB):SH:={h with new:=h.new++[b]}
noncomputable def SH.fresh (h:SH):E:=.f2 .addn (.f1 .hlen h.base) (.cn h.new.length)
theorem zbc (σ:List U)(H:zaa):∀l,(zat σ H l).length=H.length
 | []=>rfl
 |p::r=>by simp[zbc σ H r]
theorem zdu (σ:List U):∀l H,za9 σ H l=H++l.map (bD σ)
 | [],H=>by simp
 |b::r,H=>by simp[zdu σ r]
theorem SH.den_length (σ:List U)(h:SH):(h.den σ).length=(h.base.den σ).heap.length+h.new.length:=by simp[zbc,zdu]
theorem zie {σ:List U}{h:SH}{n:E}{j:Nat}(e:zsL h n=some j):(n.den σ).nat=(h.base.den σ).heap.length+j:=by
 unfold zsL at e;split at e
 ·rename_i b i;cases hb:b.same h.base
  ·rw[hb]at e;cases e
  ·rw[hb]at e;cases e;rw[E.same_eq _ _ hb];rfl
 ·cases e
theorem zmN {σ:List U}{H:zaa}{n:E}{b:Option SB}:∀{l:List (E×Option SB)},zu9 n l=some b→(∀p∈l,(p.1.den σ).nat<H.length)→(l.Pairwise fun p q=>(p.1.den σ).nat≠(q.1.den σ).nat)→(∃c,(n,c)∈l)∧(zat σ H l)[(n.den σ).nat]? = some (bD σ b)
 | [],e,_,_=>by cases e
 |p::r,e,h1,h2=>by
  have e:(bif p.1.same n then some p.2 else zu9 n r)=some b:=e;cases hp:p.1.same n
  ·rw[hp]at e;obtain⟨⟨c,hc⟩,h⟩:=zmN (σ:=σ) (H:=H) e (fun q hq=>h1 q (jYb _ hq)) (List.pairwise_cons.1 h2).2;refine⟨⟨c,jYb _ hc⟩,?_⟩;have:=(List.pairwise_cons.1 h2).1 _ hc;simp only[zat];rw[jRa this];exact h
  ·rw[hp]at e;cases e;have hn:=E.same_eq _ _ hp;subst hn;refine⟨⟨p.2,jIc ..⟩,?_⟩;simp only[zat];rw[jFb (by rw[zbc];exact h1 p (jIc ..))]
theorem SH.look0_den {σ:List U}{h:SH}{n:E}{b:Option SB}(hw:h.WF σ)(e:h.look0 n=some b):(h.den σ)[(n.den σ).nat]? = some (bD σ b):=by
 unfold SH.look0 at e;split at e
 ·rename_i j hj;rw[zie hj];rw[zcf]at e;simp only[SH.den,zdu];rw[jPb (by rw[zbc];omega),zbc,jJc];simp[e]
 ·have:=zmN e hw.lt hw.ne;simp only[SH.den,zdu];have hlt:(n.den σ).nat<(zat σ (h.base.den σ).heap h.sets).length:=by
   obtain⟨⟨c,hc⟩,_⟩:=this;rw[zbc];exact hw.lt _ hc
  rw[jQa hlt];exact this.2
theorem SH.look_den {σ:List U}{h:SH}{n:E}{b:SB}(hw:h.WF σ)(e:h.look n=some b):(h.den σ)[(n.den σ).nat]? = some (some (b.den σ)):=by
 unfold SH.look at e;split at e
 ·rename_i b' hb;cases e;exact SH.look0_den hw hb
 ·cases e
theorem zqX {σ:List U} {H:zaa} {n:E} {b:Option SB}:∀{l l':List (E×Option SB)},zz6 n b l=some l'→(∀p∈l,(p.1.den σ).nat<H.length)→(l.Pairwise fun p q=>(p.1.den σ).nat≠(q.1.den σ).nat) →
    (∃c,(n,c)∈l)∧l'.map (·.1)=l.map (·.1)∧zat σ H l'=(zat σ H l).set (n.den σ).nat (bD σ b)
  | [],_,e,_,_=>by cases e
  | p :: r,l',e,h1,h2=>by
    have e:(bif p.1.same n then some ((p.1,b)::r)else match zz6 n b r with|some q=>some (p::q)|none=>none)=some l':=e
    cases hp:p.1.same n
    · rw [hp]at e
      simp only[jMd]at e
      split at e
      · rename_i q hq
        cases e
        obtain⟨⟨c,hc⟩,h3,h4⟩:=zqX (σ:=σ) (H:=H) hq (fun q hq=>h1 q (jYb _ hq)) (List.pairwise_cons.1 h2).2
        refine⟨⟨c,jYb _ hc⟩,by simp[h3],?_⟩
        have:=(List.pairwise_cons.1 h2).1 _ hc
        simp only[zat]
        rw[h4,List.set_comm _ _ this]
      · cases e
    · rw[hp]at e
      cases e
      have hn:=E.same_eq _ _ hp
      subst hn
      refine⟨⟨p.2,jIc ..⟩,rfl,?_⟩
      simp only[zat,List.set_set]
theorem SH.put_den {σ:List U}{h h':SH}{n:E}{b:Option SB}(hw:h.WF σ)(e:h.put n b=some h'):h'.WF σ∧h'.den σ=(h.den σ).set (n.den σ).nat (bD σ b):=by
 unfold SH.put at e;split at e
 ·rename_i j hj;cases hl:Nat.blt j h.new.length
  ·rw[hl]at e;cases e
  ·rw[hl]at e;cases e;refine⟨⟨hw.lt,hw.ne⟩,?_⟩;rw[zie hj];simp only[SH.den,zdu];rw[List.set_append_right _ _ (by rw[zbc];omega),zbc,jJc,List.map_set]
 ·split at e
  ·rename_i l hl;cases e;obtain⟨⟨c,hc⟩,h3,h4⟩:=zqX (σ:=σ) hl hw.lt hw.ne;refine⟨⟨?_,?_⟩,?_⟩
   ·intro p hp;have:p.1∈h.sets.map (·.1):=h3▸jHd hp;obtain⟨q,hq,e⟩:=jZc.1 this;rw[←e];exact hw.lt q hq
   ·have k1:(l.map (·.1)).Pairwise fun a c:E=>(a.den σ).nat≠(c.den σ).nat:=by
     rw[h3,List.pairwise_map];exact hw.ne
    rwa [List.pairwise_map]at k1
   ·simp only[SH.den,zdu];rw[h4,List.set_append_left _ _ (by rw[zbc];exact hw.lt _ hc)]
  ·cases e
theorem SH.add_den {σ:List U}{h:SH}{b:Option SB}(hw:h.WF σ):(h.add b).WF σ∧(h.add b).den σ=h.den σ++[bD σ b]∧(h.fresh.den σ).nat=(h.den σ).length:=by
 refine⟨⟨hw.lt,hw.ne⟩,?_,?_⟩
 ·simp[SH.add,zdu]
 ·rw[SH.den_length];rfl
noncomputable def SB.scop (n:Nat)(b:Option SB):Bool:=match b with
 |some b=>b.cells.scop n
 |none=>true
noncomputable def SH.scop (n:Nat)(h:SH):Bool:=h.base.scop n&&h.sets.all (fun p=>p.1.scop n&&SB.scop n p.2)&&h.new.all (SB.scop n)
theorem SB.scop_den {σ τ:List U}{b:Option SB}(h:SB.scop σ.length b=true):bD (σ++τ) b=bD σ b:=by
 cases b with
 |none=>rfl
 |some b=>
  simp only[bD,SB.den];rw[E.scop_den σ τ _ h]
theorem SB.scop_mono {n m:Nat}(hm:n≤m){b:Option SB}(h:SB.scop n b=true):SB.scop m b=true:=by
 cases b with
 |none=>rfl
 |some b=>exact E.scop_mono hm _ h
theorem SH.scop_den {σ τ:List U}{h:SH}(hs:h.scop σ.length=true):h.den (σ++τ)=h.den σ∧(h.WF σ→h.WF (σ++τ)):=by
 simp only[SH.scop,jMa]at hs;obtain⟨⟨h1,h2⟩,h3⟩:=hs;have hp:∀p∈h.sets,p.1.den (σ++τ)=p.1.den σ∧bD (σ++τ) p.2=bD σ p.2:=fun p hp=>by
  have:=jBb.1 h2 p hp;rw[jMa]at this;exact⟨E.scop_den σ τ _ this.1,SB.scop_den this.2⟩
 have e1:∀l:List (E×Option SB),(∀p∈l,p.1.den (σ++τ)=p.1.den σ∧bD (σ++τ) p.2=bD σ p.2)→∀H,zat (σ++τ) H l=zat σ H l:=fun l=>by
  induction l with
  |nil=>intro _ _;rfl
  |cons p l ih=>
   intro k H;simp only[zat];rw[ih (fun q hq=>k q (jYb _ hq)),(k p (jIc ..)).1,(k p (jIc ..)).2]
 have e2:∀H,za9 (σ++τ) H h.new=za9 σ H h.new:=fun H=>by
  rw[zdu,zdu];congr 1;exact List.map_congr_left fun b hb=>by rw[SB.scop_den (jBb.1 h3 b hb)]
 refine⟨?_,fun hw=>⟨fun p q=>?_,?_⟩⟩
 ·simp only[SH.den];rw[E.scop_den σ τ _ h1,e1 _ hp,e2]
 ·rw[(hp p q).1,E.scop_den σ τ _ h1];exact hw.lt p q
 ·refine List.Pairwise.imp_of_mem ?_ hw.ne;intro p q h4 h5 h6;rw[(hp p h4).1,(hp q h5).1];exact h6
theorem SH.scop_mono {n m:Nat}(hm:n≤m){h:SH}(hs:h.scop n=true):h.scop m=true:=by
 simp only[SH.scop,jMa,jBb]at hs ⊢;obtain⟨⟨h1,h2⟩,h3⟩:=hs;exact⟨⟨E.scop_mono hm _ h1,fun p hp=>⟨E.scop_mono hm _ (h2 p hp).1,SB.scop_mono hm (h2 p hp).2⟩⟩,fun b hb=>SB.scop_mono hm (h3 b hb)⟩
noncomputable def zsz (l:List (E×Option SB)):List (E×SB):=List.rec [] (fun p _ r=>match p.2 with|some b=>(p.1,b)::r|none=>r) l
noncomputable def zsy (base:E)(l:List (Option SB)):Nat→List (E×SB):=List.rec (motive:=fun _=>Nat→List (E×SB)) (fun _=>[]) (fun p _ r j=>match p with|some b=>(.f2 .addn (.f1 .hlen base) (.cn j),b)::r (j+1)|none=>r (j+1)) l
noncomputable def SH.live (h:SH):List (E×SB):=zsz h.sets++zsy h.base h.new 0
theorem zfb {p:E×SB}:∀{l:List (E×Option SB)},p∈zsz l→(p.1,some p.2)∈l
 | [],h=>by cases h
 |(n,none)::r,h=>jYb _ (zfb (l:=r) h)
 |(n,some b)::r,h=>by
  rcases jOb.1 (show p∈(n,b)::zsz r from h)with rfl|h
  ·exact jIc ..
  ·exact jYb _ (zfb h)
theorem zjj {σ:List U}:∀{l:List (E×Option SB)},(l.Pairwise fun p q=>(p.1.den σ).nat≠(q.1.den σ).nat)→(zsz l).Pairwise fun p q=>(p.1.den σ).nat≠(q.1.den σ).nat
 | [],_=>.nil
 |(n,none)::r,h=>zjj (l:=r) (List.pairwise_cons.1 h).2
 |(n,some b)::r,h=>by
  obtain⟨h1,h2⟩:=List.pairwise_cons.1 h;exact List.pairwise_cons.2 ⟨fun q hq=>h1 _ (zfb hq),zjj h2⟩
theorem zeg {σ:List U}{base:E}{p:E×SB}:∀{l:List (Option SB)}{j:Nat},p∈zsy base l j→∃i,j≤i∧(p.1.den σ).nat=(base.den σ).heap.length+i
 | [],_,h=>by cases h
 |none::r,j,h=>by
  obtain⟨i,h1,h2⟩:=zeg (σ:=σ) (l:=r) (j:=j+1) h;exact⟨i,by omega,h2⟩
 |some b::r,j,h=>by
  rcases jOb.1 (show p∈(E.f2 .addn (.f1 .hlen base) (.cn j),b)::zsy base r (j+1)from h)with rfl|h
  ·exact⟨j,jDb _,rfl⟩
  ·obtain⟨i,h1,h2⟩:=zeg (σ:=σ) h;exact⟨i,by omega,h2⟩
theorem zji {σ:List U}{base:E}:∀{l:List (Option SB)}{j:Nat},(zsy base l j).Pairwise fun p q=>(p.1.den σ).nat≠(q.1.den σ).nat
 | [],_=>.nil
 |none::r,j=>zji (l:=r) (j:=j+1)
 |some b::r,j=>by
  refine List.pairwise_cons.2 ⟨fun q hq=>?_,zji⟩;obtain⟨i,h1,h2⟩:=zeg (σ:=σ) hq;rw[h2];show(base.den σ).heap.length+j≠_;omega
theorem SH.live_ne {σ:List U}{h:SH}(hw:h.WF σ):h.live.Pairwise fun p q=>(p.1.den σ).nat≠(q.1.den σ).nat:=by
 refine List.pairwise_append.2 ⟨zjj hw.ne,zji,fun p hp q hq=>?_⟩;have h1:=hw.lt _ (zfb hp);obtain⟨i,_,h2⟩:=zeg (σ:=σ) hq;rw[h2];simp only at h1;omega
@[simp] def zbB (σ:List U)(H:zaa):List (E×SB)→Prop
 | []=>True
 |p::r=>H[(p.1.den σ).nat]? = some (some (p.2.den σ))∧zbB σ H r
def zjQ (n:Nat)(l:List (E×SB)):SH:=⟨.va n,l.map fun p=>(p.1,some p.2),[]⟩
theorem zhs {σ:List U}{H:zaa}:∀{l:List (E×SB)},zbB σ H l→zat σ H (l.map fun p=>(p.1,some p.2))=H
 | [],_=>rfl
 |p::r,h=>by
  simp only[jJb,zat,bD];rw[zhs h.2];obtain⟨h1,h2⟩:=jGa.1 h.1;rw[←h2,List.set_getElem_self]
theorem zg6 {σ:List U}{H:zaa}:∀{l:List (E×SB)},zbB σ H l→∀p∈l,H[(p.1.den σ).nat]? = some (some (p.2.den σ))
 | [],_,p,hp=>by cases hp
 |q::r,h,p,hp=>by
  rcases jOb.1 hp with rfl|hp
  ·exact h.1
  ·exact zg6 h.2 p hp
/-! What is known at a place of the code. -/
structure St where
  tm:List (Nat×E)
  h:SH
  nv:Nat
  kn:List (E×Bool)
noncomputable def zjS (l:List (Nat×E))(k:Nat):Option E:=List.rec none (fun p _ r=>bif Nat.beq p.1 k then some p.2 else r) l
noncomputable def zss (l:List (E×Bool))(e:E):Option Bool:=List.rec none (fun p _ r=>bif p.1.same e then some p.2 else r) l
theorem zi8 {k:Nat}{e:E}:∀{l:List (Nat×E)},zjS l k=some e→(k,e)∈l
 | [],h=>by cases h
 |p::r,h=>by
  have h:(bif Nat.beq p.1 k then some p.2 else zjS r k)=some e:=h;cases hp:Nat.beq p.1 k
  ·rw[hp]at h;exact jYb _ (zi8 h)
  ·rw[hp]at h;cases h;have:=jTc hp;subst this;exact jIc ..
theorem zpY {l:List (Nat×E)}{k j:Nat}{e e':E}(h:zjS ((j,e')::l) k=some e):(j=k∧e'=e)∨(j≠k∧zjS l k=some e):=by
 have h:(bif Nat.beq j k then some e' else zjS l k)=some e:=h;cases hp:Nat.beq j k
 ·rw[hp]at h;exact .inr ⟨Nat.ne_of_beq_eq_false hp,h⟩
 ·rw[hp]at h;cases h;exact .inl ⟨jTc hp,rfl⟩
theorem zg7 {e:E}{y:Bool}:∀{l:List (E×Bool)},zss l e=some y→(e,y)∈l
 | [],h=>by cases h
 |p::r,h=>by
  have h:(bif p.1.same e then some p.2 else zss r e)=some y:=h;cases hp:p.1.same e
  ·rw[hp]at h;exact jYb _ (zg7 h)
  ·rw[hp]at h;cases h;have:=E.same_eq _ _ hp;subst this;exact jIc ..
structure Holds (w:Nat) (σ:List U) (st:St) (t:Tm) (H:zaa):Prop where
  wid:t.wid=w
  tm:∀k e,zjS st.tm k=some e→t.get k=(e.den σ).val
  heap:H=st.h.den σ
  wf:st.h.WF σ
  nv:σ.length=st.nv
  kn:∀p∈st.kn,(p.1.den σ).boo=p.2
  sc:∀p∈st.tm,p.2.scop st.nv=true
  sh:st.h.scop st.nv=true
  sk:∀p∈st.kn,p.1.scop st.nv=true
theorem Holds.more {w:Nat} {σ:List U} {st:St} {t:Tm} {H:zaa} (h:Holds w σ st t H) (us:List U):Holds w (σ++us) {st with nv:=st.nv+us.length} t H where
  wid:=h.wid
  tm k e he:=by
    rw[h.tm k e he,E.scop_den σ us e]
    rw[h.nv]
    exact h.sc _ (zi8 he)
  heap:=by rw[(SH.scop_den (by rw[h.nv];exact h.sh)).1];exact h.heap
  wf:=(SH.scop_den (by rw[h.nv];exact h.sh)).2 h.wf
  nv:=by simp[h.nv]
  kn p hp:=by
    rw[E.scop_den σ us p.1 (by rw[h.nv];exact h.sk p hp)]
    exact h.kn p hp
  sc p hp:=E.scop_mono (Nat.le_add_right _ _) _ (h.sc p hp)
  sh:=SH.scop_mono (Nat.le_add_right _ _) h.sh
  sk p hp:=E.scop_mono (Nat.le_add_right _ _) _ (h.sk p hp)
open Go
inductive Ask where
  |call (f:Nat) (args:E)
  |ext (f:Nat) (args:E)
  |lookup (ty:Nat) (m k:E) (ok:Bool)
  |load (ty:Nat) (p:E)
inductive SRes where
  |val (x:E)
  |eff (x:E) (h:SH)
  |need (e:E) (r:SRes)
  |ite (e:E) (a b:SRes)
  |ask (q:Ask)
  |pan (x:E)
  |no
section
variable (T:Tab)(call:zad)(σ:List U)(H:zaa)
@[simp] noncomputable def Ask.den:Ask→OR
 | .call f a=>call f (a.den σ).lst H
 | .ext f a=>match T.ext f with
  |some F=>lift (F (a.den σ).lst) H
  |none=>.no
 | .lookup ty m k ok=>lift (zbm T ty (m.den σ).val (k.den σ).val ok H) H
 | .load ty p=>lift (zah T ty H (p.den σ).val) H
def SRes.Ok:SRes→OR→Prop
 | .val e,x=>x=.val (e.den σ).val H
 | .eff e h,x=>x=.val (e.den σ).val (h.den σ)∧h.WF σ
 | .need e r,x=>(e.den σ).boo=true→SRes.Ok r x
 | .ite e a b,x=>((e.den σ).boo=true→SRes.Ok a x)∧((e.den σ).boo=false→SRes.Ok b x)
 | .ask q,x=>x=q.den T call σ H
 | .pan e,x=>x=.pan (e.den σ).val H
 | .no,_=>True
end
noncomputable def zaG (o:O2)(a c:E):E:=match a,c with
 | .ci m,.ci n=>(match o with
  | .add=>.ci (m+n)
  | .sub=>.ci (m-n)
  | .mul=>.ci (m*n)
  | .eqI=>.cb (m==n)
  | .neI=>.cb (m !=n)
  | .ltI=>.cb (decide (m<n))
  | .leI=>.cb (decide (m≤n))
  | .gtI=>.cb (decide (m>n))
  | .geI=>.cb (decide (m≥n))
  |o=>.f2 o (.ci m) (.ci n))
 |a,c=>.f2 o a c
theorem zbo (σ:List U)(o:O2)(a c:E):(zaG o a c).den σ=(E.f2 o a c).den σ:=by
 unfold zaG;split
 ·split<;>rfl
 ·rfl
theorem leE {σ:List U}{a c:E}(h:((zaG .leI a c).den σ).boo=true):(a.den σ).int≤(c.den σ).int:=by
 rw[zbo]at h;exact jBc h
theorem ltE {σ:List U}{a c:E}(h:((zaG .ltI a c).den σ).boo=true):(a.den σ).int<(c.den σ).int:=by
 rw[zbo]at h;exact jBc h
noncomputable def zmg (k:IntKind)(a:E):E:=match a with
 | .ci n=>.ci (k.wrap n)
 |a=>.f1 (.wrap k) a
theorem zfn (σ:List U)(k:IntKind)(a:E):(zmg k a).den σ=(E.f1 (.wrap k) a).den σ:=by
 unfold zmg;split<;>rfl
noncomputable def zxl (a:E):E:=match a with
 | .cb c=>.cb !c
 | .f1 .not c=>c
 |a=>.f1 .not a
theorem zjk (σ:List U)(a:E):((zxl a).den σ).boo = !(a.den σ).boo:=by
 unfold zxl;split<;>simp
noncomputable def zjg (a:E):E:=match a with
 | .cs l=>.ci l.length
 |a=>.f1 .lenS a
theorem zcy (σ:List U)(a:E):(zjg a).den σ=(E.f1 .lenS a).den σ:=by
 unfold zjg;split<;>rfl
theorem zg5 {o:Option V}{k:IntKind}(h:zda o k=true):o=some (.i k (zf5 o)):=by
 unfold zda at h;split at h
 ·rename_i j n;have:j=k:=jBc h;subst this;rfl
 ·cases h
/-! Operands. -/
noncomputable def sv (tm:List (Nat×E)):Operand→Option E
 | .tmp k=>zjS tm k
 | .const v=>match zkA v with
  |some x=>some (ofV x)
  |none=>none
 | .global g=>some (.cv (.gp g 0))
 | .func f=>some (.f1 (.fn f) .nil)
def zrG (σ:List U)(tm:List (Nat×E))(t:Env):Prop:=∀k e,zjS tm k=some e→t k=(e.den σ).val
section
variable {T:Tab}{call:zad}{σ:List U}{H:zaa}{tm:List (Nat×E)}{t:Env}
theorem zbD (h:zrG σ tm t){x:Operand}{e:E}(he:sv tm x=some e):ev1 t x=some (e.den σ).val:=by
 cases x with
 |tmp k=>simp only[ev1];rw[h k e he]
 |const v=>
  simp only[sv]at he;split at he
  ·rename_i x hx;cases he;simp only[ev1,hx,zlm]
  ·cases he
 |global g=>cases he;rfl
 |func f=>cases he;rfl
noncomputable def svs (tm:List (Nat×E)):List Operand→Option (List E)
 | []=>some []
 |o::r=>match sv tm o,svs tm r with
  |some x,some l=>some (x::l)
  |_,_=>none
theorem zrk (h:zrG σ tm t):∀{l:List Operand}{es:List E},svs tm l=some es→evs t l=some (es.map fun e=>(e.den σ).val)
 | [],_,e=>by cases e;rfl
 |o::r,es,e=>by
  simp only[svs]at e;split at e
  ·rename_i x l hx hl;cases e;simp only[evs,zbD h hx,zrk h hl,jJb]
  ·cases e
/-! Numbers, texts, bools. -/
noncomputable def zzW (op:BinOp)(k:IntKind)(a c:E):SRes:=match a,c with
 | .ci m,.ci n=>(match zbj op k m n with
  |some (.i j r)=>if j=k then .val (.f1 (.vi k) (.ci r))else .no
  |_=>.no)
 |a,c=>.need (.f2 (.okI op k) a c) (.val (.f1 (.vi k) (.f2 (.opI op k) a c)))
noncomputable def zzn (op:BinOp)(k j:IntKind)(a c:E):SRes:=match a,c with
 | .ci m,.ci n=>(match zbn op k m j n with
  |some (.i l r)=>if l=k then .val (.f1 (.vi k) (.ci r))else .no
  |_=>.no)
 |a,c=>.need (.f2 (.okSh op k j) a c) (.val (.f1 (.vi k) (.f2 (.sh op k j) a c)))
theorem zvm (op:BinOp)(k:IntKind)(a c:E):SRes.Ok T call σ H (zzW op k a c) (lift (zbj op k (a.den σ).int (c.den σ).int) H):=by
 unfold zzW;split
 ·rename_i m n;split
  ·rename_i j r hr;split
   ·rename_i hj;subst hj;simp only[SRes.Ok,E.den,O1.den,U.int_ui,U.val_uv,hr,lift]
   ·trivial
  ·trivial
 ·intro h;have h:=zg5 h;simp only[SRes.Ok,E.den,O1.den,O2.den,U.int_ui,U.boo_ub,U.val_uv];rw[h];simp only[lift,zcH]
theorem zqo (op:BinOp)(k j:IntKind)(a c:E):SRes.Ok T call σ H (zzn op k j a c) (lift (zbn op k (a.den σ).int j (c.den σ).int) H):=by
 unfold zzn;split
 ·rename_i m n;split
  ·rename_i l r hr;split
   ·rename_i hl;subst hl;simp only[SRes.Ok,E.den,O1.den,U.int_ui,U.val_uv,hr,lift]
   ·trivial
  ·trivial
 ·intro h;have h:=zg5 h;simp only[SRes.Ok,E.den,O1.den,O2.den,U.int_ui,U.boo_ub,U.val_uv];rw[h];simp only[lift,zcH]
noncomputable def zvD (op:BinOp)(k:IntKind)(a c:E):SRes:=match op with
 | .add=>.val (.f1 (.vi k) (zmg k (zaG .add a c)))
 | .sub=>.val (.f1 (.vi k) (zmg k (zaG .sub a c)))
 | .mul=>.val (.f1 (.vi k) (zmg k (zaG .mul a c)))
 | .eql=>.val (.f1 .vb (zaG .eqI a c))
 | .neq=>.val (.f1 .vb (zaG .neI a c))
 | .lss=>.val (.f1 .vb (zaG .ltI a c))
 | .leq=>.val (.f1 .vb (zaG .leI a c))
 | .gtr=>.val (.f1 .vb (zaG .gtI a c))
 | .geq=>.val (.f1 .vb (zaG .geI a c))
 |op=>zzW op k a c
noncomputable def zz3 (op:BinOp)(k j:IntKind)(a c:E):SRes:=match op with
 | .shl=>zzn .shl k j a c
 | .shr=>zzn .shr k j a c
 |op=>if k=j then zvD op k a c else .no
theorem zta (op:BinOp)(k:IntKind)(a c:E):SRes.Ok T call σ H (zvD op k a c) (lift (zbj op k (a.den σ).int (c.den σ).int) H):=by
 unfold zvD;split;all_goals first
  |(simp only[SRes.Ok,E.den,zbo,zfn,O1.den,O2.den,U.int_ui,U.boo_ub,U.val_uv,zbj,lift];done)
  |(simp only[SRes.Ok,E.den,zbo,zfn,O1.den,O2.den,U.int_ui,U.boo_ub,U.val_uv,zbj,lift];rfl)
  |exact zvm ..
theorem zvE (op:BinOp)(xT:TypeId)(k j:IntKind)(a c:E):SRes.Ok T call σ H (zz3 op k j a c) (lift (zep T op xT (.i k (a.den σ).int) (.i j (c.den σ).int)) H):=by
 unfold zz3;split
 ·exact zqo ..
 ·exact zqo ..
 ·rename_i h1 h2;split
  ·rename_i hk;subst hk;have:zep T op xT (.i k (a.den σ).int) (.i k (c.den σ).int)=zbj op k (a.den σ).int (c.den σ).int:=by
    cases op<;>first|exact absurd rfl h1|exact absurd rfl h2|simp only[zep,if_true]
   rw[this];exact zta op k a c
  ·trivial
noncomputable def zz5 (op:BinOp)(a c:E):SRes:=match op with
 | .add=>.need (zaG .leI (zaG .add (zjg a) (zjg c)) (.ci 9223372036854775807)) (.val (.f1 .vs (.f2 .app a c)))
 | .eql=>.val (.f1 .vb (.f2 .eqS a c))
 | .neq=>.val (.f1 .vb (.f2 .neS a c))
 | .lss=>.val (.f1 .vb (.f2 .ltS a c))
 | .leq=>.val (.f1 .vb (.f2 .leS a c))
 | .gtr=>.val (.f1 .vb (.f2 .gtS a c))
 | .geq=>.val (.f1 .vb (.f2 .geS a c))
 |_=>.no
theorem zvG (op:BinOp)(a c:E):SRes.Ok T call σ H (zz5 op a c) (lift (zc8 op (a.den σ).str (c.den σ).str) H):=by
 unfold zz5;split
 ·intro h;simp only[zbo,zcy,E.den,O2.den,O1.den,U.int_ui,U.boo_ub,zsv]at h;have:Nat.ble ((a.den σ).str.length+(c.den σ).str.length) 9223372036854775807=true:=Nat.ble_eq▸(by omega);simp only[SRes.Ok,zc8,this,if_true,lift,E.den,O1.den,O2.den,U.str_us,U.val_uv]
 all_goals first
  |trivial
  |simp only[SRes.Ok,zc8,lift,E.den,O1.den,O2.den,U.boo_ub,U.val_uv,zfQ]
noncomputable def sEq (d:Option TypeDesc)(x y:E):Option E:=match d,x,y with
 |some .bool,.f1 .vb a,.f1 .vb c=>some (.f2 .eqB a c)
 |some (.pointer _),.cv .nilp,.cv .nilp=>some (.cb true)
 |some (.pointer _),.cv .nilp,.f1 (.ptr _) _=>some (.cb false)
 |some (.pointer _),.f1 (.ptr _) _,.cv .nilp=>some (.cb false)
 |some (.slice _),.cv .nils,.cv .nils=>some (.cb true)
 |some (.slice _),.cv .emp,.cv .nils=>some (.cb false)
 |some (.func ..),.cv .nilf,.cv .nilf=>some (.cb true)
 |some (.func ..),.f1 (.fn _) _,.cv .nilf=>some (.cb false)
 |some (.interface _),.cv .nili,.f1 (.ifc _) _=>some (.cb false)
 |some (.interface _),.f1 (.ifc _) _,.cv .nili=>some (.cb false)
 |_,_,_=>none
theorem zxJ {xT:TypeId} {x y e:E} (h:sEq (T.und xT) x y=some e):zeq T xT (x.den σ).val (y.den σ).val=some (e.den σ).boo∧((∀k n,(x.den σ).val≠.i k n)∧(∀l,(x.den σ).val≠.s l))∧((x.den σ).val=.nili→(y.den σ).val≠.nili):=by
  generalize hd:T.und xT=d at h
  unfold sEq at h
  split at h
  all_goals first
    |(cases h;done)
    | (cases h
       simp[zeq,hd,zwu])
noncomputable def zzq (T:Tab)(es ds:List E):List Field→Option E
 | []=>some (.cb true)
 |f::l=>match T.und f.type,es[f.offset]?,ds[f.offset]?,zzq T es ds l with
  |some (.int _),some (.f1 (.vi k) a),some (.f1 (.vi j) c),some r=>if k=j then some (.f2 .andB (.f2 .eqI a c) r)else none
  |some .string,some (.f1 .vs a),some (.f1 .vs c),some r=>some (.f2 .andB (.f2 .eqS a c) r)
  |some .bool,some (.f1 .vb a),some (.f1 .vb c),some r=>some (.f2 .andB (.f2 .eqB a c) r)
  |_,_,_,_=>none
theorem zjy {es ds:List E}:∀{l:List Field}{e:E},zzq T es ds l=some e→zpC T (es.map fun a=>(a.den σ).val) (ds.map fun a=>(a.den σ).val) l=some (e.den σ).boo
 | [],e,h=>by cases h;rfl
 |f::l,e,h=>by
  unfold zzq at h;split at h;all_goals first
   |(cases h;done)
   |skip
  ·rename_i k a j c r hu ha hc hr;split at h
   ·rename_i hk;subst hk;cases h;have ih:=zjy hr;simp only[zpC,jUb,ha,hc,hu,jXa,E.den,O1.den,O2.den,U.val_uv,U.boo_ub,eq1,if_true];cases hb:((a.den σ).int==(c.den σ).int)
    ·rfl
    ·simpa using ih
   ·cases h
  ·rename_i a c r hu ha hc hr;cases h;have ih:=zjy hr;simp only[zpC,jUb,ha,hc,hu,jXa,E.den,O1.den,O2.den,U.val_uv,U.boo_ub,eq1,zfQ];cases hb:((a.den σ).str==(c.den σ).str)
   ·rfl
   ·simpa using ih
  ·rename_i a c r hu ha hc hr;cases h;have ih:=zjy hr;simp only[zpC,jUb,ha,hc,hu,jXa,E.den,O1.den,O2.den,U.val_uv,U.boo_ub,eq1];cases hb:((a.den σ).boo==(c.den σ).boo)
   ·rfl
   ·simpa using ih
noncomputable def zz2 (T:Tab)(op:BinOp)(xT:TypeId)(yo:Operand)(x y:E):SRes:=match x,y with
 | .f1 (.vi k) a,.f1 (.vi j) c=>zz3 op k j a c
 | .f1 .vs a,.f1 .vs c=>zz5 op a c
 | .cv .nili,.cv .nili=>match yo,T.und xT,op with
  | .const _,some (.interface _),.eql=>.val (.f1 .vb (.cb true))
  | .const _,some (.interface _),.neq=>.val (.f1 .vb (.cb false))
  |_,_,_=>.no
 | .f1 (.ptr o) n,.f1 (.ptr q) m=>(match T.und xT with
  |some (.pointer e)=>(match T.size e with
   |some z=>if z≠0∧n.same m=true then(match op with
    | .eql=>.val (.f1 .vb (.cb (Nat.beq o q)))
    | .neq=>.val (.f1 .vb (.cb (!Nat.beq o q)))
    |_=>.no)else .no
   |none=>.no)
  |_=>.no)
 | .f1 .agg a,.f1 .agg c=>(match T.und xT with
  |some (.struct fs)=>if T.eqs xT=true then(match a.items,c.items with
   |some es,some ds=>(match zzq T es ds fs.toList with
    |some e=>(match op with
     | .eql=>.val (.f1 .vb e)
     | .neq=>.val (.f1 .vb (zxl e))
     |_=>.no)
    |none=>.no)
   |_,_=>.no)else .no
  |_=>.no)
 |x,y=>match sEq (T.und xT) x y with
  |some e=>(match op with
   | .eql=>.val (.f1 .vb e)
   | .neq=>.val (.f1 .vb (zxl e))
   |_=>.no)
  |none=>.no
theorem zvA (op:BinOp)(xT:TypeId)(yo:Operand)(x y:E):SRes.Ok T call σ H (zz2 T op xT yo x y) (lift (zdC T op xT yo (x.den σ).val (y.den σ).val) H):=by
 unfold zz2;split
 ·exact zvE op xT _ _ _ _
 ·exact zvG op _ _
 ·split
  ·rename_i h;simp[SRes.Ok,zdC,h,lift]
  ·rename_i h;simp[SRes.Ok,zdC,h,lift]
  ·trivial
 ·rename_i o n q m;split
  ·rename_i e hu;split
   ·rename_i z hz;split
    ·rename_i hc;obtain⟨h1,h2⟩:=hc;have h2:=E.same_eq _ _ h2;subst h2;have e1:zeq T xT (.ptr (n.den σ).nat o) (.ptr (n.den σ).nat q)=some (Nat.beq o q):=by
      simp only[zeq,hu,hz];rw[if_pos ⟨h1,trivial⟩,zc0];rfl
     split
     ·show _=_;simp only[E.den,O1.den,U.val_uv,U.boo_ub,zdC,zep,e1,jXa,lift]
     ·show _=_;simp only[E.den,O1.den,U.val_uv,U.boo_ub,zdC,zep,e1,jXa,lift]
     ·trivial
    ·trivial
   ·trivial
  ·trivial
 ·rename_i a c;split
  ·rename_i fs hu;split
   ·rename_i hq;split
    ·rename_i es ds h1 h2;split
     ·rename_i e he;have e1:zeq T xT (.agg (a.den σ).lst) (.agg (c.den σ).lst)=some (e.den σ).boo:=by
       simp only[zeq,hu,hq,if_true];rw[E.items_den σ _ _ h1,E.items_den σ _ _ h2];exact zjy he
      split
      ·show _=_;simp only[E.den,O1.den,U.val_uv,U.boo_ub,zdC,zep,e1,jXa,lift]
      ·show _=_;simp only[E.den,zjk,O1.den,U.val_uv,U.boo_ub,zdC,zep,e1,jXa,lift]
      ·trivial
     ·trivial
    ·trivial
   ·trivial
  ·trivial
 ·split
  ·rename_i e he;obtain⟨h1,⟨h2,h3⟩,h4⟩:=zxJ (σ:=σ) he;have key:∀op,zdC T op xT yo (x.den σ).val (y.den σ).val=zep T op xT (x.den σ).val (y.den σ).val:=fun op=>by
    cases hx:(x.den σ).val<;>cases hy:(y.den σ).val<;>first|rfl|(exact absurd hy (h4 hx))|(cases yo<;>rfl)
   have key2:zep T .eql xT (x.den σ).val (y.den σ).val=some (.b (e.den σ).boo):=by
    have e1:zep T .eql xT (x.den σ).val (y.den σ).val=(zeq T xT (x.den σ).val (y.den σ).val).map .b:=by
     cases hx:(x.den σ).val<;>first|exact absurd hx (h2 _ _)|exact absurd hx (h3 _)|rfl
    rw[e1,h1];rfl
   have key3:zep T .neq xT (x.den σ).val (y.den σ).val=some (.b !(e.den σ).boo):=by
    have e1:zep T .neq xT (x.den σ).val (y.den σ).val=(zeq T xT (x.den σ).val (y.den σ).val).map fun r=>.b !r:=by
     cases hx:(x.den σ).val<;>first|exact absurd hx (h2 _ _)|exact absurd hx (h3 _)|rfl
    rw[e1,h1];rfl
   split
   ·rw[key,key2];rfl
   ·rw[key,key3];simp only[SRes.Ok,lift,E.den,zjk,O1.den,U.boo_ub,U.val_uv]
   ·trivial
  ·trivial
noncomputable def sUn (op:UnOp)(x:E):SRes:=match op,x with
 | .not,.f1 .vb a=>.val (.f1 .vb (zxl a))
 | .neg,.f1 (.vi k) a=>.val (.f1 (.vi k) (zmg k (zaG .sub (.ci 0) a)))
 | .xor,.f1 (.vi k) a=>.need (.f2 (.okI .xor k) (.ci (if k.signed then -1 else k.max)) a) (.val (.f1 (.vi k) (.f2 (.opI .xor k) (.ci (if k.signed then -1 else k.max)) a)))
 |_,_=>.no
theorem zxK (op:UnOp)(x:E):SRes.Ok T call σ H (sUn op x) (lift (ztI op (x.den σ).val) H):=by
 unfold sUn;split
 ·simp only[SRes.Ok,E.den,zjk,O1.den,U.boo_ub,U.val_uv,ztI,lift]
 ·simp only[SRes.Ok,E.den,zfn,zbo,O1.den,O2.den,U.int_ui,U.val_uv,ztI,lift]
 ·rename_i k a;intro h;have h:=zg5 (o:=zbj .xor k (if k.signed then -1 else k.max) (a.den σ).int) (k:=k) h;simp only[SRes.Ok,E.den,O1.den,O2.den,U.int_ui,U.val_uv,ztI];rw[h];simp only[lift,zcH]
 ·trivial
noncomputable def zvC (T:Tab)(src dst:TypeId)(x:E):SRes:=match x with
 | .f1 (.vi k) a=>(match T.und src,T.und dst with
  |some _,some (.int j)=>.val (.f1 (.vi j) (zmg j a))
  |some _,some .string=>.val (.f1 .vs (.f1 .enc a))
  |_,_=>.no)
 | .f1 .vs a=>(match T.und src,T.und dst with
  |some _,some .string=>.val (.f1 .vs a)
  |_,_=>.no)
 |_=>.no
theorem zs9 (src dst:TypeId)(x:E):SRes.Ok T call σ H (zvC T src dst x) (zaT T src dst (x.den σ).val H):=by
 unfold zvC;split
 ·split
  ·rename_i hs hd;simp only[E.den,O1.den,U.val_uv,zaT,zdn,zgO,hs,hd,SRes.Ok,lift,zfn,U.int_ui];try (split<;>simp_all)
  ·rename_i hs hd;simp only[E.den,O1.den,U.val_uv,zaT,zdn,zgO,hs,hd,SRes.Ok,lift,U.int_ui,U.str_us];try (split<;>simp_all)
  ·trivial
 ·split
  ·rename_i hs hd;simp only[E.den,O1.den,U.val_uv,zaT,zdn,zgO,hs,hd,SRes.Ok,lift,U.str_us];try (split<;>simp_all)
  ·trivial
 ·trivial
end
end Go.Ev
