/- The slow way of Once. Once and NewReplacer, closed. Once and NewReplacer, at any heap. Replace, that of its table given. Counts of a byte. The counting loop of Replace. The loop of Replace over words. The copying loop of Replace. The body of Replace. Texts of floats. Replace of a table of bytes. Replace. The text of a float. Scan of every text. The digits of the program and of the reference. The ends of numbers, the exponent. The numbers of the program are those of the reference. Escapes, strings and characters of the program are those of the reference. Walks: TokenStrings. TokenStrings returns true. Keywords; slices.Equal on the lists of the keywords and of the symbols. -/
import Derived.Test.YtmjplflnlggbeaaGreatDoorEZS
import Derived.Test.YtmjplflnlggbeaaGreatDoorEEvPart2
import Derived.Test.YtmjplflnlggbeaaGreatDoorEZC
import Derived.Test.YtmjplflnlggbeaaGreatDoorEYD
import Derived.Test.YtmjplflnlggbeaaGreatDoorET23
namespace Go.Ev
open Go Go.Proofs
set_option linter.unusedSimpArgs false
set_option linter.unusedVariables false
set_option linter.unnecessarySimpa false
open Tryz List
set_option maxRecDepth 1000000
theorem zpe {call:zad}(hC:call.Sound prog TT)(c1:call 123 [.ptr 1 1] rp0=.val .un rp1)(c2:call 113 [.ptr 1 0] rp1=.val (.b false) rp1)(c3:call 99 [.ptr 1 0] rp1=.val .un rp2) :
 zk8 prog TT 114 [.ptr 1 0,.bfn 99 [.ptr 1 0]] rp0 fun r=>r=.val .un rp4:=by
 refine⟨f114,_,rfl,rfl,by simp[f114],?_⟩;have h0:(Tm.init f114.ntmps [.ptr 1 0,.bfn 99 [.ptr 1 0]]).get 0=.ptr 1 0:=by rw[zag];rfl
 have h1:(Tm.init f114.ntmps [.ptr 1 0,.bfn 99 [.ptr 1 0]]).get 1=.bfn 99 [.ptr 1 0]:=by rw[zag];rfl
 have hw:(Tm.init f114.ntmps [.ptr 1 0,.bfn 99 [.ptr 1 0]]).wid=21:=rfl;generalize Tm.init f114.ntmps [.ptr 1 0,.bfn 99 [.ptr 1 0]]=t at *;have x1:TT.ext 123=none:=rfl;have x2:TT.ext 113=none:=rfl;have x3:TT.ext 99=none:=rfl;refine zew.seq (zew.lift ?_);refine Tri.regN (t':=?t1) (H':=?H1) zaf hC ?e1 ?q1;case e1=>
  refine zar ?_;iterate 4 refine zab rfl (by simp[h0,c1,x1]<;>rfl) (by rfl) (by simp[hw]) ?_
  exact zal
 refine zew.seq ?_;refine zew.reg (f:=124) (caps:=[]) (vs:=[.ptr 1 1]) (xv:=?xv) (yv:=?yv) (t1:=?t3) (t2:=?t4) (H1:=?H3) (H2:=?H4) zaf hC 3 rfl rfl rfl ?e3 ?x3 ?xx ?y3 ?yy ?f3 ?e4 ?q3;case e3=>
  iterate 3 refine zab rfl (by simp[h0]<;>rfl) (by rfl) (by simp[hw]) ?_
  exact zal
 case x3=>simp<;>rfl
 case xx=>rfl
 case y3=>simp<;>rfl
 case yy=>rfl
 case f3=>simp[hw]
 case e4=>exact zal
 refine zew.seq (zew.lift ?_);refine Tri.regN (t':=?t5) (H':=?H5) zaf hC ?e5 ?q5;case e5=>
  refine zar ?_;iterate 5 refine zab rfl (by simp[h0,c2,x2]<;>rfl) (by rfl) (by simp[hw]) ?_
  exact zal
 refine zew.condT (o:=?o6) ?g6 ?r6 ?_;case g6=>simp<;>rfl
 case r6=>rfl
 refine zew.seq ?_;refine zew.reg (f:=125) (caps:=[]) (vs:=[.ptr 1 0,.b true]) (xv:=?xv7) (yv:=?yv7) (t1:=?t7) (t2:=?t8) (H1:=?H7) (H2:=?H8) zaf hC 3 rfl rfl rfl ?e7 ?x7 ?xx7 ?y7 ?yy7 ?f7 ?e8 ?q7;case e7=>
  iterate 3 refine zab rfl (by simp[h0]<;>rfl) (by rfl) (by simp[hw]) ?_
  exact zal
 case x7=>simp<;>rfl
 case xx7=>rfl
 case y7=>simp<;>rfl
 case yy7=>rfl
 case f7=>simp[hw]
 case e8=>exact zal
 refine zew.lift ?_;refine Tri.regN (t':=?t9) (H':=?H9) zaf hC ?e9 ?q9;case e9=>
  refine zar ?_;iterate 2 refine zab rfl (by simp[h1,c3,x3]<;>rfl) (by rfl) (by simp[hw]) ?_
  exact zal
 have k1:zeT prog TT 125 [.ptr 1 0,.b true] none rp2 rp3:=zfL zaf (by
  obtain⟨fn,c,q1,q2,q3,q4⟩:=zaA.of_run zaf zix rfl zs5 (by simp);exact⟨fn,c,q1,q2,q3,q4.mono fun o ho=>by cases o<;>simp only[zaF]at ho ⊢ <;> (first|exact ho.elim|(obtain⟨v,e,f⟩:=ho;cases e;exact⟨_,⟨_,rfl⟩,f⟩)|exact⟨_,ho⟩)⟩)
 have k2:zeT prog TT 124 [.ptr 1 1] none rp3 rp4:=zfL zaf (by
  obtain⟨fn,c,q1,q2,q3,q4⟩:=zaA.of_run zaf zix rfl zqy (by simp);exact⟨fn,c,q1,q2,q3,q4.mono fun o ho=>by cases o<;>simp only[zaF]at ho ⊢ <;> (first|exact ho.elim|(obtain⟨v,e,f⟩:=ho;cases e;exact⟨_,⟨_,rfl⟩,f⟩)|exact⟨_,ho⟩)⟩)
 refine⟨rp4,.un,⟨rp3,k1,rp4,k2,rfl⟩,?_,rfl⟩;rfl
theorem zxn:zak prog TT 114 (ztj [.ptr 1 0,.bfn 99 [.ptr 1 0]] rp0 (.val .un rp4)):=by
 have k1:zak prog TT 123 (ztj [.ptr 1 1] rp0 (.val .un rp1)):=zjE fun _=>zdU zaf zix rfl zvx (by simp);have k2:zak prog TT 113 (ztj [.ptr 1 0] rp1 (.val (.b false) rp1)):=zjE fun _=>zdU zaf zix rfl zs4 (by simp);have k3:zak prog TT 99 (ztj [.ptr 1 0] rp1 (.val .un rp2)):=zjE fun _=>zdU zaf zix rfl zs3 (by simp);have hC:=ws (ws (ws n0 k1) k2) k3;refine zjE fun _=>?_;obtain⟨r,rfl,_,he,hc⟩:=(zk8.fact zaf (zpe hC (by rw[zac _ _ _ _ rfl,zac _ _ _ _ rfl,zan];exact zl6 _ _ _) (by rw[zac _ _ _ _ rfl,zan];exact zl6 _ _ _) (by rw[zan];exact zl6 _ _ _)));exact⟨he,hc⟩
noncomputable def zzs:Gam:=fun f vs H=>if f=114 then some (ztj [.ptr 1 0,.bfn 99 [.ptr 1 0]] rp0 (.val .un rp4) vs H)else syG f vs H
theorem zrl:zzs.SoundX prog TT:=by
 intro f vs H r h hne;unfold zzs at h;split at h
 ·rename_i e;subst e;exact .inl (zxn vs H r (jWa h) hne)
 ·exact zix f vs H r h hne
theorem zz0:zcw TT zzs 3000 98 [.ptr 1 0,.bfn 99 [.ptr 1 0]] rp0=.val .un rp4:=zeJ (by kernel_rfl)
def nw0:zaa:=[some ⟨9,[.s [95],.s [],.s [69],.s [101]],.all⟩]
def nw1:zaa:=[some ⟨9,[.s [95],.s [],.s [69],.s [101]],.all⟩,some onB,some (rpB 0 0 .nili (.sl 1 1 0 4 none))]
theorem zxG:zcw TT zzs 3000 78 [.sl 0 1 0 4 (some 4)] nw0=.val (.ptr 2 0) nw1:=zeJ (by kernel_rfl)
def wdB:Blk:=⟨9,[.s [95],.s [],.s [69],.s [101]],.all⟩
theorem zye:∃g,zak prog TT 78 g∧∀(n:Nat)(H:zaa),H[n]? = some (some wdB)→∃B,g [.sl n 1 0 4 (some 4)] H=.val (.ptr (H.length+1) 0) B∧B.length=H.length+2∧(∀j,j<H.length→B[j]? = H[j]?)∧B[H.length]? = some (some onB)∧B[H.length+1]? = some (some (rpB 0 0 .nili (.sl H.length 1 0 4 none))):=by
 obtain⟨g,k,s⟩:=zbX.spec (P:=prog) (F:=78) zaf (D:=fun vs H=>∃n,vs=[.sl n 1 0 4 (some 4)]∧H[n]? = some (some wdB))
  (R:=fun vs H r=>∃B,r=.val (.ptr (H.length+1) 0) B∧B.length=H.length+2∧(∀j,j<H.length→B[j]? = H[j]?)∧B[H.length]? = some (some onB)∧B[H.length+1]? = some (some (rpB 0 0 .nili (.sl H.length 1 0 4 none)))) (by
  rintro vs H ⟨n,rfl,hn⟩;have hlt:n<H.length:=(jGa.1 hn).1;have hx:zbX prog TT 78 [.sl 0 1 0 4 (some 4)] nw0 fun r=>r=.val (.ptr 2 0) nw1:=⟨_,rfl,by simp,zdU zaf zrl rfl zxG (by simp)⟩;have hg:∀k,k<nw0.length→(fun _:Nat=>n) k<H.length:=fun k _=>hlt;have hi:∀k j,k<nw0.length→j<nw0.length→(fun _:Nat=>n) k=(fun _:Nat=>n) j→k=j:=fun k j h1 h2 _=>by
   have l:nw0.length=1:=rfl;omega
  have hp:=zbX.part (H:=H) zao hg hi (fun k hk=>by
   have l:nw0.length=1:=rfl;have:k=0:=by omega
   subst this;exact⟨wdB,rfl,hn⟩) (by rfl) (by rfl) (by decide) (by rfl) (by rfl) hx
  have hB:=zgn (H:=H) (H0:=nw0) (H1:=nw1) hg hi (by decide);refine hp.mono fun r hr=>⟨_,hr,hB.len,fun j hj=>?_,hB.new 1 (by decide) (by decide),hB.new 2 (by decide) (by decide)⟩;by_cases e:j=n
  ·subst e;exact(hB.old 0 (by decide)).trans hn.symm
  ·exact hB.rest j hj fun _ _=>e)
 refine⟨g,k,fun n H hn=>?_⟩;obtain⟨r,⟨B,rfl,hB⟩,hr⟩:=s _ H ⟨n,rfl,hn⟩;exact⟨B,hr,hB⟩
def bsB (N:Nat):Blk:=⟨193,(List.range 256).map (fun i=>if i=95 then V.sl (N+7) 1 0 0 none else if i=69 then .sl (N+4) 1 0 1 none else .nils)++[.sl N 1 0 2 (some 2)],.all⟩
def DoR (H:zaa)(q:Nat)(B:zaa):Prop:=B.length=H.length+8∧(∀j,j<H.length→j≠q→B[j]? = H[j]?)∧B[q]? = some (some (rpB 1 0 (.ifc 194 (.ptr (H.length+1) 0)) .nils))∧B[H.length]? = some (some ⟨9,[.s [69],.s [95]],.all⟩)∧B[H.length+1]? = some (some (bsB H.length))∧B[H.length+4]? = some (some ⟨5,[.tup [],.i .u8 101],.map⟩)∧B[H.length+7]? = some (some ⟨5,[.tup []],.map⟩)
theorem zyk:∃g,zak prog TT 98 g∧∀(m q:Nat)(H:zaa),m≠q→H[m]? = some (some onB)→H[q]? = some (some (rpB 0 0 .nili (.sl m 1 0 4 none)))→∃B,g [.ptr q 0,.bfn 99 [.ptr q 0]] H=.val .un B∧DoR H q B:=by
 obtain⟨g,k,s⟩:=zbX.spec (P:=prog) (F:=98) zaf (D:=fun vs H=>∃m q,vs=[.ptr q 0,.bfn 99 [.ptr q 0]]∧m≠q∧H[m]? = some (some onB)∧H[q]? = some (some (rpB 0 0 .nili (.sl m 1 0 4 none))))
  (R:=fun vs H r=>∃q B,vs=[.ptr q 0,.bfn 99 [.ptr q 0]]∧r=.val .un B∧DoR H q B) (by
  rintro vs H ⟨m,q,rfl,hne,hm,hq⟩;have hlm:m<H.length:=(jGa.1 hm).1;have hlq:q<H.length:=(jGa.1 hq).1;have l:rp0.length=2:=rfl;have hx:zbX prog TT 98 [.ptr 1 0,.bfn 99 [.ptr 1 0]] rp0 fun r=>r=.val .un rp4:=⟨_,rfl,by simp,zdU zaf zrl rfl zz0 (by simp)⟩;have hg:∀k,k<rp0.length→(fun k:Nat=>if k=0 then m else q) k<H.length:=fun k _=>by
   simp only;split<;>assumption
  have hi:∀k j,k<rp0.length→j<rp0.length→(fun k:Nat=>if k=0 then m else q) k=(fun k:Nat=>if k=0 then m else q) j→k=j:=fun k j h1 h2 h=>by
   simp only at h;split at h<;>split at h<;>first|omega|(exfalso;exact hne h)|(exfalso;exact hne h.symm)
  have hp:=zbX.part (H:=H) (g:=fun k:Nat=>if k=0 then m else q) zao hg hi (fun k hk=>by
   have:k=0∨k=1:=by omega
   rcases this with rfl|rfl
   ·exact⟨onB,rfl,hm⟩
   ·exact⟨_,rfl,hq⟩) (by rfl) (by rfl) (by decide) (by rfl) (by rfl) hx
  have hB:=zgn (H:=H) (H0:=rp0) (H1:=rp4) hg hi (by decide);refine hp.mono fun r hr=>⟨q,_,rfl,hr,hB.len,fun j hj hjq=>?_,hB.old 1 (by decide),hB.new 2 (by decide) (by decide),?_,hB.new 6 (by decide) (by decide),hB.new 9 (by decide) (by decide)⟩
  ·by_cases e:j=m
   ·subst e;exact(hB.old 0 (by decide)).trans hm.symm
   ·exact hB.rest j hj fun k hk=>by
     show j≠if k=0 then m else q;split
     ·exact e
     ·exact hjq
  ·exact hB.new 3 (by decide) (by decide))
 refine⟨g,k,fun m q H h1 h2 h3=>?_⟩;obtain⟨r,⟨q',B,he,rfl,hB⟩,hr⟩:=s _ H ⟨m,q,rfl,h1,h2,h3⟩;simp only[jPa,V.ptr.injEq,jGb]at he;obtain⟨rfl,_⟩:=he;exact⟨B,hr,hB⟩
def BsR (H:zaa)(p N:Nat):Prop:=H[p]? = some (some (bsB N))∧H[N]? = some (some ⟨9,[.s [69],.s [95]],.all⟩)∧H[N+4]? = some (some ⟨5,[.tup [],.i .u8 101],.map⟩)∧H[N+7]? = some (some ⟨5,[.tup []],.map⟩)
def BsH (call:zad):Prop:=∀(p N:Nat)(H:zaa)(x:Bs),BsR H p N→x.length<1100000→∃H',call 186 [.ptr p 0,.s x] H=.val (.s (za1 x)) H'∧H.length≤H'.length∧∀j,j<H.length→H'[j]? = H[j]?
theorem zo8 {call:zad} (hC:call.Sound prog TT) (m q:Nat) (H:zaa) (x:Bs) (hx:x.length<1100000) (hne:m≠q) (hm:H[m]? = some (some onB)) (hq:H[q]? = some (some (rpB 0 0 .nili (.sl m 1 0 4 none))))
    (c1:∃B,call 98 [.ptr q 0,.bfn 99 [.ptr q 0]] H=.val .un B∧DoR H q B)(c2:BsH call):zaA prog TT 79 [.ptr q 0,.s x] H fun r=>∃B,r=.val (.s (za1 x)) B∧H.length≤B.length∧∀j,j<H.length→j≠q→B[j]? = H[j]?:=by
 obtain⟨B,c1,b1,b2,b3,b4,b5,b6,b7⟩:=c1
 obtain⟨H',c2,d1,d2⟩:=c2 (H.length+1) H.length B x ⟨b5,b4,b6,b7⟩ hx
 have hql:q<H.length:=(jGa.1 hq).1
 refine⟨f79,_,rfl,rfl,by simp[f79],?_⟩
 have h0:(Tm.init f79.ntmps [.ptr q 0,.s x]).get 0=.ptr q 0:=by rw[zag];rfl
 have h1:(Tm.init f79.ntmps [.ptr q 0,.s x]).get 1=.s x:=by rw[zag];rfl
 have hw:(Tm.init f79.ntmps [.ptr q 0,.s x]).wid=17:=rfl
 generalize Tm.init f79.ntmps [.ptr q 0,.s x]=t at *
 have x1:TT.ext 98=none:=rfl
 have x2:TT.ext 186=none:=rfl
 have x3:TT.meth 194 "Replace" = some 186:=rfl
 apply rS hC
 · refine oA ?_
   rfl
 apply sQ
 refine Tri.regN (t':=?t2) (H':=?H2) zaf hC ?e2 ?q2
 case e2=>
  refine zar ?_
  iterate 6 refine zab rfl (by simp[h0,c1,x1]<;>rfl) (by rfl) (by simp[hw]) ?_
  exact zal
 apply sN
 apply sQ
 refine Tri.regN (t':=?t3) (H':=?H3) zaf hC ?e3 ?q3
 case e3=>
  refine zar ?_
  iterate 3 refine zab rfl (by simp[h0]<;>rfl) (by rfl) (by simp[hw]) ?_
  refine gO (by simp[b3,rpB]<;>rfl) ?_
  iterate 3 refine oA ?_
  exact zal
 apply sN
 apply Tri.ret
 refine⟨.s (za1 x),⟨H',rfl,by omega,fun j h1 h2=>?_⟩,?_⟩
 · rw[d2 j (by omega),b2 j h1 h2]
 · simp[f79]
open Go Go.Proofs Go.RowKit
def zjF:List V→zaa→OR
 | [.s s,.s [c]],H=>.val (.i .i64 (Lib.countByte s c)) H
 |_,_=>.no
theorem zA0:zak Tryz.prog TT 188 zjF:=by
 intro vs H r h hne;unfold zjF at h;split at h
 ·rename_i H s c;subst h;refine⟨zcl (f:=188) rfl rfl,fun M ρ w args hS hr=>?_⟩;have ha:args=[.string ⟨s.toArray⟩,.string ⟨#[c]⟩]:=by
   simp only[relL,rel]at hr;obtain⟨x,r,rfl,rfl,x,r,rfl,rfl,rfl⟩:=hr;rfl
  rw[ha];refine zbk (x:=.int .i64 (Lib.countByte s c)) hS ?_ (by simp only[rel]);exact(Any.strings_Count_one Tryz.lays138 ⟨s.toArray⟩ c w).mono fun e w' ⟨h1,h2⟩=>⟨h1,h2▸Below.refl _ _⟩
 ·exact absurd h.symm hne
def zpj (N c:Nat):V:=if c=95 then .sl (N+7) 1 0 0 none else if c=69 then .sl (N+4) 1 0 1 none else .nils
theorem zuv (N c:Nat)(h:c<256):(bsB N).cells[c]? = some (zpj N c):=by
 unfold bsB zpj;simp only;rw[jQa (by simpa using h),jUb,List.getElem?_range h];rfl
theorem zdR {H:zaa}{p N:Nat}(h:H[p]? = some (some (bsB N)))(c:Nat)(hc:c<256):zah TT 64 H (.ptr p c)=some (zpj N c):=by
 have h1:zap H p=some (bsB N):=by
  unfold zap;rw[h];rfl
 have h2:=zuv N c hc;simp only[zah,h1];have e1:zbV (TT.und 64)=some false:=rfl;simp only[zbq,e1,zcf,h2]
def isX (c:UInt8):Bool:=c==95||c==69
theorem zwS (N c:Nat)(h:c≠95)(h':c≠69):zpj N c=.nils:=by unfold zpj;rw[if_neg h,if_neg h']
theorem zh8 {call:zad}(hC:call.Sound prog TT){Q:Out→Prop}(p N:Nat)(H:zaa)(hp:H[p]? = some (some (bsB N))):∀(L pre:Bs)(t:Tm)(n:Int)(a:Bool),(pre++L).length<1100000→-2000000≤n-L.length→n≤2000000→t.wid=122→t.get 0=.ptr p 0→t.get 1=.s (pre++L)→t.get 5=.i .i64 n→t.get 6=.b a→t.get 10=.i .i64 pre.length →
 (∀t':Tm,t'.wid=122→t'.get 0=.ptr p 0→t'.get 1=.s (pre++L)→t'.get 5=.i .i64 (n-(L.count 95:Nat))→t'.get 6=.b (a||L.any isX)→Q (.exit 2 t' H)) →
 zaM prog TT (sub [tt,tt,tt,ff,tt,tt,tt,ff,ff] (zae f186)) t H Q:=by
 intro L;induction L with
 |nil=>
  intro pre t n a hlen hn1 hn2 hw h0 h1 h5 h6 h10 hE;have hF:=ai @h0 (ai @h1 (ai @h5 (ai @h6 @h10)));refine zaM.round' ?_;apply sQ;apply rS hC
  ·iterate 4 refine gO (by simp[hF,-zah]<;>rfl) ?_
   rfl
  refine cF (by simp[hF,-zah]<;>rfl) ?_;refine Tri.exit ?_;refine zaz ?_;refine zay ?_;exact hE _ (by simp[hw]) (by simp[h0]) (by simp[h1]) (by simp[h5]) (by simp[h6])
 |cons b L ih=>
  intro pre t n a hlen hn1 hn2 hw h0 h1 h5 h6 h10 hE;have hlt:=zdV pre.length L.length;have hat:=zhv pre b L;have hat2:=zeQ pre b L;have hb1:(0:Int)≤b.toNat:=(zkZ b).1;have hb2:(b.toNat:Int)<256:=(zkZ b).2;have hi:b.toNat<256:=b.toNat_lt;by_cases h95:b.toNat=95
  ·have hb:b=95:=jBd.1 h95;have hl:zah TT 64 H (.ptr p b.toNat)=some (.sl (N+7) 1 0 0 none):=by rw[zdR hp _ hi,h95];rfl
   have hn:IntKind.i64.wrap (n + -1)=n-1:=by rw[zaj (by simp at hn1;omega) (by omega)];omega
   have hF:=ai @h0 (ai @h1 (ai @h5 (ai @h6 (ai @h10 (ai @hlt (ai @hat (ai @hat2 (ai @hb1 (ai @hb2 (ai @hl (ai @hi @hn)))))))))));refine zaM.round' ?_;apply sQ;apply rS hC
   ·iterate 4 refine gO (by simp[hF,-zah]<;>rfl) ?_
    rfl
   refine cT (by simp[hF,-zah]<;>rfl) ?_;apply Tri.skip;apply sN;apply sQ;apply bK;apply rS hC
   ·iterate 4 refine gO (by simp[hF,-zah]<;>rfl) ?_
    rfl
   apply rS hC
   ·iterate 7 refine gO (by simp[hF,-zah]<;>rfl) ?_
    rfl
   refine cT (by simp[hF,-zah]<;>rfl) ?_;apply rS hC
   ·iterate 11 refine gO (by simp[hF,-zah]<;>rfl) ?_
    rfl
   apply rN hC
   ·refine gO (by simp[hF,-zah]<;>rfl) ?_;rfl
   apply bN;apply sN;apply rN hC
   ·iterate 3 refine gO (by simp[hF,-zah]<;>rfl) ?_
    rfl
   refine zaq ?_;refine ih (pre++[b]) _ (n-1) true (by simpa using hlen) (by simp at hn1 ⊢;omega) (by omega) (by simp[hw]) (by simp[h0]) (by simp[h1]) (by simp[h5]<;>exact hn) (by simp[h6]) (by simp[h10]<;>exact zaj (by omega) (by simp at hlen;omega)) (fun t' k1 k2 k3 k4 k5=>hE t' k1 k2 (by simpa using k3) (by rw[k4];rw[count_cons];simp[hb];omega) (by rw[k5];simp[isX,hb]))
  ·have hb:b≠95:=fun e=>h95 (by rw[e];rfl);by_cases h69:b.toNat=69
   ·have hb':b=69:=jBd.1 h69;have hl:zah TT 64 H (.ptr p b.toNat)=some (.sl (N+4) 1 0 1 none):=by rw[zdR hp _ hi,h69];rfl
    have hn:IntKind.i64.wrap (n+IntKind.i64.wrap 0)=n:=by rw[show IntKind.i64.wrap 0=0 from rfl,Int.add_zero];exact zaj (by simp at hn1;omega) (by omega)
    have hF:=ai @h0 (ai @h1 (ai @h5 (ai @h6 (ai @h10 (ai @hlt (ai @hat (ai @hat2 (ai @hb1 (ai @hb2 (ai @hl (ai @hi @hn)))))))))));refine zaM.round' ?_;apply sQ;apply rS hC
    ·iterate 4 refine gO (by simp[hF,-zah]<;>rfl) ?_
     rfl
    refine cT (by simp[hF,-zah]<;>rfl) ?_;apply Tri.skip;apply sN;apply sQ;apply bK;apply rS hC
    ·iterate 4 refine gO (by simp[hF,-zah]<;>rfl) ?_
     rfl
    apply rS hC
    ·iterate 7 refine gO (by simp[hF,-zah]<;>rfl) ?_
     rfl
    refine cT (by simp[hF,-zah]<;>rfl) ?_;apply rS hC
    ·iterate 11 refine gO (by simp[hF,-zah]<;>rfl) ?_
     rfl
    apply rN hC
    ·refine gO (by simp[hF,-zah]<;>rfl) ?_;rfl
    apply bN;apply sN;apply rN hC
    ·iterate 3 refine gO (by simp[hF,-zah]<;>rfl) ?_
     rfl
    refine zaq ?_;refine ih (pre++[b]) _ n true (by simpa using hlen) (by simp at hn1 ⊢;omega) (by omega) (by simp[hw]) (by simp[h0]) (by simp[h1]) (by simp[h5]<;>exact hn) (by simp[h6]) (by simp[h10]<;>exact zaj (by omega) (by simp at hlen;omega)) (fun t' k1 k2 k3 k4 k5=>hE t' k1 k2 (by simpa using k3) (by rw[k4];rw[count_cons];simp[hb']) (by rw[k5];simp[isX,hb']))
   ·have hb':b≠69:=fun e=>h69 (by rw[e];rfl);have hl:zah TT 64 H (.ptr p b.toNat)=some .nils:=by rw[zdR hp _ hi,zwS N _ h95 h69]
    have hF:=ai @h0 (ai @h1 (ai @h5 (ai @h6 (ai @h10 (ai @hlt (ai @hat (ai @hat2 (ai @hb1 (ai @hb2 (ai @hl @hi))))))))));refine zaM.round' ?_;apply sQ;apply rS hC
    ·iterate 4 refine gO (by simp[hF,-zah]<;>rfl) ?_
     rfl
    refine Tri.condG (o:=?ok2) (b:=?bk2) ?gk2 ?rk2 ?yk2 ?nk2;case gk2=>simp[hF,-zah]<;>rfl
    case rk2=>rfl
    case yk2=>
     intro hy2;apply Tri.skip;apply sN;apply sQ;apply bK;apply rS hC
     ·iterate 4 refine gO (by simp[hF,-zah]<;>rfl) ?_
      rfl
     apply rS hC
     ·iterate 7 refine gO (by simp[hF,-zah]<;>rfl) ?_
      rfl
     refine cF (by simp[hF,-zah]<;>rfl) ?_;apply Tri.skip;apply bN;apply sN;apply rN hC
     ·iterate 3 refine gO (by simp[hF,-zah]<;>rfl) ?_
      rfl
     refine zaq ?_;refine ih (pre++[b]) _ n a (by simpa using hlen) (by simp at hn1 ⊢;omega) (by omega) (by simp[hw]) (by simp[h0]) (by simp[h1]) (by simp[h5]) (by simp[h6]) (by simp[h10]<;>exact zaj (by omega) (by simp at hlen;omega)) (fun t' k1 k2 k3 k4 k5=>hE t' k1 k2 (by simpa using k3) (by rw[k4];rw[count_cons];simp[hb]) (by rw[k5];simp[isX,jDa.2 hb,jDa.2 hb']))
    case nk2=>
     intro hn2;exact absurd hn2 (by simp[hF,-zah])
theorem zkH {call:zad}(hC:call.Sound prog TT){Q:Out→Prop}(p N:Nat)(H:zaa)(hp:H[p]? = some (some (bsB N)))(hN:H[N]? = some (some ⟨9,[.s [69],.s [95]],.all⟩))(x:Bs)(t:Tm)(n:Int)(a:Bool)(hw:t.wid=122)(h0:t.get 0=.ptr p 0)(h1:t.get 1=.s x)(h5:t.get 5=.i .i64 n)(h6:t.get 6=.b a)(h30:t.get 30=.sl N 1 0 2 (some 2))(h31:t.get 31=.i .i64 2)(h32:t.get 32=.i .i64 2)(hE:∀t':Tm,t'.wid=122→t'.get 0=.ptr p 0→t'.get 1=.s x→t'.get 5=.i .i64 (n)→t'.get 6=.b (a)→Q (.exit 0 t' H)) :
 zaM prog TT (sub [tt,tt,tt,ff,tt,ff,tt,ff,ff] (zae f186)) t H Q:=by
 have hF:=ai @h0 (ai @h1 (ai @h5 (ai @h6 (ai @h30 (ai @h31 @h32)))));refine zaM.round' ?_;apply rS hC
 ·refine gO (by simp[hF,-zah]<;>rfl) ?_;rfl
 apply sQ;refine cF (by simp[hF,-zah]<;>rfl) ?_;refine Tri.exit ?_;refine zaz ?_;refine zay ?_;exact hE _ (by simp[hw]) (by simp[h0]) (by simp[h1]) (by simp[h5]) (by simp[h6])
theorem zod {call:zad}(hC:call.Sound prog TT){Q:Out→Prop}(p N:Nat)(H:zaa)(hp:H[p]? = some (some (bsB N)))(hN:H[N]? = some (some ⟨9,[.s [69],.s [95]],.all⟩))(x:Bs)(t:Tm)(n:Int)(a:Bool)(m:Nat)(hm:m≤2000000)(hn0:-2000000≤n)(hn2:n≤4000000)(hcnt:∀K,call 188 [.s x,.s [69]] K=.val (.i .i64 m) K)(hz:((m:Int) !=0)=true)(hw:t.wid=122)(h0:t.get 0=.ptr p 0)(h1:t.get 1=.s x)(h5:t.get 5=.i .i64 n)(h6:t.get 6=.b a)(h30:t.get 30=.sl N 1 0 2 (some 2))(h31:t.get 31=.i .i64 2)(h32:t.get 32=.i .i64 0)(hA:∀t':Tm,t'.wid=122→t'.get 0=.ptr p 0→t'.get 1=.s x→t'.get 5=.i .i64 (n)→t'.get 6=.b (true)→t'.get 30=.sl N 1 0 2 (some 2)→t'.get 31=.i .i64 2→t'.get 32=.i .i64 1→zaM prog TT (sub [tt,tt,tt,ff,tt,ff,tt,ff,ff] (zae f186)) t' H Q) :
 zaM prog TT (sub [tt,tt,tt,ff,tt,ff,tt,ff,ff] (zae f186)) t H Q:=by
 have x87:TT.ext 188=none:=rfl;have hl:zah TT 9 H (.ptr N 0)=some (.s [69]):=by simp[zah,zap,hN,zbq,zbV,zcf]
 have hl2:zah TT 64 H (.ptr p 69)=some (.sl (N+4) 1 0 1 none):=by rw[zdR hp 69 (by omega)];rfl
 have hn:IntKind.i64.wrap (n+IntKind.i64.wrap ((m:Int)*IntKind.i64.wrap (0)))=n:=by
  rw[show IntKind.i64.wrap (0)=0 from rfl,zaj (n:=(m:Int)*0) (by omega) (by omega),zaj (by omega) (by omega)];omega
 have hF:=ai @h0 (ai @h1 (ai @h5 (ai @h6 (ai @h30 (ai @h31 (ai @h32 (ai @hl (ai @hl2 (ai @hcnt (ai @x87 @hz))))))))));refine zaM.round' ?_;apply rS hC
 ·refine gO (by simp[hF,-zah]<;>rfl) ?_;rfl
 apply sQ;refine cT (by simp[hF,-zah]<;>rfl) ?_;apply Tri.skip;apply sN;apply sQ;apply bK;apply rS hC
 ·iterate 3 refine gO (by simp[hF,-zah]<;>rfl) ?_
  rfl
 apply rS hC
 ·iterate 4 refine gO (by simp[hF,-zah]<;>rfl) ?_
  rfl
 apply rS hC
 ·iterate 2 refine gO (by simp[hF,-zah]<;>rfl) ?_
  rfl
 refine cT (by simp[hF,-zah]<;>rfl) ?_;apply sQ;refine Tri.regN (t':=?ty07) (H':=?Hy07) zaf hC ?ey07 ?qy07;case ey07=>
  refine zcF (t':=?ty07) (by kernel_rfl) ?_ ?ry0907;iterate 14 refine QR.val rfl (by simp[hF,-zah]<;>rfl) (by rfl) (by simp[hw]) ?_
  exact QR.nil;case ry0907=>exact rfl
 apply sN;apply rN hC
 ·refine gO (by simp[hF,-zah]<;>rfl) ?_;rfl
 apply bN;apply sN;apply rN hC
 ·iterate 2 refine gO (by simp[hF,-zah]<;>rfl) ?_
  rfl
 refine zaq ?_;exact hA _ (by simp[hw]) (by simp[h0]) (by simp[h1]) (by simp[h5]<;>exact hn) (by simp[h6]) (by simp[h30]) (by simp[h31]) (by simp[h32]<;>rfl)
theorem zoc {call:zad}(hC:call.Sound prog TT){Q:Out→Prop}(p N:Nat)(H:zaa)(hp:H[p]? = some (some (bsB N)))(hN:H[N]? = some (some ⟨9,[.s [69],.s [95]],.all⟩))(x:Bs)(t:Tm)(n:Int)(a:Bool)(m:Nat)(hcnt:∀K,call 188 [.s x,.s [69]] K=.val (.i .i64 m) K)(hz:((m:Int) !=0)=false)(hw:t.wid=122)(h0:t.get 0=.ptr p 0)(h1:t.get 1=.s x)(h5:t.get 5=.i .i64 n)(h6:t.get 6=.b a)(h30:t.get 30=.sl N 1 0 2 (some 2))(h31:t.get 31=.i .i64 2)(h32:t.get 32=.i .i64 0)(hA:∀t':Tm,t'.wid=122→t'.get 0=.ptr p 0→t'.get 1=.s x→t'.get 5=.i .i64 (n)→t'.get 6=.b (a)→t'.get 30=.sl N 1 0 2 (some 2)→t'.get 31=.i .i64 2→t'.get 32=.i .i64 1→zaM prog TT (sub [tt,tt,tt,ff,tt,ff,tt,ff,ff] (zae f186)) t' H Q) :
 zaM prog TT (sub [tt,tt,tt,ff,tt,ff,tt,ff,ff] (zae f186)) t H Q:=by
 have x87:TT.ext 188=none:=rfl;have hl:zah TT 9 H (.ptr N 0)=some (.s [69]):=by simp[zah,zap,hN,zbq,zbV,zcf]
 have hF:=ai @h0 (ai @h1 (ai @h5 (ai @h6 (ai @h30 (ai @h31 (ai @h32 (ai @hl (ai @hcnt (ai @x87 @hz)))))))));refine zaM.round' ?_;apply rS hC
 ·refine gO (by simp[hF,-zah]<;>rfl) ?_;rfl
 apply sQ;refine cT (by simp[hF,-zah]<;>rfl) ?_;apply Tri.skip;apply sN;apply sQ;apply bK;apply rS hC
 ·iterate 3 refine gO (by simp[hF,-zah]<;>rfl) ?_
  rfl
 apply rS hC
 ·iterate 4 refine gO (by simp[hF,-zah]<;>rfl) ?_
  rfl
 apply rS hC
 ·iterate 2 refine gO (by simp[hF,-zah]<;>rfl) ?_
  rfl
 refine cF (by simp[hF,-zah]<;>rfl) ?_;apply Tri.skip;apply bN;apply sN;apply rN hC
 ·iterate 2 refine gO (by simp[hF,-zah]<;>rfl) ?_
  rfl
 refine zaq ?_;exact hA _ (by simp[hw]) (by simp[h0]) (by simp[h1]) (by simp[h5]) (by simp[h6]) (by simp[h30]) (by simp[h31]) (by simp[h32]<;>rfl)
theorem zof {call:zad}(hC:call.Sound prog TT){Q:Out→Prop}(p N:Nat)(H:zaa)(hp:H[p]? = some (some (bsB N)))(hN:H[N]? = some (some ⟨9,[.s [69],.s [95]],.all⟩))(x:Bs)(t:Tm)(n:Int)(a:Bool)(m:Nat)(hm:m≤2000000)(hn0:-2000000≤n)(hn2:n≤4000000)(hcnt:∀K,call 188 [.s x,.s [95]] K=.val (.i .i64 m) K)(hz:((m:Int) !=0)=true)(hw:t.wid=122)(h0:t.get 0=.ptr p 0)(h1:t.get 1=.s x)(h5:t.get 5=.i .i64 n)(h6:t.get 6=.b a)(h30:t.get 30=.sl N 1 0 2 (some 2))(h31:t.get 31=.i .i64 2)(h32:t.get 32=.i .i64 1)(hA:∀t':Tm,t'.wid=122→t'.get 0=.ptr p 0→t'.get 1=.s x→t'.get 5=.i .i64 (n-m)→t'.get 6=.b (true)→t'.get 30=.sl N 1 0 2 (some 2)→t'.get 31=.i .i64 2→t'.get 32=.i .i64 2→zaM prog TT (sub [tt,tt,tt,ff,tt,ff,tt,ff,ff] (zae f186)) t' H Q) :
 zaM prog TT (sub [tt,tt,tt,ff,tt,ff,tt,ff,ff] (zae f186)) t H Q:=by
 have x87:TT.ext 188=none:=rfl;have hl:zah TT 9 H (.ptr N 1)=some (.s [95]):=by simp[zah,zap,hN,zbq,zbV,zcf]
 have hl2:zah TT 64 H (.ptr p 95)=some (.sl (N+7) 1 0 0 none):=by rw[zdR hp 95 (by omega)];rfl
 have hn:IntKind.i64.wrap (n+IntKind.i64.wrap ((m:Int)*IntKind.i64.wrap (-1)))=n-m:=by
  rw[show IntKind.i64.wrap (-1)= -1 from rfl,zaj (n:=(m:Int)*(-1)) (by omega) (by omega),zaj (by omega) (by omega)];omega
 have hF:=ai @h0 (ai @h1 (ai @h5 (ai @h6 (ai @h30 (ai @h31 (ai @h32 (ai @hl (ai @hl2 (ai @hcnt (ai @x87 @hz))))))))));refine zaM.round' ?_;apply rS hC
 ·refine gO (by simp[hF,-zah]<;>rfl) ?_;rfl
 apply sQ;refine cT (by simp[hF,-zah]<;>rfl) ?_;apply Tri.skip;apply sN;apply sQ;apply bK;apply rS hC
 ·iterate 3 refine gO (by simp[hF,-zah]<;>rfl) ?_
  rfl
 apply rS hC
 ·iterate 4 refine gO (by simp[hF,-zah]<;>rfl) ?_
  rfl
 apply rS hC
 ·iterate 2 refine gO (by simp[hF,-zah]<;>rfl) ?_
  rfl
 refine cT (by simp[hF,-zah]<;>rfl) ?_;apply sQ;refine Tri.regN (t':=?ty17) (H':=?Hy17) zaf hC ?ey17 ?qy17;case ey17=>
  refine zcF (t':=?ty17) (by kernel_rfl) ?_ ?ry1907;iterate 14 refine QR.val rfl (by simp[hF,-zah]<;>rfl) (by rfl) (by simp[hw]) ?_
  exact QR.nil;case ry1907=>exact rfl
 apply sN;apply rN hC
 ·refine gO (by simp[hF,-zah]<;>rfl) ?_;rfl
 apply bN;apply sN;apply rN hC
 ·iterate 2 refine gO (by simp[hF,-zah]<;>rfl) ?_
  rfl
 refine zaq ?_;exact hA _ (by simp[hw]) (by simp[h0]) (by simp[h1]) (by simp[h5]<;>exact hn) (by simp[h6]) (by simp[h30]) (by simp[h31]) (by simp[h32]<;>rfl)
theorem zoe {call:zad}(hC:call.Sound prog TT){Q:Out→Prop}(p N:Nat)(H:zaa)(hp:H[p]? = some (some (bsB N)))(hN:H[N]? = some (some ⟨9,[.s [69],.s [95]],.all⟩))(x:Bs)(t:Tm)(n:Int)(a:Bool)(m:Nat)(hcnt:∀K,call 188 [.s x,.s [95]] K=.val (.i .i64 m) K)(hz:((m:Int) !=0)=false)(hw:t.wid=122)(h0:t.get 0=.ptr p 0)(h1:t.get 1=.s x)(h5:t.get 5=.i .i64 n)(h6:t.get 6=.b a)(h30:t.get 30=.sl N 1 0 2 (some 2))(h31:t.get 31=.i .i64 2)(h32:t.get 32=.i .i64 1)(hA:∀t':Tm,t'.wid=122→t'.get 0=.ptr p 0→t'.get 1=.s x→t'.get 5=.i .i64 (n)→t'.get 6=.b (a)→t'.get 30=.sl N 1 0 2 (some 2)→t'.get 31=.i .i64 2→t'.get 32=.i .i64 2→zaM prog TT (sub [tt,tt,tt,ff,tt,ff,tt,ff,ff] (zae f186)) t' H Q) :
 zaM prog TT (sub [tt,tt,tt,ff,tt,ff,tt,ff,ff] (zae f186)) t H Q:=by
 have x87:TT.ext 188=none:=rfl;have hl:zah TT 9 H (.ptr N 1)=some (.s [95]):=by simp[zah,zap,hN,zbq,zbV,zcf]
 have hF:=ai @h0 (ai @h1 (ai @h5 (ai @h6 (ai @h30 (ai @h31 (ai @h32 (ai @hl (ai @hcnt (ai @x87 @hz)))))))));refine zaM.round' ?_;apply rS hC
 ·refine gO (by simp[hF,-zah]<;>rfl) ?_;rfl
 apply sQ;refine cT (by simp[hF,-zah]<;>rfl) ?_;apply Tri.skip;apply sN;apply sQ;apply bK;apply rS hC
 ·iterate 3 refine gO (by simp[hF,-zah]<;>rfl) ?_
  rfl
 apply rS hC
 ·iterate 4 refine gO (by simp[hF,-zah]<;>rfl) ?_
  rfl
 apply rS hC
 ·iterate 2 refine gO (by simp[hF,-zah]<;>rfl) ?_
  rfl
 refine cF (by simp[hF,-zah]<;>rfl) ?_;apply Tri.skip;apply bN;apply sN;apply rN hC
 ·iterate 2 refine gO (by simp[hF,-zah]<;>rfl) ?_
  rfl
 refine zaq ?_;exact hA _ (by simp[hw]) (by simp[h0]) (by simp[h1]) (by simp[h5]) (by simp[h6]) (by simp[h30]) (by simp[h31]) (by simp[h32]<;>rfl)
theorem zh7 {call:zad} (hC:call.Sound prog TT) {Q:Out→Prop} (p N:Nat) (H:zaa) (hp:H[p]? = some (some (bsB N))) (hN:H[N]? = some (some ⟨9,[.s [69],.s [95]],.all⟩)) (x:Bs) (t:Tm) (n:Int) (a:Bool) (hx:x.length<1100000) (hn0:0≤n) (hn2:n≤2000000) (hcnt:∀(c:UInt8) (K:zaa),call 188 [.s x,.s [c]] K=.val (.i .i64 (Lib.countByte x c)) K) (hw:t.wid=122) (h0:t.get 0=.ptr p 0) (h1:t.get 1=.s x) (h5:t.get 5=.i .i64 n) (h6:t.get 6=.b a) (h30:t.get 30=.sl N 1 0 2 (some 2)) (h31:t.get 31=.i .i64 2) (h32:t.get 32=.i .i64 0) (hE:∀t':Tm,t'.wid=122→t'.get 0=.ptr p 0→t'.get 1=.s x→t'.get 5=.i .i64 (n-(Lib.countByte x 95:Nat))→t'.get 6=.b (a||decide (Lib.countByte x 69≠0)||decide (Lib.countByte x 95≠0))→Q (.exit 0 t' H)) :
    zaM prog TT (sub [tt,tt,tt,ff,tt,ff,tt,ff,ff] (zae f186)) t H Q:=by
  have hc1:Lib.countByte x 69≤x.length:=count_le_length
  have hc2:Lib.countByte x 95≤x.length:=count_le_length
  have two:∀(a1:Bool) (t1:Tm),t1.wid=122→t1.get 0=.ptr p 0→t1.get 1=.s x→t1.get 5=.i .i64 n→t1.get 6=.b a1→t1.get 30=.sl N 1 0 2 (some 2)→t1.get 31=.i .i64 2→t1.get 32=.i .i64 1→(a||decide (Lib.countByte x 69≠0))=a1→zaM prog TT (sub [tt,tt,tt,ff,tt,ff,tt,ff,ff] (zae f186)) t1 H Q:=by
    intro a1 t1 k1 k2 k3 k4 k5 k6 k7 k8 ha
    cases hz:((Lib.countByte x 95:Nat):Int) !=0 with
    | true=>
      refine zof hC p N H hp hN x t1 n a1 (Lib.countByte x 95) (by omega) (by omega) (by omega) (hcnt 95) hz k1 k2 k3 k4 k5 k6 k7 k8 fun t2 j1 j2 j3 j4 j5 j6 j7 j8=>?_
      refine zkH hC p N H hp hN x t2 _ _ j1 j2 j3 j4 j5 j6 j7 j8 fun t3 i1 i2 i3 i4 i5=>hE t3 i1 i2 i3 i4 (have h9:Lib.countByte x 95≠0:=by simpa using hz
        by rw[i5];simp[h9])
    | false=>
      have h0:Lib.countByte x 95=0:=by simpa using hz
      refine zoe hC p N H hp hN x t1 n a1 (Lib.countByte x 95) (hcnt 95) hz k1 k2 k3 k4 k5 k6 k7 k8 fun t2 j1 j2 j3 j4 j5 j6 j7 j8=>?_
      refine zkH hC p N H hp hN x t2 _ _ j1 j2 j3 j4 j5 j6 j7 j8 fun t3 i1 i2 i3 i4 i5=>hE t3 i1 i2 i3 (by rw[i4,h0];simp) (by rw[i5,←ha];simp[h0])
  cases hz:((Lib.countByte x 69:Nat):Int) !=0 with
  | true=>
    refine zod hC p N H hp hN x t n a (Lib.countByte x 69) (by omega) (by omega) (by omega) (hcnt 69) hz hw h0 h1 h5 h6 h30 h31 h32 fun t2 j1 j2 j3 j4 j5 j6 j7 j8=>?_
    exact two true t2 j1 j2 j3 j4 j5 j6 j7 j8 (by simp only[jUa,ne_eq]at hz;simp;right;omega)
  | false=>
    have h0':Lib.countByte x 69=0:=by simpa using hz
    refine zoc hC p N H hp hN x t n a (Lib.countByte x 69) (hcnt 69) hz hw h0 h1 h5 h6 h30 h31 h32 fun t2 j1 j2 j3 j4 j5 j6 j7 j8=>?_
    exact two a t2 j1 j2 j3 j4 j5 j6 j7 j8 (by simp[h0'])

def byV (l:Bs):List V:=l.map fun c=>V.i .u8 c.toNat
def zeo (out:Bs)(k:Nat):Blk:=⟨5,byV out++List.replicate k (V.i .u8 0),.all⟩
theorem zrf {H:zaa}{m:Nat}{ty:Nat}{l:List V}(h:H[m]? = some (some ⟨ty,.tup []::l,.map⟩)):zjJ H m=some l:=by
 have h1:zap H m=none:=by simp[zap,h]
 have h2:zi6 H m=some ⟨ty,l,.all⟩∨∃k,zi6 H m=some ⟨ty,l,k⟩:=by
  right;simp[zi6,h,zgX]
 obtain⟨k,h2⟩:=h2.elim (fun h=>⟨_,h⟩) id;simp only[zjJ,h1,h2];rfl
theorem zop (l:List V)(o:Nat)(h:o≤l.length):splice l o []=l:=by simp[splice]
theorem zj8 {H:zaa}{z m:Nat}{blk:Blk}{cs:List V}(hz:zap H z=some blk)(hs:zjJ H m=some cs)(o w:Nat)(c:Option Nat)(h:o≤blk.cells.length):zdD TT 64 (.sl z 1 o w c) (.sl m 1 0 0 none) H=.val (.i .i64 0) (H.set z (some blk)):=by
 have e1:TT.und 64=some (.slice 5):=rfl;have e2:TT.size 5=some 1:=rfl;have e3:cut cs 0 0=some []:=by simp[cut]
 simp only[zdD,e1,hz,hs,zcL];rw[show Nat.min 0 w=0 from Nat.zero_min w,e3];simp[e2,zop _ _ h,h]
theorem zrW {H:zaa}{z m:Nat}{blk:Blk}{v:V}(hz:zap H z=some blk)(hs:zjJ H m=some [v])(hf:zeA v=true)(o w:Nat)(c:Option Nat)(hw:0<w)(h:o<blk.cells.length):zdD TT 64 (.sl z 1 o w c) (.sl m 1 0 1 none) H=.val (.i .i64 1) (H.set z (some {blk with cells:=splice blk.cells o [v]})):=by
 have e1:TT.und 64=some (.slice 5):=rfl;have e2:TT.size 5=some 1:=rfl;have e3:cut [v] 0 1=some [v]:=by simp[cut]
 simp only[zdD,e1,hz,hs,zcL];rw[show Nat.min 1 w=1 from Nat.min_eq_left hw,e3];show(if _ then _ else _)=_;rw[if_pos ⟨trivial,trivial,e2,by rw[all_cons,hf];rfl,by simp;omega⟩];rfl
theorem BsR.set {H:zaa}{p N z:Nat}(h:BsR H p N)(hz:z≠p∧z≠N∧z≠N+4∧z≠N+7)(b:Option Blk):BsR (H.set z b) p N:=by
 obtain⟨h1,h2,h3,h4⟩:=h;obtain⟨z1,z2,z3,z4⟩:=hz;exact⟨by rw[jRa z1];exact h1,by rw[jRa z2];exact h2,by rw[jRa z3];exact h3,by rw[jRa z4];exact h4⟩
theorem zmp (out:Bs)(k:Nat)(c:UInt8):splice (zeo out (k+1)).cells out.length [V.i .u8 c.toNat]=(zeo (out++[c]) k).cells:=by
 have e:(byV out).length=out.length:=by simp[byV]
 unfold splice zeo;simp only;rw[take_append_of_le_length (by omega),jTb (by omega),drop_append,jAc (by simp;omega),e];simp[byV,replicate_succ]
theorem zh9 {call:zad}(hC:call.Sound prog TT){Q:Out→Prop}(p N z:Nat)(hzn:z≠p∧z≠N∧z≠N+4∧z≠N+7):∀(L pre:Bs)(t:Tm)(H:zaa)(W J:Nat),J=(za1 pre).length→(pre++L).length<1100000→W=J+(za1 L).length→BsR H p N→H[z]? = some (some (zeo (za1 pre) (za1 L).length))→t.wid=122→t.get 0=.ptr p 0→t.get 1=.s (pre++L)→t.get 12=.sl z 1 0 W (some W)→t.get 13=.i .i64 J→t.get 14=.i .i64 pre.length →
 (∀(t':Tm)(H':zaa),t'.wid=122→t'.get 12=.sl z 1 0 W (some W)→H'[z]? = some (some (zeo (za1 (pre++L)) 0))→H'.length=H.length→(∀j,j≠z→H'[j]? = H[j]?)→Q (.exit 4 t' H')) →
 zaM prog TT (sub [tt,tt,tt,tt,tt,tt,tt,ff,tt,ff,ff] (zae f186)) t H Q:=by
 intro L;induction L with
 |nil=>
  intro pre t H W J hJ hlen hW hB hz hw h0 h1 h12 h13 h14 hE;have hF:=ai @h0 (ai @h1 (ai @h12 (ai @h13 @h14)));refine zaM.round' ?_;apply sQ;apply rS hC
  ·iterate 4 refine gO (by simp[hF,-zah]<;>rfl) ?_
   rfl
  refine cF (by simp[hF,-zah]<;>rfl) ?_;refine Tri.exit ?_;refine zaz ?_;refine zay ?_;exact hE _ _ (by simp[hw]) (by simp[h12]) (by rw[hz];simp[za1]) rfl (fun _ _=>rfl)
 |cons b L ih=>
  intro pre t H W J hJ hlen hW hB hz hw h0 h1 h12 h13 h14 hE;have hlt:=zdV pre.length L.length;have hat:=zhv pre b L;have hat2:=zeQ pre b L;have hb1:(0:Int)≤b.toNat:=(zkZ b).1;have hb2:(b.toNat:Int)<256:=(zkZ b).2;have hi:b.toNat<256:=b.toNat_lt;have hle:J≤W:=by omega
  have hzb:zap H z=some (zeo (za1 pre) (za1 (b::L)).length):=by simp[zap,hz,zeo]
  have hJ2:J<1100000:=by
   have h1:(za1 pre).length≤pre.length:=by unfold za1;rw[jJd];exact length_filter_le _ _
   rw[jLa]at hlen;omega
  have hs7:zjJ H (N+7)=some []:=zrf hB.2.2.2;have hs4:zjJ H (N+4)=some [.i .u8 101]:=zrf hB.2.2.1;by_cases h95:b.toNat=95
  ·have hb:b=95:=jBd.1 h95;have hr:za1 (pre++[b])=za1 pre:=by rw[hb];simp[za1]
   have hr2:za1 (b::L)=za1 L:=by rw[hb];simp[za1]
   have hl:zah TT 64 H (.ptr p b.toNat)=some (.sl (N+7) 1 0 0 none):=by rw[zdR hB.1 _ hi,h95];rfl
   have hset:H.set z (some (zeo (za1 pre) (za1 (b::L)).length))=H:=(zaa.set_self hz).symm;have hn:IntKind.i64.wrap ((J:Int)+0)=J:=by rw[Int.add_zero];exact zaj (by omega) (by omega)
   by_cases hWJ:W=J
   ·have hcp:zdD TT 64 (.sl z 1 0 0 (some 0)) (.sl (N+7) 1 0 0 none) H=.val (.i .i64 0) (H.set z (some (zeo (za1 pre) (za1 (b::L)).length))):=zj8 hzb hs7 0 0 _ (by omega);have hF:=ai @h0 (ai @h1 (ai @h12 (ai @h13 (ai @h14 (ai @hlt (ai @hat (ai @hat2 (ai @hb1 (ai @hb2 (ai @hl (ai @hcp (ai @hle (ai @hWJ @hset)))))))))))));refine zaM.round' ?_;apply sQ;apply rS hC
    ·iterate 4 refine gO (by simp[hF,-zah]<;>rfl) ?_
     rfl
    refine cT (by simp[hF,-zah]<;>rfl) ?_;apply Tri.skip;apply sN;apply sQ;apply bK;apply rS hC
    ·iterate 4 refine gO (by simp[hF,-zah]<;>rfl) ?_
     rfl
    apply rS hC
    ·iterate 7 refine gO (by simp[hF,-zah]<;>rfl) ?_
     rfl
    refine cT (by simp[hF,-zah]<;>rfl) ?_;refine Tri.regN (t':=?ta6) (H':=?Ha6) zaf hC ?ea6 ?qa6;case ea6=>
     refine zbG (t':=?ta6) (H':=?Ha6) (ks:=[.q,.q,.q,.q,.q,.q,.q,.q,.q,.f,.e,.q,.q]) (fun _=>True) (by kernel_rfl) ?Aa906 ?_ ?ra906;case Aa906=>simp[hF,-zah]
     iterate 9 refine DR.blind rfl rfl (by simp[hF,-zah]<;>rfl) (by rfl) (by simp[hw]) ?_
     refine DR.fix rfl (by simp[hF,-zah]<;>rfl) (by rfl) (by simp[hw]) ?_;refine DR.eff rfl rfl (by simp[hF,-zah]<;>rfl) (by rfl) (by simp[hw]) (by simp[hF,-zah]) ?_;iterate 2 refine DR.blind rfl rfl (by simp[hF,-zah]<;>rfl) (by rfl) (by simp[hw]) ?_
     exact DR.nil;case ra906=>exact rfl
    apply bN;apply sN;apply rN hC
    ·iterate 3 refine gO (by simp[hF,-zah]<;>rfl) ?_
     rfl
    refine zaq ?_;refine ih (pre++[b]) _ H W J (by rw[hJ,hr]) (by simpa using hlen) (by rw[hW,hr2]) hB (by rw[hr,hz,hr2])  (by simp[hw]) (by simp[h0]) (by simp[h1]) (by simp[h12]) (by simp[h13]<;>exact hn) (by simp[h14]<;>exact zaj (by omega) (by simp at hlen;omega)) (fun t' H' k1 k2 k3 k4 k5=>hE t' H' k1 k2 (by simpa using k3) k4 k5)
   ·have hcp:zdD TT 64 (.sl z 1 J (W-J) (some (W-J))) (.sl (N+7) 1 0 0 none) H=.val (.i .i64 0) (H.set z (some (zeo (za1 pre) (za1 (b::L)).length))):=zj8 hzb hs7 J _ _ (by simp[zeo,byV];omega);have hF:=ai @h0 (ai @h1 (ai @h12 (ai @h13 (ai @h14 (ai @hlt (ai @hat (ai @hat2 (ai @hb1 (ai @hb2 (ai @hl (ai @hcp (ai @hle (ai @hWJ @hset)))))))))))));refine zaM.round' ?_;apply sQ;apply rS hC
    ·iterate 4 refine gO (by simp[hF,-zah]<;>rfl) ?_
     rfl
    refine cT (by simp[hF,-zah]<;>rfl) ?_;apply Tri.skip;apply sN;apply sQ;apply bK;apply rS hC
    ·iterate 4 refine gO (by simp[hF,-zah]<;>rfl) ?_
     rfl
    apply rS hC
    ·iterate 7 refine gO (by simp[hF,-zah]<;>rfl) ?_
     rfl
    refine cT (by simp[hF,-zah]<;>rfl) ?_;refine Tri.regN (t':=?tb6) (H':=?Hb6) zaf hC ?eb6 ?qb6;case eb6=>
     refine zbG (t':=?tb6) (H':=?Hb6) (ks:=[.q,.q,.q,.q,.q,.q,.q,.q,.q,.f,.e,.q,.q]) (fun _=>True) (by kernel_rfl) ?Ab906 ?_ ?rb906;case Ab906=>simp[hF,-zah]
     iterate 9 refine DR.blind rfl rfl (by simp[hF,-zah]<;>rfl) (by rfl) (by simp[hw]) ?_
     refine DR.fix rfl (by simp[hF,-zah]<;>rfl) (by rfl) (by simp[hw]) ?_;refine DR.eff rfl rfl (by simp[hF,-zah]<;>rfl) (by rfl) (by simp[hw]) (by simp[hF,-zah]) ?_;iterate 2 refine DR.blind rfl rfl (by simp[hF,-zah]<;>rfl) (by rfl) (by simp[hw]) ?_
     exact DR.nil;case rb906=>exact rfl
    apply bN;apply sN;apply rN hC
    ·iterate 3 refine gO (by simp[hF,-zah]<;>rfl) ?_
     rfl
    refine zaq ?_;refine ih (pre++[b]) _ H W J (by rw[hJ,hr]) (by simpa using hlen) (by rw[hW,hr2]) hB (by rw[hr,hz,hr2])  (by simp[hw]) (by simp[h0]) (by simp[h1]) (by simp[h12]) (by simp[h13]<;>exact hn) (by simp[h14]<;>exact zaj (by omega) (by simp at hlen;omega)) (fun t' H' k1 k2 k3 k4 k5=>hE t' H' k1 k2 (by simpa using k3) k4 k5)
  ·have hb:b≠95:=fun e=>h95 (by rw[e];rfl);have hn:IntKind.i64.wrap ((J:Int)+1)=((J+1:Nat):Int):=by rw[zaj (by omega) (by omega)];omega
   by_cases h69:b.toNat=69
   ·have hb':b=69:=jBd.1 h69;have hr:za1 (pre++[b])=za1 pre++[101]:=by rw[hb'];simp[za1]
    have hr2:za1 (b::L)=101::za1 L:=by rw[hb'];simp[za1]
    have hl:zah TT 64 H (.ptr p b.toNat)=some (.sl (N+4) 1 0 1 none):=by rw[zdR hB.1 _ hi,h69];rfl
    have hWJ:¬W=J:=by rw[hW,hr2];simp
    have hJl:J<(zeo (za1 pre) (za1 (b::L)).length).cells.length:=by simp[zeo,byV,hJ,hr2]
    have hcp:zdD TT 64 (.sl z 1 J (W-J) (some (W-J))) (.sl (N+4) 1 0 1 none) H=.val (.i .i64 1) (H.set z (some (zeo (za1 pre++[101]) (za1 L).length))):=by
     rw[zrW hzb hs4 rfl J _ _ (by omega) hJl,hr2,jIa,hJ,show V.i IntKind.u8 101=.i .u8 ((101:UInt8).toNat:Nat)from rfl,zmp];rfl
    have hzl:z<H.length:=zaa.lt hz;have hF:=ai @h0 (ai @h1 (ai @h12 (ai @h13 (ai @h14 (ai @hlt (ai @hat (ai @hat2 (ai @hb1 (ai @hb2 (ai @hl (ai @hcp (ai @hle @hWJ))))))))))));refine zaM.round' ?_;apply sQ;apply rS hC
    ·iterate 4 refine gO (by simp[hF,-zah]<;>rfl) ?_
     rfl
    refine cT (by simp[hF,-zah]<;>rfl) ?_;apply Tri.skip;apply sN;apply sQ;apply bK;apply rS hC
    ·iterate 4 refine gO (by simp[hF,-zah]<;>rfl) ?_
     rfl
    apply rS hC
    ·iterate 7 refine gO (by simp[hF,-zah]<;>rfl) ?_
     rfl
    refine cT (by simp[hF,-zah]<;>rfl) ?_;refine Tri.regN (t':=?tc6) (H':=?Hc6) zaf hC ?ec6 ?qc6;case ec6=>
     refine zbG (t':=?tc6) (H':=?Hc6) (ks:=[.q,.q,.q,.q,.q,.q,.q,.q,.q,.f,.e,.q,.q]) (fun _=>True) (by kernel_rfl) ?Ac906 ?_ ?rc906;case Ac906=>simp[hF,-zah]
     iterate 9 refine DR.blind rfl rfl (by simp[hF,-zah]<;>rfl) (by rfl) (by simp[hw]) ?_
     refine DR.fix rfl (by simp[hF,-zah]<;>rfl) (by rfl) (by simp[hw]) ?_;refine DR.eff rfl rfl (by simp[hF,-zah]<;>rfl) (by rfl) (by simp[hw]) (by simp[hF,-zah]) ?_;iterate 2 refine DR.blind rfl rfl (by simp[hF,-zah]<;>rfl) (by rfl) (by simp[hw]) ?_
     exact DR.nil;case rc906=>exact rfl
    apply bN;apply sN;apply rN hC
    ·iterate 3 refine gO (by simp[hF,-zah]<;>rfl) ?_
     rfl
    refine zaq ?_;refine ih (pre++[b]) _ _ W (J+1) (by rw[hr,hJ];simp) (by simpa using hlen) (by rw[hW,hr2,jIa];omega) (hB.set hzn _) (by rw[jFb hzl,hr])  (by simp[hw]) (by simp[h0]) (by simp[h1]) (by simp[h12]) (by simp[h13]<;>exact hn) (by simp[h14]<;>exact zaj (by omega) (by simp at hlen;omega)) (fun t' H' k1 k2 k3 k4 k5=>hE t' H' k1 k2 (by simpa using k3) (by rw[k4];simp) (fun j hj=>by rw[k5 j hj,jRa (fun e=>hj e.symm)]))
   ·have hb':b≠69:=fun e=>h69 (by rw[e];rfl);have hr:za1 (pre++[b])=za1 pre++[b]:=by simp[za1,hb,hb']
    have hr2:za1 (b::L)=b::za1 L:=by simp[za1,hb,hb']
    have hl:zah TT 64 H (.ptr p b.toNat)=some .nils:=by rw[zdR hB.1 _ hi,zwS N _ h95 h69]
    have hJW:(J:Int)<W:=by rw[hW,hr2,jIa];omega
    have hzl:z<H.length:=zaa.lt hz;have hst:zbN TT 5 H (.ptr z J) (.i .u8 b.toNat)=some (H.set z (some (zeo (za1 pre++[b]) (za1 L).length))):=by
     have e2:TT.size 5=some 1:=rfl;have hJl:J<(zeo (za1 pre) (za1 (b::L)).length).cells.length:=by simp[zeo,byV,hJ,hr2]
     have hcl:(V.i .u8 b.toNat).cells=[V.i .u8 b.toNat]:=rfl;unfold zbN;simp only[hzb,hcl];rw[if_pos ⟨e2,hJl,rfl⟩,zfT,setK_eq,hr2,jIa,hJ,zmp];rfl
    have hF:=ai @h0 (ai @h1 (ai @h12 (ai @h13 (ai @h14 (ai @hlt (ai @hat (ai @hat2 (ai @hb1 (ai @hb2 (ai @hl (ai @hst (ai @hle @hJW))))))))))));refine zaM.round' ?_;apply sQ;apply rS hC
    ·iterate 4 refine gO (by simp[hF,-zah,-zbN]<;>rfl) ?_
     rfl
    refine Tri.condG (o:=?od2) (b:=?bd2) ?gd2 ?rd2 ?yd2 ?nd2;case gd2=>simp[hF,-zah,-zbN]<;>rfl
    case rd2=>rfl
    case yd2=>
     intro hy2;apply Tri.skip;apply sN;apply sQ;apply bK;apply rS hC
     ·iterate 4 refine gO (by simp[hF,-zah,-zbN]<;>rfl) ?_
      rfl
     apply rS hC
     ·iterate 7 refine gO (by simp[hF,-zah,-zbN]<;>rfl) ?_
      rfl
     refine cF (by simp[hF,-zah,-zbN]<;>rfl) ?_;apply rS hC
     ·iterate 5 refine gO (by simp[hF,-zah,-zbN]<;>rfl) ?_
      rfl
     apply rN hC
     ·iterate 3 refine gO (by simp[hF,-zah,-zbN]<;>rfl) ?_
      rfl
     apply bN;apply sN;apply rN hC
     ·iterate 3 refine gO (by simp[hF,-zah,-zbN]<;>rfl) ?_
      rfl
     refine zaq ?_;refine ih (pre++[b]) _ _ W (J+1) (by rw[hr,hJ];simp) (by simpa using hlen) (by rw[hW,hr2,jIa];omega) (hB.set hzn _) (by rw[jFb hzl,hr])  (by simp[hw]) (by simp[h0]) (by simp[h1]) (by simp[h12]) (by simp[h13]<;>exact hn) (by simp[h14]<;>exact zaj (by omega) (by simp at hlen;omega)) (fun t' H' k1 k2 k3 k4 k5=>hE t' H' k1 k2 (by simpa using k3) (by rw[k4];simp) (fun j hj=>by rw[k5 j hj,jRa (fun e=>hj e.symm)]))
    case nd2=>
     intro hn2;exact absurd hn2 (by simp[hF,-zah,-zbN])
theorem zld {call:zad}(hC:call.Sound prog TT)(w16:IntKind.i64.wrap 16=16)(p N:Nat)(H:zaa)(hB:BsR H p N)(x:Bs)(hx:x.length<1100000)(hl256:zah TT 37 H (.ptr p 256)=some (.sl N 1 0 2 (some 2)))(hcnt:∀(c:UInt8)(K:zaa),call 188 [.s x,.s [c]] K=.val (.i .i64 (Lib.countByte x c)) K)(h16:¬(16:Int)≤x.length)(W:Nat)(hWW:(W:Int)=W)(e5:(x.length:Int)-(x.count 95:Nat)=W)(e6:(false||x.any isX)=false)(hmk:zbf TT 64 (.i .i64 W) (.i .i64 W) H=.val (.sl H.length 1 0 W (some W)) (H++[some (zeo [] W)]))(hrep:za1 x=x)   : zaA prog TT 186 [.ptr p 0,.s x] H (fun r=>∃B,r=.val (.s (za1 x)) B∧H.length≤B.length∧∀j,j<H.length→B[j]? = H[j]?):=by
 refine⟨f186,_,rfl,rfl,by simp[f186],?_⟩;have h0:(Tm.init f186.ntmps [.ptr p 0,.s x]).get 0=.ptr p 0:=by rw[zag];rfl
 have h1:(Tm.init f186.ntmps [.ptr p 0,.s x]).get 1=.s x:=by rw[zag];rfl
 have hw:(Tm.init f186.ntmps [.ptr p 0,.s x]).wid=122:=rfl;generalize Tm.init f186.ntmps [.ptr p 0,.s x]=t at *;try simp only[Nd.enc_eq]at *
 have hF:=ai @h0 (ai @h1 (ai @hl256 (ai @h16 @w16)));apply rS hC
 ·refine gO (by simp[hF,-zah]<;>rfl) ?_;rfl
 apply rS hC
 ·iterate 3 refine gO (by simp[hF,-zah]<;>rfl) ?_
  rfl
 apply rS hC
 ·refine gO (by simp[hF,-zah]<;>rfl) ?_;rfl
 apply sQ;apply rS hC
 ·iterate 9 refine gO (by simp[hF,-zah]<;>rfl) ?_
  rfl
 refine cF (by simp[hF,-zah]<;>rfl) ?_;apply rS hC
 ·refine gO (by simp[hF,-zah]<;>rfl) ?_;rfl
 apply bK;refine Tri.loop ?_;refine zh8 hC p N H hB.1 x [] _ (x.length:Int) false (by simpa using hx) (by omega) (by omega) (by simp[hw]) (by simp[h0]) (by simp[h1]) (by simp<;>rfl) (by simp<;>rfl) (by simp<;>rfl) ?exit;case exit=>
  intro t2 hw h0 h1 h5 h6;rw[e5]at h5;rw[e6]at h6;refine zav ?_;apply sN;apply sQ;apply rS hC
  ·iterate 2 refine gO (by simp[hF,-zah,h0,h1,h5,h6,-zah,hmk]<;>rfl) ?_
   rfl
  refine cT (by simp[hF,-zah]<;>rfl) ?_;apply rS hC
  ·iterate 2 refine gO (by simp[hF,-zah,h0,h1,h5,h6,-zah,hmk]<;>rfl) ?_
   rfl
  apply Tri.ret;apply sR;refine⟨.s (za1 x),⟨_,rfl,jDb _,fun _ _=>rfl⟩,?_⟩;simp[f186,h1,hrep]
theorem zlb {call:zad}(hC:call.Sound prog TT)(w16:IntKind.i64.wrap 16=16)(p N:Nat)(H:zaa)(hB:BsR H p N)(x:Bs)(hx:x.length<1100000)(hl256:zah TT 37 H (.ptr p 256)=some (.sl N 1 0 2 (some 2)))(hcnt:∀(c:UInt8)(K:zaa),call 188 [.s x,.s [c]] K=.val (.i .i64 (Lib.countByte x c)) K)(h16:(16:Int)≤x.length)(W:Nat)(hWW:(W:Int)=W)(e5:(x.length:Int)-(Lib.countByte x 95:Nat)=W)(e6:(false||decide (Lib.countByte x 69≠0)||decide (Lib.countByte x 95≠0))=false)(hmk:zbf TT 64 (.i .i64 W) (.i .i64 W) H=.val (.sl H.length 1 0 W (some W)) (H++[some (zeo [] W)]))(hrep:za1 x=x)   : zaA prog TT 186 [.ptr p 0,.s x] H (fun r=>∃B,r=.val (.s (za1 x)) B∧H.length≤B.length∧∀j,j<H.length→B[j]? = H[j]?):=by
 refine⟨f186,_,rfl,rfl,by simp[f186],?_⟩;have h0:(Tm.init f186.ntmps [.ptr p 0,.s x]).get 0=.ptr p 0:=by rw[zag];rfl
 have h1:(Tm.init f186.ntmps [.ptr p 0,.s x]).get 1=.s x:=by rw[zag];rfl
 have hw:(Tm.init f186.ntmps [.ptr p 0,.s x]).wid=122:=rfl;generalize Tm.init f186.ntmps [.ptr p 0,.s x]=t at *;try simp only[Nd.enc_eq]at *
 have hF:=ai @h0 (ai @h1 (ai @hl256 (ai @h16 @w16)));apply rS hC
 ·refine gO (by simp[hF,-zah]<;>rfl) ?_;rfl
 apply rS hC
 ·iterate 3 refine gO (by simp[hF,-zah]<;>rfl) ?_
  rfl
 apply rS hC
 ·refine gO (by simp[hF,-zah]<;>rfl) ?_;rfl
 apply sQ;apply rS hC
 ·iterate 9 refine gO (by simp[hF,-zah]<;>rfl) ?_
  rfl
 refine cT (by simp[hF,-zah]<;>rfl) ?_;apply rS hC
 ·iterate 6 refine gO (by simp[hF,-zah]<;>rfl) ?_
  rfl
 apply bK;refine Tri.loop ?_;refine zh7 hC p N H hB.1 hB.2.1 x _ (x.length:Int) false hx (by omega) (by omega) hcnt (by simp[hw]) (by simp[h0]) (by simp[h1]) (by simp<;>rfl) (by simp<;>rfl) (by simp<;>rfl) (by simp<;>rfl) (by simp<;>rfl) ?exit;case exit=>
  intro t2 hw h0 h1 h5 h6;rw[e5]at h5;rw[e6]at h6;refine zav ?_;apply sN;apply sQ;apply rS hC
  ·iterate 2 refine gO (by simp[hF,-zah,h0,h1,h5,h6,-zah,hmk]<;>rfl) ?_
   rfl
  refine cT (by simp[hF,-zah]<;>rfl) ?_;apply rS hC
  ·iterate 2 refine gO (by simp[hF,-zah,h0,h1,h5,h6,-zah,hmk]<;>rfl) ?_
   rfl
  apply Tri.ret;apply sR;refine⟨.s (za1 x),⟨_,rfl,jDb _,fun _ _=>rfl⟩,?_⟩;simp[f186,h1,hrep]
theorem zle {call:zad}(hC:call.Sound prog TT)(w16:IntKind.i64.wrap 16=16)(p N:Nat)(H:zaa)(hB:BsR H p N)(x:Bs)(hx:x.length<1100000)(hl256:zah TT 37 H (.ptr p 256)=some (.sl N 1 0 2 (some 2)))(hcnt:∀(c:UInt8)(K:zaa),call 188 [.s x,.s [c]] K=.val (.i .i64 (Lib.countByte x c)) K)(h16:¬(16:Int)≤x.length)(W:Nat)(hWW:(W:Int)=W)(e5:(x.length:Int)-(x.count 95:Nat)=W)(e6:(false||x.any isX)=true)(hmk:zbf TT 64 (.i .i64 W) (.i .i64 W) H=.val (.sl H.length 1 0 W (some W)) (H++[some (zeo [] W)]))(hW:W=0+(za1 x).length)(hzn:H.length≠p∧H.length≠N∧H.length≠N+4∧H.length≠N+7)(hB2:BsR (H++[some (zeo [] W)]) p N)(hcv0:∀K:zaa,K[H.length]? = some (some (zeo (za1 x) 0))→zaT TT 64 9 (.sl H.length 1 0 W (some W)) K=.val (.s (za1 x)) K)   : zaA prog TT 186 [.ptr p 0,.s x] H (fun r=>∃B,r=.val (.s (za1 x)) B∧H.length≤B.length∧∀j,j<H.length→B[j]? = H[j]?):=by
 refine⟨f186,_,rfl,rfl,by simp[f186],?_⟩;have h0:(Tm.init f186.ntmps [.ptr p 0,.s x]).get 0=.ptr p 0:=by rw[zag];rfl
 have h1:(Tm.init f186.ntmps [.ptr p 0,.s x]).get 1=.s x:=by rw[zag];rfl
 have hw:(Tm.init f186.ntmps [.ptr p 0,.s x]).wid=122:=rfl;generalize Tm.init f186.ntmps [.ptr p 0,.s x]=t at *;try simp only[Nd.enc_eq]at *
 have hF:=ai @h0 (ai @h1 (ai @hl256 (ai @h16 @w16)));apply rS hC
 ·refine gO (by simp[hF,-zah]<;>rfl) ?_;rfl
 apply rS hC
 ·iterate 3 refine gO (by simp[hF,-zah]<;>rfl) ?_
  rfl
 apply rS hC
 ·refine gO (by simp[hF,-zah]<;>rfl) ?_;rfl
 apply sQ;apply rS hC
 ·iterate 9 refine gO (by simp[hF,-zah]<;>rfl) ?_
  rfl
 refine cF (by simp[hF,-zah]<;>rfl) ?_;apply rS hC
 ·refine gO (by simp[hF,-zah]<;>rfl) ?_;rfl
 apply bK;refine Tri.loop ?_;refine zh8 hC p N H hB.1 x [] _ (x.length:Int) false (by simpa using hx) (by omega) (by omega) (by simp[hw]) (by simp[h0]) (by simp[h1]) (by simp<;>rfl) (by simp<;>rfl) (by simp<;>rfl) ?exit;case exit=>
  intro t2 hw h0 h1 h5 h6;rw[e5]at h5;rw[e6]at h6;refine zav ?_;apply sN;apply sQ;apply rS hC
  ·iterate 2 refine gO (by simp[hF,-zah,h0,h1,h5,h6,-zah,hmk]<;>rfl) ?_
   rfl
  refine cF (by simp[hF,-zah]<;>rfl) ?_;apply Tri.skip;apply sN;apply rS hC
  ·iterate 3 refine gO (by simp[hF,-zah,h0,h1,h5,h6,-zah,hmk]<;>rfl) ?_
   rfl
  apply rS hC
  ·refine gO (by simp[hF,-zah,h0,h1,h5,h6,-zah,hmk]<;>rfl) ?_;rfl
  apply sQ;apply rS hC
  ·refine gO (by simp[hF,-zah,h0,h1,h5,h6,-zah,hmk]<;>rfl) ?_;rfl
  apply bK;refine Tri.loop ?_;refine zh9 hC p N H.length hzn x [] _ _ W 0 rfl (by simpa using hx) hW hB2 (by rw[jPb (jDb _),Nat.sub_self,hW,jKb];rfl) (by simp[hw]) (by simp[h0]) (by simp[h1]) (by simp<;>rfl) (by simp<;>rfl) (by simp<;>rfl) ?exit2;case exit2=>
   intro t3 H3 hw h12 hz3 hl3 hk3;rw[jFa]at hz3;have hcv:=hcv0 H3 hz3;refine zav ?_;apply sN;apply rS hC
   ·iterate 3 refine gO (by simp[hF,-zah,h12,hcv,-zaT]<;>rfl) ?_
    rfl
   apply Tri.ret;refine⟨.s (za1 x),⟨H3,rfl,by rw[hl3];simp,fun j hj=>by rw[hk3 j (by omega),jQa hj]⟩,?_⟩;simp[f186]
theorem zlc {call:zad}(hC:call.Sound prog TT)(w16:IntKind.i64.wrap 16=16)(p N:Nat)(H:zaa)(hB:BsR H p N)(x:Bs)(hx:x.length<1100000)(hl256:zah TT 37 H (.ptr p 256)=some (.sl N 1 0 2 (some 2)))(hcnt:∀(c:UInt8)(K:zaa),call 188 [.s x,.s [c]] K=.val (.i .i64 (Lib.countByte x c)) K)(h16:(16:Int)≤x.length)(W:Nat)(hWW:(W:Int)=W)(e5:(x.length:Int)-(Lib.countByte x 95:Nat)=W)(e6:(false||decide (Lib.countByte x 69≠0)||decide (Lib.countByte x 95≠0))=true)(hmk:zbf TT 64 (.i .i64 W) (.i .i64 W) H=.val (.sl H.length 1 0 W (some W)) (H++[some (zeo [] W)]))(hW:W=0+(za1 x).length)(hzn:H.length≠p∧H.length≠N∧H.length≠N+4∧H.length≠N+7)(hB2:BsR (H++[some (zeo [] W)]) p N)(hcv0:∀K:zaa,K[H.length]? = some (some (zeo (za1 x) 0))→zaT TT 64 9 (.sl H.length 1 0 W (some W)) K=.val (.s (za1 x)) K)   : zaA prog TT 186 [.ptr p 0,.s x] H (fun r=>∃B,r=.val (.s (za1 x)) B∧H.length≤B.length∧∀j,j<H.length→B[j]? = H[j]?):=by
 refine⟨f186,_,rfl,rfl,by simp[f186],?_⟩;have h0:(Tm.init f186.ntmps [.ptr p 0,.s x]).get 0=.ptr p 0:=by rw[zag];rfl
 have h1:(Tm.init f186.ntmps [.ptr p 0,.s x]).get 1=.s x:=by rw[zag];rfl
 have hw:(Tm.init f186.ntmps [.ptr p 0,.s x]).wid=122:=rfl;generalize Tm.init f186.ntmps [.ptr p 0,.s x]=t at *;try simp only[Nd.enc_eq]at *
 have hF:=ai @h0 (ai @h1 (ai @hl256 (ai @h16 @w16)));apply rS hC
 ·refine gO (by simp[hF,-zah]<;>rfl) ?_;rfl
 apply rS hC
 ·iterate 3 refine gO (by simp[hF,-zah]<;>rfl) ?_
  rfl
 apply rS hC
 ·refine gO (by simp[hF,-zah]<;>rfl) ?_;rfl
 apply sQ;apply rS hC
 ·iterate 9 refine gO (by simp[hF,-zah]<;>rfl) ?_
  rfl
 refine cT (by simp[hF,-zah]<;>rfl) ?_;apply rS hC
 ·iterate 6 refine gO (by simp[hF,-zah]<;>rfl) ?_
  rfl
 apply bK;refine Tri.loop ?_;refine zh7 hC p N H hB.1 hB.2.1 x _ (x.length:Int) false hx (by omega) (by omega) hcnt (by simp[hw]) (by simp[h0]) (by simp[h1]) (by simp<;>rfl) (by simp<;>rfl) (by simp<;>rfl) (by simp<;>rfl) (by simp<;>rfl) ?exit;case exit=>
  intro t2 hw h0 h1 h5 h6;rw[e5]at h5;rw[e6]at h6;refine zav ?_;apply sN;apply sQ;apply rS hC
  ·iterate 2 refine gO (by simp[hF,-zah,h0,h1,h5,h6,-zah,hmk]<;>rfl) ?_
   rfl
  refine cF (by simp[hF,-zah]<;>rfl) ?_;apply Tri.skip;apply sN;apply rS hC
  ·iterate 3 refine gO (by simp[hF,-zah,h0,h1,h5,h6,-zah,hmk]<;>rfl) ?_
   rfl
  apply rS hC
  ·refine gO (by simp[hF,-zah,h0,h1,h5,h6,-zah,hmk]<;>rfl) ?_;rfl
  apply sQ;apply rS hC
  ·refine gO (by simp[hF,-zah,h0,h1,h5,h6,-zah,hmk]<;>rfl) ?_;rfl
  apply bK;refine Tri.loop ?_;refine zh9 hC p N H.length hzn x [] _ _ W 0 rfl (by simpa using hx) hW hB2 (by rw[jPb (jDb _),Nat.sub_self,hW,jKb];rfl) (by simp[hw]) (by simp[h0]) (by simp[h1]) (by simp<;>rfl) (by simp<;>rfl) (by simp<;>rfl) ?exit2;case exit2=>
   intro t3 H3 hw h12 hz3 hl3 hk3;rw[jFa]at hz3;have hcv:=hcv0 H3 hz3;refine zav ?_;apply sN;apply rS hC
   ·iterate 3 refine gO (by simp[hF,-zah,h12,hcv,-zaT]<;>rfl) ?_
    rfl
   apply Tri.ret;refine⟨.s (za1 x),⟨H3,rfl,by rw[hl3];simp,fun j hj=>by rw[hk3 j (by omega),jQa hj]⟩,?_⟩;simp[f186]
theorem zil:∀x:Bs,(za1 x).length+x.count 95=x.length
 | []=>rfl
 |c::x=>by
  have ih:=zil x;by_cases h:c=95
  ·subst h;have e:za1 (95::x)=za1 x:=by simp[za1]
   rw[e,count_cons_self,jIa];omega
  ·have e:(za1 (c::x)).length=(za1 x).length+1:=by simp[za1,h]
   rw[e,count_cons_of_ne (fun e=>h e),jIa];omega
theorem zoM:∀x:Bs,(decide (Lib.countByte x 69≠0)||decide (Lib.countByte x 95≠0))=x.any isX
 | []=>rfl
 |c::x=>by
  have ih:=zoM x;unfold Lib.countByte at ih ⊢;rw[any_cons,←ih];by_cases h:c=95
  ·subst h;simp[isX]
  ·by_cases h':c=69
   ·subst h';simp[isX]
   ·rw[count_cons_of_ne (fun e=>h e),count_cons_of_ne (fun e=>h' e)];simp[isX,h,h']
theorem zqx:∀x:Bs,x.any isX=false→za1 x=x
 | [],_=>rfl
 |c::x,h=>by
  rw[any_cons,Bool.or_eq_false_iff]at h;have ih:=zqx x h.2;have h1:c≠95∧c≠69:=by simpa[isX]using h.1
  have e:za1 (c::x)=c::za1 x:=by simp[za1,h1.1,h1.2]
  rw[e,ih]
theorem zj3:∀l:Bs,zct (byV l)=some l
 | []=>rfl
 |c::l=>by
  have ih:=zj3 l;show zct (V.i .u8 c.toNat::byV l)=_;simp only[zct,ih];simp
theorem zm0 (v:V):∀n,zgo n [v]=List.replicate n v
 |0=>rfl
 |n+1=>by rw[zgo,zm0 v n];rfl
theorem zxj (H:zaa)(W:Nat)(hW:W<2000000):zbf TT 64 (.i .i64 W) (.i .i64 W) H=.val (.sl H.length 1 0 W (some W)) (H++[some (zeo [] W)]):=by
 have e1:TT.und 64=some (.slice 5):=rfl;have e2:TT.size 5=some 1:=rfl;have e3:TT.zero 5=some (.i .u8 0):=rfl;have e4:TT.bytes 5=some 1:=rfl;have hcl:(V.i .u8 0).cells=[V.i .u8 0]:=rfl;simp only[zbf,e1,e2,e3,e4,hcl,zaX];rw[if_pos ⟨rfl,by omega,by omega,by omega,by omega,by omega⟩,jCa,zm0];rfl
theorem zwU (l:Bs)(z W:Nat)(hW:W=l.length)(K:zaa)(h:K[z]? = some (some (zeo l 0))):zaT TT 64 9 (.sl z 1 0 W (some W)) K=.val (.s l) K:=by
 have e1:TT.und 64=some (.slice 5):=rfl;have e2:TT.und 9=some .string:=rfl;have e3:TT.und 5=some (.int .u8):=rfl;have hc:zap K z=some (zeo l 0):=by simp[zap,h,zeo]
 have hl:(byV l).length=l.length:=by simp[byV]
 have hcut:cut (zeo l 0).cells 0 W=some (byV l):=by
  unfold cut zeo;simp only[replicate_zero,jWb];rw[if_pos (by omega),jFc,jTb (by omega)]
 simp only[zaT,e1,e2,e3,hc,hcut,zj3,if_true]
theorem zyp:∃g,zak prog TT 186 g∧∀(p N:Nat)(H:zaa)(x:Bs),BsR H p N→x.length<1100000→∃H',g [.ptr p 0,.s x] H=.val (.s (za1 x)) H'∧H.length≤H'.length∧∀j,j<H.length→H'[j]? = H[j]?:=by
 have hC:=ws n0 zA0;have hcnt:∀(x:Bs)(c:UInt8)(K:zaa),(zad.none.with 188 zjF) 188 [.s x,.s [c]] K=.val (.i .i64 (Lib.countByte x c)) K:=fun x c K=>by rw[zan];rfl
 generalize zad.none.with 188 zjF=call at hC hcnt;obtain⟨g,k,s⟩:=zbX.spec (P:=prog) (F:=186) zaf (D:=fun vs H=>∃(p N:Nat)(x:Bs),vs=[.ptr p 0,.s x]∧BsR H p N∧x.length<1100000)
  (R:=fun vs H r=>∃(p:Nat)(x:Bs),vs=[.ptr p 0,.s x]∧∃B,r=.val (.s (za1 x)) B∧H.length≤B.length∧∀j,j<H.length→B[j]? = H[j]?) (by
  rintro vs H ⟨p,N,x,rfl,hB,hx⟩;refine(zaA.fact zaf (R:=fun r=>∃B,r=.val (.s (za1 x)) B∧H.length≤B.length∧∀j,j<H.length→B[j]? = H[j]?) ?_).mono fun r hr=>⟨p,x,rfl,hr⟩;have hc1:zap H p=some (bsB N):=by
   unfold zap;rw[hB.1];rfl
  have hl256:zah TT 37 H (.ptr p 256)=some (.sl N 1 0 2 (some 2)):=by
   have h2:(bsB N).cells[256]? = some (.sl N 1 0 2 (some 2)):=by
    unfold bsB;simp only;rw[jPb (by simp)];simp
   simp only[zah,hc1];have e1:zbV (TT.und 37)=some false:=rfl;simp only[zbq,e1,zcf,h2]
  have w16:IntKind.i64.wrap 16=16:=rfl;have hrc:=zil x;have hlp:p<H.length:=zaa.lt hB.1;have hlN:N<H.length:=zaa.lt hB.2.1;have hl4:N+4<H.length:=zaa.lt hB.2.2.1;have hl7:N+7<H.length:=zaa.lt hB.2.2.2;have hWl:(za1 x).length<2000000:=by omega
  have hmk:=zxj H (za1 x).length hWl;have hzn:H.length≠p∧H.length≠N∧H.length≠N+4∧H.length≠N+7:=⟨by omega,by omega,by omega,by omega⟩;have hB2:BsR (H++[some (zeo [] (za1 x).length)]) p N:=⟨by rw[jQa hlp];exact hB.1,by rw[jQa hlN];exact hB.2.1,by rw[jQa hl4];exact hB.2.2.1,by rw[jQa hl7];exact hB.2.2.2⟩;have hcv0:∀K:zaa,K[H.length]? = some (some (zeo (za1 x) 0))→zaT TT 64 9 (.sl H.length 1 0 (za1 x).length (some (za1 x).length)) K=.val (.s (za1 x)) K:=fun K h=>zwU (za1 x) H.length _ rfl K h;have e5:(x.length:Int)-(x.count 95:Nat)=((za1 x).length:Nat):=by omega
  have e5':(x.length:Int)-(Lib.countByte x 95:Nat)=((za1 x).length:Nat):=e5;have hany:=zoM x;cases ha:x.any isX with
  |false=>
   have hrep:=zqx x ha;have e6:(false||x.any isX)=false:=by rw[ha];rfl
   have e6':(false||decide (Lib.countByte x 69≠0)||decide (Lib.countByte x 95≠0))=false:=by rw[jVd,hany,ha]
   by_cases h16:(16:Int)≤x.length
   ·exact zlb hC w16 p N H hB x hx hl256 (hcnt x) h16 _ rfl e5' e6' hmk hrep
   ·exact zld hC w16 p N H hB x hx hl256 (hcnt x) h16 _ rfl e5 e6 hmk hrep
  |true=>
   have e6:(false||x.any isX)=true:=by rw[ha];rfl
   have e6':(false||decide (Lib.countByte x 69≠0)||decide (Lib.countByte x 95≠0))=true:=by rw[jVd,hany,ha]
   by_cases h16:(16:Int)≤x.length
   ·exact zlc hC w16 p N H hB x hx hl256 (hcnt x) h16 _ rfl e5' e6' hmk (by omega) hzn hB2 hcv0
   ·exact zle hC w16 p N H hB x hx hl256 (hcnt x) h16 _ rfl e5 e6 hmk (by omega) hzn hB2 hcv0)
 refine⟨g,k,fun p N H x h1 h2=>?_⟩;obtain⟨r,⟨p',x',he,B,rfl,h3,h4⟩,hr⟩:=s _ H ⟨p,N,x,rfl,h1,h2⟩;simp only[jPa,V.ptr.injEq,V.s.injEq,jGb]at he;obtain⟨rfl,rfl⟩:=he;exact⟨B,hr,h3,h4⟩
theorem zyf:∃g,zak prog TT 79 g∧∀(m q:Nat)(H:zaa)(x:Bs),x.length<1100000→m≠q→H[m]? = some (some onB)→H[q]? = some (some (rpB 0 0 .nili (.sl m 1 0 4 none)))→∃B,g [.ptr q 0,.s x] H=.val (.s (za1 x)) B∧H.length≤B.length∧∀j,j<H.length→j≠q→B[j]? = H[j]?:=by
 obtain⟨g1,k1,s1⟩:=zyk;obtain⟨g2,k2,s2⟩:=zyp;have hC:=ws (ws n0 k1) k2;have c1:∀(m q:Nat)(H:zaa),m≠q→H[m]? = some (some onB)→H[q]? = some (some (rpB 0 0 .nili (.sl m 1 0 4 none)))→∃B,((zad.none.with 98 g1).with 186 g2) 98 [.ptr q 0,.bfn 99 [.ptr q 0]] H=.val .un B∧DoR H q B:=fun m q H h1 h2 h3=>by
  rw[zac _ _ _ _ rfl,zan];exact s1 m q H h1 h2 h3
 have c2:BsH ((zad.none.with 98 g1).with 186 g2):=fun p N H x h1 h2=>by
  rw[zan];exact s2 p N H x h1 h2
 generalize(zad.none.with 98 g1).with 186 g2=call at hC c1 c2;obtain⟨g,k,s⟩:=zbX.spec (P:=prog) (F:=79) zaf (D:=fun vs H=>∃(m q:Nat)(x:Bs),vs=[.ptr q 0,.s x]∧x.length<1100000∧m≠q∧H[m]? = some (some onB)∧H[q]? = some (some (rpB 0 0 .nili (.sl m 1 0 4 none))))
  (R:=fun vs H r=>∃(q:Nat)(x:Bs),vs=[.ptr q 0,.s x]∧∃B,r=.val (.s (za1 x)) B∧H.length≤B.length∧∀j,j<H.length→j≠q→B[j]? = H[j]?) (by
  rintro vs H ⟨m,q,x,rfl,hx,hne,hm,hq⟩;exact(zaA.fact zaf (zo8 hC m q H x hx hne hm hq (c1 m q H hne hm hq) c2)).mono fun r hr=>⟨q,x,rfl,hr⟩)
 refine⟨g,k,fun m q H x h1 h2 h3 h4=>?_⟩;obtain⟨r,⟨q',x',he,B,rfl,h5,h6⟩,hr⟩:=s _ H ⟨m,q,x,rfl,h1,h2,h3,h4⟩;simp only[jPa,V.ptr.injEq,V.s.injEq,jGb]at he;obtain⟨rfl,rfl⟩:=he;exact⟨B,hr,h5,h6⟩
theorem zuS (s:Bs)(at_:Int)(hs:s.length<1100000):zwq s at_:=by
 intro m t hd hm hw t2 t3 t6;obtain⟨g1,k1,s1⟩:=zye;obtain⟨g2,k2,s2⟩:=zyf;have hC:=ws (ws n0 k1) k2;have hb0:∃b0,(zhM s at_)[0]? = some (some b0)∧zah TT 9 (zhM s at_) (.ptr 0 0)=some (.s s):=⟨_,rfl,by rfl⟩;have h1:=s1 3 (zhM s at_++[some wdB]) (by rfl);obtain⟨B,c1,b1,b2,b3,b4⟩:=h1;have h2:=s2 4 5 B (s.take m) (by rw[jSb];omega) (by omega) b3 b4;obtain⟨B2,c2,d1,d2⟩:=h2;have c1':((zad.none.with 78 g1).with 79 g2) 78 [.sl 3 1 0 4 (some 4)] [some ⟨9,[.s s],.all⟩,some ⟨3,[.i .i64 at_],.all⟩,none,some wdB]=.val (.ptr 5 0) B:=by
  rw[zac _ _ _ _ rfl,zan];exact c1
 have c2':((zad.none.with 78 g1).with 79 g2) 79 [.ptr 5 0,.s (s.take m)] B=.val (.s (za1 (s.take m))) B2:=by
  rw[zan];exact c2
 generalize(zad.none.with 78 g1).with 79 g2=call at hC c1' c2';have x1:TT.ext 78=none:=rfl;have x2:TT.ext 79=none:=rfl;have hbs:zaE TT 37 4 [(0,.s [95]),(1,.s []),(2,.s [69]),(3,.s [101])] (zhM s at_)=.val (.sl 3 1 0 4 (some 4)) (zhM s at_++[some wdB]):=by rfl
 have A1:∀K:zaa,K[0]? = some (some ⟨9,[.s s],.all⟩)→zah TT 9 K (.ptr 0 0)=some (.s s):=fun K h=>by simp[zah,zap,h,zbq,zbV,zcf]
 have hB0:B[0]? = some (some ⟨9,[.s s],.all⟩):=by rw[b2 0 (by show 0<4;omega)];rfl
 have hB20:B2[0]? = some (some ⟨9,[.s s],.all⟩):=by rw[d2 0 (by rw[b1];show 0<4+2;omega) (by decide)];exact hB0
 have hle:(m:Int)≤s.length:=by omega
 show Tri prog TT (.region _ _ _) t (zhM s at_) _;refine Tri.regN (t':=?t1) (H':=?H1) zaf hC ?e1 ?q1;case e1=>
  refine zbG (t':=?t1) (H':=?H1) (ks:=[.e,.e,.a,.q,.q,.e,.q,.q,.q,.q]) (fun K=>K[0]? = some (some ⟨9,[.s s],.all⟩)) (by kernel_rfl) ?A1 ?_ ?r1;case A1=>rfl
  refine DR.eff rfl rfl (by simp[hbs,zcc]<;>rfl) (by rfl) (by simp[hw]) (by rfl) ?_;refine DR.eff rfl rfl (by simp[c1',x1]<;>rfl) (by rfl) (by simp[hw]) hB0 ?_;refine DR.any rfl (by simp[t2,A1 B hB0,-zah]<;>rfl) (by rfl) (by simp[hw]) (by intro K hK;simp[t2,A1 K hK,-zah]<;>rfl) ?_;refine DR.blind rfl rfl (by simp[t6]<;>rfl) (by rfl) (by simp[hw]) ?_;refine DR.blind rfl rfl (by simp[hm]<;>rfl) (by rfl) (by simp[hw]) ?_;refine DR.eff rfl rfl (by simp[c2',x2]<;>rfl) (by rfl) (by simp[hw]) hB20 ?_;refine DR.blind rfl rfl (by simp[t6]<;>rfl) (by rfl) (by simp[hw]) ?_;iterate 3 refine DR.blind rfl rfl (by simp<;>rfl) (by rfl) (by simp[hw]) ?_
  exact DR.nil;case r1=>exact rfl
 show Tri prog TT .ret _ _ _;apply Tri.ret;show zaF TT f51 _ (.ret _ _);refine⟨.tup [.i .i64 4,.s (za1 (s.take m)),.i .i64 m],?_,?_⟩
 ·rw [hd];first
   |exact⟨B2,rfl⟩
   |rfl
 ·simp[f51]
theorem znb:∃g,zak prog TT 11 g∧∀(s:Bs)(H:zaa),g [.s s] H=.val (zom (zdf s)) H:=by
 obtain⟨g,k,h⟩:=zkU (fun _=>True) fun s at_ _ hs=>zuS s at_ hs;exact⟨g,k,fun s H=>h s (fun _=>zkM s _ 0 true) H⟩
#print axioms znb
/-! The program's numbers are those of the reference. -/
theorem zhx (c:Int){base:Int}(hb:base≤16):zbT c<base↔0≤zby c base:=by
 unfold zbT zby zln;repeat' split
 all_goals omega
theorem zzc {c base:Int}(hb:base≤16)(h:zbT c<base):zby c base=zbT c:=by
 have h2:=(zhx c hb).1 h;unfold zbT zby zln at *;repeat' split
 all_goals (repeat' split at h)
 all_goals omega
def dgb (base:Int)(c:UInt8):Bool:=decide (zbT c.toNat<base)
theorem zzb:zbT ((95:UInt8).toNat:Int)=99:=by decide
theorem zjv {base:Int} (hb:0≤base∧base≤16):∀(L:Bs) (n:Nat) (out:Bs) (pd:Bool),(0<n↔out≠[])→(pd=false→n=0∨∃d r,L=d::r∧zbT d.toNat<base) →
    (∀m,zb6 base L n=some m→zaY base L out pd=(m-n,out++(L.take (m-n)).filter (dgb base))∧(∀c∈L.take (m-n),zbT c.toNat<base∨c=95)∧n≤m∧(0<m↔out++(L.take (m-n)).filter (dgb base)≠[])) ∧
    (zb6 base L n=none→(zaY base L out pd).2≠[]∧L[(zaY base L out pd).1]? = some 95)
  | [],n,out,pd,h1,h2=>by
    refine⟨fun m hm=>?_,fun h=>by simp[zb6]at h⟩
    simp only[zb6,jNa]at hm
    subst hm
    simp[zaY,h1]
  | b :: L, n, out,pd,h1,h2=>by
    by_cases hv:zbT b.toNat<base
    · have hd:=(zhx _ hb.2).1 hv
      have ih:=zjv hb L (n+1) (out++[b]) true (by simp) (by simp)
      simp only[zb6,zaY,if_pos hv,if_pos hd]
      have hdb:dgb base b=true:=by simp[dgb,hv]
      refine⟨fun m hm=>?_,fun h=>?_⟩
      · obtain⟨e,a1,a2,a3⟩:=ih.1 m hm
        have e1:m-n=(m-(n+1))+1:=by omega
        rw[e,e1,jUc,jDc,if_pos hdb]
        refine⟨by simp,fun c hc=>?_,by omega,by simp;omega⟩
        rcases jOb.1 hc with rfl|hc
        · exact .inl hv
        · exact a1 c hc
      · obtain⟨a1,a2⟩:=ih.2 h
        exact⟨a1,by rw[jAa];exact a2⟩
    · have hd : ¬0≤zby b.toNat base:=fun h=>hv ((zhx _ hb.2).2 h)
      by_cases hu:b.toNat≠95∨n=0
      · have hno:¬(b=95∧out≠[]∧0≤zby (hdR L) base∧pd=true):=by
          rintro⟨rfl,ho,_⟩
          rcases hu with hu|hu
          · exact hu rfl
          · have:=h1.2 ho;omega
        simp only[zb6,zaY,if_neg hv,if_neg hd,if_pos hu,if_neg hno]
        refine⟨fun m hm=>?_,fun h=>by cases h⟩
        have hm:=jWa hm
        subst hm
        simp[h1]
      · have hb95:b=95:=jUd (show b.toNat=95 by omega)
        have hn:n≠0:=by omega
        have hpd:pd=true:=by
          cases pd with
          |true=>rfl
          | false=>
            rcases h2 rfl with h|⟨d,r,e,hd⟩
            · exact absurd h hn
            · exact absurd hd (by rw[←(List.cons.inj e).1];exact hv)
        subst hb95
        have ho:out≠[]:=h1.1 (by omega)
        cases L with
        | nil=>
          have hno:¬((95:UInt8)=95∧out≠[]∧0≤zby (hdR []) base∧pd=true):=by
            rintro⟨_,_,h,_⟩
            have:hdR []=0:=rfl
            rw[this]at h
            unfold zby at h
            rw[show zln 0= -1 from by decide,if_neg (by omega)]at h
            omega
          have e0:zb6 base [95] n=none:=by rw[zb6,if_neg hv,if_neg hu]
          have e1:zaY base [95] out pd=(0,out):=by rw[zaY,if_neg hd,if_neg hno]
          rw[e0,e1]
          exact⟨fun m hm=>(by cases hm),fun _=>⟨ho,rfl⟩⟩
        | cons d r=>
          by_cases hv2:zbT d.toNat<base
          · have hy:((95:UInt8)=95∧out≠[]∧0≤zby (hdR (d::r)) base∧pd=true):=⟨rfl,ho,(zhx _ hb.2).1 hv2,hpd⟩
            have ih:=zjv hb (d::r) (n+1) out false (by simp[ho]) (fun _=>.inr ⟨d,r,rfl,hv2⟩)
            have e0:zb6 base (95::d::r) n=zb6 base (d::r) (n+1):=by
              rw[zb6,if_neg hv,if_neg hu]
              simp only[if_pos hv2]
            have e1:zaY base (95::d::r) out pd=((zaY base (d::r) out false).1+1,(zaY base (d::r) out false).2):=by
              rw[zaY,if_neg hd,if_pos hy]
            rw[e0,e1]
            have hdb:¬dgb base 95=true:=by unfold dgb;rw[jTa];exact hv
            refine⟨fun m hm=>?_,fun h=>?_⟩
            · obtain⟨e,a1,a2,a3⟩:=ih.1 m hm
              have e1:m-n=(m-(n+1))+1:=by omega
              rw[e,e1,jUc,jDc,if_neg hdb]
              refine⟨rfl,fun c hc=>?_,by omega,a3⟩
              rcases jOb.1 hc with rfl|hc
              · exact .inr rfl
              · exact a1 c hc
            · obtain⟨a1,a2⟩:=ih.2 h
              exact⟨a1,by rw[jAa];exact a2⟩
          · have hno:¬((95:UInt8)=95∧out≠[]∧0≤zby (hdR (d::r)) base∧pd=true):=fun h=>hv2 ((zhx _ hb.2).2 h.2.2.1)
            have e0:zb6 base (95::d::r) n=none:=by
              rw[zb6,if_neg hv,if_neg hu]
              simp only[if_neg hv2]
            have e1:zaY base (95::d::r) out pd=(0,out):=by
              rw[zaY,if_neg hd,if_neg hno]
            rw[e0,e1]
            exact⟨fun m hm=>(by cases hm),fun _=>⟨ho,rfl⟩⟩
theorem zzp {base:Int}(hb:0≤base∧base≤16){L:Bs}{m:Nat}(h:zb6 base L 0=some m):zaY base L [] false=(m,(L.take m).filter (dgb base))∧(∀c∈L.take m,zbT c.toNat<base∨c=95)∧(0<m↔(L.take m).filter (dgb base)≠[]):=by
 obtain⟨a,b,c,d⟩:=(zjv hb L 0 [] false (by simp) (by simp)).1 m h;exact⟨a,b,d⟩
theorem zs6 {base:Int}(hb:0≤base∧base≤16){L:Bs}(h:zb6 base L 0=none):(zaY base L [] false).2≠[]∧L[(zaY base L [] false).1]? = some 95:=(zjv hb L 0 [] false (by simp) (by simp)).2 h
theorem zmf {base:Nat}(hb:base≤16)(hb0:0<base):∀(X:Bs)(a:Nat),a<340282366920938463463374607431768211456→zdI base X a=if zgk base (X.filter (dgb base)) a<340282366920938463463374607431768211456 then some (zgk base (X.filter (dgb base)) a)else none
 | [],a,h=>by simp only[zdI,filter_nil,zgk,if_pos h]
 |c::X,a,h=>by
  by_cases hv:zbT c.toNat<base
  ·have hdb:dgb base c=true:=by simp[dgb,hv]
   have e:(zby (c.toNat:Int) (base:Int)).toNat=(zbT (c.toNat:Int)).toNat:=by rw[zzc (by omega) hv]
   simp only[zdI,if_pos hv,jDc,if_pos hdb,zgk,e];by_cases hs:a*base+(zbT (c.toNat:Int)).toNat<340282366920938463463374607431768211456
   ·rw[if_pos hs,zmf hb hb0 X _ hs]
   ·have:=zlK base hb0 (X.filter (dgb base)) (a*base+(zbT (c.toNat:Int)).toNat);rw[if_neg hs,if_neg (by omega)]
  ·have hdb:¬dgb base c=true:=by unfold dgb;rw[jTa];exact hv
   simp only[zdI,if_neg hv,jDc,if_neg hdb];exact zmf hb hb0 X a h
theorem zk0:∀(l:Bs)(c:UInt8),zaW (l++[c])=zaW l*10+(c.toNat-48)
 | [],c=>by simp[zaW]
 |b::l,c=>by
  have ih:=zk0 l c;simp only[jEa,zaW,jLa,jIa,jVa,jKb,Nat.pow_succ];rw[ih,←Nat.mul_assoc,jId];omega
theorem zAK (n:Nat):zfs (UInt8.ofNat (48+n%10))∧(UInt8.ofNat (48+n%10)).toNat=48+n%10:=by
 have h:∀k:Fin 10,zfs (UInt8.ofNat (48+k.val))∧(UInt8.ofNat (48+k.val)).toNat=48+k.val:=by unfold zfs;decide
 exact h ⟨n%10,Nat.mod_lt _ (by omega)⟩
theorem ztH:∀(k n:Nat),n<k→(∀b∈dgL n,zfs b)∧zaW (dgL n).reverse=n∧(n≠0→dgL n≠[]∧(dgL n).reverse.head?≠some 48)
 |0,n,h=>absurd h (jLd _)
 |k+1,n,h=>by
  by_cases h0:n=0
  ·subst h0;rw[zeY];exact⟨by simp,rfl,fun h=>absurd rfl h⟩
  ·obtain⟨a,b,c⟩:=ztH k (n/10) (by omega);obtain⟨d1,d2⟩:=zAK n;rw[ziS n h0,reverse_cons,zk0,b,d2];refine⟨fun x hx=>?_,by omega,fun _=>⟨by simp,?_⟩⟩
   ·rcases jOb.1 hx with rfl|hx
    ·exact d1
    ·exact a x hx
   ·by_cases h1:n/10=0
    ·rw[h1,zeY];simp only[reverse_nil,jFa,List.head?_cons,ne_eq,jNa];intro e;rw[e]at d2;have:(48:UInt8).toNat=48:=rfl;omega
    ·obtain ⟨c1,c2⟩:=c h1;obtain⟨x,y,e⟩:∃x y,(dgL (n/10)).reverse=x::y:=by
      cases hr:(dgL (n/10)).reverse with
      |nil=>exact absurd (reverse_eq_nil_iff.1 hr) c1
      |cons x y=>exact⟨x,y,rfl⟩
     rw[e]at c2 ⊢;exact c2
theorem zhW (n:Nat):zbR (zlj n)∧zaW (zlj n)=n:=by
 obtain⟨a,b,c⟩:=ztH (n+1) n (by omega);unfold zlj zuC;by_cases h0:n=0
 ·subst h0;rw[zeY,if_pos rfl];exact⟨⟨by unfold zfs;decide,by decide,by decide⟩,rfl⟩
 ·obtain⟨c1,c2⟩:=c h0;rw[if_neg c1];refine⟨⟨fun x hx=>a x (mem_reverse.1 hx),?_,fun _=>c2⟩,b⟩;rw[length_reverse];exact jEc.2 c1
theorem zdB (s:Bs)(i j:Nat):atR s (i+j)=atR (s.drop i) j:=by unfold atR;rw[jOc]
theorem ziU (s:Bs)(i j:Nat):s.drop (i+j)=(s.drop i).drop j:=by rw[jDd]
theorem zuq (s:Bs)(i j:Nat)(t:Bs)(h:i≤s.length):zdM s (i+j) t=zdM (s.drop i) j t:=by
 unfold zdM;rw[jJa,take_drop,jDd];have e1:decide (i+j+t.length≤s.length)=decide (j+t.length≤s.length-i):=by
  rw[decide_eq_decide];omega
 rw[e1,jQc]
theorem zcv (s:Bs)(i:Nat)(t:Bs)(h:i≤s.length):zdM s i t=zbv (s.drop i) t:=by
 rw[zqr,←zuq s i 0 t h,jNd]
theorem zjY (s:Bs)(n:Nat):atS s (n:Nat)=atR s n:=rfl
theorem zoP (j:Nat):atR [] j=0:=by simp[atR]
theorem zmn (c:UInt8)(r:Bs):atR (c::r) 0=c.toNat:=by simp[atR]
theorem zrM (c:UInt8)(r:Bs)(j:Nat):atR (c::r) (j+1)=atR r j:=by simp[atR]
theorem ziJ {s:Bs}{i:Nat}(h:s.length≤i):atR s i=0:=by simp[atR,jGc h]
theorem zlp {L:Bs}{n:Nat}(h:n≤L.length):zmy L n = !(zcR (atR L n)):=by
 unfold zmy;rw[zjY];by_cases e:n=L.length
 ·rw[ziJ (by omega)];simp[e];decide
 ·simp[e]
def nmV (o:Option (Int×Bs×Nat))(i:Nat):V:=match o with
 |some r=>okV r.1 r.2.1 (i+r.2.2)
 |none=>zlq
theorem zdT {s d text:Bs}{base e:Nat}{k:Int}{v:V}(h:zcj s d base e text k v)(hb:d=[]∨zcR (atR s e)=true):v=zlq:=by
 rcases h with⟨_,h⟩|⟨h0,_⟩
 ·exact h
 ·rcases hb with hb|hb
  ·rw[hb]at h0;simp at h0
  ·rw[hb]at h0;simp at h0
theorem zpA {s d text:Bs}{base e:Nat}{v:V}(h:zcj s d base e text 4 v)(hd:d≠[])(hw:zcR (atR s e)=false):v=okV 4 text e:=by
 rcases h with⟨h0,_⟩|⟨_,h⟩
 ·rw[hw]at h0;simp[hd]at h0
 ·rcases h with⟨_,h⟩|⟨h,_⟩
  ·exact h
  ·cases h
theorem zpB {s d text X:Bs}{base e:Nat}{v:V}(h:zcj s d base e text 3 v)(hd:d≠[])(hw:zcR (atR s e)=false)(hb:base≤16)(hb0:0<base)(hX:d=X.filter (dgb base)) :
 v=match zdI base X 0 with|some a=>okV 3 (zlj a) e|none=>zlq:=by
 rw[zmf hb hb0 X 0 (by decide),←hX];have hmx:=zmP;rcases h with⟨h0,_⟩|⟨_,h⟩
 ·rw[hw]at h0;simp[hd]at h0
 ·rcases h with⟨h,_⟩|⟨_,⟨o,ho,h1,h2,h3⟩|⟨h1,h2⟩⟩
  ·cases h
  ·rw[hmx]at h2;rw[if_pos (by omega)];have:=zrS ho (zhW (zgk base d 0)).1 (by rw[(zhW _).2];exact h1);simp only;rw[h3,this]
  ·rw[hmx]at h1;rw[if_neg (by omega)];exact h2
theorem zfe (a b:Bs):za1 (a++b)=za1 a++za1 b:=by simp[za1]
theorem zff:∀W:Bs,(∀c∈W,zbT c.toNat<10∨c=95)→za1 W=W.filter (dgb 10)
 | [],_=>rfl
 |c::W,h=>by
  have ih:=zff W fun x hx=>h x (by simp[hx]);unfold za1 at ih ⊢;rcases h c (by simp)with hc|rfl
  ·have h1:c≠95:=by rintro rfl;rw[zzb]at hc;omega
   have h2:c≠69:=by
    rintro rfl;have:zbT ((69:UInt8).toNat:Int)=14:=by decide
    rw[this]at hc;omega
   have h3:dgb 10 c=true:=by simp[dgb,hc]
   rw[jDc,if_pos (by simp[h1]),jJb,if_neg h2,ih,jDc,if_pos h3]
  ·have h3:¬dgb 10 95=true:=by unfold dgb;rw[jTa,zzb];omega
   rw[jDc,if_neg (by simp),ih,jDc,if_neg h3]
theorem zty {s:Bs}{e:Nat}(h:s[e]? = some 95):zcR (atR s e)=true:=by
 have:atR s e=95:=by simp[atR,h]
 rw[this];decide
theorem zr9 (L:Bs) (m:Nat) (text:Bs) (k:Int):match zgg (L.drop m)with
    |none=>zi3 L m text k=none∨∃e' t' k',zi3 L m text k=some (e',t',k')∧zcR (atR L e')=true
    |some 0=>zi3 L m text k=some (m,text,k)
    |some (q+1)=>zi3 L m text k=some (m+(q+1),text++za1 ((L.drop m).take (q+1)),4):=by
  have hat:∀j,atR L (m+j)=atR (L.drop m) j:=zdB L m
  have h0:atR L m=atR (L.drop m) 0:=by rw[←hat,jNd]
  have hdr:∀j,L.drop (m+j)=(L.drop m).drop j:=ziU L m
  have hget:∀j,L[m+j]? = (L.drop m)[j]?:=fun j=>by rw[jOc]
  unfold zi3
  rw[h0]
  cases hx:L.drop m with
  |nil=>simp[zgg,zoP]
  | cons c r =>
    rw[hx]at hat hdr hget
    rw[zmn]
    by_cases hc:c=101∨c=69
    · have hc2 : ((((c.toNat:Nat):Int)==101)||(((c.toNat:Nat):Int)==69))=true:=by rcases hc with rfl|rfl<;>decide
      rw[if_pos hc2]
      simp only[zgg,if_pos hc]
      obtain ⟨sg,hsg,htk,hrp⟩:∃sg,zcs L (m+1)=(m+zfp r,sg)∧(∀q,(c::r).take (zfp r+q)=c::(sg++((c::r).drop (zfp r)).take q))∧za1 sg=sg:=by
        unfold zcs
        rw[hat 1,zrM]
        cases r with
        | nil=>
          refine⟨[],by simp[zoP,zfp],fun q=>?_,rfl⟩
          simp[zfp,Nat.add_comm 1 q]
        | cons d r'=>
          rw[zmn]
          by_cases hd:d=43∨d=45
          · have hd2:((((d.toNat:Nat):Int)==43)||(((d.toNat:Nat):Int)==45))=true:=by rcases hd with rfl|rfl<;>decide
            rw[if_pos hd2]
            refine⟨[d],?_,fun q=>?_,by rcases hd with rfl|rfl<;>decide⟩
            · simp only[zfp,if_pos hd]
              rw[jSc,show m+1+1-(m+1)=1 from by omega,hdr 1]
              rfl
            · simp only[zfp,if_pos hd]
              rw[Nat.add_comm 2 q]
              rfl
          · have hd2:¬((((d.toNat:Nat):Int)==43)||(((d.toNat:Nat):Int)==45))=true:=by
              intro e
              simp only[jNc,jOa]at e
              apply hd
              rcases e with e|e
              · exact .inl (jUd (by have:(43:UInt8).toNat=43:=rfl;omega))
              · exact .inr (jUd (by have:(45:UInt8).toNat=45:=rfl;omega))
            rw[if_neg hd2]
            refine⟨[],?_,fun q=>?_,rfl⟩
            · simp only[zfp,if_neg hd]
            · simp only[zfp,if_neg hd]
              rw[Nat.add_comm 1 q]
              rfl
      rw[hsg]
      simp only[hdr (zfp r)]
      cases hrun:zb6 10 ((c::r).drop (zfp r)) 0 with
      | none=>
        obtain⟨a1,a2⟩:=zs6 (by decide) hrun
        simp only
        rw[if_neg a1]
        refine .inr ⟨_,_,_,rfl,zty ?_⟩
        rw[jQc,hget,←jOc]
        exact a2
      | some q=>
        obtain⟨a1,a2,a3⟩:=zzp (by decide) hrun
        cases q with
        | zero=>
          simp only
          rw[a1]
          simp
        | succ q=>
          simp only
          have hne:=a3.1 (Nat.succ_pos q)
          rw[a1,if_neg hne]
          have:zfp r+(q+1)=(zfp r+q)+1:=by omega
          show some (m+zfp r+(q+1),text++101::(sg++List.filter (dgb 10) (List.take (q+1) (List.drop (zfp r) (c::r)))),(4:Int))=some (m+(zfp r+(q+1)),text++za1 ((c::r).take (zfp r+(q+1))),4)
          rw[htk,show c::(sg++((c::r).drop (zfp r)).take (q+1))=[c]++(sg++((c::r).drop (zfp r)).take (q+1))from rfl,zfe,zfe,hrp,zff _ a2]
          have:za1 [c]=[101]:=by rcases hc with rfl|rfl<;>decide
          rw[this,jQc]
          rfl
    · have hc2:¬((((c.toNat:Nat):Int)==101)||(((c.toNat:Nat):Int)==69))=true:=by
        intro e
        simp only[jNc,jOa]at e
        apply hc
        rcases e with e|e
        · exact .inl (jUd (by have:(101:UInt8).toNat=101:=rfl;omega))
        · exact .inr (jUd (by have:(69:UInt8).toNat=69:=rfl;omega))
      rw[if_neg hc2]
      simp only[zgg,if_neg hc]
theorem zuO (s:Bs)(i m:Nat)(t:Bs)(k:Int):zi3 s (i+m) t k=(zi3 (s.drop i) m t k).map fun p=>(i+p.1,p.2):=by
 have hsg:zcs s (i+m+1)=(i+(zcs (s.drop i) (m+1)).1,(zcs (s.drop i) (m+1)).2):=by
  unfold zcs;rw[jQc,zdB];split
  ·rw[take_drop,jDd];rfl
  ·rfl
 unfold zi3;rw[zdB,hsg];simp only[←ziU];split
 ·split
  ·rfl
  ·simp[jQc]
 ·rfl
theorem zsd (s:Bs)(i e:Nat)(d:Bs):zet s (i+e) d=(i+(zet (s.drop i) e d).1,(zet (s.drop i) e d).2):=by
 unfold zet;rw[jQc,zdB,zdB,ziU];split
 ·simp[jQc]
 ·rfl
theorem zs1 (s:Bs)(i e:Nat)(d:Bs):zhp s (i+e) d=(zhp (s.drop i) e d).map fun p=>(i+p.1,p.2):=by
 unfold zhp;rw[zsd];exact zuO s i _ _ _
theorem zmU {s L:Bs}{i base:Nat}{v:V}(hb:base=2∨base=16)(hat:∀j,atR s (i+j)=atR L j)(hlen:2≤L.length)
 (h:zcj s (zaY base (L.drop 2) [] false).2 base (i+2+(zaY base (L.drop 2) [] false).1) (zaY base (L.drop 2) [] false).2 3 v):v=nmV (zk6 L base) i:=by
 have hb16:0≤(base:Int)∧(base:Int)≤16:=by omega
 unfold zk6;cases hr:zb6 base (L.drop 2) 0 with
 |none=>
  obtain⟨a1,a2⟩:=zs6 hb16 hr;refine zdT h (.inr ?_);rw[jQc,hat];refine zty ?_;rw[←jOc];exact a2
 |some n=>
  obtain⟨a1,a2,a3⟩:=zzp hb16 hr;rw[a1]at h;simp only at h ⊢;by_cases hn:0<n
  ·rw[if_pos hn];have hd:=a3.1 hn;have hle:=zcg _ _ _ _ hr;rw[jJa]at hle;have hq:zmy L (2+n) = !(zcR (atR s (i+2+n))):=by rw[zlp (by omega),jQc,hat]
   cases hw:zcR (atR s (i+2+n))with
   |true=>
    rw[zdT h (.inr hw),hq,hw];cases zdI base ((L.take (2+n)).drop 2) 0<;>rfl
   |false=>
    rw[zpB h hd hw (by omega) (by omega) (X:=(L.take (2+n)).drop 2) (by rw[jSc,jJc]),hq,hw];cases zdI base ((L.take (2+n)).drop 2) 0 with
    |none=>rfl
    |some a=>
     simp only[Bool.not_false,if_true,nmV];rw[jQc]
  ·rw[if_neg hn];exact zdT h (.inl (Classical.not_not.1 fun hne=>hn (a3.2 hne)))
theorem zkX {s L d text:Bs}{i m:Nat}{k:Int}{r:Bool}{v:V}(hat:∀j,atR s (i+j)=atR L j)(hm:m≤L.length)(hd:d≠[])(ht:text=za1 (L.take m))(hk:k=if r=true then 4 else 3)(hX:r=false→d=(L.take m).filter (dgb 10))
 (h:((zi3 L m text k).map (fun p=>(i+p.1,p.2))=none∧v=zlq)∨∃e' t' k',(zi3 L m text k).map (fun p=>(i+p.1,p.2))=some (e',t',k')∧zcj s d 10 e' t' k' v):v=nmV (zj9 L (zdg L m r)) i:=by
 have hs:=zr9 L m text k;unfold zdg;cases he:zgg (L.drop m)with
 |none=>
  rw[he]at hs;simp only[zj9,nmV];rcases h with⟨_,h⟩|⟨e',t',k',h1,h2⟩
  ·exact h
  ·rcases hs with hs|⟨e2,t2,k2,hs,hw⟩
   ·rw[hs]at h1;cases h1
   ·rw[hs]at h1;simp only[jXa,jNa,jZa]at h1;obtain⟨rfl,rfl,rfl⟩:=h1;exact zdT h2 (.inr (by rw[hat];exact hw))
 |some q=>
  rw[he]at hs;have hle:=zi2 _ _ he;rw[jJa]at hle;cases q with
  |zero=>
   simp only at hs ⊢;rw[hs]at h;have hN:zcj s d 10 (i+m) text k v:=by
    rcases h with⟨h,_⟩|⟨e',t',k',h1,h2⟩
    ·cases h
    ·simp only[jXa,jNa,jZa]at h1;obtain⟨rfl,rfl,rfl⟩:=h1;exact h2
   rw[if_neg (Nat.lt_irrefl 0),zlp hm,←hat];cases hw:zcR (atR s (i+m))with
   |true=>rw[zdT hN (.inr hw)];rfl
   |false=>
    cases r with
    |true=>
     simp only[if_true]at hk;subst hk;rw[zpA hN hd hw,ht];rfl
    |false=>
     simp only[jSa,if_false]at hk;subst hk;rw[zpB hN hd hw (by omega) (by omega) (X:=L.take m) (hX rfl)];simp only[Bool.not_false,if_true,zj9];cases zdI 10 (L.take m) 0<;>rfl
  |succ q=>
   simp only at hs ⊢;rw[hs]at h;have hN:zcj s d 10 (i+(m+(q+1))) (text++za1 ((L.drop m).take (q+1))) 4 v:=by
    rcases h with⟨h,_⟩|⟨e',t',k',h1,h2⟩
    ·cases h
    ·simp only[jXa,jNa,jZa]at h1;obtain⟨rfl,rfl,rfl⟩:=h1;exact h2
   rw[if_pos (Nat.succ_pos q),zlp (by omega),←hat];cases hw:zcR (atR s (i+(m+(q+1))))with
   |true=>rw[zdT hN (.inr hw)];rfl
   |false=>
    rw[zpA hN hd hw,ht,←zfe,←take_add];rfl
theorem zgH (c:Int):0≤zby c 10↔48≤c∧c≤57:=by
 unfold zby zln;repeat' split
 all_goals omega
theorem zmB (L:Bs)(n:Nat):(((atR L n==46)&&decide (0≤zby (atR L (n+1)) 10))=true)↔(n+1<L.length∧atS L n=46∧(decide (48≤atS L (n+1:Nat))&&decide (atS L (n+1:Nat)≤57))=true):=by
 rw[zjY,zjY];simp only[jMa,jOa,jTa,zgH];constructor
 ·rintro⟨h1,h2,h3⟩;exact⟨zfK (by omega),h1,h2,h3⟩
 ·rintro⟨_,h1,h2,h3⟩;exact⟨h1,h2,h3⟩
theorem zsN {s:Bs}{i:Nat}{v:V}(hi:i≤s.length)(hdg:0≤zby (atR s i) 10)(h:zk9 s i v):v=nmV (zdv (s.drop i)) i:=by
 have hat:∀j,atR s (i+j)=atR (s.drop i) j:=zdB s i;have hdn:=zuD hdg;unfold zk9 at h;rw[zcv s i _ hi,zcv s i _ hi,ziU,zs1]at h;rw[zhd];generalize s.drop i=L at *;by_cases hx:zbv L [48,120]=true
 ·rw[if_pos hx]at h ⊢;exact zmU (.inr rfl) hat (zbw hx) h
 ·rw[if_neg hx]at h ⊢;by_cases hb:zbv L [48,98]=true
  ·rw[if_pos hb]at h ⊢;exact zmU (.inl rfl) hat (zbw hb) h
  ·rw [if_neg hb]at h ⊢;have hbad:∀(e:Nat) (t:Bs) (k:Int),L[e]? = some 95→zi3 L e t k=some (e,t,k):=fun e t k he=>by
    unfold zi3;rw[show atR L e=95 from by simp[atR,he],if_neg (by decide)]
   unfold zfO zhp at *;cases hr:zb6 10 L 0 with
   |none=>
    obtain⟨a1,a2⟩:=zs6 (by decide) hr;have hf:zet L (zaY 10 L [] false).1 (zaY 10 L [] false).2=((zaY 10 L [] false).1,(zaY 10 L [] false).2,3):=by
     unfold zet;rw[show atR L (zaY 10 L [] false).1=95 from by simp[atR,a2],if_neg (by simp)]
    rw[hf]at h;simp only[hbad _ _ _ a2]at h;simp only[zj9,nmV];rcases h with⟨_,h⟩|⟨e',t',k',h1,h2⟩
    ·exact h
    ·simp only[jXa,jNa,jZa]at h1;obtain⟨rfl,rfl,rfl⟩:=h1;exact zdT h2 (.inr (by rw[hat];exact zty a2))
   |some n=>
    obtain⟨a1,a2,a3⟩:=zzp (by decide) hr;have hle:=zcg _ _ _ _ hr;rw[a1]at h hdn;simp only at h hdn ⊢;by_cases hfr:((atR L n==46)&&decide (0≤zby (atR L (n+1)) 10))=true
    ·have hf:zet L n ((L.take n).filter (dgb 10))=(n+1+(zaY 10 (L.drop (n+1)) [] false).1,(L.take n).filter (dgb 10)++46::(zaY 10 (L.drop (n+1)) [] false).2,4):=by
      unfold zet;rw[if_pos hfr]
     rw[if_pos ((zmB L n).1 hfr)];rw[hf]at h;cases hr2:zb6 10 (L.drop (n+1)) 0 with
     |none=>
      obtain⟨b1,b2⟩:=zs6 (by decide) hr2;rw[jOc]at b2;simp only[hbad _ _ _ b2]at h;simp only[zj9,nmV];rcases h with⟨_,h⟩|⟨e',t',k',h1,h2⟩
      ·exact h
      ·simp only[jXa,jNa,jZa]at h1;obtain⟨rfl,rfl,rfl⟩:=h1;exact zdT h2 (.inr (by rw[hat];exact zty b2))
     |some k=>
      obtain⟨b1,b2,b3⟩:=zzp (by decide) hr2;have hle2:=zcg _ _ _ _ hr2;have hlt:=((zmB L n).1 hfr).1;rw[jJa]at hle2;rw[b1]at h;simp only at h ⊢;rw[show n+(1+k)=n+1+k from by omega];refine zkX hat (by omega) hdn ?_ rfl (fun e=>by cases e) h;have h46:L.drop n=46::L.drop (n+1):=by
       rw[jAb (by omega)];have h1:=((zmB L n).1 hfr).2.1;rw[zjY]at h1;unfold atR at h1;rw[jKa (by omega)]at h1;simp only at h1;rw[show L[n]=46 from jUd (by have:(46:UInt8).toNat=46:=rfl;omega)]
      rw[show n+1+k=n+(1+k)from by omega,take_add,zfe,zff _ a2,h46,show 1+k=k+1 from by omega,jUc,show(46:UInt8)::(L.drop (n+1)).take k=[46]++(L.drop (n+1)).take k from rfl,zfe,zff _ b2];rfl
    ·have hf:zet L n ((L.take n).filter (dgb 10))=(n,(L.take n).filter (dgb 10),3):=by
      unfold zet;rw[if_neg hfr]
     rw[if_neg (fun e=>hfr ((zmB L n).2 e))];rw[hf]at h;exact zkX hat (by omega) hdn (by rw[zff _ a2]) rfl (fun _=>rfl) h
/-! Escapes, strings and characters of the program are those of the reference. -/
theorem zuK (c:Int):zkc c true znP znO=plT c:=by
 unfold plT znP znO;simp[zkc]
theorem zuJ (c:Int):zkc c false znP znO=none:=by
 unfold znP znO;simp[zkc]
theorem zvc (c:Int):zd0 c=loT c:=by
 unfold zd0 loT;simp only[jOa]
theorem zmH (s:Bs)(i:Nat):∀(n k v:Nat),zkq s i n k v=(zoC (s.drop (i+1)) n (k+1) v).map fun c:Nat=>(c:Int)
 |0,k,v=>rfl
 |n+1,k,v=>by
  have e:atR s (i+2+k)=atS (s.drop (i+1)) ((k+1:Nat):Int):=by rw[zjY,←zdB,show i+1+(k+1)=i+2+k from by omega]
  simp only[zkq,zoC,e];by_cases hv:zbT (atS (s.drop (i+1)) ((k+1:Nat):Int))<16
  ·have h0:=(zhx _ (Int.le_refl 16)).1 hv;have h1:=zzc (Int.le_refl 16) hv;rw[if_pos hv,if_neg (by omega),←zmH s i n (k+1)];rw[h1]at h0 ⊢;rw[show((v:Nat):Int)*16+zbT (atS (s.drop (i+1)) ((k+1:Nat):Int))=((16*v+(zbT (atS (s.drop (i+1)) ((k+1:Nat):Int))).toNat:Nat):Int)from by omega]
  ·have h0:¬0≤zby (atS (s.drop (i+1)) ((k+1:Nat):Int)) 16:=fun h=>hv ((zhx _ (Int.le_refl 16)).2 h);rw[if_neg hv,if_pos (by omega)];rfl
theorem zA2:zbT 0=99:=by decide
theorem zmG (x:Bs):∀(n j c:Nat),x.length<n+j→0<n→zoC x n j c=none
 |0,j,c,h,h0=>absurd h0 (Nat.lt_irrefl 0)
 |n+1,j,c,h,h0=>by
  simp only[zoC];split
  ·rename_i hv;by_cases hn:0<n
   ·exact zmG x n (j+1) _ (by omega) hn
   ·exfalso;have:atS x (j:Nat)=0:=by rw[zjY,ziJ (by omega)]
    rw[this,zA2]at hv;omega
  ·rfl
theorem zog (v:Int):zdG [v]=(Utf8.encode v).data.toList:=by simp[zdG]
theorem zr0 (i m c:Nat)(hm:m=2∨m=4∨m=6):zlr i m c=(zrx m c).map fun p=>(p.1,i+1+p.2):=by
 unfold zlr zrx vrR;rw[zog];by_cases h:(c≤1114111∧((decide ((0:Int)≤c)&&decide ((c:Int)<55296))||(decide ((57343:Int)<c)&&decide ((c:Int)≤1114111)))=true∧(2<m∨c<128))
 ·rw[if_pos h,if_neg]
  ·rw[jXa,show i+2+m=i+1+(1+m)from by omega]
  ·simp only[jNc,jMa,jTa,jOa]at h ⊢;omega
 ·rw[if_neg h,if_pos]
  ·rfl
  ·simp only[jNc,jMa,jTa,jOa]at h ⊢;omega
theorem zqf (c:Int):loT c=0∨loT c=2∨loT c=4∨loT c=6:=by
 unfold loT;repeat' split
 all_goals simp
theorem zr1 {s:Bs}{i:Nat}(hi:i<s.length):zoA s i=(ziX (s.drop (i+1))).map fun p=>(p.1,i+1+p.2):=by
 have h0:atR s (i+1)=atS (s.drop (i+1)) 0:=by
  have:=zdB s (i+1) 0;rw[jNd]at this;rw[this];rfl
 unfold zoA ziX;rw[h0,zvc];by_cases hx:s.drop (i+1)=[]
 ·have hlen:=congrArg List.length hx;rw[jJa,jVa]at hlen;rw[if_pos hx,show decide ((i:Int)+1<s.length)=false from by rw[jKc];omega,zuJ];have:loT (atS (s.drop (i+1)) 0)=0:=by rw[hx];decide
  rw[this];rfl
 ·have hlen:i+1<s.length:=by
   rcases Nat.lt_or_ge (i+1) s.length with h|h
   ·exact h
   ·exact absurd (jAc h) hx
  rw[if_neg hx,show decide ((i:Int)+1<s.length)=true from by rw[jTa];omega,zuK];cases hp:plT (atS (s.drop (i+1)) 0)with
  |some t=>simp
  |none=>
   simp only;have hh:=zmH s i (loT (atS (s.drop (i+1)) 0)) 0 0;simp only[jKb]at hh;rw[show zkq s i (loT (atS (s.drop (i+1)) 0)) 0 0=zkq s i (loT (atS (s.drop (i+1)) 0)) 0 ((0:Nat):Int)from rfl,hh];rcases zqf (atS (s.drop (i+1)) 0)with h|hm
   ·rw[h,if_neg (by omega)];rfl
   ·by_cases hl:loT (atS (s.drop (i+1)) 0)<(s.drop (i+1)).length
    ·rw[if_pos ⟨by omega,hl⟩];cases zoC (s.drop (i+1)) (loT (atS (s.drop (i+1)) 0)) 1 0 with
     |none=>rfl
     |some c=>exact zr0 i _ c hm
    ·rw[if_neg (fun h=>hl h.2),zmG _ _ _ _ (by omega) (by omega)];rfl
theorem znj {s:Bs}{k:Nat}(h:k<s.length):(s.take (k+1)).drop k=[UInt8.ofNat (atR s k).toNat]:=by
 rw[jSc,show k+1-k=1 from by omega,jAb h,jUc,take_zero];unfold atR;rw[jKa h];simp only[jCa,UInt8.ofNat_toNat]
def zmd (o:Option (Bs×Nat)):Option (Bs×Nat):=match o with
 |some p=>if Lib.validD p.1=true then some p else none
 |none=>none
theorem zjp {s:Bs} {i0:Nat} (hi:i0≤s.length) (mk:Int):∀(n' n j:Nat) (out:Bs),(s.drop i0).length≤n+j→s.length<n'+(i0+j) →
    zmd (zoD s (zoA s) mk n' (i0+j) out)=(zhC (s.drop i0) mk n j out).map fun p=>(p.1,i0+p.2)
  | 0,n,j,out,h1,h2=>by
    have hl:(s.drop i0).length≤j:=by rw[jJa];omega
    cases n with
    |zero=>rfl
    |succ n=>simp only[zoD,zhC,zmd,if_pos hl];rfl
  | n'+1,0,j,out,h1,h2=>by
    have hl:s.length≤i0+j:=by rw[jJa]at h1;omega
    simp only[zoD,zhC,zmd,if_pos hl]
    rfl
  | n' + 1, n + 1,j,out,h1,h2=>by
    simp only[zoD,zhC]
    by_cases hl:s.length≤i0+j
    · rw[if_pos hl,if_pos (show(s.drop i0).length≤j by rw[jJa];omega)]
      rfl
    · rw [if_neg hl,if_neg (show ¬(s.drop i0).length≤j by rw[jJa];omega)]
      have ha:atR s (i0+j)=atS (s.drop i0) ((j:Nat):Int):=by rw[zjY,zdB]
      rw[ha]
      simp only[jOa]
      by_cases c1:atS (s.drop i0) ((j:Nat):Int)=10
      · rw[if_pos c1,if_pos c1];rfl
      · rw [if_neg c1,if_neg c1]
        by_cases c2:atS (s.drop i0) ((j:Nat):Int)=mk
        · rw[if_pos c2,if_pos c2]
          simp only[zmd]
          split
          · rw[jXa,jQc]
          · rfl
        · rw [if_neg c2,if_neg c2]
          by_cases c3:atS (s.drop i0) ((j:Nat):Int)=92
          · rw [if_pos c3,if_pos c3,zr1 (by omega),show s.drop (i0+j+1)=(s.drop i0).drop (j+1)from by rw[jDd,jQc]]
            cases ziX ((s.drop i0).drop (j+1))with
            |none=>rfl
            | some p=>
              have:=zjp hi mk n' n (j+1+p.2) (out++p.1) (by omega) (by omega)
              simp only[jXa]
              rw[show i0+j+1+p.2=i0+(j+1+p.2)from by omega]
              exact this
          · rw[if_neg c3,if_neg c3,znj (by omega),ha]
            exact zjp hi mk n' n (j+1) _ (by omega) (by omega)
theorem zkC {s:Bs}{i:Nat}(hi:i≤s.length)(mk:Int):zmd (zig s mk i)=(zbW (s.drop i) mk).map fun p=>(p.1,i+p.2):=zjp hi mk _ _ 1 [] (by omega) (by omega)
def tkR (o:Nat ⊕ (Int×Bs×Nat))(i:Nat):V:=match o with
 | .inr p=>zjm p.1 p.2.1 (i+p.2.2:Nat)
 | .inl e=>zif e
theorem ztn {s:Bs}{i:Nat}(hi:i≤s.length)(mk:Int):zot (zhO (zig s mk i))=tkR (match zbW (s.drop i) mk with|some p=>.inr (5,p.1,p.2)|none=>.inl 31) i:=by
 have h:=zkC hi mk;cases hq:zig s mk i with
 |none=>
  rw[hq]at h;cases hp:zbW (s.drop i) mk with
  |none=>rfl
  |some p=>rw[hp]at h;cases h
 |some q=>
  rw[hq]at h;simp only[zmd]at h;unfold zot zhO;simp only;cases hv:Lib.validD q.1 with
  |true=>
   rw[if_pos hv]at h;cases hp:zbW (s.drop i) mk with
   |none=>rw[hp]at h;cases h
   |some p=>
    rw[hp]at h;have h:=jWa h;subst h;rfl
  |false=>
   rw[if_neg (by rw[hv];decide)]at h;cases hp:zbW (s.drop i) mk with
   |none=>rfl
   |some p=>rw[hp]at h;cases h
def rlF (b:ByteArray):Nat→Nat→List Int
 |0,_=>[]
 |n+1,i=>if i<b.size then((Utf8.decode b i).1:Int)::rlF b n (i+(Utf8.decode b i).2)else[]
theorem zm4 (b:ByteArray):∀(n i:Nat)(acc:Array Value),(Conv.runesFrom b n i acc).toList=acc.toList++(rlF b n i).map (.int .i32)
 |0,i,acc=>by simp[Conv.runesFrom,rlF]
 |n+1,i,acc=>by
  unfold Conv.runesFrom rlF;split
  ·rw[zm4 b n];simp
  ·simp
theorem zm2 (b:ByteArray):∀n i,(rlF b n i).length=Lib.runeCountFrom b n i
 |0,_=>rfl
 |n+1,i=>by
  unfold rlF Lib.runeCountFrom;split
  ·rw[jIa,zm2 b n,Nat.add_comm]
  ·rfl
theorem zqC (l:Bs):zb8 l=(rlF ⟨l.toArray⟩ l.length 0).map (.i .i32):=by
 unfold zb8;rw[zm4];simp
theorem zrU {s:Bs} {i:Nat} (hi:i≤s.length):zoz (zhO (zig s 39 i))=tkR (match zjR (s.drop i)with|some p=>.inr (3,p.1,p.2)|none=>.inl 31) i:=by
  have key : ∀ (l:Bs) (e:Nat),(match zb8 l with
      | [.i .i32 r]=>zjm 3 (Lib.itoa (IntKind.i64.wrap r)) e
      |_=>zif 31)=if Lib.runeCount ⟨l.toArray⟩=1 then zjm 3 (Lib.itoa (IntKind.i64.wrap (Lib.decodeGo ⟨l.toArray⟩).1)) e else zif 31:=fun l e=>by
    rw[zqC]
    have hc:(rlF ⟨l.toArray⟩ l.length 0).length=Lib.runeCount ⟨l.toArray⟩:=zm2 _ _ _
    rw[←hc]
    cases hl:rlF ⟨l.toArray⟩ l.length 0 with
    |nil=>rfl
    | cons r t =>
      cases t with
      |cons r2 t=>rfl
      |nil=>
        rw[if_pos (show[r].length=1 from rfl)]
        have : r=((Lib.decodeGo ⟨l.toArray⟩).1:Int):=by
          cases l with
          |nil=>cases hl
          | cons c l=>
            simp only[jIa,rlF]at hl
            split at hl
            · rename_i hlt
              have h1:=(List.cons.inj hl).1
              rw[←h1]
              unfold Lib.decodeGo
              rw[if_neg (by omega)]
            · cases hl
        rw[←this]
        rfl
  have h:=zkC hi 39
  unfold zjR
  cases hq:zig s 39 i with
  | none=>
    rw[hq]at h
    cases hp:zbW (s.drop i) 39 with
    |none=>rfl
    |some p=>rw[hp]at h;cases h
  | some q=>
    rw[hq]at h
    simp only[zmd]at h
    unfold zoz zhO
    simp only
    cases hv:Lib.validD q.1 with
    | true=>
      rw[if_pos hv]at h
      cases hp:zbW (s.drop i) 39 with
      |none=>rw[hp]at h;cases h
      | some p=>
        rw[hp]at h
        have h:=jWa h
        subst h
        rw[if_pos rfl]
        refine(key p.1 (i+p.2)).trans ?_
        simp only
        by_cases h1:Lib.runeCount ⟨p.1.toArray⟩=1
        · rw[if_pos h1,if_pos h1];rfl
        · rw[if_neg h1,if_neg h1];rfl
    | false=>
      rw[if_neg (by rw[hv];decide)]at h
      cases hp:zbW (s.drop i) 39 with
      |none=>rfl
      |some p=>rw[hp]at h;cases h
theorem zkD (s:Bs):∀(n k:Nat),s.length<n+k→k≤s.length→(match zhP s n k with|some j=>(j:Int)-k|none=>-1)=Lib.index (s.drop k) [34,34,34]
 |0,k,h1,h2=>by omega
 |n+1,k,h1,h2=>by
  have hroom:=Lib.index_room (s.drop k) [34,34,34];have hge:=Lib.index_ge (s.drop k) [34,34,34];simp only[zhP];by_cases h3:k+3≤s.length
  ·rw [if_pos h3];have hd:s.drop k=s[k]::s.drop (k+1):=jAb (by omega);have hp:([34,34,34]:Bs).isPrefixOf (s.drop k)=((s.take (k+3)).drop k==[34,34,34]):=by
    rw[jSc,show k+3-k=3 from by omega,jYc,isPrefixOf_iff_prefix,prefix_iff_eq_take,jOa];exact eq_comm
   have ih:=zkD s n (k+1) (by omega) (by omega);rw[hd]at hp ⊢;unfold Lib.index;rw[hp];by_cases h4:((s.take (k+3)).drop k==[34,34,34])=true
   ·rw[if_pos h4,if_pos h4];simp
   ·rw[if_neg h4,if_neg h4,←ih];cases hr:zhP s n (k+1)with
    |none=>simp
    |some j=>
     have:=zjq s n _ _ hr;simp only[jOa];rw[if_neg (by omega)];omega
  ·rw[if_neg h3];simp only;rw[jJa]at hroom;simp only[jIa,jVa]at hroom;omega
theorem zsX {s:Bs}{i:Nat}(h:zbv (s.drop i) [34,34,34]=true):zot (zlU s i)=tkR (match zjO (s.drop i)with|some p=>.inr (5,p.1,p.2)|none=>.inl 31) i:=by
 have hlen:=zbw h;rw[jJa]at hlen;simp only[jIa,jVa]at hlen;have hx:=zkD s (s.length+1) (i+3) (by omega) (by omega);unfold zjO zlU;rw[if_pos h,jDd,←hx];cases hr:zhP s (s.length+1) (i+3)with
 |none=>
  rw[if_neg (fun h=>absurd (show(0:Int)≤-1 from h.1) (by decide))];rfl
 |some j=>
  have:=zjq s _ _ _ hr;simp only;have e:((j:Int)-((i+3:Nat):Int)).toNat=j-(i+3):=by omega
  have e2:zfN s (i+3) j=(s.drop (i+3)).take (j-(i+3)):=by unfold zfN;rw[jSc]
  rw[e,←e2];unfold zot;simp only;by_cases hv:Lib.validD (zfN s (i+3) j)=true
  ·rw[if_pos hv,if_pos ⟨by omega,hv⟩];simp only[tkR];rw[show j+3=i+(j-(i+3)+6)from by omega]
  ·rw[if_neg hv,if_neg (fun h=>hv h.2)];rfl
theorem zu7:zdX=kwL:=by kernel_rfl
theorem zvU:sgnL=syL:=by kernel_rfl
end Go.Ev
