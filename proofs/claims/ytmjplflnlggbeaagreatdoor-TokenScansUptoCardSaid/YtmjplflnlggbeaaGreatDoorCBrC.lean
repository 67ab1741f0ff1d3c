/- Runs of the lock. The slow way of Once. Once and NewReplacer, closed. Once and NewReplacer, at any heap. Replace, that of its table given. Counts of a byte. The counting loop of Replace. The loop of Replace over words. The copying loop of Replace. The body of Replace. Texts of floats. Replace of a table of bytes. Replace. The text of a float. Scan of every text. TokenScans: lists of tokens compared. What TokenScans says of a world, from what the evaluator returns. -/
import Derived.Test.YtmjplflnlggbeaaGreatDoorCZE
import Derived.Test.YtmjplflnlggbeaaGreatDoorCEvPart2
import Derived.Test.YtmjplflnlggbeaaGreatDoorCYL
import Derived.Test.YtmjplflnlggbeaaGreatDoorCBE
import Derived.ChangeShapes
import Derived.WideShapes
import Derived.RowKit3
import Derived.OpenShut
namespace Go.Ev
open Go Go.Proofs
set_option linter.unusedSimpArgs false
set_option linter.unusedVariables false
set_option linter.unnecessarySimpa false
open Tryz List
set_option maxRecDepth 1000000
def mk0:zjE:=fun vs H=>match vs with | []=>.val .un H|_=>.no
def mk1:zjE:=fun vs H=>match vs with | [.ptr n off]=>.val .un H|_=>.no
noncomputable def syG:Gam:=fun f vs H=>if f=122 then some (zl0 .u32 vs H)else if f=142 then some (zq0 .i32 vs H)else if f=147 then some (zqY .i32 vs H)else if f=135 then some (ziv .u32 vs H)else if f=141 then some (mk0 vs H)else if f=143 then some (mk0 vs H)else if f=144 then some (mk1 vs H)else if f=146 then some (mk1 vs H)else none
theorem zv8:zeS prog TT 122 (zl0 .u32):=zol (fn:=f122) .u32 Tryz.func122 (by kernel_rfl) (by kernel_rfl) (zcO (by kernel_rfl)) (by kernel_rfl)
theorem zv9:zeS prog TT 135 (ziv .u32):=zmY (fn:=f135) .u32 Tryz.func135 (by kernel_rfl) (by kernel_rfl) (zcO (by kernel_rfl)) (by kernel_rfl)
theorem zwb:zeS prog TT 142 (zq0 .i32):=zq1 (fn:=f142) .i32 Tryz.func142 (by kernel_rfl) (by kernel_rfl) (zcO (by kernel_rfl)) (by kernel_rfl)
theorem zwf:zeS prog TT 147 (zqY .i32):=zqZ (fn:=f147) .i32 Tryz.func147 (by kernel_rfl) (by kernel_rfl) (zcO (by kernel_rfl)) (by kernel_rfl)
theorem zwa:zeS prog TT 141 mk0:=zhH (fn:=f141) Tryz.func141 (by kernel_rfl) (by kernel_rfl) (zcO (by kernel_rfl)) .disable (by kernel_rfl)
theorem zwc:zeS prog TT 143 mk0:=zhH (fn:=f143) Tryz.func143 (by kernel_rfl) (by kernel_rfl) (zcO (by kernel_rfl)) .enable (by kernel_rfl)
theorem zwd:zeS prog TT 144 mk1:=zjJ (fn:=f144) Tryz.func144 (by kernel_rfl) (by kernel_rfl) (zcO (by kernel_rfl)) .acquire (by kernel_rfl)
theorem zwe:zeS prog TT 146 mk1:=zjJ (fn:=f146) Tryz.func146 (by kernel_rfl) (by kernel_rfl) (zcO (by kernel_rfl)) .releaseMerge (by kernel_rfl)
theorem zil:syG.SoundX prog TT:=by
 intro f vs H r h hne;simp only[syG]at h;repeat' (split at h)
 all_goals first
  |(cases h;done)
  |skip
 ·rename_i e;subst e;exact .inr (zv8 vs H r (Option.some.inj h) hne)
 ·rename_i e;subst e;exact .inr (zwb vs H r (Option.some.inj h) hne)
 ·rename_i e;subst e;exact .inr (zwf vs H r (Option.some.inj h) hne)
 ·rename_i e;subst e;exact .inr (zv9 vs H r (Option.some.inj h) hne)
 ·rename_i e;subst e;exact .inr (zwa vs H r (Option.some.inj h) hne)
 ·rename_i e;subst e;exact .inr (zwc vs H r (Option.some.inj h) hne)
 ·rename_i e;subst e;exact .inr (zwd vs H r (Option.some.inj h) hne)
 ·rename_i e;subst e;exact .inr (zwe vs H r (Option.some.inj h) hne)
def rpB (d s:Int)(r o:V):Blk:=⟨151,[.i .u32 d,.i .i32 s,.i .u32 0,r,o],.all⟩
def onB:Blk:=⟨9,[.s [95],.s [],.s [69],.s [101]],.more⟩
def rp0:zaa:=[some onB,some (rpB 0 0 .nili (.sl 0 1 0 4 none))]
def rp1:zaa:=[some onB,some (rpB 0 1 .nili (.sl 0 1 0 4 none))]
def bsC:List V:=(List.range 256).map (fun i=>if i=95 then .sl 9 1 0 0 none else if i=69 then .sl 6 1 0 1 none else .nils)++[.sl 2 1 0 2 (some 2)]
def rpT:zaa:=[some ⟨9,[.s [69],.s [95]],.all⟩,some ⟨193,bsC,.all⟩,some ⟨5,[.i .u8 69],.all⟩,some ⟨9,[.s [69]],.all⟩,some ⟨5,[.tup [],.i .u8 101],.map⟩,some ⟨5,[.i .u8 95],.all⟩,some ⟨9,[.s [95]],.all⟩,some ⟨5,[.tup []],.map⟩]
def rp2:zaa:=some onB::some (rpB 0 1 (.ifc 194 (.ptr 3 0)) .nils)::rpT
def rp3:zaa:=some onB::some (rpB 1 1 (.ifc 194 (.ptr 3 0)) .nils)::rpT
def rp4:zaa:=some onB::some (rpB 1 0 (.ifc 194 (.ptr 3 0)) .nils)::rpT
def zyH (r:OR)(v:V)(H:zaa):Bool:=match r with | .val u J=>V.beq u v&&zaa.beq J H|_=>false
theorem zeE {r:OR}{v:V}{H:zaa}(h:zyH r v H=true):r=.val v H:=by
 unfold zyH at h;split at h
 ·rw[Bool.and_eq_true]at h;rw[V.beq_eq _ _ h.1,zaa.beq_eq _ _ h.2]
 ·cases h
theorem zur:zcK TT syG 3000 123 [.ptr 1 1] rp0=.val .un rp1:=zeE (by kernel_rfl)
theorem zsf:zcK TT syG 3000 113 [.ptr 1 0] rp1=.val (.b false) rp1:=zeE (by kernel_rfl)
theorem zse:zcK TT syG 3000 99 [.ptr 1 0] rp1=.val .un rp2:=zeE (by kernel_rfl)
theorem zsg:zcK TT syG 3000 125 [.ptr 1 0,.b true] rp2=.val .un rp3:=zeE (by kernel_rfl)
theorem zpW:zcK TT syG 3000 124 [.ptr 1 1] rp3=.val .un rp4:=zeE (by kernel_rfl)
theorem zoK {call:zad}(hC:call.Sound prog TT)(c1:call 123 [.ptr 1 1] rp0=.val .un rp1)(c2:call 113 [.ptr 1 0] rp1=.val (.b false) rp1)(c3:call 99 [.ptr 1 0] rp1=.val .un rp2) :
 zkN prog TT 114 [.ptr 1 0,.bfn 99 [.ptr 1 0]] rp0 fun r=>r=.val .un rp4:=by
 refine⟨f114,_,rfl,rfl,by simp[f114],?_⟩;have h0:(Tm.init f114.ntmps [.ptr 1 0,.bfn 99 [.ptr 1 0]]).get 0=.ptr 1 0:=by rw[zag];rfl
 have h1:(Tm.init f114.ntmps [.ptr 1 0,.bfn 99 [.ptr 1 0]]).get 1=.bfn 99 [.ptr 1 0]:=by rw[zag];rfl
 have hw:(Tm.init f114.ntmps [.ptr 1 0,.bfn 99 [.ptr 1 0]]).wid=21:=rfl;generalize Tm.init f114.ntmps [.ptr 1 0,.bfn 99 [.ptr 1 0]]=t at *;have x1:TT.ext 123=none:=rfl;have x2:TT.ext 113=none:=rfl;have x3:TT.ext 99=none:=rfl;refine zdH.seq (zdH.lift ?_);refine Tri.regN (t':=?t1) (H':=?H1) zah hC ?e1 ?q1;case e1=>
  refine zax ?_;iterate 4 refine zab rfl (by simp[h0,c1,x1]<;>rfl) (by rfl) (by simp[hw]) ?_
  exact zaq
 refine zdH.seq ?_;refine zdH.reg (f:=124) (caps:=[]) (vs:=[.ptr 1 1]) (xv:=?xv) (yv:=?yv) (t1:=?t3) (t2:=?t4) (H1:=?H3) (H2:=?H4) zah hC 3 rfl rfl rfl ?e3 ?x3 ?xx ?y3 ?yy ?f3 ?e4 ?q3;case e3=>
  iterate 3 refine zab rfl (by simp[h0]<;>rfl) (by rfl) (by simp[hw]) ?_
  exact zaq
 case x3=>simp<;>rfl
 case xx=>rfl
 case y3=>simp<;>rfl
 case yy=>rfl
 case f3=>simp[hw]
 case e4=>exact zaq
 refine zdH.seq (zdH.lift ?_);refine Tri.regN (t':=?t5) (H':=?H5) zah hC ?e5 ?q5;case e5=>
  refine zax ?_;iterate 5 refine zab rfl (by simp[h0,c2,x2]<;>rfl) (by rfl) (by simp[hw]) ?_
  exact zaq
 refine zdH.condT (o:=?o6) ?g6 ?r6 ?_;case g6=>simp<;>rfl
 case r6=>rfl
 refine zdH.seq ?_;refine zdH.reg (f:=125) (caps:=[]) (vs:=[.ptr 1 0,.b true]) (xv:=?xv7) (yv:=?yv7) (t1:=?t7) (t2:=?t8) (H1:=?H7) (H2:=?H8) zah hC 3 rfl rfl rfl ?e7 ?x7 ?xx7 ?y7 ?yy7 ?f7 ?e8 ?q7;case e7=>
  iterate 3 refine zab rfl (by simp[h0]<;>rfl) (by rfl) (by simp[hw]) ?_
  exact zaq
 case x7=>simp<;>rfl
 case xx7=>rfl
 case y7=>simp<;>rfl
 case yy7=>rfl
 case f7=>simp[hw]
 case e8=>exact zaq
 refine zdH.lift ?_;refine Tri.regN (t':=?t9) (H':=?H9) zah hC ?e9 ?q9;case e9=>
  refine zax ?_;iterate 2 refine zab rfl (by simp[h1,c3,x3]<;>rfl) (by rfl) (by simp[hw]) ?_
  exact zaq
 have k1:zeR prog TT 125 [.ptr 1 0,.b true] none rp2 rp3:=zfO zah (by
  obtain⟨fn,c,q1,q2,q3,q4⟩:=zaO.of_run zah zil rfl zsg (by simp);exact⟨fn,c,q1,q2,q3,q4.mono fun o ho=>by cases o<;>simp only[za1]at ho ⊢ <;> (first|exact ho.elim|(obtain⟨v,e,f⟩:=ho;cases e;exact⟨_,⟨_,rfl⟩,f⟩)|exact⟨_,ho⟩)⟩)
 have k2:zeR prog TT 124 [.ptr 1 1] none rp3 rp4:=zfO zah (by
  obtain⟨fn,c,q1,q2,q3,q4⟩:=zaO.of_run zah zil rfl zpW (by simp);exact⟨fn,c,q1,q2,q3,q4.mono fun o ho=>by cases o<;>simp only[za1]at ho ⊢ <;> (first|exact ho.elim|(obtain⟨v,e,f⟩:=ho;cases e;exact⟨_,⟨_,rfl⟩,f⟩)|exact⟨_,ho⟩)⟩)
 refine⟨rp4,.un,⟨rp3,k1,rp4,k2,rfl⟩,?_,rfl⟩;rfl
theorem zv7:zap prog TT 114 (zss [.ptr 1 0,.bfn 99 [.ptr 1 0]] rp0 (.val .un rp4)):=by
 have k1:zap prog TT 123 (zss [.ptr 1 1] rp0 (.val .un rp1)):=zjr fun _=>zdX zah zil rfl zur (by simp);have k2:zap prog TT 113 (zss [.ptr 1 0] rp1 (.val (.b false) rp1)):=zjr fun _=>zdX zah zil rfl zsf (by simp);have k3:zap prog TT 99 (zss [.ptr 1 0] rp1 (.val .un rp2)):=zjr fun _=>zdX zah zil rfl zse (by simp);have hC:=ws (ws (ws n0 k1) k2) k3;refine zjr fun _=>?_;obtain⟨r,rfl,_,he,hc⟩:=(zkN.fact zah (zoK hC (by rw[zac _ _ _ _ rfl,zac _ _ _ _ rfl,zao];exact zlM _ _ _) (by rw[zac _ _ _ _ rfl,zao];exact zlM _ _ _) (by rw[zao];exact zlM _ _ _)));exact⟨he,hc⟩
noncomputable def zxR:Gam:=fun f vs H=>if f=114 then some (zss [.ptr 1 0,.bfn 99 [.ptr 1 0]] rp0 (.val .un rp4) vs H)else syG f vs H
theorem zqE:zxR.SoundX prog TT:=by
 intro f vs H r h hne;unfold zxR at h;split at h
 ·rename_i e;subst e;exact .inl (zv7 vs H r (Option.some.inj h) hne)
 ·exact zil f vs H r h hne
theorem zyn:zcK TT zxR 3000 98 [.ptr 1 0,.bfn 99 [.ptr 1 0]] rp0=.val .un rp4:=zeE (by kernel_rfl)
def nw0:zaa:=[some ⟨9,[.s [95],.s [],.s [69],.s [101]],.all⟩]
def nw1:zaa:=[some ⟨9,[.s [95],.s [],.s [69],.s [101]],.all⟩,some onB,some (rpB 0 0 .nili (.sl 1 1 0 4 none))]
theorem zwm:zcK TT zxR 3000 78 [.sl 0 1 0 4 (some 4)] nw0=.val (.ptr 2 0) nw1:=zeE (by kernel_rfl)
def wdB:Blk:=⟨9,[.s [95],.s [],.s [69],.s [101]],.all⟩
theorem zwT:∃g,zap prog TT 78 g∧∀(n:Nat)(H:zaa),H[n]? = some (some wdB)→∃B,g [.sl n 1 0 4 (some 4)] H=.val (.ptr (H.length+1) 0) B∧B.length=H.length+2∧(∀j,j<H.length→B[j]? = H[j]?)∧B[H.length]? = some (some onB)∧B[H.length+1]? = some (some (rpB 0 0 .nili (.sl H.length 1 0 4 none))):=by
 obtain⟨g,k,s⟩:=zcm.spec (P:=prog) (F:=78) zah (D:=fun vs H=>∃n,vs=[.sl n 1 0 4 (some 4)]∧H[n]? = some (some wdB))
  (R:=fun vs H r=>∃B,r=.val (.ptr (H.length+1) 0) B∧B.length=H.length+2∧(∀j,j<H.length→B[j]? = H[j]?)∧B[H.length]? = some (some onB)∧B[H.length+1]? = some (some (rpB 0 0 .nili (.sl H.length 1 0 4 none)))) (by
  rintro vs H ⟨n,rfl,hn⟩;have hlt:n<H.length:=(List.getElem?_eq_some_iff.1 hn).1;have hx:zcm prog TT 78 [.sl 0 1 0 4 (some 4)] nw0 fun r=>r=.val (.ptr 2 0) nw1:=⟨_,rfl,by simp,zdX zah zqE rfl zwm (by simp)⟩;have hg:∀k,k<nw0.length→(fun _:Nat=>n) k<H.length:=fun k _=>hlt;have hi:∀k j,k<nw0.length→j<nw0.length→(fun _:Nat=>n) k=(fun _:Nat=>n) j→k=j:=fun k j h1 h2 _=>by
   have l:nw0.length=1:=rfl;omega
  have hp:=zcm.part (H:=H) zat hg hi (fun k hk=>by
   have l:nw0.length=1:=rfl;have:k=0:=by omega
   subst this;exact⟨wdB,rfl,hn⟩) (by rfl) (by rfl) (by decide) (by rfl) (by rfl) hx
  have hB:=zi9 (H:=H) (H0:=nw0) (H1:=nw1) hg hi (by decide);refine hp.mono fun r hr=>⟨_,hr,hB.len,fun j hj=>?_,hB.new 1 (by decide) (by decide),hB.new 2 (by decide) (by decide)⟩;by_cases e:j=n
  ·subst e;exact(hB.old 0 (by decide)).trans hn.symm
  ·exact hB.rest j hj fun _ _=>e)
 refine⟨g,k,fun n H hn=>?_⟩;obtain⟨r,⟨B,rfl,hB⟩,hr⟩:=s _ H ⟨n,rfl,hn⟩;exact⟨B,hr,hB⟩
def bsB (N:Nat):Blk:=⟨193,(List.range 256).map (fun i=>if i=95 then V.sl (N+7) 1 0 0 none else if i=69 then .sl (N+4) 1 0 1 none else .nils)++[.sl N 1 0 2 (some 2)],.all⟩
def DoR (H:zaa)(q:Nat)(B:zaa):Prop:=B.length=H.length+8∧(∀j,j<H.length→j≠q→B[j]? = H[j]?)∧B[q]? = some (some (rpB 1 0 (.ifc 194 (.ptr (H.length+1) 0)) .nils))∧B[H.length]? = some (some ⟨9,[.s [69],.s [95]],.all⟩)∧B[H.length+1]? = some (some (bsB H.length))∧B[H.length+4]? = some (some ⟨5,[.tup [],.i .u8 101],.map⟩)∧B[H.length+7]? = some (some ⟨5,[.tup []],.map⟩)
theorem zwZ:∃g,zap prog TT 98 g∧∀(m q:Nat)(H:zaa),m≠q→H[m]? = some (some onB)→H[q]? = some (some (rpB 0 0 .nili (.sl m 1 0 4 none)))→∃B,g [.ptr q 0,.bfn 99 [.ptr q 0]] H=.val .un B∧DoR H q B:=by
 obtain⟨g,k,s⟩:=zcm.spec (P:=prog) (F:=98) zah (D:=fun vs H=>∃m q,vs=[.ptr q 0,.bfn 99 [.ptr q 0]]∧m≠q∧H[m]? = some (some onB)∧H[q]? = some (some (rpB 0 0 .nili (.sl m 1 0 4 none))))
  (R:=fun vs H r=>∃q B,vs=[.ptr q 0,.bfn 99 [.ptr q 0]]∧r=.val .un B∧DoR H q B) (by
  rintro vs H ⟨m,q,rfl,hne,hm,hq⟩;have hlm:m<H.length:=(List.getElem?_eq_some_iff.1 hm).1;have hlq:q<H.length:=(List.getElem?_eq_some_iff.1 hq).1;have l:rp0.length=2:=rfl;have hx:zcm prog TT 98 [.ptr 1 0,.bfn 99 [.ptr 1 0]] rp0 fun r=>r=.val .un rp4:=⟨_,rfl,by simp,zdX zah zqE rfl zyn (by simp)⟩;have hg:∀k,k<rp0.length→(fun k:Nat=>if k=0 then m else q) k<H.length:=fun k _=>by
   simp only;split<;>assumption
  have hi:∀k j,k<rp0.length→j<rp0.length→(fun k:Nat=>if k=0 then m else q) k=(fun k:Nat=>if k=0 then m else q) j→k=j:=fun k j h1 h2 h=>by
   simp only at h;split at h<;>split at h<;>first|omega|(exfalso;exact hne h)|(exfalso;exact hne h.symm)
  have hp:=zcm.part (H:=H) (g:=fun k:Nat=>if k=0 then m else q) zat hg hi (fun k hk=>by
   have:k=0∨k=1:=by omega
   rcases this with rfl|rfl
   ·exact⟨onB,rfl,hm⟩
   ·exact⟨_,rfl,hq⟩) (by rfl) (by rfl) (by decide) (by rfl) (by rfl) hx
  have hB:=zi9 (H:=H) (H0:=rp0) (H1:=rp4) hg hi (by decide);refine hp.mono fun r hr=>⟨q,_,rfl,hr,hB.len,fun j hj hjq=>?_,hB.old 1 (by decide),hB.new 2 (by decide) (by decide),?_,hB.new 6 (by decide) (by decide),hB.new 9 (by decide) (by decide)⟩
  ·by_cases e:j=m
   ·subst e;exact(hB.old 0 (by decide)).trans hm.symm
   ·exact hB.rest j hj fun k hk=>by
     show j≠if k=0 then m else q;split
     ·exact e
     ·exact hjq
  ·exact hB.new 3 (by decide) (by decide))
 refine⟨g,k,fun m q H h1 h2 h3=>?_⟩;obtain⟨r,⟨q',B,he,rfl,hB⟩,hr⟩:=s _ H ⟨m,q,rfl,h1,h2,h3⟩;simp only[List.cons.injEq,V.ptr.injEq,and_true]at he;obtain⟨rfl,_⟩:=he;exact⟨B,hr,hB⟩
def BsR (H:zaa)(p N:Nat):Prop:=H[p]? = some (some (bsB N))∧H[N]? = some (some ⟨9,[.s [69],.s [95]],.all⟩)∧H[N+4]? = some (some ⟨5,[.tup [],.i .u8 101],.map⟩)∧H[N+7]? = some (some ⟨5,[.tup []],.map⟩)
def BsH (call:zad):Prop:=∀(p N:Nat)(H:zaa)(x:List UInt8),BsR H p N→x.length<1100000→∃H',call 186 [.ptr p 0,.s x] H=.val (.s (za4 x)) H'∧H.length≤H'.length∧∀j,j<H.length→H'[j]? = H[j]?
theorem zoE {call:zad} (hC:call.Sound prog TT) (m q:Nat) (H:zaa) (x:List UInt8) (hx:x.length<1100000) (hne:m≠q) (hm:H[m]? = some (some onB)) (hq:H[q]? = some (some (rpB 0 0 .nili (.sl m 1 0 4 none))))
    (c1:∃B,call 98 [.ptr q 0,.bfn 99 [.ptr q 0]] H=.val .un B∧DoR H q B)(c2:BsH call):zaO prog TT 79 [.ptr q 0,.s x] H fun r=>∃B,r=.val (.s (za4 x)) B∧H.length≤B.length∧∀j,j<H.length→j≠q→B[j]? = H[j]?:=by
 obtain⟨B,c1,b1,b2,b3,b4,b5,b6,b7⟩:=c1
 obtain⟨H',c2,d1,d2⟩:=c2 (H.length+1) H.length B x ⟨b5,b4,b6,b7⟩ hx
 have hql:q<H.length:=(List.getElem?_eq_some_iff.1 hq).1
 refine⟨f79,_,rfl,rfl,by simp[f79],?_⟩
 have h0:(Tm.init f79.ntmps [.ptr q 0,.s x]).get 0=.ptr q 0:=by rw[zag];rfl
 have h1:(Tm.init f79.ntmps [.ptr q 0,.s x]).get 1=.s x:=by rw[zag];rfl
 have hw:(Tm.init f79.ntmps [.ptr q 0,.s x]).wid=17:=rfl
 generalize Tm.init f79.ntmps [.ptr q 0,.s x]=t at *
 have x1:TT.ext 98=none:=rfl
 have x2:TT.ext 186=none:=rfl
 have x3:TT.meth 194 "Replace" = some 186:=rfl
 apply rS hC
 · refine oA ?_
   rfl
 apply sQ
 refine Tri.regN (t':=?t2) (H':=?H2) zah hC ?e2 ?q2
 case e2=>
  refine zax ?_
  iterate 6 refine zab rfl (by simp[h0,c1,x1]<;>rfl) (by rfl) (by simp[hw]) ?_
  exact zaq
 apply sN
 apply sQ
 refine Tri.regN (t':=?t3) (H':=?H3) zah hC ?e3 ?q3
 case e3=>
  refine zax ?_
  iterate 3 refine zab rfl (by simp[h0]<;>rfl) (by rfl) (by simp[hw]) ?_
  refine gO (by simp[b3,rpB]<;>rfl) ?_
  iterate 3 refine oA ?_
  exact zaq
 apply sN
 apply Tri.ret
 refine⟨.s (za4 x),⟨H',rfl,by omega,fun j h1 h2=>?_⟩,?_⟩
 · rw[d2 j (by omega),b2 j h1 h2]
 · simp[f79]
open Go Go.Proofs Go.RowKit
def zjs:List V→zaa→OR
 | [.s s,.s [c]],H=>.val (.i .i64 (Lib.countByte s c)) H
 |_,_=>.no
theorem zza:zap Tryz.prog TT 188 zjs:=by
 intro vs H r h hne;unfold zjs at h;split at h
 ·rename_i H s c;subst h;refine⟨zco (f:=188) rfl rfl,fun M ρ w args hS hr=>?_⟩;have ha:args=[.string ⟨s.toArray⟩,.string ⟨#[c]⟩]:=by
   simp only[relL,rel]at hr;obtain⟨x,r,rfl,rfl,x,r,rfl,rfl,rfl⟩:=hr;rfl
  rw[ha];refine zbl (x:=.int .i64 (Lib.countByte s c)) hS ?_ (by simp only[rel]);exact(Any.strings_Count_one Tryz.lays138 ⟨s.toArray⟩ c w).mono fun e w' ⟨h1,h2⟩=>⟨h1,h2▸Below.refl _ _⟩
 ·exact absurd h.symm hne
def zoP (N c:Nat):V:=if c=95 then .sl (N+7) 1 0 0 none else if c=69 then .sl (N+4) 1 0 1 none else .nils
theorem ztx (N c:Nat)(h:c<256):(bsB N).cells[c]? = some (zoP N c):=by
 unfold bsB zoP;simp only;rw[List.getElem?_append_left (by simpa using h),List.getElem?_map,List.getElem?_range h];rfl
theorem zdU {H:zaa}{p N:Nat}(h:H[p]? = some (some (bsB N)))(c:Nat)(hc:c<256):zaf TT 64 H (.ptr p c)=some (zoP N c):=by
 have h1:zau H p=some (bsB N):=by
  unfold zau;rw[h];rfl
 have h2:=ztx N c hc;simp only[zaf,h1];have e1:zcB (TT.und 64)=some false:=rfl;simp only[zbM,e1,zch,h2]
def isX (c:UInt8):Bool:=c==95||c==69
theorem zvF (N c:Nat)(h:c≠95)(h':c≠69):zoP N c=.nils:=by unfold zoP;rw[if_neg h,if_neg h']
theorem zhY {call:zad}(hC:call.Sound prog TT){Q:Out→Prop}(p N:Nat)(H:zaa)(hp:H[p]? = some (some (bsB N))):∀(L pre:List UInt8)(t:Tm)(n:Int)(a:Bool),(pre++L).length<1100000→-2000000≤n-L.length→n≤2000000→t.wid=122→t.get 0=.ptr p 0→t.get 1=.s (pre++L)→t.get 5=.i .i64 n→t.get 6=.b a→t.get 10=.i .i64 pre.length →
 (∀t':Tm,t'.wid=122→t'.get 0=.ptr p 0→t'.get 1=.s (pre++L)→t'.get 5=.i .i64 (n-(L.count 95:Nat))→t'.get 6=.b (a||L.any isX)→Q (.exit 2 t' H)) →
 zaP prog TT (sub [true,true,true,false,true,true,true,false,false] (zae f186)) t H Q:=by
 intro L;induction L with
 |nil=>
  intro pre t n a hlen hn1 hn2 hw h0 h1 h5 h6 h10 hE;have hF:=ai @h0 (ai @h1 (ai @h5 (ai @h6 @h10)));refine zaP.round' ?_;apply sQ;apply rS hC
  ·iterate 4 refine gO (by simp[hF,-zaf]<;>rfl) ?_
   rfl
  refine cF (by simp[hF,-zaf]<;>rfl) ?_;refine Tri.exit ?_;refine zaA ?_;refine zaz ?_;exact hE _ (by simp[hw]) (by simp[h0]) (by simp[h1]) (by simp[h5]) (by simp[h6])
 |cons b L ih=>
  intro pre t n a hlen hn1 hn2 hw h0 h1 h5 h6 h10 hE;have hlt:=zds pre.length L.length;have hat:=zho pre b L;have hat2:=zeL pre b L;have hb1:(0:Int)≤b.toNat:=(zkG b).1;have hb2:(b.toNat:Int)<256:=(zkG b).2;have hi:b.toNat<256:=b.toNat_lt;by_cases h95:b.toNat=95
  ·have hb:b=95:=UInt8.toNat_inj.1 h95;have hl:zaf TT 64 H (.ptr p b.toNat)=some (.sl (N+7) 1 0 0 none):=by rw[zdU hp _ hi,h95];rfl
   have hn:IntKind.i64.wrap (n + -1)=n-1:=by rw[zak (by simp at hn1;omega) (by omega)];omega
   have hF:=ai @h0 (ai @h1 (ai @h5 (ai @h6 (ai @h10 (ai @hlt (ai @hat (ai @hat2 (ai @hb1 (ai @hb2 (ai @hl (ai @hi @hn)))))))))));refine zaP.round' ?_;apply sQ;apply rS hC
   ·iterate 4 refine gO (by simp[hF,-zaf]<;>rfl) ?_
    rfl
   refine cT (by simp[hF,-zaf]<;>rfl) ?_;apply Tri.skip;apply sN;apply sQ;apply bK;apply rS hC
   ·iterate 4 refine gO (by simp[hF,-zaf]<;>rfl) ?_
    rfl
   apply rS hC
   ·iterate 7 refine gO (by simp[hF,-zaf]<;>rfl) ?_
    rfl
   refine cT (by simp[hF,-zaf]<;>rfl) ?_;apply rS hC
   ·iterate 11 refine gO (by simp[hF,-zaf]<;>rfl) ?_
    rfl
   apply rN hC
   ·refine gO (by simp[hF,-zaf]<;>rfl) ?_;rfl
   apply bN;apply sN;apply rN hC
   ·iterate 3 refine gO (by simp[hF,-zaf]<;>rfl) ?_
    rfl
   refine zar ?_;refine ih (pre++[b]) _ (n-1) true (by simpa using hlen) (by simp at hn1 ⊢;omega) (by omega) (by simp[hw]) (by simp[h0]) (by simp[h1]) (by simp[h5]<;>exact hn) (by simp[h6]) (by simp[h10]<;>exact zak (by omega) (by simp at hlen;omega)) (fun t' k1 k2 k3 k4 k5=>hE t' k1 k2 (by simpa using k3) (by rw[k4];rw[count_cons];simp[hb];omega) (by rw[k5];simp[isX,hb]))
  ·have hb:b≠95:=fun e=>h95 (by rw[e];rfl);by_cases h69:b.toNat=69
   ·have hb':b=69:=UInt8.toNat_inj.1 h69;have hl:zaf TT 64 H (.ptr p b.toNat)=some (.sl (N+4) 1 0 1 none):=by rw[zdU hp _ hi,h69];rfl
    have hn:IntKind.i64.wrap (n+IntKind.i64.wrap 0)=n:=by rw[show IntKind.i64.wrap 0=0 from rfl,Int.add_zero];exact zak (by simp at hn1;omega) (by omega)
    have hF:=ai @h0 (ai @h1 (ai @h5 (ai @h6 (ai @h10 (ai @hlt (ai @hat (ai @hat2 (ai @hb1 (ai @hb2 (ai @hl (ai @hi @hn)))))))))));refine zaP.round' ?_;apply sQ;apply rS hC
    ·iterate 4 refine gO (by simp[hF,-zaf]<;>rfl) ?_
     rfl
    refine cT (by simp[hF,-zaf]<;>rfl) ?_;apply Tri.skip;apply sN;apply sQ;apply bK;apply rS hC
    ·iterate 4 refine gO (by simp[hF,-zaf]<;>rfl) ?_
     rfl
    apply rS hC
    ·iterate 7 refine gO (by simp[hF,-zaf]<;>rfl) ?_
     rfl
    refine cT (by simp[hF,-zaf]<;>rfl) ?_;apply rS hC
    ·iterate 11 refine gO (by simp[hF,-zaf]<;>rfl) ?_
     rfl
    apply rN hC
    ·refine gO (by simp[hF,-zaf]<;>rfl) ?_;rfl
    apply bN;apply sN;apply rN hC
    ·iterate 3 refine gO (by simp[hF,-zaf]<;>rfl) ?_
     rfl
    refine zar ?_;refine ih (pre++[b]) _ n true (by simpa using hlen) (by simp at hn1 ⊢;omega) (by omega) (by simp[hw]) (by simp[h0]) (by simp[h1]) (by simp[h5]<;>exact hn) (by simp[h6]) (by simp[h10]<;>exact zak (by omega) (by simp at hlen;omega)) (fun t' k1 k2 k3 k4 k5=>hE t' k1 k2 (by simpa using k3) (by rw[k4];rw[count_cons];simp[hb']) (by rw[k5];simp[isX,hb']))
   ·have hb':b≠69:=fun e=>h69 (by rw[e];rfl);have hl:zaf TT 64 H (.ptr p b.toNat)=some .nils:=by rw[zdU hp _ hi,zvF N _ h95 h69]
    have hF:=ai @h0 (ai @h1 (ai @h5 (ai @h6 (ai @h10 (ai @hlt (ai @hat (ai @hat2 (ai @hb1 (ai @hb2 (ai @hl @hi))))))))));refine zaP.round' ?_;apply sQ;apply rS hC
    ·iterate 4 refine gO (by simp[hF,-zaf]<;>rfl) ?_
     rfl
    refine Tri.condG (o:=?ok2) (b:=?bk2) ?gk2 ?rk2 ?yk2 ?nk2;case gk2=>simp[hF,-zaf]<;>rfl
    case rk2=>rfl
    case yk2=>
     intro hy2;apply Tri.skip;apply sN;apply sQ;apply bK;apply rS hC
     ·iterate 4 refine gO (by simp[hF,-zaf]<;>rfl) ?_
      rfl
     apply rS hC
     ·iterate 7 refine gO (by simp[hF,-zaf]<;>rfl) ?_
      rfl
     refine cF (by simp[hF,-zaf]<;>rfl) ?_;apply Tri.skip;apply bN;apply sN;apply rN hC
     ·iterate 3 refine gO (by simp[hF,-zaf]<;>rfl) ?_
      rfl
     refine zar ?_;refine ih (pre++[b]) _ n a (by simpa using hlen) (by simp at hn1 ⊢;omega) (by omega) (by simp[hw]) (by simp[h0]) (by simp[h1]) (by simp[h5]) (by simp[h6]) (by simp[h10]<;>exact zak (by omega) (by simp at hlen;omega)) (fun t' k1 k2 k3 k4 k5=>hE t' k1 k2 (by simpa using k3) (by rw[k4];rw[count_cons];simp[hb]) (by rw[k5];simp[isX,beq_eq_false_iff_ne.2 hb,beq_eq_false_iff_ne.2 hb']))
    case nk2=>
     intro hn2;exact absurd hn2 (by simp[hF,-zaf])
theorem zku {call:zad}(hC:call.Sound prog TT){Q:Out→Prop}(p N:Nat)(H:zaa)(hp:H[p]? = some (some (bsB N)))(hN:H[N]? = some (some ⟨9,[.s [69],.s [95]],.all⟩))(x:List UInt8)(t:Tm)(n:Int)(a:Bool)(hw:t.wid=122)(h0:t.get 0=.ptr p 0)(h1:t.get 1=.s x)(h5:t.get 5=.i .i64 n)(h6:t.get 6=.b a)(h30:t.get 30=.sl N 1 0 2 (some 2))(h31:t.get 31=.i .i64 2)(h32:t.get 32=.i .i64 2)(hE:∀t':Tm,t'.wid=122→t'.get 0=.ptr p 0→t'.get 1=.s x→t'.get 5=.i .i64 (n)→t'.get 6=.b (a)→Q (.exit 0 t' H)) :
 zaP prog TT (sub [true,true,true,false,true,false,true,false,false] (zae f186)) t H Q:=by
 have hF:=ai @h0 (ai @h1 (ai @h5 (ai @h6 (ai @h30 (ai @h31 @h32)))));refine zaP.round' ?_;apply rS hC
 ·refine gO (by simp[hF,-zaf]<;>rfl) ?_;rfl
 apply sQ;refine cF (by simp[hF,-zaf]<;>rfl) ?_;refine Tri.exit ?_;refine zaA ?_;refine zaz ?_;exact hE _ (by simp[hw]) (by simp[h0]) (by simp[h1]) (by simp[h5]) (by simp[h6])
theorem znO {call:zad}(hC:call.Sound prog TT){Q:Out→Prop}(p N:Nat)(H:zaa)(hp:H[p]? = some (some (bsB N)))(hN:H[N]? = some (some ⟨9,[.s [69],.s [95]],.all⟩))(x:List UInt8)(t:Tm)(n:Int)(a:Bool)(m:Nat)(hm:m≤2000000)(hn0:-2000000≤n)(hn2:n≤4000000)(hcnt:∀K,call 188 [.s x,.s [69]] K=.val (.i .i64 m) K)(hz:((m:Int) !=0)=true)(hw:t.wid=122)(h0:t.get 0=.ptr p 0)(h1:t.get 1=.s x)(h5:t.get 5=.i .i64 n)(h6:t.get 6=.b a)(h30:t.get 30=.sl N 1 0 2 (some 2))(h31:t.get 31=.i .i64 2)(h32:t.get 32=.i .i64 0)(hA:∀t':Tm,t'.wid=122→t'.get 0=.ptr p 0→t'.get 1=.s x→t'.get 5=.i .i64 (n)→t'.get 6=.b (true)→t'.get 30=.sl N 1 0 2 (some 2)→t'.get 31=.i .i64 2→t'.get 32=.i .i64 1→zaP prog TT (sub [true,true,true,false,true,false,true,false,false] (zae f186)) t' H Q) :
 zaP prog TT (sub [true,true,true,false,true,false,true,false,false] (zae f186)) t H Q:=by
 have x87:TT.ext 188=none:=rfl;have hl:zaf TT 9 H (.ptr N 0)=some (.s [69]):=by simp[zaf,zau,hN,zbM,zcB,zch]
 have hl2:zaf TT 64 H (.ptr p 69)=some (.sl (N+4) 1 0 1 none):=by rw[zdU hp 69 (by omega)];rfl
 have hn:IntKind.i64.wrap (n+IntKind.i64.wrap ((m:Int)*IntKind.i64.wrap (0)))=n:=by
  rw[show IntKind.i64.wrap (0)=0 from rfl,zak (n:=(m:Int)*0) (by omega) (by omega),zak (by omega) (by omega)];omega
 have hF:=ai @h0 (ai @h1 (ai @h5 (ai @h6 (ai @h30 (ai @h31 (ai @h32 (ai @hl (ai @hl2 (ai @hcnt (ai @x87 @hz))))))))));refine zaP.round' ?_;apply rS hC
 ·refine gO (by simp[hF,-zaf]<;>rfl) ?_;rfl
 apply sQ;refine cT (by simp[hF,-zaf]<;>rfl) ?_;apply Tri.skip;apply sN;apply sQ;apply bK;apply rS hC
 ·iterate 3 refine gO (by simp[hF,-zaf]<;>rfl) ?_
  rfl
 apply rS hC
 ·iterate 4 refine gO (by simp[hF,-zaf]<;>rfl) ?_
  rfl
 apply rS hC
 ·iterate 2 refine gO (by simp[hF,-zaf]<;>rfl) ?_
  rfl
 refine cT (by simp[hF,-zaf]<;>rfl) ?_;apply sQ;refine Tri.regN (t':=?ty07) (H':=?Hy07) zah hC ?ey07 ?qy07;case ey07=>
  refine zbT (t':=?ty07) (by kernel_rfl) ?_ ?ry0907;iterate 14 refine QR.val rfl (by simp[hF,-zaf]<;>rfl) (by rfl) (by simp[hw]) ?_
  exact QR.nil;case ry0907=>exact rfl
 apply sN;apply rN hC
 ·refine gO (by simp[hF,-zaf]<;>rfl) ?_;rfl
 apply bN;apply sN;apply rN hC
 ·iterate 2 refine gO (by simp[hF,-zaf]<;>rfl) ?_
  rfl
 refine zar ?_;exact hA _ (by simp[hw]) (by simp[h0]) (by simp[h1]) (by simp[h5]<;>exact hn) (by simp[h6]) (by simp[h30]) (by simp[h31]) (by simp[h32]<;>rfl)
theorem znN {call:zad}(hC:call.Sound prog TT){Q:Out→Prop}(p N:Nat)(H:zaa)(hp:H[p]? = some (some (bsB N)))(hN:H[N]? = some (some ⟨9,[.s [69],.s [95]],.all⟩))(x:List UInt8)(t:Tm)(n:Int)(a:Bool)(m:Nat)(hcnt:∀K,call 188 [.s x,.s [69]] K=.val (.i .i64 m) K)(hz:((m:Int) !=0)=false)(hw:t.wid=122)(h0:t.get 0=.ptr p 0)(h1:t.get 1=.s x)(h5:t.get 5=.i .i64 n)(h6:t.get 6=.b a)(h30:t.get 30=.sl N 1 0 2 (some 2))(h31:t.get 31=.i .i64 2)(h32:t.get 32=.i .i64 0)(hA:∀t':Tm,t'.wid=122→t'.get 0=.ptr p 0→t'.get 1=.s x→t'.get 5=.i .i64 (n)→t'.get 6=.b (a)→t'.get 30=.sl N 1 0 2 (some 2)→t'.get 31=.i .i64 2→t'.get 32=.i .i64 1→zaP prog TT (sub [true,true,true,false,true,false,true,false,false] (zae f186)) t' H Q) :
 zaP prog TT (sub [true,true,true,false,true,false,true,false,false] (zae f186)) t H Q:=by
 have x87:TT.ext 188=none:=rfl;have hl:zaf TT 9 H (.ptr N 0)=some (.s [69]):=by simp[zaf,zau,hN,zbM,zcB,zch]
 have hF:=ai @h0 (ai @h1 (ai @h5 (ai @h6 (ai @h30 (ai @h31 (ai @h32 (ai @hl (ai @hcnt (ai @x87 @hz)))))))));refine zaP.round' ?_;apply rS hC
 ·refine gO (by simp[hF,-zaf]<;>rfl) ?_;rfl
 apply sQ;refine cT (by simp[hF,-zaf]<;>rfl) ?_;apply Tri.skip;apply sN;apply sQ;apply bK;apply rS hC
 ·iterate 3 refine gO (by simp[hF,-zaf]<;>rfl) ?_
  rfl
 apply rS hC
 ·iterate 4 refine gO (by simp[hF,-zaf]<;>rfl) ?_
  rfl
 apply rS hC
 ·iterate 2 refine gO (by simp[hF,-zaf]<;>rfl) ?_
  rfl
 refine cF (by simp[hF,-zaf]<;>rfl) ?_;apply Tri.skip;apply bN;apply sN;apply rN hC
 ·iterate 2 refine gO (by simp[hF,-zaf]<;>rfl) ?_
  rfl
 refine zar ?_;exact hA _ (by simp[hw]) (by simp[h0]) (by simp[h1]) (by simp[h5]) (by simp[h6]) (by simp[h30]) (by simp[h31]) (by simp[h32]<;>rfl)
theorem znQ {call:zad}(hC:call.Sound prog TT){Q:Out→Prop}(p N:Nat)(H:zaa)(hp:H[p]? = some (some (bsB N)))(hN:H[N]? = some (some ⟨9,[.s [69],.s [95]],.all⟩))(x:List UInt8)(t:Tm)(n:Int)(a:Bool)(m:Nat)(hm:m≤2000000)(hn0:-2000000≤n)(hn2:n≤4000000)(hcnt:∀K,call 188 [.s x,.s [95]] K=.val (.i .i64 m) K)(hz:((m:Int) !=0)=true)(hw:t.wid=122)(h0:t.get 0=.ptr p 0)(h1:t.get 1=.s x)(h5:t.get 5=.i .i64 n)(h6:t.get 6=.b a)(h30:t.get 30=.sl N 1 0 2 (some 2))(h31:t.get 31=.i .i64 2)(h32:t.get 32=.i .i64 1)(hA:∀t':Tm,t'.wid=122→t'.get 0=.ptr p 0→t'.get 1=.s x→t'.get 5=.i .i64 (n-m)→t'.get 6=.b (true)→t'.get 30=.sl N 1 0 2 (some 2)→t'.get 31=.i .i64 2→t'.get 32=.i .i64 2→zaP prog TT (sub [true,true,true,false,true,false,true,false,false] (zae f186)) t' H Q) :
 zaP prog TT (sub [true,true,true,false,true,false,true,false,false] (zae f186)) t H Q:=by
 have x87:TT.ext 188=none:=rfl;have hl:zaf TT 9 H (.ptr N 1)=some (.s [95]):=by simp[zaf,zau,hN,zbM,zcB,zch]
 have hl2:zaf TT 64 H (.ptr p 95)=some (.sl (N+7) 1 0 0 none):=by rw[zdU hp 95 (by omega)];rfl
 have hn:IntKind.i64.wrap (n+IntKind.i64.wrap ((m:Int)*IntKind.i64.wrap (-1)))=n-m:=by
  rw[show IntKind.i64.wrap (-1)= -1 from rfl,zak (n:=(m:Int)*(-1)) (by omega) (by omega),zak (by omega) (by omega)];omega
 have hF:=ai @h0 (ai @h1 (ai @h5 (ai @h6 (ai @h30 (ai @h31 (ai @h32 (ai @hl (ai @hl2 (ai @hcnt (ai @x87 @hz))))))))));refine zaP.round' ?_;apply rS hC
 ·refine gO (by simp[hF,-zaf]<;>rfl) ?_;rfl
 apply sQ;refine cT (by simp[hF,-zaf]<;>rfl) ?_;apply Tri.skip;apply sN;apply sQ;apply bK;apply rS hC
 ·iterate 3 refine gO (by simp[hF,-zaf]<;>rfl) ?_
  rfl
 apply rS hC
 ·iterate 4 refine gO (by simp[hF,-zaf]<;>rfl) ?_
  rfl
 apply rS hC
 ·iterate 2 refine gO (by simp[hF,-zaf]<;>rfl) ?_
  rfl
 refine cT (by simp[hF,-zaf]<;>rfl) ?_;apply sQ;refine Tri.regN (t':=?ty17) (H':=?Hy17) zah hC ?ey17 ?qy17;case ey17=>
  refine zbT (t':=?ty17) (by kernel_rfl) ?_ ?ry1907;iterate 14 refine QR.val rfl (by simp[hF,-zaf]<;>rfl) (by rfl) (by simp[hw]) ?_
  exact QR.nil;case ry1907=>exact rfl
 apply sN;apply rN hC
 ·refine gO (by simp[hF,-zaf]<;>rfl) ?_;rfl
 apply bN;apply sN;apply rN hC
 ·iterate 2 refine gO (by simp[hF,-zaf]<;>rfl) ?_
  rfl
 refine zar ?_;exact hA _ (by simp[hw]) (by simp[h0]) (by simp[h1]) (by simp[h5]<;>exact hn) (by simp[h6]) (by simp[h30]) (by simp[h31]) (by simp[h32]<;>rfl)
theorem znP {call:zad}(hC:call.Sound prog TT){Q:Out→Prop}(p N:Nat)(H:zaa)(hp:H[p]? = some (some (bsB N)))(hN:H[N]? = some (some ⟨9,[.s [69],.s [95]],.all⟩))(x:List UInt8)(t:Tm)(n:Int)(a:Bool)(m:Nat)(hcnt:∀K,call 188 [.s x,.s [95]] K=.val (.i .i64 m) K)(hz:((m:Int) !=0)=false)(hw:t.wid=122)(h0:t.get 0=.ptr p 0)(h1:t.get 1=.s x)(h5:t.get 5=.i .i64 n)(h6:t.get 6=.b a)(h30:t.get 30=.sl N 1 0 2 (some 2))(h31:t.get 31=.i .i64 2)(h32:t.get 32=.i .i64 1)(hA:∀t':Tm,t'.wid=122→t'.get 0=.ptr p 0→t'.get 1=.s x→t'.get 5=.i .i64 (n)→t'.get 6=.b (a)→t'.get 30=.sl N 1 0 2 (some 2)→t'.get 31=.i .i64 2→t'.get 32=.i .i64 2→zaP prog TT (sub [true,true,true,false,true,false,true,false,false] (zae f186)) t' H Q) :
 zaP prog TT (sub [true,true,true,false,true,false,true,false,false] (zae f186)) t H Q:=by
 have x87:TT.ext 188=none:=rfl;have hl:zaf TT 9 H (.ptr N 1)=some (.s [95]):=by simp[zaf,zau,hN,zbM,zcB,zch]
 have hF:=ai @h0 (ai @h1 (ai @h5 (ai @h6 (ai @h30 (ai @h31 (ai @h32 (ai @hl (ai @hcnt (ai @x87 @hz)))))))));refine zaP.round' ?_;apply rS hC
 ·refine gO (by simp[hF,-zaf]<;>rfl) ?_;rfl
 apply sQ;refine cT (by simp[hF,-zaf]<;>rfl) ?_;apply Tri.skip;apply sN;apply sQ;apply bK;apply rS hC
 ·iterate 3 refine gO (by simp[hF,-zaf]<;>rfl) ?_
  rfl
 apply rS hC
 ·iterate 4 refine gO (by simp[hF,-zaf]<;>rfl) ?_
  rfl
 apply rS hC
 ·iterate 2 refine gO (by simp[hF,-zaf]<;>rfl) ?_
  rfl
 refine cF (by simp[hF,-zaf]<;>rfl) ?_;apply Tri.skip;apply bN;apply sN;apply rN hC
 ·iterate 2 refine gO (by simp[hF,-zaf]<;>rfl) ?_
  rfl
 refine zar ?_;exact hA _ (by simp[hw]) (by simp[h0]) (by simp[h1]) (by simp[h5]) (by simp[h6]) (by simp[h30]) (by simp[h31]) (by simp[h32]<;>rfl)
theorem zhX {call:zad} (hC:call.Sound prog TT) {Q:Out→Prop} (p N:Nat) (H:zaa) (hp:H[p]? = some (some (bsB N))) (hN:H[N]? = some (some ⟨9,[.s [69],.s [95]],.all⟩)) (x:List UInt8) (t:Tm) (n:Int) (a:Bool) (hx:x.length<1100000) (hn0:0≤n) (hn2:n≤2000000) (hcnt:∀(c:UInt8) (K:zaa),call 188 [.s x,.s [c]] K=.val (.i .i64 (Lib.countByte x c)) K) (hw:t.wid=122) (h0:t.get 0=.ptr p 0) (h1:t.get 1=.s x) (h5:t.get 5=.i .i64 n) (h6:t.get 6=.b a) (h30:t.get 30=.sl N 1 0 2 (some 2)) (h31:t.get 31=.i .i64 2) (h32:t.get 32=.i .i64 0) (hE:∀t':Tm,t'.wid=122→t'.get 0=.ptr p 0→t'.get 1=.s x→t'.get 5=.i .i64 (n-(Lib.countByte x 95:Nat))→t'.get 6=.b (a||decide (Lib.countByte x 69≠0)||decide (Lib.countByte x 95≠0))→Q (.exit 0 t' H)) :
    zaP prog TT (sub [true,true,true,false,true,false,true,false,false] (zae f186)) t H Q:=by
  have hc1:Lib.countByte x 69≤x.length:=count_le_length
  have hc2:Lib.countByte x 95≤x.length:=count_le_length
  have two:∀(a1:Bool) (t1:Tm),t1.wid=122→t1.get 0=.ptr p 0→t1.get 1=.s x→t1.get 5=.i .i64 n→t1.get 6=.b a1→t1.get 30=.sl N 1 0 2 (some 2)→t1.get 31=.i .i64 2→t1.get 32=.i .i64 1→(a||decide (Lib.countByte x 69≠0))=a1→zaP prog TT (sub [true,true,true,false,true,false,true,false,false] (zae f186)) t1 H Q:=by
    intro a1 t1 k1 k2 k3 k4 k5 k6 k7 k8 ha
    cases hz:((Lib.countByte x 95:Nat):Int) !=0 with
    | true=>
      refine znQ hC p N H hp hN x t1 n a1 (Lib.countByte x 95) (by omega) (by omega) (by omega) (hcnt 95) hz k1 k2 k3 k4 k5 k6 k7 k8 fun t2 j1 j2 j3 j4 j5 j6 j7 j8=>?_
      refine zku hC p N H hp hN x t2 _ _ j1 j2 j3 j4 j5 j6 j7 j8 fun t3 i1 i2 i3 i4 i5=>hE t3 i1 i2 i3 i4 (have h9:Lib.countByte x 95≠0:=by simpa using hz
        by rw[i5];simp[h9])
    | false=>
      have h0:Lib.countByte x 95=0:=by simpa using hz
      refine znP hC p N H hp hN x t1 n a1 (Lib.countByte x 95) (hcnt 95) hz k1 k2 k3 k4 k5 k6 k7 k8 fun t2 j1 j2 j3 j4 j5 j6 j7 j8=>?_
      refine zku hC p N H hp hN x t2 _ _ j1 j2 j3 j4 j5 j6 j7 j8 fun t3 i1 i2 i3 i4 i5=>hE t3 i1 i2 i3 (by rw[i4,h0];simp) (by rw[i5,←ha];simp[h0])
  cases hz:((Lib.countByte x 69:Nat):Int) !=0 with
  | true=>
    refine znO hC p N H hp hN x t n a (Lib.countByte x 69) (by omega) (by omega) (by omega) (hcnt 69) hz hw h0 h1 h5 h6 h30 h31 h32 fun t2 j1 j2 j3 j4 j5 j6 j7 j8=>?_
    exact two true t2 j1 j2 j3 j4 j5 j6 j7 j8 (by simp only[bne_iff_ne,ne_eq]at hz;simp;right;omega)
  | false=>
    have h0':Lib.countByte x 69=0:=by simpa using hz
    refine znN hC p N H hp hN x t n a (Lib.countByte x 69) (hcnt 69) hz hw h0 h1 h5 h6 h30 h31 h32 fun t2 j1 j2 j3 j4 j5 j6 j7 j8=>?_
    exact two a t2 j1 j2 j3 j4 j5 j6 j7 j8 (by simp[h0'])

def byV (l:List UInt8):List V:=l.map fun c=>V.i .u8 c.toNat
def zen (out:List UInt8)(k:Nat):Blk:=⟨5,byV out++List.replicate k (V.i .u8 0),.all⟩
theorem zqy {H:zaa}{m:Nat}{ty:Nat}{l:List V}(h:H[m]? = some (some ⟨ty,.tup []::l,.map⟩)):zjw H m=some l:=by
 have h1:zau H m=none:=by simp[zau,h]
 have h2:ziS H m=some ⟨ty,l,.all⟩∨∃k,ziS H m=some ⟨ty,l,k⟩:=by
  right;simp[ziS,h,zgU]
 obtain⟨k,h2⟩:=h2.elim (fun h=>⟨_,h⟩) id;simp only[zjw,h1,h2];rfl
theorem znZ (l:List V)(o:Nat)(h:o≤l.length):splice l o []=l:=by simp[splice]
theorem zjU {H:zaa}{z m:Nat}{blk:Blk}{cs:List V}(hz:zau H z=some blk)(hs:zjw H m=some cs)(o w:Nat)(c:Option Nat)(h:o≤blk.cells.length):zdK TT 64 (.sl z 1 o w c) (.sl m 1 0 0 none) H=.val (.i .i64 0) (H.set z (some blk)):=by
 have e1:TT.und 64=some (.slice 5):=rfl;have e2:TT.size 5=some 1:=rfl;have e3:cut cs 0 0=some []:=by simp[cut]
 simp only[zdK,e1,hz,hs,zcR];rw[show Nat.min 0 w=0 from Nat.zero_min w,e3];simp[e2,znZ _ _ h,h]
theorem zrc {H:zaa}{z m:Nat}{blk:Blk}{v:V}(hz:zau H z=some blk)(hs:zjw H m=some [v])(hf:zeN v=true)(o w:Nat)(c:Option Nat)(hw:0<w)(h:o<blk.cells.length):zdK TT 64 (.sl z 1 o w c) (.sl m 1 0 1 none) H=.val (.i .i64 1) (H.set z (some {blk with cells:=splice blk.cells o [v]})):=by
 have e1:TT.und 64=some (.slice 5):=rfl;have e2:TT.size 5=some 1:=rfl;have e3:cut [v] 0 1=some [v]:=by simp[cut]
 simp only[zdK,e1,hz,hs,zcR];rw[show Nat.min 1 w=1 from Nat.min_eq_left hw,e3];show(if _ then _ else _)=_;rw[if_pos ⟨trivial,trivial,e2,by rw[all_cons,hf];rfl,by simp;omega⟩];rfl
theorem BsR.set {H:zaa}{p N z:Nat}(h:BsR H p N)(hz:z≠p∧z≠N∧z≠N+4∧z≠N+7)(b:Option Blk):BsR (H.set z b) p N:=by
 obtain⟨h1,h2,h3,h4⟩:=h;obtain⟨z1,z2,z3,z4⟩:=hz;exact⟨by rw[List.getElem?_set_ne z1];exact h1,by rw[List.getElem?_set_ne z2];exact h2,by rw[List.getElem?_set_ne z3];exact h3,by rw[List.getElem?_set_ne z4];exact h4⟩
theorem zl3 (out:List UInt8)(k:Nat)(c:UInt8):splice (zen out (k+1)).cells out.length [V.i .u8 c.toNat]=(zen (out++[c]) k).cells:=by
 have e:(byV out).length=out.length:=by simp[byV]
 unfold splice zen;simp only;rw[take_append_of_le_length (by omega),take_of_length_le (by omega),drop_append,drop_eq_nil_of_le (by simp;omega),e];simp[byV,replicate_succ]
theorem zhZ {call:zad}(hC:call.Sound prog TT){Q:Out→Prop}(p N z:Nat)(hzn:z≠p∧z≠N∧z≠N+4∧z≠N+7):∀(L pre:List UInt8)(t:Tm)(H:zaa)(W J:Nat),J=(za4 pre).length→(pre++L).length<1100000→W=J+(za4 L).length→BsR H p N→H[z]? = some (some (zen (za4 pre) (za4 L).length))→t.wid=122→t.get 0=.ptr p 0→t.get 1=.s (pre++L)→t.get 12=.sl z 1 0 W (some W)→t.get 13=.i .i64 J→t.get 14=.i .i64 pre.length →
 (∀(t':Tm)(H':zaa),t'.wid=122→t'.get 12=.sl z 1 0 W (some W)→H'[z]? = some (some (zen (za4 (pre++L)) 0))→H'.length=H.length→(∀j,j≠z→H'[j]? = H[j]?)→Q (.exit 4 t' H')) →
 zaP prog TT (sub [true,true,true,true,true,true,true,false,true,false,false] (zae f186)) t H Q:=by
 intro L;induction L with
 |nil=>
  intro pre t H W J hJ hlen hW hB hz hw h0 h1 h12 h13 h14 hE;have hF:=ai @h0 (ai @h1 (ai @h12 (ai @h13 @h14)));refine zaP.round' ?_;apply sQ;apply rS hC
  ·iterate 4 refine gO (by simp[hF,-zaf]<;>rfl) ?_
   rfl
  refine cF (by simp[hF,-zaf]<;>rfl) ?_;refine Tri.exit ?_;refine zaA ?_;refine zaz ?_;exact hE _ _ (by simp[hw]) (by simp[h12]) (by rw[hz];simp[za4]) rfl (fun _ _=>rfl)
 |cons b L ih=>
  intro pre t H W J hJ hlen hW hB hz hw h0 h1 h12 h13 h14 hE;have hlt:=zds pre.length L.length;have hat:=zho pre b L;have hat2:=zeL pre b L;have hb1:(0:Int)≤b.toNat:=(zkG b).1;have hb2:(b.toNat:Int)<256:=(zkG b).2;have hi:b.toNat<256:=b.toNat_lt;have hle:J≤W:=by omega
  have hzb:zau H z=some (zen (za4 pre) (za4 (b::L)).length):=by simp[zau,hz,zen]
  have hJ2:J<1100000:=by
   have h1:(za4 pre).length≤pre.length:=by unfold za4;rw[length_map];exact length_filter_le _ _
   rw[length_append]at hlen;omega
  have hs7:zjw H (N+7)=some []:=zqy hB.2.2.2;have hs4:zjw H (N+4)=some [.i .u8 101]:=zqy hB.2.2.1;by_cases h95:b.toNat=95
  ·have hb:b=95:=UInt8.toNat_inj.1 h95;have hr:za4 (pre++[b])=za4 pre:=by rw[hb];simp[za4]
   have hr2:za4 (b::L)=za4 L:=by rw[hb];simp[za4]
   have hl:zaf TT 64 H (.ptr p b.toNat)=some (.sl (N+7) 1 0 0 none):=by rw[zdU hB.1 _ hi,h95];rfl
   have hset:H.set z (some (zen (za4 pre) (za4 (b::L)).length))=H:=(zaa.set_self hz).symm;have hn:IntKind.i64.wrap ((J:Int)+0)=J:=by rw[Int.add_zero];exact zak (by omega) (by omega)
   by_cases hWJ:W=J
   ·have hcp:zdK TT 64 (.sl z 1 0 0 (some 0)) (.sl (N+7) 1 0 0 none) H=.val (.i .i64 0) (H.set z (some (zen (za4 pre) (za4 (b::L)).length))):=zjU hzb hs7 0 0 _ (by omega);have hF:=ai @h0 (ai @h1 (ai @h12 (ai @h13 (ai @h14 (ai @hlt (ai @hat (ai @hat2 (ai @hb1 (ai @hb2 (ai @hl (ai @hcp (ai @hle (ai @hWJ @hset)))))))))))));refine zaP.round' ?_;apply sQ;apply rS hC
    ·iterate 4 refine gO (by simp[hF,-zaf]<;>rfl) ?_
     rfl
    refine cT (by simp[hF,-zaf]<;>rfl) ?_;apply Tri.skip;apply sN;apply sQ;apply bK;apply rS hC
    ·iterate 4 refine gO (by simp[hF,-zaf]<;>rfl) ?_
     rfl
    apply rS hC
    ·iterate 7 refine gO (by simp[hF,-zaf]<;>rfl) ?_
     rfl
    refine cT (by simp[hF,-zaf]<;>rfl) ?_;refine Tri.regN (t':=?ta6) (H':=?Ha6) zah hC ?ea6 ?qa6;case ea6=>
     refine zbY (t':=?ta6) (H':=?Ha6) (ks:=[.q,.q,.q,.q,.q,.q,.q,.q,.q,.f,.e,.q,.q]) (fun _=>True) (by kernel_rfl) ?Aa906 ?_ ?ra906;case Aa906=>simp[hF,-zaf]
     iterate 9 refine DR.blind rfl rfl (by simp[hF,-zaf]<;>rfl) (by rfl) (by simp[hw]) ?_
     refine DR.fix rfl (by simp[hF,-zaf]<;>rfl) (by rfl) (by simp[hw]) ?_;refine DR.eff rfl rfl (by simp[hF,-zaf]<;>rfl) (by rfl) (by simp[hw]) (by simp[hF,-zaf]) ?_;iterate 2 refine DR.blind rfl rfl (by simp[hF,-zaf]<;>rfl) (by rfl) (by simp[hw]) ?_
     exact DR.nil;case ra906=>exact rfl
    apply bN;apply sN;apply rN hC
    ·iterate 3 refine gO (by simp[hF,-zaf]<;>rfl) ?_
     rfl
    refine zar ?_;refine ih (pre++[b]) _ H W J (by rw[hJ,hr]) (by simpa using hlen) (by rw[hW,hr2]) hB (by rw[hr,hz,hr2])  (by simp[hw]) (by simp[h0]) (by simp[h1]) (by simp[h12]) (by simp[h13]<;>exact hn) (by simp[h14]<;>exact zak (by omega) (by simp at hlen;omega)) (fun t' H' k1 k2 k3 k4 k5=>hE t' H' k1 k2 (by simpa using k3) k4 k5)
   ·have hcp:zdK TT 64 (.sl z 1 J (W-J) (some (W-J))) (.sl (N+7) 1 0 0 none) H=.val (.i .i64 0) (H.set z (some (zen (za4 pre) (za4 (b::L)).length))):=zjU hzb hs7 J _ _ (by simp[zen,byV];omega);have hF:=ai @h0 (ai @h1 (ai @h12 (ai @h13 (ai @h14 (ai @hlt (ai @hat (ai @hat2 (ai @hb1 (ai @hb2 (ai @hl (ai @hcp (ai @hle (ai @hWJ @hset)))))))))))));refine zaP.round' ?_;apply sQ;apply rS hC
    ·iterate 4 refine gO (by simp[hF,-zaf]<;>rfl) ?_
     rfl
    refine cT (by simp[hF,-zaf]<;>rfl) ?_;apply Tri.skip;apply sN;apply sQ;apply bK;apply rS hC
    ·iterate 4 refine gO (by simp[hF,-zaf]<;>rfl) ?_
     rfl
    apply rS hC
    ·iterate 7 refine gO (by simp[hF,-zaf]<;>rfl) ?_
     rfl
    refine cT (by simp[hF,-zaf]<;>rfl) ?_;refine Tri.regN (t':=?tb6) (H':=?Hb6) zah hC ?eb6 ?qb6;case eb6=>
     refine zbY (t':=?tb6) (H':=?Hb6) (ks:=[.q,.q,.q,.q,.q,.q,.q,.q,.q,.f,.e,.q,.q]) (fun _=>True) (by kernel_rfl) ?Ab906 ?_ ?rb906;case Ab906=>simp[hF,-zaf]
     iterate 9 refine DR.blind rfl rfl (by simp[hF,-zaf]<;>rfl) (by rfl) (by simp[hw]) ?_
     refine DR.fix rfl (by simp[hF,-zaf]<;>rfl) (by rfl) (by simp[hw]) ?_;refine DR.eff rfl rfl (by simp[hF,-zaf]<;>rfl) (by rfl) (by simp[hw]) (by simp[hF,-zaf]) ?_;iterate 2 refine DR.blind rfl rfl (by simp[hF,-zaf]<;>rfl) (by rfl) (by simp[hw]) ?_
     exact DR.nil;case rb906=>exact rfl
    apply bN;apply sN;apply rN hC
    ·iterate 3 refine gO (by simp[hF,-zaf]<;>rfl) ?_
     rfl
    refine zar ?_;refine ih (pre++[b]) _ H W J (by rw[hJ,hr]) (by simpa using hlen) (by rw[hW,hr2]) hB (by rw[hr,hz,hr2])  (by simp[hw]) (by simp[h0]) (by simp[h1]) (by simp[h12]) (by simp[h13]<;>exact hn) (by simp[h14]<;>exact zak (by omega) (by simp at hlen;omega)) (fun t' H' k1 k2 k3 k4 k5=>hE t' H' k1 k2 (by simpa using k3) k4 k5)
  ·have hb:b≠95:=fun e=>h95 (by rw[e];rfl);have hn:IntKind.i64.wrap ((J:Int)+1)=((J+1:Nat):Int):=by rw[zak (by omega) (by omega)];omega
   by_cases h69:b.toNat=69
   ·have hb':b=69:=UInt8.toNat_inj.1 h69;have hr:za4 (pre++[b])=za4 pre++[101]:=by rw[hb'];simp[za4]
    have hr2:za4 (b::L)=101::za4 L:=by rw[hb'];simp[za4]
    have hl:zaf TT 64 H (.ptr p b.toNat)=some (.sl (N+4) 1 0 1 none):=by rw[zdU hB.1 _ hi,h69];rfl
    have hWJ:¬W=J:=by rw[hW,hr2];simp
    have hJl:J<(zen (za4 pre) (za4 (b::L)).length).cells.length:=by simp[zen,byV,hJ,hr2]
    have hcp:zdK TT 64 (.sl z 1 J (W-J) (some (W-J))) (.sl (N+4) 1 0 1 none) H=.val (.i .i64 1) (H.set z (some (zen (za4 pre++[101]) (za4 L).length))):=by
     rw[zrc hzb hs4 rfl J _ _ (by omega) hJl,hr2,length_cons,hJ,show V.i IntKind.u8 101=.i .u8 ((101:UInt8).toNat:Nat)from rfl,zl3];rfl
    have hzl:z<H.length:=zaa.lt hz;have hF:=ai @h0 (ai @h1 (ai @h12 (ai @h13 (ai @h14 (ai @hlt (ai @hat (ai @hat2 (ai @hb1 (ai @hb2 (ai @hl (ai @hcp (ai @hle @hWJ))))))))))));refine zaP.round' ?_;apply sQ;apply rS hC
    ·iterate 4 refine gO (by simp[hF,-zaf]<;>rfl) ?_
     rfl
    refine cT (by simp[hF,-zaf]<;>rfl) ?_;apply Tri.skip;apply sN;apply sQ;apply bK;apply rS hC
    ·iterate 4 refine gO (by simp[hF,-zaf]<;>rfl) ?_
     rfl
    apply rS hC
    ·iterate 7 refine gO (by simp[hF,-zaf]<;>rfl) ?_
     rfl
    refine cT (by simp[hF,-zaf]<;>rfl) ?_;refine Tri.regN (t':=?tc6) (H':=?Hc6) zah hC ?ec6 ?qc6;case ec6=>
     refine zbY (t':=?tc6) (H':=?Hc6) (ks:=[.q,.q,.q,.q,.q,.q,.q,.q,.q,.f,.e,.q,.q]) (fun _=>True) (by kernel_rfl) ?Ac906 ?_ ?rc906;case Ac906=>simp[hF,-zaf]
     iterate 9 refine DR.blind rfl rfl (by simp[hF,-zaf]<;>rfl) (by rfl) (by simp[hw]) ?_
     refine DR.fix rfl (by simp[hF,-zaf]<;>rfl) (by rfl) (by simp[hw]) ?_;refine DR.eff rfl rfl (by simp[hF,-zaf]<;>rfl) (by rfl) (by simp[hw]) (by simp[hF,-zaf]) ?_;iterate 2 refine DR.blind rfl rfl (by simp[hF,-zaf]<;>rfl) (by rfl) (by simp[hw]) ?_
     exact DR.nil;case rc906=>exact rfl
    apply bN;apply sN;apply rN hC
    ·iterate 3 refine gO (by simp[hF,-zaf]<;>rfl) ?_
     rfl
    refine zar ?_;refine ih (pre++[b]) _ _ W (J+1) (by rw[hr,hJ];simp) (by simpa using hlen) (by rw[hW,hr2,length_cons];omega) (hB.set hzn _) (by rw[List.getElem?_set_self hzl,hr])  (by simp[hw]) (by simp[h0]) (by simp[h1]) (by simp[h12]) (by simp[h13]<;>exact hn) (by simp[h14]<;>exact zak (by omega) (by simp at hlen;omega)) (fun t' H' k1 k2 k3 k4 k5=>hE t' H' k1 k2 (by simpa using k3) (by rw[k4];simp) (fun j hj=>by rw[k5 j hj,List.getElem?_set_ne (fun e=>hj e.symm)]))
   ·have hb':b≠69:=fun e=>h69 (by rw[e];rfl);have hr:za4 (pre++[b])=za4 pre++[b]:=by simp[za4,hb,hb']
    have hr2:za4 (b::L)=b::za4 L:=by simp[za4,hb,hb']
    have hl:zaf TT 64 H (.ptr p b.toNat)=some .nils:=by rw[zdU hB.1 _ hi,zvF N _ h95 h69]
    have hJW:(J:Int)<W:=by rw[hW,hr2,length_cons];omega
    have hzl:z<H.length:=zaa.lt hz;have hst:zbN TT 5 H (.ptr z J) (.i .u8 b.toNat)=some (H.set z (some (zen (za4 pre++[b]) (za4 L).length))):=by
     have e2:TT.size 5=some 1:=rfl;have hJl:J<(zen (za4 pre) (za4 (b::L)).length).cells.length:=by simp[zen,byV,hJ,hr2]
     have hcl:(V.i .u8 b.toNat).cells=[V.i .u8 b.toNat]:=rfl;unfold zbN;simp only[hzb,hcl];rw[if_pos ⟨e2,hJl,rfl⟩,zfV,setK_eq,hr2,length_cons,hJ,zl3];rfl
    have hF:=ai @h0 (ai @h1 (ai @h12 (ai @h13 (ai @h14 (ai @hlt (ai @hat (ai @hat2 (ai @hb1 (ai @hb2 (ai @hl (ai @hst (ai @hle @hJW))))))))))));refine zaP.round' ?_;apply sQ;apply rS hC
    ·iterate 4 refine gO (by simp[hF,-zaf,-zbN]<;>rfl) ?_
     rfl
    refine Tri.condG (o:=?od2) (b:=?bd2) ?gd2 ?rd2 ?yd2 ?nd2;case gd2=>simp[hF,-zaf,-zbN]<;>rfl
    case rd2=>rfl
    case yd2=>
     intro hy2;apply Tri.skip;apply sN;apply sQ;apply bK;apply rS hC
     ·iterate 4 refine gO (by simp[hF,-zaf,-zbN]<;>rfl) ?_
      rfl
     apply rS hC
     ·iterate 7 refine gO (by simp[hF,-zaf,-zbN]<;>rfl) ?_
      rfl
     refine cF (by simp[hF,-zaf,-zbN]<;>rfl) ?_;apply rS hC
     ·iterate 5 refine gO (by simp[hF,-zaf,-zbN]<;>rfl) ?_
      rfl
     apply rN hC
     ·iterate 3 refine gO (by simp[hF,-zaf,-zbN]<;>rfl) ?_
      rfl
     apply bN;apply sN;apply rN hC
     ·iterate 3 refine gO (by simp[hF,-zaf,-zbN]<;>rfl) ?_
      rfl
     refine zar ?_;refine ih (pre++[b]) _ _ W (J+1) (by rw[hr,hJ];simp) (by simpa using hlen) (by rw[hW,hr2,length_cons];omega) (hB.set hzn _) (by rw[List.getElem?_set_self hzl,hr])  (by simp[hw]) (by simp[h0]) (by simp[h1]) (by simp[h12]) (by simp[h13]<;>exact hn) (by simp[h14]<;>exact zak (by omega) (by simp at hlen;omega)) (fun t' H' k1 k2 k3 k4 k5=>hE t' H' k1 k2 (by simpa using k3) (by rw[k4];simp) (fun j hj=>by rw[k5 j hj,List.getElem?_set_ne (fun e=>hj e.symm)]))
    case nd2=>
     intro hn2;exact absurd hn2 (by simp[hF,-zaf,-zbN])
theorem zkZ {call:zad}(hC:call.Sound prog TT)(w16:IntKind.i64.wrap 16=16)(p N:Nat)(H:zaa)(hB:BsR H p N)(x:List UInt8)(hx:x.length<1100000)(hl256:zaf TT 37 H (.ptr p 256)=some (.sl N 1 0 2 (some 2)))(hcnt:∀(c:UInt8)(K:zaa),call 188 [.s x,.s [c]] K=.val (.i .i64 (Lib.countByte x c)) K)(h16:¬(16:Int)≤x.length)(W:Nat)(hWW:(W:Int)=W)(e5:(x.length:Int)-(x.count 95:Nat)=W)(e6:(false||x.any isX)=false)(hmk:zbf TT 64 (.i .i64 W) (.i .i64 W) H=.val (.sl H.length 1 0 W (some W)) (H++[some (zen [] W)]))(hrep:za4 x=x)   : zaO prog TT 186 [.ptr p 0,.s x] H (fun r=>∃B,r=.val (.s (za4 x)) B∧H.length≤B.length∧∀j,j<H.length→B[j]? = H[j]?):=by
 refine⟨f186,_,rfl,rfl,by simp[f186],?_⟩;have h0:(Tm.init f186.ntmps [.ptr p 0,.s x]).get 0=.ptr p 0:=by rw[zag];rfl
 have h1:(Tm.init f186.ntmps [.ptr p 0,.s x]).get 1=.s x:=by rw[zag];rfl
 have hw:(Tm.init f186.ntmps [.ptr p 0,.s x]).wid=122:=rfl;generalize Tm.init f186.ntmps [.ptr p 0,.s x]=t at *;try simp only[Nd.enc_eq]at *
 have hF:=ai @h0 (ai @h1 (ai @hl256 (ai @h16 @w16)));apply rS hC
 ·refine gO (by simp[hF,-zaf]<;>rfl) ?_;rfl
 apply rS hC
 ·iterate 3 refine gO (by simp[hF,-zaf]<;>rfl) ?_
  rfl
 apply rS hC
 ·refine gO (by simp[hF,-zaf]<;>rfl) ?_;rfl
 apply sQ;apply rS hC
 ·iterate 9 refine gO (by simp[hF,-zaf]<;>rfl) ?_
  rfl
 refine cF (by simp[hF,-zaf]<;>rfl) ?_;apply rS hC
 ·refine gO (by simp[hF,-zaf]<;>rfl) ?_;rfl
 apply bK;refine Tri.loop ?_;refine zhY hC p N H hB.1 x [] _ (x.length:Int) false (by simpa using hx) (by omega) (by omega) (by simp[hw]) (by simp[h0]) (by simp[h1]) (by simp<;>rfl) (by simp<;>rfl) (by simp<;>rfl) ?exit;case exit=>
  intro t2 hw h0 h1 h5 h6;rw[e5]at h5;rw[e6]at h6;refine zaw ?_;apply sN;apply sQ;apply rS hC
  ·iterate 2 refine gO (by simp[hF,-zaf,h0,h1,h5,h6,-zaf,hmk]<;>rfl) ?_
   rfl
  refine cT (by simp[hF,-zaf]<;>rfl) ?_;apply rS hC
  ·iterate 2 refine gO (by simp[hF,-zaf,h0,h1,h5,h6,-zaf,hmk]<;>rfl) ?_
   rfl
  apply Tri.ret;apply sR;refine⟨.s (za4 x),⟨_,rfl,Nat.le_refl _,fun _ _=>rfl⟩,?_⟩;simp[f186,h1,hrep]
theorem zkX {call:zad}(hC:call.Sound prog TT)(w16:IntKind.i64.wrap 16=16)(p N:Nat)(H:zaa)(hB:BsR H p N)(x:List UInt8)(hx:x.length<1100000)(hl256:zaf TT 37 H (.ptr p 256)=some (.sl N 1 0 2 (some 2)))(hcnt:∀(c:UInt8)(K:zaa),call 188 [.s x,.s [c]] K=.val (.i .i64 (Lib.countByte x c)) K)(h16:(16:Int)≤x.length)(W:Nat)(hWW:(W:Int)=W)(e5:(x.length:Int)-(Lib.countByte x 95:Nat)=W)(e6:(false||decide (Lib.countByte x 69≠0)||decide (Lib.countByte x 95≠0))=false)(hmk:zbf TT 64 (.i .i64 W) (.i .i64 W) H=.val (.sl H.length 1 0 W (some W)) (H++[some (zen [] W)]))(hrep:za4 x=x)   : zaO prog TT 186 [.ptr p 0,.s x] H (fun r=>∃B,r=.val (.s (za4 x)) B∧H.length≤B.length∧∀j,j<H.length→B[j]? = H[j]?):=by
 refine⟨f186,_,rfl,rfl,by simp[f186],?_⟩;have h0:(Tm.init f186.ntmps [.ptr p 0,.s x]).get 0=.ptr p 0:=by rw[zag];rfl
 have h1:(Tm.init f186.ntmps [.ptr p 0,.s x]).get 1=.s x:=by rw[zag];rfl
 have hw:(Tm.init f186.ntmps [.ptr p 0,.s x]).wid=122:=rfl;generalize Tm.init f186.ntmps [.ptr p 0,.s x]=t at *;try simp only[Nd.enc_eq]at *
 have hF:=ai @h0 (ai @h1 (ai @hl256 (ai @h16 @w16)));apply rS hC
 ·refine gO (by simp[hF,-zaf]<;>rfl) ?_;rfl
 apply rS hC
 ·iterate 3 refine gO (by simp[hF,-zaf]<;>rfl) ?_
  rfl
 apply rS hC
 ·refine gO (by simp[hF,-zaf]<;>rfl) ?_;rfl
 apply sQ;apply rS hC
 ·iterate 9 refine gO (by simp[hF,-zaf]<;>rfl) ?_
  rfl
 refine cT (by simp[hF,-zaf]<;>rfl) ?_;apply rS hC
 ·iterate 6 refine gO (by simp[hF,-zaf]<;>rfl) ?_
  rfl
 apply bK;refine Tri.loop ?_;refine zhX hC p N H hB.1 hB.2.1 x _ (x.length:Int) false hx (by omega) (by omega) hcnt (by simp[hw]) (by simp[h0]) (by simp[h1]) (by simp<;>rfl) (by simp<;>rfl) (by simp<;>rfl) (by simp<;>rfl) (by simp<;>rfl) ?exit;case exit=>
  intro t2 hw h0 h1 h5 h6;rw[e5]at h5;rw[e6]at h6;refine zaw ?_;apply sN;apply sQ;apply rS hC
  ·iterate 2 refine gO (by simp[hF,-zaf,h0,h1,h5,h6,-zaf,hmk]<;>rfl) ?_
   rfl
  refine cT (by simp[hF,-zaf]<;>rfl) ?_;apply rS hC
  ·iterate 2 refine gO (by simp[hF,-zaf,h0,h1,h5,h6,-zaf,hmk]<;>rfl) ?_
   rfl
  apply Tri.ret;apply sR;refine⟨.s (za4 x),⟨_,rfl,Nat.le_refl _,fun _ _=>rfl⟩,?_⟩;simp[f186,h1,hrep]
theorem zk0 {call:zad}(hC:call.Sound prog TT)(w16:IntKind.i64.wrap 16=16)(p N:Nat)(H:zaa)(hB:BsR H p N)(x:List UInt8)(hx:x.length<1100000)(hl256:zaf TT 37 H (.ptr p 256)=some (.sl N 1 0 2 (some 2)))(hcnt:∀(c:UInt8)(K:zaa),call 188 [.s x,.s [c]] K=.val (.i .i64 (Lib.countByte x c)) K)(h16:¬(16:Int)≤x.length)(W:Nat)(hWW:(W:Int)=W)(e5:(x.length:Int)-(x.count 95:Nat)=W)(e6:(false||x.any isX)=true)(hmk:zbf TT 64 (.i .i64 W) (.i .i64 W) H=.val (.sl H.length 1 0 W (some W)) (H++[some (zen [] W)]))(hW:W=0+(za4 x).length)(hzn:H.length≠p∧H.length≠N∧H.length≠N+4∧H.length≠N+7)(hB2:BsR (H++[some (zen [] W)]) p N)(hcv0:∀K:zaa,K[H.length]? = some (some (zen (za4 x) 0))→zaN TT 64 9 (.sl H.length 1 0 W (some W)) K=.val (.s (za4 x)) K)   : zaO prog TT 186 [.ptr p 0,.s x] H (fun r=>∃B,r=.val (.s (za4 x)) B∧H.length≤B.length∧∀j,j<H.length→B[j]? = H[j]?):=by
 refine⟨f186,_,rfl,rfl,by simp[f186],?_⟩;have h0:(Tm.init f186.ntmps [.ptr p 0,.s x]).get 0=.ptr p 0:=by rw[zag];rfl
 have h1:(Tm.init f186.ntmps [.ptr p 0,.s x]).get 1=.s x:=by rw[zag];rfl
 have hw:(Tm.init f186.ntmps [.ptr p 0,.s x]).wid=122:=rfl;generalize Tm.init f186.ntmps [.ptr p 0,.s x]=t at *;try simp only[Nd.enc_eq]at *
 have hF:=ai @h0 (ai @h1 (ai @hl256 (ai @h16 @w16)));apply rS hC
 ·refine gO (by simp[hF,-zaf]<;>rfl) ?_;rfl
 apply rS hC
 ·iterate 3 refine gO (by simp[hF,-zaf]<;>rfl) ?_
  rfl
 apply rS hC
 ·refine gO (by simp[hF,-zaf]<;>rfl) ?_;rfl
 apply sQ;apply rS hC
 ·iterate 9 refine gO (by simp[hF,-zaf]<;>rfl) ?_
  rfl
 refine cF (by simp[hF,-zaf]<;>rfl) ?_;apply rS hC
 ·refine gO (by simp[hF,-zaf]<;>rfl) ?_;rfl
 apply bK;refine Tri.loop ?_;refine zhY hC p N H hB.1 x [] _ (x.length:Int) false (by simpa using hx) (by omega) (by omega) (by simp[hw]) (by simp[h0]) (by simp[h1]) (by simp<;>rfl) (by simp<;>rfl) (by simp<;>rfl) ?exit;case exit=>
  intro t2 hw h0 h1 h5 h6;rw[e5]at h5;rw[e6]at h6;refine zaw ?_;apply sN;apply sQ;apply rS hC
  ·iterate 2 refine gO (by simp[hF,-zaf,h0,h1,h5,h6,-zaf,hmk]<;>rfl) ?_
   rfl
  refine cF (by simp[hF,-zaf]<;>rfl) ?_;apply Tri.skip;apply sN;apply rS hC
  ·iterate 3 refine gO (by simp[hF,-zaf,h0,h1,h5,h6,-zaf,hmk]<;>rfl) ?_
   rfl
  apply rS hC
  ·refine gO (by simp[hF,-zaf,h0,h1,h5,h6,-zaf,hmk]<;>rfl) ?_;rfl
  apply sQ;apply rS hC
  ·refine gO (by simp[hF,-zaf,h0,h1,h5,h6,-zaf,hmk]<;>rfl) ?_;rfl
  apply bK;refine Tri.loop ?_;refine zhZ hC p N H.length hzn x [] _ _ W 0 rfl (by simpa using hx) hW hB2 (by rw[List.getElem?_append_right (Nat.le_refl _),Nat.sub_self,hW,Nat.zero_add];rfl) (by simp[hw]) (by simp[h0]) (by simp[h1]) (by simp<;>rfl) (by simp<;>rfl) (by simp<;>rfl) ?exit2;case exit2=>
   intro t3 H3 hw h12 hz3 hl3 hk3;rw[nil_append]at hz3;have hcv:=hcv0 H3 hz3;refine zaw ?_;apply sN;apply rS hC
   ·iterate 3 refine gO (by simp[hF,-zaf,h12,hcv,-zaN]<;>rfl) ?_
    rfl
   apply Tri.ret;refine⟨.s (za4 x),⟨H3,rfl,by rw[hl3];simp,fun j hj=>by rw[hk3 j (by omega),List.getElem?_append_left hj]⟩,?_⟩;simp[f186]
theorem zkY {call:zad}(hC:call.Sound prog TT)(w16:IntKind.i64.wrap 16=16)(p N:Nat)(H:zaa)(hB:BsR H p N)(x:List UInt8)(hx:x.length<1100000)(hl256:zaf TT 37 H (.ptr p 256)=some (.sl N 1 0 2 (some 2)))(hcnt:∀(c:UInt8)(K:zaa),call 188 [.s x,.s [c]] K=.val (.i .i64 (Lib.countByte x c)) K)(h16:(16:Int)≤x.length)(W:Nat)(hWW:(W:Int)=W)(e5:(x.length:Int)-(Lib.countByte x 95:Nat)=W)(e6:(false||decide (Lib.countByte x 69≠0)||decide (Lib.countByte x 95≠0))=true)(hmk:zbf TT 64 (.i .i64 W) (.i .i64 W) H=.val (.sl H.length 1 0 W (some W)) (H++[some (zen [] W)]))(hW:W=0+(za4 x).length)(hzn:H.length≠p∧H.length≠N∧H.length≠N+4∧H.length≠N+7)(hB2:BsR (H++[some (zen [] W)]) p N)(hcv0:∀K:zaa,K[H.length]? = some (some (zen (za4 x) 0))→zaN TT 64 9 (.sl H.length 1 0 W (some W)) K=.val (.s (za4 x)) K)   : zaO prog TT 186 [.ptr p 0,.s x] H (fun r=>∃B,r=.val (.s (za4 x)) B∧H.length≤B.length∧∀j,j<H.length→B[j]? = H[j]?):=by
 refine⟨f186,_,rfl,rfl,by simp[f186],?_⟩;have h0:(Tm.init f186.ntmps [.ptr p 0,.s x]).get 0=.ptr p 0:=by rw[zag];rfl
 have h1:(Tm.init f186.ntmps [.ptr p 0,.s x]).get 1=.s x:=by rw[zag];rfl
 have hw:(Tm.init f186.ntmps [.ptr p 0,.s x]).wid=122:=rfl;generalize Tm.init f186.ntmps [.ptr p 0,.s x]=t at *;try simp only[Nd.enc_eq]at *
 have hF:=ai @h0 (ai @h1 (ai @hl256 (ai @h16 @w16)));apply rS hC
 ·refine gO (by simp[hF,-zaf]<;>rfl) ?_;rfl
 apply rS hC
 ·iterate 3 refine gO (by simp[hF,-zaf]<;>rfl) ?_
  rfl
 apply rS hC
 ·refine gO (by simp[hF,-zaf]<;>rfl) ?_;rfl
 apply sQ;apply rS hC
 ·iterate 9 refine gO (by simp[hF,-zaf]<;>rfl) ?_
  rfl
 refine cT (by simp[hF,-zaf]<;>rfl) ?_;apply rS hC
 ·iterate 6 refine gO (by simp[hF,-zaf]<;>rfl) ?_
  rfl
 apply bK;refine Tri.loop ?_;refine zhX hC p N H hB.1 hB.2.1 x _ (x.length:Int) false hx (by omega) (by omega) hcnt (by simp[hw]) (by simp[h0]) (by simp[h1]) (by simp<;>rfl) (by simp<;>rfl) (by simp<;>rfl) (by simp<;>rfl) (by simp<;>rfl) ?exit;case exit=>
  intro t2 hw h0 h1 h5 h6;rw[e5]at h5;rw[e6]at h6;refine zaw ?_;apply sN;apply sQ;apply rS hC
  ·iterate 2 refine gO (by simp[hF,-zaf,h0,h1,h5,h6,-zaf,hmk]<;>rfl) ?_
   rfl
  refine cF (by simp[hF,-zaf]<;>rfl) ?_;apply Tri.skip;apply sN;apply rS hC
  ·iterate 3 refine gO (by simp[hF,-zaf,h0,h1,h5,h6,-zaf,hmk]<;>rfl) ?_
   rfl
  apply rS hC
  ·refine gO (by simp[hF,-zaf,h0,h1,h5,h6,-zaf,hmk]<;>rfl) ?_;rfl
  apply sQ;apply rS hC
  ·refine gO (by simp[hF,-zaf,h0,h1,h5,h6,-zaf,hmk]<;>rfl) ?_;rfl
  apply bK;refine Tri.loop ?_;refine zhZ hC p N H.length hzn x [] _ _ W 0 rfl (by simpa using hx) hW hB2 (by rw[List.getElem?_append_right (Nat.le_refl _),Nat.sub_self,hW,Nat.zero_add];rfl) (by simp[hw]) (by simp[h0]) (by simp[h1]) (by simp<;>rfl) (by simp<;>rfl) (by simp<;>rfl) ?exit2;case exit2=>
   intro t3 H3 hw h12 hz3 hl3 hk3;rw[nil_append]at hz3;have hcv:=hcv0 H3 hz3;refine zaw ?_;apply sN;apply rS hC
   ·iterate 3 refine gO (by simp[hF,-zaf,h12,hcv,-zaN]<;>rfl) ?_
    rfl
   apply Tri.ret;refine⟨.s (za4 x),⟨H3,rfl,by rw[hl3];simp,fun j hj=>by rw[hk3 j (by omega),List.getElem?_append_left hj]⟩,?_⟩;simp[f186]
theorem zia:∀x:List UInt8,(za4 x).length+x.count 95=x.length
 | []=>rfl
 |c::x=>by
  have ih:=zia x;by_cases h:c=95
  ·subst h;have e:za4 (95::x)=za4 x:=by simp[za4]
   rw[e,count_cons_self,length_cons];omega
  ·have e:(za4 (c::x)).length=(za4 x).length+1:=by simp[za4,h]
   rw[e,count_cons_of_ne (fun e=>h e),length_cons];omega
theorem zok:∀x:List UInt8,(decide (Lib.countByte x 69≠0)||decide (Lib.countByte x 95≠0))=x.any isX
 | []=>rfl
 |c::x=>by
  have ih:=zok x;unfold Lib.countByte at ih ⊢;rw[any_cons,←ih];by_cases h:c=95
  ·subst h;simp[isX]
  ·by_cases h':c=69
   ·subst h';simp[isX]
   ·rw[count_cons_of_ne (fun e=>h e),count_cons_of_ne (fun e=>h' e)];simp[isX,h,h']
theorem zpV:∀x:List UInt8,x.any isX=false→za4 x=x
 | [],_=>rfl
 |c::x,h=>by
  rw[any_cons,Bool.or_eq_false_iff]at h;have ih:=zpV x h.2;have h1:c≠95∧c≠69:=by simpa[isX]using h.1
  have e:za4 (c::x)=c::za4 x:=by simp[za4,h1.1,h1.2]
  rw[e,ih]
theorem zjP:∀l:List UInt8,zcz (byV l)=some l
 | []=>rfl
 |c::l=>by
  have ih:=zjP l;show zcz (V.i .u8 c.toNat::byV l)=_;simp only[zcz,ih];simp
theorem zmF (v:V):∀n,zgk n [v]=List.replicate n v
 |0=>rfl
 |n+1=>by rw[zgk,zmF v n];rfl
theorem zv4 (H:zaa)(W:Nat)(hW:W<2000000):zbf TT 64 (.i .i64 W) (.i .i64 W) H=.val (.sl H.length 1 0 W (some W)) (H++[some (zen [] W)]):=by
 have e1:TT.und 64=some (.slice 5):=rfl;have e2:TT.size 5=some 1:=rfl;have e3:TT.zero 5=some (.i .u8 0):=rfl;have e4:TT.bytes 5=some 1:=rfl;have hcl:(V.i .u8 0).cells=[V.i .u8 0]:=rfl;simp only[zbf,e1,e2,e3,e4,hcl,za0];rw[if_pos ⟨rfl,by omega,by omega,by omega,by omega,by omega⟩,Int.toNat_natCast,zmF];rfl
theorem zvG (l:List UInt8)(z W:Nat)(hW:W=l.length)(K:zaa)(h:K[z]? = some (some (zen l 0))):zaN TT 64 9 (.sl z 1 0 W (some W)) K=.val (.s l) K:=by
 have e1:TT.und 64=some (.slice 5):=rfl;have e2:TT.und 9=some .string:=rfl;have e3:TT.und 5=some (.int .u8):=rfl;have hc:zau K z=some (zen l 0):=by simp[zau,h,zen]
 have hl:(byV l).length=l.length:=by simp[byV]
 have hcut:cut (zen l 0).cells 0 W=some (byV l):=by
  unfold cut zen;simp only[replicate_zero,append_nil];rw[if_pos (by omega),drop_zero,take_of_length_le (by omega)]
 simp only[zaN,e1,e2,e3,hc,hcut,zjP,if_true]
theorem zw4:∃g,zap prog TT 186 g∧∀(p N:Nat)(H:zaa)(x:List UInt8),BsR H p N→x.length<1100000→∃H',g [.ptr p 0,.s x] H=.val (.s (za4 x)) H'∧H.length≤H'.length∧∀j,j<H.length→H'[j]? = H[j]?:=by
 have hC:=ws n0 zza;have hcnt:∀(x:List UInt8)(c:UInt8)(K:zaa),(zad.none.with 188 zjs) 188 [.s x,.s [c]] K=.val (.i .i64 (Lib.countByte x c)) K:=fun x c K=>by rw[zao];rfl
 generalize zad.none.with 188 zjs=call at hC hcnt;obtain⟨g,k,s⟩:=zcm.spec (P:=prog) (F:=186) zah (D:=fun vs H=>∃(p N:Nat)(x:List UInt8),vs=[.ptr p 0,.s x]∧BsR H p N∧x.length<1100000)
  (R:=fun vs H r=>∃(p:Nat)(x:List UInt8),vs=[.ptr p 0,.s x]∧∃B,r=.val (.s (za4 x)) B∧H.length≤B.length∧∀j,j<H.length→B[j]? = H[j]?) (by
  rintro vs H ⟨p,N,x,rfl,hB,hx⟩;refine(zaO.fact zah (R:=fun r=>∃B,r=.val (.s (za4 x)) B∧H.length≤B.length∧∀j,j<H.length→B[j]? = H[j]?) ?_).mono fun r hr=>⟨p,x,rfl,hr⟩;have hc1:zau H p=some (bsB N):=by
   unfold zau;rw[hB.1];rfl
  have hl256:zaf TT 37 H (.ptr p 256)=some (.sl N 1 0 2 (some 2)):=by
   have h2:(bsB N).cells[256]? = some (.sl N 1 0 2 (some 2)):=by
    unfold bsB;simp only;rw[List.getElem?_append_right (by simp)];simp
   simp only[zaf,hc1];have e1:zcB (TT.und 37)=some false:=rfl;simp only[zbM,e1,zch,h2]
  have w16:IntKind.i64.wrap 16=16:=rfl;have hrc:=zia x;have hlp:p<H.length:=zaa.lt hB.1;have hlN:N<H.length:=zaa.lt hB.2.1;have hl4:N+4<H.length:=zaa.lt hB.2.2.1;have hl7:N+7<H.length:=zaa.lt hB.2.2.2;have hWl:(za4 x).length<2000000:=by omega
  have hmk:=zv4 H (za4 x).length hWl;have hzn:H.length≠p∧H.length≠N∧H.length≠N+4∧H.length≠N+7:=⟨by omega,by omega,by omega,by omega⟩;have hB2:BsR (H++[some (zen [] (za4 x).length)]) p N:=⟨by rw[List.getElem?_append_left hlp];exact hB.1,by rw[List.getElem?_append_left hlN];exact hB.2.1,by rw[List.getElem?_append_left hl4];exact hB.2.2.1,by rw[List.getElem?_append_left hl7];exact hB.2.2.2⟩;have hcv0:∀K:zaa,K[H.length]? = some (some (zen (za4 x) 0))→zaN TT 64 9 (.sl H.length 1 0 (za4 x).length (some (za4 x).length)) K=.val (.s (za4 x)) K:=fun K h=>zvG (za4 x) H.length _ rfl K h;have e5:(x.length:Int)-(x.count 95:Nat)=((za4 x).length:Nat):=by omega
  have e5':(x.length:Int)-(Lib.countByte x 95:Nat)=((za4 x).length:Nat):=e5;have hany:=zok x;cases ha:x.any isX with
  |false=>
   have hrep:=zpV x ha;have e6:(false||x.any isX)=false:=by rw[ha];rfl
   have e6':(false||decide (Lib.countByte x 69≠0)||decide (Lib.countByte x 95≠0))=false:=by rw[Bool.false_or,hany,ha]
   by_cases h16:(16:Int)≤x.length
   ·exact zkX hC w16 p N H hB x hx hl256 (hcnt x) h16 _ rfl e5' e6' hmk hrep
   ·exact zkZ hC w16 p N H hB x hx hl256 (hcnt x) h16 _ rfl e5 e6 hmk hrep
  |true=>
   have e6:(false||x.any isX)=true:=by rw[ha];rfl
   have e6':(false||decide (Lib.countByte x 69≠0)||decide (Lib.countByte x 95≠0))=true:=by rw[Bool.false_or,hany,ha]
   by_cases h16:(16:Int)≤x.length
   ·exact zkY hC w16 p N H hB x hx hl256 (hcnt x) h16 _ rfl e5' e6' hmk (by omega) hzn hB2 hcv0
   ·exact zk0 hC w16 p N H hB x hx hl256 (hcnt x) h16 _ rfl e5 e6 hmk (by omega) hzn hB2 hcv0)
 refine⟨g,k,fun p N H x h1 h2=>?_⟩;obtain⟨r,⟨p',x',he,B,rfl,h3,h4⟩,hr⟩:=s _ H ⟨p,N,x,rfl,h1,h2⟩;simp only[List.cons.injEq,V.ptr.injEq,V.s.injEq,and_true]at he;obtain⟨rfl,rfl⟩:=he;exact⟨B,hr,h3,h4⟩
theorem zwU:∃g,zap prog TT 79 g∧∀(m q:Nat)(H:zaa)(x:List UInt8),x.length<1100000→m≠q→H[m]? = some (some onB)→H[q]? = some (some (rpB 0 0 .nili (.sl m 1 0 4 none)))→∃B,g [.ptr q 0,.s x] H=.val (.s (za4 x)) B∧H.length≤B.length∧∀j,j<H.length→j≠q→B[j]? = H[j]?:=by
 obtain⟨g1,k1,s1⟩:=zwZ;obtain⟨g2,k2,s2⟩:=zw4;have hC:=ws (ws n0 k1) k2;have c1:∀(m q:Nat)(H:zaa),m≠q→H[m]? = some (some onB)→H[q]? = some (some (rpB 0 0 .nili (.sl m 1 0 4 none)))→∃B,((zad.none.with 98 g1).with 186 g2) 98 [.ptr q 0,.bfn 99 [.ptr q 0]] H=.val .un B∧DoR H q B:=fun m q H h1 h2 h3=>by
  rw[zac _ _ _ _ rfl,zao];exact s1 m q H h1 h2 h3
 have c2:BsH ((zad.none.with 98 g1).with 186 g2):=fun p N H x h1 h2=>by
  rw[zao];exact s2 p N H x h1 h2
 generalize(zad.none.with 98 g1).with 186 g2=call at hC c1 c2;obtain⟨g,k,s⟩:=zcm.spec (P:=prog) (F:=79) zah (D:=fun vs H=>∃(m q:Nat)(x:List UInt8),vs=[.ptr q 0,.s x]∧x.length<1100000∧m≠q∧H[m]? = some (some onB)∧H[q]? = some (some (rpB 0 0 .nili (.sl m 1 0 4 none))))
  (R:=fun vs H r=>∃(q:Nat)(x:List UInt8),vs=[.ptr q 0,.s x]∧∃B,r=.val (.s (za4 x)) B∧H.length≤B.length∧∀j,j<H.length→j≠q→B[j]? = H[j]?) (by
  rintro vs H ⟨m,q,x,rfl,hx,hne,hm,hq⟩;exact(zaO.fact zah (zoE hC m q H x hx hne hm hq (c1 m q H hne hm hq) c2)).mono fun r hr=>⟨q,x,rfl,hr⟩)
 refine⟨g,k,fun m q H x h1 h2 h3 h4=>?_⟩;obtain⟨r,⟨q',x',he,B,rfl,h5,h6⟩,hr⟩:=s _ H ⟨m,q,x,rfl,h1,h2,h3,h4⟩;simp only[List.cons.injEq,V.ptr.injEq,V.s.injEq,and_true]at he;obtain⟨rfl,rfl⟩:=he;exact⟨B,hr,h5,h6⟩
theorem ztT (s:List UInt8)(at_:Int)(hs:s.length<1100000):zvd s at_:=by
 intro m t hd hm hw t2 t3 t6;obtain⟨g1,k1,s1⟩:=zwT;obtain⟨g2,k2,s2⟩:=zwU;have hC:=ws (ws n0 k1) k2;have hb0:∃b0,(zhD s at_)[0]? = some (some b0)∧zaf TT 9 (zhD s at_) (.ptr 0 0)=some (.s s):=⟨_,rfl,by rfl⟩;have h1:=s1 3 (zhD s at_++[some wdB]) (by rfl);obtain⟨B,c1,b1,b2,b3,b4⟩:=h1;have h2:=s2 4 5 B (s.take m) (by rw[length_take];omega) (by omega) b3 b4;obtain⟨B2,c2,d1,d2⟩:=h2;have c1':((zad.none.with 78 g1).with 79 g2) 78 [.sl 3 1 0 4 (some 4)] [some ⟨9,[.s s],.all⟩,some ⟨3,[.i .i64 at_],.all⟩,none,some wdB]=.val (.ptr 5 0) B:=by
  rw[zac _ _ _ _ rfl,zao];exact c1
 have c2':((zad.none.with 78 g1).with 79 g2) 79 [.ptr 5 0,.s (s.take m)] B=.val (.s (za4 (s.take m))) B2:=by
  rw[zao];exact c2
 generalize(zad.none.with 78 g1).with 79 g2=call at hC c1' c2';have x1:TT.ext 78=none:=rfl;have x2:TT.ext 79=none:=rfl;have hbs:zaK TT 37 4 [(0,.s [95]),(1,.s []),(2,.s [69]),(3,.s [101])] (zhD s at_)=.val (.sl 3 1 0 4 (some 4)) (zhD s at_++[some wdB]):=by rfl
 have A1:∀K:zaa,K[0]? = some (some ⟨9,[.s s],.all⟩)→zaf TT 9 K (.ptr 0 0)=some (.s s):=fun K h=>by simp[zaf,zau,h,zbM,zcB,zch]
 have hB0:B[0]? = some (some ⟨9,[.s s],.all⟩):=by rw[b2 0 (by show 0<4;omega)];rfl
 have hB20:B2[0]? = some (some ⟨9,[.s s],.all⟩):=by rw[d2 0 (by rw[b1];show 0<4+2;omega) (by decide)];exact hB0
 have hle:(m:Int)≤s.length:=by omega
 show Tri prog TT (.region _ _ _) t (zhD s at_) _;refine Tri.regN (t':=?t1) (H':=?H1) zah hC ?e1 ?q1;case e1=>
  refine zbY (t':=?t1) (H':=?H1) (ks:=[.e,.e,.a,.q,.q,.e,.q,.q,.q,.q]) (fun K=>K[0]? = some (some ⟨9,[.s s],.all⟩)) (by kernel_rfl) ?A1 ?_ ?r1;case A1=>rfl
  refine DR.eff rfl rfl (by simp[hbs,zcc]<;>rfl) (by rfl) (by simp[hw]) (by rfl) ?_;refine DR.eff rfl rfl (by simp[c1',x1]<;>rfl) (by rfl) (by simp[hw]) hB0 ?_;refine DR.any rfl (by simp[t2,A1 B hB0,-zaf]<;>rfl) (by rfl) (by simp[hw]) (by intro K hK;simp[t2,A1 K hK,-zaf]<;>rfl) ?_;refine DR.blind rfl rfl (by simp[t6]<;>rfl) (by rfl) (by simp[hw]) ?_;refine DR.blind rfl rfl (by simp[hm]<;>rfl) (by rfl) (by simp[hw]) ?_;refine DR.eff rfl rfl (by simp[c2',x2]<;>rfl) (by rfl) (by simp[hw]) hB20 ?_;refine DR.blind rfl rfl (by simp[t6]<;>rfl) (by rfl) (by simp[hw]) ?_;iterate 3 refine DR.blind rfl rfl (by simp<;>rfl) (by rfl) (by simp[hw]) ?_
  exact DR.nil;case r1=>exact rfl
 show Tri prog TT .ret _ _ _;apply Tri.ret;show za1 TT f51 _ (.ret _ _);refine⟨.tup [.i .i64 4,.s (za4 (s.take m)),.i .i64 m],?_,?_⟩
 ·rw [hd];first
   |exact⟨B2,rfl⟩
   |rfl
 ·simp[f51]
theorem zs1:∃g,zap prog TT 11 g∧∀(s:List UInt8)(H:zaa),g [.s s] H=.val (zqk (zjG s)) H:=by
 obtain⟨g,k,h⟩:=zkE (fun _=>True) fun s at_ _ hs=>ztT s at_ hs;exact⟨g,k,fun s H=>h s (fun _=>zkz s _ 0 true) H⟩
#print axioms zs1
abbrev zx5:E:=.f1 .vb (.va 0)
abbrev zyL:E:=.f1 .tup (.f2 .cons (.va 0) (.f2 .cons (.f1 (.vi .i64) (.va 1)) (.f2 .cons (.f1 (.vi .i64) (.va 2)) .nil)))
def shq:Nat→Option Shape:=fun f=>
 if f=10 then some ⟨[.b],zx5,.pure,false⟩else
 if f=11 then some ⟨[.v,.i,.i],zyL,.pure,false⟩else
 if f=12 then some ⟨[.v,.i,.i],zyL,.pure,false⟩else
 if f=13 then some ⟨[.b],zx5,.pure,false⟩else
 if f=14 then some ⟨[.b],zx5,.pure,false⟩else
 if f=34 then some ⟨[.v],.va 0,.pure,false⟩else
 shp f
theorem zyz:za2 TT shq f3.ntmps [] (zae f3) [] ⟨[(0,.f1 .vs (.va 0))],⟨.va 1,[],[]⟩,2,[]⟩ (KF TT f3 [])=let qd:SH:=⟨v1,[],[]⟩;let qc:Tree:=.stuck 0;let qb:Tree:=.fin (xb (.cb false)) qd;let qa:Tree:=.asks (.call 11 (x1 (xs v0))) [.v,.i,.i] (xt (x3 v2 (xi v3) (xi v4))) (.asks (.call 12 (x1 (xs v0))) [.v,.i,.i] (xt (x3 v5 (xi v6) (xi v7))) (.asks (.call 13 (x2 v2 v5)) [.b] (xb v8) (.ite v8 (.ite (xe v3 v6) (.ite (xe v4 v7) (.asks (.call 10 .nil) [.b] (xb v9) (.fin (xb v9) qd) qc) qb) qb) qb) qc) qc) qc;.ite (xG (xl v0) (xc 2000)) (.ite (xE (xl v0) (xc 20000)) (.asks (.call 10 .nil) [.b] (xb v2) (.fin (xb v2) qd) qc) qa) qa:=by kernel_rfl
theorem zw8:za2 TT shq f13.ntmps [] (zae f13) [] ⟨[(0,.f1 (.isl 4) (.va 0)),(1,.f1 (.isl 4) (.va 1))],⟨.va 2,[],[]⟩,3,[]⟩ (KF TT f13 [1,12,13,14])=.ite (xM (xn v0) (xn v1)) (.fin (xb (.cb false)) ⟨v2,[],[]⟩) (.leaf (.stop [true,true,false,true,false]) [(1,.f1 (.isl 4) v1),(12,.f1 (.isl 4) v0),(13,xi (xn v0)),(14,xi c0)] ⟨v2,[],[]⟩):=by kernel_rfl
theorem zw9:goT TT shq f13.ntmps [] [true,true,false,true,false,false] (zae f13) [] ⟨[(1,.f1 (.isl 4) (.va 1)),(12,.f1 (.isl 4) (.va 0)),(13,.f1 (.vi .i64) (.f1 .lenL (.va 0))),(14,.f1 (.vi .i64) (.va 3))],⟨.va 2,[],[]⟩,4,[]⟩ (KF TT f13 [1,12,13,14])=let qb:E:=x4 (xi v4) (xs v5) (xi v6) (xb v7);let qa:SH:=⟨v2,[],[xk 34 qb]⟩;.ite (xL v3 (xn v0)) (.need (xE c0 v3) (.ask (.load 34 (.f3 (.ipt 4 0) v0 v3 .nil)) ⟨v2,[],[]⟩ [.i,.s,.i,.b] (xg qb) false (.need (xL v3 (xn v1)) (.ask (.load 44 (.f3 (.ipt 4 0) v1 v3 .nil)) qa [.i,.s,.i,.b] (xg (x4 (xi v8) (xs v9) (xi v10) (xb v11))) false (.ite (.f2 .andB (xe v4 v8) (.f2 .andB (xQ v5 v9) (.f2 .andB (xe v6 v10) (.f2 .andB (.f2 .eqB v7 v11) (.cb true))))) (.leaf (.again [true,true,false,true,false,false]) [(1,.f1 (.isl 4) v1),(12,.f1 (.isl 4) v0),(13,xi (xn v0)),(14,xi (xw (xa v3 c1)))] qa) (.fin (xb (.cb false)) qa)) (.stuck 0))) (.stuck 0))) (.fin (xb (.cb true)) ⟨v2,[],[]⟩):=by kernel_rfl
theorem zxa:za2 TT shq f13.ntmps [] (zae f13) [] ⟨[(0,.f1 (.isl 4) (.va 0)),(1,.cv .nils)],⟨.va 1,[],[]⟩,2,[]⟩ (KF TT f13 [1,12,13,14])=.ite (xM (xn v0) c0) (.fin (xb (.cb false)) ⟨v1,[],[]⟩) (.leaf (.stop [true,true,false,true,false]) [(1,.cv .nils),(12,.f1 (.isl 4) v0),(13,xi (xn v0)),(14,xi c0)] ⟨v1,[],[]⟩):=by kernel_rfl
theorem zxb:goT TT shq f13.ntmps [] [true,true,false,true,false,false] (zae f13) [] ⟨[(1,.cv .nils),(12,.f1 (.isl 4) (.va 0)),(13,.f1 (.vi .i64) (.f1 .lenL (.va 0))),(14,.f1 (.vi .i64) (.ci 0))],⟨.va 1,[],[]⟩,2,[]⟩ (KF TT f13 [1,12,13,14])=.ite (xL c0 (xn v0)) (.ask (.load 34 (.f3 (.ipt 4 0) v0 c0 .nil)) ⟨v1,[],[]⟩ [.i,.s,.i,.b] (xg (x4 (xi v2) (xs v3) (xi v4) (xb v5))) false (.stuck 9) (.stuck 0)) (.fin (xb (.cb true)) ⟨v1,[],[]⟩):=by kernel_rfl
def zcr (l:List Tk):List V:=l.map fun x=>.agg (tkL x)
theorem zsS {ty:TypeId}(ha:zcB (TT.und ty)=some true)(hs:TT.size ty=some 4){l:List Tk}{i:Nat}{x:Tk}(h:l[i]? = some x)(H:zaa):zaf TT ty H (.ipt 4 (zcr l) i 0)=some (.agg (tkL x)):=by
 simp only[zaf,zcr,List.getElem?_map,h,Option.map_some,zbM,ha,hs];rfl
theorem ztV {call:zad}(hC:call.Sound prog TT)(l r:List Tk)(hl:l.length<1100000)(he:l.length=r.length) :
 ∀(n i:Nat)(t:Tm)(H:zaa),l.length<n+i→i≤l.length→t.wid=f13.ntmps→t.get 1=.isl 4 (zcr r)→t.get 12=.isl 4 (zcr l)→t.get 13=.i .i64 l.length→t.get 14=.i .i64 (i:Nat) →
 ctx prog TT [true,true,false,true,false,false] (zae f13) (za1 TT f13 (isR (.val (.b (decide (l.drop i=r.drop i)))))) (.norm t H):=by
 intro n;induction n with
 |zero=>intro i t H h1 h2;omega
 |succ n ih=>
  intro i t H hn hi hw t1 t12 t13 t14;have hlr:(zcr l).length=l.length:=by simp[zcr]
  have hrr:(zcr r).length=r.length:=by simp[zcr]
  refine zaP.symIn (p:=[true,true,false,true,false]) zah hC rfl zw9 (by kernel_rfl) [.ul (zcr l),.ul (zcr r),.uh H,.ui (i:Nat)] rfl hw ⟨t1,t12,by rw[t13,←hlr];rfl,t14,trivial⟩ rfl (zaW _ _) ?_;clear t1 t12 t13 t14 hw;simp -implicitDefEqProofs only[VC,isR,exU,Ask.den,forall_eq,E.den,O1.den,O2.den,O3.den,U.int_ui,U.boo_ub,U.val_uv,U.lst_ul,U.str_us,U.nat_un,U.heap_uh,SH.den,zaF,zbH,bD,SB.den,zas,LQ,cons_append,nil_append,List.getElem?_cons_zero,List.getElem?_cons_succ,Option.getD_some,zam,zai,zan,zaj,beq_iff_eq,bne_iff_ne,beq_eq_false_iff_ne,Int.toNat_natCast,Bool.false_eq_true,if_false,if_true];have w1:IntKind.i64.wrap ((i:Int)+1)=((i+1:Nat):Int):=by rw[w64 (by omega) (by omega)];omega
  simp only[w1,Int.toNat_natCast];refine⟨fun h=>⟨by omega,.inl ?_⟩,fun h=>?_⟩
  ·have h1:i<l.length:=by omega
   have h2:i<r.length:=by omega
   refine⟨l[i].1,l[i].2.1,l[i].2.2.1,l[i].2.2.2,?_,by omega,.inl ⟨r[i].1,r[i].2.1,r[i].2.2.1,r[i].2.2.2,?_,?_,?_⟩⟩
   ·rw[zsS rfl rfl (List.getElem?_eq_getElem h1)];rfl
   ·rw[zsS rfl rfl (List.getElem?_eq_getElem h2)];rfl
   ·intro hq t' hw' f1 f12 f13 f14;simp only[Bool.and_eq_true,beq_iff_eq]at hq;have hx:l[i]=r[i]:=Prod.ext hq.1 (Prod.ext hq.2.1 (Prod.ext hq.2.2.1 hq.2.2.2.1));have e:decide (l.drop i=r.drop i)=decide (l.drop (i+1)=r.drop (i+1)):=by
     have e1:l.drop i=r[i]::l.drop (i+1):=by rw[←hx];exact drop_eq_getElem_cons h1
     have e2:r.drop i=r[i]::r.drop (i+1):=drop_eq_getElem_cons h2;rw[e1,e2,decide_eq_decide];exact⟨fun h=>(List.cons.inj h).2,fun h=>by rw[h]⟩
    rw[e];exact ih (i+1) t' _ (by omega) (by omega) hw' f1 f12 (by rw[f13,hlr]) f14
   ·intro hq;have hx:l.drop i≠r.drop i:=fun e=>by
     rw[drop_eq_getElem_cons h1,drop_eq_getElem_cons h2]at e;rw[(List.cons.inj e).1]at hq;simp at hq
    rw[decide_eq_false hx]
  ·rw[drop_eq_nil_of_le (by omega),drop_eq_nil_of_le (by omega)];rfl
theorem zrv {call:zad}(hC:call.Sound prog TT)(t:Tm)(H:zaa)(hw:t.wid=f13.ntmps)(t1:t.get 1=.nils)(t12:t.get 12=.isl 4 [])(t13:t.get 13=.i .i64 0)(t14:t.get 14=.i .i64 0) :
 ctx prog TT [true,true,false,true,false,false] (zae f13) (za1 TT f13 (isR (.val (.b true)))) (.norm t H):=by
 refine zaP.symIn (p:=[true,true,false,true,false]) zah hC rfl zxb (by kernel_rfl) [.ul [],.uh H] rfl hw ⟨t1,t12,t13,t14,trivial⟩ rfl (zaW _ _) ?_;simp -implicitDefEqProofs only[VC,isR,exU,Ask.den,forall_eq,E.den,O1.den,O2.den,O3.den,U.int_ui,U.boo_ub,U.val_uv,U.lst_ul,U.str_us,U.nat_un,U.heap_uh,SH.den,zaF,zbH,bD,SB.den,zas,LQ,cons_append,nil_append,List.getElem?_cons_zero,List.getElem?_cons_succ,Option.getD_some,zam,zai,zan,zaj,beq_iff_eq,bne_iff_ne,beq_eq_false_iff_ne,Int.toNat_natCast,Bool.false_eq_true,if_false,if_true];simp
def alA (p:List Tk×Option (List Tk)):List V:=[.isl 4 (zcr p.1),match p.2 with|some r=>.isl 4 (zcr r)|none=>.nils]
theorem zwK:∃g,zap prog TT 13 g∧∀p:List Tk×Option (List Tk),(p.1.length<1100000∧(p.2=none→p.1=[]))→∀H,g (alA p) H=(Res.val (.b (decide (p.1=p.2.getD [])))).at H:=by
 have hnl:∀l:List Tk,nl (.isl 4 (zcr l))=true:=fun l=>by
  show nlL (zcr l)=true;unfold zcr;induction l with
  |nil=>rfl
  |cons x l ih=>
   show(nl (V.agg (tkL x))&&nlL (l.map fun x=>V.agg (tkL x)))=true;rw[ih];rfl
 have hin:∀l r:List Tk,zcr l=zcr r→l=r:=fun l r h=>by
  refine(map_inj_right (f:=fun x:Tk=>V.agg (tkL x)) fun x y e=>?_).1 h;simp only[V.agg.injEq,tkL,List.cons.injEq,V.i.injEq,V.s.injEq,V.b.injEq,true_and,and_true]at e;exact Prod.ext e.1 (Prod.ext e.2.1 (Prod.ext e.2.2.1 e.2.2.2))
 refine zcx zah zat 13 alA _ (fun p=>.val (.b (decide (p.1=p.2.getD [])))) (fun p _=>⟨?_,rfl⟩) (fun a b _ _ h=>?_) fun p hp=>?_
 ·obtain⟨l,_|r⟩:=p
  ·show(nl (.isl 4 (zcr l))&&(nl .nils&&true))=true;rw[hnl];rfl
  ·show(nl (.isl 4 (zcr l))&&(nl (.isl 4 (zcr r))&&true))=true;rw[hnl,hnl];rfl
 ·obtain⟨l,r⟩:=a;obtain⟨l',r'⟩:=b;simp only[alA,List.cons.injEq,V.isl.injEq,true_and,and_true]at h;rw[hin _ _ h.1];cases r with
  |none=>
   cases r' with
   |none=>rfl
   |some r'=>cases h.2
  |some r=>
   cases r' with
   |none=>cases h.2
   |some r'=>
    have h2:=h.2;simp only[V.isl.injEq,true_and]at h2;rw[hin _ _ h2]
 ·obtain⟨l,_|r⟩:=p
  ·simp only at hp;have hl:=hp.2 trivial;subst hl;refine zaO.sym zah n0 (fn:=f13) rfl rfl (by simp[f13,alA]) zxa (by kernel_rfl) [.ul [],.uh []] rfl ⟨by rw[zag];rfl,by rw[zag];rfl,trivial⟩ rfl (zaW _ _) ?_;simp -implicitDefEqProofs only[VC,isR,exU,Ask.den,forall_eq,E.den,O1.den,O2.den,O3.den,U.int_ui,U.boo_ub,U.val_uv,U.lst_ul,U.str_us,U.nat_un,U.heap_uh,SH.den,zaF,zbH,bD,SB.den,zas,LQ,cons_append,nil_append,List.getElem?_cons_zero,List.getElem?_cons_succ,Option.getD_some,zam,zai,zan,zaj,beq_iff_eq,bne_iff_ne,beq_eq_false_iff_ne,Int.toNat_natCast];refine⟨fun h=>absurd rfl h,fun _ t hw t1 t12 t13 t14=>?_⟩;exact Tri.symLoop rfl (zrv n0 t _ hw t1 t12 t13 t14)
  ·simp only at hp ⊢;have hlr:(zcr l).length=l.length:=by simp[zcr]
   have hrr:(zcr r).length=r.length:=by simp[zcr]
   refine zaO.sym zah n0 (fn:=f13) rfl rfl (by simp[f13,alA]) zw8 (by kernel_rfl) [.ul (zcr l),.ul (zcr r),.uh []] rfl ⟨by rw[zag];rfl,by rw[zag];rfl,trivial⟩ rfl (zaW _ _) ?_;simp -implicitDefEqProofs only[VC,isR,exU,Ask.den,forall_eq,E.den,O1.den,O2.den,O3.den,U.int_ui,U.boo_ub,U.val_uv,U.lst_ul,U.str_us,U.nat_un,U.heap_uh,SH.den,zaF,zbH,bD,SB.den,zas,LQ,cons_append,nil_append,List.getElem?_cons_zero,List.getElem?_cons_succ,Option.getD_some,zam,zai,zan,zaj,beq_iff_eq,bne_iff_ne,beq_eq_false_iff_ne,Int.toNat_natCast];rw[hlr,hrr];refine⟨fun h=>?_,fun h t hw t1 t12 t13 t14=>?_⟩
   ·rw [decide_eq_false (fun e=>by
     rw[show l=r from e]at h;simp at h)]
   ·have he:l.length=r.length:=Int.ofNat.inj (by simpa using h);have:=ztV n0 l r hp.1 he (l.length+1) 0 t [] (by omega) (by omega) hw t1 t12 t13 t14;rw[drop_zero,drop_zero]at this;exact Tri.symLoop rfl this
theorem zmL {s:List UInt8}:∀(n i:Nat)(b:Bool)(acc l:List Tk),i≤s.length→zij s n i b acc=.inl l→l.length+i≤acc.length+s.length
 |0,i,b,acc,l,hi,h=>by cases h;omega
 |n+1,i,b,acc,l,hi,h=>by
  simp only[zij]at h;split at h
  ·cases h
  ·rename_i j l' hs;have hk:=zsZ hi hs;split at h
   ·cases h;omega
   ·split at h
    ·cases h
    ·rename_i k t m ht;have hm:=zqG ht;rw[length_drop]at hm;simp only at hm;have:=zmL n _ _ _ _ (by omega) h;simp only[length_append,length_cons,length_nil]at this;omega
theorem zsm {s:List UInt8}{l:List Tk}(h:zoi s (.inl l)):zjG s=(l,0,0)∧l.length≤s.length:=by
 have e:=zkA h;unfold zjG;split at e
 ·cases e
 ·rename_i hl;rw[if_neg hl];cases hf:zij s (s.length+1) 0 true []with
  |inl l'=>
   rw[hf]at e;simp only[zxQ,Sum.inl.injEq]at e;subst e;have:=zmL _ _ _ _ _ (by omega) hf;exact⟨rfl,by simpa using this⟩
  |inr p=>rw[hf]at e;cases e
theorem zsn {s:List UInt8}{p:Int×Int}(h:zoi s (.inr p)):∃a c:Nat,p=((a:Int),(c:Int))∧zjG s=([],a,c):=by
 have e:=zkA h;unfold zjG;split at e
 ·rename_i hl;rw[if_pos hl];cases e;exact⟨0,16,rfl,rfl⟩
 ·rename_i hl;rw[if_neg hl];cases hf:zij s (s.length+1) 0 true []with
  |inl l'=>rw[hf]at e;cases e
  |inr q=>
   rw[hf]at e;simp only[zxQ,Sum.inr.injEq]at e;exact⟨_,_,e,rfl⟩
theorem zpA (s:List UInt8)(h1:s.length<1100000):zjD prog TT 3 [.s s] (.val (.b true)):=by
 obtain⟨g1,k1,s1⟩:=zwJ;obtain⟨g2,k2,s2⟩:=zs1;obtain⟨g3,k3,s3⟩:=zwt;obtain⟨g4,k4,s4⟩:=zwK;have hC:=ws (ws (ws (ws n0 k1) k2) k3) k4;generalize hc:(((zad.none.with 10 g1).with 11 g2).with 12 g3).with 13 g4=call at hC;have c1:∀H,call 10 [] H=.val (.b true) H:=fun H=>by rw[←hc,zac _ _ _ _ rfl,zac _ _ _ _ rfl,zac _ _ _ _ rfl,zao];exact s1 H
 have c2:∀H,call 11 [.s s] H=.val (zqk (zjG s)) H:=fun H=>by rw[←hc,zac _ _ _ _ rfl,zac _ _ _ _ rfl,zao];exact s2 s H
 obtain⟨r,hr,s3⟩:=s3 s (by omega);have c3:∀H,call 12 [.s s] H=.val (zvw r) H:=fun H=>by rw[←hc,zac _ _ _ _ rfl,zao];exact s3 H
 have c4:∀p:List Tk×Option (List Tk),(p.1.length<1100000∧(p.2=none→p.1=[]))→∀H,call 13 (alA p) H=.val (.b (decide (p.1=p.2.getD []))) H:=fun p hp H=>by rw[←hc,zao];exact s4 p hp H
 clear hc;apply zaI.of1;apply zaO.pure;refine zaO.sym zah hC (fn:=f3) rfl rfl (by simp[f3]) zyz (by kernel_rfl) [.us s,.uh []] rfl ⟨by rw[zag];rfl,trivial⟩ rfl (zaW _ _) ?_;simp -implicitDefEqProofs only[VC,isR,exU,Ask.den,forall_eq,E.den,O1.den,O2.den,O3.den,U.int_ui,U.boo_ub,U.val_uv,U.lst_ul,U.str_us,U.nat_un,U.heap_uh,SH.den,zaF,zbH,bD,SB.den,zas,LQ,cons_append,nil_append,List.getElem?_cons_zero,List.getElem?_cons_succ,Option.getD_some,zam,zai,zan,zaj,beq_iff_eq,bne_iff_ne,beq_eq_false_iff_ne,Int.toNat_natCast];refine⟨fun h=>⟨fun h2=>.inl ⟨true,c1,rfl⟩,fun h2=>?_⟩,fun h=>?_⟩;all_goals
  rcases r with l|p
  ·obtain⟨e,hl⟩:=zsm hr;rw[e]at c2;have c5:=c4 (l,some l) ⟨by simp only;omega,fun h=>by cases h⟩;simp only[Option.getD_some,decide_true]at c5;exact .inl ⟨_,_,_,c2,.inl ⟨_,_,_,c3,.inl ⟨true,c5,fun _=>⟨fun _=>⟨fun _=>.inl ⟨true,c1,rfl⟩,fun h=>absurd rfl h⟩,fun h=>absurd rfl h⟩,fun h=>by cases h⟩⟩⟩
  ·obtain⟨a,c,rfl,e⟩:=zsn hr;rw[e]at c2;have c5:=c4 ([],none) ⟨by simp,fun _=>rfl⟩;simp only[Option.getD_none,decide_true]at c5;exact .inl ⟨_,_,_,c2,.inl ⟨_,_,_,c3,.inl ⟨true,c5,fun _=>⟨fun _=>⟨fun _=>.inl ⟨true,c1,rfl⟩,fun h=>absurd rfl h⟩,fun h=>absurd rfl h⟩,fun h=>by cases h⟩⟩⟩
open Go.ChangeShapes Go.WideShapes Go.RowKit
open Go.Proofs.YtmjplflnlggbeaaGreatDoor (Rows.uptoBulk Rows.uptoBulkAll Rows.tokenScansSpec Rows.tokenScansUptoRow Rows.uptoSmall Rows.OpenSpec.upto)
section
variable {H:Type}{enc:TypeId×Value→H}{W W':World}
theorem zfk {sp:Nat→Bool}:∀{ts:List TypeId}{vs:List Value}{ds:List (DataW H)}{ps:List MemPlace},DataW.TrodAll enc prog W 0 sp true ts vs ds ps→(∀p∈ps,W.sameAt W' p)→DataW.TrodAll enc prog W' 0 sp true ts vs ds ps
 | [],[],[],_,h,_=>h
 |_::_,_::_,_::_,_,⟨p,q,⟨n,h1⟩,h2,e⟩,hs=>⟨p,q,⟨n,DataW.trod_carry n _ _ _ h1 fun x hx=>hs x (by rw[e];exact mem_append_left _ hx)⟩,zfk h2 fun x hx=>hs x (by rw[e];exact mem_append_right _ hx),e⟩
theorem znW (hb:Below W.heap.size W W')(p:MemPlace)(hp:p.block<W.heap.size):W.sameAt W' p:=by
 cases p with
 |cell b off=>
  show W'.cell? ⟨b,off,none⟩=W.cell? ⟨b,off,none⟩;unfold World.cell?;rw[hb.block b hp]
 |map b=>exact hb.block b hp
theorem znC (hb:Below W.heap.size W W')(may:MemPlace→Prop):W.keptBut W' may:=by
 refine⟨hb.os,hb.output,fun i hi=>?_⟩;rw[hb.block i hi];exact(World.keptBut_refl W may).2.2 i hi
theorem zyi:Kids prog (·<prog.types.size):=kids_rows (by kernel_rfl) (by kernel_rfl)
theorem zvy {base:Nat}{v:Value}{d:DataW H}{p:List MemPlace}(hok:Value.okWide prog W .any base 9 v)(h:DataW.Trod enc prog W 0 (fun _=>true) true 9 v d p) :
 ∃s:List UInt8,rel (zlt W) [] (.s s) v∧s.length<Rows.uptoBulk d:=by
 have hv:∃s:ByteArray,v=.string s:=by
  unfold Value.okWide Cell.okWide Cell.ok at hok;rw[Tryz.underlying9]at hok;cases v<;>simp at hok;exact⟨_,rfl⟩
 obtain⟨s,rfl⟩:=hv;obtain⟨n,hn⟩:=h;obtain⟨s',e1,e2,_⟩:=DataW.trod_string Tryz.underlying9 hn;have e:s=s':=by simpa[Value.cells]using e1
 subst e;simp only[Prod.mk.injEq]at e2;refine⟨s.data.toList,by simp only[rel],?_⟩;rw[e2.1];simp[Rows.uptoBulk]
end
theorem contract {H:Type}(enc:TypeId×Value→H)(F:Stop.Interp)(W:World)(base:Nat)(args:Array Value)(ds gs:List (DataW H))(before:List MemPlace)
 (hval:∀(j:Nat) t v,f3.params[j]? = some t→args[j]? = some v→Value.okWide prog W .any base t v)
 (hW:DataW.Whole enc prog f3.params.toList Rows.tokenScansSpec.vars false W args.toList ds gs before)
 (hsm:Rows.uptoBulkAll (ds++gs)≤1048576)(hL:laidMetH prog Rows.tokenScansUptoRow.laid W)(hsh:W.ShapedOpen prog) :
 Calls prog 3 args W fun e W'=>∃v,e=.returned v∧((Rows.OpenSpec.upto Rows.tokenScansSpec).at F).post enc prog f3 false true false false W args v W':=by
 have hW':=hW;obtain⟨p,q,hA0,hV,rfl,hfz,hnd⟩:=hW;have hA:DataW.TrodAll enc prog W 0 (fun _=>true) true f3.params.toList args.toList ds p:=hA0;have hAk:=hA;rw[Tryz.params3]at hA hval;obtain⟨v0,vs0,d0,ds0,p0,q0,hargs,rfl,rfl,h0,r0⟩:=trodAll_cons hA;obtain⟨rfl,rfl,rfl⟩:=trodAll_nil r0;obtain rfl:args=#[v0]:=by cases args;simp_all
 obtain⟨rfl,rfl⟩:=trodVars_none hV;obtain⟨x0,e0,n0'⟩:=zvy (hval 0 9 v0 rfl rfl) h0;simp only[append_nil,Rows.uptoBulkAll]at hsm;have hb:=zpA x0 (by omega);obtain⟨_,hcall⟩:=zgD zah zat hb (by simp[nlL,nl]) rfl;have:=hcall [] (zlt W) [] W [v0] (zn1 hL hsh) (zaE e0 (by simp only[relL]));refine Calls.mono this ?_;rintro e W' ⟨x,M',ρ',rfl,he,hx,_⟩;simp only[rel]at hx;subst hx;have hB:Below W.heap.size W W':=⟨he.os,he.tape,he.output,he.size,fun k hk=>he.frame k hk (fun c hc=>by simp at hc)⟩;have hlt:=hAk.lt;have hresp:=DataW.TrodAll.respare (spare':=fun b=>decide (b<W.heap.size)) zyi (slices_full_of prog (by kernel_rfl)) (fun t ht=>by
  rw[Tryz.params3]at ht;have:t=9:=by simpa using ht
  subst this;exact of_decide_eq_true (by kernel_rfl)) hAk (fun p hp=>by simpa using hlt p hp)
 refine⟨_,rfl,?_⟩;refine⟨_,_,_,[],_,[],hW',?_,zfk hresp (fun p hp=>znW hB p (hlt p hp)),rfl,znC hB _,fun h=>by cases h⟩;exact trodAll_mk1 (shut_bool Tryz.underlying4 true)
end Go.Ev
