/- Walks over the end of a name, the whole. A byte at a place, a text at a place, the end of a name. The keywords and symbols of the reference. What a name is, as the reference sees it. The shapes of the functions that the reference calls. Walks over digits. Walks over a number times a base. Walks over a number times a base, the whole. Numbers in decimal digits, and which is above another. Walks over the value of digits. The value of digits, in decimal digits. Walks over parts of a number. A number at a place. Walks over a comment of a line. -/
import Derived.Test.YtmjplflnlggbeaaGreatDoorEWE2
import Derived.Test.YtmjplflnlggbeaaGreatDoorEEvPart2
namespace Go.Ev
open Go Go.Proofs
set_option linter.unusedSimpArgs false
set_option linter.unusedVariables false
set_option linter.unnecessarySimpa false
open Tryz List
set_option maxRecDepth 1000000
theorem znw {call:zad}(hC:call.Sound prog TT)(pre L:Bs)(hlen:(pre++L).length<1000000000)(c:Int)(hat:∀H,call 64 [.s (pre++L),.i .i64 pre.length] H=.val (.i .u8 c) H)(hl:∀H,call 62 [.i .u8 c] H=.val (.b false) H)(hc:(c !=95)=true)  : zaV prog TT 41 [.s (pre++L),.i .i64 pre.length] (fun r=>r=.val (.i .i64 pre.length)):=by
 refine en f41 rfl rfl (by simp[f41]) 42 rfl fun t hw hg=>?_;have h0:=hg 0 _ rfl;have h1:=hg 1 _ rfl;clear hg;try simp only[Nd.enc_eq]at *
 have hF:=ai @h0 (ai @h1 (ai @hat (ai @hl @hc)));apply rS hC
 ·refine oA ?_;rfl
 apply sQ;apply rS hC
 ·iterate 6 refine oA ?_
  iterate 4 refine oB ?_
  refine oA ?_;rfl
 refine cT (by simp[hF]<;>rfl) ?_;apply rS hC
 ·iterate 2 refine oA ?_
  rfl
 apply Tri.ret;apply sR;refine zcP (by simp[f41]<;>rfl) (by rfl) ?_;rfl
theorem znu {call:zad}(hC:call.Sound prog TT)(pre L:Bs)(hlen:(pre++L).length<1000000000)(c:Int)(hat:∀H,call 64 [.s (pre++L),.i .i64 pre.length] H=.val (.i .u8 c) H)(hl:∀H,call 62 [.i .u8 c] H=.val (.b true) H)(hcall:∀b:UInt8,∀H,call 63 [.i .u8 b.toNat] H=.val (.b (zcR b.toNat)) H)   : zaV prog TT 41 [.s (pre++L),.i .i64 pre.length] (fun r=>r=.val (.i .i64 ((pre.length+zcK L+zkJ (L.drop (zcK L)):Nat):Int))):=by
 refine en f41 rfl rfl (by simp[f41]) 42 rfl fun t hw hg=>?_;have h0:=hg 0 _ rfl;have h1:=hg 1 _ rfl;clear hg;try simp only[Nd.enc_eq]at *
 have hF:=ai @h0 (ai @h1 (ai @hat @hl));apply rS hC
 ·refine oA ?_;rfl
 apply sQ;apply rS hC
 ·iterate 6 refine oA ?_
  iterate 4 refine oC ?_
  refine oA ?_;rfl
 refine cF (by simp[hF]<;>rfl) ?_;apply Tri.skip;apply sN;apply sQ;apply bK;refine Tri.loop ?_;refine zh5 hC L pre _ _ hlen (by simp[hw]) (by simp[h0]) (by simp[h1]) hcall ?exit;case exit=>
  intro t2 H2 hw h0 h1;refine zav ?_;apply sN;apply sQ;apply bK;refine Tri.loop ?_;have eL:pre++L=(pre++L.take (zcK L))++L.drop (zcK L):=by rw[jEb,jFd]
  have el:(pre++L.take (zcK L)).length=pre.length+zcK L:=by
   have:=zhr L;simp;omega
  refine zh6 hC (L.drop (zcK L)) (pre++L.take (zcK L)) _ _ (by rw[←eL];exact hlen) (by simp[hw]) (by rw[←eL];simp[h0]) (by rw[el];simp[h1]) ?exit2;case exit2=>
   intro t3 H3 hw h0 h1;rw[el]at h1;refine zav ?_;apply sN;apply rS hC
   ·iterate 2 refine oA ?_
    rfl
   apply Tri.ret;refine zcP (by simp[f41]<;>rfl) (by rfl) ?_;simp
theorem znv {call:zad}(hC:call.Sound prog TT)(pre L:Bs)(hlen:(pre++L).length<1000000000)(c:Int)(hat:∀H,call 64 [.s (pre++L),.i .i64 pre.length] H=.val (.i .u8 c) H)(hl:∀H,call 62 [.i .u8 c] H=.val (.b false) H)(hc:(c !=95)=false)(hcall:∀b:UInt8,∀H,call 63 [.i .u8 b.toNat] H=.val (.b (zcR b.toNat)) H)   : zaV prog TT 41 [.s (pre++L),.i .i64 pre.length] (fun r=>r=.val (.i .i64 ((pre.length+zcK L+zkJ (L.drop (zcK L)):Nat):Int))):=by
 refine en f41 rfl rfl (by simp[f41]) 42 rfl fun t hw hg=>?_;have h0:=hg 0 _ rfl;have h1:=hg 1 _ rfl;clear hg;try simp only[Nd.enc_eq]at *
 have hF:=ai @h0 (ai @h1 (ai @hat (ai @hl @hc)));apply rS hC
 ·refine oA ?_;rfl
 apply sQ;apply rS hC
 ·iterate 6 refine oA ?_
  iterate 4 refine oB ?_
  refine oA ?_;rfl
 refine cF (by simp[hF]<;>rfl) ?_;apply Tri.skip;apply sN;apply sQ;apply bK;refine Tri.loop ?_;refine zh5 hC L pre _ _ hlen (by simp[hw]) (by simp[h0]) (by simp[h1]) hcall ?exit;case exit=>
  intro t2 H2 hw h0 h1;refine zav ?_;apply sN;apply sQ;apply bK;refine Tri.loop ?_;have eL:pre++L=(pre++L.take (zcK L))++L.drop (zcK L):=by rw[jEb,jFd]
  have el:(pre++L.take (zcK L)).length=pre.length+zcK L:=by
   have:=zhr L;simp;omega
  refine zh6 hC (L.drop (zcK L)) (pre++L.take (zcK L)) _ _ (by rw[←eL];exact hlen) (by simp[hw]) (by rw[←eL];simp[h0]) (by rw[el];simp[h1]) ?exit2;case exit2=>
   intro t3 H3 hw h0 h1;rw[el]at h1;refine zav ?_;apply sN;apply rS hC
   ·iterate 2 refine oA ?_
    rfl
   apply Tri.ret;refine zcP (by simp[f41]<;>rfl) (by rfl) ?_;simp
theorem zaV.of1 {F:FuncId}{vs:List V}{r:Res}(h:zaV prog TT F vs (fun x=>x=r)):zjT prog TT F vs r:=by
 obtain⟨fn,c,h1,h2,h3,o,⟨r',rfl,k2⟩,hx⟩:=h;exact⟨fn,c,h1,h2,h3,o,k2,hx⟩
theorem znd {P:Program}{T:Tab}(hT:TOk P T)(hp:T.Plain)(F:FuncId)(n k:Nat)(u:V)(h:(match zcw T (zeu Con.none) n F [] []with | .val v J=>fz J k v|_=>none)=some u):∃g,zak P T F g∧∀H,g [] H=.val u H:=by
 refine⟨fun vs H=>match vs with | []=>.val u H|_=>.no,fun vs H x hx hne=>?_,fun H=>rfl⟩;simp only at hx;split at hx
 ·subst hx;split at h
  ·rename_i v J he;obtain⟨h1,h2⟩:=zfM hT hp Con.none_sound he h rfl;exact⟨h1,h2 H⟩
  ·cases h
 ·exact absurd hx.symm hne
theorem zkR:∃g,zak prog TT 64 g∧∀(s:Bs)(i:Nat),∀H,g [.s s,.i .i64 i] H=.val (.i .u8 (atR s i)) H:=by
 obtain⟨g,k,s⟩:=zbd zaf zao 64 (fun p:Bs×Nat=>[.s p.1,.i .i64 p.2]) (fun _=>True) (fun p=>.i .u8 (atR p.1 p.2)) (fun p _=>by simp[nlL,nl]) (fun _=>rfl) (fun a b h=>by
  simp only[jPa,V.s.injEq,V.i.injEq,jLb,jGb]at h;rw[h.1,show a.2=b.2 from by omega]) (fun p _=>by
  obtain⟨s,i⟩:=p;simp only[atR];by_cases hi:i<s.length
  ·have e:s[i]? = some s[i]:=jKa hi;simp only[e];exact znx n0 s i s[i] (by omega) hi e (fun _=>rfl)
  ·rw[jGc (by omega)];exact zny n0 s i (by omega))
 exact⟨g,k,fun a i H=>s (a,i) trivial H⟩
theorem zq0:∃g,zak prog TT 56 g∧∀(s:Bs)(i:Nat)(t:Bs),i<1000000000→t.length<1000000000→∀H,g [.s s,.i .i64 i,.s t] H=.val (.b (zdM s i t)) H:=by
 obtain⟨g,k,s⟩:=zbd zaf zao 56 (fun p:Bs×Nat×Bs=>[.s p.1,.i .i64 p.2.1,.s p.2.2]) (fun p=>p.2.1<1000000000∧p.2.2.length<1000000000) (fun p=>.b (zdM p.1 p.2.1 p.2.2)) (fun p _=>by simp[nlL,nl]) (fun _=>rfl) (fun a b h=>by
  simp only[jPa,V.s.injEq,V.i.injEq,jLb,jGb]at h;rw[h.1,show a.2.1=b.2.1 from by omega,h.2.2]) (fun p hp=>by
  obtain⟨s,i,t⟩:=p;simp only[zdM]at hp ⊢;have hw:IntKind.i64.wrap ((i:Int)+t.length)=(i:Int)+t.length:=zaj (by omega) (by omega);by_cases hi:i+t.length≤s.length
  ·rw[jVb hi];exact znz n0 s t i hw (by omega) (by omega) (by omega) (by omega) (by omega)
  ·rw[jNb hi];exact znA n0 s t i hw (by omega))
 exact⟨g,k,fun a i t h1 h2 H=>s (a,i,t) ⟨h1,h2⟩ H⟩
theorem zkb:∀a b:List (Bs),zfP a=zfP b→a=b
 | [],[],_=>rfl
 | [],_::_,h=>by simp[zfP]at h
 |_::_,[],h=>by simp[zfP]at h
 |x::a,y::b,h=>by
  simp only[zfP,jJb,jPa,V.s.injEq]at h;rw[h.1,zkb a b h.2]
theorem zxS:∃g,zak prog TT 42 g∧∀(l:List (Bs))(s:Bs),l.length<1100000→∀H,g [.isl 1 (zfP l),.s s] H=.val (.b (l.any fun x=>x==s)) H:=by
 obtain⟨g,k,s⟩:=zbd zaf zao 42 (fun p:List (Bs)×Bs=>[.isl 1 (zfP p.1),.s p.2]) (fun p=>p.1.length<1100000) (fun p=>.b (p.1.any fun x=>x==p.2)) (fun p _=>by simp[nlL,nl,zuG]) (fun _=>rfl) (fun a b h=>by
  simp only[jPa,V.s.injEq,V.isl.injEq,jLb,jGb]at h;rw[zkb _ _ h.1,h.2]) (fun p hp=>zaV.of1 (zoS n0 p.1 p.2 hp))
 exact⟨g,k,fun l s' h H=>s (l,s') h H⟩
theorem zp3 (pre L:Bs):idR (pre++L) pre.length=if(!(zf0 (atR (pre++L) pre.length))&&(atR (pre++L) pre.length !=95))=true then pre.length else pre.length+zcK L+zkJ (L.drop (zcK L)):=by
 have e1:(pre++L).drop pre.length=L:=by simp
 have e2:(pre++L).drop (pre.length+zcK L)=L.drop (zcK L):=by rw[←jDd,e1]
 simp only[idR,e1,e2]
theorem zxR:∃g,zak prog TT 41 g∧∀(s:Bs)(i:Nat),s.length<1000000000→i≤s.length→∀H,g [.s s,.i .i64 i] H=.val (.i .i64 (idR s i)) H:=by
 obtain⟨g1,k1,s1⟩:=ztX;obtain⟨g2,k2,s2⟩:=zkR;obtain⟨g3,k3,s3⟩:=zqZ;obtain⟨g,k,s⟩:=zbd zaf zao 41 (fun p:Bs×Nat=>[.s p.1,.i .i64 p.2]) (fun p=>p.1.length<1000000000∧p.2≤p.1.length) (fun p=>.i .i64 (idR p.1 p.2)) (fun p _=>by simp[nlL,nl]) (fun _=>rfl) (fun a b h=>by
  simp only[jPa,V.s.injEq,V.i.injEq,jLb,jGb]at h;rw[h.1,show a.2=b.2 from by omega]) (fun p hp=>by
  obtain⟨s,i⟩:=p;obtain⟨hs,hi⟩:=hp;simp only at hs hi ⊢;obtain⟨pre,L,rfl,rfl⟩:∃pre L,s=pre++L∧i=pre.length:=⟨s.take i,s.drop i,by simp,by simp[Nat.min_eq_left hi]⟩;have hC:=ws (ws (ws n0 k1) k2) k3;generalize hc:((zad.none.with 62 g1).with 64 g2).with 63 g3=call at hC;have c2:∀H,call 64 [.s (pre++L),.i .i64 pre.length] H=.val (.i .u8 (atR (pre++L) pre.length)) H:=fun H=>by rw[←hc,zac _ _ _ _ rfl,zan];exact s2 _ _ H
  have hr:=zbY (pre++L) pre.length;have c1:∀H,call 62 [.i .u8 (atR (pre++L) pre.length)] H=.val (.b (zf0 (atR (pre++L) pre.length))) H:=fun H=>by rw[←hc,zac _ _ _ _ rfl,zac _ _ _ _ rfl,zan];exact s1 _ hr.1 hr.2 H
  have c3:∀b:UInt8,∀H,call 63 [.i .u8 b.toNat] H=.val (.b (zcR b.toNat)) H:=fun b H=>by rw[←hc,zan];exact s3 _ (by omega) (zov b) H
  rw[zp3];cases hl:zf0 (atR (pre++L) pre.length)with
  |true=>
   rw[hl]at c1;simpa using zaV.of1 (znu hC pre L hs _ c2 c1 c3)
  |false=>
   rw[hl]at c1;cases h95:(atR (pre++L) pre.length !=95)with
   |true=>simpa using zaV.of1 (znw hC pre L hs _ c2 c1 h95)
   |false=>simpa using zaV.of1 (znv hC pre L hs _ c2 c1 h95 c3))
 exact⟨g,k,fun a i h1 h2 H=>s (a,i) ⟨h1,h2⟩ H⟩
def kwL:List (Bs):=[[97,99,116,111,114],[97,110,100],[97,115],[98,101],[98,111,120],[98,114,101,97,107],[99,108,97,115,115],[99,111,110,115,117,109,101],[99,111,110,116,105,110,117,101],[100,111],[101,108,115,101],[101,108,115,101,105,102],[101,110,100],[101,114,114,111,114],[102,97,108,115,101],[102,111,114],[102,117,110],[105,102],[105,102,100,101,102],[105,110],[105,110,116,101,114,102,97,99,101],[105,115],[105,115,110,116],[105,115,111],[108,101,116],[109,97,116,99,104],[110,101,119],[110,111,116],[111,98,106,101,99,116],[111,114],[112,114,105,109,105,116,105,118,101],[114,101,99,111,118,101,114],[114,101,102],[114,101,112,101,97,116],[114,101,116,117,114,110],[116,97,103],[116,104,101,110],[116,104,105,115],[116,114,97,105,116],[116,114,110],[116,114,117,101],[116,114,121],[116,121,112,101],[117,110,116,105,108],[117,115,101],[118,97,108],[118,97,114],[119,104,101,114,101],[119,104,105,108,101],[119,105,116,104],[120,111,114]]
def syL:List (Bs):=[[60,60],[62,62],[61,61],[33,61],[60,61],[62,61],[61,62],[45,62],[46,62],[43,63],[45,63],[42,63],[47,63],[37,63],[35,114,101,97,100],[35,115,101,110,100],[35,115,104,97,114,101],[35,97,108,105,97,115],[35,97,110,121],[40],[41],[91],[93],[123],[125],[44],[46],[58],[59],[63],[61],[60],[62],[43],[45],[42],[47],[37],[124],[38],[94],[33],[126]]
theorem zxT:∃g,zak prog TT 22 g∧∀H,g [] H=.val (.isl 1 (zfP kwL)) H:=znd zaf zao 22 3000 3000 (.isl 1 (zfP kwL)) (by kernel_rfl)
theorem zx0:∃g,zak prog TT 24 g∧∀H,g [] H=.val (.isl 1 (zfP syL)) H:=znd zaf zao 24 3000 3000 (.isl 1 (zfP syL)) (by kernel_rfl)
theorem zu6:kwL.length<1100000:=by decide
theorem zaA.is {F:FuncId}{vs:List V}{r:Res}(h:zaA prog TT F vs [] (isR r)):zaV prog TT F vs (fun x=>x=r):=by
 obtain⟨fn,c,h1,h2,h3,h4⟩:=h;refine⟨fn,c,h1,h2,h3,h4.mono fun o ho=>?_⟩;cases o with
 |norm t H=>obtain⟨v,k1,k2⟩:=ho;exact⟨_,k1.symm,k2⟩
 |ret t H=>obtain⟨v,k1,k2⟩:=ho;exact⟨_,k1.symm,k2⟩
 |pan v t H=>exact⟨_,Eq.symm ho,rfl⟩
 |exit j t H=>exact ho.elim
 |no=>exact ho.elim
abbrev bE:E:=.f1 .vb (.va 0)
abbrev iE:E:=.f1 (.vi .i64) (.va 0)
abbrev sE:E:=.f1 .vs (.va 0)
abbrev isE:E:=.f1 .tup (.f2 .cons iE (.f2 .cons (.f1 .vs (.va 1)) .nil))
abbrev sbE:E:=.f1 .tup (.f2 .cons sE (.f2 .cons (.f1 .vb (.va 1)) .nil))
abbrev zz7:E:=.f1 .tup (.f2 .cons sE (.f2 .cons (.f1 (.vi .i64) (.va 1)) (.f2 .cons (.f1 .vb (.va 2)) .nil)))
def shf:Nat→Option Shape:=fun f=>
 if f=62 then some ⟨[.b],bE,.pure,false⟩else
 if f=64 then some ⟨[.i],.f1 (.vi .u8) (.va 0),.pure,false⟩else
 if f=63 then some ⟨[.b],bE,.pure,false⟩else
 if f=56 then some ⟨[.b],bE,.pure,false⟩else
 if f=57 then some ⟨[.i],iE,.pure,false⟩else
 if f=36 then some ⟨[.b],bE,.pure,false⟩else
 if f=41 then some ⟨[.i],iE,.pure,false⟩else
 if f=42 then some ⟨[.b],bE,.pure,false⟩else
 if f=83 then some ⟨[.i,.s],isE,.pure,false⟩else
 if f=84 then some ⟨[.s,.b],sbE,.pure,false⟩else
 if f=102 then some ⟨[.s],sE,.pure,false⟩else
 if f=103 then some ⟨[.b],bE,.pure,false⟩else
 if f=85 then some ⟨[.s,.i,.b],zz7,.pure,false⟩else
 if f=60 then some ⟨[.s,.i,.b],zz7,.pure,false⟩else
 if f=59 then some ⟨[.s,.i,.b],zz7,.pure,false⟩else
 if f=61 then some ⟨[.s],sE,.pure,false⟩else
 if f=22 then some ⟨[.l],.f1 (.isl 1) (.va 0),.pure,false⟩else
 if f=24 then some ⟨[.l],.f1 (.isl 1) (.va 0),.pure,false⟩else
 if f=58 then some ⟨[.i,.s,.i,.i],.f1 .tup (.f2 .cons (.f1 .agg (.f2 .cons iE (.f2 .cons (.f1 .vs (.va 1)) (.f2 .cons (.f1 (.vi .i64) (.ci 0)) (.f2 .cons (.f1 .vb (.cb false)) .nil))))) (.f2 .cons (.f1 (.vi .i64) (.va 2)) (.f2 .cons (.f1 (.vi .i64) (.va 3)) .nil))),.pure,false⟩else
 none
def hdR (L:Bs):Int:=match L with
 | []=>0
 |b::_=>b.toNat
def zaY (base:Int):Bs→Bs→Bool→Nat×Bs
 | [],out,_=>(0,out)
 |b::L,out,pd=>if 0≤zby b.toNat base then((zaY base L (out++[b]) true).1+1,(zaY base L (out++[b]) true).2)
  else if b=95∧out≠[]∧0≤zby (hdR L) base∧pd=true then((zaY base L out false).1+1,(zaY base L out false).2)
  else(0,out)
theorem zdl (base:Int):∀(L out:Bs)(pd:Bool),(zaY base L out pd).1≤L.length
 | [],out,pd=>jDb _
 |b::L,out,pd=>by
  have h1:=zdl base L (out++[b]) true;have h2:=zdl base L out false;simp only[zaY,jIa];split
  ·omega
  ·split<;>simp only<;>omega
theorem zvR (a b:Bs)(h:a.length+b.length<3000000000):zc8 .add a b=some (.s (a++b)):=by
 simp only[zc8];rw[if_pos (Nat.ble_eq_true_of_le (by omega))]
theorem zwM (pre:Bs)(b:UInt8)(L:Bs):atR (pre++b::L) (pre.length+1)=hdR L:=by
 unfold atR;rw[jPb (by omega)];simp only[jJc];cases L<;>simp[hdR]
theorem zyM:zaQ TT shf f83.ntmps [] (zae f83) [] ⟨[(0,.f1 .vs (.va 0)),(1,.f1 (.vi .i64) (.va 1)),(2,.f1 (.vi .i64) (.va 2))],⟨.va 3,[],[]⟩,4,[]⟩ (KF TT f83 [0,1,2,8])=.leaf (.stop [tt,tt,ff,ff]) [(0,xs v0),(1,xi v1),(2,xi v2),(8,xs (.cs []))] ⟨v3,[],[]⟩:=by kernel_rfl
theorem zt2:goT TT shf f83.ntmps [] [tt,tt,ff,ff,ff] (zae f83) [] ⟨[(0,.f1 .vs (.va 0)),(1,.f1 (.vi .i64) (.va 1)),(2,.f1 (.vi .i64) (.va 2)),(8,.f1 .vs (.va 3))],⟨.va 4,[],[]⟩,5,[]⟩ (KF TT f83 [0,1,2,8])=let qf:E:=xi v2;let qb:E:=xw (xa v1 c1);let qg:E:=.f3 .sub v0 v1 qb;let qd:SH:=⟨v4,[],[]⟩;let qc:E:=xw (xS v1 c1);let qa:Tree:=.fin (xt (x2 (xi v1) (xs v3))) qd;let qe:Tree:=.stuck 0;.ite (xL v1 (xl v0)) (.need (xE c0 v1) (.asks (.call 57 (x2 (xu (xA v0 v1)) qf)) [.i] (xi v5) (.ite (xH v5 c0) (.need (xE v1 qb) (.need (xE qb (xl v0)) (.need (xE (xa (xl v3) (xl qg)) (xc 9223372036854775807)) (.leaf (.again [tt,tt,ff,ff,ff]) [(0,xs v0),(1,xi qb),(2,qf),(8,xs (xP v3 qg))] qd)))) (.ite (xe (xA v0 v1) (xc 95)) (.ite (.f2 .neS v3 (.cs [])) (.asks (.call 64 (x2 (xs v0) (xi qb))) [.i] (xu v6) (.asks (.call 57 (x2 (xu v6) qf)) [.i] (xi v7) (.ite (xH v7 c0) (.need (xE c0 qc) (.need (xL qc (xl v0)) (.asks (.call 57 (x2 (xu (xA v0 qc)) qf)) [.i] (xi v8) (.ite (xH v8 c0) (.leaf (.again [tt,tt,ff,ff,ff]) [(0,xs v0),(1,xi qb),(2,qf),(8,xs v3)] qd) qa) qe))) qa) qe) qe) qa) qa)) qe)) qa:=by kernel_rfl
theorem zoQ (p L:Bs)(b:UInt8):atS (p++b::L) (p.length:Nat)=b.toNat:=by simp[atS]
theorem zrO (p L:Bs)(e:UInt8):atS ((p++[e])++L) (((p++[e]).length:Int)-1)=e.toNat:=by
 have:(((p++[e]).length:Int)-1)=(p.length:Nat):=by simp
 rw[this,jEb];exact zoQ p L e
theorem zuz (p L:Bs)(b:UInt8):((p++b::L).take (p.length+1)).drop p.length=[b]:=by
 rw[jSc,jJc,drop_left];rfl
theorem zsg (L:Bs):∃b:UInt8,hdR L=b.toNat:=by
 cases L with
 |nil=>exact⟨0,rfl⟩
 |cons b L=>exact⟨b,rfl⟩
theorem zuW {call:zad}(hC:call.Sound prog TT)(base:Int)(hcd:∀b:UInt8,∀H,call 57 [.i .u8 b.toNat,.i .i64 base] H=.val (.i .i64 (zby b.toNat base)) H)(hca:∀(s:Bs)(i:Nat) H,call 64 [.s s,.i .i64 i] H=.val (.i .u8 (atR s i)) H) :
 ∀(L pre out:Bs)(pd:Bool)(t:Tm)(H:zaa),(pre++L).length<1000000000→out.length+L.length<2000000000→(out≠[]→∃p e,pre=p++[e]∧pd=decide (0≤zby e.toNat base)) →
 t.wid=f83.ntmps→t.get 0=.s (pre++L)→t.get 1=.i .i64 pre.length→t.get 2=.i .i64 base→t.get 8=.s out →
 ctx prog TT [tt,tt,ff,ff,ff] (zae f83) (zaF TT f83 (isR (.val (.tup [.i .i64 ((pre.length+(zaY base L out pd).1:Nat):Int),.s (zaY base L out pd).2])))) (.norm t H):=by
 intro L;induction L with
 |nil=>
  intro pre out pd t H hlen hol hpp hw t0 t1 t2 t8;refine zaM.symIn (p:=[tt,tt,ff,ff]) zaf hC rfl zt2 (by kernel_rfl) [.us (pre++[]),.ui (pre.length:Nat),.ui base,.us out,.uh H] rfl hw ⟨t0,t1,t2,t8,trivial⟩ rfl (zaC _ _) ?_;simp -implicitDefEqProofs only[VC,isR,exU,Ask.den,E.den,O1.den,O2.den,O3.den,SH.den,zat,za9,bD,SB.den,zai,LQ,uu,uW,jOa,jUa,jDa];rw[jWb];exact⟨fun h=>absurd h (by omega),fun _=>rfl⟩
 |cons b L ih=>
  intro pre out pd t H hlen hol hpp hw t0 t1 t2 t8;refine zaM.symIn (p:=[tt,tt,ff,ff]) zaf hC rfl zt2 (by kernel_rfl) [.us (pre++b::L),.ui (pre.length:Nat),.ui base,.us out,.uh H] rfl hw ⟨t0,t1,t2,t8,trivial⟩ rfl (zaC _ _) ?_;clear t0 t1 t2 t8 hw;simp -implicitDefEqProofs only[VC,isR,exU,Ask.den,E.den,O1.den,O2.den,O3.den,SH.den,zat,za9,bD,SB.den,zai,LQ,uu,uW,jOa,jUa,jDa];have hl:(pre++b::L).length=pre.length+(L.length+1):=by simp
  rw[hl]at hlen;simp only[jIa]at hol;have w1:IntKind.i64.wrap ((pre.length:Int)+1)=((pre.length+1:Nat):Int):=by rw[zaj (by omega) (by omega)];omega
  have w2:IntKind.i64.wrap ((pre.length:Int)-1)=(pre.length:Int)-1:=zaj (by omega) (by omega);simp only[w1,w2,jCa,zoQ,zuz,hl];have e1:pre++b::L=(pre++[b])++L:=by simp
  have e2:((pre.length+1:Nat):Int)=((pre++[b]).length:Nat):=by simp
  refine⟨fun _=>⟨by omega,.inl ⟨_,hcd b,fun hd=>⟨by omega,by omega,by simp;omega,fun t hw f0 f1 f2 f8=>?_⟩,fun hd=>⟨fun h95=>⟨fun hne=>?_,fun hne=>?_⟩,fun h95=>?_⟩⟩⟩,fun h=>absurd h (by omega)⟩
  ·have e:zaY base (b::L) out pd=((zaY base L (out++[b]) true).1+1,(zaY base L (out++[b]) true).2):=by simp only[zaY,if_pos hd]
   have:=ih (pre++[b]) (out++[b]) true t H (by simp;omega) (by simp;omega) (fun _=>⟨pre,b,rfl,by rw[jVb hd]⟩) hw (by rw[f0,e1]) (by rw[f1,e2]) f2 f8;rw[e];simp only[jLa,jIa,jVa]at this;rw[show pre.length+((zaY base L (out++[b]) true).1+1)=pre.length+(0+1)+(zaY base L (out++[b]) true).1 from by omega];exact this
  ·have hb95:b=95:=jUd (show b.toNat=95 by omega);have hne:out≠[]:=by simpa using hne
   obtain⟨p,x,rfl,hpd⟩:=hpp hne;have hd':¬0≤zby b.toNat base:=by omega
   obtain⟨y,hy⟩:=zsg L;refine .inl ⟨_,fun K=>by rw[hca (p++[x]++b::L) ((p++[x]).length+1) K,zwM],?_⟩;rw[hy];refine .inl ⟨_,hcd y,fun h1=>⟨by simp,by simp;omega,?_⟩,fun h1=>?_⟩
   ·rw[zrO];refine .inl ⟨_,hcd x,fun h2 t hw f0 f1 f2 f8=>?_,fun h2=>?_⟩
    ·have e:zaY base (b::L) out pd=((zaY base L out false).1+1,(zaY base L out false).2):=by
      rw[zaY,if_neg hd',if_pos ⟨hb95,hne,by rw[hy];exact h1,by rw[hpd,jVb h2]⟩]
     have:=ih (p++[x]++[b]) out false t H (by simp;simp at hlen;omega) (by omega) (fun _=>⟨p++[x],b,rfl,by rw[jNb hd']⟩) hw (by rw[f0,e1]) (by rw[f1,e2]) f2 f8;rw[e];rw[show(p++[x]).length+((zaY base L out false).1+1)=(p++[x]++[b]).length+(zaY base L out false).1 from by simp;omega];exact this
    ·rw[zaY,if_neg hd',if_neg (fun h=>by rw[hpd]at h;exact h2 (jBc h.2.2.2))];rfl
   ·rw[zaY,if_neg hd',if_neg (fun h=>h1 (by rw[←hy];exact h.2.2.1))];rfl
  ·rw[zaY,if_neg (by omega),if_neg (fun h=>h.2.1 (by simpa using hne))];rfl
  ·rw[zaY,if_neg (by omega),if_neg (fun h=>h95 (by rw[h.1];rfl))];rfl
theorem zoY {call:zad}(hC:call.Sound prog TT)(pre L:Bs)(base:Int)(hlen:(pre++L).length<1000000000)(hcd:∀b:UInt8,∀H,call 57 [.i .u8 b.toNat,.i .i64 base] H=.val (.i .i64 (zby b.toNat base)) H)(hca:∀(s:Bs)(i:Nat) H,call 64 [.s s,.i .i64 i] H=.val (.i .u8 (atR s i)) H)  : zaV prog TT 83 [.s (pre++L),.i .i64 pre.length,.i .i64 base] (fun r=>r=.val (.tup [.i .i64 ((pre.length+(zaY base L [] false).1:Nat):Int),.s (zaY base L [] false).2])):=by
 apply zaA.is;refine zaA.sym zaf hC (fn:=f83) rfl rfl (by simp[f83]) zyM (by kernel_rfl) [.us (pre++L),.ui (pre.length:Nat),.ui base,.uh []] rfl ⟨by rw[zag];rfl,by rw[zag];rfl,by rw[zag];rfl,trivial⟩ rfl (zaC _ _) ?_;simp -implicitDefEqProofs only[VC,isR,exU,Ask.den,E.den,O1.den,O2.den,O3.den,SH.den,zat,za9,bD,SB.den,zai,LQ,uu,uW,jOa,jUa,jDa];intro t hw t0 t1 t2 t8;exact Tri.symLoop rfl (zuW hC base hcd hca L pre [] false t _ hlen (by simp at hlen ⊢;omega) (fun h=>absurd rfl h) hw t0 t1 t2 t8)
theorem zwp {n:Int}(h1:0≤n)(h2:n<256):IntKind.u8.wrap n=n:=by
 have e:(2:Int)^IntKind.u8.bits=256:=rfl;simp only[IntKind.wrap,e,IntKind.signed,Bool.false_and,jSa,if_false];omega
theorem zvY:((List.range 10).all fun n=>match zcw TT (zeu Con.none) 3000 61 [.i .i64 n] []with | .val v J=>(match fz J 60 v with|some (.s l)=>l==[48+n.toUInt8]|_=>false)|_=>false)=true:=by kernel_rfl
def zfs (b:UInt8):Prop:=48≤b.toNat∧b.toNat≤57
def zaW:Bs→Nat
 | []=>0
 |b::l=>(b.toNat-48)*10^l.length+zaW l
def chD (n:Nat):UInt8:=48+n.toUInt8
theorem ziN:∀n,n<10→zfs (chD n)∧(chD n).toNat-48=n:=by
 intro n hn;have:n=0∨n=1∨n=2∨n=3∨n=4∨n=5∨n=6∨n=7∨n=8∨n=9:=by omega
 rcases this with rfl|rfl|rfl|rfl|rfl|rfl|rfl|rfl|rfl|rfl<;>exact⟨⟨by decide,by decide⟩,by decide⟩
theorem znl (m k:Nat):Int.tmod (m:Int) k=((m%k:Nat):Int):=by
 rw[Int.tmod_eq_emod_of_nonneg (by omega)];rfl
theorem znk (m k:Nat):Int.tdiv (m:Int) k=((m/k:Nat):Int):=by
 rw[Int.tdiv_eq_ediv_of_nonneg (by omega)];rfl
theorem ztx {c:UInt8}{lo out:Bs}{base m0 m M:Nat}(hl:out.length=lo.length)(h:zaW lo*base+m0=m*10^lo.length+zaW out)(hM:M=m+(c.toNat-48)*base):zaW (c::lo)*base+m0=M/10*10^(c::lo).length+zaW (chD (M%10)::out):=by
 have h1:=(ziN (M%10) (by omega)).2;simp only[zaW,h1,jIa,hl,Nat.pow_succ];have h2:=Nat.div_add_mod M 10;have e1:((c.toNat-48)*10^lo.length+zaW lo)*base+m0=(c.toNat-48)*base*10^lo.length+(zaW lo*base+m0):=by
  rw[jId,Nat.mul_right_comm,jQc]
 have e2:M/10*(10^lo.length*10)+(M%10*10^lo.length+zaW out)=M*10^lo.length+zaW out:=by
  have:M/10*(10^lo.length*10)+M%10*10^lo.length=M*10^lo.length:=by
   rw[show M/10*(10^lo.length*10)=10*(M/10)*10^lo.length from by rw[Nat.mul_comm (10^lo.length) 10,←Nat.mul_assoc,Nat.mul_comm (M/10) 10],←jId,h2]
  rw[←jQc,this]
 rw[e1,e2,h,hM,jId];omega
theorem zrj (b:UInt8)(l:Bs)(h:l.length<2000000000):zc8 .add [b] l=some (.s (b::l)):=zvR [b] l (by simp;omega)
theorem zn2 {call:zad}(hC:call.Sound prog TT)(s:Bs)(base m0:Nat)(hs:∀b∈s,zfs b)(hb16:base≤16)(hsl:s.length<1000000000)(hitoa:∀n:Nat,n<10→∀H,call 61 [.i .i64 n] H=.val (.s [chD n]) H){Q:Out→Prop}
 (hE:∀(t':Tm)(H':zaa),t'.wid=52→∀(m:Nat)(out:Bs),m≤16→(∀b∈out,zfs b)→out.length=s.length→zaW s*base+m0=m*10^s.length+zaW out→t'.get 2=.i .i64 m→t'.get 7=.s out→Q (.exit 0 t' H')):∀(n:Nat)(out:Bs)(m:Nat)(t:Tm)(H:zaa),n≤s.length→(∀b∈out,zfs b)→m≤16→out.length=s.length-n→zaW (s.drop n)*base+m0=m*10^(s.drop n).length+zaW out →
 t.wid=52→t.get 0=.s s→t.get 1=.i .i64 base→t.get 2=.i .i64 m→t.get 7=.s out→t.get 8=.i .i64 ((n:Int)-1) →
 zaM prog TT (sub [tt,tt,ff,tt,ff,ff] (zae f102)) t H Q:=by
 intro n;induction n with
 |zero=>
  intro out m t H hn hout hm hlen2 hval hw h0 h1 h2 h7 h8;simp only[jFc,Nat.sub_zero]at hval hlen2;have hneg:¬(0:Int)≤((0:Nat):Int)-1:=by omega
  have hF:=ai @h0 (ai @h1 (ai @h2 (ai @h7 (ai @h8 @hneg))));refine zaM.round' ?_;apply sQ;apply rS hC
  ·iterate 2 refine zab rfl (by simp[hF]<;>rfl) (by rfl) (by simp[hw]) ?_
   rfl
  refine Tri.condG (o:=?oz2) (b:=?bz2) ?gz2 ?rz2 ?yz2 ?nz2;case gz2=>simp[hF]<;>rfl
  case rz2=>rfl
  case yz2=>
   intro hy2;exfalso;simp[hneg]at hy2
  case nz2=>
   intro hn2;refine Tri.exit ?_;refine zaz ?_;refine zay ?_;exact hE _ _ (by simp[hw]) m out hm hout hlen2 hval (by simp[h2]) (by simp[h7])
 |succ n ih=>
  intro out m t H hn hout hm hlen2 hval hw h0 h1 h2 h7 h8;have h8':t.get 8=.i .i64 n:=by rw[h8,show(((n+1:Nat):Int)-1)=n from by omega]
  clear h8;have h8:=h8';clear h8';obtain⟨c,hat⟩:∃c,s[n]? = some c:=⟨_,jKa (by omega)⟩;have hat2:∀h,s[n]'h=c:=fun h=>jWa ((jKa h).symm.trans hat);have hdr:s.drop n=c::s.drop (n+1):=by
   have h9:n<s.length:=by omega
   rw[jAb h9,hat2]
  obtain⟨d1,d2⟩:=hs c (jIb hat);have hge:(0:Int)≤n:=by omega
  have hlt:(n:Int)<s.length:=by omega
  obtain⟨D,hD⟩:∃D,D=c.toNat-48:=⟨_,rfl⟩;obtain⟨M,hM⟩:∃M,M=m+(c.toNat-48)*base:=⟨_,rfl⟩;have hDb:D*base≤9*16:=Nat.mul_le_mul (by omega) hb16;rw[←hD]at hM;have hw8:IntKind.u8.wrap ((c.toNat:Int)-48)=D:=by rw[zwp (by omega) (by omega)];omega
  have hwv:IntKind.i64.wrap (D:Int)=D:=zaj (by omega) (by omega);obtain⟨E,hE1⟩:∃E,E=D*base:=⟨_,rfl⟩;obtain⟨R,hR⟩:∃R,R=M%10:=⟨_,rfl⟩;obtain⟨U,hU⟩:∃U,U=M/10:=⟨_,rfl⟩;have hmul:IntKind.i64.wrap ((D:Int)*base)=(E:Int):=by
   rw[←Int.natCast_mul,←hE1];exact zaj (by omega) (by omega)
  have hadd:IntKind.i64.wrap ((m:Int)+(E:Int))=(M:Int):=by
   rw[hM];rw[zaj (by omega) (by omega)];omega
  have hrem:Int.tmod (M:Int) 10=(R:Int):=by rw[hR];exact znl M 10
  have hrem2:(M:Int)%10=(R:Int):=by rw[hR];omega
  have hquo2:IntKind.i64.wrap ((M:Int)/10)=(U:Int):=by
   rw[show(M:Int)/10=(U:Int)from by rw[hU];omega];exact zaj (by omega) (by omega)
  have hit:=hitoa R (by omega);have hquo:IntKind.i64.wrap (Int.tdiv (M:Int) 10)=(U:Int):=by
   rw[show Int.tdiv (M:Int) 10=((M/10:Nat):Int)from znk M 10,←hU];exact zaj (by omega) (by omega)
  have hcat:=zrj (chD R) out (by omega);have hdn:IntKind.i64.wrap ((n:Int)-1)=(n:Int)-1:=zaj (by omega) (by omega);have hnext:zaW (s.drop n)*base+m0=U*10^(s.drop n).length+zaW (chD R::out):=by
   rw[hdr];rw[hU,hR];exact ztx (by simp;omega) hval (by rw[hM,hD])
  have hF:=ai @h0 (ai @h1 (ai @h2 (ai @h7 (ai @h8 (ai @hge (ai @hat (ai @hat2 (ai @hlt (ai @hw8 (ai @hwv (ai @hmul (ai @hadd (ai @hrem (ai @hrem2 (ai @hit (ai @hquo (ai @hquo2 @hcat)))))))))))))))));refine zaM.round' ?_;apply sQ;apply rS hC
  ·iterate 2 refine zab rfl (by simp[hF,-zc8]<;>rfl) (by rfl) (by simp[hw]) ?_
   rfl
  refine Tri.condG (o:=?os2) (b:=?bs2) ?gs2 ?rs2 ?ys2 ?ns2;case gs2=>simp[hF,-zc8]<;>rfl
  case rs2=>rfl
  case ys2=>
   intro hy2;apply Tri.skip;apply sN;apply sQ;apply bK;apply rS hC
   ·iterate 10 refine zab rfl (by simp[hF,-zc8]<;>rfl) (by rfl) (by simp[hw]) ?_
    rfl
   apply rS hC
   ·iterate 6 refine zab rfl (by simp[hF,-zc8]<;>rfl) (by rfl) (by simp[hw]) ?_
    rfl
   apply rN hC
   ·iterate 3 refine zab rfl (by simp[hF,-zc8]<;>rfl) (by rfl) (by simp[hw]) ?_
    rfl
   apply bN;apply sN;apply rN hC
   ·iterate 3 refine zab rfl (by simp[hF,-zc8]<;>rfl) (by rfl) (by simp[hw]) ?_
    rfl
   refine zaq ?_;refine ih (chD R::out) U _ _ (by omega) (fun b hb=>?_) (by omega) (by simp;omega) ?_ (by simp[hw]) (by simp[h0]) (by simp[h1]) (by simp) (by simp) (by simp;exact hdn)
   ·rcases jOb.1 hb with rfl|hb
    ·exact(ziN _ (by omega)).1
    ·exact hout b hb
   ·exact hnext
  case ns2=>
   intro hn2;exfalso;simp at hn2
theorem ztw {m:Nat}{out:Bs}:m*10^out.length+zaW out=m/10*10^(chD (m%10)::out).length+zaW (chD (m%10)::out):=by
 have h1:=(ziN (m%10) (by omega)).2;have h2:=Nat.div_add_mod m 10;simp only[zaW,h1,jIa,Nat.pow_succ];have:m/10*(10^out.length*10)+m%10*10^out.length=m*10^out.length:=by
  rw[show m/10*(10^out.length*10)=10*(m/10)*10^out.length from by rw[Nat.mul_comm (10^out.length) 10,←Nat.mul_assoc,Nat.mul_comm (m/10) 10],←jId,h2]
 rw[←jQc,this]
theorem zn3 {call:zad}(hC:call.Sound prog TT)(N:Nat)(hitoa:∀n:Nat,n<10→∀H,call 61 [.i .i64 n] H=.val (.s [chD n]) H){Q:Out→Prop}
 (hE:∀(t':Tm)(H':zaa),t'.wid=52→∀(out:Bs),(∀b∈out,zfs b)→0<out.length→N=zaW out→t'.get 7=.s out→Q (.exit 2 t' H')):∀(m:Nat)(out:Bs)(t:Tm)(H:zaa),(∀b∈out,zfs b)→0<out.length→out.length+m<1500000000→N=m*10^out.length+zaW out →
 t.wid=52→t.get 2=.i .i64 m→t.get 7=.s out →
 zaM prog TT (sub [tt,tt,tt,ff,ff,ff] (zae f102)) t H Q:=by
 intro m;induction m using Nat.strongRecOn with
 |_ m ih=>
  intro out t H hout hlen hlen2 hval hw h2 h7;by_cases hm0:m=0
  ·have hneg:¬(0:Int)<(m:Int):=by omega
   have hneg2:m=0:=hm0;rw[hm0,Nat.zero_mul,jKb]at hval;have hF:=ai @h2 (ai @h7 @hm0);refine zaM.round' ?_;apply sQ;apply rS hC
   ·iterate 2 refine zab rfl (by simp[hF]<;>rfl) (by rfl) (by simp[hw]) ?_
    rfl
   refine Tri.condG (o:=?oz2) (b:=?bz2) ?gz2 ?rz2 ?yz2 ?nz2;case gz2=>simp[hF]<;>rfl
   case rz2=>rfl
   case yz2=>
    intro hy2;exfalso;simp[hm0]at hy2
   case nz2=>
    intro hn2;refine Tri.exit ?_;refine zaz ?_;refine zay ?_;exact hE _ _ (by simp[hw]) out hout hlen hval (by simp[h7])
  ·have hge:0<m:=by omega
   obtain⟨R,hR⟩:∃R,R=m%10:=⟨_,rfl⟩;obtain⟨U,hU⟩:∃U,U=m/10:=⟨_,rfl⟩;have hrem:Int.tmod (m:Int) 10=(R:Int):=by rw[hR];exact znl m 10
   have hrem2:(m:Int)%10=(R:Int):=by rw[hR];omega
   have hquo2:IntKind.i64.wrap ((m:Int)/10)=(U:Int):=by
    rw[show(m:Int)/10=(U:Int)from by rw[hU];omega];exact zaj (by omega) (by omega)
   have hit:=hitoa R (by omega);have hquo:IntKind.i64.wrap (Int.tdiv (m:Int) 10)=(U:Int):=by
    rw[show Int.tdiv (m:Int) 10=((m/10:Nat):Int)from znk m 10,←hU];exact zaj (by omega) (by omega)
   have hcat:=zrj (chD R) out (by omega);have hF:=ai @h2 (ai @h7 (ai @hge (ai @hrem (ai @hrem2 (ai @hit (ai @hquo (ai @hquo2 @hcat)))))));refine zaM.round' ?_;apply sQ;apply rS hC
   ·iterate 2 refine zab rfl (by simp[hF,-zc8]<;>rfl) (by rfl) (by simp[hw]) ?_
    rfl
   refine Tri.condG (o:=?os2) (b:=?bs2) ?gs2 ?rs2 ?ys2 ?ns2;case gs2=>simp[hF,-zc8]<;>rfl
   case rs2=>rfl
   case ys2=>
    intro hy2;apply Tri.skip;apply sN;apply bK;apply rS hC
    ·iterate 6 refine zab rfl (by simp[hF,-zc8]<;>rfl) (by rfl) (by simp[hw]) ?_
     rfl
    apply rN hC
    ·iterate 3 refine zab rfl (by simp[hF,-zc8]<;>rfl) (by rfl) (by simp[hw]) ?_
     rfl
    apply bN;refine zaq ?_;refine ih U (by omega) (chD R::out) _ _ (fun b hb=>?_) (by simp only[jIa];omega) (by simp only[jIa];omega) ?_ (by simp[hw]) (by simp) (by simp)
    ·rcases jOb.1 hb with rfl|hb
     ·exact(ziN _ (by omega)).1
     ·exact hout b hb
    ·rw[hval,hR,hU];exact ztw
   case ns2=>
    intro hn2;exfalso;simp[hge]at hn2
theorem zn4 {call:zad}(hC:call.Sound prog TT)(N:Nat){Q:Out→Prop}
 (hE:∀(t':Tm)(H':zaa),t'.wid=52→∀(out:Bs),(∀b∈out,zfs b)→0<out.length→N=zaW out→(1<out.length→out.head?≠some 48)→t'.get 7=.s out→Q (.exit 4 t' H')):∀(out:Bs)(t:Tm)(H:zaa),(∀b∈out,zfs b)→0<out.length→N=zaW out →
 t.wid=52→t.get 7=.s out →
 zaM prog TT (sub [tt,tt,tt,tt,ff,ff,ff] (zae f102)) t H Q:=by
 intro out;induction h:out.length using Nat.strongRecOn generalizing out with
 |_ n ih0=>
  have ih:∀o:Bs,o.length<out.length→∀(t:Tm)(H:zaa),(∀b∈o,zfs b)→0<o.length→N=zaW o→t.wid=52→t.get 7=.s o→zaM prog TT (sub [tt,tt,tt,tt,ff,ff,ff] (zae f102)) t H Q:=fun o ho t H a1 a2 a3 a4 a5=>ih0 o.length (by omega) o rfl t H a1 a2 a3 a4 a5;clear ih0;subst h;intro t H hout hlen hval hw h7;by_cases h1:1<out.length
  ·match out,h1 with
   |c::b2::r,h1=>
    have h1b:(1:Int)<(r.length:Int)+1+1:=by omega
    have hat:(c::b2::r)[0]? = some c:=rfl;have hat2:∀h,(c::b2::r)[0]'h=c:=fun h=>rfl;have hi1:(1:Int)≤(r.length:Int)+1+1:=by omega
    by_cases hc1:c=48
    ·have hc0:((c.toNat:Int)==48)=true:=by subst hc1;decide
     have hc2:(c.toNat-48)=0:=by subst hc1;decide
     have hF:=ai @h7 (ai @h1b (ai @hat (ai @hat2 (ai @hc0 @hi1))));refine zaM.round' ?_;apply sQ;apply rS hC
     ·iterate 4 refine zab rfl (by simp[hF]<;>rfl) (by rfl) (by simp[hw]) ?_
      iterate 3 refine zab (by simp[zaD,hF]) (by simp[hF]<;>rfl) (by rfl) (by simp[hw]) ?_
      refine zab rfl (by simp[hF]<;>rfl) (by rfl) (by simp[hw]) ?_;rfl
     refine cT (by simp[hF]<;>rfl) ?_;apply Tri.skip;apply sN;apply bK;apply rN hC
     ·iterate 3 refine zab rfl (by simp[hF]<;>rfl) (by rfl) (by simp[hw]) ?_
      rfl
     apply bN;refine zaq ?_;refine ih (b2::r) (by simp) _ _ (fun b hb=>hout b (by simp[hb])) (by simp) ?_ (by simp[hw]) (by simp);rw[hval];simp[zaW,hc1]
    ·have hcne:c≠48:=hc1;have hc0:((c.toNat:Int)==48)=false:=by
      rw[show(48:Int)=((48:UInt8).toNat:Int)from rfl,←zwm];exact jDa.2 hc1
     have hF:=ai @h7 (ai @h1b (ai @hat (ai @hat2 @hc0)));refine zaM.round' ?_;apply sQ;apply rS hC
     ·iterate 4 refine zab rfl (by simp[hF]<;>rfl) (by rfl) (by simp[hw]) ?_
      iterate 3 refine zab (by simp[zaD,hF]) (by simp[hF]<;>rfl) (by rfl) (by simp[hw]) ?_
      refine zab rfl (by simp[hF]<;>rfl) (by rfl) (by simp[hw]) ?_;rfl
     refine cF (by simp[hF]<;>rfl) ?_;refine Tri.exit ?_;refine zaz ?_;refine zay ?_;exact hE _ _ (by simp[hw]) _ hout hlen hval (by simpa using hcne) (by simp[h7])
  ·have h1b:¬(1:Int)<(out.length:Int):=by omega
   have hhd:1<out.length→out.head?≠some 48:=fun h=>absurd h h1;refine zaM.round' ?_;apply sQ;apply rS hC
   ·iterate 4 refine zab rfl (by simp[h7,h1b]<;>rfl) (by rfl) (by simp[hw]) ?_
    iterate 3 refine zb2 (by simp[zaD,h7,h1b]) (by simp[hw]) ?_
    refine zab rfl (by simp[h7,h1b]<;>rfl) (by rfl) (by simp[hw]) ?_;rfl
   refine cF (by simp[h7,h1b]<;>rfl) ?_;refine Tri.exit ?_;refine zaz ?_;refine zay ?_;exact hE _ _ (by simp[hw]) out hout hlen hval hhd (by simp[h7])
def zbR (s:Bs):Prop:=(∀b∈s,zfs b)∧0<s.length∧(1<s.length→s.head?≠some 48)
theorem zo1 {call:zad}(hC:call.Sound prog TT)(s:Bs)(base m0:Nat)(hs:∀b∈s,zfs b)(hpos:0<s.length)(hb16:base≤16)(hm0:m0≤16)(hsl:s.length<1000000000)(hitoa:∀n:Nat,n<10→∀H,call 61 [.i .i64 n] H=.val (.s [chD n]) H)(hw1:IntKind.i64.wrap ((s.length:Int)-1)=(s.length:Int)-1)  : zaV prog TT 102 [.s s,.i .i64 base,.i .i64 m0] (fun r=>∃out,r=.val (.s out)∧zbR out∧zaW out=zaW s*base+m0):=by
 refine en f102 rfl rfl (by simp[f102]) 52 rfl fun t hw hg=>?_;have h0:=hg 0 _ rfl;have h1:=hg 1 _ rfl;have h2:=hg 2 _ rfl;clear hg;try simp only[Nd.enc_eq]at *
 have hF:=ai @h0 (ai @h1 (ai @h2 @hw1));apply rS hC
 ·refine oA ?_;rfl
 apply rS hC
 ·refine oA ?_;rfl
 apply sQ;apply rS hC
 ·iterate 4 refine oA ?_
  rfl
 apply bK;refine Tri.loop ?_;refine zn2 hC s base m0 hs hb16 hsl hitoa ?exit s.length [] m0 _ _ (jDb _) (by simp) hm0 (by simp) (by simp[zaW]) (by simp[hw]) (by simp[h0]) (by simp[h1]) (by simp[h2]) (by simp) (by simp[hw1]);case exit=>
  clear hw h0 h1 h2;intro t2 H2 hw m out hm hout hol hval h2 h7;refine zav ?_;apply sN;apply sQ;apply bK;refine Tri.loop ?_;refine zn3 hC (zaW s*base+m0) hitoa ?exit2 m out _ _ hout (by omega) (by omega) (by rw[hol];exact hval) (by simp[hw]) (by simp[h2]) (by simp[h7]);case exit2=>
   clear hw h2 h7 hout hol hval;intro t3 H3 hw o2 hout hol hval h7;refine zav ?_;apply sN;apply sQ;apply bK;refine Tri.loop ?_;refine zn4 hC (zaW s*base+m0) ?exit3 o2 _ _ hout hol hval (by simp[hw]) (by simp[h7]);case exit3=>
    clear hw hout hol hval h7;intro t4 H4 hw o3 hout hol hval hhd h7;refine zav ?_;apply sN;apply rS hC
    ·iterate 2 refine oA ?_
     rfl
    apply Tri.ret;refine zcP (by simp[f102]<;>rfl) (by rfl) ?_;exact⟨o3,rfl,⟨hout,hol,hhd⟩,hval.symm⟩
theorem znC {call:zad}(hC:call.Sound prog TT)(a b:Bs)(hh:(b.length:Int)<a.length)  : zaV prog TT 103 [.s a,.s b] (fun r=>r=.val (.b true)):=by
 refine en f103 rfl rfl (by simp[f103]) 22 rfl fun t hw hg=>?_;have h0:=hg 0 _ rfl;have h1:=hg 1 _ rfl;clear hg;try simp only[Nd.enc_eq]at *
 have hF:=ai @h0 (ai @h1 @hh);apply rS hC
 ·refine oA ?_;rfl
 apply rS hC
 ·iterate 6 refine oA ?_
  iterate 10 refine oC ?_
  iterate 2 refine oA ?_
  rfl
 apply Tri.ret;refine zcP (by simp[f103]<;>rfl) (by rfl) ?_;first
  |rfl
  |simp
theorem znD {call:zad}(hC:call.Sound prog TT)(a b:Bs)(hh:¬(b.length:Int)<a.length)(hh2:((a.length:Int)==b.length)=false)  : zaV prog TT 103 [.s a,.s b] (fun r=>r=.val (.b false)):=by
 refine en f103 rfl rfl (by simp[f103]) 22 rfl fun t hw hg=>?_;have h0:=hg 0 _ rfl;have h1:=hg 1 _ rfl;clear hg;try simp only[Nd.enc_eq]at *
 have hF:=ai @h0 (ai @h1 (ai @hh @hh2));apply rS hC
 ·refine oA ?_;rfl
 apply rS hC
 ·iterate 6 refine oA ?_
  iterate 6 refine oB ?_
  iterate 3 refine oC ?_
  refine oB ?_;iterate 2 refine oA ?_
  rfl
 apply Tri.ret;refine zcP (by simp[f103]<;>rfl) (by rfl) ?_;first
  |rfl
  |simp
theorem znE {call:zad}(hC:call.Sound prog TT)(a b:Bs)(hh:¬(b.length:Int)<a.length)(hh2:((a.length:Int)==b.length)=true)  : zaV prog TT 103 [.s a,.s b] (fun r=>r=.val (.b (!Op.bytesLess a b && !(a==b)))):=by
 refine en f103 rfl rfl (by simp[f103]) 22 rfl fun t hw hg=>?_;have h0:=hg 0 _ rfl;have h1:=hg 1 _ rfl;clear hg;try simp only[Nd.enc_eq]at *
 have hF:=ai @h0 (ai @h1 (ai @hh @hh2));apply rS hC
 ·refine oA ?_;rfl
 apply rS hC
 ·iterate 6 refine oA ?_
  iterate 10 refine oB ?_
  iterate 2 refine oA ?_
  rfl
 apply Tri.ret;refine zcP (by simp[f103]<;>rfl) (by rfl) ?_;first
  |rfl
  |simp
theorem zjP:∀s:Bs,(∀b∈s,zfs b)→zaW s<10^s.length
 | [],_=>by simp[zaW]
 |b::s,h=>by
  have h1:=zjP s fun x hx=>h x (by simp[hx]);have h2:=h b (by simp);simp only[zaW,jIa,Nat.pow_succ];obtain⟨h3,h4⟩:=h2;have:(b.toNat-48)*10^s.length≤9*10^s.length:=Nat.mul_le_mul_right _ (by omega);omega
theorem zt7 {a b:UInt8}(h:a.toNat=b.toNat):a=b:=jUd h
theorem zsw {p q m x y:Nat}(hx:x<m)(hy:y<m):(p*m+x<q*m+y↔p<q∨(p=q∧x<y))∧(p*m+x=q*m+y↔p=q∧x=y):=by
 rcases Nat.lt_trichotomy p q with h|h|h
 ·have:(p+1)*m≤q*m:=Nat.mul_le_mul_right _ h;rw[jId,Nat.one_mul]at this;constructor
  ·constructor
   ·intro _;exact .inl h
   ·intro _;omega
  ·constructor
   ·intro e;omega
   ·rintro⟨rfl,_⟩;omega
 ·subst h;constructor
  ·constructor
   ·intro e;exact .inr ⟨rfl,by omega⟩
   ·rintro(e|⟨_,e⟩)<;>omega
  ·constructor
   ·intro e;exact⟨rfl,by omega⟩
   ·rintro⟨_,rfl⟩;rfl
 ·have:(q+1)*m≤p*m:=Nat.mul_le_mul_right _ h;rw[jId,Nat.one_mul]at this;constructor
  ·constructor
   ·intro e;omega
   ·rintro(e|⟨rfl,_⟩)<;>omega
  ·constructor
   ·intro e;omega
   ·rintro⟨rfl,_⟩;omega
theorem zjh:∀a b:Bs,a.length=b.length→(∀x∈a,zfs x)→(∀x∈b,zfs x)→Op.bytesLess a b=decide (zaW a<zaW b)∧(a==b)=decide (zaW a=zaW b)
 | [],[],_,_,_=>by simp[Op.bytesLess,zaW]
 | [],_::_,h,_,_=>by simp at h
 |_::_,[],h,_,_=>by simp at h
 |c::x,d::y,h,ha,hb=>by
  have hl:x.length=y.length:=by simpa using h
  obtain⟨ih1,ih2⟩:=zjh x y hl (fun z hz=>ha z (by simp[hz])) (fun z hz=>hb z (by simp[hz]));obtain⟨c1,c2⟩:=ha c (by simp);obtain⟨d1,d2⟩:=hb d (by simp);have hx:=zjP x fun z hz=>ha z (by simp[hz]);have hy:=zjP y fun z hz=>hb z (by simp[hz]);rw[←hl]at hy;obtain⟨k1,k2⟩:=zsw (p:=c.toNat-48) (q:=d.toNat-48) hx hy;have e1:(c<d)↔c.toNat-48<d.toNat-48:=by
   rw[UInt8.lt_iff_toNat_lt];omega
  have e2:(c=d)↔c.toNat-48=d.toNat-48:=⟨fun e=>by rw[e],fun e=>zt7 (by omega)⟩;constructor
  ·simp only[Op.bytesLess,zaW,←hl,ih1];rw[jYc];simp only[jNc,jMa,jTa,jOa,k1,e1,e2]
  ·simp only[zaW,←hl];rw[jYc];have ih3:x=y↔zaW x=zaW y:=by
    have:=ih2;rw[jYc]at this;simpa using this
   simp only[jOa,jPa,jTa,k2,e2,ih3]
theorem zdS {a b:Bs}(ha:zbR a)(hb:zbR b)(h:b.length<a.length):zaW b<zaW a:=by
 obtain⟨a1,a2,a3⟩:=ha;obtain⟨b1,b2,b3⟩:=hb;have hv:=zjP b b1;cases a with
 |nil=>simp at a2
 |cons c x=>
  have h1:=a3 (by simp at h ⊢;omega);have hc:c≠48:=by simpa using h1
  obtain⟨c1,c2⟩:=a1 c (by simp);have h2:1≤c.toNat-48:=by
   have:c.toNat≠48:=fun e=>hc (zt7 e);omega
  simp only[zaW];have h3:10^b.length≤10^x.length:=Nat.pow_le_pow_right (by omega) (by simp at h;omega);have h4:1*10^x.length≤(c.toNat-48)*10^x.length:=Nat.mul_le_mul_right _ h2;omega
theorem zrS {a b:Bs}(ha:zbR a)(hb:zbR b)(h:zaW a=zaW b):a=b:=by
 rcases Nat.lt_trichotomy a.length b.length with hl|hl|hl
 ·have:=zdS hb ha hl;omega
 ·have:=(zjh a b hl ha.1 hb.1).2;rw[jYc]at this;simpa[h]using this
 ·have:=zdS ha hb hl;omega
theorem zx5:∃g,zak prog TT 103 g∧∀a b:Bs,zbR a→zbR b→∀H,g [.s a,.s b] H=.val (.b (decide (zaW b<zaW a))) H:=by
 obtain⟨g,k,s⟩:=zbd zaf zao 103 (fun p:Bs×Bs=>[.s p.1,.s p.2]) (fun p=>zbR p.1∧zbR p.2) (fun p=>.b (decide (zaW p.2<zaW p.1))) (fun p _=>by simp[nlL,nl]) (fun _=>rfl) (fun a b h=>by
  simp only[jPa,V.s.injEq,jGb]at h;rw[h.1,h.2]) (fun p hp=>by
  obtain⟨a,b⟩:=p;obtain⟨ha,hb⟩:=hp;simp only at ha hb ⊢;apply zaV.of1;by_cases h1:b.length<a.length
  ·have:=zdS ha hb h1;rw[jVb this];exact znC n0 a b (by omega)
  ·by_cases h2:a.length=b.length
   ·obtain ⟨k1,k2⟩:=zjh a b h2 ha.1 hb.1;have:=znE n0 a b (by omega) (by rw[h2];simp);rw[k1,k2]at this;have e:(!decide (zaW a<zaW b) && !decide (zaW a=zaW b))=decide (zaW b<zaW a):=by
     rcases Nat.lt_trichotomy (zaW a) (zaW b)with h|h|h
     ·simp[h];omega
     ·simp[h]
     ·have h3:¬zaW a<zaW b:=by omega
      have h4:¬zaW a=zaW b:=by omega
      simp[h,h3,h4]
    rw[e]at this;exact this
   ·have:=zdS hb ha (by omega);have h3:¬zaW b<zaW a:=by omega
    rw[jNb h3];exact znD n0 a b (by omega) (by rw[jDa];omega))
 exact⟨g,k,fun a b ha hb H=>s (a,b) ⟨ha,hb⟩ H⟩
theorem zxZ:∃g,zak prog TT 61 g∧∀n:Nat,n<10→∀H,g [.i .i64 n] H=.val (.s [chD n]) H:=by
 refine⟨fun vs H=>match vs with | [.i .i64 n]=>if 0≤n∧n<10 then .val (.s [chD n.toNat]) H else .no|_=>.no,fun vs H x hx hne=>?_,fun n hn H=>?_⟩
 ·simp only at hx;split at hx
  ·rename_i n;split at hx
   ·rename_i hn;subst hx;obtain⟨k,hk,h1⟩:=zek zvY hn.1 (by omega);subst hk;split at h1
    ·rename_i v J he;split at h1
     ·rename_i l hf;have h2:=eq_of_beq h1;subst h2;obtain⟨e1,e2⟩:=zfM zaf zao Con.none_sound he hf rfl;exact⟨e1,e2 H⟩
     ·cases h1
    ·cases h1
   ·exact absurd hx.symm hne
  ·exact absurd hx.symm hne
 ·have:(0:Int)≤n∧(n:Int)<10:=by omega
  simp only[this,and_self,if_true];simp
def zfC:Bs:=[51,52,48,50,56,50,51,54,54,57,50,48,57,51,56,52,54,51,52,54,51,51,55,52,54,48,55,52,51,49,55,54,56,50,49,49,52,53,53]
theorem zic:zbR zfC:=⟨by unfold zfs zfC;decide,by decide,by decide⟩
theorem zmP:zaW zfC=340282366920938463463374607431768211455:=by decide
def zgk (base:Nat):Bs→Nat→Nat
 | [],v=>v
 |b::l,v=>zgk base l (v*base+(zby b.toNat base).toNat)
theorem zlK (base:Nat)(hb:0<base):∀(l:Bs)(v:Nat),v≤zgk base l v
 | [],v=>jDb _
 |b::l,v=>by
  have h1:=zlK base hb l (v*base+(zby b.toNat base).toNat);have h2:v*1≤v*base:=Nat.mul_le_mul_left _ hb;simp only[zgk];omega
theorem zlf {o:Bs}(h:zbR o)(hv:zaW o≤zaW zfC):o.length≤39:=by
 by_cases hl:zfC.length<o.length
 ·have:=zdS h zic hl;omega
 ·have:zfC.length=39:=rfl;omega
theorem zsD {call:zad}(hC:call.Sound prog TT)(base:Nat)(hb0:0<base)(hb16:base≤16)
 (hd:∀b:UInt8,∀H,call 57 [.i .u8 b.toNat,.i .i64 base] H=.val (.i .i64 (zby b.toNat base)) H)
 (hti:∀(o:Bs)(m:Nat),zbR o→m≤16→o.length<1000→∃o',zbR o'∧zaW o'=zaW o*base+m∧∀H,call 102 [.s o,.i .i64 base,.i .i64 m] H=.val (.s o') H)
 (habove:∀o:Bs,zbR o→∀H,call 103 [.s o,.s zfC] H=.val (.b (decide (zaW zfC<zaW o))) H){Q:Out→Prop}:∀(L pre out:Bs)(t:Tm)(H:zaa),(pre++L).length<1000000000→(∀b∈L,0≤zby b.toNat base∧zby b.toNat base<16)→zbR out→zaW out≤zaW zfC →
 t.wid=25→t.get 0=.s (pre++L)→t.get 1=.i .i64 base→t.get 6=.s out→t.get 7=.i .i64 pre.length →
 (∀(t':Tm)(H':zaa),t'.wid=25→∀o:Bs,zbR o→zaW o=zgk base L (zaW out)→zaW o≤zaW zfC→t'.get 6=.s o→Q (.exit 0 t' H')) →
 (∀(t':Tm)(H':zaa),zaW zfC<zgk base L (zaW out)→t'.get 4=.s []→t'.get 5=.b false→Q (.ret t' H')) →
 zaM prog TT (sub [tt,tt,ff,tt,ff,ff] (zae f84)) t H Q:=by
 intro L;induction L with
 |nil=>
  intro pre out t H hlen hdig hc hv hw h0 h1 h6 h7 hE hR;have hF:=ai @h0 (ai @h1 (ai @h6 @h7));refine zaM.round' ?_;apply sQ;apply rS hC
  ·iterate 4 refine oA ?_
   rfl
  refine cF (by simp[hF]<;>rfl) ?_;refine Tri.exit ?_;refine zaz ?_;refine zay ?_;exact hE _ _ (by simp[hw]) out hc rfl hv (by simp[h6])
 |cons b L ih=>
  intro pre out t H hlen hdig hc hv hw h0 h1 h6 h7 hE hR;have hlt:=zdV pre.length L.length;have hat:=zhv pre b L;have hat2:=zeQ pre b L;obtain⟨d1,d2⟩:=hdig b (by simp);obtain⟨D,hD⟩:∃D:Nat,zby b.toNat base=D:=⟨(zby b.toNat base).toNat,by omega⟩;have hdg:=hd b;rw[hD]at hdg;have hsm:=zlf hc hv;obtain⟨o2,hc2,hv2,ht⟩:=hti out D hc (by omega) (by omega);have hv2':zaW o2=zaW out*base+(zby b.toNat base).toNat:=by rw[hv2,hD];simp
  clear hv2;have hv2:=hv2';have hab:=habove o2 hc2;by_cases hbg:zaW zfC<zaW o2
  ·rw [jVb hbg]at hab;unfold zfC at hab;have hbig:zaW zfC<zgk base (b::L) (zaW out):=by
    have:=zlK base hb0 L (zaW o2);simp only[zgk];rw[←hv2];omega
   have hF:=ai @h0 (ai @h1 (ai @h6 (ai @h7 (ai @hlt (ai @hat (ai @hat2 (ai @hdg (ai @ht @hab))))))));refine zaM.round' ?_;apply sQ;apply rS hC
   ·iterate 4 refine oA ?_
    rfl
   refine cT (by simp[hF]<;>rfl) ?_;apply Tri.skip;apply sN;apply sQ;apply bK;apply rS hC
   ·iterate 9 refine oA ?_
    rfl
   apply rS hC
   ·iterate 2 refine oA ?_
    rfl
   refine cT (by simp[hF]<;>rfl) ?_;apply rS hC
   ·iterate 2 refine oA ?_
    rfl
   apply Tri.ret;apply bR;apply sR;refine zce ?_;exact hR _ _ hbig (by simp) (by simp)
  ·rw[jNb hbg]at hab;unfold zfC at hab;have hF:=ai @h0 (ai @h1 (ai @h6 (ai @h7 (ai @hlt (ai @hat (ai @hat2 (ai @hdg (ai @ht @hab))))))));refine zaM.round' ?_;apply sQ;apply rS hC
   ·iterate 4 refine oA ?_
    rfl
   refine Tri.condG (o:=?og2) (b:=?bg2) ?gg2 ?rg2 ?yg2 ?ng2;case gg2=>simp[hF]<;>rfl
   case rg2=>rfl
   case yg2=>
    intro hy2;apply Tri.skip;apply sN;apply sQ;apply bK;apply rS hC
    ·iterate 9 refine oA ?_
     rfl
    apply rS hC
    ·iterate 2 refine oA ?_
     rfl
    refine cF (by simp[hF]<;>rfl) ?_;apply Tri.skip;apply bN;apply sN;apply rN hC
    ·iterate 3 refine oA ?_
     rfl
    refine zaq ?_;refine ih (pre++[b]) o2 _ _ (by simpa using hlen) (fun c hcc=>hdig c (by simp[hcc])) hc2 (by omega) (by simp[hw]) (by simp[h0]) (by simp[h1]) (by simp) (by simp;exact zaj (by omega) (by simp at hlen;omega)) ?_ ?_
    ·intro t' H' k1 o k2 k3 k5 k4;exact hE t' H' k1 o k2 (by rw[k3,hv2];rfl) k5 k4
    ·intro t' H' k1 k2 k3;exact hR t' H' (by simp only[zgk];rw[←hv2];exact k1) k2 k3
   case ng2=>
    intro hn2;exfalso;simp at hn2
theorem zoZ {call:zad} (hC:call.Sound prog TT) (s:Bs) (base:Nat) (hb0:0<base) (hb16:base≤16) (hlen:s.length<1000000000) (hdig:∀b∈s,0≤zby b.toNat base∧zby b.toNat base<16)
    (hd:∀b:UInt8,∀H,call 57 [.i .u8 b.toNat,.i .i64 base] H=.val (.i .i64 (zby b.toNat base)) H)
    (hti:∀(o:Bs)(m:Nat),zbR o→m≤16→o.length<1000→∃o',zbR o'∧zaW o'=zaW o*base+m∧∀H,call 102 [.s o,.i .i64 base,.i .i64 m] H=.val (.s o') H)
    (habove:∀o:Bs,zbR o→∀H,call 103 [.s o,.s zfC] H=.val (.b (decide (zaW zfC<zaW o))) H)  : zaV prog TT 84 [.s s,.i .i64 base] (fun r=>(∃o,zbR o∧zaW o=zgk base s 0∧zgk base s 0≤zaW zfC∧r=.val (.tup [.s o,.b true]))∨(zaW zfC<zgk base s 0∧r=.val (.tup [.s [],.b false]))):=by
 refine en f84 rfl rfl (by simp[f84]) 25 rfl fun t hw hg=>?_
 have h0:=hg 0 _ rfl
 have h1:=hg 1 _ rfl
 clear hg
 try simp only[Nd.enc_eq]at *
 apply rS hC
 · iterate 2 refine oA ?_
   rfl
 apply rS hC
 · refine oA ?_
   rfl
 apply sQ
 apply rS hC
 · refine oA ?_
   rfl
 apply bK
 refine Tri.loop ?_
 refine zsD hC base hb0 hb16 hd hti habove s [] [48] _ _ (by simpa using hlen) hdig ⟨by unfold zfs;decide,by decide,by decide⟩ (by rw[zmP];decide) (by simp[hw]) (by simp[h0]) (by simp[h1]) (by simp) (by simp) ?exit ?ret
 case exit=>
  intro t2 H2 hw o hc hv hle h6
  have h4:True:=trivial
  have h5:True:=trivial
  have hres:(∃o,zbR o∧zaW o=zgk base s 0∧zgk base s 0≤zaW zfC∧Res.val (.tup [.s o,.b true])=.val (.tup [.s o,.b true]))∨True:=.inr trivial
  refine zav ?_
  apply sN
  apply rS hC
  · iterate 3 refine oA ?_
    rfl
  apply Tri.ret
  first
   | refine zcP (by simp[f84,h4,h5]<;>rfl) (by rfl) ?_
     exact .inr ⟨hbig,rfl⟩
   | refine zcP (by simp[f84,h4,h5]<;>rfl) (by rfl) ?_
     exact .inl ⟨o,hc,hv,hv▸hle,rfl⟩
 case ret=>
  intro t2 H2 hbig h4 h5
  apply bR
  apply sR
  first
   | refine zcP (by simp[f84,h4,h5]<;>rfl) (by rfl) ?_
     exact .inr ⟨hbig,rfl⟩
   | refine zcP (by simp[f84,h4,h5]<;>rfl) (by rfl) ?_
     exact .inl ⟨o,hc,hv,hv▸hle,rfl⟩
theorem zx4:∃g,zak prog TT 102 g∧∀(o:Bs)(base m:Nat),zbR o→base≤16→m≤16→o.length<1000→∃o',zbR o'∧zaW o'=zaW o*base+m∧∀H,g [.s o,.i .i64 base,.i .i64 m] H=.val (.s o') H:=by
 obtain⟨gi,ki,si⟩:=zxZ;obtain⟨g,hg,hs⟩:=zcM zaf zao 102 (fun vs=>∃(o:Bs)(base m:Nat),zbR o∧base≤16∧m≤16∧o.length<1000∧vs=[.s o,.i .i64 base,.i .i64 m]) (fun vs r=>∃(o:Bs)(base m:Nat)(o':Bs),vs=[.s o,.i .i64 base,.i .i64 m]∧r=.val (.s o')∧zbR o'∧zaW o'=zaW o*base+m) (by
  rintro vs ⟨o,base,m,hc,hb,hm,hl,rfl⟩;refine⟨by simp[nlL,nl],by rintro r ⟨_,_,_,_,_,rfl,_⟩;rfl,?_⟩;refine(zo1 (ws n0 ki) o base m hc.1 hc.2.1 hb hm (by omega) (fun n hn H=>by rw[zan];exact si n hn H) (zaj (by omega) (by omega))).mono ?_;rintro r ⟨o',rfl,h1,h2⟩;exact⟨o,base,m,o',rfl,rfl,h1,h2⟩)
 refine⟨g,hg,fun o base m hc hb hm hl=>?_⟩;obtain⟨r,⟨o1,b1,m1,o',e,rfl,h1,h2⟩,h⟩:=hs _ ⟨o,base,m,hc,hb,hm,hl,rfl⟩;simp only[jPa,V.s.injEq,V.i.injEq,jLb,jGb]at e;obtain⟨rfl,e2,e3⟩:=e;rw[show b1=base from by omega,show m1=m from by omega]at h2;exact⟨o',h1,h2,h⟩
def zrC (s:Bs)(base:Nat)(r:V):Prop:=(∃o,zbR o∧zaW o=zgk base s 0∧zgk base s 0≤zaW zfC∧r=.tup [.s o,.b true])∨(zaW zfC<zgk base s 0∧r=.tup [.s [],.b false])
theorem zx2:∃g,zak prog TT 84 g∧∀(s:Bs)(base:Nat),base=2∨base=10∨base=16→s.length<1000000000→(∀b∈s,0≤zby b.toNat base)→∃r,zrC s base r∧∀H,g [.s s,.i .i64 base] H=.val r H:=by
 obtain⟨g1,k1,s1⟩:=zkS;obtain⟨g2,k2,s2⟩:=zx4;obtain⟨g3,k3,s3⟩:=zx5;obtain⟨g,hg,hs⟩:=zcM zaf zao 84 (fun vs=>∃(s:Bs)(base:Nat),(base=2∨base=10∨base=16)∧s.length<1000000000∧(∀b∈s,0≤zby b.toNat base)∧vs=[.s s,.i .i64 base]) (fun vs r=>∃(s:Bs)(base:Nat)(v:V),vs=[.s s,.i .i64 base]∧r=.val v∧zrC s base v) (by
  rintro vs ⟨s,base,hb,hl,hd,rfl⟩;have hb16:base≤16:=by rcases hb with rfl|rfl|rfl<;>omega
  have hb0:0<base:=by rcases hb with rfl|rfl|rfl<;>omega
  refine⟨by simp[nlL,nl],?_,?_⟩
  ·rintro r ⟨_,_,v,_,rfl,⟨o,_,_,_,rfl⟩|⟨_,rfl⟩⟩<;>rfl
  have hC:=ws (ws (ws n0 k1) k2) k3;generalize hc:((zad.none.with 57 g1).with 102 g2).with 103 g3=call at hC;have c1:∀b:UInt8,∀H,call 57 [.i .u8 b.toNat,.i .i64 base] H=.val (.i .i64 (zby b.toNat base)) H:=fun b H=>by
   rw[←hc,zac _ _ _ _ rfl,zac _ _ _ _ rfl,zan];exact s1 _ _ (by omega) (zov b) (by rcases hb with rfl|rfl|rfl<;>simp) H
  have c2:∀(o:Bs)(m:Nat),zbR o→m≤16→o.length<1000→∃o',zbR o'∧zaW o'=zaW o*base+m∧∀H,call 102 [.s o,.i .i64 base,.i .i64 m] H=.val (.s o') H:=fun o m a b c=>by
   obtain⟨o',x,y,z⟩:=s2 o base m a hb16 b c;exact⟨o',x,y,fun H=>by rw[←hc,zac _ _ _ _ rfl,zan];exact z H⟩
  have c3:∀o:Bs,zbR o→∀H,call 103 [.s o,.s zfC] H=.val (.b (decide (zaW zfC<zaW o))) H:=fun o a H=>by
   rw[←hc,zan];exact s3 o zfC a zic H
  refine(zoZ hC s base hb0 hb16 hl (fun b hbs=>⟨hd b hbs,?_⟩) c1 c2 c3).mono ?_
  ·have:=hd b hbs;have h2:zby b.toNat base<base:=by
    unfold zby at this ⊢;split
    ·omega
    ·omega
   omega
  ·rintro r (⟨o,a1,a2,a3,rfl⟩|⟨a1,rfl⟩)
   ·exact⟨s,base,_,rfl,rfl,.inl ⟨o,a1,a2,a3,rfl⟩⟩
   ·exact⟨s,base,_,rfl,rfl,.inr ⟨a1,rfl⟩⟩)
 refine⟨g,hg,fun s base hb hl hd=>?_⟩;obtain⟨r,⟨s1,b1,v,e,rfl,h1⟩,h⟩:=hs _ ⟨s,base,hb,hl,hd,rfl⟩;simp only[jPa,V.s.injEq,V.i.injEq,jLb,jGb]at e;obtain⟨rfl,e2⟩:=e;rw[show b1=base from by omega]at h1;exact⟨v,h1,h⟩
theorem zx1:∃g,zak prog TT 83 g∧∀(s:Bs)(i:Nat)(base:Int),base=2∨base=10∨base=16→s.length<1000000000→i≤s.length→∀H,g [.s s,.i .i64 i,.i .i64 base] H=.val (.tup [.i .i64 ((i+(zaY base (s.drop i) [] false).1:Nat):Int),.s (zaY base (s.drop i) [] false).2]) H:=by
 obtain⟨g1,k1,s1⟩:=zkS;obtain⟨g2,k2,s2⟩:=zkR;obtain⟨g,k,s⟩:=zbd zaf zao 83 (fun p:Bs×Nat×Int=>[.s p.1,.i .i64 p.2.1,.i .i64 p.2.2]) (fun p=>(p.2.2=2∨p.2.2=10∨p.2.2=16)∧p.1.length<1000000000∧p.2.1≤p.1.length) (fun p=>.tup [.i .i64 ((p.2.1+(zaY p.2.2 (p.1.drop p.2.1) [] false).1:Nat):Int),.s (zaY p.2.2 (p.1.drop p.2.1) [] false).2]) (fun p _=>by simp[nlL,nl]) (fun _=>by simp[nl,nlL]) (fun a b h=>by
  simp only[jPa,V.s.injEq,V.i.injEq,jLb,jGb]at h;rw[h.1,show a.2.1=b.2.1 from by omega,h.2.2]) (fun p hp=>by
  obtain⟨s,i,base⟩:=p;obtain⟨hb,hl,hi⟩:=hp;simp only at hb hl hi ⊢;obtain⟨pre,L,rfl,rfl⟩:∃pre L,s=pre++L∧i=pre.length:=⟨s.take i,s.drop i,by simp,by simp[Nat.min_eq_left hi]⟩;have hC:=ws (ws n0 k1) k2;rw[show(pre++L).drop pre.length=L from by simp];exact zaV.of1 (zoY hC pre L base hl (fun b H=>by
   rw[zac _ _ _ _ rfl,zan];exact s1 _ _ (by omega) (zov b) hb H) (fun s i H=>by
   rw[zan];exact s2 s i H)))
 exact⟨g,k,fun a i b h0 h1 h2 H=>s (a,i,b) ⟨h0,h1,h2⟩ H⟩
def zcs (s:Bs)(k:Nat):Nat×Bs:=if((atR s k==43)||(atR s k==45))=true then(k+1,(s.take (k+1)).drop k)else(k,[])
def zi3 (s:Bs) (e:Nat) (text:Bs) (k:Int):Option (Nat×Bs×Int):=if((atR s e==101)||(atR s e==69))=true then
    if(zaY 10 (s.drop (zcs s (e+1)).1) [] false).2=[]then none else some ((zcs s (e+1)).1+(zaY 10 (s.drop (zcs s (e+1)).1) [] false).1,text++101::((zcs s (e+1)).2++(zaY 10 (s.drop (zcs s (e+1)).1) [] false).2),4)
  else some (e,text,k)
theorem zfK {s:Bs}{i:Nat}(h:atR s i≠0):i<s.length:=by
 unfold atR at h;by_cases hi:i<s.length
 ·exact hi
 ·rw[jGc (by omega)]at h;exact absurd rfl h
theorem zea (base:Int):∀(L out:Bs)(pd:Bool),(zaY base L out pd).2.length≤out.length+L.length
 | [],out,pd=>by simp[zaY]
 |b::L,out,pd=>by
  have h1:=zea base L (out++[b]) true;have h2:=zea base L out false;simp only[zaY,jIa];simp only[jLa,jIa,jVa]at h1;split
  ·simp only;omega
  ·split<;>simp only<;>omega
def zet (s:Bs)(e:Nat)(d:Bs):Nat×Bs×Int:=if((atR s e==46)&&decide (0≤zby (atR s (e+1)) 10))=true then(e+1+(zaY 10 (s.drop (e+1)) [] false).1,d++46::(zaY 10 (s.drop (e+1)) [] false).2,4)else(e,d,3)
def zhp (s:Bs)(e:Nat)(d:Bs):Option (Nat×Bs×Int):=zi3 s (zet s e d).1 (zet s e d).2.1 (zet s e d).2.2
def ziz (k:Int)(t:Bs):V:=.agg [.i .i64 k,.s t,.i .i64 0,.b false]
def zlq:V:=.tup [ziz 0 [],.i .i64 0,.i .i64 33]
def okV (k:Int)(t:Bs)(e:Nat):V:=.tup [ziz k t,.i .i64 e,.i .i64 0]
def zcj (s d:Bs)(base e:Nat)(text:Bs)(k:Int)(v:V):Prop:=
 (((d==[])||zcR (atR s e))=true∧v=zlq)∨(((d==[])||zcR (atR s e))=false∧((k=4∧v=okV 4 text e)∨(k=3∧((∃o,zbR o∧zaW o=zgk base d 0∧zgk base d 0≤zaW zfC∧v=okV 3 o e)∨(zaW zfC<zgk base d 0∧v=zlq)))))
def zk9 (s:Bs)(i:Nat)(v:V):Prop:=
 if zdM s i [48,120]=true then zcj s (zaY 16 (s.drop (i+2)) [] false).2 16 (i+2+(zaY 16 (s.drop (i+2)) [] false).1) (zaY 16 (s.drop (i+2)) [] false).2 3 v
 else if zdM s i [48,98]=true then zcj s (zaY 2 (s.drop (i+2)) [] false).2 2 (i+2+(zaY 2 (s.drop (i+2)) [] false).1) (zaY 2 (s.drop (i+2)) [] false).2 3 v
 else(zhp s (i+(zaY 10 (s.drop i) [] false).1) (zaY 10 (s.drop i) [] false).2=none∧v=zlq)∨∃e' t' k',zhp s (i+(zaY 10 (s.drop i) [] false).1) (zaY 10 (s.drop i) [] false).2=some (e',t',k')∧zcj s (zaY 10 (s.drop i) [] false).2 10 e' t' k' v
theorem zAg:zaQ TT shf f58.ntmps [13,32] (zae f58) [] ⟨[(0,.f1 .vs (.va 0)),(1,.f1 (.vi .i64) (.va 1))],⟨.va 2,[],[]⟩,3,[]⟩ (KF TT f58 [0,4,7,9,10,11,12])=let qe:E:=xs v0;let qg:E:=x3 qe (xi v1) (xs (.cs [48,98]));let qi:E:=xi (xw (xa v1 c2));let qh:E:=xs v6;let qc:E:=xt (x2 (xi v5) qh);let qd:E:=xp (xN (xh v2) (.cn 0));let qb:SH:=⟨v2,[],[xk 44 (x4 (xi c0) (xs (.cs [])) (xi c0) (xb (.cb false)))]⟩;let qf:Tree:=.stuck 0;let qa:Tree:=.asks (.call 83 (x3 qe qi (xi c2))) [.i,.s] qc (.leaf (.stop [tt,tt,tt,tt,tt,tt,tt,tt,tt,ff,ff]) [(0,qe),(4,qd),(7,xi c2),(9,xi v5),(10,qh),(11,qh),(12,xi c3)] qb) qf;.asks (.call 56 (x3 qe (xi v1) (xs (.cs [48,120])))) [.b] (xb v3) (.ite v3 (.asks (.call 56 qg) [.b] (xb v4) (.ite v4 qa (.asks (.call 83 (x3 qe qi (xi (xc 16)))) [.i,.s] qc (.leaf (.stop [tt,tt,tt,tt,tt,tt,tt,tt,tt,ff,ff]) [(0,qe),(4,qd),(7,xi (xc 16)),(9,xi v5),(10,qh),(11,qh),(12,xi c3)] qb) qf)) qf) (.asks (.call 56 qg) [.b] (xb v4) (.ite v4 qa (.asks (.call 83 (x3 qe (xi v1) (xi c10))) [.i,.s] qc (.leaf (.stop [tt,tt,tt,tt,tt,tt,tt,tt,ff,tt,ff,ff,ff]) [(0,qe),(4,qd),(7,xi c10),(9,xi v5),(10,qh),(11,qh),(12,xi c3)] qb) qf)) qf)) qf:=by kernel_rfl
theorem zAh:goT TT shf f58.ntmps [18] [tt,tt,tt,tt,tt,tt,tt,tt,ff,tt,ff,ff,ff] (zae f58) [] ⟨[(0,.f1 .vs (.va 0)),(4,.f1 (.ptr 0) (.va 1)),(7,.f1 (.vi .i64) (.va 2)),(9,.f1 (.vi .i64) (.va 3)),(10,.f1 .vs (.va 4)),(11,.f1 .vs (.va 5)),(12,.f1 (.vi .i64) (.va 6))],⟨.va 7,[(.va 1,some ⟨44,.f2 .cons (.f1 (.vi .i64) (.ci 0)) (.f2 .cons (.f1 .vs (.cs [])) (.f2 .cons (.f1 (.vi .i64) (.ci 0)) (.f2 .cons (.f1 .vb (.cb false)) .nil))),.all⟩)],[]⟩,8,[]⟩ (KF TT f58 [0,4,7,9,10,11,12])=let qe:E:=xs v0;let qf:E:=xi (xw (xa v3 c1));let qc:E:=xc 9223372036854775807;let qg:E:=xP v5 (.cs [46]);let qb:SH:=⟨v7,[(v1,xk 44 (x4 (xi c0) (xs (.cs [])) (xi c0) (xb (.cb false))))],[]⟩;let qd:Tree:=.stuck 0;let qa:Tree:=.leaf (.stop [tt,tt,tt,tt,tt,tt,tt,tt,ff,tt,ff,tt,ff]) [(0,qe),(4,xp v1),(7,xi v2),(9,xi v3),(10,xs v4),(11,xs v5),(12,xi v6)] qb;.asks (.call 64 (x2 qe (xi v3))) [.i] (xu v8) (.ite (xe v8 (xc 46)) (.asks (.call 64 (x2 qe qf)) [.i] (xu v9) (.asks (.call 57 (x2 (xu v9) (xi c10))) [.i] (xi v10) (.ite (xH v10 c0) (.asks (.call 83 (x3 qe qf (xi c10))) [.i,.s] (xt (x2 (xi v11) (xs v12))) (.need (xE (xa (xl v5) c1) qc) (.need (xE (xa (xl qg) (xl v12)) qc) (.leaf (.stop [tt,tt,tt,tt,tt,tt,tt,tt,ff,tt,ff,tt,ff]) [(0,qe),(4,xp v1),(7,xi v2),(9,xi v11),(10,xs v4),(11,xs (xP qg v12)),(12,xi (xc 4))] qb))) qd) qa) qd) qd) qa) qd:=by kernel_rfl
theorem zAi:goT TT shf f58.ntmps [22,32] [tt,tt,tt,tt,tt,tt,tt,tt,ff,tt,ff,tt,ff] (zae f58) [] ⟨[(0,.f1 .vs (.va 0)),(4,.f1 (.ptr 0) (.va 1)),(7,.f1 (.vi .i64) (.va 2)),(9,.f1 (.vi .i64) (.va 3)),(10,.f1 .vs (.va 4)),(11,.f1 .vs (.va 5)),(12,.f1 (.vi .i64) (.va 6))],⟨.va 7,[(.va 1,some ⟨44,.f2 .cons (.f1 (.vi .i64) (.ci 0)) (.f2 .cons (.f1 .vs (.cs [])) (.f2 .cons (.f1 (.vi .i64) (.ci 0)) (.f2 .cons (.f1 .vb (.cb false)) .nil))),.all⟩)],[]⟩,8,[]⟩ (KF TT f58 [0,4,7,9,10,11,12,16,17])=let qb:SH:=⟨v7,[(v1,xk 44 (x4 (xi c0) (xs (.cs [])) (xi c0) (xb (.cb false))))],[]⟩;let qa:Tree:=.leaf (.stop [tt,tt,tt,tt,tt,tt,tt,tt,ff,tt,ff,tt,tt,tt,ff,tt,tt,ff,ff]) [(0,xs v0),(4,xp v1),(7,xi v2),(9,xi v3),(10,xs v4),(11,xs v5),(12,xi v6),(16,xi (xw (xa v3 c1))),(17,xs (.cs []))] qb;.asks (.call 64 (x2 (xs v0) (xi v3))) [.i] (xu v8) (.ite (xe v8 (xc 101)) qa (.ite (xe v8 (xc 69)) qa (.leaf (.stop [tt,tt,tt,tt,tt,tt,tt,tt,tt,ff,ff]) [(0,xs v0),(4,xp v1),(7,xi v2),(9,xi v3),(10,xs v4),(11,xs v5),(12,xi v6)] qb))) (.stuck 0):=by kernel_rfl
theorem zAk:goT TT shf f58.ntmps [26] [tt,tt,tt,tt,tt,tt,tt,tt,ff,tt,ff,tt,tt,tt,ff,tt,tt,ff,ff] (zae f58) [] ⟨[(0,.f1 .vs (.va 0)),(4,.f1 (.ptr 0) (.va 1)),(7,.f1 (.vi .i64) (.va 2)),(10,.f1 .vs (.va 3)),(11,.f1 .vs (.va 4)),(16,.f1 (.vi .i64) (.va 5)),(17,.f1 .vs (.va 6))],⟨.va 7,[(.va 1,some ⟨44,.f2 .cons (.f1 (.vi .i64) (.ci 0)) (.f2 .cons (.f1 .vs (.cs [])) (.f2 .cons (.f1 (.vi .i64) (.ci 0)) (.f2 .cons (.f1 .vb (.cb false)) .nil))),.all⟩)],[]⟩,8,[]⟩ (KF TT f58 [0,4,7,10,11,16,17])=let qc:E:=xw (xa v5 c1);let qb:SH:=⟨v7,[(v1,xk 44 (x4 (xi c0) (xs (.cs [])) (xi c0) (xb (.cb false))))],[]⟩;let qa:Tree:=.need (xE c0 v5) (.need (xE v5 qc) (.need (xE qc (xl v0)) (.leaf (.stop [tt,tt,tt,tt,tt,tt,tt,tt,ff,tt,ff,tt,tt,tt,ff,tt,tt,tt,ff]) [(0,xs v0),(4,xp v1),(7,xi v2),(10,xs v3),(11,xs v4),(16,xi qc),(17,xs (.f3 .sub v0 v5 qc))] qb)));.asks (.call 64 (x2 (xs v0) (xi v5))) [.i] (xu v8) (.ite (xe v8 (xc 43)) qa (.ite (xe v8 (xc 45)) qa (.leaf (.stop [tt,tt,tt,tt,tt,tt,tt,tt,ff,tt,ff,tt,tt,tt,ff,tt,tt,tt,ff]) [(0,xs v0),(4,xp v1),(7,xi v2),(10,xs v3),(11,xs v4),(16,xi v5),(17,xs v6)] qb))) (.stuck 0):=by kernel_rfl
theorem zAl:goT TT shf f58.ntmps [32] [tt,tt,tt,tt,tt,tt,tt,tt,ff,tt,ff,tt,tt,tt,ff,tt,tt,tt,ff] (zae f58) [] ⟨[(0,.f1 .vs (.va 0)),(4,.f1 (.ptr 0) (.va 1)),(7,.f1 (.vi .i64) (.va 2)),(10,.f1 .vs (.va 3)),(11,.f1 .vs (.va 4)),(16,.f1 (.vi .i64) (.va 5)),(17,.f1 .vs (.va 6))],⟨.va 7,[(.va 1,some ⟨44,.f2 .cons (.f1 (.vi .i64) (.ci 0)) (.f2 .cons (.f1 .vs (.cs [])) (.f2 .cons (.f1 (.vi .i64) (.ci 0)) (.f2 .cons (.f1 .vb (.cb false)) .nil))),.all⟩)],[]⟩,8,[]⟩ (KF TT f58 [0,4,7,9,10,11,12])=let qa:E:=x4 (xi c0) (xs (.cs [])) (xi c0) (xb (.cb false));let qd:SH:=⟨v7,[(v1,xk 44 qa)],[]⟩;let qb:E:=xc 9223372036854775807;let qc:E:=xP v4 (.cs [101]);.asks (.call 83 (x3 (xs v0) (xi v5) (xi c10))) [.i,.s] (xt (x2 (xi v8) (xs v9))) (.ite (xQ v9 (.cs [])) (.fin (xt (x3 (xg qa) (xi c0) (xi (xc 33)))) qd) (.need (xE (xa (xl v4) c1) qb) (.need (xE (xa (xl qc) (xl v6)) qb) (.need (xE (xa (xl (xP qc v6)) (xl v9)) qb) (.leaf (.stop [tt,tt,tt,tt,tt,tt,tt,tt,tt,ff,ff]) [(0,xs v0),(4,xp v1),(7,xi v2),(9,xi v8),(10,xs v3),(11,xs (xP (xP qc v6) v9)),(12,xi (xc 4))] qd))))) (.stuck 0):=by kernel_rfl
theorem zAj:goT TT shf f58.ntmps [] [tt,tt,tt,tt,tt,tt,tt,tt,tt,ff,ff] (zae f58) [] ⟨[(0,.f1 .vs (.va 0)),(4,.f1 (.ptr 0) (.va 1)),(7,.f1 (.vi .i64) (.va 2)),(9,.f1 (.vi .i64) (.va 3)),(10,.f1 .vs (.va 4)),(11,.f1 .vs (.va 5)),(12,.f1 (.vi .i64) (.va 6))],⟨.va 7,[(.va 1,some ⟨44,.f2 .cons (.f1 (.vi .i64) (.ci 0)) (.f2 .cons (.f1 .vs (.cs [])) (.f2 .cons (.f1 (.vi .i64) (.ci 0)) (.f2 .cons (.f1 .vb (.cb false)) .nil))),.all⟩)],[]⟩,8,[]⟩ (KF TT f58 [0,4,7,9,10,11,12])=let qc:E:=xi c0;let qb:E:=xb (.cb false);let qe:E:=x4 qc (xs (.cs [])) qc qb;let qa:Tree:=.fin (xt (x3 (xg qe) qc (xi (xc 33)))) ⟨v7,[(v1,xk 44 qe)],[]⟩;let qd:E:=x4 (xi v6) (xs v10) qc qb;let qf:E:=x4 (xi v6) (xs v5) qc qb;.ite (xQ v4 (.cs [])) qa (.asks (.call 64 (x2 (xs v0) (xi v3))) [.i] (xu v8) (.asks (.call 63 (x1 (xu v8))) [.b] (xb v9) (.ite v9 qa (.ite (xe v6 c3) (.asks (.call 84 (x2 (xs v4) (xi v2))) [.s,.b] (xt (x2 (xs v10) (xb v11))) (.ite v11 (.fin (xt (x3 (xg qd) (xi v3) qc)) ⟨v7,[(v1,xk 44 qd)],[]⟩) qa) (.stuck 0)) (.fin (xt (x3 (xg qf) (xi v3) qc)) ⟨v7,[(v1,xk 44 qf)],[]⟩))) (.stuck 0)) (.stuck 0)):=by kernel_rfl
def vaR (S:V→Prop):OR→Prop
 | .val v _=>S v
 |_=>False
theorem zaA.va {F:FuncId}{vs:List V}{S:V→Prop}(h:zaA prog TT F vs [] (vaR S)):zaV prog TT F vs (fun x=>∃v,x=.val v∧S v):=by
 obtain⟨fn,c,h1,h2,h3,h4⟩:=h;refine⟨fn,c,h1,h2,h3,h4.mono fun o ho=>?_⟩;cases o with
 |norm t H=>obtain⟨v,k1,k2⟩:=ho;exact⟨_,⟨v,rfl,k1⟩,k2⟩
 |ret t H=>obtain⟨v,k1,k2⟩:=ho;exact⟨_,⟨v,rfl,k1⟩,k2⟩
 |pan v t H=>exact ho.elim
 |exit j t H=>exact ho.elim
 |no=>exact ho.elim
def AtN (p:List Bool)(t:Tm)(S:V→Prop):Prop:=∀H:zaa,0<H.length→Tri prog TT (sub p (zae f58)) t (H.set 0 (some ⟨44,[.i .i64 0,.s [],.i .i64 0,.b false],.all⟩)) (ctx prog TT p (zae f58) (zaF TT f58 (vaR S)))
section
variable {call:zad} (hC:call.Sound prog TT) (s:Bs) (hsl:s.length<100000000) (S:V→Prop)
  (ha:∀(j:Nat) H,call 64 [.s s,.i .i64 j] H=.val (.i .u8 (atR s j)) H) (hwd:∀(j:Nat) H,call 63 [.i .u8 (atR s j)] H=.val (.b (zcR (atR s j))) H) (hd1:∀(j:Nat) H,call 57 [.i .u8 (atR s j),.i .i64 10] H=.val (.i .i64 (zby (atR s j) 10)) H)
  (hdg:∀(b:Int)(j:Nat),b=2∨b=10∨b=16→j≤s.length→∀H,call 83 [.s s,.i .i64 j,.i .i64 b] H=.val (.tup [.i .i64 ((j+(zaY b (s.drop j) [] false).1:Nat):Int),.s (zaY b (s.drop j) [] false).2]) H)
include hC ha hwd in
theorem zzi {d text:Bs}{base e:Nat}{k:Int}{t:Tm}(hdec:∃r,zrC d base r∧∀H,call 84 [.s d,.i .i64 base] H=.val r H)(hk:k=3∨k=4)(hS:∀v,zcj s d base e text k v→S v)(hw:t.wid=f58.ntmps)(t0:t.get 0=.s s)(t4:t.get 4=.ptr 0 0)(t7:t.get 7=.i .i64 (base:Nat))(t9:t.get 9=.i .i64 (e:Nat))(t10:t.get 10=.s d)(t11:t.get 11=.s text)(t12:t.get 12=.i .i64 k) :
 AtN [tt,tt,tt,tt,tt,tt,tt,tt,tt,ff,ff] t S:=fun H hH=>by
 refine Tri.symIn zaf hC zAj (by kernel_rfl) [.us s,.un 0,.ui (base:Nat),.ui (e:Nat),.us d,.us text,.ui k,.uh H] rfl hw ⟨t0,t4,t7,t9,t10,t11,t12,trivial⟩ rfl ⟨by simp;exact hH,by simp⟩ ?_;clear t0 t4 t7 t9 t10 t11 t12 hw;simp -implicitDefEqProofs only[VC,isR,exU,Ask.den,E.den,O1.den,O2.den,O3.den,SH.den,zat,za9,bD,SB.den,zai,LQ,uu,uW,jOa,jUa,jDa];refine⟨fun h=>hS _ (.inl ⟨by simp[h],rfl⟩),fun h=>.inl ⟨_,ha e,.inl ⟨_,hwd e,fun h2=>hS _ (.inl ⟨by simp[h2],rfl⟩),fun h2=>⟨fun h3=>?_,fun h3=>hS _ (.inr ⟨by simp[h,h2],.inl ⟨by omega,?_⟩⟩)⟩⟩⟩⟩
 ·subst h3;obtain⟨r,⟨o,o1,o2,o3,rfl⟩|⟨o1,rfl⟩,hr⟩:=hdec
  ·exact .inl ⟨_,_,hr,fun _=>hS _ (.inr ⟨by simp[h,h2],.inr ⟨rfl,.inl ⟨o,o1,o2,o3,rfl⟩⟩⟩),fun h=>by cases h⟩
  ·exact .inl ⟨_,_,hr,fun h=>(by cases h),fun _=>hS _ (.inr ⟨by simp[h,h2],.inr ⟨rfl,.inr ⟨o1,rfl⟩⟩⟩)⟩
 ·rw[show k=4 by omega];rfl
include hC hsl ha hwd hdg in
theorem zAt {d text sg:Bs}{p:Nat}{t:Tm}(hdec:∃r,zrC d 10 r∧∀H,call 84 [.s d,.i .i64 10] H=.val r H)(hp:p≤s.length)(hsg:sg.length≤5)(ht:text.length<1200000000)(hS:∀v,(((zaY 10 (s.drop p) [] false).2=[]∧v=zlq)∨((zaY 10 (s.drop p) [] false).2≠[]∧zcj s d 10 (p+(zaY 10 (s.drop p) [] false).1) (text++101::(sg++(zaY 10 (s.drop p) [] false).2)) 4 v))→S v)
 (hw:t.wid=f58.ntmps)(t0:t.get 0=.s s)(t4:t.get 4=.ptr 0 0)(t7:t.get 7=.i .i64 10)(t10:t.get 10=.s d)(t11:t.get 11=.s text)(t16:t.get 16=.i .i64 (p:Nat))(t17:t.get 17=.s sg):AtN [tt,tt,tt,tt,tt,tt,tt,tt,ff,tt,ff,tt,tt,tt,ff,tt,tt,tt,ff] t S:=fun H hH=>by
 refine Tri.symIn zaf hC zAl (by kernel_rfl) [.us s,.un 0,.ui 10,.us d,.us text,.ui (p:Nat),.us sg,.uh H] rfl hw ⟨t0,t4,t7,t10,t11,t16,t17,trivial⟩ rfl ⟨by simp;exact hH,by simp⟩ ?_;clear t0 t4 t7 t10 t11 t16 t17 hw;simp -implicitDefEqProofs only[VC,isR,exU,Ask.den,E.den,O1.den,O2.den,O3.den,SH.den,zat,za9,bD,SB.den,zai,LQ,uu,uW,jOa,jUa,jDa];have hL:=zea 10 (s.drop p) [] false;simp only[jVa,jJa]at hL;refine .inl ⟨_,_,hdg 10 p (by simp) hp,fun h=>hS _ (.inl ⟨h,rfl⟩),fun h=>⟨?_,?_,?_,fun t hw f0 f4 f7 f9 f10 f11 f12=>zzi hC s S ha hwd hdec (.inr rfl) (fun v hv=>hS v (.inr ⟨h,hv⟩)) hw f0 f4 f7 f9 f10 (by rw[f11];simp) f12 H hH⟩⟩;all_goals (try simp only[jLa,jIa,jVa]);omega
include hC hsl ha hwd hdg in
theorem zAJ {d text:Bs}{p:Nat}{t:Tm}(hdec:∃r,zrC d 10 r∧∀H,call 84 [.s d,.i .i64 10] H=.val r H)(hp:p≤s.length)(ht:text.length<1200000000)(hS:∀v,(((zaY 10 (s.drop (zcs s p).1) [] false).2=[]∧v=zlq)∨((zaY 10 (s.drop (zcs s p).1) [] false).2≠[]∧zcj s d 10 ((zcs s p).1+(zaY 10 (s.drop (zcs s p).1) [] false).1) (text++101::((zcs s p).2++(zaY 10 (s.drop (zcs s p).1) [] false).2)) 4 v))→S v)
 (hw:t.wid=f58.ntmps)(t0:t.get 0=.s s)(t4:t.get 4=.ptr 0 0)(t7:t.get 7=.i .i64 10)(t10:t.get 10=.s d)(t11:t.get 11=.s text)(t16:t.get 16=.i .i64 (p:Nat))(t17:t.get 17=.s []):AtN [tt,tt,tt,tt,tt,tt,tt,tt,ff,tt,ff,tt,tt,tt,ff,tt,tt,ff,ff] t S:=fun H hH=>by
 refine Tri.symIn zaf hC zAk (by kernel_rfl) [.us s,.un 0,.ui 10,.us d,.us text,.ui (p:Nat),.us [],.uh H] rfl hw ⟨t0,t4,t7,t10,t11,t16,t17,trivial⟩ rfl ⟨by simp;exact hH,by simp⟩ ?_;clear t0 t4 t7 t10 t11 t16 t17 hw;simp -implicitDefEqProofs only[VC,isR,exU,Ask.den,E.den,O1.den,O2.den,O3.den,SH.den,zat,za9,bD,SB.den,zai,LQ,uu,uW,jOa,jUa,jDa];have w1:IntKind.i64.wrap ((p:Int)+1)=((p+1:Nat):Int):=by rw[zaj (by omega) (by omega)];omega
 rw[w1];have yes:((atR s p==43)||(atR s p==45))=true→p<s.length∧zcs s p=(p+1,(s.take (p+1)).drop p):=fun h=>⟨zfK (by intro h0;rw[h0]at h;exact absurd h (by decide)),by unfold zcs;rw[if_pos h]⟩;have go:((atR s p==43)||(atR s p==45))=true→0≤(p:Int)∧(p:Int)≤((p+1:Nat):Int)∧((p+1:Nat):Int)≤s.length∧∀t:Tm,t.wid=f58.ntmps→t.get 0=.s s→t.get 4=.ptr 0 0→t.get 7=.i .i64 10→t.get 10=.s d→t.get 11=.s text→t.get 16=.i .i64 ((p+1:Nat):Int)→t.get 17=.s ((s.take (p+1)).drop p)→AtN [tt,tt,tt,tt,tt,tt,tt,tt,ff,tt,ff,tt,tt,tt,ff,tt,tt,tt,ff] t S:=fun h=>by
  obtain⟨h1,h2⟩:=yes h;rw[h2]at hS;exact⟨by omega,by omega,by omega,fun t hw f0 f4 f7 f10 f11 f16 f17=>zAt hC s hsl S ha hwd hdg hdec (by omega) (by simp;omega) ht hS hw f0 f4 f7 f10 f11 f16 f17⟩
 refine .inl ⟨_,ha p,fun h=>?_,fun h=>⟨fun h2=>?_,fun h2 t hw f0 f4 f7 f10 f11 f16 f17=>?_⟩⟩
 ·obtain⟨a,b,c,k⟩:=go (by simp[h]);exact⟨a,b,c,fun t hw f0 f4 f7 f10 f11 f16 f17=>k t hw f0 f4 f7 f10 f11 f16 f17 H hH⟩
 ·obtain⟨a,b,c,k⟩:=go (by simp[h2]);exact⟨a,b,c,fun t hw f0 f4 f7 f10 f11 f16 f17=>k t hw f0 f4 f7 f10 f11 f16 f17 H hH⟩
 ·have e:zcs s p=(p,[]):=by unfold zcs;rw[if_neg (by simp[h,h2])]
  rw[e]at hS;exact zAt hC s hsl S ha hwd hdg hdec hp (by simp) ht hS hw f0 f4 f7 f10 f11 f16 f17 H hH
include hC hsl ha hwd hdg in
theorem zAs {d text:Bs}{e:Nat}{k:Int}{t:Tm}(hdec:∃r,zrC d 10 r∧∀H,call 84 [.s d,.i .i64 10] H=.val r H)(he:e≤s.length)(hk:k=3∨k=4)(ht:text.length<1200000000)(hS:∀v,((zi3 s e text k=none∧v=zlq)∨∃e' t' k',zi3 s e text k=some (e',t',k')∧zcj s d 10 e' t' k' v)→S v)
 (hw:t.wid=f58.ntmps)(t0:t.get 0=.s s)(t4:t.get 4=.ptr 0 0)(t7:t.get 7=.i .i64 10)(t9:t.get 9=.i .i64 (e:Nat))(t10:t.get 10=.s d)(t11:t.get 11=.s text)(t12:t.get 12=.i .i64 k):AtN [tt,tt,tt,tt,tt,tt,tt,tt,ff,tt,ff,tt,ff] t S:=fun H hH=>by
 refine Tri.symIn zaf hC zAi (by kernel_rfl) [.us s,.un 0,.ui 10,.ui (e:Nat),.us d,.us text,.ui k,.uh H] rfl hw ⟨t0,t4,t7,t9,t10,t11,t12,trivial⟩ rfl ⟨by simp;exact hH,by simp⟩ ?_;clear t0 t4 t7 t9 t10 t11 t12 hw;simp -implicitDefEqProofs only[VC,isR,exU,Ask.den,E.den,O1.den,O2.den,O3.den,SH.den,zat,za9,bD,SB.den,zai,LQ,uu,uW,jOa,jUa,jDa];have w1:IntKind.i64.wrap ((e:Int)+1)=((e+1:Nat):Int):=by rw[zaj (by omega) (by omega)];omega
 rw[w1];have go:((atR s e==101)||(atR s e==69))=true→∀t:Tm,t.wid=f58.ntmps→t.get 0=.s s→t.get 4=.ptr 0 0→t.get 7=.i .i64 10→t.get 10=.s d→t.get 11=.s text→t.get 16=.i .i64 ((e+1:Nat):Int)→t.get 17=.s []→AtN [tt,tt,tt,tt,tt,tt,tt,tt,ff,tt,ff,tt,tt,tt,ff,tt,tt,ff,ff] t S:=fun h t hw f0 f4 f7 f10 f11 f16 f17=>by
  have h1:e<s.length:=zfK (by intro h0;rw[h0]at h;exact absurd h (by decide));unfold zi3 at hS;rw[if_pos h]at hS;refine zAJ hC s hsl S ha hwd hdg hdec (by omega) ht (fun v hv=>hS v ?_) hw f0 f4 f7 f10 f11 f16 f17;rcases hv with⟨h2,h3⟩|⟨h2,h3⟩
  ·rw[if_pos h2];exact .inl ⟨rfl,h3⟩
  ·rw[if_neg h2];exact .inr ⟨_,_,_,rfl,h3⟩
 refine .inl ⟨_,ha e,fun h t hw f0 f4 f7 f9 f10 f11 f12 f16 f17=>go (by simp[h]) t hw f0 f4 f7 f10 f11 f16 f17 H hH,fun h=>⟨fun h2 t hw f0 f4 f7 f9 f10 f11 f12 f16 f17=>go (by simp[h2]) t hw f0 f4 f7 f10 f11 f16 f17 H hH,fun h2 t hw f0 f4 f7 f9 f10 f11 f12=>?_⟩⟩;unfold zi3 at hS;rw[if_neg (by simp[h,h2])]at hS;exact zzi hC s S ha hwd hdec hk (fun v hv=>hS v (.inr ⟨_,_,_,rfl,hv⟩)) hw f0 f4 f7 f9 f10 f11 f12 H hH
include hC hsl ha hwd hdg hd1 in
theorem zAI {d:Bs}{e:Nat}{t:Tm}(hdec:∃r,zrC d 10 r∧∀H,call 84 [.s d,.i .i64 10] H=.val r H)(he:e≤s.length)(hdl:d.length<200000000)(hS:∀v,((zhp s e d=none∧v=zlq)∨∃e' t' k',zhp s e d=some (e',t',k')∧zcj s d 10 e' t' k' v)→S v)
 (hw:t.wid=f58.ntmps)(t0:t.get 0=.s s)(t4:t.get 4=.ptr 0 0)(t7:t.get 7=.i .i64 10)(t9:t.get 9=.i .i64 (e:Nat))(t10:t.get 10=.s d)(t11:t.get 11=.s d)(t12:t.get 12=.i .i64 3):AtN [tt,tt,tt,tt,tt,tt,tt,tt,ff,tt,ff,ff,ff] t S:=fun H hH=>by
 refine Tri.symIn zaf hC zAh (by kernel_rfl) [.us s,.un 0,.ui 10,.ui (e:Nat),.us d,.us d,.ui 3,.uh H] rfl hw ⟨t0,t4,t7,t9,t10,t11,t12,trivial⟩ rfl ⟨by simp;exact hH,by simp⟩ ?_;clear t0 t4 t7 t9 t10 t11 t12 hw;simp -implicitDefEqProofs only[VC,isR,exU,Ask.den,E.den,O1.den,O2.den,O3.den,SH.den,zat,za9,bD,SB.den,zai,LQ,uu,uW,jOa,jUa,jDa];have w1:IntKind.i64.wrap ((e:Int)+1)=((e+1:Nat):Int):=by rw[zaj (by omega) (by omega)];omega
 rw[w1];unfold zhp at hS;have no:¬((atR s e==46)&&decide (0≤zby (atR s (e+1)) 10))=true→∀t:Tm,t.wid=f58.ntmps→t.get 0=.s s→t.get 4=.ptr 0 0→t.get 7=.i .i64 10→t.get 9=.i .i64 (e:Nat)→t.get 10=.s d→t.get 11=.s d→t.get 12=.i .i64 3→AtN [tt,tt,tt,tt,tt,tt,tt,tt,ff,tt,ff,tt,ff] t S:=fun h t hw f0 f4 f7 f9 f10 f11 f12=>by
  unfold zet at hS;rw[if_neg h]at hS;exact zAs (text:=d) (e:=e) (k:=3) hC s hsl S ha hwd hdg hdec he (.inl rfl) (by omega) hS hw f0 f4 f7 f9 f10 f11 f12
 refine .inl ⟨_,ha e,fun h=>.inl ⟨_,ha (e+1),.inl ⟨_,hd1 (e+1),fun h2=>?_,fun h2 t hw f0 f4 f7 f9 f10 f11 f12=>no (by simp;omega) t hw f0 f4 f7 f9 f10 f11 f12 H hH⟩⟩,fun h t hw f0 f4 f7 f9 f10 f11 f12=>no (by simp[h]) t hw f0 f4 f7 f9 f10 f11 f12 H hH⟩;have h1:e<s.length:=zfK (by rw[h];decide);have hL:=zea 10 (s.drop (e+1)) [] false;have hl2:=zdl 10 (s.drop (e+1)) [] false;simp only[jVa,jJa]at hL hl2;unfold zet at hS;rw[if_pos (by simp[h,h2])]at hS;refine .inl ⟨_,_,hdg 10 (e+1) (by simp) (by omega),?_,?_,fun t hw f0 f4 f7 f9 f10 f11 f12=>zAs hC s hsl S ha hwd hdg hdec (by omega) (.inr rfl) (by simp only[jLa,jIa];omega) hS hw f0 f4 f7 f9 f10 (by rw[f11];simp) f12 H hH⟩;all_goals (try simp only[jLa,jIa,jVa]);omega
end
theorem zgI (base:Int):∀(L out:Bs)(pd:Bool),(∀b∈out,0≤zby b.toNat base)→∀b∈(zaY base L out pd).2,0≤zby b.toNat base
 | [],out,pd,h,b,hb=>h b hb
 |c::L,out,pd,h,b,hb=>by
  simp only[zaY]at hb;split at hb
  ·rename_i hc;refine zgI base L (out++[c]) true (fun x hx=>?_) b hb;rcases jKd.1 hx with hx|hx
   ·exact h x hx
   ·obtain rfl:x=c:=by simpa using hx
    exact hc
  ·split at hb
   ·exact zgI base L out false h b hb
   ·exact h b hb
theorem zbZ {s:Bs}{i:Nat}{t:Bs}(h:zdM s i t=true):i+t.length≤s.length:=by
 simp only[zdM,jMa,jTa]at h;exact h.1
theorem zrP {s:Bs}{i:Nat}{a b:UInt8}(h:zdM s i [48,a]=true)(h2:zdM s i [48,b]=true):a=b:=by
 simp only[zdM,jMa,jOa,jIa,jVa]at h h2;have:=h.2.symm.trans h2.2;simpa using this
theorem zoV {call:zad}(hC:call.Sound prog TT)(s:Bs)(hsl:s.length<100000000)
 (ha:∀(j:Nat) H,call 64 [.s s,.i .i64 j] H=.val (.i .u8 (atR s j)) H)(hwd:∀(j:Nat) H,call 63 [.i .u8 (atR s j)] H=.val (.b (zcR (atR s j))) H)(hd1:∀(j:Nat) H,call 57 [.i .u8 (atR s j),.i .i64 10] H=.val (.i .i64 (zby (atR s j) 10)) H)
 (hdg:∀(b:Int)(j:Nat),b=2∨b=10∨b=16→j≤s.length→∀H,call 83 [.s s,.i .i64 j,.i .i64 b] H=.val (.tup [.i .i64 ((j+(zaY b (s.drop j) [] false).1:Nat):Int),.s (zaY b (s.drop j) [] false).2]) H)
 (i:Nat)(hi:i≤s.length)(hb:∀(a:UInt8) H,call 56 [.s s,.i .i64 i,.s [48,a]] H=.val (.b (zdM s i [48,a])) H)
 (hdec:∀(base j:Nat),base=2∨base=10∨base=16→∃r,zrC (zaY base (s.drop j) [] false).2 base r∧∀H,call 84 [.s (zaY base (s.drop j) [] false).2,.i .i64 base] H=.val r H):zaV prog TT 58 [.s s,.i .i64 i] (fun x=>∃v,x=.val v∧zk9 s i v):=by
 apply zaA.va;refine zaA.sym zaf hC (fn:=f58) rfl rfl (by simp[f58]) zAg (by kernel_rfl) [.us s,.ui (i:Nat),.uh []] rfl ⟨by rw[zag];rfl,by rw[zag];rfl,trivial⟩ rfl (zaC _ _) ?_;simp -implicitDefEqProofs only[VC,isR,exU,Ask.den,E.den,O1.den,O2.den,O3.den,SH.den,zat,za9,bD,SB.den,zai,LQ,uu,uW,jOa,jUa,jDa];have w2:IntKind.i64.wrap ((i:Int)+2)=((i+2:Nat):Int):=by rw[zaj (by omega) (by omega)];omega
 rw[w2];have len:∀a:UInt8,zdM s i [48,a]=true→i+2≤s.length:=fun a h=>by have:=zbZ h;simpa using this
 have hd0:∀L:Bs,(zaY 10 L [] false).2.length≤L.length:=fun L=>by have:=zea 10 L [] false;simpa using this
 refine .inl ⟨_,hb 120,fun hx=>.inl ⟨_,hb 98,fun h2=>absurd (zrP hx h2) (by decide),fun h2=>.inl ⟨_,_,hdg 16 (i+2) (by simp) (len _ hx),fun t hw f0 f4 f7 f9 f10 f11 f12=>zzi hC s _ ha hwd (hdec 16 (i+2) (by simp)) (.inl rfl) (fun v hv=>?_) hw f0 f4 f7 f9 f10 f11 f12 [some ⟨44,[.i .i64 0,.s [],.i .i64 0,.b false],.all⟩] (by decide)⟩⟩,
  fun hx=>.inl ⟨_,hb 98,fun h2=>.inl ⟨_,_,hdg 2 (i+2) (by simp) (len _ h2),fun t hw f0 f4 f7 f9 f10 f11 f12=>zzi hC s _ ha hwd (hdec 2 (i+2) (by simp)) (.inl rfl) (fun v hv=>?_) hw f0 f4 f7 f9 f10 f11 f12 [some ⟨44,[.i .i64 0,.s [],.i .i64 0,.b false],.all⟩] (by decide)⟩,
   fun h2=>.inl ⟨_,_,hdg 10 i (by simp) hi,fun t hw f0 f4 f7 f9 f10 f11 f12=>zAI hC s hsl _ ha hwd hd1 hdg (hdec 10 i (by simp)) ?_ ?_ (fun v hv=>?_) hw f0 f4 f7 f9 f10 f11 f12 [some ⟨44,[.i .i64 0,.s [],.i .i64 0,.b false],.all⟩] (by decide)⟩⟩⟩
 ·unfold zk9;rw[if_pos hx];exact hv
 ·unfold zk9;rw[if_neg (by rw[hx];decide),if_pos h2];exact hv
 ·have:=zdl 10 (s.drop i) [] false;rw[jJa]at this;omega
 ·show(zaY 10 (s.drop i) [] false).2.length<200000000;have:=hd0 (s.drop i);rw[jJa]at this;omega
 ·unfold zk9;rw[if_neg (by rw[hx];decide),if_neg (by rw[h2];decide)];exact hv
theorem zxW:∃g,zak prog TT 58 g∧∀(s:Bs)(i:Nat),s.length<100000000→i≤s.length→∃v,zk9 s i v∧∀H,g [.s s,.i .i64 i] H=.val v H:=by
 obtain⟨g1,k1,s1⟩:=zkS;obtain⟨g2,k2,s2⟩:=zkR;obtain⟨g3,k3,s3⟩:=zqZ;obtain⟨g4,k4,s4⟩:=zq0;obtain⟨g5,k5,s5⟩:=zx1;obtain⟨g6,k6,s6⟩:=zx2;obtain⟨g,hg,hs⟩:=zcM zaf zao 58 (fun vs=>∃(s:Bs)(i:Nat),s.length<100000000∧i≤s.length∧vs=[.s s,.i .i64 i]) (fun vs r=>∃(s:Bs)(i:Nat)(v:V),vs=[.s s,.i .i64 i]∧r=.val v∧nl v=true∧zk9 s i v) (by
  rintro vs ⟨s,i,hl,hi,rfl⟩;refine⟨by simp[nlL,nl],by rintro r ⟨_,_,v,_,rfl,h,_⟩;exact h,?_⟩;have hC:=ws (ws (ws (ws (ws (ws n0 k1) k2) k3) k4) k5) k6;generalize hc:(((((zad.none.with 57 g1).with 64 g2).with 63 g3).with 56 g4).with 83 g5).with 84 g6=call at hC;have c6:∀vs H,call 84 (vs) H=g6 vs H:=fun vs H=>by rw[←hc,zan]
  have c5:∀vs H,call 83 (vs) H=g5 vs H:=fun vs H=>by rw[←hc,zac _ _ _ _ rfl,zan]
  have c4:∀vs H,call 56 (vs) H=g4 vs H:=fun vs H=>by rw[←hc,zac _ _ _ _ rfl,zac _ _ _ _ rfl,zan]
  have c3:∀vs H,call 63 (vs) H=g3 vs H:=fun vs H=>by rw[←hc,zac _ _ _ _ rfl,zac _ _ _ _ rfl,zac _ _ _ _ rfl,zan]
  have c2:∀vs H,call 64 (vs) H=g2 vs H:=fun vs H=>by rw[←hc,zac _ _ _ _ rfl,zac _ _ _ _ rfl,zac _ _ _ _ rfl,zac _ _ _ _ rfl,zan]
  have c1:∀vs H,call 57 (vs) H=g1 vs H:=fun vs H=>by rw[←hc,zac _ _ _ _ rfl,zac _ _ _ _ rfl,zac _ _ _ _ rfl,zac _ _ _ _ rfl,zac _ _ _ _ rfl,zan]
  have ha:∀(i:Nat) H,call 64 [.s s,.i .i64 i] H=.val (.i .u8 (atR s i)) H:=fun i H=>(c2 _ H).trans (s2 s i H);have hwd:∀(i:Nat) H,call 63 [.i .u8 (atR s i)] H=.val (.b (zcR (atR s i))) H:=fun i H=>(c3 _ H).trans (s3 _ (zbY s i).1 (zbY s i).2 H);have hd1:∀(i:Nat) H,call 57 [.i .u8 (atR s i),.i .i64 10] H=.val (.i .i64 (zby (atR s i) 10)) H:=fun i H=>(c1 _ H).trans (s1 _ 10 (zbY s i).1 (zbY s i).2 (by simp) H);have hb:∀(a:UInt8) H,call 56 [.s s,.i .i64 i,.s [48,a]] H=.val (.b (zdM s i [48,a])) H:=fun a H=>(c4 _ H).trans (s4 s i [48,a] (by omega) (by simp) H);have hdg:∀(base:Int)(j:Nat),base=2∨base=10∨base=16→j≤s.length→∀H,call 83 [.s s,.i .i64 j,.i .i64 base] H=.val (.tup [.i .i64 ((j+(zaY base (s.drop j) [] false).1:Nat):Int),.s (zaY base (s.drop j) [] false).2]) H:=fun base j h1 h2 H=>(c5 _ H).trans (s5 s j base h1 (by omega) h2 H);have hdec:∀(base j:Nat),base=2∨base=10∨base=16→∃r,zrC (zaY base (s.drop j) [] false).2 base r∧∀H,call 84 [.s (zaY base (s.drop j) [] false).2,.i .i64 base] H=.val r H:=fun base j h1=>by
   obtain⟨r,hr,h⟩:=s6 (zaY base (s.drop j) [] false).2 base h1 (by have:=zea base (s.drop j) [] false;simp at this;omega) (zgI base (s.drop j) [] false (by simp));exact⟨r,hr,fun H=>(c6 _ H).trans (h H)⟩
  have nle:∀{d text:Bs}{base e:Nat}{k:Int}{v:V},zcj s d base e text k v→nl v=true:=by
   rintro d text base e k v (⟨_,rfl⟩|⟨_,⟨_,rfl⟩|⟨_,⟨o,_,_,_,rfl⟩|⟨_,rfl⟩⟩⟩)<;>simp[zlq,okV,ziz,nl,nlL]
  have nlr:∀v,zk9 s i v→nl v=true:=fun v h=>by
   unfold zk9 at h;split at h
   ·exact nle h
   split at h
   ·exact nle h
   rcases h with⟨_,rfl⟩|⟨_,_,_,_,h⟩
   ·simp[zlq,ziz,nl,nlL]
   ·exact nle h
  refine(zoV hC s hl ha hwd hd1 hdg i hi hb hdec).mono ?_;rintro r ⟨v,rfl,hv⟩;exact⟨s,i,v,rfl,rfl,nlr v hv,hv⟩)
 refine⟨g,hg,fun s i hl hi=>?_⟩;obtain⟨r,⟨s1,i1,v,e,rfl,_,h1⟩,h⟩:=hs _ ⟨s,i,hl,hi,rfl⟩;simp only[jPa,V.s.injEq,V.i.injEq,jLb,jGb]at e;obtain⟨rfl,e2⟩:=e;rw[show i1=i from by omega]at h1;exact⟨v,h1,h⟩
def lnL:Bs→Nat
 | []=>0
 |b::l=>if(b==10)=true then 0 else lnL l+1
theorem zmL:∀l,lnL l≤l.length
 | []=>jDb _
 |b::l=>by
  have:=zmL l;simp only[lnL,jIa];split<;>omega
def cmF (s:Bs):Nat→Nat→Nat→Bool→Bool×Nat×Bool
 |0,i,_,l=>(false,i,l)
 |n+1,i,d,l=>if d=0 then(true,i,l)else if s.length≤i then(false,i,l)
  else if zdM s i [47,42]=true then cmF s n (i+2) (d+1) l
  else if zdM s i [42,47]=true then cmF s n (i+2) (d-1) l
  else cmF s n (i+1) d (l||(atR s i==10))
theorem zhV (s:Bs):∀(n i d:Nat)(l:Bool),i≤s.length→i≤(cmF s n i d l).2.1∧(cmF s n i d l).2.1≤s.length
 |0,i,d,l,h=>⟨jDb _,h⟩
 |n+1,i,d,l,h=>by
  simp only[cmF];split
  ·exact⟨jDb _,h⟩
  split
  ·exact⟨jDb _,h⟩
  split
  ·rename_i hb;have:=zbZ hb;simp only[jIa,jVa]at this;have:=zhV s n (i+2) (d+1) l (by omega);omega
  split
  ·rename_i hb;have:=zbZ hb;simp only[jIa,jVa]at this;have:=zhV s n (i+2) (d-1) l (by omega);omega
  ·have:=zhV s n (i+1) d (l||(atR s i==10)) (by omega);omega
theorem zoO {s:Bs}{i:Nat}{b:UInt8}(h:s[i]? = some b):atR s i=b.toNat:=by unfold atR;rw[h]
end Go.Ev
