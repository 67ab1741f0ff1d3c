/- The set of keywords, by a run of the evaluator. Walks over the look at a node by its kind. Walks over the end of a name, the whole. A byte at a place, a text at a place, the end of a name. The keywords and symbols of the reference. What a name is, as the reference sees it. The shapes of the functions that the reference calls. Walks over digits. Walks over a number times a base. Walks over a number times a base, the whole. Numbers in decimal digits, and which is above another. Walks over the value of digits. The value of digits, in decimal digits. Walks over parts of a number. The exponent of a number. The exponent of a number, the whole. The fraction of a number. The end of a number. -/
import Derived.Test.YtmjplflnlggbeaaGreatDoorCWE
import Derived.Test.YtmjplflnlggbeaaGreatDoorCEvPart2
namespace Go.Ev
open Go Go.Proofs
set_option linter.unusedSimpArgs false
set_option linter.unusedVariables false
set_option linter.unnecessarySimpa false
open Tryz List
set_option maxRecDepth 1000000
def zbZ:zaa:=[some {ty:=52,cells:=[.s [97,99,116,111,114],.b true,.s [97,110,100],.b true,.s [97,115],.b true,.s [98,101],.b true,.s [98,111,120],.b true,.s [98,114,101,97,107],.b true,.s [99,108,97,115,115],.b true,.s [99,111,110,115,117,109,101],.b true,.s [99,111,110,116,105,110,117,101],.b true,.s [100,111],.b true,.s [101,108,115,101],.b true,.s [101,108,115,101,105,102],.b true,.s [101,110,100],.b true,.s [101,114,114,111,114],.b true,.s [102,97,108,115,101],.b true,.s [102,111,114],.b true,.s [102,117,110],.b true,.s [105,102],.b true,.s [105,102,100,101,102],.b true,.s [105,110],.b true,.s [105,110,116,101,114,102,97,99,101],.b true,.s [105,115],.b true,.s [105,115,110,116],.b true,.s [105,115,111],.b true,.s [108,101,116],.b true,.s [109,97,116,99,104],.b true,.s [110,101,119],.b true,.s [110,111,116],.b true,.s [111,98,106,101,99,116],.b true,.s [111,114],.b true,.s [112,114,105,109,105,116,105,118,101],.b true,.s [114,101,99,111,118,101,114],.b true,.s [114,101,102],.b true,.s [114,101,112,101,97,116],.b true,.s [114,101,116,117,114,110],.b true,.s [116,97,103],.b true,.s [116,104,101,110],.b true,.s [116,104,105,115],.b true,.s [116,114,97,105,116],.b true,.s [116,114,110],.b true,.s [116,114,117,101],.b true,.s [116,114,121],.b true,.s [116,121,112,101],.b true,.s [117,110,116,105,108],.b true,.s [117,115,101],.b true,.s [118,97,108],.b true,.s [118,97,114],.b true,.s [119,104,101,114,101],.b true,.s [119,104,105,108,101],.b true,.s [119,105,116,104],.b true,.s [120,111,114],.b true],kind:=.map},some {ty:=9,cells:=[.s [97,99,116,111,114],.s [97,110,100],.s [97,115],.s [98,101],.s [98,111,120],.s [98,114,101,97,107],.s [99,108,97,115,115],.s [99,111,110,115,117,109,101],.s [99,111,110,116,105,110,117,101],.s [100,111],.s [101,108,115,101],.s [101,108,115,101,105,102],.s [101,110,100],.s [101,114,114,111,114],.s [102,97,108,115,101],.s [102,111,114],.s [102,117,110],.s [105,102],.s [105,102,100,101,102],.s [105,110],.s [105,110,116,101,114,102,97,99,101],.s [105,115],.s [105,115,110,116],.s [105,115,111],.s [108,101,116],.s [109,97,116,99,104],.s [110,101,119],.s [110,111,116],.s [111,98,106,101,99,116],.s [111,114],.s [112,114,105,109,105,116,105,118,101],.s [114,101,99,111,118,101,114],.s [114,101,102],.s [114,101,112,101,97,116],.s [114,101,116,117,114,110],.s [116,97,103],.s [116,104,101,110],.s [116,104,105,115],.s [116,114,97,105,116],.s [116,114,110],.s [116,114,117,101],.s [116,114,121],.s [116,121,112,101],.s [117,110,116,105,108],.s [117,115,101],.s [118,97,108],.s [118,97,114],.s [119,104,101,114,101],.s [119,104,105,108,101],.s [119,105,116,104],.s [120,111,114]],kind:=.all}]
theorem zf1 (s:List UInt8):∀ws:List (List UInt8),zc1 (some .string) (.s s) ((ws.map fun w=>[V.s w,V.b true]).flatten)=some (if ws.contains s then some (.b true)else none)
 | []=>rfl
 |w::ws=>by
  simp only[map_cons,flatten_cons,cons_append,nil_append,zc1,zd2];by_cases h:s=w
  ·subst h;simp
  ·have ih:=zf1 s ws;have h2:(s==w)=false:=beq_eq_false_iff_ne.2 h;simp[h,h2,ih]
def zi0:List (List UInt8):=[[97,99,116,111,114],[97,110,100],[97,115],[98,101],[98,111,120],[98,114,101,97,107],[99,108,97,115,115],[99,111,110,115,117,109,101],[99,111,110,116,105,110,117,101],[100,111],[101,108,115,101],[101,108,115,101,105,102],[101,110,100],[101,114,114,111,114],[102,97,108,115,101],[102,111,114],[102,117,110],[105,102],[105,102,100,101,102],[105,110],[105,110,116,101,114,102,97,99,101],[105,115],[105,115,110,116],[105,115,111],[108,101,116],[109,97,116,99,104],[110,101,119],[110,111,116],[111,98,106,101,99,116],[111,114],[112,114,105,109,105,116,105,118,101],[114,101,99,111,118,101,114],[114,101,102],[114,101,112,101,97,116],[114,101,116,117,114,110],[116,97,103],[116,104,101,110],[116,104,105,115],[116,114,97,105,116],[116,114,110],[116,114,117,101],[116,114,121],[116,121,112,101],[117,110,116,105,108],[117,115,101],[118,97,108],[118,97,114],[119,104,101,114,101],[119,104,105,108,101],[119,105,116,104],[120,111,114]]
def kw (s:List UInt8):Bool:=zi0.contains s
theorem zm4 {call:zad}(hC:call.Sound prog TT)(pre L:List UInt8)(hlen:(pre++L).length<1000000000)(c:Int)(hat:∀H,call 64 [.s (pre++L),.i .i64 pre.length] H=.val (.i .u8 c) H)(hl:∀H,call 62 [.i .u8 c] H=.val (.b false) H)(hc:(c !=95)=true)  : zaI prog TT 41 [.s (pre++L),.i .i64 pre.length] (fun r=>r=.val (.i .i64 pre.length)):=by
 refine en f41 rfl rfl (by simp[f41]) 42 rfl fun t hw hg=>?_;have h0:=hg 0 _ rfl;have h1:=hg 1 _ rfl;clear hg;try simp only[Nd.enc_eq]at *
 have hF:=ai @h0 (ai @h1 (ai @hat (ai @hl @hc)));apply rS hC
 ·refine oA ?_;rfl
 apply sQ;apply rS hC
 ·iterate 6 refine oA ?_
  iterate 4 refine oB ?_
  refine oA ?_;rfl
 refine cT (by simp[hF]<;>rfl) ?_;apply rS hC
 ·iterate 2 refine oA ?_
  rfl
 apply Tri.ret;apply sR;refine zbo (by simp[f41]<;>rfl) (by rfl) ?_;rfl
theorem zm2 {call:zad}(hC:call.Sound prog TT)(pre L:List UInt8)(hlen:(pre++L).length<1000000000)(c:Int)(hat:∀H,call 64 [.s (pre++L),.i .i64 pre.length] H=.val (.i .u8 c) H)(hl:∀H,call 62 [.i .u8 c] H=.val (.b true) H)(hcall:∀b:UInt8,∀H,call 63 [.i .u8 b.toNat] H=.val (.b (zcy b.toNat)) H)   : zaI prog TT 41 [.s (pre++L),.i .i64 pre.length] (fun r=>r=.val (.i .i64 ((pre.length+zcQ L+zkw (L.drop (zcQ L)):Nat):Int))):=by
 refine en f41 rfl rfl (by simp[f41]) 42 rfl fun t hw hg=>?_;have h0:=hg 0 _ rfl;have h1:=hg 1 _ rfl;clear hg;try simp only[Nd.enc_eq]at *
 have hF:=ai @h0 (ai @h1 (ai @hat @hl));apply rS hC
 ·refine oA ?_;rfl
 apply sQ;apply rS hC
 ·iterate 6 refine oA ?_
  iterate 4 refine oC ?_
  refine oA ?_;rfl
 refine cF (by simp[hF]<;>rfl) ?_;apply Tri.skip;apply sN;apply sQ;apply bK;refine Tri.loop ?_;refine zhV hC L pre _ _ hlen (by simp[hw]) (by simp[h0]) (by simp[h1]) hcall ?exit;case exit=>
  intro t2 H2 hw h0 h1;refine zaw ?_;apply sN;apply sQ;apply bK;refine Tri.loop ?_;have eL:pre++L=(pre++L.take (zcQ L))++L.drop (zcQ L):=by rw[append_assoc,take_append_drop]
  have el:(pre++L.take (zcQ L)).length=pre.length+zcQ L:=by
   have:=zhl L;simp;omega
  refine zhW hC (L.drop (zcQ L)) (pre++L.take (zcQ L)) _ _ (by rw[←eL];exact hlen) (by simp[hw]) (by rw[←eL];simp[h0]) (by rw[el];simp[h1]) ?exit2;case exit2=>
   intro t3 H3 hw h0 h1;rw[el]at h1;refine zaw ?_;apply sN;apply rS hC
   ·iterate 2 refine oA ?_
    rfl
   apply Tri.ret;refine zbo (by simp[f41]<;>rfl) (by rfl) ?_;simp
theorem zm3 {call:zad}(hC:call.Sound prog TT)(pre L:List UInt8)(hlen:(pre++L).length<1000000000)(c:Int)(hat:∀H,call 64 [.s (pre++L),.i .i64 pre.length] H=.val (.i .u8 c) H)(hl:∀H,call 62 [.i .u8 c] H=.val (.b false) H)(hc:(c !=95)=false)(hcall:∀b:UInt8,∀H,call 63 [.i .u8 b.toNat] H=.val (.b (zcy b.toNat)) H)   : zaI prog TT 41 [.s (pre++L),.i .i64 pre.length] (fun r=>r=.val (.i .i64 ((pre.length+zcQ L+zkw (L.drop (zcQ L)):Nat):Int))):=by
 refine en f41 rfl rfl (by simp[f41]) 42 rfl fun t hw hg=>?_;have h0:=hg 0 _ rfl;have h1:=hg 1 _ rfl;clear hg;try simp only[Nd.enc_eq]at *
 have hF:=ai @h0 (ai @h1 (ai @hat (ai @hl @hc)));apply rS hC
 ·refine oA ?_;rfl
 apply sQ;apply rS hC
 ·iterate 6 refine oA ?_
  iterate 4 refine oB ?_
  refine oA ?_;rfl
 refine cF (by simp[hF]<;>rfl) ?_;apply Tri.skip;apply sN;apply sQ;apply bK;refine Tri.loop ?_;refine zhV hC L pre _ _ hlen (by simp[hw]) (by simp[h0]) (by simp[h1]) hcall ?exit;case exit=>
  intro t2 H2 hw h0 h1;refine zaw ?_;apply sN;apply sQ;apply bK;refine Tri.loop ?_;have eL:pre++L=(pre++L.take (zcQ L))++L.drop (zcQ L):=by rw[append_assoc,take_append_drop]
  have el:(pre++L.take (zcQ L)).length=pre.length+zcQ L:=by
   have:=zhl L;simp;omega
  refine zhW hC (L.drop (zcQ L)) (pre++L.take (zcQ L)) _ _ (by rw[←eL];exact hlen) (by simp[hw]) (by rw[←eL];simp[h0]) (by rw[el];simp[h1]) ?exit2;case exit2=>
   intro t3 H3 hw h0 h1;rw[el]at h1;refine zaw ?_;apply sN;apply rS hC
   ·iterate 2 refine oA ?_
    rfl
   apply Tri.ret;refine zbo (by simp[f41]<;>rfl) (by rfl) ?_;simp
theorem zaI.of1 {F:FuncId}{vs:List V}{r:Res}(h:zaI prog TT F vs (fun x=>x=r)):zjD prog TT F vs r:=by
 obtain⟨fn,c,h1,h2,h3,o,⟨r',rfl,k2⟩,hx⟩:=h;exact⟨fn,c,h1,h2,h3,o,k2,hx⟩
theorem zmO {P:Program}{T:Tab}(hT:TOk P T)(hp:T.Plain)(F:FuncId)(n k:Nat)(u:V)(h:(match zcK T (zeD Con.none) n F [] []with | .val v J=>fz J k v|_=>none)=some u):∃g,zap P T F g∧∀H,g [] H=.val u H:=by
 refine⟨fun vs H=>match vs with | []=>.val u H|_=>.no,fun vs H x hx hne=>?_,fun H=>rfl⟩;simp only at hx;split at hx
 ·subst hx;split at h
  ·rename_i v J he;obtain⟨h1,h2⟩:=zfP hT hp Con.none_sound he h rfl;exact⟨h1,h2 H⟩
  ·cases h
 ·exact absurd hx.symm hne
theorem zkC:∃g,zap prog TT 64 g∧∀(s:List UInt8)(i:Nat),∀H,g [.s s,.i .i64 i] H=.val (.i .u8 (atR s i)) H:=by
 obtain⟨g,k,s⟩:=zbh zah zat 64 (fun p:List UInt8×Nat=>[.s p.1,.i .i64 p.2]) (fun _=>True) (fun p=>.i .u8 (atR p.1 p.2)) (fun p _=>by simp[nlL,nl]) (fun _=>rfl) (fun a b h=>by
  simp only[List.cons.injEq,V.s.injEq,V.i.injEq,true_and,and_true]at h;rw[h.1,show a.2=b.2 from by omega]) (fun p _=>by
  obtain⟨s,i⟩:=p;simp only[atR];by_cases hi:i<s.length
  ·have e:s[i]? = some s[i]:=List.getElem?_eq_getElem hi;simp only[e];exact zm7 n0 s i s[i] (by omega) hi e (fun _=>rfl)
  ·rw[List.getElem?_eq_none (by omega)];exact zm8 n0 s i (by omega))
 exact⟨g,k,fun a i H=>s (a,i) trivial H⟩
theorem zqp:∃g,zap prog TT 56 g∧∀(s:List UInt8)(i:Nat)(t:List UInt8),i<1000000000→t.length<1000000000→∀H,g [.s s,.i .i64 i,.s t] H=.val (.b (zdh s i t)) H:=by
 obtain⟨g,k,s⟩:=zbh zah zat 56 (fun p:List UInt8×Nat×List UInt8=>[.s p.1,.i .i64 p.2.1,.s p.2.2]) (fun p=>p.2.1<1000000000∧p.2.2.length<1000000000) (fun p=>.b (zdh p.1 p.2.1 p.2.2)) (fun p _=>by simp[nlL,nl]) (fun _=>rfl) (fun a b h=>by
  simp only[List.cons.injEq,V.s.injEq,V.i.injEq,true_and,and_true]at h;rw[h.1,show a.2.1=b.2.1 from by omega,h.2.2]) (fun p hp=>by
  obtain⟨s,i,t⟩:=p;simp only[zdh]at hp ⊢;have hw:IntKind.i64.wrap ((i:Int)+t.length)=(i:Int)+t.length:=zak (by omega) (by omega);by_cases hi:i+t.length≤s.length
  ·rw[decide_eq_true hi];exact zm9 n0 s t i hw (by omega) (by omega) (by omega) (by omega) (by omega)
  ·rw[decide_eq_false hi];exact zna n0 s t i hw (by omega))
 exact⟨g,k,fun a i t h1 h2 H=>s (a,i,t) ⟨h1,h2⟩ H⟩
theorem zjX:∀a b:List (List UInt8),zex a=zex b→a=b
 | [],[],_=>rfl
 | [],_::_,h=>by simp[zex]at h
 |_::_,[],h=>by simp[zex]at h
 |x::a,y::b,h=>by
  simp only[zex,map_cons,List.cons.injEq,V.s.injEq]at h;rw[h.1,zjX a b h.2]
theorem zwv:∃g,zap prog TT 42 g∧∀(l:List (List UInt8))(s:List UInt8),l.length<1100000→∀H,g [.isl 1 (zex l),.s s] H=.val (.b (l.any fun x=>x==s)) H:=by
 obtain⟨g,k,s⟩:=zbh zah zat 42 (fun p:List (List UInt8)×List UInt8=>[.isl 1 (zex p.1),.s p.2]) (fun p=>p.1.length<1100000) (fun p=>.b (p.1.any fun x=>x==p.2)) (fun p _=>by simp[nlL,nl,ztH]) (fun _=>rfl) (fun a b h=>by
  simp only[List.cons.injEq,V.s.injEq,V.isl.injEq,true_and,and_true]at h;rw[zjX _ _ h.1,h.2]) (fun p hp=>zaI.of1 (zoq n0 p.1 p.2 hp))
 exact⟨g,k,fun l s' h H=>s (l,s') h H⟩
theorem zpy (pre L:List UInt8):idR (pre++L) pre.length=if(!(zgi (atR (pre++L) pre.length))&&(atR (pre++L) pre.length !=95))=true then pre.length else pre.length+zcQ L+zkw (L.drop (zcQ L)):=by
 have e1:(pre++L).drop pre.length=L:=by simp
 have e2:(pre++L).drop (pre.length+zcQ L)=L.drop (zcQ L):=by rw[←drop_drop,e1]
 simp only[idR,e1,e2]
theorem zwu:∃g,zap prog TT 41 g∧∀(s:List UInt8)(i:Nat),s.length<1000000000→i≤s.length→∀H,g [.s s,.i .i64 i] H=.val (.i .i64 (idR s i)) H:=by
 obtain⟨g1,k1,s1⟩:=zs0;obtain⟨g2,k2,s2⟩:=zkC;obtain⟨g3,k3,s3⟩:=zqo;obtain⟨g,k,s⟩:=zbh zah zat 41 (fun p:List UInt8×Nat=>[.s p.1,.i .i64 p.2]) (fun p=>p.1.length<1000000000∧p.2≤p.1.length) (fun p=>.i .i64 (idR p.1 p.2)) (fun p _=>by simp[nlL,nl]) (fun _=>rfl) (fun a b h=>by
  simp only[List.cons.injEq,V.s.injEq,V.i.injEq,true_and,and_true]at h;rw[h.1,show a.2=b.2 from by omega]) (fun p hp=>by
  obtain⟨s,i⟩:=p;obtain⟨hs,hi⟩:=hp;simp only at hs hi ⊢;obtain⟨pre,L,rfl,rfl⟩:∃pre L,s=pre++L∧i=pre.length:=⟨s.take i,s.drop i,by simp,by simp[Nat.min_eq_left hi]⟩;have hC:=ws (ws (ws n0 k1) k2) k3;generalize hc:((zad.none.with 62 g1).with 64 g2).with 63 g3=call at hC;have c2:∀H,call 64 [.s (pre++L),.i .i64 pre.length] H=.val (.i .u8 (atR (pre++L) pre.length)) H:=fun H=>by rw[←hc,zac _ _ _ _ rfl,zao];exact s2 _ _ H
  have hr:=zb1 (pre++L) pre.length;have c1:∀H,call 62 [.i .u8 (atR (pre++L) pre.length)] H=.val (.b (zgi (atR (pre++L) pre.length))) H:=fun H=>by rw[←hc,zac _ _ _ _ rfl,zac _ _ _ _ rfl,zao];exact s1 _ hr.1 hr.2 H
  have c3:∀b:UInt8,∀H,call 63 [.i .u8 b.toNat] H=.val (.b (zcy b.toNat)) H:=fun b H=>by rw[←hc,zao];exact s3 _ (by omega) (zn3 b) H
  rw[zpy];cases hl:zgi (atR (pre++L) pre.length)with
  |true=>
   rw[hl]at c1;simpa using zaI.of1 (zm2 hC pre L hs _ c2 c1 c3)
  |false=>
   rw[hl]at c1;cases h95:(atR (pre++L) pre.length !=95)with
   |true=>simpa using zaI.of1 (zm4 hC pre L hs _ c2 c1 h95)
   |false=>simpa using zaI.of1 (zm3 hC pre L hs _ c2 c1 h95 c3))
 exact⟨g,k,fun a i h1 h2 H=>s (a,i) ⟨h1,h2⟩ H⟩
def kwL:List (List UInt8):=[[97,99,116,111,114],[97,110,100],[97,115],[98,101],[98,111,120],[98,114,101,97,107],[99,108,97,115,115],[99,111,110,115,117,109,101],[99,111,110,116,105,110,117,101],[100,111],[101,108,115,101],[101,108,115,101,105,102],[101,110,100],[101,114,114,111,114],[102,97,108,115,101],[102,111,114],[102,117,110],[105,102],[105,102,100,101,102],[105,110],[105,110,116,101,114,102,97,99,101],[105,115],[105,115,110,116],[105,115,111],[108,101,116],[109,97,116,99,104],[110,101,119],[110,111,116],[111,98,106,101,99,116],[111,114],[112,114,105,109,105,116,105,118,101],[114,101,99,111,118,101,114],[114,101,102],[114,101,112,101,97,116],[114,101,116,117,114,110],[116,97,103],[116,104,101,110],[116,104,105,115],[116,114,97,105,116],[116,114,110],[116,114,117,101],[116,114,121],[116,121,112,101],[117,110,116,105,108],[117,115,101],[118,97,108],[118,97,114],[119,104,101,114,101],[119,104,105,108,101],[119,105,116,104],[120,111,114]]
def syL:List (List UInt8):=[[60,60],[62,62],[61,61],[33,61],[60,61],[62,61],[61,62],[45,62],[46,62],[43,63],[45,63],[42,63],[47,63],[37,63],[35,114,101,97,100],[35,115,101,110,100],[35,115,104,97,114,101],[35,97,108,105,97,115],[35,97,110,121],[40],[41],[91],[93],[123],[125],[44],[46],[58],[59],[63],[61],[60],[62],[43],[45],[42],[47],[37],[124],[38],[94],[33],[126]]
theorem zww:∃g,zap prog TT 22 g∧∀H,g [] H=.val (.isl 1 (zex kwL)) H:=zmO zah zat 22 3000 3000 (.isl 1 (zex kwL)) (by kernel_rfl)
theorem zwD:∃g,zap prog TT 24 g∧∀H,g [] H=.val (.isl 1 (zex syL)) H:=zmO zah zat 24 3000 3000 (.isl 1 (zex syL)) (by kernel_rfl)
theorem zt2:kwL.length<1100000:=by decide
theorem zaO.is {F:FuncId}{vs:List V}{r:Res}(h:zaO prog TT F vs [] (isR r)):zaI prog TT F vs (fun x=>x=r):=by
 obtain⟨fn,c,h1,h2,h3,h4⟩:=h;refine⟨fn,c,h1,h2,h3,h4.mono fun o ho=>?_⟩;cases o with
 |norm t H=>obtain⟨v,k1,k2⟩:=ho;exact⟨_,k1.symm,k2⟩
 |ret t H=>obtain⟨v,k1,k2⟩:=ho;exact⟨_,k1.symm,k2⟩
 |pan v t H=>exact⟨_,Eq.symm ho,rfl⟩
 |exit j t H=>exact ho.elim
 |no=>exact ho.elim
abbrev bE:E:=.f1 .vb (.va 0)
abbrev iE:E:=.f1 (.vi .i64) (.va 0)
abbrev sE:E:=.f1 .vs (.va 0)
abbrev isE:E:=.f1 .tup (.f2 .cons iE (.f2 .cons (.f1 .vs (.va 1)) .nil))
abbrev sbE:E:=.f1 .tup (.f2 .cons sE (.f2 .cons (.f1 .vb (.va 1)) .nil))
abbrev zyu:E:=.f1 .tup (.f2 .cons sE (.f2 .cons (.f1 (.vi .i64) (.va 1)) (.f2 .cons (.f1 .vb (.va 2)) .nil)))
def shf:Nat→Option Shape:=fun f=>
 if f=62 then some ⟨[.b],bE,.pure,false⟩else
 if f=64 then some ⟨[.i],.f1 (.vi .u8) (.va 0),.pure,false⟩else
 if f=63 then some ⟨[.b],bE,.pure,false⟩else
 if f=56 then some ⟨[.b],bE,.pure,false⟩else
 if f=57 then some ⟨[.i],iE,.pure,false⟩else
 if f=36 then some ⟨[.b],bE,.pure,false⟩else
 if f=41 then some ⟨[.i],iE,.pure,false⟩else
 if f=42 then some ⟨[.b],bE,.pure,false⟩else
 if f=83 then some ⟨[.i,.s],isE,.pure,false⟩else
 if f=84 then some ⟨[.s,.b],sbE,.pure,false⟩else
 if f=102 then some ⟨[.s],sE,.pure,false⟩else
 if f=103 then some ⟨[.b],bE,.pure,false⟩else
 if f=85 then some ⟨[.s,.i,.b],zyu,.pure,false⟩else
 if f=60 then some ⟨[.s,.i,.b],zyu,.pure,false⟩else
 if f=59 then some ⟨[.s,.i,.b],zyu,.pure,false⟩else
 if f=61 then some ⟨[.s],sE,.pure,false⟩else
 if f=22 then some ⟨[.l],.f1 (.isl 1) (.va 0),.pure,false⟩else
 if f=24 then some ⟨[.l],.f1 (.isl 1) (.va 0),.pure,false⟩else
 if f=58 then some ⟨[.i,.s,.i,.i],.f1 .tup (.f2 .cons (.f1 .agg (.f2 .cons iE (.f2 .cons (.f1 .vs (.va 1)) (.f2 .cons (.f1 (.vi .i64) (.ci 0)) (.f2 .cons (.f1 .vb (.cb false)) .nil))))) (.f2 .cons (.f1 (.vi .i64) (.va 2)) (.f2 .cons (.f1 (.vi .i64) (.va 3)) .nil))),.pure,false⟩else
 none
def hdR (L:List UInt8):Int:=match L with
 | []=>0
 |b::_=>b.toNat
def zaC (base:Int):List UInt8→List UInt8→Bool→Nat×List UInt8
 | [],out,_=>(0,out)
 |b::L,out,pd=>if 0≤zbA b.toNat base then((zaC base L (out++[b]) true).1+1,(zaC base L (out++[b]) true).2)
  else if b=95∧out≠[]∧0≤zbA (hdR L) base∧pd=true then((zaC base L out false).1+1,(zaC base L out false).2)
  else(0,out)
theorem zdn (base:Int):∀(L out:List UInt8)(pd:Bool),(zaC base L out pd).1≤L.length
 | [],out,pd=>Nat.le_refl _
 |b::L,out,pd=>by
  have h1:=zdn base L (out++[b]) true;have h2:=zdn base L out false;simp only[zaC,length_cons];split
  ·omega
  ·split<;>simp only<;>omega
theorem zfI (a b:List UInt8)(h:a.length+b.length<3000000000):zce .add a b=some (.s (a++b)):=by
 simp only[zce];rw[if_pos (Nat.ble_eq_true_of_le (by omega))]
theorem zvz (pre:List UInt8)(b:UInt8)(L:List UInt8):atR (pre++b::L) (pre.length+1)=hdR L:=by
 unfold atR;rw[List.getElem?_append_right (by omega)];simp only[Nat.add_sub_cancel_left];cases L<;>simp[hdR]
theorem zxn:za2 TT shf f83.ntmps [] (zae f83) [] ⟨[(0,.f1 .vs (.va 0)),(1,.f1 (.vi .i64) (.va 1)),(2,.f1 (.vi .i64) (.va 2))],⟨.va 3,[],[]⟩,4,[]⟩ (KF TT f83 [0,1,2,8])=.leaf (.stop [true,true,false,false]) [(0,xs v0),(1,xi v1),(2,xi v2),(8,xs (.cs []))] ⟨v3,[],[]⟩:=by kernel_rfl
theorem zs6:goT TT shf f83.ntmps [] [true,true,false,false,false] (zae f83) [] ⟨[(0,.f1 .vs (.va 0)),(1,.f1 (.vi .i64) (.va 1)),(2,.f1 (.vi .i64) (.va 2)),(8,.f1 .vs (.va 3))],⟨.va 4,[],[]⟩,5,[]⟩ (KF TT f83 [0,1,2,8])=let qf:E:=xi v2;let qb:E:=xw (xa v1 c1);let qg:E:=.f3 .sub v0 v1 qb;let qd:SH:=⟨v4,[],[]⟩;let qc:E:=xw (xS v1 c1);let qa:Tree:=.fin (xt (x2 (xi v1) (xs v3))) qd;let qe:Tree:=.stuck 0;.ite (xL v1 (xl v0)) (.need (xE c0 v1) (.asks (.call 57 (x2 (xu (xA v0 v1)) qf)) [.i] (xi v5) (.ite (xH v5 c0) (.need (xE v1 qb) (.need (xE qb (xl v0)) (.need (xE (xa (xl v3) (xl qg)) (xc 9223372036854775807)) (.leaf (.again [true,true,false,false,false]) [(0,xs v0),(1,xi qb),(2,qf),(8,xs (xP v3 qg))] qd)))) (.ite (xe (xA v0 v1) (xc 95)) (.ite (.f2 .neS v3 (.cs [])) (.asks (.call 64 (x2 (xs v0) (xi qb))) [.i] (xu v6) (.asks (.call 57 (x2 (xu v6) qf)) [.i] (xi v7) (.ite (xH v7 c0) (.need (xE c0 qc) (.need (xL qc (xl v0)) (.asks (.call 57 (x2 (xu (xA v0 qc)) qf)) [.i] (xi v8) (.ite (xH v8 c0) (.leaf (.again [true,true,false,false,false]) [(0,xs v0),(1,xi qb),(2,qf),(8,xs v3)] qd) qa) qe))) qa) qe) qe) qa) qa)) qe)) qa:=by kernel_rfl
theorem zoo (p L:List UInt8)(b:UInt8):atS (p++b::L) (p.length:Nat)=b.toNat:=by simp[atS]
theorem zq4 (p L:List UInt8)(e:UInt8):atS ((p++[e])++L) (((p++[e]).length:Int)-1)=e.toNat:=by
 have:(((p++[e]).length:Int)-1)=(p.length:Nat):=by simp
 rw[this,append_assoc];exact zoo p L e
theorem ztB (p L:List UInt8)(b:UInt8):((p++b::L).take (p.length+1)).drop p.length=[b]:=by
 rw[drop_take,Nat.add_sub_cancel_left,drop_left];rfl
theorem zru (L:List UInt8):∃b:UInt8,hdR L=b.toNat:=by
 cases L with
 |nil=>exact⟨0,rfl⟩
 |cons b L=>exact⟨b,rfl⟩
theorem ztY {call:zad}(hC:call.Sound prog TT)(base:Int)(hcd:∀b:UInt8,∀H,call 57 [.i .u8 b.toNat,.i .i64 base] H=.val (.i .i64 (zbA b.toNat base)) H)(hca:∀(s:List UInt8)(i:Nat) H,call 64 [.s s,.i .i64 i] H=.val (.i .u8 (atR s i)) H) :
 ∀(L pre out:List UInt8)(pd:Bool)(t:Tm)(H:zaa),(pre++L).length<1000000000→out.length+L.length<2000000000→(out≠[]→∃p e,pre=p++[e]∧pd=decide (0≤zbA e.toNat base)) →
 t.wid=f83.ntmps→t.get 0=.s (pre++L)→t.get 1=.i .i64 pre.length→t.get 2=.i .i64 base→t.get 8=.s out →
 ctx prog TT [true,true,false,false,false] (zae f83) (za1 TT f83 (isR (.val (.tup [.i .i64 ((pre.length+(zaC base L out pd).1:Nat):Int),.s (zaC base L out pd).2])))) (.norm t H):=by
 intro L;induction L with
 |nil=>
  intro pre out pd t H hlen hol hpp hw t0 t1 t2 t8;refine zaP.symIn (p:=[true,true,false,false]) zah hC rfl zs6 (by kernel_rfl) [.us (pre++[]),.ui (pre.length:Nat),.ui base,.us out,.uh H] rfl hw ⟨t0,t1,t2,t8,trivial⟩ rfl (zaW _ _) ?_;simp -implicitDefEqProofs only[VC,isR,exU,Ask.den,forall_eq,E.den,O1.den,O2.den,O3.den,U.int_ui,U.boo_ub,U.val_uv,U.lst_ul,U.str_us,U.nat_un,U.heap_uh,SH.den,zaF,zbH,bD,SB.den,zas,LQ,cons_append,nil_append,List.getElem?_cons_zero,List.getElem?_cons_succ,Option.getD_some,zam,zai,zan,zaj,beq_iff_eq,bne_iff_ne,beq_eq_false_iff_ne,Int.toNat_natCast];rw[append_nil];exact⟨fun h=>absurd h (by omega),fun _=>rfl⟩
 |cons b L ih=>
  intro pre out pd t H hlen hol hpp hw t0 t1 t2 t8;refine zaP.symIn (p:=[true,true,false,false]) zah hC rfl zs6 (by kernel_rfl) [.us (pre++b::L),.ui (pre.length:Nat),.ui base,.us out,.uh H] rfl hw ⟨t0,t1,t2,t8,trivial⟩ rfl (zaW _ _) ?_;clear t0 t1 t2 t8 hw;simp -implicitDefEqProofs only[VC,isR,exU,Ask.den,forall_eq,E.den,O1.den,O2.den,O3.den,U.int_ui,U.boo_ub,U.val_uv,U.lst_ul,U.str_us,U.nat_un,U.heap_uh,SH.den,zaF,zbH,bD,SB.den,zas,LQ,cons_append,nil_append,List.getElem?_cons_zero,List.getElem?_cons_succ,Option.getD_some,zam,zai,zan,zaj,beq_iff_eq,bne_iff_ne,beq_eq_false_iff_ne,Int.toNat_natCast];have hl:(pre++b::L).length=pre.length+(L.length+1):=by simp
  rw[hl]at hlen;simp only[length_cons]at hol;have w1:IntKind.i64.wrap ((pre.length:Int)+1)=((pre.length+1:Nat):Int):=by rw[zak (by omega) (by omega)];omega
  have w2:IntKind.i64.wrap ((pre.length:Int)-1)=(pre.length:Int)-1:=zak (by omega) (by omega);simp only[w1,w2,Int.toNat_natCast,zoo,ztB,hl];have e1:pre++b::L=(pre++[b])++L:=by simp
  have e2:((pre.length+1:Nat):Int)=((pre++[b]).length:Nat):=by simp
  refine⟨fun _=>⟨by omega,.inl ⟨_,hcd b,fun hd=>⟨by omega,by omega,by simp;omega,fun t hw f0 f1 f2 f8=>?_⟩,fun hd=>⟨fun h95=>⟨fun hne=>?_,fun hne=>?_⟩,fun h95=>?_⟩⟩⟩,fun h=>absurd h (by omega)⟩
  ·have e:zaC base (b::L) out pd=((zaC base L (out++[b]) true).1+1,(zaC base L (out++[b]) true).2):=by simp only[zaC,if_pos hd]
   have:=ih (pre++[b]) (out++[b]) true t H (by simp;omega) (by simp;omega) (fun _=>⟨pre,b,rfl,by rw[decide_eq_true hd]⟩) hw (by rw[f0,e1]) (by rw[f1,e2]) f2 f8;rw[e];simp only[length_append,length_cons,length_nil]at this;rw[show pre.length+((zaC base L (out++[b]) true).1+1)=pre.length+(0+1)+(zaC base L (out++[b]) true).1 from by omega];exact this
  ·have hb95:b=95:=UInt8.toNat.inj (show b.toNat=95 by omega);have hne:out≠[]:=by simpa using hne
   obtain⟨p,x,rfl,hpd⟩:=hpp hne;have hd':¬0≤zbA b.toNat base:=by omega
   obtain⟨y,hy⟩:=zru L;refine .inl ⟨_,fun K=>by rw[hca (p++[x]++b::L) ((p++[x]).length+1) K,zvz],?_⟩;rw[hy];refine .inl ⟨_,hcd y,fun h1=>⟨by simp,by simp;omega,?_⟩,fun h1=>?_⟩
   ·rw[zq4];refine .inl ⟨_,hcd x,fun h2 t hw f0 f1 f2 f8=>?_,fun h2=>?_⟩
    ·have e:zaC base (b::L) out pd=((zaC base L out false).1+1,(zaC base L out false).2):=by
      rw[zaC,if_neg hd',if_pos ⟨hb95,hne,by rw[hy];exact h1,by rw[hpd,decide_eq_true h2]⟩]
     have:=ih (p++[x]++[b]) out false t H (by simp;simp at hlen;omega) (by omega) (fun _=>⟨p++[x],b,rfl,by rw[decide_eq_false hd']⟩) hw (by rw[f0,e1]) (by rw[f1,e2]) f2 f8;rw[e];rw[show(p++[x]).length+((zaC base L out false).1+1)=(p++[x]++[b]).length+(zaC base L out false).1 from by simp;omega];exact this
    ·rw[zaC,if_neg hd',if_neg (fun h=>by rw[hpd]at h;exact h2 (of_decide_eq_true h.2.2.2))];rfl
   ·rw[zaC,if_neg hd',if_neg (fun h=>h1 (by rw[←hy];exact h.2.2.1))];rfl
  ·rw[zaC,if_neg (by omega),if_neg (fun h=>h.2.1 (by simpa using hne))];rfl
  ·rw[zaC,if_neg (by omega),if_neg (fun h=>h95 (by rw[h.1];rfl))];rfl
theorem zou {call:zad}(hC:call.Sound prog TT)(pre L:List UInt8)(base:Int)(hlen:(pre++L).length<1000000000)(hcd:∀b:UInt8,∀H,call 57 [.i .u8 b.toNat,.i .i64 base] H=.val (.i .i64 (zbA b.toNat base)) H)(hca:∀(s:List UInt8)(i:Nat) H,call 64 [.s s,.i .i64 i] H=.val (.i .u8 (atR s i)) H)  : zaI prog TT 83 [.s (pre++L),.i .i64 pre.length,.i .i64 base] (fun r=>r=.val (.tup [.i .i64 ((pre.length+(zaC base L [] false).1:Nat):Int),.s (zaC base L [] false).2])):=by
 apply zaO.is;refine zaO.sym zah hC (fn:=f83) rfl rfl (by simp[f83]) zxn (by kernel_rfl) [.us (pre++L),.ui (pre.length:Nat),.ui base,.uh []] rfl ⟨by rw[zag];rfl,by rw[zag];rfl,by rw[zag];rfl,trivial⟩ rfl (zaW _ _) ?_;simp -implicitDefEqProofs only[VC,isR,exU,Ask.den,forall_eq,E.den,O1.den,O2.den,O3.den,U.int_ui,U.boo_ub,U.val_uv,U.lst_ul,U.str_us,U.nat_un,U.heap_uh,SH.den,zaF,zbH,bD,SB.den,zas,LQ,cons_append,nil_append,List.getElem?_cons_zero,List.getElem?_cons_succ,Option.getD_some,zam,zai,zan,zaj,beq_iff_eq,bne_iff_ne,beq_eq_false_iff_ne,Int.toNat_natCast];intro t hw t0 t1 t2 t8;exact Tri.symLoop rfl (ztY hC base hcd hca L pre [] false t _ hlen (by simp at hlen ⊢;omega) (fun h=>absurd rfl h) hw t0 t1 t2 t8)
theorem zvc {n:Int}(h1:0≤n)(h2:n<256):IntKind.u8.wrap n=n:=by
 have e:(2:Int)^IntKind.u8.bits=256:=rfl;simp only[IntKind.wrap,e,IntKind.signed,Bool.false_and,Bool.false_eq_true,if_false];omega
theorem zuP:((List.range 10).all fun n=>match zcK TT (zeD Con.none) 3000 61 [.i .i64 n] []with | .val v J=>(match fz J 60 v with|some (.s l)=>l==[48+n.toUInt8]|_=>false)|_=>false)=true:=by kernel_rfl
def zf4 (b:UInt8):Prop:=48≤b.toNat∧b.toNat≤57
def zaX:List UInt8→Nat
 | []=>0
 |b::l=>(b.toNat-48)*10^l.length+zaX l
def chD (n:Nat):UInt8:=48+n.toUInt8
theorem ziz:∀n,n<10→zf4 (chD n)∧(chD n).toNat-48=n:=by
 intro n hn;have:n=0∨n=1∨n=2∨n=3∨n=4∨n=5∨n=6∨n=7∨n=8∨n=9:=by omega
 rcases this with rfl|rfl|rfl|rfl|rfl|rfl|rfl|rfl|rfl|rfl<;>exact⟨⟨by decide,by decide⟩,by decide⟩
theorem zmW (m k:Nat):Int.tmod (m:Int) k=((m%k:Nat):Int):=by
 rw[Int.tmod_eq_emod_of_nonneg (by omega)];rfl
theorem zmU (m k:Nat):Int.tdiv (m:Int) k=((m/k:Nat):Int):=by
 rw[Int.tdiv_eq_ediv_of_nonneg (by omega)];rfl
theorem zsF {c:UInt8}{lo out:List UInt8}{base m0 m M:Nat}(hl:out.length=lo.length)(h:zaX lo*base+m0=m*10^lo.length+zaX out)(hM:M=m+(c.toNat-48)*base):zaX (c::lo)*base+m0=M/10*10^(c::lo).length+zaX (chD (M%10)::out):=by
 have h1:=(ziz (M%10) (by omega)).2;simp only[zaX,h1,length_cons,hl,Nat.pow_succ];have h2:=Nat.div_add_mod M 10;have e1:((c.toNat-48)*10^lo.length+zaX lo)*base+m0=(c.toNat-48)*base*10^lo.length+(zaX lo*base+m0):=by
  rw[Nat.add_mul,Nat.mul_right_comm,Nat.add_assoc]
 have e2:M/10*(10^lo.length*10)+(M%10*10^lo.length+zaX out)=M*10^lo.length+zaX out:=by
  have:M/10*(10^lo.length*10)+M%10*10^lo.length=M*10^lo.length:=by
   rw[show M/10*(10^lo.length*10)=10*(M/10)*10^lo.length from by rw[Nat.mul_comm (10^lo.length) 10,←Nat.mul_assoc,Nat.mul_comm (M/10) 10],←Nat.add_mul,h2]
  rw[←Nat.add_assoc,this]
 rw[e1,e2,h,hM,Nat.add_mul];omega
theorem zqC (b:UInt8)(l:List UInt8)(h:l.length<2000000000):zce .add [b] l=some (.s (b::l)):=zfI [b] l (by simp;omega)
theorem znD {call:zad}(hC:call.Sound prog TT)(s:List UInt8)(base m0:Nat)(hs:∀b∈s,zf4 b)(hb16:base≤16)(hsl:s.length<1000000000)(hitoa:∀n:Nat,n<10→∀H,call 61 [.i .i64 n] H=.val (.s [chD n]) H){Q:Out→Prop}
 (hE:∀(t':Tm)(H':zaa),t'.wid=52→∀(m:Nat)(out:List UInt8),m≤16→(∀b∈out,zf4 b)→out.length=s.length→zaX s*base+m0=m*10^s.length+zaX out→t'.get 2=.i .i64 m→t'.get 7=.s out→Q (.exit 0 t' H')):∀(n:Nat)(out:List UInt8)(m:Nat)(t:Tm)(H:zaa),n≤s.length→(∀b∈out,zf4 b)→m≤16→out.length=s.length-n→zaX (s.drop n)*base+m0=m*10^(s.drop n).length+zaX out →
 t.wid=52→t.get 0=.s s→t.get 1=.i .i64 base→t.get 2=.i .i64 m→t.get 7=.s out→t.get 8=.i .i64 ((n:Int)-1) →
 zaP prog TT (sub [true,true,false,true,false,false] (zae f102)) t H Q:=by
 intro n;induction n with
 |zero=>
  intro out m t H hn hout hm hlen2 hval hw h0 h1 h2 h7 h8;simp only[drop_zero,Nat.sub_zero]at hval hlen2;have hneg:¬(0:Int)≤((0:Nat):Int)-1:=by omega
  have hF:=ai @h0 (ai @h1 (ai @h2 (ai @h7 (ai @h8 @hneg))));refine zaP.round' ?_;apply sQ;apply rS hC
  ·iterate 2 refine zab rfl (by simp[hF]<;>rfl) (by rfl) (by simp[hw]) ?_
   rfl
  refine Tri.condG (o:=?oz2) (b:=?bz2) ?gz2 ?rz2 ?yz2 ?nz2;case gz2=>simp[hF]<;>rfl
  case rz2=>rfl
  case yz2=>
   intro hy2;exfalso;simp[hneg]at hy2
  case nz2=>
   intro hn2;refine Tri.exit ?_;refine zaA ?_;refine zaz ?_;exact hE _ _ (by simp[hw]) m out hm hout hlen2 hval (by simp[h2]) (by simp[h7])
 |succ n ih=>
  intro out m t H hn hout hm hlen2 hval hw h0 h1 h2 h7 h8;have h8':t.get 8=.i .i64 n:=by rw[h8,show(((n+1:Nat):Int)-1)=n from by omega]
  clear h8;have h8:=h8';clear h8';obtain⟨c,hat⟩:∃c,s[n]? = some c:=⟨_,List.getElem?_eq_getElem (by omega)⟩;have hat2:∀h,s[n]'h=c:=fun h=>Option.some.inj ((List.getElem?_eq_getElem h).symm.trans hat);have hdr:s.drop n=c::s.drop (n+1):=by
   have h9:n<s.length:=by omega
   rw[drop_eq_getElem_cons h9,hat2]
  obtain⟨d1,d2⟩:=hs c (mem_of_getElem? hat);have hge:(0:Int)≤n:=by omega
  have hlt:(n:Int)<s.length:=by omega
  obtain⟨D,hD⟩:∃D,D=c.toNat-48:=⟨_,rfl⟩;obtain⟨M,hM⟩:∃M,M=m+(c.toNat-48)*base:=⟨_,rfl⟩;have hDb:D*base≤9*16:=Nat.mul_le_mul (by omega) hb16;rw[←hD]at hM;have hw8:IntKind.u8.wrap ((c.toNat:Int)-48)=D:=by rw[zvc (by omega) (by omega)];omega
  have hwv:IntKind.i64.wrap (D:Int)=D:=zak (by omega) (by omega);obtain⟨E,hE1⟩:∃E,E=D*base:=⟨_,rfl⟩;obtain⟨R,hR⟩:∃R,R=M%10:=⟨_,rfl⟩;obtain⟨U,hU⟩:∃U,U=M/10:=⟨_,rfl⟩;have hmul:IntKind.i64.wrap ((D:Int)*base)=(E:Int):=by
   rw[←Int.natCast_mul,←hE1];exact zak (by omega) (by omega)
  have hadd:IntKind.i64.wrap ((m:Int)+(E:Int))=(M:Int):=by
   rw[hM];rw[zak (by omega) (by omega)];omega
  have hrem:Int.tmod (M:Int) 10=(R:Int):=by rw[hR];exact zmW M 10
  have hrem2:(M:Int)%10=(R:Int):=by rw[hR];omega
  have hquo2:IntKind.i64.wrap ((M:Int)/10)=(U:Int):=by
   rw[show(M:Int)/10=(U:Int)from by rw[hU];omega];exact zak (by omega) (by omega)
  have hit:=hitoa R (by omega);have hquo:IntKind.i64.wrap (Int.tdiv (M:Int) 10)=(U:Int):=by
   rw[show Int.tdiv (M:Int) 10=((M/10:Nat):Int)from zmU M 10,←hU];exact zak (by omega) (by omega)
  have hcat:=zqC (chD R) out (by omega);have hdn:IntKind.i64.wrap ((n:Int)-1)=(n:Int)-1:=zak (by omega) (by omega);have hnext:zaX (s.drop n)*base+m0=U*10^(s.drop n).length+zaX (chD R::out):=by
   rw[hdr];rw[hU,hR];exact zsF (by simp;omega) hval (by rw[hM,hD])
  have hF:=ai @h0 (ai @h1 (ai @h2 (ai @h7 (ai @h8 (ai @hge (ai @hat (ai @hat2 (ai @hlt (ai @hw8 (ai @hwv (ai @hmul (ai @hadd (ai @hrem (ai @hrem2 (ai @hit (ai @hquo (ai @hquo2 @hcat)))))))))))))))));refine zaP.round' ?_;apply sQ;apply rS hC
  ·iterate 2 refine zab rfl (by simp[hF,-zce]<;>rfl) (by rfl) (by simp[hw]) ?_
   rfl
  refine Tri.condG (o:=?os2) (b:=?bs2) ?gs2 ?rs2 ?ys2 ?ns2;case gs2=>simp[hF,-zce]<;>rfl
  case rs2=>rfl
  case ys2=>
   intro hy2;apply Tri.skip;apply sN;apply sQ;apply bK;apply rS hC
   ·iterate 10 refine zab rfl (by simp[hF,-zce]<;>rfl) (by rfl) (by simp[hw]) ?_
    rfl
   apply rS hC
   ·iterate 6 refine zab rfl (by simp[hF,-zce]<;>rfl) (by rfl) (by simp[hw]) ?_
    rfl
   apply rN hC
   ·iterate 3 refine zab rfl (by simp[hF,-zce]<;>rfl) (by rfl) (by simp[hw]) ?_
    rfl
   apply bN;apply sN;apply rN hC
   ·iterate 3 refine zab rfl (by simp[hF,-zce]<;>rfl) (by rfl) (by simp[hw]) ?_
    rfl
   refine zar ?_;refine ih (chD R::out) U _ _ (by omega) (fun b hb=>?_) (by omega) (by simp;omega) ?_ (by simp[hw]) (by simp[h0]) (by simp[h1]) (by simp) (by simp) (by simp;exact hdn)
   ·rcases mem_cons.1 hb with rfl|hb
    ·exact(ziz _ (by omega)).1
    ·exact hout b hb
   ·exact hnext
  case ns2=>
   intro hn2;exfalso;simp at hn2
theorem zsE {m:Nat}{out:List UInt8}:m*10^out.length+zaX out=m/10*10^(chD (m%10)::out).length+zaX (chD (m%10)::out):=by
 have h1:=(ziz (m%10) (by omega)).2;have h2:=Nat.div_add_mod m 10;simp only[zaX,h1,length_cons,Nat.pow_succ];have:m/10*(10^out.length*10)+m%10*10^out.length=m*10^out.length:=by
  rw[show m/10*(10^out.length*10)=10*(m/10)*10^out.length from by rw[Nat.mul_comm (10^out.length) 10,←Nat.mul_assoc,Nat.mul_comm (m/10) 10],←Nat.add_mul,h2]
 rw[←Nat.add_assoc,this]
theorem znE {call:zad}(hC:call.Sound prog TT)(N:Nat)(hitoa:∀n:Nat,n<10→∀H,call 61 [.i .i64 n] H=.val (.s [chD n]) H){Q:Out→Prop}
 (hE:∀(t':Tm)(H':zaa),t'.wid=52→∀(out:List UInt8),(∀b∈out,zf4 b)→0<out.length→N=zaX out→t'.get 7=.s out→Q (.exit 2 t' H')):∀(m:Nat)(out:List UInt8)(t:Tm)(H:zaa),(∀b∈out,zf4 b)→0<out.length→out.length+m<1500000000→N=m*10^out.length+zaX out →
 t.wid=52→t.get 2=.i .i64 m→t.get 7=.s out →
 zaP prog TT (sub [true,true,true,false,false,false] (zae f102)) t H Q:=by
 intro m;induction m using Nat.strongRecOn with
 |_ m ih=>
  intro out t H hout hlen hlen2 hval hw h2 h7;by_cases hm0:m=0
  ·have hneg:¬(0:Int)<(m:Int):=by omega
   have hneg2:m=0:=hm0;rw[hm0,Nat.zero_mul,Nat.zero_add]at hval;have hF:=ai @h2 (ai @h7 @hm0);refine zaP.round' ?_;apply sQ;apply rS hC
   ·iterate 2 refine zab rfl (by simp[hF]<;>rfl) (by rfl) (by simp[hw]) ?_
    rfl
   refine Tri.condG (o:=?oz2) (b:=?bz2) ?gz2 ?rz2 ?yz2 ?nz2;case gz2=>simp[hF]<;>rfl
   case rz2=>rfl
   case yz2=>
    intro hy2;exfalso;simp[hm0]at hy2
   case nz2=>
    intro hn2;refine Tri.exit ?_;refine zaA ?_;refine zaz ?_;exact hE _ _ (by simp[hw]) out hout hlen hval (by simp[h7])
  ·have hge:0<m:=by omega
   obtain⟨R,hR⟩:∃R,R=m%10:=⟨_,rfl⟩;obtain⟨U,hU⟩:∃U,U=m/10:=⟨_,rfl⟩;have hrem:Int.tmod (m:Int) 10=(R:Int):=by rw[hR];exact zmW m 10
   have hrem2:(m:Int)%10=(R:Int):=by rw[hR];omega
   have hquo2:IntKind.i64.wrap ((m:Int)/10)=(U:Int):=by
    rw[show(m:Int)/10=(U:Int)from by rw[hU];omega];exact zak (by omega) (by omega)
   have hit:=hitoa R (by omega);have hquo:IntKind.i64.wrap (Int.tdiv (m:Int) 10)=(U:Int):=by
    rw[show Int.tdiv (m:Int) 10=((m/10:Nat):Int)from zmU m 10,←hU];exact zak (by omega) (by omega)
   have hcat:=zqC (chD R) out (by omega);have hF:=ai @h2 (ai @h7 (ai @hge (ai @hrem (ai @hrem2 (ai @hit (ai @hquo (ai @hquo2 @hcat)))))));refine zaP.round' ?_;apply sQ;apply rS hC
   ·iterate 2 refine zab rfl (by simp[hF,-zce]<;>rfl) (by rfl) (by simp[hw]) ?_
    rfl
   refine Tri.condG (o:=?os2) (b:=?bs2) ?gs2 ?rs2 ?ys2 ?ns2;case gs2=>simp[hF,-zce]<;>rfl
   case rs2=>rfl
   case ys2=>
    intro hy2;apply Tri.skip;apply sN;apply bK;apply rS hC
    ·iterate 6 refine zab rfl (by simp[hF,-zce]<;>rfl) (by rfl) (by simp[hw]) ?_
     rfl
    apply rN hC
    ·iterate 3 refine zab rfl (by simp[hF,-zce]<;>rfl) (by rfl) (by simp[hw]) ?_
     rfl
    apply bN;refine zar ?_;refine ih U (by omega) (chD R::out) _ _ (fun b hb=>?_) (by simp only[length_cons];omega) (by simp only[length_cons];omega) ?_ (by simp[hw]) (by simp) (by simp)
    ·rcases mem_cons.1 hb with rfl|hb
     ·exact(ziz _ (by omega)).1
     ·exact hout b hb
    ·rw[hval,hR,hU];exact zsE
   case ns2=>
    intro hn2;exfalso;simp[hge]at hn2
theorem znF {call:zad}(hC:call.Sound prog TT)(N:Nat){Q:Out→Prop}
 (hE:∀(t':Tm)(H':zaa),t'.wid=52→∀(out:List UInt8),(∀b∈out,zf4 b)→0<out.length→N=zaX out→(1<out.length→out.head?≠some 48)→t'.get 7=.s out→Q (.exit 4 t' H')):∀(out:List UInt8)(t:Tm)(H:zaa),(∀b∈out,zf4 b)→0<out.length→N=zaX out →
 t.wid=52→t.get 7=.s out →
 zaP prog TT (sub [true,true,true,true,false,false,false] (zae f102)) t H Q:=by
 intro out;induction h:out.length using Nat.strongRecOn generalizing out with
 |_ n ih0=>
  have ih:∀o:List UInt8,o.length<out.length→∀(t:Tm)(H:zaa),(∀b∈o,zf4 b)→0<o.length→N=zaX o→t.wid=52→t.get 7=.s o→zaP prog TT (sub [true,true,true,true,false,false,false] (zae f102)) t H Q:=fun o ho t H a1 a2 a3 a4 a5=>ih0 o.length (by omega) o rfl t H a1 a2 a3 a4 a5;clear ih0;subst h;intro t H hout hlen hval hw h7;by_cases h1:1<out.length
  ·match out,h1 with
   |c::b2::r,h1=>
    have h1b:(1:Int)<(r.length:Int)+1+1:=by omega
    have hat:(c::b2::r)[0]? = some c:=rfl;have hat2:∀h,(c::b2::r)[0]'h=c:=fun h=>rfl;have hi1:(1:Int)≤(r.length:Int)+1+1:=by omega
    by_cases hc1:c=48
    ·have hc0:((c.toNat:Int)==48)=true:=by subst hc1;decide
     have hc2:(c.toNat-48)=0:=by subst hc1;decide
     have hF:=ai @h7 (ai @h1b (ai @hat (ai @hat2 (ai @hc0 @hi1))));refine zaP.round' ?_;apply sQ;apply rS hC
     ·iterate 4 refine zab rfl (by simp[hF]<;>rfl) (by rfl) (by simp[hw]) ?_
      iterate 3 refine zab (by simp[zaH,hF]) (by simp[hF]<;>rfl) (by rfl) (by simp[hw]) ?_
      refine zab rfl (by simp[hF]<;>rfl) (by rfl) (by simp[hw]) ?_;rfl
     refine cT (by simp[hF]<;>rfl) ?_;apply Tri.skip;apply sN;apply bK;apply rN hC
     ·iterate 3 refine zab rfl (by simp[hF]<;>rfl) (by rfl) (by simp[hw]) ?_
      rfl
     apply bN;refine zar ?_;refine ih (b2::r) (by simp) _ _ (fun b hb=>hout b (by simp[hb])) (by simp) ?_ (by simp[hw]) (by simp);rw[hval];simp[zaX,hc1]
    ·have hcne:c≠48:=hc1;have hc0:((c.toNat:Int)==48)=false:=by
      rw[show(48:Int)=((48:UInt8).toNat:Int)from rfl,←zu9];exact beq_eq_false_iff_ne.2 hc1
     have hF:=ai @h7 (ai @h1b (ai @hat (ai @hat2 @hc0)));refine zaP.round' ?_;apply sQ;apply rS hC
     ·iterate 4 refine zab rfl (by simp[hF]<;>rfl) (by rfl) (by simp[hw]) ?_
      iterate 3 refine zab (by simp[zaH,hF]) (by simp[hF]<;>rfl) (by rfl) (by simp[hw]) ?_
      refine zab rfl (by simp[hF]<;>rfl) (by rfl) (by simp[hw]) ?_;rfl
     refine cF (by simp[hF]<;>rfl) ?_;refine Tri.exit ?_;refine zaA ?_;refine zaz ?_;exact hE _ _ (by simp[hw]) _ hout hlen hval (by simpa using hcne) (by simp[h7])
  ·have h1b:¬(1:Int)<(out.length:Int):=by omega
   have hhd:1<out.length→out.head?≠some 48:=fun h=>absurd h h1;refine zaP.round' ?_;apply sQ;apply rS hC
   ·iterate 4 refine zab rfl (by simp[h7,h1b]<;>rfl) (by rfl) (by simp[hw]) ?_
    iterate 3 refine zcp (by simp[zaH,h7,h1b]) (by simp[hw]) ?_
    refine zab rfl (by simp[h7,h1b]<;>rfl) (by rfl) (by simp[hw]) ?_;rfl
   refine cF (by simp[h7,h1b]<;>rfl) ?_;refine Tri.exit ?_;refine zaA ?_;refine zaz ?_;exact hE _ _ (by simp[hw]) out hout hlen hval hhd (by simp[h7])
def zbR (s:List UInt8):Prop:=(∀b∈s,zf4 b)∧0<s.length∧(1<s.length→s.head?≠some 48)
theorem zox {call:zad}(hC:call.Sound prog TT)(s:List UInt8)(base m0:Nat)(hs:∀b∈s,zf4 b)(hpos:0<s.length)(hb16:base≤16)(hm0:m0≤16)(hsl:s.length<1000000000)(hitoa:∀n:Nat,n<10→∀H,call 61 [.i .i64 n] H=.val (.s [chD n]) H)(hw1:IntKind.i64.wrap ((s.length:Int)-1)=(s.length:Int)-1)  : zaI prog TT 102 [.s s,.i .i64 base,.i .i64 m0] (fun r=>∃out,r=.val (.s out)∧zbR out∧zaX out=zaX s*base+m0):=by
 refine en f102 rfl rfl (by simp[f102]) 52 rfl fun t hw hg=>?_;have h0:=hg 0 _ rfl;have h1:=hg 1 _ rfl;have h2:=hg 2 _ rfl;clear hg;try simp only[Nd.enc_eq]at *
 have hF:=ai @h0 (ai @h1 (ai @h2 @hw1));apply rS hC
 ·refine oA ?_;rfl
 apply rS hC
 ·refine oA ?_;rfl
 apply sQ;apply rS hC
 ·iterate 4 refine oA ?_
  rfl
 apply bK;refine Tri.loop ?_;refine znD hC s base m0 hs hb16 hsl hitoa ?exit s.length [] m0 _ _ (Nat.le_refl _) (by simp) hm0 (by simp) (by simp[zaX]) (by simp[hw]) (by simp[h0]) (by simp[h1]) (by simp[h2]) (by simp) (by simp[hw1]);case exit=>
  clear hw h0 h1 h2;intro t2 H2 hw m out hm hout hol hval h2 h7;refine zaw ?_;apply sN;apply sQ;apply bK;refine Tri.loop ?_;refine znE hC (zaX s*base+m0) hitoa ?exit2 m out _ _ hout (by omega) (by omega) (by rw[hol];exact hval) (by simp[hw]) (by simp[h2]) (by simp[h7]);case exit2=>
   clear hw h2 h7 hout hol hval;intro t3 H3 hw o2 hout hol hval h7;refine zaw ?_;apply sN;apply sQ;apply bK;refine Tri.loop ?_;refine znF hC (zaX s*base+m0) ?exit3 o2 _ _ hout hol hval (by simp[hw]) (by simp[h7]);case exit3=>
    clear hw hout hol hval h7;intro t4 H4 hw o3 hout hol hval hhd h7;refine zaw ?_;apply sN;apply rS hC
    ·iterate 2 refine oA ?_
     rfl
    apply Tri.ret;refine zbo (by simp[f102]<;>rfl) (by rfl) ?_;exact⟨o3,rfl,⟨hout,hol,hhd⟩,hval.symm⟩
theorem znf {call:zad}(hC:call.Sound prog TT)(a b:List UInt8)(hh:(b.length:Int)<a.length)  : zaI prog TT 103 [.s a,.s b] (fun r=>r=.val (.b true)):=by
 refine en f103 rfl rfl (by simp[f103]) 22 rfl fun t hw hg=>?_;have h0:=hg 0 _ rfl;have h1:=hg 1 _ rfl;clear hg;try simp only[Nd.enc_eq]at *
 have hF:=ai @h0 (ai @h1 @hh);apply rS hC
 ·refine oA ?_;rfl
 apply rS hC
 ·iterate 6 refine oA ?_
  iterate 10 refine oC ?_
  iterate 2 refine oA ?_
  rfl
 apply Tri.ret;refine zbo (by simp[f103]<;>rfl) (by rfl) ?_;first
  |rfl
  |simp
theorem zng {call:zad}(hC:call.Sound prog TT)(a b:List UInt8)(hh:¬(b.length:Int)<a.length)(hh2:((a.length:Int)==b.length)=false)  : zaI prog TT 103 [.s a,.s b] (fun r=>r=.val (.b false)):=by
 refine en f103 rfl rfl (by simp[f103]) 22 rfl fun t hw hg=>?_;have h0:=hg 0 _ rfl;have h1:=hg 1 _ rfl;clear hg;try simp only[Nd.enc_eq]at *
 have hF:=ai @h0 (ai @h1 (ai @hh @hh2));apply rS hC
 ·refine oA ?_;rfl
 apply rS hC
 ·iterate 6 refine oA ?_
  iterate 6 refine oB ?_
  iterate 3 refine oC ?_
  refine oB ?_;iterate 2 refine oA ?_
  rfl
 apply Tri.ret;refine zbo (by simp[f103]<;>rfl) (by rfl) ?_;first
  |rfl
  |simp
theorem znh {call:zad}(hC:call.Sound prog TT)(a b:List UInt8)(hh:¬(b.length:Int)<a.length)(hh2:((a.length:Int)==b.length)=true)  : zaI prog TT 103 [.s a,.s b] (fun r=>r=.val (.b (!Op.bytesLess a b && !(a==b)))):=by
 refine en f103 rfl rfl (by simp[f103]) 22 rfl fun t hw hg=>?_;have h0:=hg 0 _ rfl;have h1:=hg 1 _ rfl;clear hg;try simp only[Nd.enc_eq]at *
 have hF:=ai @h0 (ai @h1 (ai @hh @hh2));apply rS hC
 ·refine oA ?_;rfl
 apply rS hC
 ·iterate 6 refine oA ?_
  iterate 10 refine oB ?_
  iterate 2 refine oA ?_
  rfl
 apply Tri.ret;refine zbo (by simp[f103]<;>rfl) (by rfl) ?_;first
  |rfl
  |simp
theorem zjB:∀s:List UInt8,(∀b∈s,zf4 b)→zaX s<10^s.length
 | [],_=>by simp[zaX]
 |b::s,h=>by
  have h1:=zjB s fun x hx=>h x (by simp[hx]);have h2:=h b (by simp);simp only[zaX,length_cons,Nat.pow_succ];obtain⟨h3,h4⟩:=h2;have:(b.toNat-48)*10^s.length≤9*10^s.length:=Nat.mul_le_mul_right _ (by omega);omega
theorem zta {a b:UInt8}(h:a.toNat=b.toNat):a=b:=UInt8.toNat.inj h
theorem zrI {p q m x y:Nat}(hx:x<m)(hy:y<m):(p*m+x<q*m+y↔p<q∨(p=q∧x<y))∧(p*m+x=q*m+y↔p=q∧x=y):=by
 rcases Nat.lt_trichotomy p q with h|h|h
 ·have:(p+1)*m≤q*m:=Nat.mul_le_mul_right _ h;rw[Nat.add_mul,Nat.one_mul]at this;constructor
  ·constructor
   ·intro _;exact .inl h
   ·intro _;omega
  ·constructor
   ·intro e;omega
   ·rintro⟨rfl,_⟩;omega
 ·subst h;constructor
  ·constructor
   ·intro e;exact .inr ⟨rfl,by omega⟩
   ·rintro(e|⟨_,e⟩)<;>omega
  ·constructor
   ·intro e;exact⟨rfl,by omega⟩
   ·rintro⟨_,rfl⟩;rfl
 ·have:(q+1)*m≤p*m:=Nat.mul_le_mul_right _ h;rw[Nat.add_mul,Nat.one_mul]at this;constructor
  ·constructor
   ·intro e;omega
   ·rintro(e|⟨rfl,_⟩)<;>omega
  ·constructor
   ·intro e;omega
   ·rintro⟨rfl,_⟩;omega
theorem zi3:∀a b:List UInt8,a.length=b.length→(∀x∈a,zf4 x)→(∀x∈b,zf4 x)→Op.bytesLess a b=decide (zaX a<zaX b)∧(a==b)=decide (zaX a=zaX b)
 | [],[],_,_,_=>by simp[Op.bytesLess,zaX]
 | [],_::_,h,_,_=>by simp at h
 |_::_,[],h,_,_=>by simp at h
 |c::x,d::y,h,ha,hb=>by
  have hl:x.length=y.length:=by simpa using h
  obtain⟨ih1,ih2⟩:=zi3 x y hl (fun z hz=>ha z (by simp[hz])) (fun z hz=>hb z (by simp[hz]));obtain⟨c1,c2⟩:=ha c (by simp);obtain⟨d1,d2⟩:=hb d (by simp);have hx:=zjB x fun z hz=>ha z (by simp[hz]);have hy:=zjB y fun z hz=>hb z (by simp[hz]);rw[←hl]at hy;obtain⟨k1,k2⟩:=zrI (p:=c.toNat-48) (q:=d.toNat-48) hx hy;have e1:(c<d)↔c.toNat-48<d.toNat-48:=by
   rw[UInt8.lt_iff_toNat_lt];omega
  have e2:(c=d)↔c.toNat-48=d.toNat-48:=⟨fun e=>by rw[e],fun e=>zta (by omega)⟩;constructor
  ·simp only[Op.bytesLess,zaX,←hl,ih1];rw[Bool.eq_iff_iff];simp only[Bool.or_eq_true,Bool.and_eq_true,decide_eq_true_eq,beq_iff_eq,k1,e1,e2]
  ·simp only[zaX,←hl];rw[Bool.eq_iff_iff];have ih3:x=y↔zaX x=zaX y:=by
    have:=ih2;rw[Bool.eq_iff_iff]at this;simpa using this
   simp only[beq_iff_eq,List.cons.injEq,decide_eq_true_eq,k2,e2,ih3]
theorem zdV {a b:List UInt8}(ha:zbR a)(hb:zbR b)(h:b.length<a.length):zaX b<zaX a:=by
 obtain⟨a1,a2,a3⟩:=ha;obtain⟨b1,b2,b3⟩:=hb;have hv:=zjB b b1;cases a with
 |nil=>simp at a2
 |cons c x=>
  have h1:=a3 (by simp at h ⊢;omega);have hc:c≠48:=by simpa using h1
  obtain⟨c1,c2⟩:=a1 c (by simp);have h2:1≤c.toNat-48:=by
   have:c.toNat≠48:=fun e=>hc (zta e);omega
  simp only[zaX];have h3:10^b.length≤10^x.length:=Nat.pow_le_pow_right (by omega) (by simp at h;omega);have h4:1*10^x.length≤(c.toNat-48)*10^x.length:=Nat.mul_le_mul_right _ h2;omega
theorem zq8 {a b:List UInt8}(ha:zbR a)(hb:zbR b)(h:zaX a=zaX b):a=b:=by
 rcases Nat.lt_trichotomy a.length b.length with hl|hl|hl
 ·have:=zdV hb ha hl;omega
 ·have:=(zi3 a b hl ha.1 hb.1).2;rw[Bool.eq_iff_iff]at this;simpa[h]using this
 ·have:=zdV ha hb hl;omega
theorem zwI:∃g,zap prog TT 103 g∧∀a b:List UInt8,zbR a→zbR b→∀H,g [.s a,.s b] H=.val (.b (decide (zaX b<zaX a))) H:=by
 obtain⟨g,k,s⟩:=zbh zah zat 103 (fun p:List UInt8×List UInt8=>[.s p.1,.s p.2]) (fun p=>zbR p.1∧zbR p.2) (fun p=>.b (decide (zaX p.2<zaX p.1))) (fun p _=>by simp[nlL,nl]) (fun _=>rfl) (fun a b h=>by
  simp only[List.cons.injEq,V.s.injEq,and_true]at h;rw[h.1,h.2]) (fun p hp=>by
  obtain⟨a,b⟩:=p;obtain⟨ha,hb⟩:=hp;simp only at ha hb ⊢;apply zaI.of1;by_cases h1:b.length<a.length
  ·have:=zdV ha hb h1;rw[decide_eq_true this];exact znf n0 a b (by omega)
  ·by_cases h2:a.length=b.length
   ·obtain ⟨k1,k2⟩:=zi3 a b h2 ha.1 hb.1;have:=znh n0 a b (by omega) (by rw[h2];simp);rw[k1,k2]at this;have e:(!decide (zaX a<zaX b) && !decide (zaX a=zaX b))=decide (zaX b<zaX a):=by
     rcases Nat.lt_trichotomy (zaX a) (zaX b)with h|h|h
     ·simp[h];omega
     ·simp[h]
     ·have h3:¬zaX a<zaX b:=by omega
      have h4:¬zaX a=zaX b:=by omega
      simp[h,h3,h4]
    rw[e]at this;exact this
   ·have:=zdV hb ha (by omega);have h3:¬zaX b<zaX a:=by omega
    rw[decide_eq_false h3];exact zng n0 a b (by omega) (by rw[beq_eq_false_iff_ne];omega))
 exact⟨g,k,fun a b ha hb H=>s (a,b) ⟨ha,hb⟩ H⟩
theorem zwC:∃g,zap prog TT 61 g∧∀n:Nat,n<10→∀H,g [.i .i64 n] H=.val (.s [chD n]) H:=by
 refine⟨fun vs H=>match vs with | [.i .i64 n]=>if 0≤n∧n<10 then .val (.s [chD n.toNat]) H else .no|_=>.no,fun vs H x hx hne=>?_,fun n hn H=>?_⟩
 ·simp only at hx;split at hx
  ·rename_i n;split at hx
   ·rename_i hn;subst hx;obtain⟨k,hk,h1⟩:=zej zuP hn.1 (by omega);subst hk;split at h1
    ·rename_i v J he;split at h1
     ·rename_i l hf;have h2:=eq_of_beq h1;subst h2;obtain⟨e1,e2⟩:=zfP zah zat Con.none_sound he hf rfl;exact⟨e1,e2 H⟩
     ·cases h1
    ·cases h1
   ·exact absurd hx.symm hne
  ·exact absurd hx.symm hne
 ·have:(0:Int)≤n∧(n:Int)<10:=by omega
  simp only[this,and_self,if_true];simp
def zfz:List UInt8:=[51,52,48,50,56,50,51,54,54,57,50,48,57,51,56,52,54,51,52,54,51,51,55,52,54,48,55,52,51,49,55,54,56,50,49,49,52,53,53]
theorem zh2:zbR zfz:=⟨by unfold zf4 zfz;decide,by decide,by decide⟩
theorem zmu:zaX zfz=340282366920938463463374607431768211455:=by decide
def zgj (base:Nat):List UInt8→Nat→Nat
 | [],v=>v
 |b::l,v=>zgj base l (v*base+(zbA b.toNat base).toNat)
theorem zlu (base:Nat)(hb:0<base):∀(l:List UInt8)(v:Nat),v≤zgj base l v
 | [],v=>Nat.le_refl _
 |b::l,v=>by
  have h1:=zlu base hb l (v*base+(zbA b.toNat base).toNat);have h2:v*1≤v*base:=Nat.mul_le_mul_left _ hb;simp only[zgj];omega
theorem zk1 {o:List UInt8}(h:zbR o)(hv:zaX o≤zaX zfz):o.length≤39:=by
 by_cases hl:zfz.length<o.length
 ·have:=zdV h zh2 hl;omega
 ·have:zfz.length=39:=rfl;omega
theorem zrP {call:zad}(hC:call.Sound prog TT)(base:Nat)(hb0:0<base)(hb16:base≤16)
 (hd:∀b:UInt8,∀H,call 57 [.i .u8 b.toNat,.i .i64 base] H=.val (.i .i64 (zbA b.toNat base)) H)
 (hti:∀(o:List UInt8)(m:Nat),zbR o→m≤16→o.length<1000→∃o',zbR o'∧zaX o'=zaX o*base+m∧∀H,call 102 [.s o,.i .i64 base,.i .i64 m] H=.val (.s o') H)
 (habove:∀o:List UInt8,zbR o→∀H,call 103 [.s o,.s zfz] H=.val (.b (decide (zaX zfz<zaX o))) H){Q:Out→Prop}:∀(L pre out:List UInt8)(t:Tm)(H:zaa),(pre++L).length<1000000000→(∀b∈L,0≤zbA b.toNat base∧zbA b.toNat base<16)→zbR out→zaX out≤zaX zfz →
 t.wid=25→t.get 0=.s (pre++L)→t.get 1=.i .i64 base→t.get 6=.s out→t.get 7=.i .i64 pre.length →
 (∀(t':Tm)(H':zaa),t'.wid=25→∀o:List UInt8,zbR o→zaX o=zgj base L (zaX out)→zaX o≤zaX zfz→t'.get 6=.s o→Q (.exit 0 t' H')) →
 (∀(t':Tm)(H':zaa),zaX zfz<zgj base L (zaX out)→t'.get 4=.s []→t'.get 5=.b false→Q (.ret t' H')) →
 zaP prog TT (sub [true,true,false,true,false,false] (zae f84)) t H Q:=by
 intro L;induction L with
 |nil=>
  intro pre out t H hlen hdig hc hv hw h0 h1 h6 h7 hE hR;have hF:=ai @h0 (ai @h1 (ai @h6 @h7));refine zaP.round' ?_;apply sQ;apply rS hC
  ·iterate 4 refine oA ?_
   rfl
  refine cF (by simp[hF]<;>rfl) ?_;refine Tri.exit ?_;refine zaA ?_;refine zaz ?_;exact hE _ _ (by simp[hw]) out hc rfl hv (by simp[h6])
 |cons b L ih=>
  intro pre out t H hlen hdig hc hv hw h0 h1 h6 h7 hE hR;have hlt:=zds pre.length L.length;have hat:=zho pre b L;have hat2:=zeL pre b L;obtain⟨d1,d2⟩:=hdig b (by simp);obtain⟨D,hD⟩:∃D:Nat,zbA b.toNat base=D:=⟨(zbA b.toNat base).toNat,by omega⟩;have hdg:=hd b;rw[hD]at hdg;have hsm:=zk1 hc hv;obtain⟨o2,hc2,hv2,ht⟩:=hti out D hc (by omega) (by omega);have hv2':zaX o2=zaX out*base+(zbA b.toNat base).toNat:=by rw[hv2,hD];simp
  clear hv2;have hv2:=hv2';have hab:=habove o2 hc2;by_cases hbg:zaX zfz<zaX o2
  ·rw [decide_eq_true hbg]at hab;unfold zfz at hab;have hbig:zaX zfz<zgj base (b::L) (zaX out):=by
    have:=zlu base hb0 L (zaX o2);simp only[zgj];rw[←hv2];omega
   have hF:=ai @h0 (ai @h1 (ai @h6 (ai @h7 (ai @hlt (ai @hat (ai @hat2 (ai @hdg (ai @ht @hab))))))));refine zaP.round' ?_;apply sQ;apply rS hC
   ·iterate 4 refine oA ?_
    rfl
   refine cT (by simp[hF]<;>rfl) ?_;apply Tri.skip;apply sN;apply sQ;apply bK;apply rS hC
   ·iterate 9 refine oA ?_
    rfl
   apply rS hC
   ·iterate 2 refine oA ?_
    rfl
   refine cT (by simp[hF]<;>rfl) ?_;apply rS hC
   ·iterate 2 refine oA ?_
    rfl
   apply Tri.ret;apply bR;apply sR;refine zcf ?_;exact hR _ _ hbig (by simp) (by simp)
  ·rw[decide_eq_false hbg]at hab;unfold zfz at hab;have hF:=ai @h0 (ai @h1 (ai @h6 (ai @h7 (ai @hlt (ai @hat (ai @hat2 (ai @hdg (ai @ht @hab))))))));refine zaP.round' ?_;apply sQ;apply rS hC
   ·iterate 4 refine oA ?_
    rfl
   refine Tri.condG (o:=?og2) (b:=?bg2) ?gg2 ?rg2 ?yg2 ?ng2;case gg2=>simp[hF]<;>rfl
   case rg2=>rfl
   case yg2=>
    intro hy2;apply Tri.skip;apply sN;apply sQ;apply bK;apply rS hC
    ·iterate 9 refine oA ?_
     rfl
    apply rS hC
    ·iterate 2 refine oA ?_
     rfl
    refine cF (by simp[hF]<;>rfl) ?_;apply Tri.skip;apply bN;apply sN;apply rN hC
    ·iterate 3 refine oA ?_
     rfl
    refine zar ?_;refine ih (pre++[b]) o2 _ _ (by simpa using hlen) (fun c hcc=>hdig c (by simp[hcc])) hc2 (by omega) (by simp[hw]) (by simp[h0]) (by simp[h1]) (by simp) (by simp;exact zak (by omega) (by simp at hlen;omega)) ?_ ?_
    ·intro t' H' k1 o k2 k3 k5 k4;exact hE t' H' k1 o k2 (by rw[k3,hv2];rfl) k5 k4
    ·intro t' H' k1 k2 k3;exact hR t' H' (by simp only[zgj];rw[←hv2];exact k1) k2 k3
   case ng2=>
    intro hn2;exfalso;simp at hn2
theorem zov {call:zad} (hC:call.Sound prog TT) (s:List UInt8) (base:Nat) (hb0:0<base) (hb16:base≤16) (hlen:s.length<1000000000) (hdig:∀b∈s,0≤zbA b.toNat base∧zbA b.toNat base<16)
    (hd:∀b:UInt8,∀H,call 57 [.i .u8 b.toNat,.i .i64 base] H=.val (.i .i64 (zbA b.toNat base)) H)
    (hti:∀(o:List UInt8)(m:Nat),zbR o→m≤16→o.length<1000→∃o',zbR o'∧zaX o'=zaX o*base+m∧∀H,call 102 [.s o,.i .i64 base,.i .i64 m] H=.val (.s o') H)
    (habove:∀o:List UInt8,zbR o→∀H,call 103 [.s o,.s zfz] H=.val (.b (decide (zaX zfz<zaX o))) H)  : zaI prog TT 84 [.s s,.i .i64 base] (fun r=>(∃o,zbR o∧zaX o=zgj base s 0∧zgj base s 0≤zaX zfz∧r=.val (.tup [.s o,.b true]))∨(zaX zfz<zgj base s 0∧r=.val (.tup [.s [],.b false]))):=by
 refine en f84 rfl rfl (by simp[f84]) 25 rfl fun t hw hg=>?_
 have h0:=hg 0 _ rfl
 have h1:=hg 1 _ rfl
 clear hg
 try simp only[Nd.enc_eq]at *
 apply rS hC
 · iterate 2 refine oA ?_
   rfl
 apply rS hC
 · refine oA ?_
   rfl
 apply sQ
 apply rS hC
 · refine oA ?_
   rfl
 apply bK
 refine Tri.loop ?_
 refine zrP hC base hb0 hb16 hd hti habove s [] [48] _ _ (by simpa using hlen) hdig ⟨by unfold zf4;decide,by decide,by decide⟩ (by rw[zmu];decide) (by simp[hw]) (by simp[h0]) (by simp[h1]) (by simp) (by simp) ?exit ?ret
 case exit=>
  intro t2 H2 hw o hc hv hle h6
  have h4:True:=trivial
  have h5:True:=trivial
  have hres:(∃o,zbR o∧zaX o=zgj base s 0∧zgj base s 0≤zaX zfz∧Res.val (.tup [.s o,.b true])=.val (.tup [.s o,.b true]))∨True:=.inr trivial
  refine zaw ?_
  apply sN
  apply rS hC
  · iterate 3 refine oA ?_
    rfl
  apply Tri.ret
  first
   | refine zbo (by simp[f84,h4,h5]<;>rfl) (by rfl) ?_
     exact .inr ⟨hbig,rfl⟩
   | refine zbo (by simp[f84,h4,h5]<;>rfl) (by rfl) ?_
     exact .inl ⟨o,hc,hv,hv▸hle,rfl⟩
 case ret=>
  intro t2 H2 hbig h4 h5
  apply bR
  apply sR
  first
   | refine zbo (by simp[f84,h4,h5]<;>rfl) (by rfl) ?_
     exact .inr ⟨hbig,rfl⟩
   | refine zbo (by simp[f84,h4,h5]<;>rfl) (by rfl) ?_
     exact .inl ⟨o,hc,hv,hv▸hle,rfl⟩
theorem zwH:∃g,zap prog TT 102 g∧∀(o:List UInt8)(base m:Nat),zbR o→base≤16→m≤16→o.length<1000→∃o',zbR o'∧zaX o'=zaX o*base+m∧∀H,g [.s o,.i .i64 base,.i .i64 m] H=.val (.s o') H:=by
 obtain⟨gi,ki,si⟩:=zwC;obtain⟨g,hg,hs⟩:=zcS zah zat 102 (fun vs=>∃(o:List UInt8)(base m:Nat),zbR o∧base≤16∧m≤16∧o.length<1000∧vs=[.s o,.i .i64 base,.i .i64 m]) (fun vs r=>∃(o:List UInt8)(base m:Nat)(o':List UInt8),vs=[.s o,.i .i64 base,.i .i64 m]∧r=.val (.s o')∧zbR o'∧zaX o'=zaX o*base+m) (by
  rintro vs ⟨o,base,m,hc,hb,hm,hl,rfl⟩;refine⟨by simp[nlL,nl],by rintro r ⟨_,_,_,_,_,rfl,_⟩;rfl,?_⟩;refine(zox (ws n0 ki) o base m hc.1 hc.2.1 hb hm (by omega) (fun n hn H=>by rw[zao];exact si n hn H) (zak (by omega) (by omega))).mono ?_;rintro r ⟨o',rfl,h1,h2⟩;exact⟨o,base,m,o',rfl,rfl,h1,h2⟩)
 refine⟨g,hg,fun o base m hc hb hm hl=>?_⟩;obtain⟨r,⟨o1,b1,m1,o',e,rfl,h1,h2⟩,h⟩:=hs _ ⟨o,base,m,hc,hb,hm,hl,rfl⟩;simp only[List.cons.injEq,V.s.injEq,V.i.injEq,true_and,and_true]at e;obtain⟨rfl,e2,e3⟩:=e;rw[show b1=base from by omega,show m1=m from by omega]at h2;exact⟨o',h1,h2,h⟩
def ztc (s:List UInt8)(base:Nat)(r:V):Prop:=(∃o,zbR o∧zaX o=zgj base s 0∧zgj base s 0≤zaX zfz∧r=.tup [.s o,.b true])∨(zaX zfz<zgj base s 0∧r=.tup [.s [],.b false])
theorem zwF:∃g,zap prog TT 84 g∧∀(s:List UInt8)(base:Nat),base=2∨base=10∨base=16→s.length<1000000000→(∀b∈s,0≤zbA b.toNat base)→∃r,ztc s base r∧∀H,g [.s s,.i .i64 base] H=.val r H:=by
 obtain⟨g1,k1,s1⟩:=zkD;obtain⟨g2,k2,s2⟩:=zwH;obtain⟨g3,k3,s3⟩:=zwI;obtain⟨g,hg,hs⟩:=zcS zah zat 84 (fun vs=>∃(s:List UInt8)(base:Nat),(base=2∨base=10∨base=16)∧s.length<1000000000∧(∀b∈s,0≤zbA b.toNat base)∧vs=[.s s,.i .i64 base]) (fun vs r=>∃(s:List UInt8)(base:Nat)(v:V),vs=[.s s,.i .i64 base]∧r=.val v∧ztc s base v) (by
  rintro vs ⟨s,base,hb,hl,hd,rfl⟩;have hb16:base≤16:=by rcases hb with rfl|rfl|rfl<;>omega
  have hb0:0<base:=by rcases hb with rfl|rfl|rfl<;>omega
  refine⟨by simp[nlL,nl],?_,?_⟩
  ·rintro r ⟨_,_,v,_,rfl,⟨o,_,_,_,rfl⟩|⟨_,rfl⟩⟩<;>rfl
  have hC:=ws (ws (ws n0 k1) k2) k3;generalize hc:((zad.none.with 57 g1).with 102 g2).with 103 g3=call at hC;have c1:∀b:UInt8,∀H,call 57 [.i .u8 b.toNat,.i .i64 base] H=.val (.i .i64 (zbA b.toNat base)) H:=fun b H=>by
   rw[←hc,zac _ _ _ _ rfl,zac _ _ _ _ rfl,zao];exact s1 _ _ (by omega) (zn3 b) (by rcases hb with rfl|rfl|rfl<;>simp) H
  have c2:∀(o:List UInt8)(m:Nat),zbR o→m≤16→o.length<1000→∃o',zbR o'∧zaX o'=zaX o*base+m∧∀H,call 102 [.s o,.i .i64 base,.i .i64 m] H=.val (.s o') H:=fun o m a b c=>by
   obtain⟨o',x,y,z⟩:=s2 o base m a hb16 b c;exact⟨o',x,y,fun H=>by rw[←hc,zac _ _ _ _ rfl,zao];exact z H⟩
  have c3:∀o:List UInt8,zbR o→∀H,call 103 [.s o,.s zfz] H=.val (.b (decide (zaX zfz<zaX o))) H:=fun o a H=>by
   rw[←hc,zao];exact s3 o zfz a zh2 H
  refine(zov hC s base hb0 hb16 hl (fun b hbs=>⟨hd b hbs,?_⟩) c1 c2 c3).mono ?_
  ·have:=hd b hbs;have h2:zbA b.toNat base<base:=by
    unfold zbA at this ⊢;split
    ·omega
    ·omega
   omega
  ·rintro r (⟨o,a1,a2,a3,rfl⟩|⟨a1,rfl⟩)
   ·exact⟨s,base,_,rfl,rfl,.inl ⟨o,a1,a2,a3,rfl⟩⟩
   ·exact⟨s,base,_,rfl,rfl,.inr ⟨a1,rfl⟩⟩)
 refine⟨g,hg,fun s base hb hl hd=>?_⟩;obtain⟨r,⟨s1,b1,v,e,rfl,h1⟩,h⟩:=hs _ ⟨s,base,hb,hl,hd,rfl⟩;simp only[List.cons.injEq,V.s.injEq,V.i.injEq,true_and,and_true]at e;obtain⟨rfl,e2⟩:=e;rw[show b1=base from by omega]at h1;exact⟨v,h1,h⟩
theorem zwE:∃g,zap prog TT 83 g∧∀(s:List UInt8)(i:Nat)(base:Int),base=2∨base=10∨base=16→s.length<1000000000→i≤s.length→∀H,g [.s s,.i .i64 i,.i .i64 base] H=.val (.tup [.i .i64 ((i+(zaC base (s.drop i) [] false).1:Nat):Int),.s (zaC base (s.drop i) [] false).2]) H:=by
 obtain⟨g1,k1,s1⟩:=zkD;obtain⟨g2,k2,s2⟩:=zkC;obtain⟨g,k,s⟩:=zbh zah zat 83 (fun p:List UInt8×Nat×Int=>[.s p.1,.i .i64 p.2.1,.i .i64 p.2.2]) (fun p=>(p.2.2=2∨p.2.2=10∨p.2.2=16)∧p.1.length<1000000000∧p.2.1≤p.1.length) (fun p=>.tup [.i .i64 ((p.2.1+(zaC p.2.2 (p.1.drop p.2.1) [] false).1:Nat):Int),.s (zaC p.2.2 (p.1.drop p.2.1) [] false).2]) (fun p _=>by simp[nlL,nl]) (fun _=>by simp[nl,nlL]) (fun a b h=>by
  simp only[List.cons.injEq,V.s.injEq,V.i.injEq,true_and,and_true]at h;rw[h.1,show a.2.1=b.2.1 from by omega,h.2.2]) (fun p hp=>by
  obtain⟨s,i,base⟩:=p;obtain⟨hb,hl,hi⟩:=hp;simp only at hb hl hi ⊢;obtain⟨pre,L,rfl,rfl⟩:∃pre L,s=pre++L∧i=pre.length:=⟨s.take i,s.drop i,by simp,by simp[Nat.min_eq_left hi]⟩;have hC:=ws (ws n0 k1) k2;rw[show(pre++L).drop pre.length=L from by simp];exact zaI.of1 (zou hC pre L base hl (fun b H=>by
   rw[zac _ _ _ _ rfl,zao];exact s1 _ _ (by omega) (zn3 b) hb H) (fun s i H=>by
   rw[zao];exact s2 s i H)))
 exact⟨g,k,fun a i b h0 h1 h2 H=>s (a,i,b) ⟨h0,h1,h2⟩ H⟩
theorem zr6 {call:zad}(hC:call.Sound prog TT){t:Tm}{H:zaa}{Q:Out→Prop}(hw:t.wid=136){c:Int}(h15:t.get 15=.i .u8 c)(hQ:∀t':Tm,t'.wid=136→t'.get 76=.b ((c==101)||(c==69))→(∀j,j<70→t'.get j=t.get j)→Q (.norm t' H)):Tri prog TT (sub [true,true,true,true,true,true,true,true,false,true,false,true,true,false] (zae f58)) t H Q:=by
 cases hB1:(c==101:Bool);case false=>
  apply rN hC
  ·iterate 3 refine oA ?_
   iterate 2 refine oB ?_
   refine oA ?_;rfl
  refine hQ _ (by simp[hw]) (by simp[*]) (fun j hj=>?_);have:¬j=71∧¬j=72∧¬j=73∧¬j=74∧¬j=75∧¬j=76:=by omega
  simp[this]
 case true=>
  apply rN hC
  ·iterate 3 refine oA ?_
   iterate 2 refine oC ?_
   refine oA ?_;rfl
  refine hQ _ (by simp[hw]) (by simp[*]) (fun j hj=>?_);have:¬j=71∧¬j=72∧¬j=73∧¬j=74∧¬j=75∧¬j=76:=by omega
  simp[this]
theorem zr7 {call:zad}(hC:call.Sound prog TT){t:Tm}{H:zaa}{Q:Out→Prop}(hw:t.wid=136){c:Int}(h18:t.get 18=.i .u8 c)(hQ:∀t':Tm,t'.wid=136→t'.get 87=.b ((c==43)||(c==45))→(∀j,j<80→t'.get j=t.get j)→Q (.norm t' H)):Tri prog TT (sub [true,true,true,true,true,true,true,true,false,true,false,true,true,true,false,true,true,false,true,false] (zae f58)) t H Q:=by
 cases hB1:(c==43:Bool);case false=>
  apply rN hC
  ·iterate 3 refine oA ?_
   iterate 2 refine oB ?_
   refine oA ?_;rfl
  refine hQ _ (by simp[hw]) (by simp[*]) (fun j hj=>?_);have:¬j=82∧¬j=83∧¬j=84∧¬j=85∧¬j=86∧¬j=87:=by omega
  simp[this]
 case true=>
  apply rN hC
  ·iterate 3 refine oA ?_
   iterate 2 refine oC ?_
   refine oA ?_;rfl
  refine hQ _ (by simp[hw]) (by simp[*]) (fun j hj=>?_);have:¬j=82∧¬j=83∧¬j=84∧¬j=85∧¬j=86∧¬j=87:=by omega
  simp[this]
theorem zr5 {call:zad}(hC:call.Sound prog TT){t:Tm}{H:zaa}{Q:Out→Prop}(hw:t.wid=136){s:List UInt8}{e:Nat}{a b d:Int}(h0:t.get 0=.s s)(h9:t.get 9=.i .i64 e)(hw1:IntKind.i64.wrap ((e:Int)+1)=(e:Int)+1)(ha:∀H,call 64 [.s s,.i .i64 e] H=.val (.i .u8 a) H)(hb:∀H,call 64 [.s s,.i .i64 ((e:Int)+1)] H=.val (.i .u8 b) H)(hd:∀H,call 57 [.i .u8 b,.i .i64 10] H=.val (.i .i64 d) H)(hQ:∀t':Tm,t'.wid=136→t'.get 55=.b ((a==46)&&decide (0≤d))→(∀j,j<40→t'.get j=t.get j)→Q (.norm t' H)):Tri prog TT (sub [true,true,true,true,true,true,true,true,false,true,false,false,false] (zae f58)) t H Q:=by
 have hF:=ai @h0 (ai @h9 (ai @hw1 (ai @ha (ai @hb @hd))));cases hB1:(a==46:Bool);case false=>
  apply rN hC
  ·iterate 5 refine oA ?_
   iterate 6 refine oC ?_
   refine oA ?_;rfl
  refine hQ _ (by simp[hw]) (by simp[*]) (fun j hj=>?_);have:¬j=44∧¬j=45∧¬j=46∧¬j=47∧¬j=48∧¬j=49∧¬j=50∧¬j=51∧¬j=52∧¬j=53∧¬j=54∧¬j=55:=by omega
  simp[this]
 case true=>
  apply rN hC
  ·iterate 5 refine oA ?_
   iterate 6 refine oB ?_
   refine oA ?_;rfl
  refine hQ _ (by simp[hw]) (by simp[*]) (fun j hj=>?_);have:¬j=44∧¬j=45∧¬j=46∧¬j=47∧¬j=48∧¬j=49∧¬j=50∧¬j=51∧¬j=52∧¬j=53∧¬j=54∧¬j=55:=by omega
  simp[this]
theorem zjd {call:zad}(hC:call.Sound prog TT){t:Tm}{H:zaa}{Q:Out→Prop}(hw:t.wid=136){s d:List UInt8}{e:Nat}{a:Int}{w:Bool}(h0:t.get 0=.s s)(h9:t.get 9=.i .i64 e)(h10:t.get 10=.s d)(ha:∀H,call 64 [.s s,.i .i64 e] H=.val (.i .u8 a) H)(hd:∀H,call 63 [.i .u8 a] H=.val (.b w) H)(hQ:∀t':Tm,t'.wid=136→t'.get 118=.b ((d==[])||w)→(∀j,j<110→t'.get j=t.get j)→Q (.norm t' H)):Tri prog TT (sub [true,true,true,true,true,true,true,true,true,false,false] (zae f58)) t H Q:=by
 have hF:=ai @h0 (ai @h9 (ai @h10 (ai @ha @hd)));cases hB1:(d==[]:Bool);case false=>
  apply rN hC
  ·iterate 3 refine oA ?_
   iterate 4 refine oB ?_
   refine oA ?_;rfl
  refine hQ _ (by simp[hw]) (by simp[*]) (fun j hj=>?_);have:¬j=111∧¬j=112∧¬j=113∧¬j=114∧¬j=115∧¬j=116∧¬j=117∧¬j=118:=by omega
  simp[this]
 case true=>
  apply rN hC
  ·iterate 3 refine oA ?_
   iterate 4 refine oC ?_
   refine oA ?_;rfl
  refine hQ _ (by simp[hw]) (by simp[*]) (fun j hj=>?_);have:¬j=111∧¬j=112∧¬j=113∧¬j=114∧¬j=115∧¬j=116∧¬j=117∧¬j=118:=by omega
  simp[this]
def zdF (s:List UInt8)(k:Nat):Nat×List UInt8:=if((atR s k==43)||(atR s k==45))=true then(k+1,(s.take (k+1)).drop k)else(k,[])
def ze4 (s:List UInt8) (e:Nat) (text:List UInt8) (k:Int):Option (Nat×List UInt8×Int):=if((atR s e==101)||(atR s e==69))=true then
    if(zaC 10 (s.drop (zdF s (e+1)).1) [] false).2=[]then none else some ((zdF s (e+1)).1+(zaC 10 (s.drop (zdF s (e+1)).1) [] false).1,text++101::((zdF s (e+1)).2++(zaC 10 (s.drop (zdF s (e+1)).1) [] false).2),4)
  else some (e,text,k)
theorem zfN {s:List UInt8}{i:Nat}(h:atR s i≠0):i<s.length:=by
 unfold atR at h;by_cases hi:i<s.length
 ·exact hi
 ·rw[List.getElem?_eq_none (by omega)]at h;exact absurd rfl h
theorem zcW (base:Int):∀(L out:List UInt8)(pd:Bool),(zaC base L out pd).2.length≤out.length+L.length
 | [],out,pd=>by simp[zaC]
 |b::L,out,pd=>by
  have h1:=zcW base L (out++[b]) true;have h2:=zcW base L out false;simp only[zaC,length_cons];simp only[length_append,length_cons,length_nil]at h1;split
  ·simp only;omega
  ·split<;>simp only<;>omega
theorem zyU (a b c:List UInt8)(h:a.length+b.length+c.length<2500000000)(hb:b.length≤5):zce .add a [101]=some (.s (a++[101]))∧zce .add (a++[101]) b=some (.s (a++101::b))∧zce .add (a++101::b) c=some (.s (a++101::(b++c))):=by
 refine⟨zfI _ _ (by simp;omega),?_,?_⟩
 ·rw[zfI _ _ (by simp;omega)];simp
 ·rw[zfI _ _ (by simp;omega)];simp
theorem zvP {call:zad}(hC:call.Sound prog TT){t:Tm}{Q:Out→Prop}(hw:t.wid=136){s d text sg more:List UInt8}{p n:Nat}{base k:Int}(h0:t.get 0=.s s)(h4:t.get 4=.ptr 0 0)(h7:t.get 7=.i .i64 base)(h10:t.get 10=.s d)(h11:t.get 11=.s text)(h12:t.get 12=.i .i64 k)(h16:t.get 16=.i .i64 p)(h17:t.get 17=.s sg)
 (hdg:∀H,call 83 [.s s,.i .i64 p,.i .i64 10] H=.val (.tup [.i .i64 n,.s more]) H)(hm:more=[])(hR:∀t':Tm,t'.get 4=.ptr 0 0→t'.get 5=.i .i64 0→t'.get 6=.i .i64 33→Q (.ret t' [some ⟨44,[.i .i64 0,.s [],.i .i64 0,.b false],.all⟩])):Tri prog TT (sub [true,true,true,true,true,true,true,true,false,true,false,true,true,true,false,true,true,true] (zae f58)) t [some ⟨44,[.i .i64 0,.s [],.i .i64 0,.b false],.all⟩] Q:=by
 have hF:=ai @h0 (ai @h4 (ai @h7 (ai @h10 (ai @h11 (ai @h12 (ai @h16 (ai @h17 (ai @hdg @hm))))))));apply rS hC
 ·iterate 8 refine oA ?_
  rfl
 apply sQ;apply rS hC
 ·iterate 2 refine oA ?_
  rfl
 refine cT (by simp[hF]<;>rfl) ?_;apply rS hC
 ·iterate 4 refine oA ?_
  rfl
 apply Tri.ret;apply sR;exact hR _ (by simp[h4]) (by simp) (by simp)
theorem zvQ {call:zad}(hC:call.Sound prog TT){t:Tm}{Q:Out→Prop}(hw:t.wid=136){s d text sg more:List UInt8}{p n:Nat}{base k:Int}(h0:t.get 0=.s s)(h4:t.get 4=.ptr 0 0)(h7:t.get 7=.i .i64 base)(h10:t.get 10=.s d)(h11:t.get 11=.s text)(h12:t.get 12=.i .i64 k)(h16:t.get 16=.i .i64 p)(h17:t.get 17=.s sg)
 (hdg:∀H,call 83 [.s s,.i .i64 p,.i .i64 10] H=.val (.tup [.i .i64 n,.s more]) H)(hm:(more==[])=false)(hm2:¬more=[])(hm3:more.isEmpty=false)(ht:text.length+sg.length+more.length<2500000000)(hsg:sg.length≤5)(hN:∀t':Tm,t'.wid=136→t'.get 0=.s s→t'.get 4=.ptr 0 0→t'.get 7=.i .i64 base→t'.get 10=.s d→t'.get 9=.i .i64 n→t'.get 11=.s (text++101::(sg++more))→t'.get 12=.i .i64 4→Q (.norm t' [some ⟨44,[.i .i64 0,.s [],.i .i64 0,.b false],.all⟩])):Tri prog TT (sub [true,true,true,true,true,true,true,true,false,true,false,true,true,true,false,true,true,true] (zae f58)) t [some ⟨44,[.i .i64 0,.s [],.i .i64 0,.b false],.all⟩] Q:=by
 have hF:=ai @h0 (ai @h4 (ai @h7 (ai @h10 (ai @h11 (ai @h12 (ai @h16 (ai @h17 (ai @hdg (ai @hm (ai @hm2 @hm3))))))))));apply rS hC
 ·iterate 8 refine oA ?_
  rfl
 apply sQ;apply rS hC
 ·iterate 2 refine oA ?_
  rfl
 refine cF (by simp[hF]<;>rfl) ?_;apply Tri.skip;apply sN;apply rS hC
 ·iterate 7 refine gO (by simp[hF,zyU text sg more ht hsg,-zce]<;>rfl) ?_
  rfl
 apply rS hC
 ·iterate 2 refine oA ?_
  rfl
 apply rN hC
 ·refine oA ?_;rfl
 exact hN _ (by simp[hw]) (by simp[h0]) (by simp[h4]) (by simp[h7]) (by simp[h10]) (by simp) (by simp) (by simp)
theorem zvO {call:zad}(hC:call.Sound prog TT){t:Tm}{Q:Out→Prop}(hw:t.wid=136){s d text sg more:List UInt8}{p n:Nat}{base k:Int}(h0:t.get 0=.s s)(h4:t.get 4=.ptr 0 0)(h7:t.get 7=.i .i64 base)(h10:t.get 10=.s d)(h11:t.get 11=.s text)(h12:t.get 12=.i .i64 k)(h16:t.get 16=.i .i64 p)(h17:t.get 17=.s sg)
 (hdg:∀H,call 83 [.s s,.i .i64 p,.i .i64 10] H=.val (.tup [.i .i64 n,.s more]) H)(ht:text.length+sg.length+more.length<2500000000)(hsg:sg.length≤5)
 (hN:more≠[]→∀t':Tm,t'.wid=136→t'.get 0=.s s→t'.get 4=.ptr 0 0→t'.get 7=.i .i64 base→t'.get 10=.s d→t'.get 9=.i .i64 n→t'.get 11=.s (text++101::(sg++more))→t'.get 12=.i .i64 4→Q (.norm t' [some ⟨44,[.i .i64 0,.s [],.i .i64 0,.b false],.all⟩]))
 (hR:more=[]→∀t':Tm,t'.get 4=.ptr 0 0→t'.get 5=.i .i64 0→t'.get 6=.i .i64 33→Q (.ret t' [some ⟨44,[.i .i64 0,.s [],.i .i64 0,.b false],.all⟩])):Tri prog TT (sub [true,true,true,true,true,true,true,true,false,true,false,true,true,true,false,true,true,true] (zae f58)) t [some ⟨44,[.i .i64 0,.s [],.i .i64 0,.b false],.all⟩] Q:=by
 cases more with
 |nil=>exact zvP hC hw h0 h4 h7 h10 h11 h12 h16 h17 hdg rfl (hR rfl)
 |cons b l=>exact zvQ hC hw h0 h4 h7 h10 h11 h12 h16 h17 hdg rfl (by simp) rfl ht hsg (hN (by simp))
theorem zvN {call:zad}(hC:call.Sound prog TT){t:Tm}{Q:Out→Prop}(hw:t.wid=136){s d text:List UInt8}{e:Nat}{base k:Int}(h0:t.get 0=.s s)(h4:t.get 4=.ptr 0 0)(h7:t.get 7=.i .i64 base)(h9:t.get 9=.i .i64 e)(h10:t.get 10=.s d)(h11:t.get 11=.s text)(h12:t.get 12=.i .i64 k)(hsl:s.length<1000000000)(htl:text.length<1200000000)
 (ha:∀(i:Nat) H,call 64 [.s s,.i .i64 i] H=.val (.i .u8 (atR s i)) H)(hdg:∀i:Nat,i≤s.length→∀H,call 83 [.s s,.i .i64 i,.i .i64 10] H=.val (.tup [.i .i64 ((i+(zaC 10 (s.drop i) [] false).1:Nat):Int),.s (zaC 10 (s.drop i) [] false).2]) H)(hel:e≤s.length)
 (hN:∀t':Tm,t'.wid=136→t'.get 0=.s s→t'.get 4=.ptr 0 0→t'.get 7=.i .i64 base→t'.get 10=.s d→∀(e':Nat)(text':List UInt8)(k':Int),ze4 s e text k=some (e',text',k')→t'.get 9=.i .i64 e'→t'.get 11=.s text'→t'.get 12=.i .i64 k'→Q (.norm t' [some ⟨44,[.i .i64 0,.s [],.i .i64 0,.b false],.all⟩]))
 (hR:ze4 s e text k=none→∀t':Tm,t'.get 4=.ptr 0 0→t'.get 5=.i .i64 0→t'.get 6=.i .i64 33→Q (.ret t' [some ⟨44,[.i .i64 0,.s [],.i .i64 0,.b false],.all⟩])):Tri prog TT (sub [true,true,true,true,true,true,true,true,false,true,false,true] (zae f58)) t [some ⟨44,[.i .i64 0,.s [],.i .i64 0,.b false],.all⟩] Q:=by
 have ha0:=ha e;have hwe:IntKind.i64.wrap ((e:Int)+1)=(e:Int)+1:=zak (by omega) (by omega);have hwe2:IntKind.i64.wrap ((e:Int)+1+1)=(e:Int)+1+1:=zak (by omega) (by omega);have hF:=ai @h0 (ai @h4 (ai @h7 (ai @h9 (ai @h10 (ai @h11 (ai @h12 (ai @ha0 @hwe)))))));apply rS hC
 ·iterate 4 refine oA ?_
  rfl
 apply sQ;refine zr6 hC (by simp[hw]) (c:=atR s e) (by simp[hF]) ?_;clear hw;intro t2 hw h76 hk;have j0:t2.get 0=.s s:=(hk 0 (by omega)).trans (by simp[hF]);have j4:t2.get 4=.ptr 0 0:=(hk 4 (by omega)).trans (by simp[hF]);have j7:t2.get 7=.i .i64 base:=(hk 7 (by omega)).trans (by simp[hF]);have j9:t2.get 9=.i .i64 e:=(hk 9 (by omega)).trans (by simp[hF]);have j10:t2.get 10=.s d:=(hk 10 (by omega)).trans (by simp[hF]);have j11:t2.get 11=.s text:=(hk 11 (by omega)).trans (by simp[hF]);have j12:t2.get 12=.i .i64 k:=(hk 12 (by omega)).trans (by simp[hF]);clear hk;apply sN;refine Tri.condG (o:=?o3) (b:=?b3) ?g3 ?r3 ?y3 ?n3;case g3=>simp[hF,j0,j4,j7,j9,j10,j11,j12,h76]<;>rfl
 case r3=>rfl
 case y3=>
  intro hy3;have hin:e<s.length:=zfN (by intro h;rw[h]at hy3;simp at hy3);have ha1:=fun H=>ha (e+1) H;simp only[Int.natCast_add,Int.cast_ofNat_Int]at ha1;apply rS hC
  ·iterate 3 refine oA ?_
   rfl
  apply rS hC
  ·refine oA ?_;rfl
  apply sQ;apply rS hC
  ·iterate 4 refine oA ?_
   rfl
  apply sQ;refine zr7 hC (by simp[hw]) (c:=atR s (e+1)) (by simp[hF]) ?_;clear hw;intro t3 hw h87 hk;have m0:t3.get 0=.s s:=(hk 0 (by omega)).trans (by simp[j0,j4,j7,j9,j10,j11,j12]);have m4:t3.get 4=.ptr 0 0:=(hk 4 (by omega)).trans (by simp[j0,j4,j7,j9,j10,j11,j12]);have m7:t3.get 7=.i .i64 base:=(hk 7 (by omega)).trans (by simp[j0,j4,j7,j9,j10,j11,j12]);have m9:t3.get 9=.i .i64 e:=(hk 9 (by omega)).trans (by simp[j0,j4,j7,j9,j10,j11,j12]);have m10:t3.get 10=.s d:=(hk 10 (by omega)).trans (by simp[j0,j4,j7,j9,j10,j11,j12]);have m11:t3.get 11=.s text:=(hk 11 (by omega)).trans (by simp[j0,j4,j7,j9,j10,j11,j12]);have m12:t3.get 12=.i .i64 k:=(hk 12 (by omega)).trans (by simp[j0,j4,j7,j9,j10,j11,j12]);have m16:t3.get 16=.i .i64 ((e:Int)+1):=(hk 16 (by omega)).trans (by simp[j0,j4,j7,j9,j10,j11,j12]);have m17:t3.get 17=.s []:=(hk 17 (by omega)).trans (by simp[j0,j4,j7,j9,j10,j11,j12]);clear hk;apply sN;refine Tri.condG (o:=?o8) (b:=?b8) ?g8 ?r8 ?y8 ?n8;case g8=>simp[hF,j0,j4,j7,j9,j10,j11,j12,h76,m0,m4,m7,m9,m10,m11,m12,m16,m17,h87]<;>rfl
  case r8=>rfl
  case y8=>
   intro hy8;have hin2:e+1<s.length:=zfN (by intro h;rw[h]at hy8;simp at hy8);have hsgn:zdF s (e+1)=(e+1+1,(s.take (e+1+1)).drop (e+1)):=by
    simp only[zdF];rw[if_pos hy8]
   have b1:(0:Int)≤(e:Int)+1+1:=by omega
   have b2:(e:Int)+1+1≤s.length:=by omega
   have b3:(e:Int)+1≤(e:Int)+1+1:=by omega
   have b4:((e:Int)+1+1).toNat=e+1+1:=by omega
   have b5:((e:Int)+1).toNat=e+1:=by omega
   have b6:(0:Int)≤(e:Int)+1:=by omega
   apply rS hC
   ·iterate 6 refine oA ?_
    rfl
   apply rN hC
   ·iterate 3 refine oA ?_
    rfl
   apply sN;refine zvO hC (by simp[hw]) (by simp[m0]) (by simp[m4]) (by simp[m7]) (by simp[m10]) (by simp[m11]) (by simp[m12]) (s:=s) (d:=d) (text:=text) (base:=base) (k:=k) (p:=e+1+1) (sg:=((s.take (e+1+1)).drop (e+1))) (by simp[m16,hF]) (by simp[m17,hF]) (fun H=>hdg _ (by omega) H) (by have:=zcW 10 (s.drop (e+1+1)) [] false;simp at this ⊢;omega) (by simp<;>omega) ?cn26_11 ?cr26_11;case cn26_11=>
    intro hmore t4 hw q0 q4 q7 q10 q9 q11 q12;have hexp:ze4 s e text k=some (e+1+1+(zaC 10 (s.drop (e+1+1)) [] false).1,text++101::(((s.take (e+1+1)).drop (e+1))++(zaC 10 (s.drop (e+1+1)) [] false).2),4):=by
     simp only[ze4,hsgn];rw[if_pos hy3,if_neg hmore]
    first
     |exact hN _ (by simp[hw]) (by simp[j0]) (by simp[j4]) (by simp[j7]) (by simp[j10]) e text k (by simp only[ze4];rw[if_neg (by simp[hn3])]) (by simp[j9]) (by simp[j11]) (by simp[j12])
     |exact hN _ hw q0 q4 q7 q10 _ _ _ hexp q9 q11 q12
   case cr26_11=>
    intro hmore t4 q4 q5 q6;have hexp:ze4 s e text k=none:=by
     simp only[ze4,hsgn];rw[if_pos hy3,if_pos hmore]
    exact hR hexp _ q4 q5 q6
  case n8=>
   intro hn8;have hsgn:zdF s (e+1)=(e+1,[]):=by
    simp only[zdF];rw[if_neg (by rw[hn8];simp)]
   apply Tri.skip;apply sN;refine zvO hC (by simp[hw]) (by simp[m0]) (by simp[m4]) (by simp[m7]) (by simp[m10]) (by simp[m11]) (by simp[m12]) (s:=s) (d:=d) (text:=text) (base:=base) (k:=k) (p:=e+1) (sg:=[]) (by simp[m16,hF]) (by simp[m17,hF]) (fun H=>hdg _ (by omega) H) (by have:=zcW 10 (s.drop (e+1)) [] false;simp at this ⊢;omega) (by simp<;>omega) ?cn26_12 ?cr26_12;case cn26_12=>
    intro hmore t4 hw q0 q4 q7 q10 q9 q11 q12;have hexp:ze4 s e text k=some (e+1+(zaC 10 (s.drop (e+1)) [] false).1,text++101::([]++(zaC 10 (s.drop (e+1)) [] false).2),4):=by
     simp only[ze4,hsgn];rw[if_pos hy3,if_neg hmore]
    first
     |exact hN _ (by simp[hw]) (by simp[j0]) (by simp[j4]) (by simp[j7]) (by simp[j10]) e text k (by simp only[ze4];rw[if_neg (by simp[hn3])]) (by simp[j9]) (by simp[j11]) (by simp[j12])
     |exact hN _ hw q0 q4 q7 q10 _ _ _ hexp q9 q11 q12
   case cr26_12=>
    intro hmore t4 q4 q5 q6;have hexp:ze4 s e text k=none:=by
     simp only[ze4,hsgn];rw[if_pos hy3,if_pos hmore]
    exact hR hexp _ q4 q5 q6
 case n3=>
  intro hn3;apply Tri.skip;first
   |exact hN _ (by simp[hw]) (by simp[j0]) (by simp[j4]) (by simp[j7]) (by simp[j10]) e text k (by simp only[ze4];rw[if_neg (by simp[hn3])]) (by simp[j9]) (by simp[j11]) (by simp[j12])
   |exact hN _ hw q0 q4 q7 q10 _ _ _ hexp q9 q11 q12
def zdu (s:List UInt8)(e:Nat)(d:List UInt8):Nat×List UInt8×Int:=if((atR s e==46)&&decide (0≤zbA (atR s (e+1)) 10))=true then(e+1+(zaC 10 (s.drop (e+1)) [] false).1,d++46::(zaC 10 (s.drop (e+1)) [] false).2,4)else(e,d,3)
def zcF (s:List UInt8)(e:Nat)(d:List UInt8):Option (Nat×List UInt8×Int):=ze4 s (zdu s e d).1 (zdu s e d).2.1 (zdu s e d).2.2
theorem zyT (a c:List UInt8)(h:a.length+c.length<2500000000):zce .add a [46]=some (.s (a++[46]))∧zce .add (a++[46]) c=some (.s (a++46::c)):=by
 refine⟨zfI _ _ (by simp;omega),?_⟩;rw[zfI _ _ (by simp;omega)];simp
theorem zvW {call:zad}(hC:call.Sound prog TT){t:Tm}{Q:Out→Prop}(hw:t.wid=136){s d:List UInt8}{e:Nat}{base:Int}(h0:t.get 0=.s s)(h4:t.get 4=.ptr 0 0)(h7:t.get 7=.i .i64 base)(h9:t.get 9=.i .i64 e)(h10:t.get 10=.s d)(h11:t.get 11=.s d)(h12:t.get 12=.i .i64 3)(hsl:s.length<1000000000)(hdl:d.length<100000000+s.length)(hsl2:s.length<100000000)
 (ha:∀(i:Nat) H,call 64 [.s s,.i .i64 i] H=.val (.i .u8 (atR s i)) H)(hdg:∀i:Nat,i≤s.length→∀H,call 83 [.s s,.i .i64 i,.i .i64 10] H=.val (.tup [.i .i64 ((i+(zaC 10 (s.drop i) [] false).1:Nat):Int),.s (zaC 10 (s.drop i) [] false).2]) H)(hel:e≤s.length)
 (hd1:∀H,call 57 [.i .u8 (atR s (e+1)),.i .i64 10] H=.val (.i .i64 (zbA (atR s (e+1)) 10)) H)
 (hN:∀t':Tm,t'.wid=136→t'.get 0=.s s→t'.get 4=.ptr 0 0→t'.get 7=.i .i64 base→t'.get 10=.s d→∀(e':Nat)(text':List UInt8)(k':Int),zcF s e d=some (e',text',k')→t'.get 9=.i .i64 e'→t'.get 11=.s text'→t'.get 12=.i .i64 k'→Q (.norm t' [some ⟨44,[.i .i64 0,.s [],.i .i64 0,.b false],.all⟩]))
 (hR:zcF s e d=none→∀t':Tm,t'.get 4=.ptr 0 0→t'.get 5=.i .i64 0→t'.get 6=.i .i64 33→Q (.ret t' [some ⟨44,[.i .i64 0,.s [],.i .i64 0,.b false],.all⟩])):Tri prog TT (sub [true,true,true,true,true,true,true,true,false,true,false] (zae f58)) t [some ⟨44,[.i .i64 0,.s [],.i .i64 0,.b false],.all⟩] Q:=by
 have ha0:=ha e;have ha1:=fun H=>ha (e+1) H;simp only[Int.natCast_add,Int.cast_ofNat_Int]at ha1;have hwe:IntKind.i64.wrap ((e:Int)+1)=(e:Int)+1:=zak (by omega) (by omega);have hF:=ai @h0 (ai @h4 (ai @h7 (ai @h9 (ai @h10 (ai @h11 @h12)))));iterate 2 apply sQ
 refine zr5 hC (by simp[hw]) (s:=s) (e:=e) (a:=atR s e) (b:=atR s (e+1)) (d:=zbA (atR s (e+1)) 10) (by simp[hF]) (by simp[hF]) hwe ha0 ha1 hd1 ?_;clear hw;intro t2 hw h55 hk;have j0:t2.get 0=.s s:=(hk 0 (by omega)).trans (by simp[hF]);have j4:t2.get 4=.ptr 0 0:=(hk 4 (by omega)).trans (by simp[hF]);have j7:t2.get 7=.i .i64 base:=(hk 7 (by omega)).trans (by simp[hF]);have j9:t2.get 9=.i .i64 e:=(hk 9 (by omega)).trans (by simp[hF]);have j10:t2.get 10=.s d:=(hk 10 (by omega)).trans (by simp[hF]);have j11:t2.get 11=.s d:=(hk 11 (by omega)).trans (by simp[hF]);have j12:t2.get 12=.i .i64 3:=(hk 12 (by omega)).trans (by simp[hF]);clear hk;apply sN;refine Tri.condG (o:=?o2) (b:=?b2) ?g2 ?r2 ?y2 ?n2;case g2=>simp[hF,j0,j4,j7,j9,j10,j11,j12,h55]<;>rfl
 case r2=>rfl
 case y2=>
  intro hy2;have hin:e<s.length:=zfN (by intro h;rw[h]at hy2;simp at hy2);have hdg1:=fun H=>hdg (e+1) (by omega) H;simp only[Int.natCast_add,Int.cast_ofNat_Int]at hdg1;have hcl:d.length+(zaC 10 (s.drop (e+1)) [] false).2.length<2500000000:=by
   have:=zcW 10 (s.drop (e+1)) [] false;simp at this;omega
  have hfr:zdu s e d=(e+1+(zaC 10 (s.drop (e+1)) [] false).1,d++46::(zaC 10 (s.drop (e+1)) [] false).2,4):=by
   simp only[zdu];rw[if_pos hy2]
  apply rS hC
  ·iterate 9 refine oA ?_
   rfl
  apply rS hC
  ·iterate 5 refine gO (by simp[hF,j0,j4,j7,j9,j10,j11,j12,h55,zyT d (zaC 10 (s.drop (e+1)) [] false).2 hcl,-zce]<;>rfl) ?_
   rfl
  apply rS hC
  ·iterate 2 refine oA ?_
   rfl
  apply rN hC
  ·refine oA ?_;rfl
  apply sN;refine zvN hC (by simp[hw]) (s:=s) (d:=d) (text:=d++46::(zaC 10 (s.drop (e+1)) [] false).2) (e:=e+1+(zaC 10 (s.drop (e+1)) [] false).1) (base:=base) (k:=4) (by simp[j0]) (by simp[j4]) (by simp[j7]) (by simp) (by simp[j10]) (by simp[j11]) (by simp[j12]) hsl (by have:=zcW 10 (s.drop (e+1)) [] false;simp at this ⊢;omega) ha hdg (by have:=zdn 10 (s.drop (e+1)) [] false;simp at this;omega) ?cn18_7 ?cr18_7;case cn18_7=>
   intro t4 hw q0 q4 q7 q10 e' text' k' hexp q9 q11 q12;exact hN _ hw q0 q4 q7 q10 e' text' k' (by rw[zcF,hfr];exact hexp) q9 q11 q12
  case cr18_7=>
   intro hexp t4 q4 q5 q6;exact hR (by rw[zcF,hfr];exact hexp) _ q4 q5 q6
 case n2=>
  intro hn2;have hfr:zdu s e d=(e,d,3):=by
   simp only[zdu];rw[if_neg (by rw[hn2];simp)]
  apply Tri.skip;apply sN;refine zvN hC (by simp[hw]) (s:=s) (d:=d) (text:=d) (e:=e) (base:=base) (k:=3) (by simp[j0]) (by simp[j4]) (by simp[j7]) (by simp[j9]) (by simp[j10]) (by simp[j11]) (by simp[j12]) hsl (by omega) ha hdg hel ?cn18_8 ?cr18_8;case cn18_8=>
   intro t4 hw q0 q4 q7 q10 e' text' k' hexp q9 q11 q12;exact hN _ hw q0 q4 q7 q10 e' text' k' (by rw[zcF,hfr];exact hexp) q9 q11 q12
  case cr18_8=>
   intro hexp t4 q4 q5 q6;exact hR (by rw[zcF,hfr];exact hexp) _ q4 q5 q6
theorem zuS {call:zad}(hC:call.Sound prog TT){t:Tm}{Q:Out→Prop}(hw:t.wid=136){s d text:List UInt8}{e:Nat}{base k a:Int}{w:Bool}(h0:t.get 0=.s s)(h4:t.get 4=.ptr 0 0)(h7:t.get 7=.i .i64 base)(h9:t.get 9=.i .i64 e)(h10:t.get 10=.s d)(h11:t.get 11=.s text)(h12:t.get 12=.i .i64 4)
 (ha:∀H,call 64 [.s s,.i .i64 e] H=.val (.i .u8 a) H)(hwd:∀H,call 63 [.i .u8 a] H=.val (.b w) H)(hO:((d==[])||w)=false→∀t':Tm,t'.get 4=.ptr 0 0→t'.get 5=.i .i64 e→t'.get 6=.i .i64 0→Q (.ret t' [some ⟨44,[.i .i64 4,.s text,.i .i64 0,.b false],.all⟩]))
 (hE:((d==[])||w)=true→∀t':Tm,t'.get 4=.ptr 0 0→t'.get 5=.i .i64 0→t'.get 6=.i .i64 33→Q (.ret t' [some ⟨44,[.i .i64 0,.s [],.i .i64 0,.b false],.all⟩])):Tri prog TT (sub [true,true,true,true,true,true,true,true,true] (zae f58)) t [some ⟨44,[.i .i64 0,.s [],.i .i64 0,.b false],.all⟩] Q:=by
 have hF:=ai @h0 (ai @h4 (ai @h7 (ai @h9 (ai @h10 (ai @h11 @h12)))));iterate 2 apply sQ
 refine zjd hC (by simp[hw]) (s:=s) (d:=d) (e:=e) (a:=a) (w:=w) (by simp[hF]) (by simp[hF]) (by simp[hF]) ha hwd ?_;clear hw;intro t2 hw h118 hk;have j0:t2.get 0=.s s:=(hk 0 (by omega)).trans (by simp[hF]);have j4:t2.get 4=.ptr 0 0:=(hk 4 (by omega)).trans (by simp[hF]);have j7:t2.get 7=.i .i64 base:=(hk 7 (by omega)).trans (by simp[hF]);have j9:t2.get 9=.i .i64 e:=(hk 9 (by omega)).trans (by simp[hF]);have j10:t2.get 10=.s d:=(hk 10 (by omega)).trans (by simp[hF]);have j11:t2.get 11=.s text:=(hk 11 (by omega)).trans (by simp[hF]);have j12:t2.get 12=.i .i64 4:=(hk 12 (by omega)).trans (by simp[hF]);clear hk;apply sN;refine Tri.condG (o:=?o2) (b:=?b2) ?g2 ?r2 ?y2 ?n2;case g2=>simp[hF,j0,j4,j7,j9,j10,j11,j12,h118]<;>rfl
 case r2=>rfl
 case y2=>
  intro hy2;apply rS hC
  ·iterate 4 refine oA ?_
   rfl
  apply Tri.ret;apply sR;exact hE (by simpa using hy2) _ (by simp[j4]) (by simp) (by simp)
 case n2=>
  intro hn2;apply Tri.skip;apply sN;apply sQ;apply rS hC
  ·iterate 2 refine oA ?_
   rfl
  refine cF (by simp[hF,j0,j4,j7,j9,j10,j11,j12,h118]<;>rfl) ?_;apply Tri.skip;apply sN;apply rS hC
  ·iterate 7 refine oA ?_
   rfl
  apply Tri.ret;exact hO (by simpa using hn2) _ (by simp[j4]) (by simp) (by simp)
theorem zuT {call:zad}(hC:call.Sound prog TT){t:Tm}{Q:Out→Prop}(hw:t.wid=136){s d text:List UInt8}{e:Nat}{base k a:Int}{w:Bool}(h0:t.get 0=.s s)(h4:t.get 4=.ptr 0 0)(h7:t.get 7=.i .i64 base)(h9:t.get 9=.i .i64 e)(h10:t.get 10=.s d)(h11:t.get 11=.s text)(h12:t.get 12=.i .i64 3)
 (ha:∀H,call 64 [.s s,.i .i64 e] H=.val (.i .u8 a) H)(hwd:∀H,call 63 [.i .u8 a] H=.val (.b w) H){o:List UInt8}(hdec:∀H,call 84 [.s d,.i .i64 base] H=.val (.tup [.s o,.b true]) H)(hO:((d==[])||w)=false→∀t':Tm,t'.get 4=.ptr 0 0→t'.get 5=.i .i64 e→t'.get 6=.i .i64 0→Q (.ret t' [some ⟨44,[.i .i64 3,.s o,.i .i64 0,.b false],.all⟩]))
 (hE:((d==[])||w)=true→∀t':Tm,t'.get 4=.ptr 0 0→t'.get 5=.i .i64 0→t'.get 6=.i .i64 33→Q (.ret t' [some ⟨44,[.i .i64 0,.s [],.i .i64 0,.b false],.all⟩])):Tri prog TT (sub [true,true,true,true,true,true,true,true,true] (zae f58)) t [some ⟨44,[.i .i64 0,.s [],.i .i64 0,.b false],.all⟩] Q:=by
 have hF:=ai @h0 (ai @h4 (ai @h7 (ai @h9 (ai @h10 (ai @h11 @h12)))));iterate 2 apply sQ
 refine zjd hC (by simp[hw]) (s:=s) (d:=d) (e:=e) (a:=a) (w:=w) (by simp[hF]) (by simp[hF]) (by simp[hF]) ha hwd ?_;clear hw;intro t2 hw h118 hk;have j0:t2.get 0=.s s:=(hk 0 (by omega)).trans (by simp[hF]);have j4:t2.get 4=.ptr 0 0:=(hk 4 (by omega)).trans (by simp[hF]);have j7:t2.get 7=.i .i64 base:=(hk 7 (by omega)).trans (by simp[hF]);have j9:t2.get 9=.i .i64 e:=(hk 9 (by omega)).trans (by simp[hF]);have j10:t2.get 10=.s d:=(hk 10 (by omega)).trans (by simp[hF]);have j11:t2.get 11=.s text:=(hk 11 (by omega)).trans (by simp[hF]);have j12:t2.get 12=.i .i64 3:=(hk 12 (by omega)).trans (by simp[hF]);clear hk;apply sN;refine Tri.condG (o:=?o2) (b:=?b2) ?g2 ?r2 ?y2 ?n2;case g2=>simp[hF,j0,j4,j7,j9,j10,j11,j12,h118,hdec]<;>rfl
 case r2=>rfl
 case y2=>
  intro hy2;apply rS hC
  ·iterate 4 refine oA ?_
   rfl
  apply Tri.ret;apply sR;exact hE (by simpa using hy2) _ (by simp[j4]) (by simp) (by simp)
 case n2=>
  intro hn2;apply Tri.skip;apply sN;apply sQ;apply rS hC
  ·iterate 2 refine oA ?_
   rfl
  refine cT (by simp[hF,j0,j4,j7,j9,j10,j11,j12,h118,hdec]<;>rfl) ?_;apply rS hC
  ·iterate 8 refine oA ?_
   rfl
  apply sQ;apply rS hC
  ·iterate 2 refine oA ?_
   rfl
  refine cF (by simp[hF,j0,j4,j7,j9,j10,j11,j12,h118,hdec]<;>rfl) ?_;apply Tri.skip;apply sN;apply rN hC
  ·iterate 2 refine oA ?_
   rfl
  apply sN;apply rS hC
  ·iterate 7 refine oA ?_
   rfl
  apply Tri.ret;exact hO (by simpa using hn2) _ (by simp[j4]) (by simp) (by simp)
theorem zuU {call:zad}(hC:call.Sound prog TT){t:Tm}{Q:Out→Prop}(hw:t.wid=136){s d text:List UInt8}{e:Nat}{base k a:Int}{w:Bool}(h0:t.get 0=.s s)(h4:t.get 4=.ptr 0 0)(h7:t.get 7=.i .i64 base)(h9:t.get 9=.i .i64 e)(h10:t.get 10=.s d)(h11:t.get 11=.s text)(h12:t.get 12=.i .i64 3)
 (ha:∀H,call 64 [.s s,.i .i64 e] H=.val (.i .u8 a) H)(hwd:∀H,call 63 [.i .u8 a] H=.val (.b w) H)(hdec:∀H,call 84 [.s d,.i .i64 base] H=.val (.tup [.s [],.b false]) H)(hO:((d==[])||w)=false→∀t':Tm,t'.get 4=.ptr 0 0→t'.get 5=.i .i64 0→t'.get 6=.i .i64 33→Q (.ret t' [some ⟨44,[.i .i64 0,.s [],.i .i64 0,.b false],.all⟩]))
 (hE:((d==[])||w)=true→∀t':Tm,t'.get 4=.ptr 0 0→t'.get 5=.i .i64 0→t'.get 6=.i .i64 33→Q (.ret t' [some ⟨44,[.i .i64 0,.s [],.i .i64 0,.b false],.all⟩])):Tri prog TT (sub [true,true,true,true,true,true,true,true,true] (zae f58)) t [some ⟨44,[.i .i64 0,.s [],.i .i64 0,.b false],.all⟩] Q:=by
 have hF:=ai @h0 (ai @h4 (ai @h7 (ai @h9 (ai @h10 (ai @h11 @h12)))));iterate 2 apply sQ
 refine zjd hC (by simp[hw]) (s:=s) (d:=d) (e:=e) (a:=a) (w:=w) (by simp[hF]) (by simp[hF]) (by simp[hF]) ha hwd ?_;clear hw;intro t2 hw h118 hk;have j0:t2.get 0=.s s:=(hk 0 (by omega)).trans (by simp[hF]);have j4:t2.get 4=.ptr 0 0:=(hk 4 (by omega)).trans (by simp[hF]);have j7:t2.get 7=.i .i64 base:=(hk 7 (by omega)).trans (by simp[hF]);have j9:t2.get 9=.i .i64 e:=(hk 9 (by omega)).trans (by simp[hF]);have j10:t2.get 10=.s d:=(hk 10 (by omega)).trans (by simp[hF]);have j11:t2.get 11=.s text:=(hk 11 (by omega)).trans (by simp[hF]);have j12:t2.get 12=.i .i64 3:=(hk 12 (by omega)).trans (by simp[hF]);clear hk;apply sN;refine Tri.condG (o:=?o2) (b:=?b2) ?g2 ?r2 ?y2 ?n2;case g2=>simp[hF,j0,j4,j7,j9,j10,j11,j12,h118,hdec]<;>rfl
 case r2=>rfl
 case y2=>
  intro hy2;apply rS hC
  ·iterate 4 refine oA ?_
   rfl
  apply Tri.ret;apply sR;exact hE (by simpa using hy2) _ (by simp[j4]) (by simp) (by simp)
 case n2=>
  intro hn2;apply Tri.skip;apply sN;apply sQ;apply rS hC
  ·iterate 2 refine oA ?_
   rfl
  refine cT (by simp[hF,j0,j4,j7,j9,j10,j11,j12,h118,hdec]<;>rfl) ?_;apply rS hC
  ·iterate 8 refine oA ?_
   rfl
  apply sQ;apply rS hC
  ·iterate 2 refine oA ?_
   rfl
  refine cT (by simp[hF,j0,j4,j7,j9,j10,j11,j12,h118,hdec]<;>rfl) ?_;apply rS hC
  ·iterate 4 refine oA ?_
   rfl
  apply Tri.ret;iterate 2 apply sR
  exact hO (by simpa using hn2) _ (by simp[j4]) (by simp) (by simp)
end Go.Ev
