/- Walks over the tokens of a text. The tokens of a text: the walk. The tokens of a text. A text that is a number is one token. Bytes and names: letter, digit, part, word, ident, IsIdent. The scanner's faults, as values. Walks: must. What must and value return. digits and whole. Walks and specification: a run of digits. Walks and specification: an exponent. What is left of the text at a place. Walks and specification: HasPrefix. Walks and specification: sign. What look-ups in small maps and must come to. strings.Builder: what stands in its block. -/
import Derived.Test.YtmjplflnlggbeaaGreatDoorET41
import Derived.Test.YtmjplflnlggbeaaGreatDoorEEvPart2
import Derived.Test.YtmjplflnlggbeaaGreatDoorEWE2
import Derived.Test.YtmjplflnlggbeaaGreatDoorESy3
namespace Go.Ev
open Go Go.Proofs
set_option linter.unusedSimpArgs false
set_option linter.unusedVariables false
set_option linter.unnecessarySimpa false
open Tryz List
set_option maxRecDepth 1000000
abbrev Tk:=Int×Bs×Int×Bool
def tkL (x:Tk):List V:=[.i .i64 x.1,.s x.2.1,.i .i64 x.2.2.1,.b x.2.2.2]
def tkC (l:List Tk):List V:=l.flatMap tkL
theorem zbI (l:List Tk):(tkC l).length=l.length*4:=by
 induction l with
 |nil=>rfl
 |cons x l ih=>simp only[tkC,flatMap_cons,jLa,jIa]at ih ⊢;rw[ih];simp[tkL];omega
theorem zjK (l:List Tk)(x:Tk):tkC (l++[x])=tkC l++tkL x:=by simp[tkC]
def ziG (H:zaa)(v:V)(l:List Tk):Prop:=∃(n:Nat)(cap:Option Nat)(kd:BK),v=.sl n 4 0 l.length cap∧H[n]? = some (some {ty:=44,cells:=tkC l,kind:=kd})∧kd≠.map∧((cap=some 0∧l=[])∨cap=none)
inductive ScanS (s:Bs):Nat→List Tk→(List Tk ⊕ (Int×Int))→Prop
  |opn {i:Nat} {l:List Tk} (h:0≤(zbE s (s.length+1) i false).2.2):ScanS s i l (.inr ((zbE s (s.length+1) i false).2.2,32))
  |done {i:Nat} {l:List Tk} (h:¬0≤(zbE s (s.length+1) i false).2.2) (h2:(zbE s (s.length+1) i false).1=s.length):ScanS s i l (.inl l)
  |bad {i:Nat} {l:List Tk} {c:Int} (h:¬0≤(zbE s (s.length+1) i false).2.2) (h2:(zbE s (s.length+1) i false).1<s.length) (hc:c≠0) (hv:zla s (zbE s (s.length+1) i false).1 (zif c)):ScanS s i l (.inr (((zbE s (s.length+1) i false).1:Nat),c))
  |step {i e:Nat} {l:List Tk} {k:Int} {t:Bs} {r:List Tk ⊕ (Int×Int)} (h:¬0≤(zbE s (s.length+1) i false).2.2) (h2:(zbE s (s.length+1) i false).1<s.length) (hv:zla s (zbE s (s.length+1) i false).1 (zjm k t e)) (h3:(zbE s (s.length+1) i false).1<e) (h4:e≤s.length) (hr:ScanS s e (l++[(k,t,(((zbE s (s.length+1) i false).1:Nat):Int),(zbE s (s.length+1) i false).2.1||((l.length:Int)==0))]) r):ScanS s i l r
def zoJ (H:zaa):List Tk ⊕ (Int×Int)→V→Int→Int→Prop
 | .inl l,v,a,c=>ziG H v l∧a=0∧c=0
 | .inr p,v,a,c=>v=.nils∧a=p.1∧c=p.2
theorem zwQ (v:Tk)(H:zaa):zaE TT 27 1 [(0,.agg (tkL v))] H=.val (.sl H.length 4 0 1 (some 1)) (H++[some {ty:=44,cells:=tkL v,kind:=.all}]):=by
 have e1:TT.und 27=some (.slice 44):=rfl;have e2:TT.size 44=some 4:=rfl;have e3:TT.zero 44=some (.agg [.i .i64 0,.s [],.i .i64 0,.b false]):=rfl;simp only[zaE,e1,e2,e3];simp[zgo,zes,splice,zaX,V.cells,tkL]
theorem ztC {H:zaa}{v:V}{l:List Tk}(h:ziG H v l)(hl:l.length<100000000)(x:Tk){q:Nat}(hq:H[q]? = some (some {ty:=44,cells:=tkL x,kind:=.all})) :
 ∃v2 H2,zaN TT 27 v (.sl q 4 0 1 (some 1)) H=.val v2 H2∧ziG H2 v2 (l++[x]):=by
 obtain⟨n,cap,kd,rfl,hn,hk,hcap⟩:=h;have e1:TT.und 27=some (.slice 44):=rfl;have e2:TT.size 44=some 4:=rfl;have e3:TT.zero 44=some (.agg [.i .i64 0,.s [],.i .i64 0,.b false]):=rfl;have e4:TT.bytes 44=some 40:=rfl;have c1:zap H q=some {ty:=44,cells:=tkL x,kind:=.all}:=by simp[zap,hq]
 have c2:zap H n=some {ty:=44,cells:=tkC l,kind:=kd}:=by simp[zap,hn,hk]
 have c3:cut (tkL x) (0*4) (1*4)=some (tkL x):=by simp[cut,tkL]
 have c4:cut (tkC l) (0*4) (l.length*4)=some (tkC l):=by simp[cut,←zbI]
 have hlen:=zbI l;have f1:(tkL x).all zeA=true:=by simp[tkL,zeA]
 have f2:(V.agg [.i .i64 0,.s [],.i .i64 0,.b false]).cells.length=4:=rfl;simp only[zaN,e1,e2,e3,e4,za7,c1,c2,c3,c4,jXa,if_true];rw[if_pos ⟨by decide,f2,by decide,f1⟩,if_pos ⟨trivial,by omega,by omega⟩];simp only[zaX,setK_eq];rw[if_neg (by decide)];rcases hcap with⟨rfl,rfl⟩|rfl
 ·simp only;rw[if_neg (by simp)];exact⟨_,_,rfl,H.length,none,.more,by simp,by simp[tkC],by simp,.inr rfl⟩
 ·simp only;rw[if_pos ⟨trivial,by omega,trivial⟩];refine⟨_,_,rfl,H.length,none,.more,by simp,?_,by simp,.inr rfl⟩;rw[zjK];simp
theorem ziG.ext {H:zaa}{v:V}{l:List Tk}(h:ziG H v l)(K:zaa):ziG (H++K) v l:=by
 obtain⟨n,cap,kd,rfl,hn,hk,hcap⟩:=h;exact⟨n,cap,kd,rfl,by rw[jQa (jGa.1 hn).1];exact hn,hk,hcap⟩
theorem ziG.len {H:zaa}{v:V}{l:List Tk}(h:ziG H v l):zf4 TT 27 v=some (.i .i64 l.length):=by
 obtain⟨n,cap,kd,rfl,hn,hk,hcap⟩:=h;have e1:TT.und 27=some (.slice 44):=rfl;simp only[zf4,e1]
theorem zsA {call:zad}(hC:call.Sound prog TT)(s:Bs)(hsl:s.length<20000000)(hbk:∀i:Nat,i≤s.length→∀H,call 32 [.s s,.i .i64 i] H=.val (.tup [.i .i64 (zbE s (s.length+1) i false).1,.b (zbE s (s.length+1) i false).2.1,.i .i64 (zbE s (s.length+1) i false).2.2]) H)
 (hon:∀i:Nat,i<s.length→∃v,zla s i v∧∀H,call 33 [.s s,.i .i64 i] H=.val v H){Q:Out→Prop}:∀(n i:Nat)(l:List Tk)(v:V)(t:Tm)(H:zaa),s.length-i<n→i≤s.length→ziG H v l→l.length≤i →
 t.wid=57→t.get 0=.s s→t.get 5=v→t.get 6=.i .i64 i →
 (∀(t':Tm)(H':zaa)(r:List Tk ⊕ (Int×Int)),ScanS s i l r→∀(u:V)(a c:Int),t'.get 2=u→t'.get 3=.i .i64 a→t'.get 4=.i .i64 c→zoJ H' r u a c→Q (.ret t' H')) →
 zaM prog TT (sub [tt,tt,tt,tt,ff,ff] (zae f12)) t H Q:=by
 intro n;induction n with
 |zero=>intro i l v t H h;omega
 |succ n ih=>
  intro i l v t H hn hil hO hli hw h0 h5 h6 hR;have hblk:=hbk i hil;have hbl:=zgy s (s.length+1) i false hil;by_cases hop:0≤(zbE s (s.length+1) i false).2.2
  ·have hbo:True:=trivial;have hF:=ai @h0 (ai @h5 (ai @h6 (ai @hblk @hop)));refine zaM.round' ?_;apply bK;apply rS hC
   ·iterate 10 refine oA ?_
    rfl
   apply sQ;apply rS hC
   ·iterate 2 refine oA ?_
    rfl
   refine cT (by simp[hF]<;>rfl) ?_;apply rS hC
   ·iterate 4 refine oA ?_
    rfl
   apply Tri.ret;apply sR;apply bR;refine zce ?_;exact hR _ _ (.inr _) (.opn hop) _ _ _ (by simp) (by simp) (by simp) ⟨rfl,rfl,rfl⟩
  ·by_cases hnx0:(zbE s (s.length+1) i false).1=s.length
   ·have hnx:(((zbE s (s.length+1) i false).1:Int)==s.length)=true:=by rw[hnx0];simp
    have hF:=ai @h0 (ai @h5 (ai @h6 (ai @hblk (ai @hop @hnx))));refine zaM.round' ?_;apply bK;apply rS hC
    ·iterate 10 refine oA ?_
     rfl
    apply sQ;apply rS hC
    ·iterate 2 refine oA ?_
     rfl
    refine cF (by simp[hF]<;>rfl) ?_;apply Tri.skip;apply sN;apply sQ;apply rS hC
    ·iterate 4 refine oA ?_
     rfl
    refine cT (by simp[hF]<;>rfl) ?_;apply rS hC
    ·iterate 4 refine oA ?_
     rfl
    apply Tri.ret;apply sR;apply bR;refine zce ?_;exact hR _ _ (.inl l) (.done hop hnx0) _ _ _ (by simp[h5]) (by simp) (by simp) ⟨hO,rfl,rfl⟩
   ·have hnl:(zbE s (s.length+1) i false).1<s.length:=by omega
    have hnx:(((zbE s (s.length+1) i false).1:Int)==s.length)=false:=by simp;omega
    obtain⟨w,hv,hone⟩:=hon _ hnl;rcases zuc hv hnl with⟨c,hc0,rfl⟩|⟨k,tx,e,rfl,h3,hel⟩
    ·have hc:(c !=0)=true:=by simpa using hc0
     simp only[zif,ziz]at hone;have hF:=ai @h0 (ai @h5 (ai @h6 (ai @hblk (ai @hop (ai @hnx (ai @hone @hc))))));refine zaM.round' ?_;apply bK;apply rS hC
     ·iterate 10 refine oA ?_
      rfl
     apply sQ;apply rS hC
     ·iterate 2 refine oA ?_
      rfl
     refine cF (by simp[hF]<;>rfl) ?_;apply Tri.skip;apply sN;apply sQ;apply rS hC
     ·iterate 4 refine oA ?_
      rfl
     refine cF (by simp[hF]<;>rfl) ?_;apply Tri.skip;apply sN;apply rS hC
     ·iterate 11 refine oA ?_
      rfl
     apply sQ;apply rS hC
     ·iterate 2 refine oA ?_
      rfl
     refine cT (by simp[hF]<;>rfl) ?_;apply rS hC
     ·iterate 5 refine oA ?_
      rfl
     apply Tri.ret;apply sR;apply bR;refine zce ?_;exact hR _ _ (.inr _) (.bad hop hnl hc0 hv) _ _ _ (by simp) (by simp) (by simp) ⟨rfl,rfl,rfl⟩
    ·simp only[zjm,ziz]at hone;have hv2:True:=trivial;cases hln:(zbE s (s.length+1) i false).2.1 with
     |true=>
      rw[hln]at hblk;obtain⟨v2,H2,hap,hO2⟩:=ztC (hO.ext [some {ty:=44,cells:=tkL (k,tx,(((zbE s (s.length+1) i false).1:Nat):Int),true),kind:=.all},some {ty:=44,cells:=tkL (k,tx,(((zbE s (s.length+1) i false).1:Nat):Int),true),kind:=.all}]) (by omega) (k,tx,(((zbE s (s.length+1) i false).1:Nat):Int),true) (q:=H.length+1) (by simp);have bsTok4:=zwQ (k,tx,(((zbE s (s.length+1) i false).1:Nat):Int),true) (H++[some {ty:=44,cells:=tkL (k,tx,(((zbE s (s.length+1) i false).1:Nat):Int),true),kind:=.all}]);simp only[tkL,jLa,jIa,jVa,jKb,jEb,jEa,jFa]at hap bsTok4;have hlv:=hO.len;have hF:=ai @h0 (ai @h5 (ai @h6 (ai @hblk (ai @hop (ai @hnx (ai @hone (ai @hln (ai @hv2 (ai @bsTok4 @hap)))))))));refine zaM.round' ?_;apply bK;apply rS hC
      ·iterate 10 refine oA ?_
       rfl
      apply sQ;apply rS hC
      ·iterate 2 refine oA ?_
       rfl
      refine cF (by simp[hF]<;>rfl) ?_;apply Tri.skip;apply sN;apply sQ;apply rS hC
      ·iterate 4 refine oA ?_
       rfl
      refine cF (by simp[hF]<;>rfl) ?_;apply Tri.skip;apply sN;apply rS hC
      ·iterate 11 refine oA ?_
       rfl
      apply sQ;apply rS hC
      ·iterate 2 refine oA ?_
       rfl
      refine cF (by simp[hF]<;>rfl) ?_;apply Tri.skip;apply sN;apply rS hC
      ·iterate 3 refine oA ?_
       rfl
      apply rS hC
      ·iterate 2 refine oA ?_
       iterate 3 refine oC ?_
       iterate 3 refine oA ?_
       rfl
      apply rS hC
      ·iterate 5 refine oA ?_
       rfl
      apply rN hC
      ·iterate 2 refine oA ?_
       rfl
      apply bN;refine zaq ?_;refine ih e (l++[(k,tx,(((zbE s (s.length+1) i false).1:Nat):Int),true)]) v2 _ H2 (by omega) hel hO2 (by simp;omega) (by simp[hw]) (by simp[h0]) (by simp) (by simp) (fun t' H' r k1=>hR t' H' r (.step hop hnl hv h3 hel (by rw[hln];exact k1)))
     |false=>
      rw[hln]at hblk;obtain⟨v2,H2,hap,hO2⟩:=ztC (hO.ext [some {ty:=44,cells:=tkL (k,tx,(((zbE s (s.length+1) i false).1:Nat):Int),((l.length:Int)==0)),kind:=.all},some {ty:=44,cells:=tkL (k,tx,(((zbE s (s.length+1) i false).1:Nat):Int),((l.length:Int)==0)),kind:=.all}]) (by omega) (k,tx,(((zbE s (s.length+1) i false).1:Nat):Int),((l.length:Int)==0)) (q:=H.length+1) (by simp);have bsTok4:=zwQ (k,tx,(((zbE s (s.length+1) i false).1:Nat):Int),((l.length:Int)==0)) (H++[some {ty:=44,cells:=tkL (k,tx,(((zbE s (s.length+1) i false).1:Nat):Int),((l.length:Int)==0)),kind:=.all}]);simp only[tkL,jLa,jIa,jVa,jKb,jEb,jEa,jFa]at hap bsTok4;have hlv:=hO.len;have hF:=ai @h0 (ai @h5 (ai @h6 (ai @hblk (ai @hop (ai @hnx (ai @hone (ai @hln (ai @hv2 (ai @bsTok4 (ai @hap @hlv))))))))));refine zaM.round' ?_;apply bK;apply rS hC
      ·iterate 10 refine oA ?_
       rfl
      apply sQ;apply rS hC
      ·iterate 2 refine oA ?_
       rfl
      refine cF (by simp[hF]<;>rfl) ?_;apply Tri.skip;apply sN;apply sQ;apply rS hC
      ·iterate 4 refine oA ?_
       rfl
      refine cF (by simp[hF]<;>rfl) ?_;apply Tri.skip;apply sN;apply rS hC
      ·iterate 11 refine oA ?_
       rfl
      apply sQ;apply rS hC
      ·iterate 2 refine oA ?_
       rfl
      refine cF (by simp[hF]<;>rfl) ?_;apply Tri.skip;apply sN;apply rS hC
      ·iterate 3 refine oA ?_
       rfl
      apply rS hC
      ·iterate 2 refine gO (by simp[hF,-zf4]<;>rfl) ?_
       iterate 3 refine gW (by simp[zaD,hF,-zf4]) (by simp[hF,-zf4]<;>rfl) ?_
       iterate 3 refine gO (by simp[hF,-zf4]<;>rfl) ?_
       rfl
      apply rS hC
      ·iterate 5 refine oA ?_
       rfl
      apply rN hC
      ·iterate 2 refine oA ?_
       rfl
      apply bN;refine zaq ?_;refine ih e (l++[(k,tx,(((zbE s (s.length+1) i false).1:Nat):Int),((l.length:Int)==0))]) v2 _ H2 (by omega) hel hO2 (by simp;omega) (by simp[hw]) (by simp[h0]) (by simp) (by simp) (fun t' H' r k1=>hR t' H' r (.step hop hnl hv h3 hel (by rw[hln];exact k1)))
def zoK (s:Bs)(r:List Tk ⊕ (Int×Int)):Prop:=if 20000<s.length then r=.inr (0,16)else ScanS s 0 [] r
theorem zwR:zaE TT 27 0 [] []=.val (.sl 0 4 0 0 (some 0)) [some {ty:=44,cells:=[],kind:=.all}]:=by
 have e1:TT.und 27=some (.slice 44):=rfl;have e2:TT.size 44=some 4:=rfl;have e3:TT.zero 44=some (.agg [.i .i64 0,.s [],.i .i64 0,.b false]):=rfl;simp only[zaE,e1,e2,e3];simp[zgo,zes,splice,zaX,V.cells]
theorem zns {call:zad}(hC:call.Sound prog TT)(s:Bs)(hl:¬(s.length:Int)≤20000)  : ziD prog TT 12 [.s s] [] (fun v K=>∃r u a c,zoK s r∧zoJ K r u a c∧v=.tup [u,.i .i64 a,.i .i64 c]):=by
 refine en f12 rfl rfl (by simp[f12]) 57 rfl fun t hw hg=>?_;have h0:=hg 0 _ rfl;clear hg;try simp only[Nd.enc_eq]at *
 apply rS hC
 ·iterate 3 refine oA ?_
  rfl
 apply sQ;apply rS hC
 ·iterate 3 refine oA ?_
  rfl
 refine Tri.condG (o:=?o3) (b:=?b3) ?g3 ?r3 ?y3 ?n3;case g3=>simp[h0,hl]<;>rfl
 case r3=>rfl
 case y3=>
  intro hy3;apply rS hC
  ·iterate 3 refine oA ?_
   rfl
  apply Tri.ret;apply sR;exact zuI (by simp[f12]<;>rfl) (by rfl) ⟨.inr (0,16),.nils,0,16,by unfold zoK;rw[if_pos (by omega)],⟨rfl,rfl,rfl⟩,rfl⟩
 case n3=>
  intro hn3;exact absurd hn3 (by simp[h0,hl])
theorem znt {call:zad}(hC:call.Sound prog TT)(s:Bs)(hl:(s.length:Int)≤20000)(hbk:∀i:Nat,i≤s.length→∀H,call 32 [.s s,.i .i64 i] H=.val (.tup [.i .i64 (zbE s (s.length+1) i false).1,.b (zbE s (s.length+1) i false).2.1,.i .i64 (zbE s (s.length+1) i false).2.2]) H)
 (hon:∀i:Nat,i<s.length→∃v,zla s i v∧∀H,call 33 [.s s,.i .i64 i] H=.val v H)  : ziD prog TT 12 [.s s] [] (fun v K=>∃r u a c,zoK s r∧zoJ K r u a c∧v=.tup [u,.i .i64 a,.i .i64 c]):=by
 refine en f12 rfl rfl (by simp[f12]) 57 rfl fun t hw hg=>?_;have h0:=hg 0 _ rfl;clear hg;try simp only[Nd.enc_eq]at *
 have hF:=ai @h0 (ai @hl @zwR);apply rS hC
 ·iterate 3 refine oA ?_
  rfl
 apply sQ;apply rS hC
 ·iterate 3 refine oA ?_
  rfl
 refine Tri.condG (o:=?o3) (b:=?b3) ?g3 ?r3 ?y3 ?n3;case g3=>simp[hF]<;>rfl
 case r3=>rfl
 case y3=>
  intro hy3;exact absurd hy3 (by simp[hF])
 case n3=>
  intro hn3;apply Tri.skip;apply sN;apply rS hC
  ·iterate 2 refine oA ?_
   rfl
  apply rS hC
  ·refine oA ?_;rfl
  apply bK;refine Tri.loop ?_;refine zsA hC s (by omega) hbk hon (s.length+1) 0 [] (.sl 0 4 0 0 (some 0)) _ _ (by omega) (by omega) ⟨0,some 0,.all,rfl,rfl,by simp,.inl ⟨rfl,rfl⟩⟩ (by simp) (by simp[hw]) (by simp[h0]) (by simp) (by simp) ?ret;case ret=>
   intro t2 H2 r hr u a c q2 q3 q4 ho;apply bR;exact zuI (by simp[f12,q2,q3,q4]<;>rfl) (by rfl) ⟨r,u,a,c,by unfold zoK;rw[if_neg (by omega)];exact hr,ho,rfl⟩
def ztB:List Tk ⊕ (Int×Int)→V
 | .inl l=>.tup [.isl 4 (l.map fun x=>.agg (tkL x)),.i .i64 0,.i .i64 0]
 | .inr p=>.tup [.nils,.i .i64 p.1,.i .i64 p.2]
theorem zfh:∀l:List Tk,zcY 4 l.length (tkC l)=some (l.map fun x=>V.agg (tkL x))
 | []=>rfl
 |x::l=>by
  have ih:=zfh l;simp only[tkC]at ih;simp[zcY,tkC,tkL,ih]
theorem zmC {H:zaa}:∀(l:List Tk)(n:Nat),4*l.length+5≤n→fzL H n (tkC l)=some (tkC l)
 | [],n,h=>by cases n<;>simp[tkC,Ev.fzL]
 |x::l,n,h=>by
  obtain⟨m,rfl⟩:∃m,n=m+5:=⟨n-5,by simp only[jIa]at h;omega⟩;have ih:=zmC (H:=H) l (m+1) (by simp only[jIa]at h;omega);have e:tkC (x::l)=.i .i64 x.1::.s x.2.1::.i .i64 x.2.2.1::.b x.2.2.2::tkC l:=by simp[tkC,tkL]
  rw[e];simp[Ev.fzL,fz,ih]
theorem zuT {J:zaa}{r:List Tk ⊕ (Int×Int)}{u:V}{a c:Int}(h:zoJ J r u a c):∃k,fz J k (.tup [u,.i .i64 a,.i .i64 c])=some (ztB r):=by
 cases r with
 |inr p=>
  obtain⟨rfl,rfl,rfl⟩:=h;exact⟨5,by simp[fz,Ev.fzL,ztB]⟩
 |inl l=>
  obtain⟨⟨n,cap,kd,rfl,hn,hk,_⟩,rfl,rfl⟩:=h;refine⟨4*l.length+10,?_⟩;have hc:zap J n=some {ty:=44,cells:=tkC l,kind:=kd}:=by simp[zap,hn,hk]
  have hlen:=zbI l;have hcut:cut (tkC l) (0*4) (l.length*4)=some (tkC l):=by
   simp only[cut];rw[if_pos (by omega),Nat.zero_mul,jFc,jTb (by omega)]
  have hf:=zmC (H:=J) l (4*l.length+7) (by omega);have hf1:fz J (4*l.length+8) (.sl n 4 0 l.length cap)=some (.isl 4 (l.map fun x=>V.agg (tkL x))):=by
   simp only[fz,hc,hcut,hf,zfh,jXa]
  have e2:Ev.fzL J (4*l.length+8) [V.i .i64 0,V.i .i64 0]=some [V.i .i64 0,V.i .i64 0]:=by simp[Ev.fzL,fz]
  have e1:Ev.fzL J (4*l.length+9) (V.sl n 4 0 l.length cap::[V.i .i64 0,V.i .i64 0])=some (V.isl 4 (l.map fun x=>V.agg (tkL x))::[V.i .i64 0,V.i .i64 0]):=by
   rw[Ev.fzL,hf1,e2]
  rw[fz,e1];rfl
theorem zxQ:∃g,zak prog TT 12 g∧∀s:Bs,s.length<100000000→∃r,zoK s r∧∀H,g [.s s] H=.val (ztB r) H:=by
 obtain⟨g1,k1,s1⟩:=zxU;obtain⟨g2,k2,s2⟩:=zxV;obtain⟨g0,k0,s0⟩:=ziE.spec (F:=12) zaf (D:=fun vs K=>K=[]∧∃s:Bs,s.length<100000000∧vs=[.s s]) (R:=fun vs _ v K=>∃(s:Bs)(r:List Tk ⊕ (Int×Int))(u:V)(a c:Int),vs=[.s s]∧zoK s r∧zoJ K r u a c∧v=.tup [u,.i .i64 a,.i .i64 c]) (by
  rintro vs K ⟨rfl,s,hs,rfl⟩;have hC:=ws (ws n0 k1) k2;generalize hd:(zad.none.with 32 g1).with 33 g2=call at hC;have c1:∀vs H,call 32 (vs) H=g1 vs H:=fun vs H=>by rw[←hd];simp[zad.with]
  have c2:∀vs H,call 33 (vs) H=g2 vs H:=fun vs H=>by rw[←hd];simp[zad.with]
  clear hd;by_cases hl:(s.length:Int)≤20000
  ·refine(ziD.fact zaf (znt hC s hl (fun i hi H=>(c1 _ H).trans (s1 s i hs hi H)) fun i hi=>?_)).mono fun v H' ⟨r,u,a,c,h⟩=>⟨s,r,u,a,c,rfl,h⟩;obtain⟨v,hv,h⟩:=s2 s i (by omega) hi;exact⟨v,hv,fun H=>(c2 _ H).trans (h H)⟩
  ·exact(ziD.fact zaf (zns hC s hl)).mono fun v H' ⟨r,u,a,c,h⟩=>⟨s,r,u,a,c,rfl,h⟩)
 obtain⟨g,hg,hs⟩:=ztk zao k0 (fun vs=>∃s:Bs,s.length<100000000∧vs=[.s s]) (fun vs v=>∃(s:Bs)(r:List Tk ⊕ (Int×Int)),vs=[.s s]∧zoK s r∧v=ztB r) (by
  rintro vs ⟨s,h,rfl⟩;refine⟨rfl,?_⟩;obtain⟨v,J,⟨s',r,u,a,c,e,hr,ho,rfl⟩,h2⟩:=s0 [.s s] [] ⟨rfl,s,h,rfl⟩;obtain⟨k,hk⟩:=zuT ho;exact⟨_,J,k,_,h2,hk,s',r,e,hr,rfl⟩)
 refine⟨g,hg,fun s h=>?_⟩;obtain⟨v,⟨s',r,e,hr,rfl⟩,h2⟩:=hs _ ⟨s,h,rfl⟩;simp only[jPa,V.s.injEq,jGb]at e;subst e;exact⟨r,hr,h2⟩
theorem znN (c:Int):(48≤c∧c≤57∧zln c=c-48)∨(¬(48≤c∧c≤57)∧(10≤zln c∨zln c= -1)):=by
 unfold zln;by_cases h:48≤c∧c≤57
 ·rw[if_pos h];exact .inl ⟨h.1,h.2,rfl⟩
 ·rw[if_neg h];refine .inr ⟨h,?_⟩;by_cases h2:97≤c∧c≤102
  ·rw[if_pos h2];omega
  ·rw[if_neg h2];by_cases h3:65≤c∧c≤70
   ·rw[if_pos h3];omega
   ·rw[if_neg h3];omega
theorem zwW (b:UInt8):0≤zby b.toNat 10↔zfs b:=by
 unfold zby zfs;rcases znN b.toNat with⟨h1,h2,h3⟩|⟨h1,h2⟩
 ·rw[h3,if_neg (by omega)];omega
 ·rcases h2 with h2|h2
  ·rw[if_pos h2];omega
  ·rw[h2,if_neg (by omega)];omega
theorem ziT (base:Int):∀(L out:Bs)(pd:Bool),∃m,(zaY base L out pd).2=out++m
 | [],out,pd=>⟨[],by simp[zaY]⟩
 |b::L,out,pd=>by
  simp only[zaY];split
  ·obtain⟨m,hm⟩:=ziT base L (out++[b]) true;exact⟨b::m,by rw[hm];simp⟩
  ·split
   ·obtain⟨m,hm⟩:=ziT base L out false;exact⟨m,hm⟩
   ·exact⟨[],by simp⟩
theorem zpx {s:Bs}{i:Nat}{b:UInt8}(h:s[i]? = some b):s.drop i=b::s.drop (i+1):=by
 obtain⟨h1,rfl⟩:=jGa.1 h;exact jAb h1
theorem zul {s:Bs}{i:Nat}(h:atR s i≠0):∃b,s[i]? = some b∧atR s i=b.toNat:=by
 have:=zfK h;exact⟨s[i],jKa this,zoO (jKa this)⟩
theorem zuD {s:Bs}{i:Nat}(h:0≤zby (atR s i) 10):(zaY 10 (s.drop i) [] false).2≠[]:=by
 have h0:atR s i≠0:=fun e=>by rw[e]at h;exact absurd h (by decide)
 obtain⟨b,hb,hb2⟩:=zul h0;rw[zpx hb];rw[hb2]at h;simp only[zaY];rw[if_pos h];obtain⟨m,hm⟩:=ziT 10 (s.drop (i+1)) ([]++[b]) true;simp only[hm];simp
theorem zpv {b:UInt8}(h:zfs b):∀x∈[10,32,9,13,47],b≠x:=by
 rintro x hx rfl;unfold zfs at h;simp only[jOb,not_mem_nil,or_false]at hx;rcases hx with rfl|rfl|rfl|rfl|rfl<;>revert h<;>decide
theorem zaV.of2 {F:FuncId}{vs:List V}{r:Res}(h:zaV prog TT F vs (fun x=>x=r)):zjT prog TT F vs r:=by
 obtain⟨fn,c,h1,h2,h3,o,⟨r',rfl,k2⟩,hx⟩:=h;exact⟨fn,c,h1,h2,h3,o,k2,hx⟩
theorem spT (F:FuncId)(val:Bs→V)(D:Bs→Prop)(hv:∀x,nl (val x)=true)(h:∀x,D x→zaV prog TT F [.s x] (fun r=>r=.val (val x))):∃g,zak prog TT F g∧∀x,D x→∀H,g [.s x] H=.val (val x) H:=
 zbd zaf zao F (fun x:Bs=>[.s x]) D val (fun x _=>by simp[nlL,nl]) hv (fun a b h=>by
 simp only[jPa,V.s.injEq,jGb]at h;rw[h]) fun x hx=>zaV.of2 (h x hx)
theorem zvO:∃g,zak prog TT 72 g∧∀c:Int,True→∀H,g [.i .u8 c] H=.val (.b (zf0 c||(c==95))) H:=
 zbd zaf zao 72 (fun c:Int=>[.i .u8 c]) (fun _=>True) (fun c=>.b (zf0 c||(c==95))) (fun x _=>by simp[nlL,nl]) (fun _=>rfl) (fun a b h=>by simp only[jPa,V.i.injEq,jLb,jGb]at h;rw[h]) fun c _=>zus n0 c
theorem zon:∃g,zak prog TT 50 g∧∀c:Int,True→∀H,g [.i .u8 c] H=.val (.b (decide (48≤c)&&decide (c≤57))) H:=
 zbd zaf zao 50 (fun c:Int=>[.i .u8 c]) (fun _=>True) (fun c=>.b (decide (48≤c)&&decide (c≤57))) (fun x _=>by simp[nlL,nl]) (fun _=>rfl) (fun a b h=>by simp only[jPa,V.i.injEq,jLb,jGb]at h;rw[h]) fun c _=>zuu n0 c
theorem zrt (b:UInt8):zcR b.toNat=((zf0 b.toNat||((b.toNat:Int)==95))||(decide (48≤(b.toNat:Int))&&decide ((b.toNat:Int)≤57))):=by
 have e:decide (0≤zby b.toNat 10)=(decide (48≤(b.toNat:Int))&&decide ((b.toNat:Int)≤57)):=by
  rw[jYc];simp only[jMa,jTa];rw[zwW];unfold zfs;omega
 unfold zcR;rw[e];cases zf0 b.toNat<;>cases((b.toNat:Int)==95)<;>simp
theorem zvP:∃g,zak prog TT 73 g∧∀b:UInt8,True→∀H,g [.i .u8 b.toNat] H=.val (.b (zcR b.toNat)) H:=by
 obtain⟨g3,hg3,hs3⟩:=zvO;obtain⟨g9,hg9,hs9⟩:=zon;refine zbd zaf zao 73 (fun b:UInt8=>[.i .u8 b.toNat]) (fun _=>True) (fun b=>.b (zcR b.toNat)) (fun x _=>by simp[nlL,nl]) (fun _=>rfl) (fun a b h=>by
  simp only[jPa,V.i.injEq,jLb,jGb]at h;rw[h]) fun c _=>?_
 rw[zrt];exact zut (ws (ws n0 hg3) hg9) c.toNat _ _ (fun H=>by rw[zac _ _ _ _ rfl,zan];exact hs3 _ trivial H) (fun H=>by rw[zan];exact hs9 _ trivial H)
theorem zys:∃g,zak prog TT 49 g∧∀s:Bs,s.length<NT→∀H,g [.s s] H=.val (.i .i64 (idR s 0:Nat)) H:=by
 obtain⟨g3,hg3,hs3⟩:=zvO;obtain⟨g4,hg4,hs4⟩:=zvP;refine spT 49 (fun s=>.i .i64 (idR s 0:Nat)) (fun s=>s.length<NT) (fun _=>rfl) fun s hs=>?_;have hN:NT=1090000:=rfl;have hC:=ws (ws n0 hg3) hg4;cases s with
 |nil=>exact zpg hC
 |cons c r=>
  have h83:∀H,((zad.none.with 72 g3).with 73 g4) 72 [.i .u8 c.toNat] H=.val (.b (zf0 c.toNat||((c.toNat:Int)==95))) H:=fun H=>by rw[zac _ _ _ _ rfl,zan];exact hs3 _ trivial H
  have hat:atR (c::r) 0=c.toNat:=rfl;cases hl:(zf0 c.toNat||((c.toNat:Int)==95))with
  |false=>
   have e:idR (c::r) 0=0:=by
    unfold idR;rw[hat,if_pos];rw[Bool.or_eq_false_iff]at hl;simp only[jMa,jLc,jUa];exact⟨hl.1,by have:=hl.2;rw[jDa]at this;exact this⟩
   rw[e];exact zpf hC c r fun H=>by rw[h83,hl]
  |true=>
   have hw:zcR c.toNat=true:=by rw[zrt,hl];rfl
   have e:idR (c::r) 0=1+zcK r+zkJ (r.drop (zcK r)):=by
    unfold idR;rw[hat,if_neg]
    ·simp only[jFc,jKb];have e2:zcK (c::r)=zcK r+1:=by simp only[zcK,hw,if_true]
     rw[e2,drop_succ_cons];omega
    ·intro h;simp only[jMa,jLc,jUa]at h;rw[h.1,jVd,jOa]at hl;exact h.2 hl
   rw[e];exact zph hC c r (by simp at hs ⊢;omega) (fun b H=>by rw[zan];exact hs4 b trivial H) fun H=>by rw[h83,hl]
theorem zvN:∃g,zak prog TT 40 g∧∀s:Bs,s.length<NT→∀H,g [.s s] H=.val (.b ((!s.isEmpty)&&(((idR s 0:Nat):Int)==s.length) && !kw s)) H:=by
 obtain⟨g1,hg1,hs1⟩:=zys;refine zbd zaf zao 40 (fun x:Bs=>[.s x]) (fun s=>s.length<NT) (fun s=>.b ((!s.isEmpty)&&(((idR s 0:Nat):Int)==s.length) && !kw s)) (fun x _=>by simp[nlL,nl]) (fun _=>rfl) (fun a b h=>by
  simp only[jPa,V.s.injEq,jGb]at h;rw[h]) fun s hs=>?_
 exact zur (ws (ws n0 hg1) zAX) s _ (fun H=>by rw[zac _ _ _ _ rfl,zan];exact hs1 s hs H) (by rw[zan];rfl) (zp6 s)
def zcu (e at_:Int):V:=.ifc 50 (.agg [.i .i64 e,.i .i64 at_])
section
variable {P:Program}{T:Tab}{t t':Tm}{H H':zaa}{Q:Out→Prop}{v:V}
theorem Tri.regP (hT:TOk P T){call:zad}(hC:call.Sound P T){id:Nat}{ops:Array Oper}{d:Bool}(he:zc7 T call ops d t H=.pan v t' H')(h:Q (.pan v t' H')):Tri P T (.region id ops d) t H Q:=Tri.reg hT hC he h
theorem zhZ {step:Oper→Env→zaa→OR}{ops:Array Oper}{o:Oper}{r:List Oper}{x:OR}{out:Out}(hw:zaD ops o t.get=some true)(hs:step o t.get H=x)(hx:x=.pan v H')(ho:Out.pan v t H'=out):zaK step ops (o::r) t H=out:=(zpL hw (hs.trans hx)).trans ho
theorem zzO {T:Tab}{fn:Func}{R:Res→Prop}(hr:R (.pan v)):∃r,R r∧zf3 T fn r (.pan v t H):=⟨_,hr,rfl⟩
theorem zw1 {fn:Func}{x:OR}{R:Res→Prop}(hf:zaZ TT fn t.get H=x)(hx:x=.val v H)(hr:R (.val v)):∃r,R r∧zf3 TT fn r (.norm t H):=⟨_,hr,hf.trans hx⟩
end
attribute [simp] zcu zdm eq1 zpC
theorem znG {call:zad}(hC:call.Sound prog TT)(e k:Int)  : zaV prog TT 55 [.b true,.i .i64 e,.i .i64 k] (fun r=>r=.val .un):=by
 refine en f55 rfl rfl (by simp[f55]) 12 rfl fun t hw hg=>?_;have h0:=hg 0 _ rfl;have h1:=hg 1 _ rfl;have h2:=hg 2 _ rfl;clear hg;try simp only[Nd.enc_eq]at *
 have hF:=ai @h0 (ai @h1 @h2);apply rS hC
 ·iterate 2 refine oA ?_
  rfl
 refine cF (by simp[hF]<;>rfl) ?_;apply Tri.skip;refine zw1 (by simp[f55]<;>rfl) (by rfl) ?_;rfl
theorem znF {call:zad}(hC:call.Sound prog TT)(e k:Int)  : zaV prog TT 55 [.b false,.i .i64 e,.i .i64 k] (fun r=>r=.pan (zcu e k)):=by
 refine en f55 rfl rfl (by simp[f55]) 12 rfl fun t hw hg=>?_;have h0:=hg 0 _ rfl;have h1:=hg 1 _ rfl;have h2:=hg 2 _ rfl;clear hg;try simp only[Nd.enc_eq]at *
 have hF:=ai @h0 (ai @h1 @h2);apply rS hC
 ·iterate 2 refine oA ?_
  rfl
 refine cT (by simp[hF]<;>rfl) ?_;refine Tri.regP (v:=?v3) (t':=?t3) (H':=?H3) zaf hC ?e3 ?q3;case e3=>
  refine zar ?_;iterate 4 refine oA ?_
  refine zhZ rfl (by simp[hF]<;>rfl) (by rfl) ?_;exact rfl
 refine zzO ?_;rfl
def zbT (c:Int):Int:=if zln c= -1 then 99 else zln c
theorem zvZ:([2,10,16].all fun base=>(List.range 256).all fun c=>match zcw TT (zeu Con.none) 3000 94 [.i .u8 c,.i .i64 base] []with | .val (.tup [.i .u64 n,.b b]) _=>n==zbT c&&b==decide (zbT c<base)|_=>false)=true:=by kernel_rfl
theorem zra:∃g,zak prog TT 94 g∧∀c base:Int,0≤c→c<256→base=2∨base=10∨base=16→∀H,g [.i .u8 c,.i .i64 base] H=.val (.tup [.i .u64 (zbT c),.b (decide (zbT c<base))]) H:=by
 obtain⟨g,k,s⟩:=zfk zaf zao 94 (fun vs=>∃c base:Int,0≤c∧c<256∧(base=2∨base=10∨base=16)∧vs=[.i .u8 c,.i .i64 base]) (fun vs=>match vs with | [.i .u8 c,.i .i64 base]=>.val (.tup [.i .u64 (zbT c),.b (decide (zbT c<base))])|_=>.val .un) (by
  rintro vs ⟨c,base,h0,h1,hb,rfl⟩;refine⟨rfl,rfl,3000,?_⟩;have hm:base∈[2,10,16]:=by rcases hb with rfl|rfl|rfl<;>simp
  obtain⟨k,rfl,hk⟩:=zek (jBb.1 zvZ base hm) h0 h1;split at hk
  ·rename_i n b J he;rw[jMa]at hk;exact⟨J,by rw[he,eq_of_beq hk.1,eq_of_beq hk.2];rfl⟩
  ·cases hk)
 exact⟨g,k,fun c base h0 h1 hb H=>s _ ⟨c,base,h0,h1,hb,rfl⟩ H⟩
theorem zd3:∃g,zak prog TT 55 g∧∀(b:Bool)(e k:Int)(H:zaa),g [.b b,.i .i64 e,.i .i64 k] H=if b=true then .val .un H else .pan (zcu e k) H:=by
 obtain⟨g,h,s⟩:=zcM (P:=prog) (T:=TT) zaf zao 55 (fun vs=>∃(b:Bool)(e k:Int),vs=[.b b,.i .i64 e,.i .i64 k]) (fun vs r=>∃(b:Bool)(e k:Int),vs=[.b b,.i .i64 e,.i .i64 k]∧r=if b=true then .val .un else .pan (zcu e k)) (by
  rintro vs ⟨b,e,k,rfl⟩;refine⟨rfl,?_,?_⟩
  ·rintro r ⟨b',e',k',_,rfl⟩;cases b'<;>rfl
  ·cases b with
   |true=>
    obtain⟨fn,c,h1,h2,h3,h4⟩:=znG n0 e k;exact⟨fn,c,h1,h2,h3,h4.mono fun o ⟨r,hr,ho⟩=>⟨r,⟨true,e,k,rfl,by simpa using hr⟩,ho⟩⟩
   |false=>
    obtain⟨fn,c,h1,h2,h3,h4⟩:=znF n0 e k;exact⟨fn,c,h1,h2,h3,h4.mono fun o ⟨r,hr,ho⟩=>⟨r,⟨false,e,k,rfl,by simpa using hr⟩,ho⟩⟩)
 refine⟨g,h,fun b e k H=>?_⟩;obtain⟨r,⟨b',e',k',he,rfl⟩,h2⟩:=s _ ⟨b,e,k,rfl⟩;simp only[jPa,V.b.injEq,V.i.injEq,jLb,jGb]at he;obtain⟨rfl,rfl,rfl⟩:=he;rw[h2];cases b<;>rfl
theorem zyN:zaQ TT shp f95.ntmps [] (zae f95) [] ⟨[(0,.f1 .vs (.va 1)),(1,.f1 (.vi .i64) (.va 2))],⟨.va 0,[],[]⟩,3,[]⟩ (KF TT f95 [])=.fin (.f1 (.fn 109) (x2 (xp (xN (xh v0) (.cn 0))) (xp (xN (xh v0) (.cn 1))))) ⟨v0,[],[xk 9 (x1 (xs v1)),xk 3 (x1 (xi v2))]⟩:=by kernel_rfl
theorem zv4:zaQ TT shp f109.ntmps [] (sub [tt,ff,ff,tt,tt,ff,ff,tt,ff] (zae f109)) [] ⟨[(0,.va 1),(1,.f1 (.ptr 0) (.va 2)),(2,.f1 (.ptr 0) (.va 3)),(4,.f1 (.vi .i64) (.va 4)),(8,.f1 (.vi .i64) (.va 5)),(9,.f1 (.vi .i64) (.va 4))],⟨.va 0,[(.va 2,some ⟨9,.f2 .cons (.f1 .vs (.va 6)) .nil,.all⟩),(.va 3,some ⟨3,.f2 .cons (.f1 (.vi .i64) (.va 7)) .nil,.all⟩)],[]⟩,8,[]⟩ (K0 [0,1,2,5,6,8,9])=.need (xE c0 v4) (.need (xL v4 (xl v6)) (.asks (.call 94 (x2 (xu (xA v6 v4)) (xi v7))) [.i,.b] (xt (x2 (xv v8) (xb v9))) (.leaf .norm [(0,v1),(1,xp v2),(2,xp v3),(5,xv v8),(6,xb v9),(8,xi v5),(9,xi v4)] ⟨v0,[(v2,xk 9 (x1 (xs v6))),(v3,xk 3 (x1 (xi v7)))],[]⟩) (.stuck 0))):=by kernel_rfl
def zpt (s:Bs)(base:Int):zaa:=[some ⟨9,[.s s],.all⟩,some ⟨3,[.i .i64 base],.all⟩]
theorem zyh:∃g,zak prog TT 95 g∧∀(s:Bs)(base:Int)(H:zaa),g [.s s,.i .i64 base] H=.val (.fn 109 [.ptr H.length 0,.ptr (H.length+1) 0]) (H++zpt s base):=by
 obtain⟨g,k,h⟩:=zc2 zaf 95 (fun p:Bs×Int=>[.s p.1,.i .i64 p.2]) (fun _ _=>True) (fun p H r=>r=.val (.fn 109 [.ptr H.length 0,.ptr (H.length+1) 0]) (H++zpt p.1 p.2)) (by
  rintro⟨s,b⟩ ⟨s',b'⟩ H r _ _ he hr;simp only[jPa,V.s.injEq,V.i.injEq,jLb,jGb]at he;obtain⟨rfl,rfl⟩:=he;exact hr) (by
  rintro⟨s,b⟩ H _;refine zaA.sym zaf n0 (fn:=f95) rfl rfl (by simp[f95]) zyN (by kernel_rfl) [.uh H,.us s,.ui b] rfl ⟨by rw[zag];rfl,by rw[zag];rfl,trivial⟩ rfl (zaC _ _) ?_;simp -implicitDefEqProofs only[VC,isR,exU,Ask.den,E.den,O1.den,O2.den,O3.den,SH.den,zat,za9,bD,SB.den,zai,LQ,uu,uW,jOa,jUa,jDa];simp[zpt])
 exact⟨g,k,fun s b H=>h (s,b) H trivial⟩
def zdI (base:Nat):Bs→Nat→Option Nat
 | [],a=>some a
 |c::r,a=>if zbT c.toNat<base then(if a*base+(zbT c.toNat).toNat<340282366920938463463374607431768211456 then zdI base r (a*base+(zbT c.toNat).toNat)else none)else zdI base r a
noncomputable def zAx:Code→Code×Code
 | .rangeFunc _ _ a b=>(a,b)
 |_=>(.skip,.skip)
noncomputable def zAn:Code:=(zAx (sub [tt,tt,ff,tt,ff] (zae f76))).1
noncomputable def zAo:Code:=(zAx (sub [tt,tt,ff,tt,ff] (zae f76))).2
abbrev whH (s:Bs)(base at_:Int)(lo hi:Nat):zaa:=[some ⟨3,[.i .i64 base],.all⟩,some ⟨3,[.i .i64 at_],.all⟩,some ⟨131,[.i .u64 lo,.i .u64 hi],.all⟩,some ⟨9,[.s s],.all⟩,some ⟨3,[.i .i64 base],.all⟩]
theorem zzd {call:zad}(hC:call.Sound prog TT){r:Option Nat}{hs:List HE}{t:Tm}{K:zaa}{v:V}(hw:t.wid=27)(h13:t.get 13=v){Q:Out→List HE→Prop}
 (hQ:∀tA:Tm,tA.wid=27→tA.get 8=v→(∀j,j≤7→tA.get j=t.get j)→Q (.norm tA K) hs):zba prog TT r hs zAn t K Q:=by
 refine zba.reg (t':=?t1) (H':=?H1) zaf hC (by kernel_rfl) ?e1 ?q1;case e1=>
  refine zar ?_;refine zab rfl (by simp[h13]<;>rfl) (by rfl) (by simp[hw]) ?_;exact zal
 refine hQ _ (by simp[hw]) (by simp) ?_;intro j hj;have:¬j=8:=by omega
 simp[this]
theorem zze {call:zad}(hC:call.Sound prog TT){r:Option Nat}{hs:List HE}{t:Tm}(s:Bs)(base:Nat)(at_:Int)(hb:base=2∨base=10∨base=16)(a v:Nat)(ha:a<340282366920938463463374607431768211456)(hv:v<16)
 (htim:∀p:Nat×Nat×Nat×Nat,p.1<18446744073709551616∧p.2.1<18446744073709551616∧p.2.2.1<18446744073709551616∧p.2.2.2<18446744073709551616→∀H,call 96 [zd6 p.1 p.2.1,.i .u64 p.2.2.1,.i .u64 p.2.2.2] H=.val (ztq (zrB p.1 p.2.1 p.2.2.1 p.2.2.2)) H)
 (hmust:∀(b:Bool)(e k:Int)(H:zaa),call 55 [.b b,.i .i64 e,.i .i64 k] H=if b=true then .val .un H else .pan (zcu e k) H)
 (hw:t.wid=27)(h8:t.get 8=.i .u64 v)(h4:t.get 4=.ptr 0 0)(h5:t.get 5=.ptr 1 0)(h7:t.get 7=.ptr 2 0){Q:Out→List HE→Prop}
 (hG:∀tA:Tm,a*base+v<340282366920938463463374607431768211456→Q (.norm tA (whH s base at_ ((a*base+v)%18446744073709551616) ((a*base+v)/18446744073709551616))) hs)
 (hP:∀(tA:Tm)(HA:zaa),HA.length=5→¬a*base+v<340282366920938463463374607431768211456→Q (.pan (zcu 33 at_) tA HA) hs):zba prog TT r hs zAo t (whH s base at_ (a%18446744073709551616) (a/18446744073709551616)) Q:=by
 have ht:=htim (a%18446744073709551616,a/18446744073709551616,base,v) ⟨by simp only;omega,by simp only;omega,by simp only;omega,by simp only;omega⟩;have en:zrB (a%18446744073709551616) (a/18446744073709551616) base v=a*base+v:=by
  unfold zrB;rcases hb with rfl|rfl|rfl<;>omega
 rw[en]at ht;simp only[ztq,zd6]at ht;have ex:TT.ext 96=none:=rfl;have ex2:TT.ext 55=none:=rfl;have hwr:IntKind.u64.wrap (base:Int)=base:=by rcases hb with rfl|rfl|rfl<;>rfl
 generalize a*base+v=n at ht hG hP;generalize a%18446744073709551616=lo at ht;generalize a/18446744073709551616=hi at ht;have eN:n<340282366920938463463374607431768211456→n/18446744073709551616%18446744073709551616=n/18446744073709551616:=fun h=>by omega
 generalize n%18446744073709551616=lo' at ht hG;generalize n/18446744073709551616%18446744073709551616=hi' at ht eN;clear en ha htim;refine zba.block ?_;apply zba.seq;refine zba.reg (t':=?t1) (H':=?H1) zaf hC (by kernel_rfl) ?e1 ?q1;case e1=>
  refine zar ?_;refine zab rfl (by simp<;>rfl) (by rfl) (by simp[hw]) ?_;exact zal
 apply zaI;apply zba.seq;refine zba.reg (t':=?t2) (H':=?H2) zaf hC (by kernel_rfl) ?e2 ?q2;case e2=>
  refine zar ?_;iterate 10 refine zab rfl (by simp[h8,h4,h5,h7,ht,hwr,ex]<;>rfl) (by rfl) (by simp[hw]) ?_
  exact zal
 apply zaI;cases hd:decide (n<340282366920938463463374607431768211456)with
 |true=>
  have hm:∀H,call 55 [.b true,.i .i64 33,.i .i64 at_] H=.val .un H:=fun H=>by rw[hmust];rfl
  refine zba.reg (t':=?t3) (H':=?H3) zaf hC (by kernel_rfl) ?e3 ?q3;case e3=>
   refine zar ?_;iterate 3 refine zab rfl (by simp[h8,h4,h5,h7,hd,hm,ex2]<;>rfl) (by rfl) (by simp[hw]) ?_
   exact zal
  refine zdr ?_;rw[jTa]at hd;rw[←eN hd]at hG;exact hG _ hd
 |false=>
  have hm:∀H,call 55 [.b false,.i .i64 33,.i .i64 at_] H=.pan (zcu 33 at_) H:=fun H=>by rw[hmust];rfl
  refine zba.regP (t1:=?t4) (H1:=?H4) (v:=zcu 33 at_) (H':=?H5) zaf hC 2 (by kernel_rfl) rfl ?e4 rfl ?o4 ?q4;case e4=>
   iterate 2 refine zab rfl (by simp[h8,h4,h5,h7,hd,hm,ex2]<;>rfl) (by rfl) (by simp[hw]) ?_
   exact zal
  case o4=>
   simp[h8,h4,h5,h7,hd,hm,ex2]<;>rfl
  exact hP _ _ rfl (of_decide_eq_false hd)
theorem ztv (c:UInt8):0≤zbT c.toNat:=by
 have:=zkZ c;unfold zbT zln;split<;>(try split)<;>(try split)<;>omega
theorem zsH {call:zad} (hC:call.Sound prog TT) (s:Bs) (base:Nat) (at_:Int) (hb:base=2∨base=10∨base=16) (hlen:s.length<1100000)
    (hval:∀c:UInt8,∀H,call 94 [.i .u8 c.toNat,.i .i64 base] H=.val (.tup [.i .u64 (zbT c.toNat),.b (decide (zbT c.toNat<base))]) H)
    (htim:∀p:Nat×Nat×Nat×Nat,p.1<18446744073709551616∧p.2.1<18446744073709551616∧p.2.2.1<18446744073709551616∧p.2.2.2<18446744073709551616→∀H,call 96 [zd6 p.1 p.2.1,.i .u64 p.2.2.1,.i .u64 p.2.2.2] H=.val (ztq (zrB p.1 p.2.1 p.2.2.1 p.2.2.2)) H)
    (hmust:∀(b:Bool)(e k:Int)(H:zaa),call 55 [.b b,.i .i64 e,.i .i64 k] H=if b=true then .val .un H else .pan (zcu e k) H)
    {l:Nat}{rec:Loop}{t0:Tm}(hfn:∃f,prog.funcs[rec.fn]? = some f)(hst:rec.state=.ready)(hpd:rec.pending=none)(hps:rec.params=#[13])(hasg:rec.assign=zAn)(hbdy:rec.body=zAo)(hw0:t0.wid=27)(e4:t0.get 4=.ptr 0 0)(e5:t0.get 5=.ptr 1 0)(e7:t0.get 7=.ptr 2 0){Q:Out→List HE→Prop}
    (hP:∀(t':Tm)(H':zaa)(rec':Loop),H'.length=5→zdI base s 0=none→Q (.pan (zcu 33 at_) t' H') [⟨l,.loop rec',t0,rec.tmps⟩])
    (hE:∀(t':Tm)(a:Nat),zdI base s 0=some a→a<340282366920938463463374607431768211456→t'.wid=28→Q (.exit 0 t' (whH s base at_ (a%18446744073709551616) (a/18446744073709551616))) [⟨l,.loop rec,t0,rec.tmps⟩]) :
    ∀(L pre:Bs)(a:Nat)(t:Tm),s=pre++L→a<340282366920938463463374607431768211456→zdI base s 0=zdI base L a→t.wid=28→t.get 0=.yld l→t.get 1=.ptr 3 0→t.get 2=.ptr 4 0→t.get 8=.i .i64 (s.length:Nat)→t.get 9=.i .i64 (pre.length:Nat) →
    zjU prog TT none [⟨l,.loop rec,t0,rec.tmps⟩] (sub [true,false,false] (zae f109)) t (whH s base at_ (a%18446744073709551616) (a/18446744073709551616)) Q:=by
  have hrecE:(⟨l,.loop {rec with state:=if(none:Option Code).isNone then .ready else .done,pending:=none},t0,rec.tmps⟩:HE)=⟨l,.loop rec,t0,rec.tmps⟩:=by
    cases rec
    simp only at hst hpd
    subst hst hpd
    rfl
  intro L
  induction L with
  | nil=>
    intro pre a t hs ha hwh hw t0 t1 t2 t8 t9
    have hF:=ai @t0 (ai @t1 (ai @t2 (ai @t8 @t9)))
    have hnl:¬((pre.length:Int)<s.length):=by rw[hs];simp
    refine zjU.round ?_
    apply zba.seq
    refine zba.reg (t':=?t1) (H':=?H1) zaf hC (by kernel_rfl) ?e1 ?q1
    case e1=>
      refine zar ?_
      refine zab rfl (by simp[hF,hnl]<;>rfl) (by rfl) (by simp[hw]) ?_
      exact zal
    apply zaI
    apply zba.seq
    refine zba.cond (o:=?o2) (b:=?b2) ?g2 ?r2 ?y2 ?n2
    case g2=>simp[hF,hnl]<;>rfl
    case r2=>rfl
    case y2=>intro h;simp at h
    case n2=>
      intro _
      refine zba.exit ?_
      exact hE _ a (by rw[hwh];rfl) ha (by simp[hw])
  | cons c L ih=>
    intro pre a t hs ha hwh hw t0 t1 t2 t8 t9
    have hF:=ai @t0 (ai @t1 (ai @t2 (ai @t8 @t9)))
    have hlt:(pre.length:Int)<s.length:=by rw[hs];simp;omega
    refine zjU.round ?_
    apply zba.seq
    refine zba.reg (t':=?t1c) (H':=?H1c) zaf hC (by kernel_rfl) ?e1c ?q1c
    case e1c=>
      refine zar ?_
      refine zab rfl (by simp[hF,hlt]<;>rfl) (by rfl) (by simp[hw]) ?_
      exact zal
    apply zaI
    apply zba.seq
    refine zba.cond (o:=?o2c) (b:=?b2c) ?g2c ?r2c ?y2c ?n2c
    case g2c=>simp[hF,hlt]<;>rfl
    case r2c=>rfl
    case n2c=>intro h;simp at h
    case y2c =>
      intro _
      refine zba.skip ?_
      apply zaI
      apply zba.seq
      refine zba.block ?_
      apply zba.seq
      refine zba.reg (t':=?t3c) (H':=?H3c) zaf hC (by kernel_rfl) ?e3c ?q3c
      case e3c=>
        refine zar ?_
        iterate 2 refine zab rfl (by simp[hF,hlt]<;>rfl) (by rfl) (by simp[hw]) ?_
        exact zal
      apply zaI
      apply zba.seq
      have hat:atS s pre.length=c.toNat:=by rw[hs];exact zjZ pre L c _ rfl
      have hin:((pre.length:Nat):Int).toNat=pre.length:=by omega
      have hv0:=ztv c
      obtain⟨v,hv⟩:∃v:Nat,zbT c.toNat=v:=⟨(zbT c.toNat).toNat,by omega⟩
      have hvl:=hval c
      rw[hv]at hvl
      refine zba.lift (Q2:=fun o=>∃t':Tm,o=.norm t' (whH s base at_ (a%18446744073709551616) (a/18446744073709551616))∧t'.wid=28∧t'.get 0=.yld l∧t'.get 1=.ptr 3 0∧t'.get 2=.ptr 4 0∧t'.get 5=.i .u64 v∧t'.get 6=.b (decide ((v:Int)<base))∧t'.get 8=.i .i64 (s.length:Nat)∧t'.get 9=.i .i64 (pre.length:Nat)) ?tri ?_
      case tri=>
        refine Tri.sym (R:=fun _=>False) zaf hC zv4 (by kernel_rfl) (σ:=[.uh (whH s base at_ (a%18446744073709551616) (a/18446744073709551616)),.uv (.yld l),.un 3,.un 4,.ui (pre.length:Nat),.ui (s.length:Nat),.us s,.ui base]) (by simp[hw]<;>rfl) rfl ⟨by simp[hF],by simp[hF],by simp[hF],by simp,by simp[hF],by simp[hF],trivial⟩ rfl ⟨by simp,by simp⟩ ?_
        simp -implicitDefEqProofs only[VC,isR,exU,Ask.den,E.den,O1.den,O2.den,O3.den,SH.den,zat,za9,bD,SB.den,zai,LQ,uu,uW,jOa,jUa,jDa,hat]
        refine⟨by omega,hlt,.inl ⟨_,_,fun K=>hvl K,?_⟩⟩
        intro t' hw' f0 f1 f2 f5 f6 f8 f9
        exact⟨t',rfl,hw',f0,f1,f2,f5,f6,f8,f9⟩
      rintro _ ⟨t',rfl,hw',f0,f1,f2,f5,f6,f8,f9⟩
      refine⟨trivial,?_⟩
      apply zaI
      clear t0 t1 t2 t8 t9 hF
      have wr1:IntKind.i64.wrap ((pre.length:Int)+1)=(pre.length:Int)+1:=w64 (by omega) (by omega)
      have again:∀(a':Nat) (t3:Tm),a'<340282366920938463463374607431768211456→zdI base s 0=zdI base L a'→t3.wid=28→t3.get 0=.yld l→t3.get 1=.ptr 3 0→t3.get 2=.ptr 4 0→t3.get 8=.i .i64 (s.length:Nat)→t3.get 9=.i .i64 (pre.length:Nat) →
          zba prog TT none [⟨l,.loop rec,t0,rec.tmps⟩] (sub [tt,ff,ff,tt,tt,tt] (zae f109)) t3 (whH s base at_ (a'%18446744073709551616) (a'/18446744073709551616)) (zlG prog TT none (sub [true,false,false] (zae f109)) Q):=by
        intro a' t3 ha' hwa' hw3 g0 g1 g2 g8 g9
        refine zba.reg (t':=?t9) (H':=?H9) zaf hC (by kernel_rfl) ?e9 ?q9
        case e9=>
          refine zar ?_
          iterate 2 refine zab rfl (by simp[g0,g1,g2,g8,g9,wr1]<;>rfl) (by rfl) (by simp[zbh,zbA,hw3,Nat.blt_eq]) ?_
          exact zal
        refine zkt ?_
        refine ih (pre++[c]) a' _ ?_ ha' hwa' ?_ ?_ ?_ ?_ ?_ ?_
        · rw[hs];simp
        all_goals simp[hw3,g0,g1,g2,g8]
      apply zba.seq
      by_cases hvb:(v:Int)<base
      · rw [jVb hvb]at f6
        have hv16:v<16:=by rcases hb with rfl|rfl|rfl<;>omega
        have hwc:zdI base (c::L) a=if a*base+v<340282366920938463463374607431768211456 then zdI base L (a*base+v)else none:=by
          simp only[zdI]
          rw[hv,if_pos hvb,jCa]
        by_cases hbig:a*base+v<340282366920938463463374607431768211456
        · refine zba.yield (vs:=[.i .u64 v]) (t1:=?ty) (H1:=?Hy) zaf hC (by kernel_rfl) 4 hps hasg hbdy rfl ?ey ?gy rfl ?jy ?vy hfn rfl hst ?fy (by simp[hw0]) ?_
          case ey=>
            iterate 2 refine zab rfl (by simp[f0,f1,f2,f5,f6,f8,f9]<;>rfl) (by rfl) (by simp[zbh,zbA,hw',Nat.blt_eq]) ?_
            iterate 2 refine zab (by simp[zaD]) (by simp[f0,f1,f2,f5,f6,f8,f9]<;>rfl) (by rfl) (by simp[zbh,zbA,hw',Nat.blt_eq]) ?_
            exact zal
          case gy=>simp[zaD]
          case jy=>simp[f0]
          case vy=>simp[f5]
          case fy=>simp[zbh,hw',Nat.blt_eq]
          refine zzd hC (v:=.i .u64 v) (by simp[zhN,hw0]) (by simp[zhN]) ?_
          intro tA hwA h8A hkA
          refine⟨_,_,_,rfl,rfl,?_⟩
          refine zze hC s base at_ hb a v ha hv16 htim hmust hwA h8A (by rw[hkA 4 (by omega)];simp[zhN,e4]) (by rw[hkA 5 (by omega)];simp[zhN,e5]) (by rw[hkA 7 (by omega)];simp[zhN,e7]) (fun tB _=>?_) (fun _ _ _ h=>absurd hbig h)
          refine⟨_,rfl,none,_,⟨rfl,rfl⟩,?t26,?H26,?er6,?_⟩
          case er6=>
            refine zab (by simp[zaD]) (by simp[f0,f1,f2,f5,f6,f8,f9]<;>rfl) (by rfl) (by simp[zbh,zbA,hw',Nat.blt_eq]) ?_
            refine zab rfl (by simp[f0,f1,f2,f5,f6,f8,f9]<;>rfl) (by rfl) (by simp[zbh,zbA,hw',Nat.blt_eq]) ?_
            exact zal
          rw[hrecE]
          apply zaI
          refine zba.cond (o:=?o8) (b:=?b8) ?g8 ?r8 ?y8 ?n8
          case g8=>simp[f6]<;>rfl
          case r8=>rfl
          case y8=>intro h;simp at h
          case n8=>
            intro _
            refine zba.skip ?_
            refine zdr ?_
            apply zaI
            refine again _ _ hbig (by rw[hwh,hwc,if_pos hbig]) ?_ ?_ ?_ ?_ ?_ ?_
            all_goals simp[hw',f0,f1,f2,f8,f9]
        · refine zba.yieldP (vs:=[.i .u64 v]) (t1:=?tz) (H1:=?Hz) zaf hC (by kernel_rfl) 4 hps hasg hbdy rfl ?ez ?gz rfl ?jz ?vz hfn rfl hst (by simp[hw0]) ?_
          case ez=>
            iterate 2 refine zab rfl (by simp[f0,f1,f2,f5,f6,f8,f9]<;>rfl) (by rfl) (by simp[zbh,zbA,hw',Nat.blt_eq]) ?_
            iterate 2 refine zab (by simp[zaD]) (by simp[f0,f1,f2,f5,f6,f8,f9]<;>rfl) (by rfl) (by simp[zbh,zbA,hw',Nat.blt_eq]) ?_
            exact zal
          case gz=>simp[zaD]
          case jz=>simp[f0]
          case vz=>simp[f5]
          refine zzd hC (v:=.i .u64 v) (by simp[zhN,hw0]) (by simp[zhN]) ?_
          intro tA hwA h8A hkA
          refine⟨_,_,_,rfl,rfl,?_⟩
          refine zze hC s base at_ hb a v ha hv16 htim hmust hwA h8A (by rw[hkA 4 (by omega)];simp[zhN,e4]) (by rw[hkA 5 (by omega)];simp[zhN,e5]) (by rw[hkA 7 (by omega)];simp[zhN,e7]) (fun tB h=>absurd h hbig) (fun tB HB hl5 _=>?_)
          exact⟨_,_,_,_,rfl,rfl,hP _ _ _ hl5 (by rw[hwh,hwc,if_neg hbig])⟩
      · rw [jNb hvb]at f6
        have hwc:zdI base (c::L) a=zdI base L a:=by
          simp only[zdI]
          rw[hv,if_neg hvb]
        refine zba.reg (t':=?t7) (H':=?H7) zaf hC (by kernel_rfl) ?e7 ?q7
        case e7=>
          refine zar ?_
          iterate 2 refine zab rfl (by simp[f0,f1,f2,f5,f6,f8,f9]<;>rfl) (by rfl) (by simp[zbh,zbA,hw',Nat.blt_eq]) ?_
          iterate 4 refine zb2 (by simp[zaD]) (by simp[zbh,zbA,hw',Nat.blt_eq]) ?_
          refine zab rfl (by simp[f0,f1,f2,f5,f6,f8,f9]<;>rfl) (by rfl) (by simp[zbh,zbA,hw',Nat.blt_eq]) ?_
          exact zal
        apply zaI
        refine zba.cond (o:=?o6) (b:=?b6) ?g6 ?r6 ?y6 ?n6
        case g6=>simp[f6]<;>rfl
        case r6=>rfl
        case y6=>intro h;simp at h
        case n6=>
          intro _
          refine zba.skip ?_
          refine zdr ?_
          apply zaI
          refine again a _ ha (by rw[hwh,hwc]) ?_ ?_ ?_ ?_ ?_ ?_
          all_goals simp[hw',f0,f1,f2,f8,f9]
def zAp (s:Bs)(base at_:Int)(t:Tm):Option Nat→Out
 |some a=>.norm t (whH s base at_ (a%18446744073709551616) (a/18446744073709551616))
 |none=>.pan (zcu 33 at_) t [none,none,none,none,none]
theorem zsp {H:zaa}(h:H.length=5):HLe [none,none,none,none,none] H:=by
 refine⟨h.symm,fun i b hi=>?_⟩;match i,hi with
 |0,hi=>cases hi
 |1,hi=>cases hi
 |2,hi=>cases hi
 |3,hi=>cases hi
 |4,hi=>cases hi
 |n+5,hi=>simp at hi
theorem zsr {call:zad}(hC:call.Sound prog TT)(s:Bs)(base:Nat)(at_:Int)(hb:base=2∨base=10∨base=16)(hlen:s.length<1100000)
 (hval:∀c:UInt8,∀H,call 94 [.i .u8 c.toNat,.i .i64 base] H=.val (.tup [.i .u64 (zbT c.toNat),.b (decide (zbT c.toNat<base))]) H)
 (htim:∀p:Nat×Nat×Nat×Nat,p.1<18446744073709551616∧p.2.1<18446744073709551616∧p.2.2.1<18446744073709551616∧p.2.2.2<18446744073709551616→∀H,call 96 [zd6 p.1 p.2.1,.i .u64 p.2.2.1,.i .u64 p.2.2.2] H=.val (ztq (zrB p.1 p.2.1 p.2.2.1 p.2.2.2)) H)
 (hmust:∀(b:Bool)(e k:Int)(H:zaa),call 55 [.b b,.i .i64 e,.i .i64 k] H=if b=true then .val .un H else .pan (zcu e k) H)
 {l:Nat}{rec:Loop}{t0:Tm}(hfn:∃f,prog.funcs[rec.fn]? = some f)(hst:rec.state=.ready)(hpd:rec.pending=none)(hps:rec.params=#[13])(hasg:rec.assign=zAn)(hbdy:rec.body=zAo)(hw0:t0.wid=27)(e4:t0.get 4=.ptr 0 0)(e5:t0.get 5=.ptr 1 0)(e7:t0.get 7=.ptr 2 0) :
 zba prog TT none [⟨l,.loop rec,t0,rec.tmps⟩] (zae f109) (Tm.init f109.ntmps [.yld l,.ptr 3 0,.ptr 4 0]) (whH s base at_ 0 0) (zoI TT f109 l rec.tmps t0 (zAp s base at_ t0 (zdI base s 0)) []):=by
 have h0:(Tm.init f109.ntmps [.yld l,.ptr 3 0,.ptr 4 0]).get 0=.yld l:=by rw[zag];rfl
 have h1:(Tm.init f109.ntmps [.yld l,.ptr 3 0,.ptr 4 0]).get 1=.ptr 3 0:=by rw[zag];rfl
 have h2:(Tm.init f109.ntmps [.yld l,.ptr 3 0,.ptr 4 0]).get 2=.ptr 4 0:=by rw[zag];rfl
 have hw:(Tm.init f109.ntmps [.yld l,.ptr 3 0,.ptr 4 0]).wid=28:=rfl;generalize Tm.init f109.ntmps [.yld l,.ptr 3 0,.ptr 4 0]=t at *;apply zba.seq;refine zba.reg (t':=?t1) (H':=?H1) zaf hC (by kernel_rfl) ?e1 ?q1;case e1=>
  refine zar ?_;iterate 3 refine zab rfl (by simp[h0,h1,h2]<;>rfl) (by rfl) (by simp[hw]) ?_
  exact zal
 apply zaI;refine zba.block ?_;refine zba.loop ?_;refine zsH hC s base at_ hb hlen hval htim hmust hfn hst hpd hps hasg hbdy hw0 e4 e5 e7 ?_ ?_ s [] 0 _ rfl (by omega) rfl ?_ ?_ ?_ ?_ ?_ ?_
 ·intro t' H' rec' hl hn;rw[hn];exact .inr ⟨rec',_,t',H',[none,none,none,none,none],zsp hl,rfl,rfl,rfl⟩
 ·intro t' a ha _ hw';rw[ha];refine zlF ?_;exact .inl ⟨rec,_,_,.tup [],HLe.refl _,⟨_,.inl rfl,rfl⟩,rfl,by rw[hst];simp,.inl ⟨hpd,rfl⟩⟩
 all_goals simp[hw,h0,h1,h2]
theorem zme (base:Nat):∀(L:Bs)(a b:Nat),zdI base L a=some b→a<340282366920938463463374607431768211456→b<340282366920938463463374607431768211456
 | [],a,b,h,ha=>by
  have h:=jWa h;rw[←h];exact ha
 |c::r,a,b,h,ha=>by
  simp only[zdI]at h;by_cases h1:zbT c.toNat<base
  ·rw[if_pos h1]at h;by_cases h2:a*base+(zbT c.toNat).toNat<340282366920938463463374607431768211456
   ·rw[if_pos h2]at h;exact zme base r _ b h h2
   ·rw[if_neg h2]at h;cases h
  ·rw[if_neg h1]at h;exact zme base r a b h ha
def zwo (base:Nat)(s:Bs)(at_:Int):Res:=match zdI base s 0 with
 |some a=>.val (.s (zlj a))
 |none=>.pan (zcu 33 at_)
theorem zo7 {call:zad}(hC:call.Sound prog TT)(s:Bs)(base:Nat)(at_:Int)(hb:base=2∨base=10∨base=16)(hlen:s.length<1100000)
 (hval:∀c:UInt8,∀H,call 94 [.i .u8 c.toNat,.i .i64 base] H=.val (.tup [.i .u64 (zbT c.toNat),.b (decide (zbT c.toNat<base))]) H)
 (htim:∀p:Nat×Nat×Nat×Nat,p.1<18446744073709551616∧p.2.1<18446744073709551616∧p.2.2.1<18446744073709551616∧p.2.2.2<18446744073709551616→∀H,call 96 [zd6 p.1 p.2.1,.i .u64 p.2.2.1,.i .u64 p.2.2.2] H=.val (ztq (zrB p.1 p.2.1 p.2.2.1 p.2.2.2)) H)
 (hmust:∀(b:Bool)(e k:Int)(H:zaa),call 55 [.b b,.i .i64 e,.i .i64 k] H=if b=true then .val .un H else .pan (zcu e k) H)
 (hdig:∀(s:Bs)(base:Int)(H:zaa),call 95 [.s s,.i .i64 base] H=.val (.fn 109 [.ptr H.length 0,.ptr (H.length+1) 0]) (H++zpt s base))
 (htxt:∀p:Nat×Nat,p.1<18446744073709551616∧p.2<18446744073709551616→∀H,call 97 [zd6 p.1 p.2] H=.val (.s (zlj (p.1+p.2*18446744073709551616))) H) :
 zmi prog TT 76 [.s s,.i .i64 base,.i .i64 at_] [] (isR (zwo base s at_)):=by
 have ex1:TT.ext 95=none:=rfl;have ex2:TT.ext 97=none:=rfl;refine⟨f76,_,rfl,rfl,by simp[f76],?_⟩;have h0:(Tm.init f76.ntmps [.s s,.i .i64 base,.i .i64 at_]).get 0=.s s:=by rw[zag];rfl
 have h1:(Tm.init f76.ntmps [.s s,.i .i64 base,.i .i64 at_]).get 1=.i .i64 base:=by rw[zag];rfl
 have h2:(Tm.init f76.ntmps [.s s,.i .i64 base,.i .i64 at_]).get 2=.i .i64 at_:=by rw[zag];rfl
 have hw:(Tm.init f76.ntmps [.s s,.i .i64 base,.i .i64 at_]).wid=27:=rfl;generalize Tm.init f76.ntmps [.s s,.i .i64 base,.i .i64 at_]=t at *;apply zba.seq;refine zba.reg (t':=?t1) (H':=?H1) zaf hC (by kernel_rfl) ?e1 ?q1;case e1=>
  refine zar ?_;iterate 3 refine zab rfl (by simp[h0,h1,h2]<;>rfl) (by rfl) (by simp[hw]) ?_
  exact zal
 apply zaI;apply zba.seq;refine zba.reg (t':=?t2) (H':=?H2) zaf hC (by kernel_rfl) ?e2 ?q2;case e2=>
  refine zar ?_;refine zab rfl (by simp[h0,h1,h2]<;>rfl) (by rfl) (by simp[hw]) ?_;exact zal
 apply zaI;iterate 2 apply zba.seq
 refine zba.reg (t':=?t3) (H':=?H3) zaf hC (by kernel_rfl) ?e3 ?q3;case e3=>
  refine zar ?_;iterate 3 refine zab rfl (by simp[h0,h1,h2,hdig,zpt,ex1]<;>rfl) (by rfl) (by simp[hw]) ?_
  exact zal
 apply zaI;refine zba.block ?_;refine zba.range (gv:=some (.fn 109 [.ptr 3 0,.ptr 4 0])) (oz:=?oz) (hsz:=[]) zaf (by simp) rfl Tryz.func109 rfl (zaf.func 109 _ _ rfl rfl).2 (by decide) (by simp) ?hQ ?hI;case hI=>
  intro l rec hfn hst hpd hps hasg hbdy;refine zsr hC s base at_ hb hlen hval htim hmust hfn hst hpd hps hasg hbdy ?_ ?_ ?_ ?_;all_goals simp[hw]
 case hQ=>
  cases hF:zdI base s 0 with
  |none=>
   simp only[zAp,zwo,hF];exact rfl
  |some a=>
   have hlt:=zme base s 0 a hF (by omega);have ht:=htxt (a%18446744073709551616,a/18446744073709551616) ⟨by simp only;omega,by simp only;omega⟩;rw[show a%18446744073709551616+a/18446744073709551616*18446744073709551616=a from by omega]at ht;simp only[zd6]at ht;simp only[zAp,zwo,hF];generalize a%18446744073709551616=lo at ht ⊢;generalize a/18446744073709551616=hi at ht ⊢;clear hlt;refine zdr ?_;apply zaI;apply zba.seq;refine zba.reg (t':=?t5) (H':=?H5) zaf hC (by kernel_rfl) ?e5 ?q5;case e5=>
    refine zar ?_;iterate 3 refine zab rfl (by simp[h0,h1,h2,ht,ex2]<;>rfl) (by rfl) (by simp[hw]) ?_
    exact zal
   apply zaI;refine zba.ret ?_;refine⟨.s (zlj a),rfl,?_⟩;simp[f76]
theorem zvQ {P:Program} {T:Tab} (hp:T.Plain) (F:FuncId) {α:Type} (enc:α→List V) (D:α→Prop) (r:α→Res) (hnl:∀a,D a→nlL (enc a)=true∧(r a).nl=true) (inj:∀a b,D a→D b→enc a=enc b→r a=r b)
    (h:∀a,D a→zbX P T F (enc a) [] (isR (r a))):∃g,zak P T F g∧∀a,D a→∀H,g (enc a) H=(r a).at H:=by
  classical
  refine⟨fun vs H=>if hd:∃a,D a∧vs=enc a then(r hd.choose).at H else .no,?_,?_⟩
  · intro vs H q hq hne
    simp only at hq
    split at hq
    · rename_i hd
      obtain⟨ha,he⟩:=hd.choose_spec
      generalize hd.choose=a at ha he hq
      subst he
      obtain⟨x,hx,_,hent,hw⟩:=h a ha
      refine⟨hent,fun M ρ w args hS hr=>?_⟩
      have k:=hw M [] w args (hS.forget hp) (nlL_rel (σ:=[]) _ args (hnl a ha).1 hr)
      subst hq
      have hn:=(hnl a ha).2
      cases hra:r a with
      | val v=>
        rw[hra]at hx hn
        cases x with
        | val v' J=>
          have hx:Res.val v=.val v':=hx
          cases hx
          refine jTd k ?_
          rintro e w' ⟨y,M',σ,rfl,he,hy,hk⟩
          exact⟨y,M',ρ,rfl,he.recall,zdF v y hn hy,hS.recall hk he⟩
        |pan v' J=>cases(show Res.val v=.pan v' from hx)
        |no=>exact hx.elim
      | pan v=>
        rw[hra]at hx hn
        cases x with
        | pan v' J=>
          have hx:Res.pan v=.pan v':=hx
          cases hx
          refine jTd k ?_
          rintro e w' ⟨y,M',σ,rfl,he,hy,hk⟩
          exact⟨y,M',ρ,rfl,he.recall,zdF v y hn hy,hS.recall hk he⟩
        |val v' J=>cases(show Res.pan v=.val v' from hx)
        |no=>exact hx.elim
    · exact absurd hq.symm hne
  · intro a ha H
    have hd:∃b,D b∧enc a=enc b:=⟨a,ha,rfl⟩
    obtain⟨h1,h2⟩:=hd.choose_spec
    show(if hd:∃b,D b∧enc a=enc b then(r hd.choose).at H else .no)=_
    rw[dif_pos hd,inj a _ ha h1 h2]
theorem zyc:∃g,zak prog TT 76 g∧∀(s:Bs) (base:Nat) (at_:Int),base=2∨base=10∨base=16→s.length<1100000→∀H,g [.s s,.i .i64 base,.i .i64 at_] H=(zwo base s at_).at H:=by
  obtain⟨g1,k1,s1⟩:=zra
  obtain⟨g2,k2,s2⟩:=zd3
  obtain⟨g3,k3,s3⟩:=zyi
  obtain⟨g4,k4,s4⟩:=zyh
  obtain⟨g5,k5,s5⟩:=zyj
  have hC:=ws (ws (ws (ws (ws n0 k1) k2) k3) k4) k5
  obtain⟨g,k,h⟩:=zvQ (P:=prog) (T:=TT) zao 76 (fun p:Bs×Nat×Int=>[.s p.1,.i .i64 p.2.1,.i .i64 p.2.2]) (fun p=>(p.2.1=2∨p.2.1=10∨p.2.1=16)∧p.1.length<1100000) (fun p=>zwo p.2.1 p.1 p.2.2)
    (fun p _=>⟨rfl,by unfold zwo;cases zdI p.2.1 p.1 0<;>rfl⟩)
    (fun p q _ _ he=>by
      simp only[jPa,V.s.injEq,V.i.injEq,jLb,jGb,jAd]at he
      obtain⟨h1,h2,h3⟩:=he
      rw[h1,h2,h3])
    (fun p hp=>zmi.fact zaf (zo7 hC p.1 p.2.1 p.2.2 hp.1 hp.2
      (fun c H=>by rw[zac _ _ _ _ rfl,zac _ _ _ _ rfl,zac _ _ _ _ rfl,zac _ _ _ _ rfl,zan];exact s1 _ _ (by omega) (by have:=c.toNat_lt;omega) (by have:=hp.1;omega) H)
      (fun q hq H=>by rw[zac _ _ _ _ rfl,zac _ _ _ _ rfl,zan];exact s3 q hq H)
      (fun b e k H=>by rw[zac _ _ _ _ rfl,zac _ _ _ _ rfl,zac _ _ _ _ rfl,zan];exact s2 b e k H)
      (fun s b H=>by rw[zac _ _ _ _ rfl,zan];exact s4 s b H)
      (fun q hq H=>by rw[zan];exact s5 q hq H)))
  exact⟨g,k,fun s base at_ hb hs H=>h (s,base,at_) ⟨hb,hs⟩ H⟩
abbrev zdO (call:zad):Prop:=∀(b:Bool)(e k:Int)(H:zaa),call 55 [.b b,.i .i64 e,.i .i64 k] H=if b=true then .val .un H else .pan (zcu e k) H
theorem zaU {call:zad}(hm:zdO call)(b:Bool)(e k:Int){A:Prop}{B:V→Prop}(h1:b=true→A)(h2:b=false→B (zcu e k)) :
 ((∀K,call 55 [.b b,.i .i64 e,.i .i64 k] K=.val (.tup []) K)∧A)∨∃v,(∀K,call 55 [.b b,.i .i64 e,.i .i64 k] K=.pan v K)∧B v:=by
 cases b with
 |true=>exact .inl ⟨fun K=>hm true e k K,h1 rfl⟩
 |false=>exact .inr ⟨_,fun K=>hm false e k K,h2 rfl⟩
def zb6 (base:Int):Bs→Nat→Option Nat
 | [],n=>some n
 |c::r,n=>if zbT c.toNat<base then zb6 base r (n+1)else if c.toNat≠95∨n=0 then some n else match r with
  |d::_=>if zbT d.toNat<base then zb6 base r (n+1)else none
  | []=>none
theorem zy0:zaQ TT shp f75.ntmps [] (zae f75) [] ⟨[(0,.f1 .vs (.va 0)),(1,.f1 (.vi .i64) (.va 1)),(2,.f1 (.vi .i64) (.va 2))],⟨.va 3,[],[]⟩,4,[]⟩ (KF TT f75 [0,1,2,7])=.leaf (.stop [tt,tt,ff,ff]) [(0,xs v0),(1,xi v1),(2,xi v2),(7,xi c0)] ⟨v3,[],[]⟩:=by kernel_rfl
theorem zt6:goT TT shp f75.ntmps [] [tt,tt,ff,ff,ff] (zae f75) [] ⟨[(0,.f1 .vs (.va 0)),(1,.f1 (.vi .i64) (.va 1)),(2,.f1 (.vi .i64) (.va 2)),(7,.f1 (.vi .i64) (.va 3))],⟨.va 4,[],[]⟩,5,[]⟩ (KF TT f75 [0,1,2,7])=let qc:E:=xw (xa v3 c1);let qb:SH:=⟨v4,[],[]⟩;let qa:Tree:=.leaf (.again [tt,tt,ff,ff,ff]) [(0,xs v0),(1,xi v1),(2,xi v2),(7,xi qc)] qb;let qd:Tree:=.fin (xi v3) qb;.ite (xL v3 (xl v0)) (.need (xE c0 v3) (.asks (.call 94 (x2 (xu (xA v0 v3)) (xi v1))) [.i,.b] (xt (x2 (xv v5) (xb v6))) (.ite v6 qa (.ite (xM (xA v0 v3) (xc 95)) qd (.ite (xe v3 c0) qd (.ite (xL qc (xl v0)) (.need (xE c0 qc) (.asks (.call 94 (x2 (xu (xA v0 qc)) (xi v1))) [.i,.b] (xt (x2 (xv v7) (xb v8))) (.asks (.call 55 (x3 (xb v8) (xi (xc 33)) (xi v2))) [] (.cv (.tup [])) qa (.pnc v9 qb)) (.stuck 0))) (.asks (.call 55 (x3 (xb (xL qc (xl v0))) (xi (xc 33)) (xi v2))) [] (.cv (.tup [])) qa (.pnc v7 qb)))))) (.stuck 0))) qd:=by kernel_rfl
def rnV (o:Option Nat)(at_:Int):Res:=match o with
 |some n=>.val (.i .i64 n)
 |none=>.pan (zcu 33 at_)
theorem zu3 {call:zad} (hC:call.Sound prog TT) (hm:zdO call) (base at_:Int) (hval:∀c:UInt8,∀H,call 94 [.i .u8 c.toNat,.i .i64 base] H=.val (.tup [.i .u64 (zbT c.toNat),.b (decide (zbT c.toNat<base))]) H) :
    ∀(L pre:Bs)(t:Tm)(H:zaa),(pre++L).length<1100000→t.wid=f75.ntmps→t.get 0=.s (pre++L)→t.get 1=.i .i64 base→t.get 2=.i .i64 at_→t.get 7=.i .i64 pre.length →
    ctx prog TT [tt,tt,ff,ff,ff] (zae f75) (zaF TT f75 (isR (rnV (zb6 base L pre.length) at_))) (.norm t H):=by
  intro L
  induction L with
  | nil=>
    intro pre t H hlen hw t0 t1 t2 t7
    refine zaM.symIn (p:=[tt,tt,ff,ff]) zaf hC rfl zt6 (by kernel_rfl) [.us (pre++[]),.ui base,.ui at_,.ui (pre.length:Nat),.uh H] rfl hw ⟨t0,t1,t2,t7,trivial⟩ rfl (zaC _ _) ?_
    simp -implicitDefEqProofs only[VC,isR,exU,Ask.den,E.den,O1.den,O2.den,O3.den,SH.den,zat,za9,bD,SB.den,zai,LQ,uu,uW,jOa,jUa,jDa]
    rw[jWb]
    exact⟨fun h=>absurd h (by omega),fun _=>rfl⟩
  | cons b L ih=>
    intro pre t H hlen hw t0 t1 t2 t7
    refine zaM.symIn (p:=[tt,tt,ff,ff]) zaf hC rfl zt6 (by kernel_rfl) [.us (pre++b::L),.ui base,.ui at_,.ui (pre.length:Nat),.uh H] rfl hw ⟨t0,t1,t2,t7,trivial⟩ rfl (zaC _ _) ?_
    clear t0 t1 t2 t7 hw
    simp -implicitDefEqProofs only[VC,isR,exU,Ask.den,E.den,O1.den,O2.den,O3.den,SH.den,zat,za9,bD,SB.den,zai,LQ,uu,uW,jOa,jUa,jDa]
    have hl:(pre++b::L).length=pre.length+(L.length+1):=by simp
    rw[hl]at hlen
    have w1:IntKind.i64.wrap ((pre.length:Int)+1)=((pre.length+1:Nat):Int):=by rw[w64 (by omega) (by omega)];omega
    simp only[w1,jCa,zjZ pre L b _ rfl,hl]
    have e1:pre++b::L=(pre++[b])++L:=by simp
    have e2:((pre.length+1:Nat):Int)=((pre++[b]).length:Nat):=by simp
    have go:zb6 base (b::L) pre.length=zb6 base L (pre.length+1)→∀t:Tm,t.wid=f75.ntmps→t.get 0=.s (pre++b::L)→t.get 1=.i .i64 base→t.get 2=.i .i64 at_→t.get 7=.i .i64 ((pre.length+1:Nat):Int) →
        ctx prog TT [tt,tt,ff,ff,ff] (zae f75) (zaF TT f75 (isR (rnV (zb6 base (b::L) pre.length) at_))) (.norm t H):=fun e t hw f0 f1 f2 f7=>by
      have:=ih (pre++[b]) t H (by simp;omega) hw (by rw[f0,e1]) f1 f2 (by rw[f7,e2])
      rw[e]
      simpa using this
    refine⟨fun _=>⟨by omega,.inl ⟨_,_,hval b,fun hv=>go (by simp only[zb6,if_pos (jBc hv)]),fun hv=>⟨fun h95=>?_,fun h95=>⟨fun h0=>?_,fun h0=>?_⟩⟩⟩⟩,fun h=>absurd h (by omega)⟩
    · simp only[zb6]
      rw[if_neg (of_decide_eq_false hv),if_pos (.inl (fun e=>by rw[e]at h95;exact absurd h95 (by decide)))]
      rfl
    · simp only[zb6]
      rw[if_neg (of_decide_eq_false hv),if_pos (.inr (by omega))]
      rfl
    · have hu:¬(b.toNat≠95∨pre.length=0):=by
        simp only[bne_eq_false_iff_eq]at h95
        omega
      cases L with
      | nil=>
        refine⟨fun h=>absurd h (by simp),fun h=>?_⟩
        refine zaU hm _ _ _ (fun hb=>by simp at hb) fun _=>?_
        simp only[zb6]
        rw[if_neg (of_decide_eq_false hv),if_neg hu]
        rfl
      | cons d r=>
        have hat:atS (pre++b::d::r) ((pre.length+1:Nat):Int)=d.toNat:=by
          rw[show pre++b::d::r=(pre++[b])++d::r from by simp]
          exact zjZ (pre++[b]) r d _ (by simp)
        rw[hat]
        refine⟨fun h=>⟨by omega,.inl ⟨_,_,hval d,zaU hm _ _ _ (fun hb=>go ?_) fun hb=>?_⟩⟩,fun h=>absurd h (by simp only[jIa];omega)⟩
        · simp only[zb6]
          rw[if_neg (of_decide_eq_false hv),if_neg hu]
          rw[if_pos (jBc hb)]
        · simp only[zb6]
          rw[if_neg (of_decide_eq_false hv),if_neg hu]
          rw[if_neg (of_decide_eq_false hb)]
          rfl
theorem ztZ:∃g,zak prog TT 75 g∧∀(s:Bs)(base at_:Int),s.length<1100000→base=2∨base=10∨base=16→∀H,g [.s s,.i .i64 base,.i .i64 at_] H=(match zb6 base s 0 with|some n=>.val (.i .i64 n) H|none=>.pan (zcu 33 at_) H):=by
 obtain⟨g1,k1,s1⟩:=zra;obtain⟨g2,k2,s2⟩:=zd3;obtain⟨g,k,s⟩:=zbC zaf zao 75 (fun p:Bs×Int×Int=>[.s p.1,.i .i64 p.2.1,.i .i64 p.2.2]) (fun p=>p.1.length<1100000∧(p.2.1=2∨p.2.1=10∨p.2.1=16)) (fun p=>rnV (zb6 p.2.1 p.1 0) p.2.2) (fun p _=>⟨rfl,by unfold rnV;split<;>rfl⟩)
  (fun a b _ _ h=>by
   simp only[jPa,V.s.injEq,V.i.injEq,jLb,jGb]at h;rw[h.1,h.2.1,h.2.2]) fun p hp=>by
  obtain⟨s,base,at_⟩:=p;simp only at hp ⊢;have hC:=ws (ws n0 k1) k2;have c1:zdO ((zad.none.with 94 g1).with 55 g2):=fun b e k H=>by rw[zan];exact s2 b e k H
  have c2:∀c:UInt8,∀H,((zad.none.with 94 g1).with 55 g2) 94 [.i .u8 c.toNat,.i .i64 base] H=.val (.tup [.i .u64 (zbT c.toNat),.b (decide (zbT c.toNat<base))]) H:=fun c H=>by
   rw[zac _ _ _ _ rfl,zan];exact s1 _ _ (by omega) (by have:=c.toNat_lt;omega) hp.2 H
  generalize(zad.none.with 94 g1).with 55 g2=call at hC c1 c2;refine zaA.sym zaf hC (fn:=f75) rfl rfl (by simp[f75]) zy0 (by kernel_rfl) [.us s,.ui base,.ui at_,.uh []] rfl ⟨by rw[zag];rfl,by rw[zag];rfl,by rw[zag];rfl,trivial⟩ rfl (zaC _ _) ?_;simp -implicitDefEqProofs only[VC,isR,exU,Ask.den,E.den,O1.den,O2.den,O3.den,SH.den,zat,za9,bD,SB.den,zai,LQ,uu,uW,jOa,jUa,jDa];intro t hw t0 t1 t2 t7;exact Tri.symLoop rfl (zu3 hC c1 base at_ c2 s [] t _ (by simpa using hp.1) hw t0 t1 t2 t7)
 refine⟨g,k,fun x base at_ hx hb H=>?_⟩;have:=s (x,base,at_) ⟨hx,hb⟩ H;rw[this];unfold rnV;cases zb6 base x 0<;>rfl
def zfp:Bs→Nat
 |d::_=>if d=43∨d=45 then 2 else 1
 | []=>1
def zgg:Bs→Option Nat
  | []=>some 0
  | c :: r=>if c=101∨c=69 then match zb6 10 ((c::r).drop (zfp r)) 0 with
      |some (k+1)=>some (zfp r+(k+1))
      |_=>none
    else some 0
def zvl (o:Option Nat)(at_:Int):Res:=match o with
 |some n=>.val (.i .i64 n)
 |none=>.pan (zcu 33 at_)
theorem zcg (base:Int):∀(L:Bs)(n m:Nat),zb6 base L n=some m→m≤n+L.length
 | [],n,m,h=>by simp only[zb6,jNa]at h;simp;omega
 | [c],n,m,h=>by
  simp only[zb6]at h;split at h
  ·simp only[jNa]at h;simp;omega
  ·split at h
   ·simp only[jNa]at h;simp;omega
   ·cases h
 |c::d::r,n,m,h=>by
  rw[zb6]at h;split at h
  ·have:=zcg base (d::r) (n+1) m h;simp only[jIa]at this ⊢;omega
  ·split at h
   ·simp only[jNa]at h;simp only[jIa];omega
   ·split at h
    ·have:=zcg base (d::r) (n+1) m h;simp only[jIa]at this ⊢;omega
    ·cases h
theorem zAe:zaQ TT shp f77.ntmps [] (zae f77) [] ⟨[(0,.f1 .vs (.va 0)),(1,.f1 (.vi .i64) (.va 1))],⟨.va 2,[],[]⟩,3,[]⟩ (KF TT f77 [])=let qd:SH:=⟨v2,[],[]⟩;let qf:E:=xl v0;let qe:E:=x3 (xb (xG v3 c0)) (xi (xc 33)) (xi v1);let qb:Tree:=.need (xE c2 qf) (.asks (.call 75 (x3 (xs (.f3 .sub v0 c2 qf)) (xi c10) (xi v1))) [.i] (xi v3) (.asks (.call 55 qe) [] (.cv (.tup [])) (.fin (xi (xw (xa c2 v3))) qd) (.pnc v4 qd)) (.pnc v3 qd));let qc:Tree:=.need (xE c1 qf) (.asks (.call 75 (x3 (xs (.f3 .sub v0 c1 qf)) (xi c10) (xi v1))) [.i] (xi v3) (.asks (.call 55 qe) [] (.cv (.tup [])) (.fin (xi (xw (xa c1 v3))) qd) (.pnc v4 qd)) (.pnc v3 qd));let qa:Tree:=.ite (xL c1 qf) (.ite (xe (xA v0 c1) (xc 43)) qb (.ite (xe (xA v0 c1) (xc 45)) qb qc)) qc;.ite (xQ v0 (.cs [])) (.fin (xi c0) qd) (.need (xL c0 qf) (.ite (xM (xA v0 c0) (xc 101)) (.ite (xM (xA v0 c0) (xc 69)) (.fin (xi c0) qd) qa) qa)):=by kernel_rfl
theorem zyd:∃g,zak prog TT 77 g∧∀(s:Bs) (at_:Int),s.length<1100000→∀H,g [.s s,.i .i64 at_] H=(zvl (zgg s) at_).at H:=by
  obtain⟨g1,k1,s1⟩:=ztZ
  obtain⟨g2,k2,s2⟩:=zd3
  obtain ⟨g, k,s⟩:=zbC zaf zao 77 (fun p:Bs×Int=>[.s p.1,.i .i64 p.2]) (fun p=>p.1.length<1100000) (fun p=>zvl (zgg p.1) p.2) (fun p _=>⟨rfl,by unfold zvl;split<;>rfl⟩)
    (fun a b _ _ h=>by
      simp only[jPa,V.s.injEq,V.i.injEq,jLb,jGb]at h
      rw[h.1,h.2]) fun p hp=>by
    obtain⟨s,at_⟩:=p
    simp only at hp ⊢
    have hC:=ws (ws n0 k1) k2
    have c1:zdO ((zad.none.with 75 g1).with 55 g2):=fun b e k H=>by rw[zan];exact s2 b e k H
    have c2:∀(x:Bs),x.length<1100000→∀H,((zad.none.with 75 g1).with 55 g2) 75 [.s x,.i .i64 10,.i .i64 at_] H=(match zb6 10 x 0 with|some n=>.val (.i .i64 n) H|none=>.pan (zcu 33 at_) H):=fun x hx H=>by rw[zac _ _ _ _ rfl,zan];exact s1 x 10 at_ hx (by simp) H
    generalize(zad.none.with 75 g1).with 55 g2=call at hC c1 c2
    refine zaA.sym zaf hC (fn:=f77) rfl rfl (by simp[f77]) zAe (by kernel_rfl) [.us s,.ui at_,.uh []] rfl ⟨by rw[zag];rfl,by rw[zag];rfl,trivial⟩ rfl (zaC _ _) ?_
    simp -implicitDefEqProofs only[VC,isR,exU,Ask.den,E.den,O1.den,O2.den,O3.den,SH.den,zat,za9,bD,SB.den,zai,LQ,uu,uW,jOa,jUa,jDa]
    have wq:∀q k:Nat,q<1200000→k<1200000→IntKind.i64.wrap ((q:Int)+k)=((q+k:Nat):Int):=fun q k h1 h2=>by rw[w64 (by omega) (by omega)];omega
    have tail:∀q:Nat,q≤2→q≤s.length→(zgg s=match zb6 10 (s.drop q) 0 with|some (k+1)=>some (q+(k+1))|_=>none) →
        ((q:Int)≤s.length∧((∃x:Int,(∀K,call 75 [.s ((s.take s.length).drop q),.i .i64 10,.i .i64 at_] K=.val (.i .i64 x) K)∧(((∀K,call 55 [.b (ltB 0 x),.i .i64 33,.i .i64 at_] K=.val (.tup []) K)∧zvl (zgg s) at_=.val (.i .i64 (IntKind.i64.wrap ((q:Int)+x))))∨∃v,(∀K,call 55 [.b (ltB 0 x),.i .i64 33,.i .i64 at_] K=.pan v K)∧zvl (zgg s) at_=.pan v))∨∃v,(∀K,call 75 [.s ((s.take s.length).drop q),.i .i64 10,.i .i64 at_] K=.pan v K)∧zvl (zgg s) at_=.pan v)):=by
      intro q hq hql he
      refine⟨by omega,?_⟩
      rw[jRd]
      have hrun:=c2 (s.drop q) (by rw[jJa];omega)
      cases hr:zb6 10 (s.drop q) 0 with
      | none=>
        rw[hr]at hrun he
        exact .inr ⟨_,hrun,by rw[he];rfl⟩
      | some k=>
        rw[hr]at hrun he
        have hle:=zcg 10 _ _ _ hr
        rw[jJa]at hle
        refine .inl ⟨_,hrun,zaU c1 _ _ _ (fun hb=>?_) fun hb=>?_⟩
        · cases k with
          |zero=>exact absurd hb (by decide)
          | succ k=>
            rw[he,wq q (k+1) (by omega) (by omega)]
            rfl
        · cases k with
          |zero=>rw[he];rfl
          |succ k=>rw[zg9]at hb;omega
    cases s with
    |nil=>exact⟨fun _=>rfl,fun h=>absurd rfl h⟩
    | cons c r=>
      have u8:∀(a:UInt8)(n:Nat),a.toNat=n→∀x:UInt8,((x.toNat:Nat):Int)=(n:Int)→x=a:=fun a n h x hx=>jUd (by omega)
      have h0:atS (c::r) 0=c.toNat:=rfl
      have ex:∀q,zfp r=q→(c=101∨c=69)→zgg (c::r)=match zb6 10 ((c::r).drop q) 0 with|some (k+1)=>some (q+(k+1))|_=>none:=by
        rintro q rfl hc
        simp only[zgg,if_pos hc]
      have sg2:(1:Int)<(c::r).length→(atS (c::r) 1=43∨atS (c::r) 1=45)→zfp r=2:=fun hl h=>by
        cases r with
        |nil=>exact absurd hl (by simp only[jIa,jVa];omega)
        | cons d r=>
          have h1:atS (c::d::r) 1=d.toNat:=rfl
          rw[h1]at h
          simp only[zfp]
          rw[if_pos (by rcases h with h|h;exact .inl (u8 43 43 rfl d h);exact .inr (u8 45 45 rfl d h))]
      have sg1:¬((1:Int)<(c::r).length∧(atS (c::r) 1=43∨atS (c::r) 1=45))→zfp r=1:=fun h=>by
        cases r with
        |nil=>rfl
        | cons d r=>
          have h1:atS (c::d::r) 1=d.toNat:=rfl
          rw[h1]at h
          simp only[zfp]
          rw[if_neg (by rintro(rfl|rfl)<;>exact h ⟨by simp only[jIa];omega,by decide⟩)]
      have hlen:(1:Int)≤(c::r).length:=by simp only[jIa];omega
      have t1:(c=101∨c=69)→¬((1:Int)<(c::r).length∧(atS (c::r) 1=43∨atS (c::r) 1=45))→_:=fun hc h=>tail 1 (by omega) (by omega) (ex 1 (sg1 h) hc)
      have t2:(c=101∨c=69)→(1:Int)<(c::r).length→(atS (c::r) 1=43∨atS (c::r) 1=45)→_:=fun hc hl h=>tail 2 (by omega) (by omega) (ex 2 (sg2 hl h) hc)
      have no:c≠101→c≠69→zvl (zgg (c::r)) at_=.val (.i .i64 0):=fun a b=>by
        simp only[zgg]
        rw[if_neg (by rintro(h|h);exact a h;exact b h)]
        rfl
      refine⟨fun h=>(by cases h),fun _=>⟨by omega,fun a=>⟨fun b=>no (fun e=>a (by rw[e];rfl)) (fun e=>b (by rw[e];rfl)),fun b=>?_⟩,fun a=>?_⟩⟩
      · have hc:c=101∨c=69:=.inr (u8 69 69 rfl c (by simpa[h0]using b))
        exact⟨fun hl=>⟨fun h=>t2 hc hl (.inl h),fun h=>⟨fun h'=>t2 hc hl (.inr h'),fun h'=>t1 hc (fun x=>by rcases x.2 with x|x;exact h x;exact h' x)⟩⟩,fun hl=>t1 hc (fun x=>hl x.1)⟩
      · have hc:c=101∨c=69:=.inl (u8 101 101 rfl c (by simpa[h0]using a))
        exact⟨fun hl=>⟨fun h=>t2 hc hl (.inl h),fun h=>⟨fun h'=>t2 hc hl (.inr h'),fun h'=>t1 hc (fun x=>by rcases x.2 with x|x;exact h x;exact h' x)⟩⟩,fun hl=>t1 hc (fun x=>hl x.1)⟩
  exact⟨g,k,fun x at_ hx H=>s (x,at_) hx H⟩
def ScB (H:zaa)(n:Nat)(s:Bs)(i:Nat)(l:Bool)(m:Nat):Prop:=H[n]? = some (some {ty:=55,cells:=[.s s,.i .i64 i,.b l,.mp m],kind:=.all})
theorem zo3 {call:zad}(hC:call.Sound prog TT)(H:zaa)(n:Nat)(s:Bs)(i:Nat)(l:Bool)(m:Nat)(hb:H[n]? = some (some {ty:=55,cells:=[.s s,.i .i64 i,.b l,.mp m],kind:=.all}))(hi:(i:Int)≤s.length)  : ziD prog TT 48 [.ptr n 0] H (fun v H2=>v=.s (s.drop i)∧H2=H):=by
 refine en f48 rfl rfl (by simp[f48]) 12 rfl fun t hw hg=>?_;have h0:=hg 0 _ rfl;clear hg;try simp only[Nd.enc_eq]at *
 have hF:=ai @h0 (ai @hb @hi);apply rS hC
 ·refine oA ?_;rfl
 apply sQ;refine Tri.regN (t':=?t2) (H':=?H2) zaf hC ?e2 ?q2;case e2=>
  refine zcF (t':=?t2) (by kernel_rfl) ?_ ?r902;iterate 10 refine QR.val rfl (by simp[hF]<;>rfl) (by rfl) (by simp[hw]) ?_
  exact QR.nil;case r902=>exact rfl
 apply sN;apply Tri.ret;refine zuI (by simp[f48,hF]<;>rfl) (by rfl) ?_;exact⟨rfl,rfl⟩
theorem ztY:∃g,zak prog TT 48 g∧∀(n:Nat)(s:Bs)(i:Nat)(l:Bool)(m:Nat)(H:zaa),ScB H n s i l m→i≤s.length→g [.ptr n 0] H=.val (.s (s.drop i)) H:=by
 obtain⟨g,h,k⟩:=ziE.spec (F:=48) zaf (D:=fun vs H=>∃(n:Nat)(s:Bs)(i:Nat)(l:Bool)(m:Nat),ScB H n s i l m∧i≤s.length∧vs=[.ptr n 0]) (R:=fun vs H v H2=>∀(n:Nat)(s:Bs)(i:Nat)(l:Bool)(m:Nat),ScB H n s i l m→vs=[.ptr n 0]→v=.s (s.drop i)∧H2=H) (by
  rintro vs H ⟨n,s,i,l,m,hb,hi,rfl⟩;refine(ziD.fact zaf (zo3 n0 H n s i l m hb (by omega))).mono fun v H2 ⟨h1,h2⟩=>?_;intro n' s' i' l' m' hb' e;cases e;unfold ScB at hb hb';rw[hb]at hb';simp only[jNa,Blk.mk.injEq,jPa,V.s.injEq,V.i.injEq,jLb,jAd]at hb';obtain⟨⟨rfl,rfl,_⟩,_⟩:=hb';exact⟨h1,h2⟩)
 refine⟨g,h,fun n s i l m H hb hi=>?_⟩;obtain⟨v,H2,h1,h2⟩:=k _ H ⟨n,s,i,l,m,hb,hi,rfl⟩;obtain⟨rfl,rfl⟩:=h1 n s i l m hb rfl;exact h2
def zbv (s p:Bs):Bool:=decide (p.length≤s.length)&&(s.take p.length==p)
theorem zqr (s p:Bs):zbv s p=zdM s 0 p:=by simp[zbv,zdM]
theorem znI {call:zad}(hC:call.Sound prog TT)(s p:Bs)(hl:(p.length:Int)≤s.length)  : zaV prog TT 93 [.s s,.s p] (fun r=>r=.val (.b (s.take p.length==p))):=by
 refine en f93 rfl rfl (by simp[f93]) 18 rfl fun t hw hg=>?_;have h0:=hg 0 _ rfl;have h1:=hg 1 _ rfl;clear hg;try simp only[Nd.enc_eq]at *
 have hF:=ai @h0 (ai @h1 @hl);apply rS hC
 ·refine oA ?_;rfl
 apply rS hC
 ·iterate 6 refine oA ?_
  iterate 6 refine oB ?_
  iterate 2 refine oA ?_
  rfl
 apply Tri.ret;refine zcP (by simp[f93,hF]<;>rfl) (by rfl) ?_;rfl
theorem znH {call:zad}(hC:call.Sound prog TT)(s p:Bs)(hl:¬(p.length:Int)≤s.length)  : zaV prog TT 93 [.s s,.s p] (fun r=>r=.val (.b false)):=by
 refine en f93 rfl rfl (by simp[f93]) 18 rfl fun t hw hg=>?_;have h0:=hg 0 _ rfl;have h1:=hg 1 _ rfl;clear hg;try simp only[Nd.enc_eq]at *
 have hF:=ai @h0 (ai @h1 @hl);apply rS hC
 ·refine oA ?_;rfl
 apply rS hC
 ·iterate 6 refine oA ?_
  iterate 6 refine oC ?_
  iterate 2 refine oA ?_
  rfl
 apply Tri.ret;refine zcP (by simp[f93,hF]<;>rfl) (by rfl) ?_;rfl
theorem zo6 {call:zad}(hC:call.Sound prog TT)(s p:Bs)(x:Bool)(hq:∀H,call 93 [.s s,.s p] H=.val (.b x) H)  : zaV prog TT 70 [.s s,.s p] (fun r=>r=.val (.b x)):=by
 refine en f70 rfl rfl (by simp[f70]) 8 rfl fun t hw hg=>?_;have h0:=hg 0 _ rfl;have h1:=hg 1 _ rfl;clear hg;try simp only[Nd.enc_eq]at *
 have hF:=ai @h0 (ai @h1 @hq);apply rS hC
 ·refine oA ?_;rfl
 apply rS hC
 ·iterate 4 refine oA ?_
  rfl
 apply Tri.ret;refine zcP (by simp[f70,hF]<;>rfl) (by rfl) ?_;rfl
theorem zyg:∃g,zak prog TT 93 g∧∀p:Bs×Bs,True→∀H,g [.s p.1,.s p.2] H=.val (.b (zbv p.1 p.2)) H:=by
 refine zbd zaf zao 93 (fun p:Bs×Bs=>[.s p.1,.s p.2]) (fun _=>True) (fun p=>.b (zbv p.1 p.2)) (fun _ _=>rfl) (fun _=>rfl) (fun a b h=>by simp only[jPa,V.s.injEq,jGb]at h;rw[h.1,h.2]) fun p _=>zaV.of2 ?_;by_cases h:p.2.length≤p.1.length
 ·have e:zbv p.1 p.2=(p.1.take p.2.length==p.2):=by simp[zbv,h]
  rw[e];exact znI n0 p.1 p.2 (by omega)
 ·have e:zbv p.1 p.2=false:=by simp[zbv,h]
  rw[e];exact znH n0 p.1 p.2 (by omega)
theorem znc:∃g,zak prog TT 70 g∧∀(s p:Bs)(H:zaa),g [.s s,.s p] H=.val (.b (zbv s p)) H:=by
 obtain⟨g1,k1,s1⟩:=zyg;obtain⟨g,h,s⟩:=zbd zaf zao 70 (fun p:Bs×Bs=>[.s p.1,.s p.2]) (fun _=>True) (fun p=>.b (zbv p.1 p.2)) (fun _ _=>rfl) (fun _=>rfl) (fun a b h=>by simp only[jPa,V.s.injEq,jGb]at h;rw[h.1,h.2]) fun p _=>zaV.of2 (zo6 (ws n0 k1) p.1 p.2 _ fun H=>by rw[zan];exact s1 p trivial H);exact⟨g,h,fun x p H=>s (x,p) trivial H⟩
def okP (s best x:Bs):Bool:=decide (best.length<x.length)&&(zbv s x && !((zf0 (zf6 x)||(zf6 x==95))&&(decide (x.length<s.length)&&zcR (atR s x.length))))
def sgF (s:Bs):List (Bs)→Bs→Bs
 | [],best=>best
 |x::l,best=>sgF s l (if okP s best x=true then x else best)
theorem zsE {call:zad}(hC:call.Sound prog TT){Q:Out→Prop}{H:zaa}(s:Bs)(hpre:∀p H,call 70 [.s s,.s p] H=.val (.b (zbv s p)) H)(hlet:∀c:Int,∀H,call 72 [.i .u8 c] H=.val (.b (zf0 c||(c==95))) H)(hwor:∀c:UInt8,∀H,call 73 [.i .u8 c.toNat] H=.val (.b (zcR c.toNat)) H) :
 ∀(L pre:List (Bs))(best:Bs)(t:Tm),sgnL=pre++L→t.wid=44→t.get 0=.s s→t.get 3=.s best→t.get 6=.agg (sgnL.map .s)→t.get 7=.i .i64 pre.length →
 (∀t':Tm,t'.wid=44→t'.get 3=.s (sgF s L best)→Q (.exit 0 t' H)) →
 zaM prog TT (sub [tt,tt,ff,tt,ff,ff] (zae f54)) t H Q:=by
 intro L;induction L with
 |nil=>
  intro pre best t hS hw h0 h3 h6 h7 hE;have hlast:pre.length=43:=by have:=congrArg List.length hS;simpa[sgnL]using this.symm
  have hF:=ai @h0 (ai @h3 (ai @h6 (ai @h7 @hlast)));refine zaM.round' ?_;apply rS hC
  ·refine zab rfl (by simp[hF]<;>rfl) (by rfl) (by simp[hw]) ?_;rfl
  apply sQ;refine cF (by simp[hF]<;>rfl) ?_;refine Tri.exit ?_;refine zaz ?_;refine zay ?_;exact hE _ (by simp[hw]) (by simp[h3,sgF])
 |cons x L ih=>
  intro pre best t hS hw h0 h3 h6 h7 hE;have hlen:=congrArg List.length hS;have h43:sgnL.length=43:=rfl;rw[h43]at hlen;simp only[jLa,jIa]at hlen;have hlt:(pre.length:Int)<43:=by omega
  have hx:sgnL[pre.length]? = some x:=by rw[hS];simp
  have hwp:IntKind.i64.wrap ((pre.length:Int)+1)=pre.length+1:=zaj (by omega) (by omega);have hmem:x∈sgnL:=by rw[hS];simp
  have hall:sgnL.all (fun x=>decide (0<x.length)&&decide (x.length<10))=true:=by decide
  have hx1:=jBb.1 hall x hmem;rw[jMa,jTa,jTa]at hx1;obtain⟨y,b,rfl⟩:∃y b,x=y++[b]:=⟨x.dropLast,x.getLast (by intro e;rw[e]at hx1;simp at hx1),(dropLast_concat_getLast _).symm⟩;have hxl:(y++[b]).length=y.length+1:=by simp
  rw[hxl]at hx1;have hlb:zf6 (y++[b])=b.toNat:=by simp[zf6]
  have hwy:IntKind.i64.wrap (y.length:Int)=y.length:=zaj (by omega) (by omega);have hp1:=hpre (y++[b]);have hl1:=hlet b.toNat
  cases hb:decide ((y.length:Int)+1≤best.length)with
  |true=>
   have hok:okP s best (y++[b])=false:=by
    have:¬best.length<(y++[b]).length:=by rw[jTa]at hb;rw[hxl];omega
    simp only[okP,jNb this,Bool.false_and]
   have hF:=ai @h0 (ai @h3 (ai @h6 (ai @h7 (ai @hlt (ai @hx (ai @hwp @hb))))));refine zaM.round' ?_;apply rS hC
   ·refine zab rfl (by simp[hF]<;>rfl) (by rfl) (by simp[hw]) ?_;rfl
   apply sQ;refine cT (by simp[hF]<;>rfl) ?_;apply Tri.skip;apply sN;apply sQ;apply bK;apply rS hC
   ·iterate 2 refine zab rfl (by simp[hF]<;>rfl) (by rfl) (by simp[hw]) ?_
    rfl
   apply sQ;apply rS hC
   ·iterate 6 refine zab rfl (by simp[hF]<;>rfl) (by rfl) (by simp[hw]) ?_
    iterate 4 refine zb2 (by simp[zaD,hF]) (by simp[hw]) ?_
    refine zab rfl (by simp[hF]<;>rfl) (by rfl) (by simp[hw]) ?_;rfl
   refine cT (by simp[hF]<;>rfl) ?_;refine Tri.exit ?_;refine zaz ?_;refine zav ?_;apply sN;apply rN hC
   ·iterate 2 refine zab rfl (by simp[hF]<;>rfl) (by rfl) (by simp[hw]) ?_
    rfl
   refine zaq ?_;refine ih (pre++[y++[b]]) best _ (by simpa using hS) (by simp[hw]) (by simp[h0]) (by simp[h3]) (by simp[h6]) (by simp<;>exact hwp) ?_;intro t' k1 k2;exact hE t' k1 (by rw[k2];simp only[sgF];rw[hok];simp)
  |false=>
   have hbt:best.length<(y++[b]).length:=by rw[jKc]at hb;rw[hxl];omega
   cases hpv:zbv s (y++[b])with
   |false=>
    have hok:okP s best (y++[b])=false:=by simp only[okP,hpv,Bool.false_and,Bool.and_false]
    have hp:∀H,call 70 [.s s,.s (y++[b])] H=.val (.b false) H:=fun H=>by rw[hp1,hpv]
    have hF:=ai @h0 (ai @h3 (ai @h6 (ai @h7 (ai @hlt (ai @hx (ai @hwp (ai @hb @hp)))))));refine zaM.round' ?_;apply rS hC
    ·refine zab rfl (by simp[hF]<;>rfl) (by rfl) (by simp[hw]) ?_;rfl
    apply sQ;refine cT (by simp[hF]<;>rfl) ?_;apply Tri.skip;apply sN;apply sQ;apply bK;apply rS hC
    ·iterate 2 refine zab rfl (by simp[hF]<;>rfl) (by rfl) (by simp[hw]) ?_
     rfl
    apply sQ;apply rS hC
    ·iterate 6 refine zab rfl (by simp[hF]<;>rfl) (by rfl) (by simp[hw]) ?_
     iterate 4 refine zab (by simp[zaD,hF]) (by simp[hF]<;>rfl) (by rfl) (by simp[hw]) ?_
     refine zab rfl (by simp[hF]<;>rfl) (by rfl) (by simp[hw]) ?_;rfl
    refine cT (by simp[hF]<;>rfl) ?_;refine Tri.exit ?_;refine zaz ?_;refine zav ?_;apply sN;apply rN hC
    ·iterate 2 refine zab rfl (by simp[hF]<;>rfl) (by rfl) (by simp[hw]) ?_
     rfl
    refine zaq ?_;refine ih (pre++[y++[b]]) best _ (by simpa using hS) (by simp[hw]) (by simp[h0]) (by simp[h3]) (by simp[h6]) (by simp<;>exact hwp) ?_;intro t' k1 k2;exact hE t' k1 (by rw[k2];simp only[sgF];rw[hok];simp)
   |true=>
    have hp:∀H,call 70 [.s s,.s (y++[b])] H=.val (.b true) H:=fun H=>by rw[hp1,hpv]
    cases hlv:(zf0 b.toNat||((b.toNat:Int)==95))with
    |false=>
     have hok:okP s best (y++[b])=true:=by simp only[okP,hpv,hlb,hlv,jVb hbt,Bool.false_and,Bool.not_false,Bool.and_true]
     have hl:∀H,call 72 [.i .u8 b.toNat] H=.val (.b false) H:=fun H=>by rw[hl1,hlv]
     have hF:=ai @h0 (ai @h3 (ai @h6 (ai @h7 (ai @hlt (ai @hx (ai @hwp (ai @hb (ai @hp (ai @hwy @hl)))))))));refine zaM.round' ?_;apply rS hC
     ·refine zab rfl (by simp[hF]<;>rfl) (by rfl) (by simp[hw]) ?_;rfl
     apply sQ;refine cT (by simp[hF]<;>rfl) ?_;apply Tri.skip;apply sN;apply sQ;apply bK;apply rS hC
     ·iterate 2 refine zab rfl (by simp[hF]<;>rfl) (by rfl) (by simp[hw]) ?_
      rfl
     apply sQ;apply rS hC
     ·iterate 6 refine zab rfl (by simp[hF]<;>rfl) (by rfl) (by simp[hw]) ?_
      iterate 4 refine zab (by simp[zaD,hF]) (by simp[hF]<;>rfl) (by rfl) (by simp[hw]) ?_
      refine zab rfl (by simp[hF]<;>rfl) (by rfl) (by simp[hw]) ?_;rfl
     refine cF (by simp[hF]<;>rfl) ?_;apply Tri.skip;apply sN;apply sQ;apply rS hC
     ·iterate 7 refine zab rfl (by simp[hF]<;>rfl) (by rfl) (by simp[hw]) ?_
      iterate 5 refine zb2 (by simp[zaD,hF]) (by simp[hw]) ?_
      iterate 2 refine zab rfl (by simp[hF]<;>rfl) (by rfl) (by simp[hw]) ?_
      iterate 5 refine zb2 (by simp[zaD,hF]) (by simp[hw]) ?_
      refine zab rfl (by simp[hF]<;>rfl) (by rfl) (by simp[hw]) ?_;rfl
     refine cF (by simp[hF]<;>rfl) ?_;apply Tri.skip;apply sN;apply rN hC
     ·iterate 2 refine zab rfl (by simp[hF]<;>rfl) (by rfl) (by simp[hw]) ?_
      rfl
     apply bN;apply sN;apply rN hC
     ·iterate 2 refine zab rfl (by simp[hF]<;>rfl) (by rfl) (by simp[hw]) ?_
      rfl
     refine zaq ?_;refine ih (pre++[y++[b]]) (y++[b]) _ (by simpa using hS) (by simp[hw]) (by simp[h0]) (by simp[h3]) (by simp[h6]) (by simp<;>exact hwp) ?_;intro t' k1 k2;exact hE t' k1 (by rw[k2];simp only[sgF];rw[hok];simp)
    |true=>
     have hl:∀H,call 72 [.i .u8 b.toNat] H=.val (.b true) H:=fun H=>by rw[hl1,hlv]
     cases hg:decide ((y.length:Int)+1<s.length)with
     |false=>
      have hgn:¬(y++[b]).length<s.length:=by rw[jKc]at hg;rw[hxl];omega
      have hok:okP s best (y++[b])=true:=by simp only[okP,hpv,hlb,hlv,jVb hbt,jNb hgn,Bool.false_and,Bool.and_false,Bool.not_false,Bool.and_true]
      have hF:=ai @h0 (ai @h3 (ai @h6 (ai @h7 (ai @hlt (ai @hx (ai @hwp (ai @hb (ai @hp (ai @hwy (ai @hl @hg))))))))));refine zaM.round' ?_;apply rS hC
      ·refine zab rfl (by simp[hF]<;>rfl) (by rfl) (by simp[hw]) ?_;rfl
      apply sQ;refine cT (by simp[hF]<;>rfl) ?_;apply Tri.skip;apply sN;apply sQ;apply bK;apply rS hC
      ·iterate 2 refine zab rfl (by simp[hF]<;>rfl) (by rfl) (by simp[hw]) ?_
       rfl
      apply sQ;apply rS hC
      ·iterate 6 refine zab rfl (by simp[hF]<;>rfl) (by rfl) (by simp[hw]) ?_
       iterate 4 refine zab (by simp[zaD,hF]) (by simp[hF]<;>rfl) (by rfl) (by simp[hw]) ?_
       refine zab rfl (by simp[hF]<;>rfl) (by rfl) (by simp[hw]) ?_;rfl
      refine cF (by simp[hF]<;>rfl) ?_;apply Tri.skip;apply sN;apply sQ;apply rS hC
      ·iterate 7 refine zab rfl (by simp[hF]<;>rfl) (by rfl) (by simp[hw]) ?_
       iterate 5 refine zab (by simp[zaD,hF]) (by simp[hF]<;>rfl) (by rfl) (by simp[hw]) ?_
       iterate 2 refine zab rfl (by simp[hF]<;>rfl) (by rfl) (by simp[hw]) ?_
       iterate 5 refine zb2 (by simp[zaD,hF]) (by simp[hw]) ?_
       refine zab rfl (by simp[hF]<;>rfl) (by rfl) (by simp[hw]) ?_;rfl
      refine cF (by simp[hF]<;>rfl) ?_;apply Tri.skip;apply sN;apply rN hC
      ·iterate 2 refine zab rfl (by simp[hF]<;>rfl) (by rfl) (by simp[hw]) ?_
       rfl
      apply bN;apply sN;apply rN hC
      ·iterate 2 refine zab rfl (by simp[hF]<;>rfl) (by rfl) (by simp[hw]) ?_
       rfl
      refine zaq ?_;refine ih (pre++[y++[b]]) (y++[b]) _ (by simpa using hS) (by simp[hw]) (by simp[h0]) (by simp[h3]) (by simp[h6]) (by simp<;>exact hwp) ?_;intro t' k1 k2;exact hE t' k1 (by rw[k2];simp only[sgF];rw[hok];simp)
     |true=>
      have hgn:(y++[b]).length<s.length:=by rw[jTa]at hg;rw[hxl];omega
      obtain⟨d,hd⟩:∃d,s[y.length+1]? = some d:=⟨_,jKa (by rw[←hxl];exact hgn)⟩;have hd2:∀h,s[y.length+1]'h=d:=fun h=>by rw[jKa h]at hd;exact jWa hd
      have hat:atR s (y++[b]).length=d.toNat:=by rw[hxl];simp[atR,hd]
      have hq1:=hwor d;cases hqv:zcR d.toNat with
      |true=>
       have hok:okP s best (y++[b])=false:=by simp only[okP,hpv,hlb,hlv,hat,hqv,jVb hbt,jVb hgn,Bool.and_true,Bool.not_true,Bool.and_false]
       have hq:∀H,call 73 [.i .u8 d.toNat] H=.val (.b true) H:=fun H=>by rw[hq1,hqv]
       have hF:=ai @h0 (ai @h3 (ai @h6 (ai @h7 (ai @hlt (ai @hx (ai @hwp (ai @hb (ai @hp (ai @hwy (ai @hl (ai @hg (ai @hd (ai @hd2 @hq)))))))))))));refine zaM.round' ?_;apply rS hC
       ·refine zab rfl (by simp[hF]<;>rfl) (by rfl) (by simp[hw]) ?_;rfl
       apply sQ;refine cT (by simp[hF]<;>rfl) ?_;apply Tri.skip;apply sN;apply sQ;apply bK;apply rS hC
       ·iterate 2 refine zab rfl (by simp[hF]<;>rfl) (by rfl) (by simp[hw]) ?_
        rfl
       apply sQ;apply rS hC
       ·iterate 6 refine zab rfl (by simp[hF]<;>rfl) (by rfl) (by simp[hw]) ?_
        iterate 4 refine zab (by simp[zaD,hF]) (by simp[hF]<;>rfl) (by rfl) (by simp[hw]) ?_
        refine zab rfl (by simp[hF]<;>rfl) (by rfl) (by simp[hw]) ?_;rfl
       refine cF (by simp[hF]<;>rfl) ?_;apply Tri.skip;apply sN;apply sQ;apply rS hC
       ·iterate 7 refine zab rfl (by simp[hF]<;>rfl) (by rfl) (by simp[hw]) ?_
        iterate 5 refine zab (by simp[zaD,hF]) (by simp[hF]<;>rfl) (by rfl) (by simp[hw]) ?_
        iterate 2 refine zab rfl (by simp[hF]<;>rfl) (by rfl) (by simp[hw]) ?_
        iterate 5 refine zab (by simp[zaD,hF]) (by simp[hF]<;>rfl) (by rfl) (by simp[hw]) ?_
        refine zab rfl (by simp[hF]<;>rfl) (by rfl) (by simp[hw]) ?_;rfl
       refine cT (by simp[hF]<;>rfl) ?_;refine Tri.exit ?_;refine zaz ?_;refine zav ?_;apply sN;apply rN hC
       ·iterate 2 refine zab rfl (by simp[hF]<;>rfl) (by rfl) (by simp[hw]) ?_
        rfl
       refine zaq ?_;refine ih (pre++[y++[b]]) best _ (by simpa using hS) (by simp[hw]) (by simp[h0]) (by simp[h3]) (by simp[h6]) (by simp<;>exact hwp) ?_;intro t' k1 k2;exact hE t' k1 (by rw[k2];simp only[sgF];rw[hok];simp)
      |false=>
       have hok:okP s best (y++[b])=true:=by simp only[okP,hpv,hlb,hlv,hat,hqv,jVb hbt,jVb hgn,Bool.and_false,Bool.not_false,Bool.and_true]
       have hq:∀H,call 73 [.i .u8 d.toNat] H=.val (.b false) H:=fun H=>by rw[hq1,hqv]
       have hF:=ai @h0 (ai @h3 (ai @h6 (ai @h7 (ai @hlt (ai @hx (ai @hwp (ai @hb (ai @hp (ai @hwy (ai @hl (ai @hg (ai @hd (ai @hd2 @hq)))))))))))));refine zaM.round' ?_;apply rS hC
       ·refine zab rfl (by simp[hF]<;>rfl) (by rfl) (by simp[hw]) ?_;rfl
       apply sQ;refine Tri.condG (o:=?of2) (b:=?bf2) ?gf2 ?rf2 ?yf2 ?nf2;case gf2=>simp[hF]<;>rfl
       case rf2=>rfl
       case yf2=>
        intro hy2;apply Tri.skip;apply sN;apply sQ;apply bK;apply rS hC
        ·iterate 2 refine zab rfl (by simp[hF]<;>rfl) (by rfl) (by simp[hw]) ?_
         rfl
        apply sQ;apply rS hC
        ·iterate 6 refine zab rfl (by simp[hF]<;>rfl) (by rfl) (by simp[hw]) ?_
         iterate 4 refine zab (by simp[zaD,hF]) (by simp[hF]<;>rfl) (by rfl) (by simp[hw]) ?_
         refine zab rfl (by simp[hF]<;>rfl) (by rfl) (by simp[hw]) ?_;rfl
        refine cF (by simp[hF]<;>rfl) ?_;apply Tri.skip;apply sN;apply sQ;apply rS hC
        ·iterate 7 refine zab rfl (by simp[hF]<;>rfl) (by rfl) (by simp[hw]) ?_
         iterate 5 refine zab (by simp[zaD,hF]) (by simp[hF]<;>rfl) (by rfl) (by simp[hw]) ?_
         iterate 2 refine zab rfl (by simp[hF]<;>rfl) (by rfl) (by simp[hw]) ?_
         iterate 5 refine zab (by simp[zaD,hF]) (by simp[hF]<;>rfl) (by rfl) (by simp[hw]) ?_
         refine zab rfl (by simp[hF]<;>rfl) (by rfl) (by simp[hw]) ?_;rfl
        refine cF (by simp[hF]<;>rfl) ?_;apply Tri.skip;apply sN;apply rN hC
        ·iterate 2 refine zab rfl (by simp[hF]<;>rfl) (by rfl) (by simp[hw]) ?_
         rfl
        apply bN;apply sN;apply rN hC
        ·iterate 2 refine zab rfl (by simp[hF]<;>rfl) (by rfl) (by simp[hw]) ?_
         rfl
        refine zaq ?_;refine ih (pre++[y++[b]]) (y++[b]) _ (by simpa using hS) (by simp[hw]) (by simp[h0]) (by simp[h3]) (by simp[h6]) (by simp<;>exact hwp) ?_;intro t' k1 k2;exact hE t' k1 (by rw[k2];simp only[sgF];rw[hok];simp)
       case nf2=>
        intro hn2;exact absurd hn2 (by simp[hF])
theorem zsu (H:zaa):zah TT 77 H (.gp 0 0)=some (.agg (sgnL.map .s)):=rfl
theorem zo5 {call:zad}(hC:call.Sound prog TT)(s:Bs)(hpre:∀p H,call 70 [.s s,.s p] H=.val (.b (zbv s p)) H)(hlet:∀c:Int,∀H,call 72 [.i .u8 c] H=.val (.b (zf0 c||(c==95))) H)(hwor:∀c:UInt8,∀H,call 73 [.i .u8 c.toNat] H=.val (.b (zcR c.toNat)) H)  : zaV prog TT 54 [.s s] (fun r=>r=.val (.s (sgF s sgnL []))):=by
 refine en f54 rfl rfl (by simp[f54]) 44 rfl fun t hw hg=>?_;have h0:=hg 0 _ rfl;clear hg;try simp only[Nd.enc_eq]at *
 apply rS hC
 ·refine zab rfl (by simp[h0]<;>rfl) (by rfl) (by simp[hw]) ?_;rfl
 apply rS hC
 ·refine zab rfl (by simp[h0]<;>rfl) (by rfl) (by simp[hw]) ?_;rfl
 apply sQ;apply rS hC
 ·iterate 2 refine zab rfl (by simp[h0,zsu,-zah]<;>rfl) (by rfl) (by simp[hw]) ?_
  rfl
 apply bK;refine Tri.loop ?_;refine zsE hC s hpre hlet hwor sgnL [] [] _ rfl (by simp[hw]) (by simp[h0]) (by simp) (by simp) (by simp) ?exit;case exit=>
  intro t2 hw h3;refine zav ?_;apply sN;apply rS hC
  ·iterate 2 refine zab rfl (by simp[h0,h3]<;>rfl) (by rfl) (by simp[hw]) ?_
   rfl
  apply Tri.ret;refine zcP (by simp[f54,h3]<;>rfl) (by rfl) ?_;rfl
theorem zya:∃g,zak prog TT 54 g∧∀s:Bs,True→∀H,g [.s s] H=.val (.s (sgF s sgnL [])) H:=by
 obtain⟨g1,k1,s1⟩:=znc;obtain⟨g2,k2,s2⟩:=zvO;obtain⟨g3,k3,s3⟩:=zvP;refine spT 54 (fun s=>.s (sgF s sgnL [])) (fun _=>True) (fun _=>rfl) fun s _=>?_;exact zo5 (ws (ws (ws n0 k1) k2) k3) s (fun p H=>by rw[zac _ _ _ _ rfl,zac _ _ _ _ rfl,zan];exact s1 s p H) (fun c H=>by rw[zac _ _ _ _ rfl,zan];exact s2 c trivial H) fun c H=>by rw[zan];exact s3 c trivial H
def plC:List V:=[.i .u8 110,.s [10],.i .u8 116,.s [9],.i .u8 114,.s [13],.i .u8 48,.s [0],.i .u8 92,.s [92],.i .u8 34,.s [34],.i .u8 39,.s [39]]
def loC:List V:=[.i .u8 120,.i .i64 2,.i .u8 117,.i .i64 4,.i .u8 85,.i .i64 6]
def plT (c:Int):Option (Bs):=if c=110 then some [10]else if c=116 then some [9]else if c=114 then some [13]else if c=48 then some [0]else if c=92 then some [92]else if c=34 then some [34]else if c=39 then some [39]else none
def loT (c:Int):Nat:=if c=120 then 2 else if c=117 then 4 else if c=85 then 6 else 0
theorem zxa (c:Int):zcX (some (.int .u8)) (.i .u8 c) plC=some ((plT c).map .s):=by
 unfold plC plT;simp only[zcX,zd2,if_true];by_cases h1:c=110
 ·subst h1;rfl
 by_cases h2:c=116
 ·subst h2;rfl
 by_cases h3:c=114
 ·subst h3;rfl
 by_cases h4:c=48
 ·subst h4;rfl
 by_cases h5:c=92
 ·subst h5;rfl
 by_cases h6:c=34
 ·subst h6;rfl
 by_cases h7:c=39
 ·subst h7;rfl
 simp only[jDa.2 h1,jDa.2 h2,jDa.2 h3,jDa.2 h4,jDa.2 h5,jDa.2 h6,jDa.2 h7,if_neg h1,if_neg h2,if_neg h3,if_neg h4,if_neg h5,if_neg h6,if_neg h7,Option.map_none]
theorem zw9 (c:Int):zcX (some (.int .u8)) (.i .u8 c) loC=some (if loT c=0 then none else some (.i .i64 (loT c:Nat))):=by
 unfold loC loT;simp only[zcX,zd2,if_true];by_cases h1:c=120
 ·subst h1;rfl
 by_cases h2:c=117
 ·subst h2;rfl
 by_cases h3:c=85
 ·subst h3;rfl
 simp only[jDa.2 h1,jDa.2 h2,jDa.2 h3,if_neg h1,if_neg h2,if_neg h3,if_true]
theorem zvb {K:zaa} {n:Nat} (h:K[n]? = some (some ⟨172,plC,.map⟩)) (c:Int):zbm TT 172 (.mp n) (.i .u8 c) true K=some (.tup [.s ((plT c).getD []),.b (plT c).isSome]):=by
  have e:zbm TT 172 (.mp n) (.i .u8 c) true K=(match zdL K n with
    | some blk=>(match zcX (some (.int .u8)) (.i .u8 c) blk.cells with
      |some (some v)=>some (.tup [v,.b true])
      |some none=>some (.tup [.s [],.b false])
      |none=>none)
    |none=>none):=rfl
  rw[e]
  simp only[zdL,h,show(zgX plC).isNone=true from rfl,and_self,if_true,zxa]
  cases plT c<;>rfl
theorem zva {K:zaa} {n:Nat} (h:K[n]? = some (some ⟨173,loC,.map⟩)) (c:Int):zbm TT 173 (.mp n) (.i .u8 c) false K=some (.i .i64 (loT c:Nat)):=by
  have e:zbm TT 173 (.mp n) (.i .u8 c) false K=(match zdL K n with
    | some blk=>(match zcX (some (.int .u8)) (.i .u8 c) blk.cells with
      |some (some v)=>some v
      |some none=>some (.i .i64 0)
      |none=>none)
    |none=>none):=rfl
  rw[e]
  simp only[zdL,h,show(zgX loC).isNone=true from rfl,and_self,if_true,zw9]
  by_cases h0:loT c=0
  · rw[if_pos h0,h0];rfl
  · rw[if_neg h0]
def Bld (H:zaa)(n:Nat)(l:Bs):Prop:=
 ∃a,(a=.nilp∨a=.ptr n 0)∧((H[n]? = some (some ⟨66,[a,.nils],.all⟩)∧l=[])∨∃m,m≠n∧l≠[]∧H[n]? = some (some ⟨66,[a,.sl m 1 0 l.length none],.all⟩)∧H[m]? = some (some ⟨5,zb9 l,.more⟩))
theorem zgd:∀{l l':Bs},zb9 l=zb9 l'→l=l'
 | [],[],_=>rfl
 | [],_::_,h=>by cases h
 |_::_,[],h=>by cases h
 |c::l,d::l',h=>by
  simp only[zb9,jJb,jPa,V.i.injEq,jLb,jAd]at h;rw[jBd.1 h.1,zgd (l:=l) (l':=l') h.2]
theorem Bld.inj {H:zaa}{n:Nat}{l l':Bs}(h:Bld H n l)(h':Bld H n l'):l=l':=by
 obtain⟨a,_,⟨h1,rfl⟩|⟨m,h1,h2,h3,h4⟩⟩:=h
 ·obtain⟨a',_,⟨_,rfl⟩|⟨m',_,_,h3',_⟩⟩:=h'
  ·rfl
  ·rw[h1]at h3';simp at h3'
 ·obtain⟨a',_,⟨h1',rfl⟩|⟨m',_,_,h3',h4'⟩⟩:=h'
  ·rw[h3]at h1';simp at h1'
  ·rw[h3]at h3';simp only[jNa,Blk.mk.injEq,jPa,V.sl.injEq,jLb,jGb]at h3';obtain⟨_,rfl,_⟩:=h3';rw[h4]at h4';simp only[jNa,Blk.mk.injEq,jLb,jGb]at h4';exact zgd h4'
theorem zyI:zaQ TT shp 20 [] (zae f67) [] ⟨[(0,.f1 (.ptr 0) (.va 0))],⟨.va 1,[(.va 0,some ⟨66,.f2 .cons (.cv .nilp) (.f2 .cons (.va 2) .nil),.all⟩)],[]⟩,3,[]⟩ (KF TT f67 [])=.asks (.ext 91 (x1 (xp v0))) [] (xp v0) (.fin (xt .nil) ⟨v1,[(v0,xk 66 (x2 (xp v0) v2))],[]⟩) (.stuck 0):=by kernel_rfl
theorem zyJ:zaQ TT shp 20 [] (zae f67) [] ⟨[(0,.f1 (.ptr 0) (.va 0))],⟨.va 1,[(.va 0,some ⟨66,.f2 .cons (.f1 (.ptr 0) (.va 0)) (.f2 .cons (.va 2) .nil),.all⟩)],[]⟩,3,[]⟩ (KF TT f67 [])=.fin (xt .nil) ⟨v1,[(v0,xk 66 (x2 (xp v0) v2))],[]⟩:=by kernel_rfl
theorem zy6:zaQ TT shp 17 [] (zae f37) [] ⟨[(0,.f1 (.ptr 0) (.va 0)),(1,.f1 (.vi .u8) (.va 3))],⟨.va 1,[(.va 0,some ⟨66,.f2 .cons (.va 2) (.f2 .cons (.cv .nils) .nil),.all⟩)],[]⟩,4,[]⟩ (KF TT f37 [])=.askk (.call 67 (x1 (xp v0))) ⟨v1,[(v0,xk 66 (x2 v2 (.cv .nils)))],[]⟩ [] (.cv (.tup [])) [(v0,xR 66 (x2 (xp v0) (.cv .nils)))] (.need (xE c0 v3) (.need (xL v3 (xc 256)) (.fin (.cv .nili) ⟨v4,[(v0,xk 66 (x2 (xp v0) (.f2 (.sl 1) (xN (xh v4) (.cn 1)) (xl (xB (.cs []) v3)))))],[xk 5 (x1 (xu v3)),some ⟨5,xy (xB (.cs []) v3),.more⟩]⟩))) (.stuck 0):=by kernel_rfl
theorem zy7:zaQ TT shp 17 [] (zae f37) [] ⟨[(0,.f1 (.ptr 0) (.va 0)),(1,.f1 (.vi .u8) (.va 3))],⟨.va 1,[(.va 0,some ⟨66,.f2 .cons (.va 2) (.f2 .cons (.f2 (.sl 1) (.va 4) (.f1 .lenS (.va 5))) .nil),.all⟩),(.va 4,some ⟨5,.f1 .bys (.va 5),.more⟩)],[]⟩,6,[]⟩ (KF TT f37 [])=let qa:E:=.f2 (.sl 1) v4 (xl v5);let qb:E:=xc 1099511627776;.askk (.call 67 (x1 (xp v0))) ⟨v1,[(v0,xk 66 (x2 v2 qa)),(v4,some ⟨5,xy v5,.more⟩)],[]⟩ [] (.cv (.tup [])) [(v0,xR 66 (x2 (xp v0) qa)),(v4,⟨5,xy v5,.more⟩)] (.need (xE c0 v3) (.need (xL v3 (xc 256)) (.need (xE (.f2 .mul (xa (xl v5) c1) c1) qb) (.need (xE (xa (xl v5) c1) qb) (.fin (.cv .nili) ⟨v6,[(v0,xk 66 (x2 (xp v0) (.f2 (.sl 1) (xN (xh v6) (.cn 1)) (xl (xB v5 v3))))),(v4,none)],[xk 5 (x1 (xu v3)),some ⟨5,xy (xB v5 v3),.more⟩]⟩))))) (.stuck 0):=by kernel_rfl
theorem zy9:zaQ TT shp 19 [] (zae f38) [] ⟨[(0,.f1 (.ptr 0) (.va 0)),(1,.f1 .vs (.va 3))],⟨.va 1,[(.va 0,some ⟨66,.f2 .cons (.va 2) (.f2 .cons (.cv .nils) .nil),.all⟩)],[]⟩,4,[]⟩ (KF TT f38 [])=let qb:E:=x2 (xp v0) (.cv .nils);let qc:E:=xl v3;let qa:E:=xt (x2 (xi qc) (.cv .nili));let qd:E:=xc 1099511627776;.askk (.call 67 (x1 (xp v0))) ⟨v1,[(v0,xk 66 (x2 v2 (.cv .nils)))],[]⟩ [] (.cv (.tup [])) [(v0,xR 66 qb)] (.ite (xe qc c0) (.fin qa ⟨v4,[(v0,xk 66 qb)],[]⟩) (.need (xE (.f2 .mul qc c1) qd) (.need (xE qc qd) (.fin qa ⟨v4,[(v0,xk 66 (x2 (xp v0) (.f2 (.sl 1) (xN (xh v4) (.cn 0)) qc)))],[some ⟨5,xy v3,.more⟩]⟩)))) (.stuck 0):=by kernel_rfl
theorem zza:zaQ TT shp 19 [] (zae f38) [] ⟨[(0,.f1 (.ptr 0) (.va 0)),(1,.f1 .vs (.va 3))],⟨.va 1,[(.va 0,some ⟨66,.f2 .cons (.va 2) (.f2 .cons (.f2 (.sl 1) (.va 4) (.f1 .lenS (.va 5))) .nil),.all⟩),(.va 4,some ⟨5,.f1 .bys (.va 5),.more⟩)],[]⟩,6,[]⟩ (KF TT f38 [])=let qa:E:=.f2 (.sl 1) v4 (xl v5);let qc:E:=xa (xl v5) (xl v3);let qd:E:=xc 1099511627776;let qb:E:=xt (x2 (xi (xl v3)) (.cv .nili));.askk (.call 67 (x1 (xp v0))) ⟨v1,[(v0,xk 66 (x2 v2 qa)),(v4,some ⟨5,xy v5,.more⟩)],[]⟩ [] (.cv (.tup [])) [(v0,xR 66 (x2 (xp v0) qa)),(v4,⟨5,xy v5,.more⟩)] (.need (xE (.f2 .mul qc c1) qd) (.need (xE qc qd) (.ite (xe (xl v3) c0) (.fin qb ⟨v6,[(v0,xk 66 (x2 (xp v0) qa)),(v4,some ⟨5,xy v5,.more⟩)],[]⟩) (.fin qb ⟨v6,[(v0,xk 66 (x2 (xp v0) (.f2 (.sl 1) (xN (xh v6) (.cn 0)) (xl (xP v5 v3))))),(v4,none)],[some ⟨5,xy (xP v5 v3),.more⟩]⟩)))) (.stuck 0):=by kernel_rfl
theorem zyF:zaQ TT shp 14 [] (zae f39) [] ⟨[(0,.f1 (.ptr 0) (.va 0))],⟨.va 1,[(.va 0,some ⟨66,.f2 .cons (.va 2) (.f2 .cons (.cv .nils) .nil),.all⟩)],[]⟩,3,[]⟩ (KF TT f39 [])=.fin (xs (.cs [])) ⟨v1,[(v0,xk 66 (x2 v2 (.cv .nils)))],[]⟩:=by kernel_rfl
theorem zyG:zaQ TT shp 14 [] (zae f39) [] ⟨[(0,.f1 (.ptr 0) (.va 0))],⟨.va 1,[(.va 0,some ⟨66,.f2 .cons (.va 2) (.f2 .cons (.f2 (.sl 1) (.va 3) (.f1 .lenS (.va 4))) .nil),.all⟩),(.va 3,some ⟨5,.f1 .bys (.va 4),.more⟩)],[]⟩,5,[]⟩ (KF TT f39 [])=.need (xL c0 (xl v4)) (.need (xE (xl v4) (xc 1099511627776)) (.fin (xs v4) ⟨v1,[(v0,xk 66 (x2 v2 (.f2 (.sl 1) v3 (xl v4)))),(v3,some ⟨5,.f2 .cons (.cv (.tup [])) (xy v4),.map⟩)],[]⟩)):=by kernel_rfl
theorem zpQ:TT.ext 91=some zly:=rfl
theorem zAz:∃g,zak prog TT 67 g∧∀(p:Nat×V×V)(H:zaa),(H[p.1]? = some (some ⟨66,[p.2.1,p.2.2],.all⟩)∧(p.2.1=.nilp∨p.2.1=.ptr p.1 0))→g [.ptr p.1 0] H=.val (.tup []) (H.set p.1 (some ⟨66,[.ptr p.1 0,p.2.2],.all⟩)):=by
 refine zc2 zaf 67 (fun p:Nat×V×V=>[.ptr p.1 0]) (fun p H=>H[p.1]? = some (some ⟨66,[p.2.1,p.2.2],.all⟩)∧(p.2.1=.nilp∨p.2.1=.ptr p.1 0)) (fun p H r=>r=.val (.tup []) (H.set p.1 (some ⟨66,[.ptr p.1 0,p.2.2],.all⟩))) ?_ ?_
 ·rintro⟨n,a,b⟩ ⟨n',a',b'⟩ H r ⟨h1,_⟩ ⟨h2,_⟩ he hr;simp only[jPa,V.ptr.injEq,jGb]at he;subst he;simp only at h1 h2 hr ⊢;rw[h1]at h2;simp only[jNa,Blk.mk.injEq,jPa,jLb,jGb]at h2;rw[←h2.2];exact hr
 ·rintro⟨n,a,b⟩ H ⟨h1,h2⟩;simp only at h1 h2 ⊢;rcases h2 with rfl|rfl
  ·refine zaA.sym zaf n0 (fn:=f67) rfl rfl (by simp[f67]) zyI (by kernel_rfl) [.un n,.uh H,.uv b] rfl ⟨by rw[zag];rfl,trivial⟩ (zaa.set_self h1) ⟨by simp;exact zaa.lt h1,by simp⟩ ?_;simp -implicitDefEqProofs only[VC,isR,exU,Ask.den,E.den,O1.den,O2.den,O3.den,SH.den,zat,za9,bD,SB.den,zai,LQ,uu,uW,jOa,jUa,jDa,zpQ];exact .inl ⟨fun K=>rfl,trivial⟩
  ·refine zaA.sym zaf n0 (fn:=f67) rfl rfl (by simp[f67]) zyJ (by kernel_rfl) [.un n,.uh H,.uv b] rfl ⟨by rw[zag];rfl,trivial⟩ (zaa.set_self h1) ⟨by simp;exact zaa.lt h1,by simp⟩ ?_;simp -implicitDefEqProofs only[VC,isR,exU,Ask.den,E.den,O1.den,O2.den,O3.den,SH.den,zat,za9,bD,SB.den,zai,LQ,uu,uW,jOa,jUa,jDa]
end Go.Ev
