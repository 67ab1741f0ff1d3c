/- number: the range over its two prefixes. skip. Trees of token. The first region of token. The whole body of token, its parts given. Bounds of characters, texts and symbols; the look-up among the keywords. Symbols. The set of keywords on the heap of Scan. The function that Scan defers, behind a return. The function that Scan defers, behind a panic. Bounds of tokens, and token. The loop of Scan. Trees of Quote. Quote. Scan. Two given texts scanned. Two literals behind each other are scanned to their two texts. awake returns true. What the row's list of tables says of the world, and that a text reads as its bytes. Runs of the lock. -/
import Derived.Test.YtmjplflnlggbeaaGreatDoorEZC
import Derived.Test.YtmjplflnlggbeaaGreatDoorET41
import Derived.Test.YtmjplflnlggbeaaGreatDoorET23
import Derived.Test.YtmjplflnlggbeaaGreatDoorEWE2
import Derived.Test.YtmjplflnlggbeaaGreatDoorEYD
import Derived.Test.YtmjplflnlggbeaaGreatDoorEEvPart2
import Derived.Test.YtmjplflnlggbeaaGreatDoorRows
import Derived.ChangeArms
import Derived.ChangeSame
import Derived.ChangeReads
import Derived.ReadAgain
import Derived.Deep.Strs
import Derived.Lib.LaidTab
import Derived.Lib.LaidU8T
import Derived.MakeChecks
import Derived.Shelf.Vars
namespace Go.Ev
open Go Go.Proofs
set_option linter.unusedSimpArgs false
set_option linter.unusedVariables false
set_option linter.unnecessarySimpa false
open Tryz List
set_option maxRecDepth 1000000
def kvN:List (V×V):=[(.s [48,120],.i .i64 16),(.s [48,98],.i .i64 2)]
def zAS (s:Bs)(at_:Int)(left:List (V×V))(t:Tm)(H:zaa):Prop:=
 H=zhM s at_∧t.wid=103∧t.get 2=.ptr 0 0∧t.get 3=.ptr 1 0∧t.get 4=.i .i64 0∧t.get 5=.s []∧t.get 6=.i .i64 0∧t.get 7=.fn 74 [.ptr 0 0,.ptr 1 0]∧(∀q∈left,q∈kvN)∧∀q∈kvN,q∈left∨∀p,q.1=.s p→zbv s p=false
theorem zsT {s:Bs}(h:zbv s [48,98]=true):zbv s [48,120]=false:=by
 match s,h with
 | [],h=>simp[zbv]at h
 | [a],h=>simp[zbv]at h
 |a::b::r,h=>
  simp[zbv]at h ⊢;intro _;rw[h.2];decide
theorem zqg {α:Type}{l:List α}{j:Nat}{q:α}(h:q∈l):l[j]? = some q∨q∈l.eraseIdx j:=by
 obtain⟨i,hi⟩:=mem_iff_getElem?.1 h;by_cases e:i=j
 ·subst e;exact .inl hi
 ·refine .inr ?_;by_cases hlt:i<j
  ·exact jIb (i:=i) (by rw[List.getElem?_eraseIdx,if_pos hlt];exact hi)
  ·exact jIb (i:=i-1) (by rw[List.getElem?_eraseIdx,if_neg (by omega),show i-1+1=i from by omega];exact hi)
theorem zrD {P:Program}{T:Tab}{fn:Func}{r:Res}{o:Out}(h:zaF T fn (isR r) o):zf3 T fn r o:=by
 cases o with
 |norm t H=>obtain⟨v,h1,h2⟩:=h;have h1:r=.val v:=h1;subst h1;exact h2
 |ret t H=>obtain⟨v,h1,h2⟩:=h;have h1:r=.val v:=h1;subst h1;exact h2
 |pan v t H=>have h:r=.pan v:=h;subst h;rfl
 |exit i t H=>exact h.elim
 |no=>exact h.elim
theorem zo4 {call:zad}(hC:call.Sound prog TT)(s:Bs)(at_:Int)(hn:NumH call at_)(hs:s.length<1100000)(hf:zwq s at_):zub prog TT 51 [.s s,.i .i64 at_] (zmQ (zdv s) at_):=by
 refine⟨f51,_,rfl,rfl,by simp[f51],?_⟩;refine ziF.mono (Q:=zaF TT f51 (isR (zmQ (zdv s) at_))) ?_ (fun o h=>zrD (P:=prog) h);have h0:(Tm.init f51.ntmps [.s s,.i .i64 at_]).get 0=.s s:=by rw[zag];rfl
 have h1:(Tm.init f51.ntmps [.s s,.i .i64 at_]).get 1=.i .i64 at_:=by rw[zag];rfl
 have hw:(Tm.init f51.ntmps [.s s,.i .i64 at_]).wid=103:=rfl;generalize Tm.init f51.ntmps [.s s,.i .i64 at_]=t at *;refine ziF.seq (Tri.n ?_);refine Tri.regN (t':=?t1) (H':=?H1) zaf hC ?e1 ?q1;case e1=>
  refine zar ?_;iterate 5 refine zab rfl (by simp[h0,h1]<;>rfl) (by rfl) (by simp[hw]) ?_
  exact zal
 refine ziF.seq (Tri.n ?_);refine Tri.regN (t':=?t2) (H':=?H2) zaf hC ?e2 ?q2;case e2=>
  refine zar ?_;iterate 2 refine zab rfl (by simp[h0,h1]<;>rfl) (by rfl) (by simp[hw]) ?_
  exact zal
 refine ziF.seq ?_;refine ziF.rangeMap zaf hC 4 (zAS s at_) kvN (t1:=?t3) (H1:=?H3) (blk:=?blk) (n:=2) (kt:=9) (et:=3) rfl rfl rfl rfl ?e3 ?f3 ?x3 ?m3 ?k3 ?a3 ?u3 ?i3 rfl rfl rfl rfl rfl rfl ?r3 ?z3;case e3=>
  iterate 4 refine zab rfl (by simp[h0,h1]<;>rfl) (by rfl) (by simp[hw]) ?_
  exact zal
 case f3=>simp[hw]
 case x3=>simp
 case m3=>rfl
 case k3=>rfl
 case a3=>rfl
 case u3=>rfl
 case i3=>
  intro l;refine⟨rfl,by simp[hw],by simp,by simp,by simp,by simp,by simp,by simp,fun q hq=>hq,fun q hq=>.inl hq⟩
 case r3=>
  rintro left t H j k v ⟨rfl,hw,g2,g3,g4,g5,g6,g7,hsub,hall⟩ hj;have hq:∃p base,k=.s p∧v=.i .i64 (base:Nat)∧(base=2∨base=10∨base=16)∧p.length=2∧(zbv s p=true→zdv s=zk6 s base):=by
   have:=hsub _ (jIb hj);simp only[kvN,jOb,jZa,not_mem_nil,or_false]at this;rcases this with⟨rfl,rfl⟩|⟨rfl,rfl⟩
   ·exact⟨_,16,rfl,rfl,by omega,rfl,fun h=>by rw[zhd,if_pos h]⟩
   ·exact⟨_,2,rfl,rfl,by omega,rfl,fun h=>by rw[zhd,if_neg (by rw[zsT h];exact jZb),if_pos h]⟩
  obtain⟨p,base,rfl,rfl,hb,hpl,hpq⟩:=hq;refine⟨?ta,?Ha,?tb,?Hb,by simp[hw],?ec,?tc,?ic,?fc,?ef,?ig,?xx⟩;case ec=>
   refine oA ?_;exact zal
  case tc=>simp
  case ic=>simp
  case fc=>simp[hw]
  case ef=>
   iterate 4 refine zab rfl (by simp<;>rfl) (by rfl) (by simp[hw]) ?_
   exact zal
  case ig=>simp
  case xx=>
   refine Tri.n (zqz hC s at_ hn hs p base hb hpl (t.get 16) _ (by simp[hw]) ?_ ?_ ?_ ?_ ?_ ?_ ?_ ?_ ?_ ?_ ?_)
   ·simp[g2]
   ·simp[g3]
   ·simp[g7]
   ·simp
   ·simp
   ·simp
   ·simp[g4]
   ·simp[g5]
   ·simp[g6]
   ·intro hpre o ho hor;rw[hpq hpre];rcases hor with⟨v,t',H',rfl⟩|⟨t',H',rfl⟩
    ·exact ho
    ·exact ho
   ·intro hpre t' hw' f2 f3 f4 f5 f6 f7 f16;refine⟨f16,rfl,hw',f2,f3,f4,f5,f6,f7,fun q hq=>hsub q (mem_of_mem_eraseIdx hq),fun q hq=>?_⟩;rcases hall q hq with h|h
    ·rcases zqg (j:=j) h with h|h
     ·rw[hj]at h;cases h;refine .inr fun p' hp'=>?_;cases hp';exact hpre
     ·exact .inl h
    ·exact .inr h
 case z3=>
  rintro t H ⟨rfl,hw,g2,g3,g4,g5,g6,g7,hsub,hall⟩;have n1:zbv s [48,120]=false:=(hall (.s [48,120],.i .i64 16) (by simp[kvN])).resolve_left (by simp) _ rfl;have n2:zbv s [48,98]=false:=(hall (.s [48,98],.i .i64 2) (by simp[kvN])).resolve_left (by simp) _ rfl;refine⟨?tq,?Hq,by simp[hw],?ez,?tz,?qz⟩;case ez=>
   refine oA ?_;exact zal
  case tz=>simp
  case qz=>
   have e:zdv s=zj9 s (zfO s):=by
    rw[zhd,if_neg (by rw[n1];exact jZb),if_neg (by rw[n2];exact jZb)]
   show ziF prog TT (sub [true,true,true] (zae f51)) _ _ _;rw[e];refine Tri.n (zs2 hC s at_ hn hs hf _ (by simp[hw]) ?_ ?_ ?_ ?_ ?_ ?_);all_goals simp[g2,g3,g4,g5,g6,g7]
theorem zvh (o:Option (Int×Bs×Nat))(at_:Int):(zmQ o at_).nl=true:=by
 unfold zmQ;cases o<;>rfl
theorem zq9 (D:Bs→Prop) (hf:∀s at_,D s→s.length<1100000→zwq s at_):∃g,zak prog TT 51 g∧∀(s:Bs) (at_:Int),D s→s.length<1100000→∀H,g [.s s,.i .i64 at_] H=(zmQ (zdv s) at_).at H:=by
  obtain⟨g1,k1,s1⟩:=ztZ
  obtain⟨g2,k2,s2⟩:=zyd
  obtain⟨g3,k3,s3⟩:=zyc
  obtain⟨g4,k4,s4⟩:=znc
  obtain⟨g5,k5,s5⟩:=zon
  obtain⟨g6,k6,s6⟩:=zd3
  obtain⟨g7,k7,s7⟩:=zyb
  have hC:=ws (ws (ws (ws (ws (ws (ws n0 k1) k2) k3) k4) k5) k6) k7
  have hN:∀at_,NumH (((((((zad.none.with 75 g1).with 77 g2).with 76 g3).with 70 g4).with 50 g5).with 55 g6).with 74 g7) at_:=fun at_=>
    { run:=fun s base hs hb K=>by rw[zac _ _ _ _ rfl,zac _ _ _ _ rfl,zac _ _ _ _ rfl,zac _ _ _ _ rfl,zac _ _ _ _ rfl,zac _ _ _ _ rfl,zan];exact s1 s base at_ hs (by omega) K
      exp:=fun s hs K=>by
        rw[zac _ _ _ _ rfl,zac _ _ _ _ rfl,zac _ _ _ _ rfl,zac _ _ _ _ rfl,zac _ _ _ _ rfl,zan,s2 s at_ hs K]
        cases zgg s<;>rfl
      who:=fun s base hb hs K=>by rw[zac _ _ _ _ rfl,zac _ _ _ _ rfl,zac _ _ _ _ rfl,zac _ _ _ _ rfl,zan];exact s3 s base at_ hb hs K
      pre:=fun x y K=>by rw[zac _ _ _ _ rfl,zac _ _ _ _ rfl,zac _ _ _ _ rfl,zan];exact s4 x y K
      dig:=fun c K=>by rw[zac _ _ _ _ rfl,zac _ _ _ _ rfl,zan];exact s5 c trivial K
      must:=fun b e k K=>by rw[zac _ _ _ _ rfl,zan];exact s6 b e k K
      ends:=fun n s a x y H h1 h2 h3 h4 h5=>by rw[zan];exact s7 n s a x y H h1 h2 h3 h4 h5}
  generalize((((((zad.none.with 75 g1).with 77 g2).with 76 g3).with 70 g4).with 50 g5).with 55 g6).with 74 g7=call at hC hN
  obtain ⟨g,k,h⟩:=zoo (P:=prog) (T:=TT) zaf zao 51 (fun vs r=>∃(s:Bs) (at_:Int),D s∧s.length<1100000∧vs=[.s s,.i .i64 at_]∧r=zmQ (zdv s) at_) (by
    rintro vs r ⟨s,at_,hd,hs,rfl,rfl⟩
    exact⟨rfl,zvh _ _,zo4 hC s at_ (hN at_) hs (hf s at_ hd hs)⟩)
  refine⟨g,k,fun s at_ hd hs H=>?_⟩
  obtain⟨r,⟨s',a',_,_,he,rfl⟩,h2⟩:=h [.s s,.i .i64 at_] ⟨_,s,at_,hd,hs,rfl,rfl⟩
  simp only[jPa,V.s.injEq,V.i.injEq,jLb,jGb]at he
  obtain⟨rfl,rfl⟩:=he
  exact h2 H
theorem ziO (s:Bs):∀(n i d e:Nat),i≤s.length→zeV s n i d=some e→i<e∧e≤s.length
 |0,_,_,_,_,h=>by simp[zeV]at h
 |n+1,i,d,e,hi,h=>by
  simp only[zeV]at h;by_cases h1:zbv (s.drop i) [47,42]=true
  ·rw[if_pos h1]at h;have hl:=zbw h1;rw[jJa]at hl;simp only[jIa,jVa]at hl;have:=ziO s n (i+2) (d+1) e (by omega) h;omega
  ·rw[if_neg h1]at h;by_cases h2:zbv (s.drop i) [42,47]=true
   ·rw[if_pos h2]at h;have hl:=zbw h2;rw[jJa]at hl;simp only[jIa,jVa]at hl;by_cases h3:d=1
    ·rw[if_pos h3]at h;have h:=jWa h;omega
    ·rw[if_neg h3]at h;have:=ziO s n (i+2) (d-1) e (by omega) h;omega
   ·rw[if_neg h2]at h;by_cases h3:i<s.length
    ·rw[if_pos h3]at h;have:=ziO s n (i+1) d e (by omega) h;omega
    ·rw[if_neg h3]at h;cases h
theorem zpo {s:Bs}{i e:Nat}{l:Bool}{p:Nat×Bool}(h:zk4 s i l (some e)=some p):p.1=e:=by
 simp only[zk4]at h;by_cases h1:Lib.validD ((s.take e).drop i)=true
 ·rw[if_pos h1]at h;have h:=jWa h;rw[←h]
 ·rw[if_neg h1]at h;cases h
theorem zhL (c x:UInt8)(r:Bs)(h:x≠c):¬Lib.indexByte (x::r) c=0:=by
 intro e;have h1:=Lib.index_spec (x::r) [c];rw[Lib.index_one]at h1;rcases h1 with⟨h1,_⟩|⟨k,h1,_,h2,_⟩
 ·omega
 ·have:k=0:=by omega
  subst this;simp[Lib.occAt]at h2;exact h h2.symm
theorem zpq {s:Bs}{i:Nat}{l:Bool}{p:Nat×Bool}(hi:i≤s.length)(h:znM s i l=some (some p)):i<p.1∧p.1≤s.length:=by
 unfold znM at h;by_cases h1:zbv (s.drop i) [47,47]=true
 ·rw[if_pos h1]at h;have h:=zpo (jWa h);have hl:=zbw h1;rw[jJa]at hl;simp only[jIa,jVa]at hl;by_cases h2:Lib.indexByte (s.drop i) 10<0
  ·rw[if_pos h2]at h;omega
  ·rw [if_neg h2]at h;have hx:=Lib.index_room (s.drop i) [10] (by rw[Lib.index_one];omega);rw[Lib.index_one,jJa,length_singleton]at hx;have hn:¬Lib.indexByte (s.drop i) 10=0:=by
    rcases hd:s.drop i with _|⟨x,r⟩
    ·rw[hd]at h1;simp[zbv]at h1
    ·rw[hd]at h1;simp[zbv]at h1;exact zhL 10 x r (by rw[h1.2.1];decide)
   omega
 ·rw[if_neg h1]at h;by_cases h2:zbv (s.drop i) [47,42]=true
  ·rw[if_pos h2]at h;rcases hc:zeV s (s.length+1) i 0 with _|e
   ·rw[hc]at h;simp[zk4]at h
   ·rw[hc]at h;have h:=zpo (jWa h);have:=ziO s _ i 0 e hi hc;omega
  ·rw[if_neg h2]at h;cases h
def skF (s:Bs):Nat→Nat→Bool→Nat ⊕ (Nat×Bool)
 |0,i,l=>.inr (i,l)
 |n+1,i,l=>if i<s.length then(if atS s i=32∨atS s i=9∨atS s i=13∨atS s i=10 then skF s n (i+1) (l||decide (atS s i=10))
  else match znM s i l with
   |none=>.inr (i,l)
   |some none=>.inl i
   |some (some p)=>skF s n p.1 p.2)else .inr (i,l)
def skR (H:zaa)(n:Nat)(s:Bs)(m:Nat)(o:Nat ⊕ (Nat×Bool))(r:OR):Prop:=match o with
 | .inr p=>r=.val .un (H.set n (some (scB s p.1 p.2 m)))
 | .inl a=>∃b,r=.pan (zcu 32 a) (H.set n b)
theorem zsn {call:zad} (hC:call.Sound prog TT) (hcom:∀(p:Nat×Bs×Nat×Bool×Nat) (H:zaa),(ScB H p.1 p.2.1 p.2.2.1 p.2.2.2.1 p.2.2.2.2∧p.2.2.1≤p.2.1.length∧p.2.1.length<1100000)→zrV H p (call 47 [.ptr p.1 0] H))
    (s:Bs)(m:Nat)(q:Nat)(H0:zaa)(hs:s.length<1100000)(hq:q<H0.length) :
    ∀(n i:Nat)(l:Bool)(t:Tm),s.length<n+i→i≤s.length→t.wid=f30.ntmps→t.get 0=.ptr q 0 →
    ctx prog TT [false,false] (zae f30) (zaF TT f30 (skR H0 q s m (skF s n i l))) (.norm t (H0.set q (some (scB s i l m)))):=by
  intro n
  induction n with
  |zero=>intro i l t h1 h2;omega
  | succ n ih=>
    intro i l t hn hi hw t0
    refine zaM.symIn (p:=[false]) zaf hC rfl zwj (by kernel_rfl) [.un q,.uh H0,.us s,.ui (i:Nat),.ub l,.un m] rfl hw ⟨t0,trivial⟩ rfl ⟨by simp;exact hq,by simp⟩ ?_
    clear t0 hw
    simp -implicitDefEqProofs only[VC,isR,exU,Ask.den,E.den,O1.den,O2.den,O3.den,SH.den,zat,za9,bD,SB.den,zai,LQ,uu,uW,jOa,jUa,jDa,zbB,jSa,if_false,if_true]
    have w1:IntKind.i64.wrap ((i:Int)+1)=((i+1:Nat):Int):=by rw[w64 (by omega) (by omega)];omega
    simp only[w1,jCa]
    have sp:(atS s i=32∨atS s i=9∨atS s i=13∨atS s i=10)→i<s.length→∀b:Bool,b=(l||decide (atS s i=10))→∀t':Tm,t'.wid=f30.ntmps→t'.get 0=.ptr q 0 →
        ctx prog TT [false,false] (zae f30) (zaF TT f30 (skR H0 q s m (skF s (n+1) i l))) (.norm t' (H0.set q (some ⟨55,[.s s,.i .i64 ((i+1:Nat):Int),.b b,.mp m],.all⟩))):=by
      intro h hlt b hb t' hw' f0
      have e:skF s (n+1) i l=skF s n (i+1) (l||decide (atS s i=10)):=by simp only[skF,if_pos hlt,if_pos h]
      rw[e,hb]
      exact ih (i+1) _ t' (by omega) (by omega) hw' f0
    have eb:(atS s i==10)=decide (atS s i=10):=rfl
    refine ⟨fun h=>⟨by omega,fun h1=>⟨fun hl=>sp (.inl h1) (by omega) _ (by rw[hl];rfl),fun hl=>sp (.inl h1) (by omega) _ (by rw[hl,eb];rfl)⟩,fun h1=>⟨fun h2=>⟨fun hl=>sp (.inr (.inl h2)) (by omega) _ (by rw[hl];rfl),fun hl=>sp (.inr (.inl h2)) (by omega) _ (by rw[hl,eb];rfl)⟩,
      fun h2=>⟨fun h3=>⟨fun hl=>sp (.inr (.inr (.inl h3))) (by omega) _ (by rw[hl];rfl),fun hl=>sp (.inr (.inr (.inl h3))) (by omega) _ (by rw[hl,eb];rfl)⟩,fun h3=>⟨fun h4=>⟨fun hl=>sp (.inr (.inr (.inr h4))) (by omega) _ (by rw[hl];rfl),fun hl=>sp (.inr (.inr (.inr h4))) (by omega) _ (by rw[hl,eb];rfl)⟩,fun h4=>?_⟩⟩⟩⟩,fun h=>?_⟩
    · have hlt:i<s.length:=by omega
      have hns:¬(atS s i=32∨atS s i=9∨atS s i=13∨atS s i=10):=by
        rintro(e|e|e|e)
        · exact h1 e
        · exact h2 e
        · exact h3 e
        · exact h4 e
      have hk:=hcom (q,s,i,l,m) (H0.set q (some (scB s i l m))) ⟨by unfold ScB;rw[jFb hq],hi,hs⟩
      unfold zrV at hk
      simp only at hk
      rcases hc:znM s i l with _|_|p
      · rw[hc]at hk
        simp only at hk
        have e:skF s (n+1) i l=.inr (i,l):=by simp only[skF,if_pos hlt,if_neg hns,hc]
        refine .inl ⟨false,(i:Nat),l,_,hk,⟨by rw[jFb hq],trivial⟩,fun h=>(by cases h),fun _=>?_⟩
        rw[e,set_set]
        rfl
      · rw[hc]at hk
        simp only[zrw]at hk
        obtain⟨b,hk⟩:=hk
        have e:skF s (n+1) i l=.inl i:=by simp only[skF,if_pos hlt,if_neg hns,hc]
        refine .inr ⟨_,_,hk,?_⟩
        rw[e,set_set]
        exact⟨b,rfl⟩
      · rw[hc]at hk
        simp only[zrw]at hk
        obtain⟨q1,q2⟩:=zpq hi hc
        have e:skF s (n+1) i l=skF s n p.1 p.2:=by simp only[skF,if_pos hlt,if_neg hns,hc]
        refine .inl ⟨true,(p.1:Nat),p.2,_,hk,⟨by rw[jFb (by rw[length_set];exact hq)],trivial⟩,fun _ t' hw' f0=>?_,fun h=>(by cases h)⟩
        rw[e,set_set,set_set]
        exact ih p.1 p.2 t' (by omega) q2 hw' f0
    · have hlt:¬i<s.length:=by omega
      have e:skF s (n+1) i l=.inr (i,l):=by simp only[skF,if_neg hlt]
      rw[e]
      rfl
def skQ (s:Bs)(i:Nat)(l:Bool):Nat ⊕ (Nat×Bool):=skF s (s.length+1) i l
theorem zx6:∃g,zak prog TT 30 g∧∀(p:Nat×Bs×Nat×Bool×Nat)(H:zaa),(ScB H p.1 p.2.1 p.2.2.1 p.2.2.2.1 p.2.2.2.2∧p.2.2.1≤p.2.1.length∧p.2.1.length<1100000)→skR H p.1 p.2.1 p.2.2.2.2 (skQ p.2.1 p.2.2.1 p.2.2.2.1) (g [.ptr p.1 0] H):=by
 obtain⟨g1,k1,s1⟩:=zx7;have hC:=ws n0 k1;have c1:∀(p:Nat×Bs×Nat×Bool×Nat)(H:zaa),(ScB H p.1 p.2.1 p.2.2.1 p.2.2.2.1 p.2.2.2.2∧p.2.2.1≤p.2.1.length∧p.2.1.length<1100000)→zrV H p ((zad.none.with 47 g1) 47 [.ptr p.1 0] H):=fun p H h=>by
  rw[zan];exact s1 p H h
 generalize zad.none.with 47 g1=call at hC c1;refine zc2 zaf 30 (fun p:Nat×Bs×Nat×Bool×Nat=>[.ptr p.1 0]) (fun p H=>ScB H p.1 p.2.1 p.2.2.1 p.2.2.2.1 p.2.2.2.2∧p.2.2.1≤p.2.1.length∧p.2.1.length<1100000) (fun p H r=>skR H p.1 p.2.1 p.2.2.2.2 (skQ p.2.1 p.2.2.1 p.2.2.2.1) r) ?_ ?_
 ·rintro⟨n,s,i,l,m⟩ ⟨n',s',i',l',m'⟩ H r ⟨h1,_⟩ ⟨h2,_⟩ he hr;simp only[jPa,V.ptr.injEq,jGb]at he;subst he;obtain⟨rfl,rfl,rfl,rfl⟩:=h1.inj h2;exact hr
 ·rintro⟨q,s,i,l,m⟩ H ⟨hb,hi,hs⟩;simp only at hb hi hs ⊢;have hq:q<H.length:=zaa.lt hb;refine zaA.sym zaf hC (fn:=f30) rfl rfl (by simp[f30]) zy4 (by kernel_rfl) [.un q,.uh H,.us s,.ui (i:Nat),.ub l,.un m] rfl ⟨by rw[zag];rfl,trivial⟩ (zaa.set_self hb) ⟨by simp;exact hq,by simp⟩ ?_;simp -implicitDefEqProofs only[VC,isR,exU,Ask.den,E.den,O1.den,O2.den,O3.den,SH.den,zat,za9,bD,SB.den,zai,LQ,uu,uW,jOa,jUa,jDa,zbB,jSa,if_false,if_true];intro t' hw' f0;exact Tri.symLoop rfl (zsn hC c1 s m q H hs hq (s.length+1) i l t' (by omega) hi hw' f0)
theorem zwk:zaQ TT shp f31.ntmps [1] (zae f31) [] ⟨[(0,.f1 (.ptr 0) (.va 0))],⟨.va 1,[(.va 0,some ⟨55,.f2 .cons (.f1 .vs (.va 2)) (.f2 .cons (.f1 (.vi .i64) (.va 3)) (.f2 .cons (.f1 .vb (.va 4)) (.f2 .cons (.f1 .mp (.va 5)) .nil))),.all⟩)],[]⟩,6,[]⟩ (KF TT f31 [0,2])=.leaf (.stop [true,false]) [(0,xp v0),(2,xp (xN (xh v1) (.cn 0)))] ⟨v1,[(v0,xk 55 (x4 (xs v2) (xi v3) (xb v4) (xm v5)))],[xk 34 (x4 (xi c0) (xs (.cs [])) (xi c0) (xb (.cb false)))]⟩:=by kernel_rfl
theorem zwl:goT TT shp f31.ntmps [] [true,true] (zae f31) [] ⟨[(0,.f1 (.ptr 0) (.va 0)),(2,.f1 (.ptr 0) (.va 6)),(3,.f1 (.ptr 0) (.va 7))],⟨.va 1,[(.va 0,some ⟨55,.f2 .cons (.f1 .vs (.va 2)) (.f2 .cons (.f1 (.vi .i64) (.va 3)) (.f2 .cons (.f1 .vb (.va 4)) (.f2 .cons (.f1 .mp (.va 5)) .nil))),.all⟩),(.va 6,some ⟨34,.f2 .cons (.f1 (.vi .i64) (.ci 0)) (.f2 .cons (.f1 .vs (.cs [])) (.f2 .cons (.f1 (.vi .i64) (.ci 0)) (.f2 .cons (.f1 .vb (.cb false)) .nil))),.all⟩),(.va 7,some ⟨34,.f2 .cons (.f1 (.vi .i64) (.ci 0)) (.f2 .cons (.f1 .vs (.cs [])) (.f2 .cons (.f1 (.vi .i64) (.va 3)) (.f2 .cons (.f1 .vb (.va 4)) .nil))),.all⟩)],[]⟩,8,[]⟩ (KF TT f31 [])=let qt:E:=xs v2;let qe:E:=xi v3;let qd:E:=xb v4;let qs:E:=xm v5;let qb:=xk 55 (x4 qt qe qd qs);let qo:E:=xs (.cs []);let qa:=xk 34 (x4 (xi c0) qo (xi c0) (xb (.cb false)));let qg:SH:=⟨v1,[(v0,qb),(v6,qa),(v7,xk 34 (x4 (xi c0) qo qe qd))],[]⟩;let qc:E:=xs (.f3 .sub v8 c0 v9);let qu:E:=x4 (xi c1) qc qe qd;let qi:=xk 34 qu;let qn:E:=x4 (xi c2) qc qe qd;let qk:=xk 55 (x4 qt (xi (xw (xa v3 v9))) qd qs);let qq:Tree:=.stuck 0;let qx:E:=xA v8 c0;let qr:E:=x2 (xs v8) qe;let ql:E:=x4 (xi v11) (xs v12) qe qd;let qp:E:=xs v11;let qv:E:=xt (x2 qp (xi v12));let qm:E:=x4 (xi c3) qp qe qd;let qj:=xk 55 (x4 qt (xi (xw (xa v3 v12))) qd qs);let qh:E:=x4 (xi (xc 5)) qp qe qd;let qf:E:=x4 (xi (xc 6)) qp qe qd;let qw:=xk 34 qf;.ask (.call 48 (x1 (xp v0))) qg [.s] (xs v8) false (.asks (.call 49 (x1 (xs v8))) [.i] (xi v9) (.need (xL c0 (xl v8)) (.ite (xG v9 c0) (.need (xE c0 v9) (.need (xE v9 (xl v8)) (.ask (.lookup 52 qs qc false) ⟨v1,[(v0,qb),(v6,qa),(v7,qi)],[]⟩ [.b] (xb v10) false (.ite v10 (.fin (xg qn) ⟨v1,[(v0,qk),(v6,xk 34 qn),(v7,xk 34 qn)],[]⟩) (.fin (xg qu) ⟨v1,[(v0,qk),(v6,qi),(v7,qi)],[]⟩)) qq))) (.asks (.call 50 (x1 (xu qx))) [.b] (xb v10) (.ite v10 (.asks (.call 51 qr) [.i,.s,.i] (xt (x3 (xi v11) (xs v12) (xi v13))) (.fin (xg ql) ⟨v1,[(v0,xk 55 (x4 qt (xi (xw (xa v3 v13))) qd qs)),(v6,xk 34 ql),(v7,xk 34 ql)],[]⟩) (.pnc v11 qg)) (.ite (xe qx (xc 39)) (.asks (.call 52 qr) [.s,.i] qv (.fin (xg qm) ⟨v1,[(v0,qj),(v6,xk 34 qm),(v7,xk 34 qm)],[]⟩) (.pnc v11 ⟨v1,[(v0,qb),(v6,qa),(v7,xk 34 (x4 (xi c3) qo qe qd))],[]⟩)) (.ite (xe qx (xc 34)) (.asks (.call 53 qr) [.s,.i] qv (.fin (xg qh) ⟨v1,[(v0,qj),(v6,xk 34 qh),(v7,xk 34 qh)],[]⟩) (.pnc v11 ⟨v1,[(v0,qb),(v6,qa),(v7,xk 34 (x4 (xi (xc 5)) qo qe qd))],[]⟩)) (.asks (.call 54 (x1 (xs v8))) [.s] qp (.asks (.call 55 (x3 (xb (xG (xl v11) c0)) (xi (xc 30)) qe)) [] (.cv (.tup [])) (.fin (xg qf) ⟨v1,[(v0,xk 55 (x4 qt (xi (xw (xa v3 (xl v11)))) qd qs)),(v6,qw),(v7,qw)],[]⟩) (.pnc v12 ⟨v1,[(v0,qb),(v6,qa),(v7,qw)],[]⟩)) qq)))) qq))) qq) qq:=by kernel_rfl
theorem zvu {call:zad}(hC:call.Sound prog TT)(t:Tm)(H:zaa)(q:Nat)(z:V)(s:Bs)(i:Nat)(l:Bool)(m:Nat)(hw:t.wid=104)(t0:t.get 0=.ptr q 0)(t2:t.get 2=z)(hb:H[q]? = some (some (scB s i l m))){Q:Out→Prop}
 (h:∀t',t'.wid=t.wid→t'.get 0=.ptr q 0→t'.get 2=z→t'.get 3=.ptr H.length 0→Q (.norm t' (H++[some ⟨34,[.i .i64 0,.s [],.i .i64 i,.b l],.all⟩]))):Tri prog TT (sub [true,false] (zae f31)) t H Q:=by
 have hq:q<H.length:=zaa.lt hb;have hF:=ai @t0 (ai @t2 @hb);show Tri prog TT (.region _ _ true) t H Q;refine Tri.regN (t':=?t1) (H':=?H1) zaf hC ?e1 ?q1;case e1=>
  refine zbG (t':=?t1) (H':=?H1) (ks:=[.q,.q,.q,.a,.q,.q,.q,.a,.q,.e,.e]) (fun K=>K[q]? = some (some (scB s i l m))) (by kernel_rfl) ?A1 ?_ ?r1;case A1=>exact hb
  iterate 3 refine DR.blind rfl rfl (by simp[hF]<;>rfl) (by rfl) (by simp[hw]) ?_
  refine DR.any rfl (by simp[hF]<;>rfl) (by rfl) (by simp[hw]) (by intro K hK;simp[hF,hK]<;>rfl) ?_;iterate 3 refine DR.blind rfl rfl (by simp[hF]<;>rfl) (by rfl) (by simp[hw]) ?_
  refine DR.any rfl (by simp[hF]<;>rfl) (by rfl) (by simp[hw]) (by intro K hK;simp[hF,hK]<;>rfl) ?_;refine DR.blind rfl rfl (by simp[hF]<;>rfl) (by rfl) (by simp[hw]) ?_;iterate 2 refine DR.eff rfl rfl (by simp[hF]<;>rfl) (by rfl) (by simp[hw]) ((jQa hq).trans hb) ?_
  exact DR.nil;case r1=>exact rfl
 refine h _ ?_ ?_ ?_ ?_;all_goals simp[hF,hw]
def zcQ (kwf:Bs→Bool)(nq:Bs→Option (Int×Bs×Nat))(x:Bs):Nat ⊕ (Int×Bs×Nat):=
 if 0<idR x 0 then .inr (if kwf (x.take (idR x 0))=true then 2 else 1,x.take (idR x 0),idR x 0)
 else if(decide (48≤atS x 0)&&decide (atS x 0≤57))=true then(match nq x with|some r=>.inr r|none=>.inl 33)
 else if atS x 0=39 then(match zjR x with|some p=>.inr (3,p.1,p.2)|none=>.inl 31)
 else if atS x 0=34 then(match zjO x with|some p=>.inr (5,p.1,p.2)|none=>.inl 31)
 else if 0<(sgF x sgnL []).length then .inr (6,sgF x sgnL [],(sgF x sgnL []).length)else .inl 30
def zzg (H H':zaa)(q:Nat):Prop:=H.length≤H'.length∧∀j,j<H.length→j≠q→H'[j]? = H[j]?
def zwE (H:zaa)(q:Nat)(s:Bs)(i:Nat)(l:Bool)(m:Nat)(o:Nat ⊕ (Int×Bs×Nat))(r:OR):Prop:=match o with
 | .inr p=>∃H',r=.val (.agg [.i .i64 p.1,.s p.2.1,.i .i64 i,.b l]) H'∧ScB H' q s (i+p.2.2) l m∧zzg H H' q
 | .inl e=>∃H',r=.pan (zcu e i) H'∧zzg H H' q
set_option maxHeartbeats 1000000 in
theorem zrQ {call:zad}(hC:call.Sound prog TT)(hm:zdO call)(hrest:∀(n:Nat)(s:Bs)(i:Nat)(l:Bool)(m:Nat)(H:zaa),ScB H n s i l m→i≤s.length→call 48 [.ptr n 0] H=.val (.s (s.drop i)) H)
 (q:Nat)(s:Bs)(hword:∀x:Bs,x.length≤s.length→∀H,call 49 [.s x] H=.val (.i .i64 (idR x 0:Nat)) H)(i:Nat)(l:Bool)(m:Nat)(H:zaa)(hb:ScB H q s i l m)(hi:i<s.length)(hs:s.length<1100000)(kwf:Bs→Bool)(nq:Bs→Option (Int×Bs×Nat))(hm0:m<H.length)(hmq:m≠q)(hlk:∀(y:Bs)(K:zaa),K[m]? = H[m]?→zbm TT 52 (.mp m) (.s y) false K=some (.b (kwf y)))
 (hdig:∀c:Int,∀H,call 50 [.i .u8 c] H=.val (.b (decide (48≤c)&&decide (c≤57))) H)(hsg:∀x:Bs,∀H,call 54 [.s x] H=.val (.s (sgF x sgnL [])) H)
 (hchr:∀(x:Bs)(a:Int),(0<x.length∧x.length<1100000)→∀H,call 52 [.s x,.i .i64 a] H=(zaJ (zjR x) a).at H)(htxt:∀(x:Bs)(a:Int),(0<x.length∧x.length<1100000)→∀H,call 53 [.s x,.i .i64 a] H=(zaJ (zjO x) a).at H)
 (hnum:(decide (48≤atS (s.drop i) 0)&&decide (atS (s.drop i) 0≤57))=true→∀(a:Int)(H:zaa),call 51 [.s (s.drop i),.i .i64 a] H=(match nq (s.drop i)with|some r=>.val (.tup [.i .i64 r.1,.s r.2.1,.i .i64 (r.2.2:Nat)]) H|none=>.pan (zcu 33 a) H))(hnl:∀r,nq (s.drop i)=some r→r.2.2≤s.length)(hcl:∀p,zjR (s.drop i)=some p→p.2≤s.length)(htl:∀p,zjO (s.drop i)=some p→p.2≤s.length)(hsl:(sgF (s.drop i) sgnL []).length≤6) :
 zaA prog TT 31 [.ptr q 0] H (zwE H q s i l m (zcQ kwf nq (s.drop i))):=by
 have hq:q<H.length:=zaa.lt hb;refine zaA.sym zaf hC (fn:=f31) rfl rfl (by simp[f31]) zwk (by kernel_rfl) [.un q,.uh H,.us s,.ui (i:Nat),.ub l,.un m] rfl ⟨by rw[zag];rfl,trivial⟩ (zaa.set_self hb) ⟨by simp;exact hq,by simp⟩ ?_;simp -implicitDefEqProofs only[VC,isR,exU,Ask.den,E.den,O1.den,O2.den,O3.den,SH.den,zat,za9,bD,SB.den,zai,LQ,uu,uW,jOa,jUa,jDa,zbB,jSa,if_false,if_true];intro t hw t0 t2;refine zvu hC t _ q _ s i l m hw t0 t2 (by rw[jQa (by rw[length_set];exact hq),jFb hq]) fun t' hw' f0 f2 f3=>?_;show Tri prog TT (sub [true,true] (zae f31)) t' _ (ctx prog TT [true,true] (zae f31) _);have hb':ScB (H.set q (some (scB s i l m))++[some ⟨34,[.i .i64 0,.s [],.i .i64 0,.b false],.all⟩]++[some ⟨34,[.i .i64 0,.s [],.i .i64 i,.b l],.all⟩]) q s i l m:=by
  unfold ScB;rw[jEb,jQa (by rw[length_set];exact hq),jFb hq]
 generalize hG:H.set q (some (scB s i l m))++[some ⟨34,[.i .i64 0,.s [],.i .i64 0,.b false],.all⟩]++[some ⟨34,[.i .i64 0,.s [],.i .i64 i,.b l],.all⟩]=G at hb';have g1:G[H.length]? = some (some ⟨34,[.i .i64 0,.s [],.i .i64 0,.b false],.all⟩):=by rw[←hG];simp
 have g2:G[H.length+1]? = some (some ⟨34,[.i .i64 0,.s [],.i .i64 i,.b l],.all⟩):=by rw[←hG];simp
 have hl:G.length=H.length+2:=by rw[←hG];simp
 have fin:∀(A B:Option Blk)(k:Nat),ScB (((G.set (H.length+1) A).set H.length B).set q (some (scB s k l m))) q s k l m:=fun A B k=>by
  unfold ScB;rw[jFb (by simp[hl];omega)]
 have kept:∀(A B C:Option Blk),zzg H (((G.set (H.length+1) A).set H.length B).set q C) q:=fun A B C=>⟨by simp[hl],fun j h1 h2=>by
  rw[jRa (fun e=>h2 e.symm),jRa (by omega),jRa (by omega),←hG,jEb,jQa (by rw[length_set];exact h1),jRa (fun e=>h2 e.symm)]⟩
 have e0:((G.set (H.length+1) (some ⟨34,[.i .i64 0,.s [],.i .i64 (i:Nat),.b l],.all⟩)).set H.length (some ⟨34,[.i .i64 0,.s [],.i .i64 0,.b false],.all⟩)).set q (some (scB s i l m))=G:=by
  rw[←zaa.set_self g2,←zaa.set_self g1,←zaa.set_self hb']
 refine Tri.symIn zaf hC zwl (by kernel_rfl) [.un q,.uh G,.us s,.ui (i:Nat),.ub l,.un m,.un H.length,.un (H.length+1)] rfl (hw'.trans hw) ⟨f0,?_,?_,trivial⟩ ?_ ?_ ?_
 ·rw[f2];simp
 ·rw[f3];simp
 ·show G=((G.set (H.length+1) _).set H.length _).set q _;exact e0.symm
 ·have hl:G.length=H.length+2:=by rw[←hG];simp
  exact⟨by simp[hl];omega,by simp;omega⟩
 ·simp -implicitDefEqProofs only[VC,isR,exU,Ask.den,E.den,O1.den,O2.den,O3.den,SH.den,zat,za9,bD,SB.den,zai,LQ,uu,uW,jOa,jUa,jDa,zbB,jSa,if_false,if_true,e0];refine .inl ⟨_,hrest q s i l m G hb' (by omega),.inl ⟨_,fun K=>hword _ (by rw[jJa];omega) K,by rw[jJa];omega,fun h1=>?_,fun h1=>?_⟩⟩
  ·have hil:idR (s.drop i) 0≤(s.drop i).length:=(zkr (Nat.zero_le _)).2;have hkm:∀A:Option Blk,(((G.set (H.length+1) A).set H.length (some ⟨34,[.i .i64 0,.s [],.i .i64 0,.b false],.all⟩)).set q (some (scB s i l m)))[m]? = H[m]?:=fun A=>(kept A _ _).2 m hm0 hmq;have ec:(((idR (s.drop i) 0:Nat):Int)).toNat=idR (s.drop i) 0:=jCa _;have w1:IntKind.i64.wrap ((i:Int)+(idR (s.drop i) 0:Nat))=((i+idR (s.drop i) 0:Nat):Int):=by rw[jJa]at hil;rw[w64 (by omega) (by omega)];omega
   have e1:zcQ kwf nq (s.drop i)=.inr (if kwf ((s.drop i).take (idR (s.drop i) 0))=true then 2 else 1,(s.drop i).take (idR (s.drop i) 0),idR (s.drop i) 0):=by unfold zcQ;rw[if_pos (by omega)]
   simp only[ec,w1,e1];refine⟨by omega,by omega,.inl ⟨kwf ((s.drop i).take (idR (s.drop i) 0)),?_,fun h2=>?_,fun h2=>?_⟩⟩
   ·rw[hlk _ _ (hkm _)];rfl
   ·rw[h2];exact⟨_,rfl,fin _ _ _,kept _ _ _⟩
   ·rw[h2];exact⟨_,rfl,fin _ _ _,kept _ _ _⟩
  ·have n1:¬0<idR (s.drop i) 0:=by omega
   have hxl:0<(s.drop i).length∧(s.drop i).length<1100000:=by rw[jJa];omega
   have hKG:zzg H G q:=⟨by rw[hl];omega,fun j h1 h2=>by
    rw[←hG,jEb,jQa (by rw[length_set];exact h1),jRa (fun e=>h2 e.symm)]⟩
   have wk:∀k:Nat,k≤s.length+6→IntKind.i64.wrap ((i:Int)+(k:Nat))=((i+k:Nat):Int):=fun k hk=>by rw[w64 (by omega) (by omega)];omega
   refine .inl ⟨_,fun K=>hdig _ K,fun h2=>?_,fun h2=>⟨fun h3=>?_,fun h3=>⟨fun h4=>?_,fun h4=>.inl ⟨_,fun K=>hsg _ K,?_⟩⟩⟩⟩
   ·rcases hn:nq (s.drop i)with _|r
    ·have e1:zcQ kwf nq (s.drop i)=.inl 33:=by unfold zcQ;rw[if_neg n1,if_pos h2,hn]
     rw[e1];exact .inr ⟨zcu 33 i,fun K=>by rw[hnum h2 _ K,hn],_,rfl,hKG⟩
    ·have e1:zcQ kwf nq (s.drop i)=.inr r:=by unfold zcQ;rw[if_neg n1,if_pos h2,hn]
     rw[e1];refine .inl ⟨r.1,r.2.1,(r.2.2:Nat),fun K=>by rw[hnum h2 _ K,hn],?_⟩;rw[wk _ (by have:=hnl r hn;omega)];exact⟨_,rfl,fin _ _ _,kept _ _ _⟩
   ·have n2:¬(decide (48≤atS (s.drop i) 0)&&decide (atS (s.drop i) 0≤57))=true:=by rw[h2];exact jZb
    rcases hn:zjR (s.drop i)with _|p
    ·have e1:zcQ kwf nq (s.drop i)=.inl 31:=by unfold zcQ;rw[if_neg n1,if_neg n2,if_pos h3,hn]
     rw[e1];exact .inr ⟨_,fun K=>by rw[hchr _ _ hxl K,hn];rfl,_,rfl,kept _ _ _⟩
    ·have e1:zcQ kwf nq (s.drop i)=.inr (3,p.1,p.2):=by unfold zcQ;rw[if_neg n1,if_neg n2,if_pos h3,hn]
     rw[e1];refine .inl ⟨p.1,(p.2:Nat),fun K=>by rw[hchr _ _ hxl K,hn];rfl,?_⟩;rw[wk _ (by have:=hcl p hn;omega)];exact⟨_,rfl,fin _ _ _,kept _ _ _⟩
   ·have n2:¬(decide (48≤atS (s.drop i) 0)&&decide (atS (s.drop i) 0≤57))=true:=by rw[h2];exact jZb
    rcases hn:zjO (s.drop i)with _|p
    ·have e1:zcQ kwf nq (s.drop i)=.inl 31:=by unfold zcQ;rw[if_neg n1,if_neg n2,if_neg h3,if_pos h4,hn]
     rw[e1];exact .inr ⟨_,fun K=>by rw[htxt _ _ hxl K,hn];rfl,_,rfl,kept _ _ _⟩
    ·have e1:zcQ kwf nq (s.drop i)=.inr (5,p.1,p.2):=by unfold zcQ;rw[if_neg n1,if_neg n2,if_neg h3,if_pos h4,hn]
     rw[e1];refine .inl ⟨p.1,(p.2:Nat),fun K=>by rw[htxt _ _ hxl K,hn];rfl,?_⟩;rw[wk _ (by have:=htl p hn;omega)];exact⟨_,rfl,fin _ _ _,kept _ _ _⟩
   ·have n2:¬(decide (48≤atS (s.drop i) 0)&&decide (atS (s.drop i) 0≤57))=true:=by rw[h2];exact jZb
    have e0:zcQ kwf nq (s.drop i)=if 0<(sgF (s.drop i) sgnL []).length then .inr (6,sgF (s.drop i) sgnL [],(sgF (s.drop i) sgnL []).length)else .inl 30:=by
     unfold zcQ;rw[if_neg n1,if_neg n2,if_neg h3,if_neg h4]
    generalize sgF (s.drop i) sgnL []=g at e0 hsl ⊢;rw[e0];refine zaU hm _ _ _ (fun h5=>?_) (fun h5=>?_)
    ·have h6:0<g.length:=by simpa using h5
     rw[if_pos h6,wk _ (by omega)];exact⟨_,rfl,fin _ _ _,kept _ _ _⟩
    ·have h6:¬0<g.length:=by intro e;simp[e]at h5
     rw[if_neg h6];exact⟨_,rfl,kept _ _ _⟩
theorem zpm {x:Bs}{p:Bs×Nat}(h:zjR x=some p):0<p.2∧p.2≤x.length:=by
 unfold zjR at h;rcases hq:zbW x 39 with _|q
 ·rw[hq]at h;cases h
 ·rw[hq]at h;simp only at h;obtain⟨_,h2,h3⟩:=zhj hq;by_cases h1:Lib.runeCount ⟨q.1.toArray⟩=1
  ·rw[if_pos h1]at h;have h:=jWa h;rw[←h];exact⟨by simp only;omega,h3⟩
  ·rw[if_neg h1]at h;cases h
theorem zrq {x:Bs}{p:Bs×Nat}(h:zjO x=some p):0<p.2∧p.2≤x.length:=by
 unfold zjO at h;by_cases h0:zbv x [34,34,34]=true
 ·rw[if_pos h0]at h;have hl:=zbw h0;simp only[jIa,jVa]at hl;by_cases h1:0≤Lib.index (x.drop 3) [34,34,34]∧Lib.validD ((x.drop 3).take (Lib.index (x.drop 3) [34,34,34]).toNat)=true
  ·rw[if_pos h1]at h;have hr:=Lib.index_room (x.drop 3) [34,34,34] h1.1;rw[jJa]at hr;simp only[jIa,jVa]at hr;have h:=jWa h;rw[←h];exact⟨by simp only;omega,by simp only;omega⟩
  ·rw[if_neg h1]at h;cases h
 ·rw[if_neg h0]at h;obtain⟨_,h2,h3⟩:=zhj h;exact⟨by omega,h3⟩
theorem zl3 (s:Bs):∀(L:List (Bs))(b:Bs),sgF s L b=b∨sgF s L b∈L
 | [],b=>.inl rfl
 |x::l,b=>by
  simp only[sgF];rcases zl3 s l (if okP s b x=true then x else b)with h|h
  ·rw[h];by_cases hx:okP s b x=true
   ·rw[if_pos hx];exact .inr (jIc ..)
   ·rw[if_neg hx];exact .inl rfl
  ·exact .inr (jYb _ h)
theorem zte:(sgnL.all fun x=>decide (x.length≤6))=true:=by kernel_rfl
theorem zvJ (s:Bs):(sgF s sgnL []).length≤6:=by
 rcases zl3 s sgnL []with h|h
 ·rw[h];simp
 ·exact jBc (jBb.1 zte _ h)
theorem zp5 {K:zaa}{m:Nat}(h:K[m]? = zbb[0]?)(s:Bs):zbm TT 52 (.mp m) (.s s) false K=some (.b (kw s)):=by
 have e:zdL K m=zdL zbb 0:=by unfold zdL;rw[h]
 have h1:zdL K m=some ⟨52,(zdX.map fun w=>[V.s w,V.b true]).flatten,.map⟩:=e.trans rfl;simp only[zbm,tU,Tryz.underlying52,h1,tU,Tryz.underlying9,zcG,if_true,zd1,kw];cases zdX.contains s<;>simp
def zl2:zaa:=[some {ty:=23,cells:=[.nils],kind:=.all},some {ty:=3,cells:=[.i .i64 0],kind:=.all},some {ty:=24,cells:=[.i .i64 0],kind:=.all}]
theorem zlH:zcw TT (zeu Con.none) 3000 29 [] zl2=.val (.mp 3) (zl2++zbb):=by kernel_rfl
def zl7:List V→zaa→OR:=fun vs H=>match vs with
 | []=>if zaa.beq H zl2=true then .val (.mp 3) (zl2++zbb)else .no
 |_=>.no
theorem zzU:zak prog TT 29 zl7:=by
 intro vs H r h hne;unfold zl7 at h;split at h
 ·split at h
  ·rename_i hb;have:=zaa.beq_eq _ _ hb;subst this;subst h;exact ze1 zaf Con.none_sound 3000 29 [] zl2 _ zlH hne
  ·exact absurd h.symm hne
 ·exact absurd h.symm hne
theorem zuy {call:zad}(hC:call.Sound prog TT){t:Tm}{H:zaa}(hw:t.wid=16)(h6:t.get 6=.nili):Tri prog TT (sub [true] (zae f28)) t H (fun o=>∃tI v,(o=.norm tI H∨o=.ret tI H)∧zaZ TT f28 tI.get H=.val v H):=by
 apply bK;apply rS hC
 ·refine oA ?_;rfl
 refine cT (by simp[h6]<;>rfl) ?_;apply rN hC
 ·refine oA ?_;rfl
 apply bN;exact⟨_,_,.inl rfl,rfl⟩
theorem znL (vs:List V)(hv:vs.length=3)(H:zaa):zeT prog TT 28 vs none H H:=by
 refine zgF (fn:=f28) (c:=zae f28) zaf rfl rfl (by rw[hv];simp[f28]) ?_;refine zno.seq ?_;refine zno.reg zaf n0 0 rfl rfl rfl rfl rfl rfl ?_;exact zuy n0 rfl ((get_put _ 6 6 .nili).trans (if_pos rfl))
def znJ (H:zaa)(e k:Int):zaa:=(((H++[some (⟨50,[.i .i64 e,.i .i64 k],.all⟩:Blk)]).set 0 (some ⟨23,[.nils],.all⟩)).set 1 (some ⟨3,[.i .i64 k],.all⟩)).set 2 (some ⟨24,[.i .i64 e],.all⟩)
theorem zux {call:zad}(hC:call.Sound prog TT){t:Tm}{H:zaa}{v:V}{x y e k:Int}(hw:t.wid=16)(h6:t.get 6=zcu e k)(h0:t.get 0=.ptr 0 0)(h1:t.get 1=.ptr 1 0)(h2:t.get 2=.ptr 2 0)
 (g0:H[0]? = some (some ⟨23,[v],.all⟩))(g1:H[1]? = some (some ⟨3,[.i .i64 x],.all⟩))(g2:H[2]? = some (some ⟨24,[.i .i64 y],.all⟩)) :
 Tri prog TT (sub [true] (zae f28)) t H (fun o=>∃tI v,(o=.norm tI (znJ H e k)∨o=.ret tI (znJ H e k))∧zaZ TT f28 tI.get (znJ H e k)=.val v (znJ H e k)):=by
 have l2:2<H.length:=zaa.lt g2;obtain⟨K,hK⟩:∃K,H=some ⟨23,[v],.all⟩::some ⟨3,[.i .i64 x],.all⟩::some ⟨24,[.i .i64 y],.all⟩::K:=by
  match H,g0,g1,g2 with
  |a::b::c::K,g0,g1,g2=>
   simp at g0 g1 g2;subst g0 g1 g2;exact⟨K,rfl⟩
 subst hK;clear g0 g1 g2 l2;apply bK;apply rS hC
 ·refine gO (by simp[h6,zcu]<;>rfl) ?_;rfl
 refine Tri.condG (o:=?o2) (b:=?b2) ?g2 ?r2 ?y2 ?n2;case g2=>simp[h6,zcu]<;>rfl
 case r2=>rfl
 case y2=>intro h;simp at h
 case n2=>
  intro _;apply sQ;refine Tri.regN (t':=?t3) (H':=?H3) zaf hC ?e3 ?q3;case e3=>
   refine zar ?_;iterate 3 refine zab rfl (by simp[h6,zcu]<;>rfl) (by rfl) (by simp[hw]) ?_
   exact zal
  apply sN;refine Tri.condG (o:=?o4) (b:=?b4) ?g4 ?r4 ?y4 ?n4;case g4=>simp<;>rfl
  case r4=>rfl
  case n4=>intro h;simp at h
  case y4=>
   intro _;apply sQ;refine Tri.regN (t':=?t5) (H':=?H5) zaf hC ?e5 ?q5;case e5=>
    refine zar ?_;iterate 2 refine zab rfl (by simp<;>rfl) (by rfl) (by simp[hw]) ?_
    exact zal
   apply sN;refine Tri.regN (t':=?t6) (H':=?H6) zaf hC ?e6 ?q6;case e6=>
    refine zbG (t':=?t6) (H':=?H6) (ks:=[.q,.a,.q,.a,.e,.e,.e]) (fun J=>J[K.length+3]? = some (some ⟨50,[.i .i64 e,.i .i64 k],.all⟩)) (by kernel_rfl) ?A6 ?_ ?r6;case A6=>simp
    refine DR.blind rfl rfl (by simp[h0,h1,h2]<;>rfl) (by rfl) (by simp[hw]) ?_;refine DR.any rfl (by simp[h0,h1,h2]<;>rfl) (by rfl) (by simp[hw]) (by intro J hJ;simp[hJ]<;>rfl) ?_;refine DR.blind rfl rfl (by simp[h0,h1,h2]<;>rfl) (by rfl) (by simp[hw]) ?_;refine DR.any rfl (by simp[h0,h1,h2]<;>rfl) (by rfl) (by simp[hw]) (by intro J hJ;simp[hJ]<;>rfl) ?_;iterate 3 refine DR.eff rfl rfl (by simp[h0,h1,h2]<;>rfl) (by rfl) (by simp[hw]) (by simp) ?_
    exact DR.nil;case r6=>exact rfl
   apply bN;exact⟨_,_,.inl rfl,rfl⟩
theorem znK {H:zaa}{v:V}{x y:Int}(e k:Int)(g0:H[0]? = some (some ⟨23,[v],.all⟩))(g1:H[1]? = some (some ⟨3,[.i .i64 x],.all⟩))(g2:H[2]? = some (some ⟨24,[.i .i64 y],.all⟩)):zeT prog TT 28 [.ptr 0 0,.ptr 1 0,.ptr 2 0] (some (zcu e k)) H (znJ H e k):=by
 refine zgF (fn:=f28) (c:=zae f28) zaf rfl rfl (by simp[f28]) ?_;refine zno.seq ?_;refine zno.reg zaf n0 0 rfl rfl rfl rfl rfl rfl ?_;exact zux n0 rfl ((get_put _ 6 6 _).trans (if_pos rfl)) rfl rfl rfl g0 g1 g2
theorem zjn {x:Bs}{base:Nat}{r:Int×Bs×Nat}(hl:2≤x.length)(h:zk6 x base=some r):0<r.2.2∧r.2.2≤x.length:=by
 unfold zk6 at h;split at h
 ·cases h
 ·rename_i n hn;have:=zcg base _ _ _ hn;rw[jJa]at this;split at h
  ·split at h
   ·cases h
   ·split at h
    ·have h:=jWa h;rw[←h];exact⟨by simp only;omega,by simp only;omega⟩
    ·cases h
  ·cases h
theorem znh {x:Bs}{m:Nat}{r:Bool}{p:Nat×Bool}(hm:m≤x.length)(h:zdg x m r=some p):m≤p.1∧p.1≤x.length:=by
 unfold zdg at h;split at h
 ·cases h
 ·rename_i k hk;have:=zi2 _ _ hk;rw[jJa]at this;split at h
  ·split at h
   ·have h:=jWa h;rw[←h];exact⟨by simp only;omega,by simp only;omega⟩
   ·cases h
  ·split at h
   ·have h:=jWa h;rw[←h];exact⟨jDb _,hm⟩
   ·cases h
theorem zuB {x:Bs}{p:Nat×Bool}(h:zfO x=some p):p.1≤x.length∧∀n,zb6 10 x 0=some n→n≤p.1:=by
 unfold zfO at h;split at h
 ·cases h
 ·rename_i n hn;have hnl:=zcg 10 _ _ _ hn;split at h
  ·split at h
   ·cases h
   ·rename_i k hk;have hkl:=zcg 10 _ _ _ hk;rw[jJa]at hkl;obtain⟨h1,h2⟩:=znh (by omega) h;exact⟨h2,fun n' hn'=>by rw[hn]at hn';cases hn';omega⟩
  ·obtain⟨h1,h2⟩:=znh (by omega) h;exact⟨h2,fun n' hn'=>by rw[hn]at hn';cases hn';omega⟩
theorem zlX (base:Int):∀(L:Bs)(n m:Nat),zb6 base L n=some m→n≤m
 | [],n,m,h=>by simp[zb6]at h;omega
 |c::r,n,m,h=>by
  simp only[zb6]at h;split at h
  ·have:=zlX base r (n+1) m h;omega
  ·split at h
   ·have:=jWa h;omega
   ·split at h
    ·split at h
     ·have:=zlX base _ (n+1) m h;omega
     ·cases h
    ·cases h
theorem zs7 {x:Bs}{m:Nat}(hd:(decide (48≤atS x 0)&&decide (atS x 0≤57))=true)(h:zb6 10 x 0=some m):0<m:=by
 cases x with
 |nil=>simp[atS]at hd
 |cons c r=>
  simp only[jMa,jTa]at hd;have e:atS (c::r) 0=c.toNat:=by simp[atS]
  rw[e]at hd;simp only[zb6]at h;rw[if_pos (by unfold zbT zln;rw[if_pos hd,if_neg (by omega)];omega)]at h;have:=zlX 10 r 1 m h;omega
theorem zqk {x:Bs}{r:Int×Bs×Nat}(h:zdv x=some r):r.2.2≤x.length∧((decide (48≤atS x 0)&&decide (atS x 0≤57))=true→0<r.2.2):=by
 rw[zhd]at h;split at h
 ·rename_i hp;have:=zbw hp;simp only[jIa,jVa]at this;exact⟨(zjn (by omega) h).2,fun _=>(zjn (by omega) h).1⟩
 ·split at h
  ·rename_i hp;have:=zbw hp;simp only[jIa,jVa]at this;exact⟨(zjn (by omega) h).2,fun _=>(zjn (by omega) h).1⟩
  ·cases hd:zfO x with
   |none=>rw[hd]at h;cases h
   |some p=>
    obtain⟨k1,k2⟩:=zuB hd;have k3:(decide (48≤atS x 0)&&decide (atS x 0≤57))=true→0<p.1:=fun hg=>by
     cases hr:zb6 10 x 0 with
     |none=>simp[zfO,hr]at hd
     |some n=>have:=k2 n hr;have:=zs7 hg hr;omega
    obtain⟨m,b⟩:=p;rw[hd]at h;cases b with
    |true=>simp only[zj9]at h;have h:=jWa h;rw[←h];exact⟨k1,k3⟩
    |false=>
     simp only[zj9]at h;split at h
     ·cases h
     ·have h:=jWa h;rw[←h];exact⟨k1,k3⟩
theorem ztV (x:Bs):∀(L:List (Bs))(b:Bs),b.length≤x.length→(sgF x L b).length≤x.length
 | [],b,h=>h
 |y::L,b,h=>by
  simp only[sgF];refine ztV x L _ ?_;split
  ·rename_i hy;unfold okP at hy;simp only[jMa]at hy;exact zbw hy.2.1
  ·exact h
theorem zm8 (s:Bs):∀(n i:Nat)(l:Bool)(j:Nat)(l':Bool),i≤s.length→skF s n i l=.inr (j,l')→i≤j∧j≤s.length
 |0,i,l,j,l',hi,h=>by simp[skF]at h;omega
 |n+1,i,l,j,l',hi,h=>by
  simp only[skF]at h;split at h
  ·split at h
   ·have:=zm8 s n (i+1) _ j l' (by omega) h;omega
   ·split at h
    ·simp at h;omega
    ·cases h
    ·rename_i p hp;obtain⟨q1,q2⟩:=zpq hi hp;have:=zm8 s n p.1 p.2 j l' q2 h;omega
  ·simp at h;omega
theorem zm9 {s:Bs}{i j:Nat}{l l':Bool}(hi:i≤s.length)(h:skQ s i l=.inr (j,l')):i≤j∧j≤s.length:=zm8 s _ i l j l' hi h
theorem zjL {x:Bs}{p:Int×Bs×Nat}(h:zcQ kw zdv x=.inr p):0<p.2.2∧p.2.2≤x.length:=by
 have hle:=ztV x sgnL [] (by simp);unfold zcQ at h;generalize sgF x sgnL []=g at h hle;split at h
 ·rename_i h0;cases h;exact⟨h0,(zkr (Nat.zero_le _)).2⟩
 ·split at h
  ·rename_i hd;cases hn:zdv x with
   |none=>rw[hn]at h;cases h
   |some r=>
    rw[hn]at h;cases h;obtain⟨k1,k2⟩:=zqk hn;exact⟨k2 hd,k1⟩
  ·split at h
   ·cases hc:zjR x with
    |none=>rw[hc]at h;cases h
    |some r=>rw[hc]at h;cases h;exact zpm hc
   ·split at h
    ·cases hc:zjO x with
     |none=>rw[hc]at h;cases h
     |some r=>rw[hc]at h;cases h;exact zrq hc
    ·split at h
     ·rename_i hs;cases h;exact⟨hs,hle⟩
     ·cases h
def zuf (D:Bs→Prop)(x:Bs):Prop:=(decide (48≤atS x 0)&&decide (atS x 0≤57))=true→D x
theorem zq5 (D:Bs→Prop)(hf:∀s at_,D s→s.length<1100000→zwq s at_):∃g,zak prog TT 31 g∧∀(q:Nat)(s:Bs)(i:Nat)(l:Bool)(m:Nat)(H:zaa),ScB H q s i l m→i<s.length→s.length<1090000→H[m]? = zbb[0]?→m≠q→zuf D (s.drop i) →
 zwE H q s i l m (zcQ kw zdv (s.drop i)) (g [.ptr q 0] H):=by
 obtain⟨g1,k1,s1⟩:=zd3;obtain⟨g2,k2,s2⟩:=ztY;obtain⟨g3,k3,s3⟩:=zys;obtain⟨g4,k4,s4⟩:=zon;obtain⟨g5,k5,s5⟩:=zya;obtain⟨g6,k6,s6⟩:=zx8;obtain⟨g7,k7,s7⟩:=zx9;obtain⟨g8,k8,s8⟩:=zq9 D hf;have hC:=ws (ws (ws (ws (ws (ws (ws (ws n0 k1) k2) k3) k4) k5) k6) k7) k8;have hm:zdO ((((((((zad.none.with 55 g1).with 48 g2).with 49 g3).with 50 g4).with 54 g5).with 52 g6).with 53 g7).with 51 g8):=fun b e k H=>by
  rw[zac _ _ _ _ rfl,zac _ _ _ _ rfl,zac _ _ _ _ rfl,zac _ _ _ _ rfl,zac _ _ _ _ rfl,zac _ _ _ _ rfl,zac _ _ _ _ rfl,zan];exact s1 b e k H
 have c2:∀(n:Nat)(s:Bs)(i:Nat)(l:Bool)(m:Nat)(H:zaa),ScB H n s i l m→i≤s.length→((((((((zad.none.with 55 g1).with 48 g2).with 49 g3).with 50 g4).with 54 g5).with 52 g6).with 53 g7).with 51 g8) 48 [.ptr n 0] H=.val (.s (s.drop i)) H:=fun n s i l m H h1 h2=>by
  rw[zac _ _ _ _ rfl,zac _ _ _ _ rfl,zac _ _ _ _ rfl,zac _ _ _ _ rfl,zac _ _ _ _ rfl,zac _ _ _ _ rfl,zan];exact s2 n s i l m H h1 h2
 have c3:∀x:Bs,x.length<1090000→∀H,((((((((zad.none.with 55 g1).with 48 g2).with 49 g3).with 50 g4).with 54 g5).with 52 g6).with 53 g7).with 51 g8) 49 [.s x] H=.val (.i .i64 (idR x 0:Nat)) H:=fun x hx H=>by
  rw[zac _ _ _ _ rfl,zac _ _ _ _ rfl,zac _ _ _ _ rfl,zac _ _ _ _ rfl,zac _ _ _ _ rfl,zan];exact s3 x hx H
 have c4:∀c:Int,∀H,((((((((zad.none.with 55 g1).with 48 g2).with 49 g3).with 50 g4).with 54 g5).with 52 g6).with 53 g7).with 51 g8) 50 [.i .u8 c] H=.val (.b (decide (48≤c)&&decide (c≤57))) H:=fun c H=>by
  rw[zac _ _ _ _ rfl,zac _ _ _ _ rfl,zac _ _ _ _ rfl,zac _ _ _ _ rfl,zan];exact s4 c trivial H
 have c5:∀x:Bs,∀H,((((((((zad.none.with 55 g1).with 48 g2).with 49 g3).with 50 g4).with 54 g5).with 52 g6).with 53 g7).with 51 g8) 54 [.s x] H=.val (.s (sgF x sgnL [])) H:=fun x H=>by
  rw[zac _ _ _ _ rfl,zac _ _ _ _ rfl,zac _ _ _ _ rfl,zan];exact s5 x trivial H
 have c6:∀(x:Bs)(a:Int),(0<x.length∧x.length<1100000)→∀H,((((((((zad.none.with 55 g1).with 48 g2).with 49 g3).with 50 g4).with 54 g5).with 52 g6).with 53 g7).with 51 g8) 52 [.s x,.i .i64 a] H=(zaJ (zjR x) a).at H:=fun x a hx H=>by
  rw[zac _ _ _ _ rfl,zac _ _ _ _ rfl,zan];exact s6 (x,a) hx H
 have c7:∀(x:Bs)(a:Int),(0<x.length∧x.length<1100000)→∀H,((((((((zad.none.with 55 g1).with 48 g2).with 49 g3).with 50 g4).with 54 g5).with 52 g6).with 53 g7).with 51 g8) 53 [.s x,.i .i64 a] H=(zaJ (zjO x) a).at H:=fun x a hx H=>by
  rw[zac _ _ _ _ rfl,zan];exact s7 (x,a) hx H
 have c8:∀(x:Bs)(a:Int),D x→x.length<1100000→∀H,((((((((zad.none.with 55 g1).with 48 g2).with 49 g3).with 50 g4).with 54 g5).with 52 g6).with 53 g7).with 51 g8) 51 [.s x,.i .i64 a] H=(zmQ (zdv x) a).at H:=fun x a hd hx H=>by
  rw[zan];exact s8 x a hd hx H
 generalize(((((((zad.none.with 55 g1).with 48 g2).with 49 g3).with 50 g4).with 54 g5).with 52 g6).with 53 g7).with 51 g8=call at hC hm c2 c3 c4 c5 c6 c7 c8;obtain⟨g,k,h⟩:=zc2 zaf 31 (fun p:Nat×Bs×Nat×Bool×Nat=>[.ptr p.1 0]) (fun p H=>ScB H p.1 p.2.1 p.2.2.1 p.2.2.2.1 p.2.2.2.2∧p.2.2.1<p.2.1.length∧p.2.1.length<1090000∧H[p.2.2.2.2]? = zbb[0]?∧p.2.2.2.2≠p.1∧zuf D (p.2.1.drop p.2.2.1))
  (fun p H r=>zwE H p.1 p.2.1 p.2.2.1 p.2.2.2.1 p.2.2.2.2 (zcQ kw zdv (p.2.1.drop p.2.2.1)) r) (by
  rintro⟨n,s,i,l,m⟩ ⟨n',s',i',l',m'⟩ H r ⟨h1,_⟩ ⟨h2,_⟩ he hr;simp only[jPa,V.ptr.injEq,jGb]at he;subst he;obtain⟨rfl,rfl,rfl,rfl⟩:=h1.inj h2;exact hr) (by
  rintro⟨q,s,i,l,m⟩ H ⟨hb,hi,hs,hkm,hmq,hd⟩;simp only at hb hi hs hkm hmq hd ⊢;have hm0:m<H.length:=by
   have:zbb[0]?≠none:=by decide
   rw[←hkm]at this;exact Nat.lt_of_not_le fun h=>this (jGc h)
  have hlen:(s.drop i).length≤s.length:=by rw[jJa];omega
  refine zrQ hC hm c2 q s (fun x hx H=>c3 x (by omega) H) i l m H hb hi (by omega) kw zdv hm0 hmq (fun y K hK=>zp5 (hK.trans hkm) y) c4 c5 c6 c7 (fun hg a K=>?_) (fun r hr=>?_) (fun p hp=>?_) (fun p hp=>?_) (zvJ _)
  ·rw[c8 _ a (hd hg) (by omega) K];cases zdv (s.drop i)<;>rfl
  ·have:=(zqk hr).1;omega
  ·have:=(zpm hp).2;omega
  ·have:=(zrq hp).2;omega)
 exact⟨g,k,fun q s i l m H h1 h2 h3 h4 h5 h6=>h (q,s,i,l,m) H ⟨h1,h2,h3,h4,h5,h6⟩⟩
def zfo (s:Bs):Nat→Nat→Bool→List Tk→List Tk ⊕ (Nat×Nat)
 |0,_,_,acc=>.inl acc
 |n+1,i,l,acc=>match skQ s i l with
  | .inl a=>.inr (a,32)
  | .inr (j,l')=>if j=s.length then .inl acc else match zcQ kw zdv (s.drop j)with
   | .inl e=>.inr (j,e)
   | .inr (k,t,m)=>zfo s n (j+m) false (acc++[(k,t,(j:Int),l')])
def zm6 (D:Bs→Prop)(s:Bs):Nat→Nat→Bool→Prop
 |0,_,_=>True
 |n+1,i,l=>match skQ s i l with
  | .inl a=>True
  | .inr (j,l')=>j=s.length∨(zuf D (s.drop j)∧match zcQ kw zdv (s.drop j)with
   | .inl e=>True
   | .inr (k,t,m)=>zm6 D s n (j+m) false)
theorem zkM (s:Bs):∀(n i:Nat)(l:Bool),zm6 (fun _=>True) s n i l
 |0,_,_=>trivial
 |n+1,i,l=>by
  unfold zm6;split
  ·trivial
  ·refine .inr ⟨fun _=>trivial,?_⟩;split
   ·trivial
   ·exact zkM s n _ _
def zud (H:zaa)(q m:Nat)(v:V)(l:List Tk):Prop:=(v=.nils∧l=[])∨∃n,v=.sl n 4 0 l.length none∧H[n]? = some (some {ty:=34,cells:=tkC l,kind:=.more})∧3≤n∧n≠q∧n≠m
theorem ztD (v:Tk)(H:zaa):zaE TT 23 1 [(0,.agg (tkL v))] H=.val (.sl H.length 4 0 1 (some 1)) (H++[some {ty:=34,cells:=tkL v,kind:=.all}]):=by
 have e1:TT.und 23=some (.slice 34):=rfl;have e2:TT.size 34=some 4:=rfl;have e3:TT.zero 34=some (.agg [.i .i64 0,.s [],.i .i64 0,.b false]):=rfl;simp only[zaE,e1,e2,e3];simp[zgo,zes,splice,zaX,V.cells,tkL]
theorem zuj {H:zaa}{q m:Nat}{v:V}{l:List Tk}(h:zud H q m v l)(hl:l.length<100000000)(x:Tk){b:Nat}(hb:H[b]? = some (some {ty:=34,cells:=tkL x,kind:=.all}))(hq:q<H.length)(hm:m<H.length)(h3:3≤H.length) :
 ∃v2 H2,zaN TT 23 v (.sl b 4 0 1 (some 1)) H=.val v2 H2∧zud H2 q m v2 (l++[x])∧H.length≤H2.length∧(∀j,(j<3∨j=q∨j=m)→H2[j]? = H[j]?):=by
 have e1:TT.und 23=some (.slice 34):=rfl;have e2:TT.size 34=some 4:=rfl;have e3:TT.zero 34=some (.agg [.i .i64 0,.s [],.i .i64 0,.b false]):=rfl;have e4:TT.bytes 34=some 40:=rfl;have c1:zap H b=some {ty:=34,cells:=tkL x,kind:=.all}:=by simp[zap,hb]
 have c3:cut (tkL x) (0*4) (1*4)=some (tkL x):=by simp[cut,tkL]
 have f1:(tkL x).all zeA=true:=by simp[tkL,zeA]
 have f2:(V.agg [.i .i64 0,.s [],.i .i64 0,.b false]).cells.length=4:=rfl;have keep:∀(n:Nat)(K:zaa),3≤n→n≠q→n≠m→∀j,(j<3∨j=q∨j=m)→(H.set n none++K)[j]? = H[j]?:=by
  intro n K h1 h2 h3' j hj;have hjl:j<H.length:=by rcases hj with hj|rfl|rfl<;>omega
  rw[jQa (by rw[length_set];exact hjl),jRa (by rcases hj with hj|rfl|rfl<;>omega)]
 rcases h with⟨rfl,rfl⟩|⟨n,rfl,hn,hn3,hnq,hnm⟩
 ·simp only[zaN,e1,e2,e3,e4,za7,c1,c3,jXa,if_true];rw[if_pos ⟨by decide,f2,by decide,f1⟩];simp only[zaX];rw[if_neg (by decide),if_pos ⟨by omega,by omega⟩];refine⟨_,_,rfl,.inr ⟨H.length,rfl,by simp[tkC],h3,by omega,by omega⟩,by simp,fun j hj=>?_⟩;rw[jQa (by rcases hj with hj|rfl|rfl<;>omega)]
 ·have c2:zap H n=some {ty:=34,cells:=tkC l,kind:=.more}:=by simp[zap,hn]
  have c4:cut (tkC l) (0*4) (l.length*4)=some (tkC l):=by simp[cut,←zbI]
  have hlen:=zbI l;simp only[zaN,e1,e2,e3,e4,za7,c1,c2,c3,c4,jXa,if_true];rw[if_pos ⟨by decide,f2,by decide,f1⟩,if_pos ⟨trivial,by omega,by omega⟩];simp only[zaX,setK_eq];rw[if_neg (by decide),if_pos ⟨trivial,by omega,trivial⟩];refine⟨_,_,rfl,.inr ⟨H.length,by simp,?_,h3,by omega,by omega⟩,by simp,keep n _ hn3 hnq hnm⟩;rw[zjK];simp
structure SI (H:zaa) (q m:Nat) (s:Bs) (i:Nat) (l:Bool) (v:V) (acc:List Tk):Prop where
  c0:H[0]? = some (some ⟨23,[v],.all⟩)
  c1:H[1]? = some (some ⟨3,[.i .i64 0],.all⟩)
  c2:H[2]? = some (some ⟨24,[.i .i64 0],.all⟩)
  sc:ScB H q s i l m
  kw:H[m]? = zbb[0]?
  out:zud H q m v acc
  q3:3≤q
  m3:3≤m
  ne:m≠q
theorem SI.lt {H:zaa}{q m:Nat}{s:Bs}{i:Nat}{l:Bool}{v:V}{acc:List Tk}(h:SI H q m s i l v acc):q<H.length∧m<H.length:=by
 refine⟨zaa.lt h.sc,?_⟩;have:zbb[0]?≠none:=by decide
 rw[←h.kw]at this;exact Nat.lt_of_not_le fun h=>this (jGc h)
theorem SI.keep {H H':zaa}{q m:Nat}{s:Bs}{i i':Nat}{l l':Bool}{v:V}{acc:List Tk}(h:SI H q m s i l v acc)(hs:ScB H' q s i' l' m)(hk:∀j,j<H.length→j≠q→H'[j]? = H[j]?):SI H' q m s i' l' v acc:=by
 obtain⟨hq,hm⟩:=h.lt;have q3:=h.q3;have m3:=h.m3;refine⟨by rw[hk 0 (by omega) (by omega)];exact h.c0,by rw[hk 1 (by omega) (by omega)];exact h.c1,by rw[hk 2 (by omega) (by omega)];exact h.c2,hs,by rw[hk m hm h.ne];exact h.kw,?_,q3,m3,h.ne⟩;rcases h.out with h|⟨n,h1,h2,h3,h4,h5⟩
 ·exact .inl h
 ·exact .inr ⟨n,h1,by rw[hk n (zaa.lt h2) h4];exact h2,h3,h4,h5⟩
theorem SI.set {H:zaa}{q m:Nat}{s:Bs}{i i':Nat}{l l':Bool}{v:V}{acc:List Tk}(h:SI H q m s i l v acc):SI (H.set q (some (scB s i' l' m))) q m s i' l' v acc:=by
 refine h.keep (by unfold ScB;rw[jFb h.lt.1]) fun j _ hj=>?_;rw[jRa (fun e=>hj e.symm)]
theorem zud.cell {H:zaa}{q m:Nat}{v:V}{l:List Tk}(h:zud H q m v l):v.cells=[v]∧zeA v=true:=by
 rcases h with⟨rfl,_⟩|⟨n,rfl,_⟩<;>exact⟨rfl,rfl⟩
theorem zyw (j:Nat)(n:Nat)(h:¬j=n):(((j:Nat):Int)==(n:Nat))=false:=by
 simp;omega
set_option maxHeartbeats 1000000 in
theorem zsJ {call:zad}(hC:call.Sound prog TT)(D:Bs→Prop)(s:Bs)(hs:s.length≤20000)(q m:Nat)
 (hskip:∀(i:Nat)(l:Bool)(H:zaa),ScB H q s i l m→i≤s.length→skR H q s m (skQ s i l) (call 30 [.ptr q 0] H))
 (htok:∀(i:Nat)(l:Bool)(H:zaa),ScB H q s i l m→i<s.length→H[m]? = zbb[0]?→m≠q→zuf D (s.drop i)→zwE H q s i l m (zcQ kw zdv (s.drop i)) (call 31 [.ptr q 0] H)){Q:Out→Prop} :
 ∀(n i:Nat)(l:Bool)(v:V)(acc:List Tk)(t:Tm)(H:zaa),s.length<n+i→i≤s.length→acc.length≤i→SI H q m s i l v acc→zm6 D s n i l→t.wid=32→t.get 0=.s s→t.get 2=.ptr 0 0→t.get 3=.ptr 1 0→t.get 4=.ptr 2 0→t.get 5=.ptr q 0 →
  (∀(t':Tm)(H':zaa)(toks:List Tk)(v:V),zfo s n i l acc=.inl toks→t'.get 2=.ptr 0 0→t'.get 3=.ptr 1 0→t'.get 4=.ptr 2 0→H'[0]? = some (some ⟨23,[v],.all⟩)→H'[1]? = some (some ⟨3,[.i .i64 0],.all⟩)→H'[2]? = some (some ⟨24,[.i .i64 0],.all⟩)→zud H' q m v toks→Q (.ret t' H')) →
  (∀(t':Tm)(H':zaa)(a e:Nat)(v:V),zfo s n i l acc=.inr (a,e)→t'.get 2=.ptr 0 0→t'.get 3=.ptr 1 0→t'.get 4=.ptr 2 0→H'[0]? = some (some ⟨23,[v],.all⟩)→H'[1]? = some (some ⟨3,[.i .i64 0],.all⟩)→H'[2]? = some (some ⟨24,[.i .i64 0],.all⟩)→Q (.pan (zcu e a) t' H')) →
  zaM prog TT (sub [tt,tt,tt,tt,ff,ff] (zae f11)) t H Q:=by
 have ex1:TT.ext 30=none:=rfl;have ex2:TT.ext 31=none:=rfl;have ci:∀(k:IntKind)(n:Int),(V.i k n).cells=[V.i k n]:=fun _ _=>rfl;have fi:∀(k:IntKind)(n:Int),zeA (V.i k n)=true:=fun _ _=>rfl;intro n;induction n with
 |zero=>intro i l v acc t H h1 h2;omega
 |succ n ih=>
  intro i l v acc t H hn hi hacc hI hD hw t0 t2 t3 t4 t5 hR hP;obtain⟨hql,hml⟩:=hI.lt;have q3:=hI.q3;have m3:=hI.m3;have hsk:=hskip i l H hI.sc hi;rcases hk:skQ s i l with a|⟨j,l'⟩
  ·rw [hk]at hsk;obtain⟨b,hsk⟩:=hsk;have hF:=ai @t5 (ai @hsk @ex1);refine zaM.round' ?_;apply bK;apply sQ;refine Tri.regP (v:=?v1) (t':=?t1) (H':=?H1) zaf hC ?e1 ?q1;case e1=>
    refine zar ?_;refine oA ?_;refine zhZ rfl (by simp[hF]<;>rfl) (by rfl) ?_;exact rfl
   refine zku ?_;refine zg3 ?_;refine zh4 ?_;refine hP _ _ a 32 v (by simp only[zfo,hk]) (by simp[t2]) (by simp[t3]) (by simp[t4]) ?_ ?_ ?_
   ·rw[jRa (by omega)];exact hI.c0
   ·rw[jRa (by omega)];exact hI.c1
   ·rw[jRa (by omega)];exact hI.c2
  ·rw[hk]at hsk;have hsk:call 30 [.ptr q 0] H=.val .un (H.set q (some (scB s j l' m))):=hsk;have hI1:SI (H.set q (some (scB s j l' m))) q m s j l' v acc:=hI.set;obtain⟨hij,hjl⟩:i≤j∧j≤s.length:=zm9 hi hk;generalize hH1:H.set q (some (scB s j l' m))=H1 at hsk hI1;have g0:=hI1.c0;have g1:=hI1.c1;have g2:=hI1.c2;have gq:H1[q]? = some (some (scB s j l' m)):=hI1.sc;obtain⟨hvc,hvf⟩:=hI1.out.cell;obtain⟨hql1,hml1⟩:=hI1.lt;have gl0:0<H1.length:=by omega
   have gl1:1<H1.length:=by omega
   have gl2:2<H1.length:=by omega
   refine zaM.round' ?_;apply bK;apply sQ;refine Tri.regN (t':=?t2) (H':=?H2) zaf hC ?e2 ?q2;case e2=>
    refine zar ?_;iterate 2 refine zab rfl (by simp[t5,hsk,ex1]<;>rfl) (by rfl) (by simp[hw]) ?_
    exact zal
   apply sN;iterate 2 apply sQ
   by_cases hend:j=s.length
   ·have hee:(((j:Nat):Int)==(s.length:Nat))=true:=by rw[hend];simp
    refine Tri.regN (t':=?t3) (H':=?H3) zaf hC ?e3 ?q3;case e3=>
     refine zar ?_;iterate 7 refine zab rfl (by simp[t5,t0,gq,hee]<;>rfl) (by rfl) (by simp[hw]) ?_
     exact zal
    apply sN;refine Tri.condG (o:=?o3) (b:=?b3) ?g3 ?r3 ?y3 ?n3;case g3=>simp[hee]<;>rfl
    case r3=>rfl
    case n3=>intro h;simp at h
    case y3=>
     intro _;apply sQ;refine Tri.regN (t':=?t4) (H':=?H4) zaf hC ?e4 ?q4;case e4=>
      refine zar ?_;iterate 4 refine zab rfl (by simp[t2,t3,t4,g0,g1,g2,hvc,hvf,ci,fi,-V.cells,-zeA]<;>rfl) (by rfl) (by simp[hw]) ?_
      exact zal
     apply sN;apply Tri.ret;apply sR;apply bR;refine zce ?_;refine hR _ _ acc v (by simp only[zfo,hk];rw[if_pos hend]) (by simp[t2]) (by simp[t3]) (by simp[t4]) ?_ ?_ ?_ ?_
     ·simp[gl0,gl1,gl2]
     ·simp[gl0,gl1,gl2]
     ·simp[gl0,gl1,gl2]
     ·rcases hI1.out with h|⟨nb,h1,h2,h3,h4,h5⟩
      ·exact .inl h
      ·refine .inr ⟨nb,h1,?_,h3,h4,h5⟩;rw[jRa (by omega),jRa (by omega),jRa (by omega)];exact h2
   ·have hlt:j<s.length:=by omega
    have hne:(((j:Nat):Int)==(s.length:Nat))=false:=zyw _ _ hend;refine Tri.regN (t':=?t5) (H':=?H5) zaf hC ?e5 ?q5;case e5=>
     refine zar ?_;iterate 7 refine zab rfl (by simp[t5,t0,gq,hne]<;>rfl) (by rfl) (by simp[hw]) ?_
     exact zal
    apply sN;refine Tri.condG (o:=?o5) (b:=?b5) ?g5 ?r5 ?y5 ?n5;case g5=>simp[hne]<;>rfl
    case r5=>rfl
    case y5=>intro h;simp at h
    case n5=>
     intro _;apply Tri.skip;apply sN;apply sQ;have hD':zuf D (s.drop j)∧match zcQ kw zdv (s.drop j)with | .inl e=>True | .inr (k,t,m)=>zm6 D s n (j+m) false:=by
      have:=hD;simp only[zm6,hk]at this;exact this.resolve_left hend
     have htk:=htok j l' H1 hI1.sc hlt hI1.kw hI1.ne hD'.1;have hlen:=hD'.2;rcases hq:zcQ kw zdv (s.drop j)with e|p
     ·rw [hq]at htk;obtain⟨H3,htk,hkp,hke⟩:=htk;refine Tri.drawPan zaf hC 2 ?v6 ?H6 [ff,ff,tt,tt,tt,tt] (by kernel_rfl) ?e6 ?q6;case e6=>
       iterate 2 refine QP.val rfl (by simp[t2,t5,g0,htk,ex2]<;>rfl) (by rfl) (by simp[hw]) ?_
       refine QP.stop rfl rfl (by simp[t2,t5,g0,htk,ex2]<;>rfl) (by rfl) (by simp[hw]) ?_;iterate 3 refine QP.skip rfl (by simp[hw]) ?_
       exact QP.nil
      refine zku ?_;refine zg3 ?_;refine zh4 ?_;refine hP _ _ j e v (by simp only[zfo,hk,hq];rw[if_neg hend]) (by simp[zcA,t2]) (by simp[zcA,t3]) (by simp[zcA,t4]) ?_ ?_ ?_
      ·rw[hke 0 (by omega) (by omega)];exact g0
      ·rw[hke 1 (by omega) (by omega)];exact g1
      ·rw[hke 2 (by omega) (by omega)];exact g2
     ·rw[hq]at htk;obtain⟨H3,htk,hsc3,hkp,hke⟩:=htk;have htk:call 31 [.ptr q 0] H1=.val (.agg (tkL (p.1,p.2.1,(j:Int),l'))) H3:=htk;have hI3:SI H3 q m s (j+p.2.2) l' v acc:=hI1.keep hsc3 hke;obtain⟨hp1,hp2⟩:=zjL hq;rw[jJa]at hp2;obtain⟨hql3,hml3⟩:=hI3.lt;have b1:=ztD (p.1,p.2.1,(j:Int),l') H3;have hI4:SI (H3++[some {ty:=34,cells:=tkL (p.1,p.2.1,(j:Int),l'),kind:=.all}]) q m s (j+p.2.2) l' v acc:=hI3.keep (by unfold ScB;rw[jQa hql3];exact hI3.sc) fun i hi _=>jQa hi;obtain⟨v2,H5,b2,hO5,hl5,hk5⟩:=zuj hI4.out (by omega) (p.1,p.2.1,(j:Int),l') (b:=H3.length) (by simp) hI4.lt.1 hI4.lt.2 (by simp;omega);generalize hH4:H3++[some {ty:=34,cells:=tkL (p.1,p.2.1,(j:Int),l'),kind:=.all}]=H4 at b1 b2 hI4 hk5 hl5;have g30:=hI3.c0;have g40:=hI4.c0;have g50:H5[0]? = some (some ⟨23,[v],.all⟩):=by rw[hk5 0 (by omega)];exact hI4.c0
      have g51:H5[1]? = some (some ⟨3,[.i .i64 0],.all⟩):=by rw[hk5 1 (by omega)];exact hI4.c1
      have g52:H5[2]? = some (some ⟨24,[.i .i64 0],.all⟩):=by rw[hk5 2 (by omega)];exact hI4.c2
      have g5q:H5[q]? = some (some (scB s (j+p.2.2) l' m)):=by rw[hk5 q (by omega)];exact hI4.sc
      have g5m:H5[m]? = zbb[0]?:=by rw[hk5 m (by omega)];exact hI4.kw
      obtain⟨hvc2,hvf2⟩:=hO5.cell;refine Tri.regN (t':=?t7) (H':=?H7) zaf hC ?e7 ?q7;case e7=>
       refine zbG (t':=?t7) (H':=?H7) (ks:=[.a,.q,.e,.e,.e,.l]) (fun J=>J[0]? = some (some ⟨23,[v],.all⟩)) (by kernel_rfl) g0 ?_ ?r7;refine DR.any rfl (by simp[t2,g0]<;>rfl) (by rfl) (by simp[hw]) (by intro J hJ;simp[hJ,t2]<;>rfl) ?_;refine DR.blind rfl rfl (by simp[t5]<;>rfl) (by rfl) (by simp[hw]) ?_;refine DR.eff rfl rfl (by simp[htk,ex2]<;>rfl) (by rfl) (by simp[hw]) g30 ?_;refine DR.eff rfl rfl (by simp[b1]<;>rfl) (by rfl) (by simp[hw]) g40 ?_;refine DR.eff rfl rfl (by simp[b2]<;>rfl) (by rfl) (by simp[hw]) g50 ?_;refine DR.last (x:=?x7) (v:=?v7) ?h1 ?h2 ?h3 ?h4 ?h5;case h1=>exact rfl
       case h2=>exact rfl
       case h3=>simp[t2,g50,hvc2,hvf2,-V.cells,-zeA]<;>rfl
       case h4=>exact rfl
       case h5=>simp[hw]
       case r7=>exact rfl
      apply sN;have hl5q:q<H5.length:=zaa.lt g5q;have q0:¬0=q:=by omega
      refine Tri.regN (t':=?t8) (H':=?H8) zaf hC ?e8 ?q8;case e8=>
       refine zar ?_;iterate 4 refine zab rfl (by simp[t5,g5q,q0]<;>rfl) (by rfl) (by simp[hw]) ?_
       exact zal
      apply bN;refine zaq ?_;have hI6:SI ((H5.set 0 (some ⟨23,[v2],.all⟩)).set q (some (scB s (j+p.2.2) false m))) q m s (j+p.2.2) false v2 (acc++[(p.1,p.2.1,(j:Int),l')]):=by
       have l0:0<H5.length:=zaa.lt g50;refine⟨?_,?_,?_,?_,?_,?_,q3,m3,hI1.ne⟩
       ·rw[jRa (by omega),jFb l0]
       ·rw[jRa (by omega),jRa (by omega)];exact g51
       ·rw[jRa (by omega),jRa (by omega)];exact g52
       ·unfold ScB;rw[jFb (by rw[length_set];exact hl5q)]
       ·rw[jRa (fun e=>hI1.ne e.symm),jRa (by omega)];exact g5m
       ·rcases hO5 with h|⟨nb,h1,h2,h3,h4,h5⟩
        ·exact .inl h
        ·refine .inr ⟨nb,h1,?_,h3,h4,h5⟩;rw[jRa (fun e=>h4 e.symm),jRa (by omega)];exact h2
      have hsn:zfo s (n+1) i l acc=zfo s n (j+p.2.2) false (acc++[(p.1,p.2.1,(j:Int),l')]):=by
       simp only[zfo,hk,hq];rw[if_neg hend]
      rw[hq]at hlen;refine ih (j+p.2.2) false v2 (acc++[(p.1,p.2.1,(j:Int),l')]) _ _ (by omega) (by omega) (by simp;omega) (by simpa[scB]using hI6) hlen (by simp[hw]) (by simp[t0]) (by simp[t2]) (by simp[t3]) (by simp[t4]) (by simp[t5]) ?_ ?_
      ·intro t' H' toks u k1;exact hR t' H' toks u (hsn.trans k1)
      ·intro t' H' a e u k1;exact hP t' H' a e u (hsn.trans k1)
theorem zyW:zaQ TT shp f16.ntmps [] (zae f16) [] ⟨[(0,.f1 .vs (.va 0))],⟨.va 1,[],[]⟩,2,[]⟩ (KF TT f16 [0,4,12,13])=let qa:E:=xp (xN (xh v1) (.cn 0));.asks (.call 36 (x1 (xs v0))) [.b] (xb v2) (.ite v2 (.ask (.call 37 (x2 qa (xu (xc 34)))) ⟨v1,[],[xk 66 (x2 (.cv .nilp) (.cv .nils))]⟩ [] (.cv .nili) true (.leaf (.stop [tt,tt,tt,tt,ff,tt,ff]) [(0,xs v0),(4,qa),(12,xi (xl v0)),(13,xi c0)] ⟨v3,[],[]⟩) (.stuck 0)) (.fin (xt (x2 (xs (.cs [])) (xi c2))) ⟨v1,[],[]⟩)) (.stuck 0):=by kernel_rfl
theorem zyX:goT TT shp f16.ntmps [] [tt,tt,tt,tt,ff,tt,ff,ff] (zae f16) [] ⟨[(0,.f1 .vs (.va 0)),(4,.f1 (.ptr 0) (.va 2)),(12,.f1 (.vi .i64) (.f1 .lenS (.va 0))),(13,.f1 (.vi .i64) (.va 3))],⟨.va 1,[],[]⟩,4,[]⟩ (KF TT f16 [0,4,12,13])=let qg:E:=xA v0 v3;let qo:E:=.f1 .enc (.f1 (.wrap .i32) qg);let ql:E:=xc 9223372036854775807;let qk:E:=xp v2;let qi:SH:=⟨v1,[],[]⟩;let qp:E:=.cv .nili;let qh:E:=xt (x2 (xi v5) qp);let qq:E:=xi (xw (xa v3 c1));let qb:Tree:=.leaf (.again [tt,tt,tt,tt,ff,tt,ff,ff]) [(0,xs v0),(4,qk),(12,xi (xl v0)),(13,qq)] ⟨v4,[],[]⟩;let qj:Tree:=.stuck 0;let qe:Tree:=.need (xE (xa c1 (xl qo)) ql) (.ask (.call 38 (x2 qk (xs (xP (.cs [92]) qo)))) qi [.i] qh true qb qj);let qc:E:=.f2 (.sh .shr .u8 .u64) qg (xc 4);let qm:E:=xx (xa qc c1);let qf:E:=.cs [48,49,50,51,52,53,54,55,56,57,65,66,67,68,69,70];let qr:E:=.f3 .sub qf qc qm;let qd:E:=.f2 (.opI .and .u8) qg (xc 15);let qn:E:=xx (xa qd c1);let qs:E:=.f3 .sub qf qd qn;let qa:Tree:=.need (.f2 (.okSh .shr .u8 .u64) qg (xc 4)) (.need (xE c0 qc) (.need (xE qc qm) (.need (xE qm (xc 16)) (.need (xE (xa c2 (xl qr)) ql) (.lets (xP (.cs [92,120]) qr) (.need (.f2 (.okI .and .u8) qg (xc 15)) (.need (xE c0 qd) (.need (xE qd qn) (.need (xE qn (xc 16)) (.need (xE (xa (xl v4) (xl qs)) ql) (.lets (xP v4 qs) (.ask (.call 38 (x2 qk (xs v5))) qi [.i] (xt (x2 (xi v7) qp)) true (.leaf (.again [tt,tt,tt,tt,ff,tt,ff,ff]) [(0,xs v0),(4,qk),(12,xi (xl v0)),(13,qq)] ⟨v6,[],[]⟩) qj))))))))))));.ite (xL v3 (xl v0)) (.need (xE c0 v3) (.ite (xe qg (xc 34)) qe (.ite (xe qg (xc 92)) qe (.ite (xe qg c10) (.ask (.call 38 (x2 qk (xs (.cs [92,110])))) qi [.i] qh true qb qj) (.ite (xe qg (xc 9)) (.ask (.call 38 (x2 qk (xs (.cs [92,116])))) qi [.i] qh true qb qj) (.ite (xe qg (xc 13)) (.ask (.call 38 (x2 qk (xs (.cs [92,114])))) qi [.i] qh true qb qj) (.ite (xe qg c0) (.ask (.call 38 (x2 qk (xs (.cs [92,48])))) qi [.i] qh true qb qj) (.ite (xL qg (xc 32)) qa (.ite (xe qg (xc 127)) qa (.ask (.call 37 (x2 qk (xu qg))) qi [] qp true qb qj)))))))))) (.ask (.call 37 (x2 qk (xu (xc 34)))) qi [] qp true (.ask (.call 39 (x1 qk)) ⟨v4,[],[]⟩ [.s] (xs v6) true (.fin (xt (x2 (xs v6) (xi c0))) ⟨v5,[],[]⟩) qj) qj):=by kernel_rfl
def zoB:Bs:=[48,49,50,51,52,53,54,55,56,57,65,66,67,68,69,70]
def qtC (c:Nat):Bs:=if c=34 then[92,34]else if c=92 then[92,92]else if c=10 then[92,110]else if c=9 then[92,116]else if c=13 then[92,114]else if c=0 then[92,48]
 else if c<32∨c=127 then[92,120,zoB.getD (c/16) 0,zoB.getD (c%16) 0]else[UInt8.ofNat c]
theorem zlO (c:Nat):(qtC c).length≤4:=by
 unfold qtC;repeat' split
 all_goals simp
theorem zxy:((List.range 256).all fun c=>zda (zbn .shr .u8 (c:Nat) .u64 4) .u8&&decide (zf5 (zbn .shr .u8 (c:Nat) .u64 4)=((c/16:Nat):Int))&&zda (zbj .and .u8 (c:Nat) 15) .u8&&decide (zf5 (zbj .and .u8 (c:Nat) 15)=((c%16:Nat):Int)))=true:=by kernel_rfl
theorem zvo (c:Nat)(h:c<256):zda (zbn .shr .u8 (c:Nat) .u64 4) .u8=true∧zf5 (zbn .shr .u8 (c:Nat) .u64 4)=((c/16:Nat):Int)∧zda (zbj .and .u8 (c:Nat) 15) .u8=true∧zf5 (zbj .and .u8 (c:Nat) 15)=((c%16:Nat):Int):=by
 have:=jBb.1 zxy c (jCc.2 h);simp only[jMa,jTa]at this;exact⟨this.1.1.1,this.1.1.2,this.1.2,this.2⟩
theorem w8 (n:Nat)(h:n<256):IntKind.u8.wrap (n:Int)=n:=by
 have e:(2:Int)^IntKind.u8.bits=256:=rfl;simp only[IntKind.wrap,e,IntKind.signed,Bool.false_and,jSa,if_false];omega
theorem zjb:∀k:Nat,k<16→(([48,49,50,51,52,53,54,55,56,57,65,66,67,68,69,70]:Bs).take (k+1)).drop k=[zoB.getD k 0]:=by decide
theorem zwZ:(Utf8.encode (IntKind.i32.wrap 34)).data.toList=[34]:=by kernel_rfl
theorem zw0:(Utf8.encode (IntKind.i32.wrap 92)).data.toList=[92]:=by kernel_rfl
theorem zu0 {call:zad} (hC:call.Sound prog TT)
    (hwb:∀(n:Nat)(l:Bs)(c:UInt8)(H:zaa),Bld H n l→l.length<100000000→∃H',call 37 [.ptr n 0,.i .u8 c.toNat] H=.val .nili H'∧Bld H' n (l++[c]))
    (hws:∀(n:Nat)(l x:Bs)(H:zaa),Bld H n l→l.length+x.length<100000000→∃H',call 38 [.ptr n 0,.s x] H=.val (.tup [.i .i64 x.length,.nili]) H'∧Bld H' n (l++x))
    (hst:∀(n:Nat)(l:Bs)(H:zaa),zk2 H n l→l.length<100000000→∃H',call 39 [.ptr n 0] H=.val (.s l) H'∧zk2 H' n l)(s:Bs)(q:Nat)(hs:s.length<1100000) :
    ∀(n i:Nat)(out:Bs)(t:Tm)(H:zaa),s.length<n+i→i≤s.length→out.length≤4*i+1→t.wid=f16.ntmps→t.get 0=.s s→t.get 4=.ptr q 0→t.get 12=.i .i64 s.length→t.get 13=.i .i64 (i:Nat)→Bld H q out →
    ctx prog TT [tt,tt,tt,tt,ff,tt,ff,ff] (zae f16) (zaF TT f16 (isR (.val (.tup [.s (out++((s.drop i).map fun c=>qtC c.toNat).flatten++[34]),.i .i64 0])))) (.norm t H):=by
  intro n
  induction n with
  |zero=>intro i out t H h1 h2;omega
  | succ n ih=>
    intro i out t H hn hi ho hw t0 t4 t12 t13 hb
    refine zaM.symIn (p:=[tt,tt,tt,tt,ff,tt,ff]) zaf hC rfl zyX (by kernel_rfl) [.us s,.uh H,.un q,.ui (i:Nat)] rfl hw ⟨t0,t4,t12,t13,trivial⟩ rfl (zaC _ _) ?_
    clear t0 t4 t12 t13 hw
    simp -implicitDefEqProofs only[VC,isR,exU,Ask.den,E.den,O1.den,O2.den,O3.den,SH.den,zat,za9,bD,SB.den,zai,LQ,uu,uW,jOa,jUa,jDa,jSa,if_false,if_true]
    have w1:IntKind.i64.wrap ((i:Int)+1)=((i+1:Nat):Int):=by rw[w64 (by omega) (by omega)];omega
    simp only[w1,jCa]
    refine⟨fun h=>?_,fun h=>?_⟩
    · have hlt:i<s.length:=by omega
      obtain⟨c,hc⟩:=zga s i hlt
      have hcb:=c.toNat_lt
      have hcons:s.drop i=c::s.drop (i+1):=by
        have e:=jAb hlt
        rw[e]
        congr 1
        unfold atS at hc
        rw[jCa,jKa hlt]at hc
        exact jBd.1 (jAd.1 hc)
      have e:out++((s.drop i).map fun c=>qtC c.toNat).flatten++[34]=(out++qtC c.toNat)++((s.drop (i+1)).map fun c=>qtC c.toNat).flatten++[34]:=by
        rw[hcons];simp
      have hql:=zlO c.toNat
      rw[e,hc]
      have go:∀(H':zaa),Bld H' q (out++qtC c.toNat)→∀t':Tm,t'.wid=f16.ntmps→t'.get 0=.s s→t'.get 4=.ptr q 0→t'.get 12=.i .i64 s.length→t'.get 13=.i .i64 ((i+1:Nat):Int) →
          ctx prog TT [tt,tt,tt,tt,ff,tt,ff,ff] (zae f16) (zaF TT f16 (isR (.val (.tup [.s ((out++qtC c.toNat)++((s.drop (i+1)).map fun c=>qtC c.toNat).flatten++[34]),.i .i64 0])))) (.norm t' H'):=
        fun H' hb' t' hw' f0 f4 f12 f13=>ih (i+1) (out++qtC c.toNat) t' H' (by omega) (by omega) (by rw[jLa];omega) hw' f0 f4 f12 f13 hb'
      have st:∀x:Bs,x=qtC c.toNat→(∃(k:Int) (H':zaa),call 38 [.ptr q 0,.s x] H=.val (.tup [.i .i64 k,.nili]) H'∧∀t':Tm,t'.wid=f16.ntmps→t'.get 0=.s s→t'.get 4=.ptr q 0→t'.get 12=.i .i64 s.length→t'.get 13=.i .i64 ((i+1:Nat):Int) →
          ctx prog TT [tt,tt,tt,tt,ff,tt,ff,ff] (zae f16) (zaF TT f16 (isR (.val (.tup [.s ((out++qtC c.toNat)++((s.drop (i+1)).map fun c=>qtC c.toNat).flatten++[34]),.i .i64 0])))) (.norm t' H'))∨∃v H',call 38 [.ptr q 0,.s x] H=.pan v H'∧False:=by
        rintro x rfl
        obtain⟨H1,q1,b1⟩:=hws q out (qtC c.toNat) H hb (by omega)
        exact .inl ⟨_,H1,q1,go H1 b1⟩
      obtain⟨b1,b2,b3,b4⟩:=zvo c.toNat hcb
      have k1:c.toNat/16<16:=by omega
      have k2:c.toNat%16<16:=by omega
      have u1:IntKind.u8.wrap (((c.toNat/16:Nat):Int)+1)=((c.toNat/16+1:Nat):Int):=w8 (c.toNat/16+1) (by omega)
      have u2:IntKind.u8.wrap (((c.toNat%16:Nat):Int)+1)=((c.toNat%16+1:Nat):Int):=w8 (c.toNat%16+1) (by omega)
      have x1:=zjb _ k1
      have x2:=zjb _ k2
      simp only[b1,b2,b3,b4,u1,u2,jCa,x1,x2]
      have cN:∀k:Nat,(c.toNat:Int)=k→c.toNat=k:=fun k h=>by omega
      have hx:(c.toNat<32∨c.toNat=127)→c.toNat≠34→c.toNat≠92→c.toNat≠10→c.toNat≠9→c.toNat≠13→c.toNat≠0→[92,120,zoB.getD (c.toNat/16) 0,zoB.getD (c.toNat%16) 0]=qtC c.toNat:=by
        intro h a1 a2 a3 a4 a5 a6
        unfold qtC
        rw[if_neg a1,if_neg a2,if_neg a3,if_neg a4,if_neg a5,if_neg a6,if_pos h]
      refine⟨by omega,fun h1=>⟨?_,st _ ?_⟩,fun h1=>⟨fun h2=>⟨?_,st _ ?_⟩,fun h2=>⟨fun h3=>st _ ?_,fun h3=>⟨fun h4=>st _ ?_,fun h4=>⟨fun h5=>st _ ?_,fun h5=>⟨fun h6=>st _ ?_,fun h6=>⟨fun h7=>?_,fun h7=>⟨fun h8=>?_,fun h8=>?_⟩⟩⟩⟩⟩⟩⟩⟩
      · rw[h1,zwZ];simp
      · rw[h1,zwZ,cN 34 h1];rfl
      · rw[h2,zw0];simp
      · rw[h2,zw0,cN 92 h2];rfl
      · rw[cN 10 h3];rfl
      · rw[cN 9 h4];rfl
      · rw[cN 13 h5];rfl
      · rw[cN 0 h6];rfl
      · exact⟨trivial,by omega,by omega,by omega,by simp,trivial,by omega,by omega,by omega,by simp,st _ (hx (.inl (by omega)) (by omega) (by omega) (by omega) (by omega) (by omega) (by omega))⟩
      · exact⟨trivial,by omega,by omega,by omega,by simp,trivial,by omega,by omega,by omega,by simp,st _ (hx (.inr (by omega)) (by omega) (by omega) (by omega) (by omega) (by omega) (by omega))⟩
      · have e2:qtC c.toNat=[c]:=by
          unfold qtC
          rw[if_neg (by omega),if_neg (by omega),if_neg (by omega),if_neg (by omega),if_neg (by omega),if_neg (by omega),if_neg (by omega),zgl]
        obtain⟨H1,q1,b1⟩:=hwb q out c H hb (by omega)
        exact .inl ⟨H1,q1,go H1 (by rw[e2];exact b1)⟩
    · have hlt:s.length≤i:=by omega
      rw[jAc hlt]
      obtain⟨H1,q1,b1⟩:=hwb q out 34 H hb (by omega)
      obtain⟨H2,q2,b2⟩:=hst q (out++[34]) H1 b1.read (by simp;omega)
      refine .inl ⟨H1,q1,.inl ⟨_,H2,q2,?_⟩⟩
      simp
def qtR (s:Bs):V:=if Lib.validD s=true then .tup [.s ([34]++(s.map fun c=>qtC c.toNat).flatten++[34]),.i .i64 0]else .tup [.s [],.i .i64 2]
theorem zz9:∃g,zak prog TT 16 g∧∀s:Bs,s.length<1100000→∀H,g [.s s] H=(Res.val (qtR s)).at H:=by
 obtain⟨g1,k1,s1⟩:=zht;obtain⟨g3,k3,s3⟩:=zyt;obtain⟨g4,k4,s4⟩:=zyr;obtain⟨g5,k5,s5⟩:=zyq;have hC:=ws (ws (ws (ws n0 k1) k3) k4) k5;have c1:∀x:Bs,x.length<20000000→∀H,((((zad.none.with 36 g1).with 37 g3).with 38 g4).with 39 g5) 36 [.s x] H=.val (.b (Lib.validD x)) H:=fun x hx H=>by
  rw[zac _ _ _ _ rfl,zac _ _ _ _ rfl,zac _ _ _ _ rfl,zan];exact s1 x (by omega) H
 have c3:∀(n:Nat)(l:Bs)(c:UInt8)(H:zaa),Bld H n l→l.length<100000000→∃H',((((zad.none.with 36 g1).with 37 g3).with 38 g4).with 39 g5) 37 [.ptr n 0,.i .u8 c.toNat] H=.val .nili H'∧Bld H' n (l++[c]):=fun n l c H h1 h2=>by
  rw[zac _ _ _ _ rfl,zac _ _ _ _ rfl,zan];obtain⟨H',q,b,_⟩:=s3 (n,l,c) H ⟨h1,h2⟩;exact⟨H',q,b⟩
 have c4:∀(n:Nat)(l x:Bs)(H:zaa),Bld H n l→l.length+x.length<100000000→∃H',((((zad.none.with 36 g1).with 37 g3).with 38 g4).with 39 g5) 38 [.ptr n 0,.s x] H=.val (.tup [.i .i64 x.length,.nili]) H'∧Bld H' n (l++x):=fun n l x H h1 h2=>by
  rw[zac _ _ _ _ rfl,zan];obtain⟨H',q,b,_⟩:=s4 (n,l,x) H ⟨h1,h2⟩;exact⟨H',q,b⟩
 have c5:∀(n:Nat)(l:Bs)(H:zaa),zk2 H n l→l.length<100000000→∃H',((((zad.none.with 36 g1).with 37 g3).with 38 g4).with 39 g5) 39 [.ptr n 0] H=.val (.s l) H'∧zk2 H' n l:=fun n l H h1 h2=>by
  rw[zan];exact s5 (n,l) H ⟨h1,h2⟩
 generalize(((zad.none.with 36 g1).with 37 g3).with 38 g4).with 39 g5=call at hC c1 c3 c4 c5;refine zbC zaf zao 16 (fun s:Bs=>[.s s]) _ (fun s=>.val (qtR s)) (fun p _=>⟨rfl,by unfold qtR;split<;>rfl⟩)
  (fun a b _ _ h=>by
   simp only[jPa,V.s.injEq,jGb]at h;rw[h]) fun s hs=>?_
 refine zaA.sym zaf hC (fn:=f16) rfl rfl (by simp[f16]) zyW (by kernel_rfl) [.us s,.uh []] rfl ⟨by rw[zag];rfl,trivial⟩ rfl (zaC _ _) ?_;simp -implicitDefEqProofs only[VC,isR,exU,Ask.den,E.den,O1.den,O2.den,O3.den,SH.den,zat,za9,bD,SB.den,zai,LQ,uu,uW,jOa,jUa,jDa,jSa,if_false,if_true];refine .inl ⟨_,fun K=>c1 s (by omega) K,fun h=>?_,fun h=>?_⟩
 ·have hb:Bld ([]++[some ⟨66,[.nilp,.nils],.all⟩]) 0 []:=⟨_,.inl rfl,.inl ⟨rfl,rfl⟩⟩;obtain⟨H1,q1,b1⟩:=c3 0 [] 34 _ hb (by simp);refine .inl ⟨H1,q1,fun t hw t0 t4 t12 t13=>?_⟩;have e:qtR s=.tup [.s (([]++[34])++((s.drop 0).map fun c=>qtC c.toNat).flatten++[34]),.i .i64 0]:=by unfold qtR;rw[if_pos h];rfl
  rw[e];exact Tri.symLoop rfl (zu0 hC c3 c4 c5 s 0 hs (s.length+1) 0 ([]++[34]) t H1 (by omega) (by omega) (by simp) hw t0 t4 t12 t13 b1)
 ·have e:qtR s=.tup [.s [],.i .i64 2]:=by unfold qtR;rw[if_neg (by rw[h];exact jZb)]
  rw[e]
def zdf (s:Bs):List Tk×Nat×Nat:=if 20000<s.length then([],0,16)else match zfo s (s.length+1) 0 true []with
 | .inl l=>(l,0,0)
 | .inr (a,e)=>([],a,e)
def tkV (l:List Tk):V:=.isl 4 (l.map fun x=>.agg (tkL x))
def zom (p:List Tk×Nat×Nat):V:=.tup [tkV p.1,.i .i64 (p.2.1:Nat),.i .i64 (p.2.2:Nat)]
def zAq (p:List Tk×Nat×Nat)(r:OR):Prop:=∃(v:V)(J:zaa)(q m:Nat),r=.val (.tup [v,.i .i64 (p.2.1:Nat),.i .i64 (p.2.2:Nat)]) J∧zud J q m v p.1
theorem zrF {p:List Tk×Nat×Nat}{r:OR}(h:zAq p r):∃v J k v' u,r=.val v J∧fz J k v=some v'∧ziI v' u∧u=zom p:=by
 obtain⟨v,J,q,m,rfl,ho⟩:=h;rcases ho with⟨rfl,hl⟩|⟨n,rfl,hn,_⟩
 ·refine⟨_,J,5,_,_,rfl,by simp[fz,Ev.fzL]<;>rfl,?_,rfl⟩;unfold zom tkV;rw[hl];exact zdP.tup (zdP.cons (zhz 4) (zdP.cons (ziI.refl _) (zdP.cons (ziI.refl _) zdP.nil)))
 ·obtain⟨l,a,c⟩:=p;simp only at hn ⊢;have hc:zap J n=some {ty:=34,cells:=tkC l,kind:=.more}:=by simp[zap,hn]
  have hlen:=zbI l;have hcut:cut (tkC l) (0*4) (l.length*4)=some (tkC l):=by
   simp only[cut];rw[if_pos (by omega),Nat.zero_mul,jFc,jTb (by omega)]
  have hf:=zmC (H:=J) l (4*l.length+7) (by omega);have hf1:fz J (4*l.length+8) (.sl n 4 0 l.length none)=some (.isl 4 (l.map fun x=>V.agg (tkL x))):=by
   simp only[fz,hc,hcut,hf,zfh,jXa]
  have e2:Ev.fzL J (4*l.length+8) [V.i .i64 (a:Nat),V.i .i64 (c:Nat)]=some [V.i .i64 (a:Nat),V.i .i64 (c:Nat)]:=by simp[Ev.fzL,fz]
  have e1:Ev.fzL J (4*l.length+9) (V.sl n 4 0 l.length none::[V.i .i64 (a:Nat),V.i .i64 (c:Nat)])=some (V.isl 4 (l.map fun x=>V.agg (tkL x))::[V.i .i64 (a:Nat),V.i .i64 (c:Nat)]):=by
   rw[Ev.fzL,hf1,e2]
  refine⟨_,J,4*l.length+10,zom (l,a,c),zom (l,a,c),rfl,?_,ziI.refl _,rfl⟩;rw[fz,e1];rfl
theorem zo2 {call:zad}(hC:call.Sound prog TT)(D:Bs→Prop)(s:Bs)
 (hkw:call 29 [] zl2=.val (.mp 3) (zl2++zbb))
 (hskip:∀(q m:Nat)(i:Nat)(l:Bool)(H:zaa),ScB H q s i l m→i≤s.length→s.length≤20000→skR H q s m (skQ s i l) (call 30 [.ptr q 0] H))
 (htok:∀(q m:Nat)(i:Nat)(l:Bool)(H:zaa),ScB H q s i l m→i<s.length→s.length≤20000→H[m]? = zbb[0]?→m≠q→zuf D (s.drop i)→zwE H q s i l m (zcQ kw zdv (s.drop i)) (call 31 [.ptr q 0] H))
 (hD:s.length≤20000→zm6 D s (s.length+1) 0 true):zk8 prog TT 11 [.s s] [] (zAq (zdf s)):=by
 refine⟨f11,_,rfl,rfl,by simp[f11],?_⟩;have h0:(Tm.init f11.ntmps [.s s]).get 0=.s s:=by rw[zag];rfl
 have hw:(Tm.init f11.ntmps [.s s]).wid=32:=rfl;generalize Tm.init f11.ntmps [.s s]=t at *;refine zew.seq (zew.lift ?_);refine Tri.regN (t':=?t1) (H':=?H1) zaf hC ?e1 ?q1;case e1=>
  refine zar ?_;iterate 3 refine zab rfl (by simp<;>rfl) (by rfl) (by simp[hw]) ?_
  exact zal
 refine zew.seq (zew.lift ?_);by_cases hl:(s.length:Int)≤20000
 ·have hl':s.length≤20000:=by omega
  have hgt:¬(20000:Int)<s.length:=by omega
  apply sQ;refine Tri.regN (t':=?t2) (H':=?H2) zaf hC ?e2 ?q2;case e2=>
   refine zar ?_;iterate 3 refine zab rfl (by simp[h0,hgt,hl]<;>rfl) (by rfl) (by simp[hw]) ?_
   exact zal
  apply sN;refine Tri.condG (o:=?o2) (b:=?b2) ?g2 ?r2 ?y2 ?n2;case g2=>simp<;>rfl
  case r2=>rfl
  case y2=>intro h;simp at h
  case n2=>
   intro _;apply Tri.skip;refine zew.seq ?_;refine zew.reg (f:=28) (caps:=[.ptr 0 0,.ptr 1 0,.ptr 2 0]) (vs:=[]) (xv:=?xv) (yv:=?yv) (t1:=?t3) (t2:=?t4) (H1:=?H3) (H2:=?H4) zaf hC 1 rfl rfl rfl ?e3 ?x3 ?xx ?y3 ?yy ?f3 ?e4 ?q3;case e3=>
    refine oA ?_;exact zal
   case x3=>simp<;>rfl
   case xx=>rfl
   case y3=>rfl
   case yy=>rfl
   case f3=>simp[hw]
   case e4=>exact zal
   refine zew.seq (zew.lift ?_);have ex:TT.ext 29=none:=rfl;have hkw':call 29 [] [some ⟨23,[.nils],.all⟩,some ⟨3,[.i .i64 0],.all⟩,some ⟨24,[.i .i64 0],.all⟩]=.val (.mp 3) (zl2++zbb):=hkw;refine Tri.regN (t':=?t5) (H':=?H5) zaf hC ?e5 ?q5;case e5=>
    refine zar ?_;iterate 5 refine zab rfl (by simp[h0,hkw',ex]<;>rfl) (by rfl) (by simp[hw]) ?_
    exact zal
   refine zew.lift ?_;apply bK;refine Tri.loop ?_;have hI:SI (zl2++zbb++[some (scB s 0 true 3)]) (zl2++zbb).length 3 s 0 true .nils []:=by
    refine⟨rfl,rfl,rfl,?_,rfl,.inl ⟨rfl,rfl⟩,by simp[zl2],by omega,by simp[zl2,zbb]⟩;unfold ScB;simp
   refine zsJ hC D s hl' _ 3 (fun i l H h1 h2=>hskip _ 3 i l H h1 h2 hl') (fun i l H h1 h2 h3 h4 h5=>htok _ 3 i l H h1 h2 hl' h3 h4 h5) (s.length+1) 0 true .nils [] _ _ (by omega) (by omega) (by simp) hI (hD hl') (by simp[hw]) (by simp[h0]) (by simp) (by simp) (by simp) (by simp[zl2,zbb]) ?_ ?_
   ·intro t' H' toks v hsc f2 f3 f4 g0 g1 g2 hO;apply bR;have hT:zdf s=(toks,0,0):=by unfold zdf;rw[if_neg (by omega),hsc]
    refine⟨H',_,⟨H',znL _ rfl H',rfl⟩,?_,v,H',_,_,rfl,by rw[hT];exact hO⟩;rw[hT];simp[f11,f2,f3,f4,g0,g1,g2]
   ·intro t' H' a e v hsc f2 f3 f4 g0 g1 g2;refine zg3 ?_;have hT:zdf s=([],a,e):=by unfold zdf;rw[if_neg (by omega),hsc]
    have hl2:2<H'.length:=zaa.lt g2;refine⟨rfl,znJ H' e a,_,znK e a g0 g1 g2,?_,.nils,znJ H' e a,0,0,rfl,by rw[hT];exact .inl ⟨rfl,rfl⟩⟩;rw[hT];have k0:(znJ H' e a)[0]? = some (some ⟨23,[.nils],.all⟩):=by
     unfold znJ;rw[jRa (by omega),jRa (by omega),jFb (by simp)]
    have k1:(znJ H' e a)[1]? = some (some ⟨3,[.i .i64 (a:Nat)],.all⟩):=by
     unfold znJ;rw[jRa (by omega),jFb (by simp;omega)]
    have k2:(znJ H' e a)[2]? = some (some ⟨24,[.i .i64 (e:Nat)],.all⟩):=by
     unfold znJ;rw[jFb (by simp;omega)]
    simp[f11,f2,f3,f4,k0,k1,k2]
 ·have hgt:(20000:Int)<s.length:=by omega
  have hT:zdf s=([],0,16):=by unfold zdf;rw[if_pos (by omega)]
  apply sQ;refine Tri.regN (t':=?t6) (H':=?H6) zaf hC ?e6 ?q6;case e6=>
   refine zar ?_;iterate 3 refine zab rfl (by simp[h0,hgt]<;>rfl) (by rfl) (by simp[hw]) ?_
   exact zal
  apply sN;refine Tri.condG (o:=?o6) (b:=?b6) ?g6 ?r6 ?y6 ?n6;case g6=>simp<;>rfl
  case r6=>rfl
  case n6=>intro h;simp at h
  case y6=>
   intro _;apply sQ;refine Tri.regN (t':=?t7) (H':=?H7) zaf hC ?e7 ?q7;case e7=>
    refine zar ?_;iterate 3 refine zab rfl (by simp<;>rfl) (by rfl) (by simp[hw]) ?_
    exact zal
   apply sN;apply Tri.ret;refine⟨_,_,rfl,?_,.nils,_,0,0,rfl,by rw[hT];exact .inl ⟨rfl,rfl⟩⟩;rw[hT];simp[f11]
theorem zkW {P:Program}{T:Tab}(hT:TOk P T)(hp:T.Plain)(F:FuncId){α:Type}(enc:α→List V)(D:α→Prop)(r:α→V)(hnl:∀a,D a→nlL (enc a)=true)(inj:∀a b,D a→D b→enc a=enc b→r a=r b)
 (h:∀a,D a→zbX P T F (enc a) [] fun x=>∃v J k v' u,x=.val v J∧fz J k v=some v'∧ziI v' u∧u=r a):∃g,zak P T F g∧∀a,D a→∀H,g (enc a) H=.val (r a) H:=by
 obtain⟨g0,k0,s0⟩:=zbX.spec (F:=F) hT (D:=fun vs H=>H=[]∧∃a,D a∧vs=enc a) (R:=fun vs _ x=>∃a,D a∧vs=enc a∧∃v J k v' u,x=.val v J∧fz J k v=some v'∧ziI v' u∧u=r a) (by
  rintro vs H ⟨rfl,a,ha,rfl⟩;exact(h a ha).mono fun x hx=>⟨a,ha,rfl,hx⟩)
 obtain⟨g,k,s⟩:=zkV hp k0 (fun vs=>∃a,D a∧vs=enc a) (fun vs u=>∃a,D a∧vs=enc a∧u=r a) (by
  rintro vs ⟨a,ha,rfl⟩;refine⟨hnl a ha,?_⟩;obtain⟨x,⟨b,hb,he,v,J,n,v',u,rfl,h1,h2,h3⟩,h4⟩:=s0 (enc a) [] ⟨rfl,a,ha,rfl⟩;exact⟨v,J,n,v',u,h4,h1,h2,b,hb,he,h3⟩)
 refine⟨g,k,fun a ha H=>?_⟩;obtain⟨u,⟨b,hb,he,rfl⟩,h2⟩:=s (enc a) ⟨a,ha,rfl⟩;rw[h2 H,inj a b ha hb he]
theorem zkU (D:Bs→Prop)(hf:∀s at_,D s→s.length<1100000→zwq s at_):∃g,zak prog TT 11 g∧∀s:Bs,(s.length≤20000→zm6 D s (s.length+1) 0 true)→∀H,g [.s s] H=.val (zom (zdf s)) H:=by
 obtain⟨g1,k1,s1⟩:=zx6;obtain⟨g2,k2,s2⟩:=zq5 D hf;have hC:=ws (ws (ws n0 k1) k2) zzU;have c1:∀(q m:Nat)(s:Bs)(i:Nat)(l:Bool)(H:zaa),ScB H q s i l m→i≤s.length→s.length≤20000→skR H q s m (skQ s i l) ((((zad.none.with 30 g1).with 31 g2).with 29 zl7) 30 [.ptr q 0] H):=fun q m s i l H h1 h2 h3=>by
  rw[zac _ _ _ _ rfl,zac _ _ _ _ rfl,zan];exact s1 (q,s,i,l,m) H ⟨h1,h2,by simp only;omega⟩
 have c2:∀(q m:Nat)(s:Bs)(i:Nat)(l:Bool)(H:zaa),ScB H q s i l m→i<s.length→s.length≤20000→H[m]? = zbb[0]?→m≠q→zuf D (s.drop i)→zwE H q s i l m (zcQ kw zdv (s.drop i)) ((((zad.none.with 30 g1).with 31 g2).with 29 zl7) 31 [.ptr q 0] H):=fun q m s i l H h1 h2 h3 h4 h5 h6=>by
  rw[zac _ _ _ _ rfl,zan];exact s2 q s i l m H h1 h2 (by omega) h4 h5 h6
 have c3:(((zad.none.with 30 g1).with 31 g2).with 29 zl7) 29 [] zl2=.val (.mp 3) (zl2++zbb):=by
  rw[zan];simp[zl7,zaa.beq_refl]
 generalize((zad.none.with 30 g1).with 31 g2).with 29 zl7=call at hC c1 c2 c3;exact zkW zaf zao 11 (fun s=>[.s s]) (fun s:Bs=>s.length≤20000→zm6 D s (s.length+1) 0 true) (fun s=>zom (zdf s)) (fun _ _=>rfl) (fun a b _ _ h=>by simp only[jPa,V.s.injEq,jGb]at h;rw[h])
  fun s hs=>(zk8.fact zaf (zo2 hC D s c3 (fun q m i l H h1 h2 h3=>c1 q m s i l H h1 h2 h3) (fun q m i l H h1 h2 h3 h4 h5 h6=>c2 q m s i l H h1 h2 h3 h4 h5 h6) hs)).mono fun r hr=>zrF hr
def aw1:Bs:=[108,101,116,32,120,39,32,61,32,48,120,70,70,32,47,47,32,97]
def aw2:Bs:=[49,46,101,32,97,46,62,98,32,34,97,92,120,52,49,34]
theorem zun:zdf aw1=([(2,[108,101,116],0,true),(1,[120,39],4,false),(6,[61],7,false),(3,[50,53,53],9,false)],0,0):=by kernel_rfl
theorem zuo:zdf aw2=([(3,[49],0,true),(6,[46],1,false),(1,[101],2,false),(1,[97],4,false),(6,[46,62],5,false),(1,[98],7,false),(5,[97,65],9,false)],0,0):=by kernel_rfl
def qtB (w:Bs):Bs:=(w.map fun c=>qtC c.toNat).flatten
theorem zsV (c:UInt8)(w:Bs):qtB (c::w)=qtC c.toNat++qtB w:=rfl
def qtL (w:Bs):Bs:=34::(qtB w++[34])
theorem ztU:∀w:Bs,(qtB w).length≤4*w.length
 | []=>jDb _
 |c::w=>by
  rw[zsV,jLa,jIa];have:=ztU w;have:=zlO c.toNat
  omega
theorem zuF (s:Bs)(i:Nat)(c:UInt8)(x:Bs)(h:s.drop i=c::x):i<s.length∧atS s i=c.toNat∧s.drop (i+1)=x:=by
 have h1:i<s.length:=by
  apply Nat.lt_of_not_le;intro hle;rw[jAc hle]at h;cases h
 have h2:s[i]? = some c:=by
  have:(s.drop i)[0]? = some c:=by rw[h];rfl
  rwa [jOc,jNd]at this
 refine⟨h1,?_,?_⟩
 ·unfold atS;rw[jCa,h2]
 ·have:(s.drop i).drop 1=x:=by rw[h];rfl
  rwa [jDd]at this
theorem zxP (s:Bs)(l:Bool):skQ s s.length l=.inr (s.length,l):=by
 unfold skQ;rw[skF,if_neg (by omega)]
section
variable (u v:Bs)
end
theorem zzX (s:Bs)(h:Lib.validD s=true):qtR s=.tup [.s (qtL s),.i .i64 0]:=by
 unfold qtR;rw[if_pos h];rfl
def NoF (x:Bs):Prop:=∀m,zfO x≠some (m,true)
def awC:Con:=fun f vs=>if f=11 then(match vs with
 | [.s s]=>if s=aw1 then some (.val (zom ([(2,[108,101,116],0,true),(1,[120,39],4,false),(6,[61],7,false),(3,[50,53,53],9,false)],0,0)))else if s=aw2 then some (.val (zom ([(3,[49],0,true),(6,[46],1,false),(1,[101],2,false),(1,[97],4,false),(6,[46,62],5,false),(1,[98],7,false),(5,[97,65],9,false)],0,0)))else none
 |_=>none)else none
theorem zup:(match zcw TT (zeu awC) 3000 10 [] []with | .val (.b true) _=>true|_=>false)=true:=by kernel_rfl
def noF (x:Bs):Bool:=match zfO x with
 |some (_,true)=>false
 |_=>true
theorem zvg {x:Bs}(h:noF x=true):NoF x:=fun m e=>by
 unfold noF at h;rw[e]at h;cases h
def zvH (s:Bs):Nat→Nat→Bool→Bool
 |0,_,_=>true
 |n+1,i,l=>match skQ s i l with
  | .inl a=>true
  | .inr (j,l')=>if j=s.length then true else if(noF (s.drop j) || !(decide (48≤atS (s.drop j) 0)&&decide (atS (s.drop j) 0≤57)))=true then(match zcQ kw zdv (s.drop j)with
   | .inl e=>true
   | .inr (k,t,m)=>zvH s n (j+m) false)else false
theorem zjC (s:Bs):∀(n i:Nat)(l:Bool),zvH s n i l=true→zm6 NoF s n i l
 |0,_,_,_=>trivial
 |n+1,i,l,h=>by
  unfold zvH at h;unfold zm6;split
  ·trivial
  ·rename_i j l' e;rw[e]at h;simp only at h;split at h
   ·exact .inl ‹_›
   ·split at h
    ·rename_i h1;refine .inr ⟨fun hd=>?_,?_⟩
     ·rw[hd]at h1;exact zvg (by simpa using h1)
     ·split
      ·trivial
      ·rename_i k t m e2;rw[e2]at h;exact zjC s n _ _ h
    ·cases h
theorem zzC:zm6 NoF aw1 (aw1.length+1) 0 true:=zjC _ _ _ _ (by kernel_rfl)
theorem zzD:zm6 NoF aw2 (aw2.length+1) 0 true:=zjC _ _ _ _ (by kernel_rfl)
theorem zvM:∃g,zak prog TT 11 g∧∀s:Bs,(s.length≤20000→zm6 NoF s (s.length+1) 0 true)→∀H,g [.s s] H=.val (zom (zdf s)) H:=
 zkU NoF fun s at_ h _ m t he=>absurd he (h m)
theorem zkT:∃g,zak prog TT 10 g∧∀H,g [] H=.val (.b true) H:=by
 obtain⟨g1,k1,s1⟩:=zvM;have hC:awC.Sound prog TT:=by
  intro f vs H r h hne;simp only[zeu,awC]at h;split at h
  ·rename_i hf;subst hf;split at h
   ·rename_i s;split at h
    ·rename_i e;subst e;refine k1 _ H r ?_ hne;rw[s1 aw1 (fun _=>zzC) H,zun];exact jWa h
    ·split at h
     ·rename_i e;subst e;refine k1 _ H r ?_ hne;rw[s1 aw2 (fun _=>zzD) H,zuo];exact jWa h
     ·cases h
   ·cases h
  ·cases h
 refine⟨fun vs H=>match vs with | []=>.val (.b true) H|_=>.no,fun vs H x hx hne=>?_,fun H=>rfl⟩;simp only at hx;split at hx
 ·subst hx;have h:=zup;split at h
  ·rename_i J he;obtain⟨h1,h2⟩:=zj6 zaf zao hC (r:=.val (.b true)) he rfl rfl;exact⟨h1,h2 H⟩
  ·cases h
 ·exact absurd hx.symm hne
open Go.Lib (VarReads LaidVars_reads acceptData firstData)
def zf7 (W:World):Mem:=fun b=>W.heap[b]?
theorem zd9 {W:World}{b o:Nat}{v:Value}(h:W.cell? ⟨b,o,none⟩=some v):(zf7 W).cell b o=some v:=by
 unfold World.cell? at h;unfold Mem.cell zf7;simp only at h ⊢;split at h
 ·rename_i c t f hb;rw[hb];simpa using h
 ·cases h
theorem zih {M:Mem}{ρ:Ren}:∀(l:List V)(cs:List Value),cs.length=l.length→(∀(i:Nat) v x,l[i]? = some v→cs[i]? = some x→rel M ρ v x)→relL M ρ l cs
 | [],[],_,_=>by simp only[relL]
 | [],_::_,h,_=>by simp at h
 |_::_,[],h,_=>by simp at h
 |v::l,x::cs,h,k=>zaw (k 0 v x rfl rfl) (zih l cs (by simpa using h) fun i v' x' h1 h2=>k (i+1) v' x' (by simpa using h1) (by simpa using h2))
theorem zgZ {W:World}{name:String}{g:Nat}{cs:Array Value}{l:List V}(hg:prog.globalNamed name=some g)(hv:W.var? prog name=some cs)(hl:cs.size=l.length)
 (h:∀(i:Nat) v,l[i]? = some v→∃x,W.cell? ⟨g,i,none⟩=some x∧rel (zf7 W) [] v x) :
 ∃(cs':List Value)(ty:TypeId)(fr:Nat×Nat),zf7 W g=some (.cells cs'.toArray ty fr)∧relL (zf7 W) [] l cs':=by
 unfold World.var? at hv;rw[hg]at hv;simp only[Option.bind_some]at hv;split at hv
 ·rename_i c ty fr hb;cases hv;refine⟨cs.toList,ty,fr,by simpa[zf7]using hb,zih _ _ (by simpa using hl) fun i v x h1 h2=>?_⟩;obtain⟨y,hy,hr⟩:=h i v h1;have:W.cell? ⟨g,i,none⟩=cs[i]?:=by simp[World.cell?,hb]
  rw[this]at hy;rw[Array.getElem?_toList]at h2;rw[h2]at hy;cases hy;exact hr
 ·cases hv
theorem u8x:U8Extra prog Tryz.lays196_ren where
 n3:=by kernel_rfl
 n4:=by kernel_rfl
 y3:=by kernel_rfl
 y4:=by kernel_rfl
 c5:=by kernel_rfl
 c119:=by kernel_rfl
 c138:=by kernel_rfl
theorem zfm {W:World}{name:String}{d:DataW Unit}{g:Nat}{t e:TypeId}{n k:Nat}(hg:prog.globalNamed name=some g)(ht:(prog.globals[g]?).map (·.type)=some t)(hu:prog.underlying t=some (.array n e))(hc:prog.cellsOf t=k)(h:VarReads prog W name d) :
 ∃cs,W.var? prog name=some cs∧cs.size=k:=by
 obtain⟨g',t',cs,fuel,p,hg',ht',hv,hd⟩:=h;obtain rfl:=jWa (hg.symm.trans hg');obtain rfl:=jWa (ht.symm.trans ht');refine⟨cs,hv,?_⟩;cases fuel with
 |zero=>simp[DataW.trod]at hd
 |succ fuel=>
  simp only[DataW.trod,hu,hc]at hd;split at hd
  ·rename_i hl;simpa using hl
  ·cases hd
theorem zwK:∀j,j<16→((((List.range 16).map fun i=>[V.i .u8 (Lib.accLo i),V.i .u8 (Lib.accHi i)]).flatten)[2*j]? = some (V.i .u8 (Lib.accLo j))∧(((List.range 16).map fun i=>[V.i .u8 (Lib.accLo i),V.i .u8 (Lib.accHi i)]).flatten)[2*j+1]? = some (V.i .u8 (Lib.accHi j))):=by
 intro j hj;have:j=0∨j=1∨j=2∨j=3∨j=4∨j=5∨j=6∨j=7∨j=8∨j=9∨j=10∨j=11∨j=12∨j=13∨j=14∨j=15:=by omega
 rcases this with rfl|rfl|rfl|rfl|rfl|rfl|rfl|rfl|rfl|rfl|rfl|rfl|rfl|rfl|rfl|rfl<;>exact⟨rfl,rfl⟩
theorem zor {W:World} (h:laidMetH prog Go.Proofs.YtmjplflnlggbeaaGreatDoor.Rows.tokenStringsUptoRow.laid W) (hsh:W.ShapedOpen prog):SR TT (zf7 W) [] [] W:=by
  rw[MakeChecks.laidMetH_plain _ _ _ (by kernel_rfl)]at h
  obtain⟨ps,hv,_,_⟩:=h
  have hr:=LaidVars_reads hv
  have hP:VarReads prog W "internal/strconv.uint64pow10" (Lib.tabData .u64 Lib.pow10Tab):=hr _ _ (.tail _ (.tail _ (.head _)))
  have hA:VarReads prog W "unicode/utf8.acceptRanges" acceptData:=hr _ _ (.tail _ (.tail _ (.tail _ (.head _))))
  have hS:VarReads prog W "strings.asciiSpace" (Lib.tabData .u8 ((List.range 256).map fun i=>if i=32∨(9≤i∧i≤13)then 1 else 0)):=hr _ _ (.tail _ (.tail _ (.tail _ (.tail _ (.tail _ (.head _))))))
  have hG:VarReads prog W "hackamore/token.signs" (.agg (sgnL.map fun s=>.lit (.string s))):=hr _ _ (.tail _ (.tail _ (.tail _ (.tail _ (.tail _ (.tail _ (.head _)))))))
  have hF:VarReads prog W "unicode/utf8.first" firstData:=hr _ _ (.tail _ (.tail _ (.tail _ (.tail _ (.tail _ (.tail _ (.tail _ (.head _))))))))
  have tabs:Lib.Utf8Tabs 1 2 W:=utf8Tabs_of_readsT (U8Types.of196 Tryz.lays196) u8x hF hA
  refine⟨fun b o hb=>hb,rfl,fun n b hn=>by simp at hn,fun n m x y b c c' hn=>by simp at hn,fun g l hl=>?_,fun g hg=>?_⟩
  · simp only [TT]at hl
    split at hl
    · rename_i hg
      subst hg
      cases hl
      have hG':=hG
      obtain⟨cs,hv,hsz⟩:=zfm (g:=0) (t:=77) (by kernel_rfl) (by kernel_rfl) Tryz.underlying77 (k:=43) (by kernel_rfl) hG
      obtain⟨g',t',cs2,fuel,p,hg',ht',hv2,hd⟩:=hG'
      have e0:prog.globalNamed "hackamore/token.signs" = some 0:=by kernel_rfl
      obtain rfl:=jWa (e0.symm.trans hg')
      obtain rfl:=jWa ((show(prog.globals[0]?).map (·.type)=some 77 by kernel_rfl).symm.trans ht')
      rw[hv]at hv2
      cases hv2
      have c9:prog.cellsOf 9=1:=by kernel_rfl
      refine zgZ e0 hv (by rw[hsz];rfl) fun i v hi=>?_
      have hi43:i<43:=(jGa.1 hi).1
      obtain⟨fuel',d,q,hdi,he⟩:=Lib.array_elem Tryz.underlying77 hd i hi43
      rw[c9,Nat.mul_one]at he
      obtain⟨s,e1,e2,_⟩:=DataW.trod_string Tryz.underlying9 he
      simp only[jUb,Option.map_eq_some_iff]at hi hdi
      obtain⟨x,hx,rfl⟩:=hi
      obtain⟨y,hy,rfl⟩:=hdi
      rw[hx]at hy
      cases hy
      have hs:s=⟨x.toArray⟩:=by
        simp only[jZa,DataW.lit.injEq]at e2
        have h1:=e2.1
        simp only[Lit.string.injEq]at h1
        cases s
        simp only at h1
        rw[h1]
      refine⟨.string s,?_,by rw[hs];simp only[rel]⟩
      rw[World.var?_cell e0 hv i,←Array.getElem?_toList]
      have:(cs.toList.drop i)[0]? = some (.string s):=by
        have h2:=congrArg (fun l:List Value=>l[0]?) e1
        simpa using h2
      simpa using this
    · split at hl
      · rename_i hg
        subst hg
        cases hl
        have hS':=hS
        obtain⟨cs,hv,hsz⟩:=zfm (g:=3) (t:=99) (by kernel_rfl) (by kernel_rfl) Tryz.underlying99 (k:=256) (by kernel_rfl) hS
        obtain⟨g',t',cs2,fuel,p,hg',ht',hv2,hd⟩:=hS'
        have e0:prog.globalNamed "strings.asciiSpace" = some 3:=by kernel_rfl
        obtain rfl:=jWa (e0.symm.trans hg')
        obtain rfl:=jWa ((show(prog.globals[3]?).map (·.type)=some 99 by kernel_rfl).symm.trans ht')
        have hcs:=Lib.cells_of_tab Tryz.underlying99 Tryz.underlying5 (by kernel_rfl) (by kernel_rfl) hd
        refine zgZ e0 hv (by simp[hsz]) fun i v hi=>?_
        rw[hv]at hv2
        cases hv2
        have hi256:i<256:=by
          have:=(jGa.1 hi).1
          simpa using this
        simp only[jUb,List.getElem?_range hi256,jXa,jNa]at hi
        subst hi
        refine⟨.int .u8 (if i=32∨(9≤i∧i≤13)then 1 else 0),?_,by simp only[rel]⟩
        rw[World.var?_cell e0 hv i,←Array.getElem?_toList,hcs]
        simp[List.getElem?_range hi256]
      · split at hl
        · rename_i hg
          subst hg
          cases hl
          obtain⟨cs,hv,hsz⟩:=zfm (g:=1) (t:=99) (by kernel_rfl) (by kernel_rfl) Tryz.underlying99 (k:=256) (by kernel_rfl) hF
          refine zgZ (by kernel_rfl) hv (by simp[hsz]) fun i v hi=>?_
          have hi256:i<256:=by
            have:=(jGa.1 hi).1
            simpa using this
          simp only[jUb,List.getElem?_range hi256,jXa,jNa]at hi
          subst hi
          exact⟨_,tabs.1 i hi256,by simp only[rel]⟩
        · split at hl
          · rename_i hg
            subst hg
            cases hl
            obtain⟨cs,hv,hsz⟩:=zfm (g:=2) (t:=102) (by kernel_rfl) (by kernel_rfl) Tryz.underlying102 (k:=32) (by kernel_rfl) hA
            refine zgZ (by kernel_rfl) hv (by rw[hsz];rfl) fun i v hi=>?_
            have hi32:i<32:=by
              have:=(jGa.1 hi).1
              exact this
            obtain⟨j,hj,hij⟩:∃j,j<16∧(i=2*j∨i=2*j+1):=⟨i/2,by omega,by omega⟩
            obtain⟨k1,k2⟩:=zwK j hj
            rcases hij with rfl|rfl
            · rw[k1]at hi;cases hi
              exact⟨_,(tabs.2 j hj).1,by simp only[rel]⟩
            · rw[k2]at hi;cases hi
              exact⟨_,(tabs.2 j hj).2,by simp only[rel]⟩
          · split at hl
            · rename_i hg
              subst hg
              cases hl
              have hP':=hP
              obtain⟨cs,hv,hsz⟩:=zfm (g:=8) (t:=196) (by kernel_rfl) (by kernel_rfl) Tryz.underlying196 (k:=20) (by kernel_rfl) hP
              obtain⟨g',t',cs2,fuel,p,hg',ht',hv2,hd⟩:=hP'
              have e0:prog.globalNamed "internal/strconv.uint64pow10" = some 8:=by kernel_rfl
              obtain rfl:=jWa (e0.symm.trans hg')
              obtain rfl:=jWa ((show(prog.globals[8]?).map (·.type)=some 196 by kernel_rfl).symm.trans ht')
              have hcs:=Lib.cells_of_tab Tryz.underlying196 Tryz.underlying119 (by kernel_rfl) (by kernel_rfl) hd
              refine zgZ e0 hv (by simp[hsz]) fun i v hi=>?_
              rw[hv]at hv2
              cases hv2
              have hi20:i<20:=by
                have:=(jGa.1 hi).1
                simpa using this
              simp only[jUb,List.getElem?_range hi20,jXa,jNa]at hi
              subst hi
              refine⟨.int .u64 ((10^i:Nat):Int),?_,by simp only[rel]⟩
              rw[World.var?_cell e0 hv i,←Array.getElem?_toList,hcs]
              simp[Lib.pow10Tab,List.getElem?_range hi20]
            · cases hl
  · have hg4:g=4:=by simpa[TT]using hg
    subst hg4
    obtain⟨m,hm⟩:=cell_of_shapedOpen_int (P:=prog) (w:=W) (k:=.i64) (g:=4) (t:=3) (zero:=#[.int .i64 0]) hsh (jBc (by kernel_rfl)) (by kernel_rfl) rfl (by kernel_rfl) (by kernel_rfl) Tryz.underlying3
    obtain⟨cs,hh,hs,hr⟩:=hsh.1 4 #[.int .i64 0] 3 (jBc (by kernel_rfl)) (by kernel_rfl)
    have hc:cs[0]? = some (.int .i64 m):=by simpa[World.cell?,hh]using hm
    refine⟨m,3,(0,0),?_⟩
    show W.heap[4]? = _
    rw[hh]
    have e:cs=#[.int .i64 m]:=by
      apply Array.ext (by simpa using hs)
      intro i h1 h2
      have hi:i=0:=by simp at h2;exact h2
      subst hi
      simpa[Array.getElem?_eq_getElem h1]using hc
    rw[e]
def mk0:zhA:=fun vs H=>match vs with | []=>.val .un H|_=>.no
def mk1:zhA:=fun vs H=>match vs with | [.ptr n off]=>.val .un H|_=>.no
noncomputable def syG:Gam:=fun f vs H=>if f=122 then some (zmm .u32 vs H)else if f=142 then some (zrK .i32 vs H)else if f=147 then some (zrI .i32 vs H)else if f=135 then some (ziK .u32 vs H)else if f=141 then some (mk0 vs H)else if f=143 then some (mk0 vs H)else if f=144 then some (mk1 vs H)else if f=146 then some (mk1 vs H)else none
theorem zxo:zeU prog TT 122 (zmm .u32):=zoN (fn:=f122) .u32 Tryz.func122 (by kernel_rfl) (by kernel_rfl) (zcI (by kernel_rfl)) (by kernel_rfl)
theorem zxp:zeU prog TT 135 (ziK .u32):=znp (fn:=f135) .u32 Tryz.func135 (by kernel_rfl) (by kernel_rfl) (zcI (by kernel_rfl)) (by kernel_rfl)
theorem zxr:zeU prog TT 142 (zrK .i32):=zrL (fn:=f142) .i32 Tryz.func142 (by kernel_rfl) (by kernel_rfl) (zcI (by kernel_rfl)) (by kernel_rfl)
theorem zxv:zeU prog TT 147 (zrI .i32):=zrJ (fn:=f147) .i32 Tryz.func147 (by kernel_rfl) (by kernel_rfl) (zcI (by kernel_rfl)) (by kernel_rfl)
theorem zxq:zeU prog TT 141 mk0:=zhR (fn:=f141) Tryz.func141 (by kernel_rfl) (by kernel_rfl) (zcI (by kernel_rfl)) .disable (by kernel_rfl)
theorem zxs:zeU prog TT 143 mk0:=zhR (fn:=f143) Tryz.func143 (by kernel_rfl) (by kernel_rfl) (zcI (by kernel_rfl)) .enable (by kernel_rfl)
theorem zxt:zeU prog TT 144 mk1:=zjX (fn:=f144) Tryz.func144 (by kernel_rfl) (by kernel_rfl) (zcI (by kernel_rfl)) .acquire (by kernel_rfl)
theorem zxu:zeU prog TT 146 mk1:=zjX (fn:=f146) Tryz.func146 (by kernel_rfl) (by kernel_rfl) (zcI (by kernel_rfl)) .releaseMerge (by kernel_rfl)
theorem zix:syG.SoundX prog TT:=by
 intro f vs H r h hne;simp only[syG]at h;repeat' (split at h)
 all_goals first
  |(cases h;done)
  |skip
 ·rename_i e;subst e;exact .inr (zxo vs H r (jWa h) hne)
 ·rename_i e;subst e;exact .inr (zxr vs H r (jWa h) hne)
 ·rename_i e;subst e;exact .inr (zxv vs H r (jWa h) hne)
 ·rename_i e;subst e;exact .inr (zxp vs H r (jWa h) hne)
 ·rename_i e;subst e;exact .inr (zxq vs H r (jWa h) hne)
 ·rename_i e;subst e;exact .inr (zxs vs H r (jWa h) hne)
 ·rename_i e;subst e;exact .inr (zxt vs H r (jWa h) hne)
 ·rename_i e;subst e;exact .inr (zxu vs H r (jWa h) hne)
def rpB (d s:Int)(r o:V):Blk:=⟨151,[.i .u32 d,.i .i32 s,.i .u32 0,r,o],.all⟩
def onB:Blk:=⟨9,[.s [95],.s [],.s [69],.s [101]],.more⟩
def rp0:zaa:=[some onB,some (rpB 0 0 .nili (.sl 0 1 0 4 none))]
def rp1:zaa:=[some onB,some (rpB 0 1 .nili (.sl 0 1 0 4 none))]
def bsC:List V:=(List.range 256).map (fun i=>if i=95 then .sl 9 1 0 0 none else if i=69 then .sl 6 1 0 1 none else .nils)++[.sl 2 1 0 2 (some 2)]
def rpT:zaa:=[some ⟨9,[.s [69],.s [95]],.all⟩,some ⟨193,bsC,.all⟩,some ⟨5,[.i .u8 69],.all⟩,some ⟨9,[.s [69]],.all⟩,some ⟨5,[.tup [],.i .u8 101],.map⟩,some ⟨5,[.i .u8 95],.all⟩,some ⟨9,[.s [95]],.all⟩,some ⟨5,[.tup []],.map⟩]
def rp2:zaa:=some onB::some (rpB 0 1 (.ifc 194 (.ptr 3 0)) .nils)::rpT
def rp3:zaa:=some onB::some (rpB 1 1 (.ifc 194 (.ptr 3 0)) .nils)::rpT
def rp4:zaa:=some onB::some (rpB 1 0 (.ifc 194 (.ptr 3 0)) .nils)::rpT
def zAv (r:OR)(v:V)(H:zaa):Bool:=match r with | .val u J=>V.beq u v&&zaa.beq J H|_=>false
theorem zeJ {r:OR}{v:V}{H:zaa}(h:zAv r v H=true):r=.val v H:=by
 unfold zAv at h;split at h
 ·rw[jMa]at h;rw[V.beq_eq _ _ h.1,zaa.beq_eq _ _ h.2]
 ·cases h
theorem zvx:zcw TT syG 3000 123 [.ptr 1 1] rp0=.val .un rp1:=zeJ (by kernel_rfl)
theorem zs4:zcw TT syG 3000 113 [.ptr 1 0] rp1=.val (.b false) rp1:=zeJ (by kernel_rfl)
theorem zs3:zcw TT syG 3000 99 [.ptr 1 0] rp1=.val .un rp2:=zeJ (by kernel_rfl)
theorem zs5:zcw TT syG 3000 125 [.ptr 1 0,.b true] rp2=.val .un rp3:=zeJ (by kernel_rfl)
theorem zqy:zcw TT syG 3000 124 [.ptr 1 1] rp3=.val .un rp4:=zeJ (by kernel_rfl)
end Go.Ev
