/- Bounds of tokens, and token. The loop of Scan. Trees of Quote. Quote. Scan. Two given texts scanned. Two literals behind each other are scanned to their two texts. awake returns true. What the row's list of tables says of the world, and that a text reads as its bytes. The digits of the program and of the reference. The ends of numbers, the exponent. The numbers of the program are those of the reference. Escapes, strings and characters of the program are those of the reference. Walks: TokenStrings. TokenStrings returns true. Keywords; slices.Equal on the lists of the keywords and of the symbols. Blanks, comments and tokens of the program are those of the reference. -/
import Derived.Test.YtmjplflnlggbeaaGreatDoorCZE
import Derived.Test.YtmjplflnlggbeaaGreatDoorCWE
import Derived.Test.YtmjplflnlggbeaaGreatDoorCZA
import Derived.Test.YtmjplflnlggbeaaGreatDoorCEvPart2
import Derived.Test.YtmjplflnlggbeaaGreatDoorRows
import Derived.ChangeArms
import Derived.ChangeSame
import Derived.ChangeReads
import Derived.ReadAgain
import Derived.Deep.Strs
import Derived.Lib.LaidTab
import Derived.Lib.LaidU8T
import Derived.MakeChecks
import Derived.Shelf.Vars
import Derived.Test.YtmjplflnlggbeaaGreatDoorCT20
namespace Go.Ev
open Go Go.Proofs
set_option linter.unusedSimpArgs false
set_option linter.unusedVariables false
set_option linter.unnecessarySimpa false
open Tryz List
set_option maxRecDepth 1000000
theorem zja {x:List UInt8}{base:Nat}{r:Int×List UInt8×Nat}(hl:2≤x.length)(h:zlx x base=some r):0<r.2.2∧r.2.2≤x.length:=by
 unfold zlx at h;split at h
 ·cases h
 ·rename_i n hn;have:=zcj base _ _ _ hn;rw[length_drop]at this;split at h
  ·split at h
   ·cases h
   ·split at h
    ·have h:=Option.some.inj h;rw[←h];exact⟨by simp only;omega,by simp only;omega⟩
    ·cases h
  ·cases h
theorem zmR {x:List UInt8}{m:Nat}{r:Bool}{p:Nat×Bool}(hm:m≤x.length)(h:zdg x m r=some p):m≤p.1∧p.1≤x.length:=by
 unfold zdg at h;split at h
 ·cases h
 ·rename_i k hk;have:=ziP _ _ hk;rw[length_drop]at this;split at h
  ·split at h
   ·have h:=Option.some.inj h;rw[←h];exact⟨by simp only;omega,by simp only;omega⟩
   ·cases h
  ·split at h
   ·have h:=Option.some.inj h;rw[←h];exact⟨Nat.le_refl _,hm⟩
   ·cases h
theorem ztD {x:List UInt8}{p:Nat×Bool}(h:zfR x=some p):p.1≤x.length∧∀n,zb7 10 x 0=some n→n≤p.1:=by
 unfold zfR at h;split at h
 ·cases h
 ·rename_i n hn;have hnl:=zcj 10 _ _ _ hn;split at h
  ·split at h
   ·cases h
   ·rename_i k hk;have hkl:=zcj 10 _ _ _ hk;rw[length_drop]at hkl;obtain⟨h1,h2⟩:=zmR (by omega) h;exact⟨h2,fun n' hn'=>by rw[hn]at hn';cases hn';omega⟩
  ·obtain⟨h1,h2⟩:=zmR (by omega) h;exact⟨h2,fun n' hn'=>by rw[hn]at hn';cases hn';omega⟩
theorem zlF (base:Int):∀(L:List UInt8)(n m:Nat),zb7 base L n=some m→n≤m
 | [],n,m,h=>by simp[zb7]at h;omega
 |c::r,n,m,h=>by
  simp only[zb7]at h;split at h
  ·have:=zlF base r (n+1) m h;omega
  ·split at h
   ·have:=Option.some.inj h;omega
   ·split at h
    ·split at h
     ·have:=zlF base _ (n+1) m h;omega
     ·cases h
    ·cases h
theorem zsi {x:List UInt8}{m:Nat}(hd:(decide (48≤atS x 0)&&decide (atS x 0≤57))=true)(h:zb7 10 x 0=some m):0<m:=by
 cases x with
 |nil=>simp[atS]at hd
 |cons c r=>
  simp only[Bool.and_eq_true,decide_eq_true_eq]at hd;have e:atS (c::r) 0=c.toNat:=by simp[atS]
  rw[e]at hd;simp only[zb7]at h;rw[if_pos (by unfold zbW zk8;rw[if_pos hd,if_neg (by omega)];omega)]at h;have:=zlF 10 r 1 m h;omega
theorem zpJ {x:List UInt8}{r:Int×List UInt8×Nat}(h:zeO x=some r):r.2.2≤x.length∧((decide (48≤atS x 0)&&decide (atS x 0≤57))=true→0<r.2.2):=by
 rw[zg8]at h;split at h
 ·rename_i hp;have:=zbv hp;simp only[length_cons,length_nil]at this;exact⟨(zja (by omega) h).2,fun _=>(zja (by omega) h).1⟩
 ·split at h
  ·rename_i hp;have:=zbv hp;simp only[length_cons,length_nil]at this;exact⟨(zja (by omega) h).2,fun _=>(zja (by omega) h).1⟩
  ·cases hd:zfR x with
   |none=>rw[hd]at h;cases h
   |some p=>
    obtain⟨k1,k2⟩:=ztD hd;have k3:(decide (48≤atS x 0)&&decide (atS x 0≤57))=true→0<p.1:=fun hg=>by
     cases hr:zb7 10 x 0 with
     |none=>simp[zfR,hr]at hd
     |some n=>have:=k2 n hr;have:=zsi hg hr;omega
    obtain⟨m,b⟩:=p;rw[hd]at h;cases b with
    |true=>simp only[zjV]at h;have h:=Option.some.inj h;rw[←h];exact⟨k1,k3⟩
    |false=>
     simp only[zjV]at h;split at h
     ·cases h
     ·have h:=Option.some.inj h;rw[←h];exact⟨k1,k3⟩
theorem zsX (x:List UInt8):∀(L:List (List UInt8))(b:List UInt8),b.length≤x.length→(sgF x L b).length≤x.length
 | [],b,h=>h
 |y::L,b,h=>by
  simp only[sgF];refine zsX x L _ ?_;split
  ·rename_i hy;unfold okP at hy;simp only[Bool.and_eq_true]at hy;exact zbv hy.2.1
  ·exact h
theorem zmM (s:List UInt8):∀(n i:Nat)(l:Bool)(j:Nat)(l':Bool),i≤s.length→skF s n i l=.inr (j,l')→i≤j∧j≤s.length
 |0,i,l,j,l',hi,h=>by simp[skF]at h;omega
 |n+1,i,l,j,l',hi,h=>by
  simp only[skF]at h;split at h
  ·split at h
   ·have:=zmM s n (i+1) _ j l' (by omega) h;omega
   ·split at h
    ·simp at h;omega
    ·cases h
    ·rename_i p hp;obtain⟨q1,q2⟩:=zoV hi hp;have:=zmM s n p.1 p.2 j l' q2 h;omega
  ·simp at h;omega
theorem zsZ {s:List UInt8}{i j:Nat}{l l':Bool}(hi:i≤s.length)(h:skQ s i l=.inr (j,l')):i≤j∧j≤s.length:=zmM s _ i l j l' hi h
theorem zqG {x:List UInt8}{p:Int×List UInt8×Nat}(h:zd6 kw zeO x=.inr p):0<p.2.2∧p.2.2≤x.length:=by
 have hle:=zsX x sgnL [] (by simp);unfold zd6 at h;generalize sgF x sgnL []=g at h hle;split at h
 ·rename_i h0;cases h;exact⟨h0,(zmo (Nat.zero_le _)).2⟩
 ·split at h
  ·rename_i hd;cases hn:zeO x with
   |none=>rw[hn]at h;cases h
   |some r=>
    rw[hn]at h;cases h;obtain⟨k1,k2⟩:=zpJ hn;exact⟨k2 hd,k1⟩
  ·split at h
   ·cases hc:zkK x with
    |none=>rw[hc]at h;cases h
    |some r=>rw[hc]at h;cases h;exact zoQ hc
   ·split at h
    ·cases hc:zjA x with
     |none=>rw[hc]at h;cases h
     |some r=>rw[hc]at h;cases h;exact zqI hc
    ·split at h
     ·rename_i hs;cases h;exact⟨hs,hle⟩
     ·cases h
def zti (D:List UInt8→Prop)(x:List UInt8):Prop:=(decide (48≤atS x 0)&&decide (atS x 0≤57))=true→D x
theorem zqq (D:List UInt8→Prop)(hf:∀s at_,D s→s.length<1100000→zvd s at_):∃g,zap prog TT 31 g∧∀(q:Nat)(s:List UInt8)(i:Nat)(l:Bool)(m:Nat)(H:zaa),ScB H q s i l m→i<s.length→s.length<1090000→H[m]? = zbZ[0]?→m≠q→zti D (s.drop i) →
 zvp H q s i l m (zd6 kw zeO (s.drop i)) (g [.ptr q 0] H):=by
 obtain⟨g1,k1,s1⟩:=zd3;obtain⟨g2,k2,s2⟩:=zs2;obtain⟨g3,k3,s3⟩:=zyw;obtain⟨g4,k4,s4⟩:=zuH;obtain⟨g5,k5,s5⟩:=zwP;obtain⟨g6,k6,s6⟩:=zwN;obtain⟨g7,k7,s7⟩:=zwO;obtain⟨g8,k8,s8⟩:=zqr D hf;have hC:=ws (ws (ws (ws (ws (ws (ws (ws n0 k1) k2) k3) k4) k5) k6) k7) k8;have hm:zdS ((((((((zad.none.with 55 g1).with 48 g2).with 49 g3).with 50 g4).with 54 g5).with 52 g6).with 53 g7).with 51 g8):=fun b e k H=>by
  rw[zac _ _ _ _ rfl,zac _ _ _ _ rfl,zac _ _ _ _ rfl,zac _ _ _ _ rfl,zac _ _ _ _ rfl,zac _ _ _ _ rfl,zac _ _ _ _ rfl,zao];exact s1 b e k H
 have c2:∀(n:Nat)(s:List UInt8)(i:Nat)(l:Bool)(m:Nat)(H:zaa),ScB H n s i l m→i≤s.length→((((((((zad.none.with 55 g1).with 48 g2).with 49 g3).with 50 g4).with 54 g5).with 52 g6).with 53 g7).with 51 g8) 48 [.ptr n 0] H=.val (.s (s.drop i)) H:=fun n s i l m H h1 h2=>by
  rw[zac _ _ _ _ rfl,zac _ _ _ _ rfl,zac _ _ _ _ rfl,zac _ _ _ _ rfl,zac _ _ _ _ rfl,zac _ _ _ _ rfl,zao];exact s2 n s i l m H h1 h2
 have c3:∀x:List UInt8,x.length<1090000→∀H,((((((((zad.none.with 55 g1).with 48 g2).with 49 g3).with 50 g4).with 54 g5).with 52 g6).with 53 g7).with 51 g8) 49 [.s x] H=.val (.i .i64 (idR x 0:Nat)) H:=fun x hx H=>by
  rw[zac _ _ _ _ rfl,zac _ _ _ _ rfl,zac _ _ _ _ rfl,zac _ _ _ _ rfl,zac _ _ _ _ rfl,zao];exact s3 x hx H
 have c4:∀c:Int,∀H,((((((((zad.none.with 55 g1).with 48 g2).with 49 g3).with 50 g4).with 54 g5).with 52 g6).with 53 g7).with 51 g8) 50 [.i .u8 c] H=.val (.b (decide (48≤c)&&decide (c≤57))) H:=fun c H=>by
  rw[zac _ _ _ _ rfl,zac _ _ _ _ rfl,zac _ _ _ _ rfl,zac _ _ _ _ rfl,zao];exact s4 c trivial H
 have c5:∀x:List UInt8,∀H,((((((((zad.none.with 55 g1).with 48 g2).with 49 g3).with 50 g4).with 54 g5).with 52 g6).with 53 g7).with 51 g8) 54 [.s x] H=.val (.s (sgF x sgnL [])) H:=fun x H=>by
  rw[zac _ _ _ _ rfl,zac _ _ _ _ rfl,zac _ _ _ _ rfl,zao];exact s5 x trivial H
 have c6:∀(x:List UInt8)(a:Int),(0<x.length∧x.length<1100000)→∀H,((((((((zad.none.with 55 g1).with 48 g2).with 49 g3).with 50 g4).with 54 g5).with 52 g6).with 53 g7).with 51 g8) 52 [.s x,.i .i64 a] H=(zaM (zkK x) a).at H:=fun x a hx H=>by
  rw[zac _ _ _ _ rfl,zac _ _ _ _ rfl,zao];exact s6 (x,a) hx H
 have c7:∀(x:List UInt8)(a:Int),(0<x.length∧x.length<1100000)→∀H,((((((((zad.none.with 55 g1).with 48 g2).with 49 g3).with 50 g4).with 54 g5).with 52 g6).with 53 g7).with 51 g8) 53 [.s x,.i .i64 a] H=(zaM (zjA x) a).at H:=fun x a hx H=>by
  rw[zac _ _ _ _ rfl,zao];exact s7 (x,a) hx H
 have c8:∀(x:List UInt8)(a:Int),D x→x.length<1100000→∀H,((((((((zad.none.with 55 g1).with 48 g2).with 49 g3).with 50 g4).with 54 g5).with 52 g6).with 53 g7).with 51 g8) 51 [.s x,.i .i64 a] H=(zmv (zeO x) a).at H:=fun x a hd hx H=>by
  rw[zao];exact s8 x a hd hx H
 generalize(((((((zad.none.with 55 g1).with 48 g2).with 49 g3).with 50 g4).with 54 g5).with 52 g6).with 53 g7).with 51 g8=call at hC hm c2 c3 c4 c5 c6 c7 c8;obtain⟨g,k,h⟩:=zdG zah 31 (fun p:Nat×List UInt8×Nat×Bool×Nat=>[.ptr p.1 0]) (fun p H=>ScB H p.1 p.2.1 p.2.2.1 p.2.2.2.1 p.2.2.2.2∧p.2.2.1<p.2.1.length∧p.2.1.length<1090000∧H[p.2.2.2.2]? = zbZ[0]?∧p.2.2.2.2≠p.1∧zti D (p.2.1.drop p.2.2.1))
  (fun p H r=>zvp H p.1 p.2.1 p.2.2.1 p.2.2.2.1 p.2.2.2.2 (zd6 kw zeO (p.2.1.drop p.2.2.1)) r) (by
  rintro⟨n,s,i,l,m⟩ ⟨n',s',i',l',m'⟩ H r ⟨h1,_⟩ ⟨h2,_⟩ he hr;simp only[List.cons.injEq,V.ptr.injEq,and_true]at he;subst he;obtain⟨rfl,rfl,rfl,rfl⟩:=h1.inj h2;exact hr) (by
  rintro⟨q,s,i,l,m⟩ H ⟨hb,hi,hs,hkm,hmq,hd⟩;simp only at hb hi hs hkm hmq hd ⊢;have hm0:m<H.length:=by
   have:zbZ[0]?≠none:=by decide
   rw[←hkm]at this;exact Nat.lt_of_not_le fun h=>this (List.getElem?_eq_none h)
  have hlen:(s.drop i).length≤s.length:=by rw[length_drop];omega
  refine zq6 hC hm c2 q s (fun x hx H=>c3 x (by omega) H) i l m H hb hi (by omega) kw zeO hm0 hmq (fun y K hK=>zt3 (hK.trans hkm) y) c4 c5 c6 c7 (fun hg a K=>?_) (fun r hr=>?_) (fun p hp=>?_) (fun p hp=>?_) (zuB _)
  ·rw[c8 _ a (hd hg) (by omega) K];cases zeO (s.drop i)<;>rfl
  ·have:=(zpJ hr).1;omega
  ·have:=(zoQ hp).2;omega
  ·have:=(zqI hp).2;omega)
 exact⟨g,k,fun q s i l m H h1 h2 h3 h4 h5 h6=>h (q,s,i,l,m) H ⟨h1,h2,h3,h4,h5,h6⟩⟩
def zij (s:List UInt8):Nat→Nat→Bool→List Tk→List Tk ⊕ (Nat×Nat)
 |0,_,_,acc=>.inl acc
 |n+1,i,l,acc=>match skQ s i l with
  | .inl a=>.inr (a,32)
  | .inr (j,l')=>if j=s.length then .inl acc else match zd6 kw zeO (s.drop j)with
   | .inl e=>.inr (j,e)
   | .inr (k,t,m)=>zij s n (j+m) false (acc++[(k,t,(j:Int),l')])
def zmK (D:List UInt8→Prop)(s:List UInt8):Nat→Nat→Bool→Prop
 |0,_,_=>True
 |n+1,i,l=>match skQ s i l with
  | .inl a=>True
  | .inr (j,l')=>j=s.length∨(zti D (s.drop j)∧match zd6 kw zeO (s.drop j)with
   | .inl e=>True
   | .inr (k,t,m)=>zmK D s n (j+m) false)
theorem zkz (s:List UInt8):∀(n i:Nat)(l:Bool),zmK (fun _=>True) s n i l
 |0,_,_=>trivial
 |n+1,i,l=>by
  unfold zmK;split
  ·trivial
  ·refine .inr ⟨fun _=>trivial,?_⟩;split
   ·trivial
   ·exact zkz s n _ _
def ztg (H:zaa)(q m:Nat)(v:V)(l:List Tk):Prop:=(v=.nils∧l=[])∨∃n,v=.sl n 4 0 l.length none∧H[n]? = some (some {ty:=34,cells:=tkC l,kind:=.more})∧3≤n∧n≠q∧n≠m
theorem zvE (v:Tk)(H:zaa):zaK TT 23 1 [(0,.agg (tkL v))] H=.val (.sl H.length 4 0 1 (some 1)) (H++[some {ty:=34,cells:=tkL v,kind:=.all}]):=by
 have e1:TT.und 23=some (.slice 34):=rfl;have e2:TT.size 34=some 4:=rfl;have e3:TT.zero 34=some (.agg [.i .i64 0,.s [],.i .i64 0,.b false]):=rfl;simp only[zaK,e1,e2,e3];simp[zgk,zer,splice,za0,V.cells,tkL]
theorem ztm {H:zaa}{q m:Nat}{v:V}{l:List Tk}(h:ztg H q m v l)(hl:l.length<100000000)(x:Tk){b:Nat}(hb:H[b]? = some (some {ty:=34,cells:=tkL x,kind:=.all}))(hq:q<H.length)(hm:m<H.length)(h3:3≤H.length) :
 ∃v2 H2,zaY TT 23 v (.sl b 4 0 1 (some 1)) H=.val v2 H2∧ztg H2 q m v2 (l++[x])∧H.length≤H2.length∧(∀j,(j<3∨j=q∨j=m)→H2[j]? = H[j]?):=by
 have e1:TT.und 23=some (.slice 34):=rfl;have e2:TT.size 34=some 4:=rfl;have e3:TT.zero 34=some (.agg [.i .i64 0,.s [],.i .i64 0,.b false]):=rfl;have e4:TT.bytes 34=some 40:=rfl;have c1:zau H b=some {ty:=34,cells:=tkL x,kind:=.all}:=by simp[zau,hb]
 have c3:cut (tkL x) (0*4) (1*4)=some (tkL x):=by simp[cut,tkL]
 have f1:(tkL x).all zeN=true:=by simp[tkL,zeN]
 have f2:(V.agg [.i .i64 0,.s [],.i .i64 0,.b false]).cells.length=4:=rfl;have keep:∀(n:Nat)(K:zaa),3≤n→n≠q→n≠m→∀j,(j<3∨j=q∨j=m)→(H.set n none++K)[j]? = H[j]?:=by
  intro n K h1 h2 h3' j hj;have hjl:j<H.length:=by rcases hj with hj|rfl|rfl<;>omega
  rw[List.getElem?_append_left (by rw[length_set];exact hjl),List.getElem?_set_ne (by rcases hj with hj|rfl|rfl<;>omega)]
 rcases h with⟨rfl,rfl⟩|⟨n,rfl,hn,hn3,hnq,hnm⟩
 ·simp only[zaY,e1,e2,e3,e4,zbg,c1,c3,Option.map_some,if_true];rw[if_pos ⟨by decide,f2,by decide,f1⟩];simp only[za0];rw[if_neg (by decide),if_pos ⟨by omega,by omega⟩];refine⟨_,_,rfl,.inr ⟨H.length,rfl,by simp[tkC],h3,by omega,by omega⟩,by simp,fun j hj=>?_⟩;rw[List.getElem?_append_left (by rcases hj with hj|rfl|rfl<;>omega)]
 ·have c2:zau H n=some {ty:=34,cells:=tkC l,kind:=.more}:=by simp[zau,hn]
  have c4:cut (tkC l) (0*4) (l.length*4)=some (tkC l):=by simp[cut,←zcI]
  have hlen:=zcI l;simp only[zaY,e1,e2,e3,e4,zbg,c1,c2,c3,c4,Option.map_some,if_true];rw[if_pos ⟨by decide,f2,by decide,f1⟩,if_pos ⟨trivial,by omega,by omega⟩];simp only[za0,setK_eq];rw[if_neg (by decide),if_pos ⟨trivial,by omega,trivial⟩];refine⟨_,_,rfl,.inr ⟨H.length,by simp,?_,h3,by omega,by omega⟩,by simp,keep n _ hn3 hnq hnm⟩;rw[zmV];simp
structure SI (H:zaa) (q m:Nat) (s:List UInt8) (i:Nat) (l:Bool) (v:V) (acc:List Tk):Prop where
  c0:H[0]? = some (some ⟨23,[v],.all⟩)
  c1:H[1]? = some (some ⟨3,[.i .i64 0],.all⟩)
  c2:H[2]? = some (some ⟨24,[.i .i64 0],.all⟩)
  sc:ScB H q s i l m
  kw:H[m]? = zbZ[0]?
  out:ztg H q m v acc
  q3:3≤q
  m3:3≤m
  ne:m≠q
theorem SI.lt {H:zaa}{q m:Nat}{s:List UInt8}{i:Nat}{l:Bool}{v:V}{acc:List Tk}(h:SI H q m s i l v acc):q<H.length∧m<H.length:=by
 refine⟨zaa.lt h.sc,?_⟩;have:zbZ[0]?≠none:=by decide
 rw[←h.kw]at this;exact Nat.lt_of_not_le fun h=>this (List.getElem?_eq_none h)
theorem SI.keep {H H':zaa}{q m:Nat}{s:List UInt8}{i i':Nat}{l l':Bool}{v:V}{acc:List Tk}(h:SI H q m s i l v acc)(hs:ScB H' q s i' l' m)(hk:∀j,j<H.length→j≠q→H'[j]? = H[j]?):SI H' q m s i' l' v acc:=by
 obtain⟨hq,hm⟩:=h.lt;have q3:=h.q3;have m3:=h.m3;refine⟨by rw[hk 0 (by omega) (by omega)];exact h.c0,by rw[hk 1 (by omega) (by omega)];exact h.c1,by rw[hk 2 (by omega) (by omega)];exact h.c2,hs,by rw[hk m hm h.ne];exact h.kw,?_,q3,m3,h.ne⟩;rcases h.out with h|⟨n,h1,h2,h3,h4,h5⟩
 ·exact .inl h
 ·exact .inr ⟨n,h1,by rw[hk n (zaa.lt h2) h4];exact h2,h3,h4,h5⟩
theorem SI.set {H:zaa}{q m:Nat}{s:List UInt8}{i i':Nat}{l l':Bool}{v:V}{acc:List Tk}(h:SI H q m s i l v acc):SI (H.set q (some (scB s i' l' m))) q m s i' l' v acc:=by
 refine h.keep (by unfold ScB;rw[List.getElem?_set_self h.lt.1]) fun j _ hj=>?_;rw[List.getElem?_set_ne (fun e=>hj e.symm)]
theorem ztg.cell {H:zaa}{q m:Nat}{v:V}{l:List Tk}(h:ztg H q m v l):v.cells=[v]∧zeN v=true:=by
 rcases h with⟨rfl,_⟩|⟨n,rfl,_⟩<;>exact⟨rfl,rfl⟩
theorem zw7 (j:Nat)(n:Nat)(h:¬j=n):(((j:Nat):Int)==(n:Nat))=false:=by
 simp;omega
set_option maxHeartbeats 1000000 in
theorem zrU {call:zad}(hC:call.Sound prog TT)(D:List UInt8→Prop)(s:List UInt8)(hs:s.length≤20000)(q m:Nat)
 (hskip:∀(i:Nat)(l:Bool)(H:zaa),ScB H q s i l m→i≤s.length→skR H q s m (skQ s i l) (call 30 [.ptr q 0] H))
 (htok:∀(i:Nat)(l:Bool)(H:zaa),ScB H q s i l m→i<s.length→H[m]? = zbZ[0]?→m≠q→zti D (s.drop i)→zvp H q s i l m (zd6 kw zeO (s.drop i)) (call 31 [.ptr q 0] H)){Q:Out→Prop} :
 ∀(n i:Nat)(l:Bool)(v:V)(acc:List Tk)(t:Tm)(H:zaa),s.length<n+i→i≤s.length→acc.length≤i→SI H q m s i l v acc→zmK D s n i l→t.wid=32→t.get 0=.s s→t.get 2=.ptr 0 0→t.get 3=.ptr 1 0→t.get 4=.ptr 2 0→t.get 5=.ptr q 0 →
  (∀(t':Tm)(H':zaa)(toks:List Tk)(v:V),zij s n i l acc=.inl toks→t'.get 2=.ptr 0 0→t'.get 3=.ptr 1 0→t'.get 4=.ptr 2 0→H'[0]? = some (some ⟨23,[v],.all⟩)→H'[1]? = some (some ⟨3,[.i .i64 0],.all⟩)→H'[2]? = some (some ⟨24,[.i .i64 0],.all⟩)→ztg H' q m v toks→Q (.ret t' H')) →
  (∀(t':Tm)(H':zaa)(a e:Nat)(v:V),zij s n i l acc=.inr (a,e)→t'.get 2=.ptr 0 0→t'.get 3=.ptr 1 0→t'.get 4=.ptr 2 0→H'[0]? = some (some ⟨23,[v],.all⟩)→H'[1]? = some (some ⟨3,[.i .i64 0],.all⟩)→H'[2]? = some (some ⟨24,[.i .i64 0],.all⟩)→Q (.pan (zcA e a) t' H')) →
  zaP prog TT (sub [true,true,true,true,false,false] (zae f11)) t H Q:=by
 have ex1:TT.ext 30=none:=rfl;have ex2:TT.ext 31=none:=rfl;have ci:∀(k:IntKind)(n:Int),(V.i k n).cells=[V.i k n]:=fun _ _=>rfl;have fi:∀(k:IntKind)(n:Int),zeN (V.i k n)=true:=fun _ _=>rfl;intro n;induction n with
 |zero=>intro i l v acc t H h1 h2;omega
 |succ n ih=>
  intro i l v acc t H hn hi hacc hI hD hw t0 t2 t3 t4 t5 hR hP;obtain⟨hql,hml⟩:=hI.lt;have q3:=hI.q3;have m3:=hI.m3;have hsk:=hskip i l H hI.sc hi;rcases hk:skQ s i l with a|⟨j,l'⟩
  ·rw [hk]at hsk;obtain⟨b,hsk⟩:=hsk;have hF:=ai @t5 (ai @hsk @ex1);refine zaP.round' ?_;apply bK;apply sQ;refine Tri.regP (v:=?v1) (t':=?t1) (H':=?H1) zah hC ?e1 ?q1;case e1=>
    refine zax ?_;refine oA ?_;refine zhP rfl (by simp[hF]<;>rfl) (by rfl) ?_;exact rfl
   refine zkg ?_;refine zgZ ?_;refine zhU ?_;refine hP _ _ a 32 v (by simp only[zij,hk]) (by simp[t2]) (by simp[t3]) (by simp[t4]) ?_ ?_ ?_
   ·rw[List.getElem?_set_ne (by omega)];exact hI.c0
   ·rw[List.getElem?_set_ne (by omega)];exact hI.c1
   ·rw[List.getElem?_set_ne (by omega)];exact hI.c2
  ·rw[hk]at hsk;have hsk:call 30 [.ptr q 0] H=.val .un (H.set q (some (scB s j l' m))):=hsk;have hI1:SI (H.set q (some (scB s j l' m))) q m s j l' v acc:=hI.set;obtain⟨hij,hjl⟩:i≤j∧j≤s.length:=zsZ hi hk;generalize hH1:H.set q (some (scB s j l' m))=H1 at hsk hI1;have g0:=hI1.c0;have g1:=hI1.c1;have g2:=hI1.c2;have gq:H1[q]? = some (some (scB s j l' m)):=hI1.sc;obtain⟨hvc,hvf⟩:=hI1.out.cell;obtain⟨hql1,hml1⟩:=hI1.lt;have gl0:0<H1.length:=by omega
   have gl1:1<H1.length:=by omega
   have gl2:2<H1.length:=by omega
   refine zaP.round' ?_;apply bK;apply sQ;refine Tri.regN (t':=?t2) (H':=?H2) zah hC ?e2 ?q2;case e2=>
    refine zax ?_;iterate 2 refine zab rfl (by simp[t5,hsk,ex1]<;>rfl) (by rfl) (by simp[hw]) ?_
    exact zaq
   apply sN;iterate 2 apply sQ
   by_cases hend:j=s.length
   ·have hee:(((j:Nat):Int)==(s.length:Nat))=true:=by rw[hend];simp
    refine Tri.regN (t':=?t3) (H':=?H3) zah hC ?e3 ?q3;case e3=>
     refine zax ?_;iterate 7 refine zab rfl (by simp[t5,t0,gq,hee]<;>rfl) (by rfl) (by simp[hw]) ?_
     exact zaq
    apply sN;refine Tri.condG (o:=?o3) (b:=?b3) ?g3 ?r3 ?y3 ?n3;case g3=>simp[hee]<;>rfl
    case r3=>rfl
    case n3=>intro h;simp at h
    case y3=>
     intro _;apply sQ;refine Tri.regN (t':=?t4) (H':=?H4) zah hC ?e4 ?q4;case e4=>
      refine zax ?_;iterate 4 refine zab rfl (by simp[t2,t3,t4,g0,g1,g2,hvc,hvf,ci,fi,-V.cells,-zeN]<;>rfl) (by rfl) (by simp[hw]) ?_
      exact zaq
     apply sN;apply Tri.ret;apply sR;apply bR;refine zcf ?_;refine hR _ _ acc v (by simp only[zij,hk];rw[if_pos hend]) (by simp[t2]) (by simp[t3]) (by simp[t4]) ?_ ?_ ?_ ?_
     ·simp[gl0,gl1,gl2]
     ·simp[gl0,gl1,gl2]
     ·simp[gl0,gl1,gl2]
     ·rcases hI1.out with h|⟨nb,h1,h2,h3,h4,h5⟩
      ·exact .inl h
      ·refine .inr ⟨nb,h1,?_,h3,h4,h5⟩;rw[List.getElem?_set_ne (by omega),List.getElem?_set_ne (by omega),List.getElem?_set_ne (by omega)];exact h2
   ·have hlt:j<s.length:=by omega
    have hne:(((j:Nat):Int)==(s.length:Nat))=false:=zw7 _ _ hend;refine Tri.regN (t':=?t5) (H':=?H5) zah hC ?e5 ?q5;case e5=>
     refine zax ?_;iterate 7 refine zab rfl (by simp[t5,t0,gq,hne]<;>rfl) (by rfl) (by simp[hw]) ?_
     exact zaq
    apply sN;refine Tri.condG (o:=?o5) (b:=?b5) ?g5 ?r5 ?y5 ?n5;case g5=>simp[hne]<;>rfl
    case r5=>rfl
    case y5=>intro h;simp at h
    case n5=>
     intro _;apply Tri.skip;apply sN;apply sQ;have hD':zti D (s.drop j)∧match zd6 kw zeO (s.drop j)with | .inl e=>True | .inr (k,t,m)=>zmK D s n (j+m) false:=by
      have:=hD;simp only[zmK,hk]at this;exact this.resolve_left hend
     have htk:=htok j l' H1 hI1.sc hlt hI1.kw hI1.ne hD'.1;have hlen:=hD'.2;rcases hq:zd6 kw zeO (s.drop j)with e|p
     ·rw [hq]at htk;obtain⟨H3,htk,hkp,hke⟩:=htk;refine Tri.drawPan zah hC 2 ?v6 ?H6 [false,false,true,true,true,true] (by kernel_rfl) ?e6 ?q6;case e6=>
       iterate 2 refine QP.val rfl (by simp[t2,t5,g0,htk,ex2]<;>rfl) (by rfl) (by simp[hw]) ?_
       refine QP.stop rfl rfl (by simp[t2,t5,g0,htk,ex2]<;>rfl) (by rfl) (by simp[hw]) ?_;iterate 3 refine QP.skip rfl (by simp[hw]) ?_
       exact QP.nil
      refine zkg ?_;refine zgZ ?_;refine zhU ?_;refine hP _ _ j e v (by simp only[zij,hk,hq];rw[if_neg hend]) (by simp[zcH,t2]) (by simp[zcH,t3]) (by simp[zcH,t4]) ?_ ?_ ?_
      ·rw[hke 0 (by omega) (by omega)];exact g0
      ·rw[hke 1 (by omega) (by omega)];exact g1
      ·rw[hke 2 (by omega) (by omega)];exact g2
     ·rw[hq]at htk;obtain⟨H3,htk,hsc3,hkp,hke⟩:=htk;have htk:call 31 [.ptr q 0] H1=.val (.agg (tkL (p.1,p.2.1,(j:Int),l'))) H3:=htk;have hI3:SI H3 q m s (j+p.2.2) l' v acc:=hI1.keep hsc3 hke;obtain⟨hp1,hp2⟩:=zqG hq;rw[length_drop]at hp2;obtain⟨hql3,hml3⟩:=hI3.lt;have b1:=zvE (p.1,p.2.1,(j:Int),l') H3;have hI4:SI (H3++[some {ty:=34,cells:=tkL (p.1,p.2.1,(j:Int),l'),kind:=.all}]) q m s (j+p.2.2) l' v acc:=hI3.keep (by unfold ScB;rw[List.getElem?_append_left hql3];exact hI3.sc) fun i hi _=>List.getElem?_append_left hi;obtain⟨v2,H5,b2,hO5,hl5,hk5⟩:=ztm hI4.out (by omega) (p.1,p.2.1,(j:Int),l') (b:=H3.length) (by simp) hI4.lt.1 hI4.lt.2 (by simp;omega);generalize hH4:H3++[some {ty:=34,cells:=tkL (p.1,p.2.1,(j:Int),l'),kind:=.all}]=H4 at b1 b2 hI4 hk5 hl5;have g30:=hI3.c0;have g40:=hI4.c0;have g50:H5[0]? = some (some ⟨23,[v],.all⟩):=by rw[hk5 0 (by omega)];exact hI4.c0
      have g51:H5[1]? = some (some ⟨3,[.i .i64 0],.all⟩):=by rw[hk5 1 (by omega)];exact hI4.c1
      have g52:H5[2]? = some (some ⟨24,[.i .i64 0],.all⟩):=by rw[hk5 2 (by omega)];exact hI4.c2
      have g5q:H5[q]? = some (some (scB s (j+p.2.2) l' m)):=by rw[hk5 q (by omega)];exact hI4.sc
      have g5m:H5[m]? = zbZ[0]?:=by rw[hk5 m (by omega)];exact hI4.kw
      obtain⟨hvc2,hvf2⟩:=hO5.cell;refine Tri.regN (t':=?t7) (H':=?H7) zah hC ?e7 ?q7;case e7=>
       refine zbY (t':=?t7) (H':=?H7) (ks:=[.a,.q,.e,.e,.e,.l]) (fun J=>J[0]? = some (some ⟨23,[v],.all⟩)) (by kernel_rfl) g0 ?_ ?r7;refine DR.any rfl (by simp[t2,g0]<;>rfl) (by rfl) (by simp[hw]) (by intro J hJ;simp[hJ,t2]<;>rfl) ?_;refine DR.blind rfl rfl (by simp[t5]<;>rfl) (by rfl) (by simp[hw]) ?_;refine DR.eff rfl rfl (by simp[htk,ex2]<;>rfl) (by rfl) (by simp[hw]) g30 ?_;refine DR.eff rfl rfl (by simp[b1]<;>rfl) (by rfl) (by simp[hw]) g40 ?_;refine DR.eff rfl rfl (by simp[b2]<;>rfl) (by rfl) (by simp[hw]) g50 ?_;refine DR.last (x:=?x7) (v:=?v7) ?h1 ?h2 ?h3 ?h4 ?h5;case h1=>exact rfl
       case h2=>exact rfl
       case h3=>simp[t2,g50,hvc2,hvf2,-V.cells,-zeN]<;>rfl
       case h4=>exact rfl
       case h5=>simp[hw]
       case r7=>exact rfl
      apply sN;have hl5q:q<H5.length:=zaa.lt g5q;have q0:¬0=q:=by omega
      refine Tri.regN (t':=?t8) (H':=?H8) zah hC ?e8 ?q8;case e8=>
       refine zax ?_;iterate 4 refine zab rfl (by simp[t5,g5q,q0]<;>rfl) (by rfl) (by simp[hw]) ?_
       exact zaq
      apply bN;refine zar ?_;have hI6:SI ((H5.set 0 (some ⟨23,[v2],.all⟩)).set q (some (scB s (j+p.2.2) false m))) q m s (j+p.2.2) false v2 (acc++[(p.1,p.2.1,(j:Int),l')]):=by
       have l0:0<H5.length:=zaa.lt g50;refine⟨?_,?_,?_,?_,?_,?_,q3,m3,hI1.ne⟩
       ·rw[List.getElem?_set_ne (by omega),List.getElem?_set_self l0]
       ·rw[List.getElem?_set_ne (by omega),List.getElem?_set_ne (by omega)];exact g51
       ·rw[List.getElem?_set_ne (by omega),List.getElem?_set_ne (by omega)];exact g52
       ·unfold ScB;rw[List.getElem?_set_self (by rw[length_set];exact hl5q)]
       ·rw[List.getElem?_set_ne (fun e=>hI1.ne e.symm),List.getElem?_set_ne (by omega)];exact g5m
       ·rcases hO5 with h|⟨nb,h1,h2,h3,h4,h5⟩
        ·exact .inl h
        ·refine .inr ⟨nb,h1,?_,h3,h4,h5⟩;rw[List.getElem?_set_ne (fun e=>h4 e.symm),List.getElem?_set_ne (by omega)];exact h2
      have hsn:zij s (n+1) i l acc=zij s n (j+p.2.2) false (acc++[(p.1,p.2.1,(j:Int),l')]):=by
       simp only[zij,hk,hq];rw[if_neg hend]
      rw[hq]at hlen;refine ih (j+p.2.2) false v2 (acc++[(p.1,p.2.1,(j:Int),l')]) _ _ (by omega) (by omega) (by simp;omega) (by simpa[scB]using hI6) hlen (by simp[hw]) (by simp[t0]) (by simp[t2]) (by simp[t3]) (by simp[t4]) (by simp[t5]) ?_ ?_
      ·intro t' H' toks u k1;exact hR t' H' toks u (hsn.trans k1)
      ·intro t' H' a e u k1;exact hP t' H' a e u (hsn.trans k1)
def zjG (s:List UInt8):List Tk×Nat×Nat:=if 20000<s.length then([],0,16)else match zij s (s.length+1) 0 true []with
 | .inl l=>(l,0,0)
 | .inr (a,e)=>([],a,e)
def tkV (l:List Tk):V:=.isl 4 (l.map fun x=>.agg (tkL x))
def zqk (p:List Tk×Nat×Nat):V:=.tup [tkV p.1,.i .i64 (p.2.1:Nat),.i .i64 (p.2.2:Nat)]
def zyE (p:List Tk×Nat×Nat)(r:OR):Prop:=∃(v:V)(J:zaa)(q m:Nat),r=.val (.tup [v,.i .i64 (p.2.1:Nat),.i .i64 (p.2.2:Nat)]) J∧ztg J q m v p.1
theorem zqW {p:List Tk×Nat×Nat}{r:OR}(h:zyE p r):∃v J k v' u,r=.val v J∧fz J k v=some v'∧zkO v' u∧u=zqk p:=by
 obtain⟨v,J,q,m,rfl,ho⟩:=h;rcases ho with⟨rfl,hl⟩|⟨n,rfl,hn,_⟩
 ·refine⟨_,J,5,_,_,rfl,by simp[fz,Ev.fzL]<;>rfl,?_,rfl⟩;unfold zqk tkV;rw[hl];exact zeT.tup (zeT.cons (zqL 4) (zeT.cons (zkO.refl _) (zeT.cons (zkO.refl _) zeT.nil)))
 ·obtain⟨l,a,c⟩:=p;simp only at hn ⊢;have hc:zau J n=some {ty:=34,cells:=tkC l,kind:=.more}:=by simp[zau,hn]
  have hlen:=zcI l;have hcut:cut (tkC l) (0*4) (l.length*4)=some (tkC l):=by
   simp only[cut];rw[if_pos (by omega),Nat.zero_mul,drop_zero,take_of_length_le (by omega)]
  have hf:=zps (H:=J) l (4*l.length+7) (by omega);have hf1:fz J (4*l.length+8) (.sl n 4 0 l.length none)=some (.isl 4 (l.map fun x=>V.agg (tkL x))):=by
   simp only[fz,hc,hcut,hf,zhk,Option.map_some]
  have e2:Ev.fzL J (4*l.length+8) [V.i .i64 (a:Nat),V.i .i64 (c:Nat)]=some [V.i .i64 (a:Nat),V.i .i64 (c:Nat)]:=by simp[Ev.fzL,fz]
  have e1:Ev.fzL J (4*l.length+9) (V.sl n 4 0 l.length none::[V.i .i64 (a:Nat),V.i .i64 (c:Nat)])=some (V.isl 4 (l.map fun x=>V.agg (tkL x))::[V.i .i64 (a:Nat),V.i .i64 (c:Nat)]):=by
   rw[Ev.fzL,hf1,e2]
  refine⟨_,J,4*l.length+10,zqk (l,a,c),zqk (l,a,c),rfl,?_,zkO.refl _,rfl⟩;rw[fz,e1];rfl
theorem zoy {call:zad}(hC:call.Sound prog TT)(D:List UInt8→Prop)(s:List UInt8)
 (hkw:call 29 [] zlK=.val (.mp 3) (zlK++zbZ))
 (hskip:∀(q m:Nat)(i:Nat)(l:Bool)(H:zaa),ScB H q s i l m→i≤s.length→s.length≤20000→skR H q s m (skQ s i l) (call 30 [.ptr q 0] H))
 (htok:∀(q m:Nat)(i:Nat)(l:Bool)(H:zaa),ScB H q s i l m→i<s.length→s.length≤20000→H[m]? = zbZ[0]?→m≠q→zti D (s.drop i)→zvp H q s i l m (zd6 kw zeO (s.drop i)) (call 31 [.ptr q 0] H))
 (hD:s.length≤20000→zmK D s (s.length+1) 0 true):zkN prog TT 11 [.s s] [] (zyE (zjG s)):=by
 refine⟨f11,_,rfl,rfl,by simp[f11],?_⟩;have h0:(Tm.init f11.ntmps [.s s]).get 0=.s s:=by rw[zag];rfl
 have hw:(Tm.init f11.ntmps [.s s]).wid=32:=rfl;generalize Tm.init f11.ntmps [.s s]=t at *;refine zdH.seq (zdH.lift ?_);refine Tri.regN (t':=?t1) (H':=?H1) zah hC ?e1 ?q1;case e1=>
  refine zax ?_;iterate 3 refine zab rfl (by simp<;>rfl) (by rfl) (by simp[hw]) ?_
  exact zaq
 refine zdH.seq (zdH.lift ?_);by_cases hl:(s.length:Int)≤20000
 ·have hl':s.length≤20000:=by omega
  have hgt:¬(20000:Int)<s.length:=by omega
  apply sQ;refine Tri.regN (t':=?t2) (H':=?H2) zah hC ?e2 ?q2;case e2=>
   refine zax ?_;iterate 3 refine zab rfl (by simp[h0,hgt,hl]<;>rfl) (by rfl) (by simp[hw]) ?_
   exact zaq
  apply sN;refine Tri.condG (o:=?o2) (b:=?b2) ?g2 ?r2 ?y2 ?n2;case g2=>simp<;>rfl
  case r2=>rfl
  case y2=>intro h;simp at h
  case n2=>
   intro _;apply Tri.skip;refine zdH.seq ?_;refine zdH.reg (f:=28) (caps:=[.ptr 0 0,.ptr 1 0,.ptr 2 0]) (vs:=[]) (xv:=?xv) (yv:=?yv) (t1:=?t3) (t2:=?t4) (H1:=?H3) (H2:=?H4) zah hC 1 rfl rfl rfl ?e3 ?x3 ?xx ?y3 ?yy ?f3 ?e4 ?q3;case e3=>
    refine oA ?_;exact zaq
   case x3=>simp<;>rfl
   case xx=>rfl
   case y3=>rfl
   case yy=>rfl
   case f3=>simp[hw]
   case e4=>exact zaq
   refine zdH.seq (zdH.lift ?_);have ex:TT.ext 29=none:=rfl;have hkw':call 29 [] [some ⟨23,[.nils],.all⟩,some ⟨3,[.i .i64 0],.all⟩,some ⟨24,[.i .i64 0],.all⟩]=.val (.mp 3) (zlK++zbZ):=hkw;refine Tri.regN (t':=?t5) (H':=?H5) zah hC ?e5 ?q5;case e5=>
    refine zax ?_;iterate 5 refine zab rfl (by simp[h0,hkw',ex]<;>rfl) (by rfl) (by simp[hw]) ?_
    exact zaq
   refine zdH.lift ?_;apply bK;refine Tri.loop ?_;have hI:SI (zlK++zbZ++[some (scB s 0 true 3)]) (zlK++zbZ).length 3 s 0 true .nils []:=by
    refine⟨rfl,rfl,rfl,?_,rfl,.inl ⟨rfl,rfl⟩,by simp[zlK],by omega,by simp[zlK,zbZ]⟩;unfold ScB;simp
   refine zrU hC D s hl' _ 3 (fun i l H h1 h2=>hskip _ 3 i l H h1 h2 hl') (fun i l H h1 h2 h3 h4 h5=>htok _ 3 i l H h1 h2 hl' h3 h4 h5) (s.length+1) 0 true .nils [] _ _ (by omega) (by omega) (by simp) hI (hD hl') (by simp[hw]) (by simp[h0]) (by simp) (by simp) (by simp) (by simp[zlK,zbZ]) ?_ ?_
   ·intro t' H' toks v hsc f2 f3 f4 g0 g1 g2 hO;apply bR;have hT:zjG s=(toks,0,0):=by unfold zjG;rw[if_neg (by omega),hsc]
    refine⟨H',_,⟨H',zno _ rfl H',rfl⟩,?_,v,H',_,_,rfl,by rw[hT];exact hO⟩;rw[hT];simp[f11,f2,f3,f4,g0,g1,g2]
   ·intro t' H' a e v hsc f2 f3 f4 g0 g1 g2;refine zgZ ?_;have hT:zjG s=([],a,e):=by unfold zjG;rw[if_neg (by omega),hsc]
    have hl2:2<H'.length:=zaa.lt g2;refine⟨rfl,znm H' e a,_,znn e a g0 g1 g2,?_,.nils,znm H' e a,0,0,rfl,by rw[hT];exact .inl ⟨rfl,rfl⟩⟩;rw[hT];have k0:(znm H' e a)[0]? = some (some ⟨23,[.nils],.all⟩):=by
     unfold znm;rw[List.getElem?_set_ne (by omega),List.getElem?_set_ne (by omega),List.getElem?_set_self (by simp)]
    have k1:(znm H' e a)[1]? = some (some ⟨3,[.i .i64 (a:Nat)],.all⟩):=by
     unfold znm;rw[List.getElem?_set_ne (by omega),List.getElem?_set_self (by simp;omega)]
    have k2:(znm H' e a)[2]? = some (some ⟨24,[.i .i64 (e:Nat)],.all⟩):=by
     unfold znm;rw[List.getElem?_set_self (by simp;omega)]
    simp[f11,f2,f3,f4,k0,k1,k2]
 ·have hgt:(20000:Int)<s.length:=by omega
  have hT:zjG s=([],0,16):=by unfold zjG;rw[if_pos (by omega)]
  apply sQ;refine Tri.regN (t':=?t6) (H':=?H6) zah hC ?e6 ?q6;case e6=>
   refine zax ?_;iterate 3 refine zab rfl (by simp[h0,hgt]<;>rfl) (by rfl) (by simp[hw]) ?_
   exact zaq
  apply sN;refine Tri.condG (o:=?o6) (b:=?b6) ?g6 ?r6 ?y6 ?n6;case g6=>simp<;>rfl
  case r6=>rfl
  case n6=>intro h;simp at h
  case y6=>
   intro _;apply sQ;refine Tri.regN (t':=?t7) (H':=?H7) zah hC ?e7 ?q7;case e7=>
    refine zax ?_;iterate 3 refine zab rfl (by simp<;>rfl) (by rfl) (by simp[hw]) ?_
    exact zaq
   apply sN;apply Tri.ret;refine⟨_,_,rfl,?_,.nils,_,0,0,rfl,by rw[hT];exact .inl ⟨rfl,rfl⟩⟩;rw[hT];simp[f11]
theorem zqv {P:Program}{T:Tab}(hT:TOk P T)(hp:T.Plain)(F:FuncId){α:Type}(enc:α→List V)(D:α→Prop)(r:α→V)(hnl:∀a,D a→nlL (enc a)=true)(inj:∀a b,D a→D b→enc a=enc b→r a=r b)
 (h:∀a,D a→zcm P T F (enc a) [] fun x=>∃v J k v' u,x=.val v J∧fz J k v=some v'∧zkO v' u∧u=r a):∃g,zap P T F g∧∀a,D a→∀H,g (enc a) H=.val (r a) H:=by
 obtain⟨g0,k0,s0⟩:=zcm.spec (F:=F) hT (D:=fun vs H=>H=[]∧∃a,D a∧vs=enc a) (R:=fun vs _ x=>∃a,D a∧vs=enc a∧∃v J k v' u,x=.val v J∧fz J k v=some v'∧zkO v' u∧u=r a) (by
  rintro vs H ⟨rfl,a,ha,rfl⟩;exact(h a ha).mono fun x hx=>⟨a,ha,rfl,hx⟩)
 obtain⟨g,k,s⟩:=zqu hp k0 (fun vs=>∃a,D a∧vs=enc a) (fun vs u=>∃a,D a∧vs=enc a∧u=r a) (by
  rintro vs ⟨a,ha,rfl⟩;refine⟨hnl a ha,?_⟩;obtain⟨x,⟨b,hb,he,v,J,n,v',u,rfl,h1,h2,h3⟩,h4⟩:=s0 (enc a) [] ⟨rfl,a,ha,rfl⟩;exact⟨v,J,n,v',u,h4,h1,h2,b,hb,he,h3⟩)
 refine⟨g,k,fun a ha H=>?_⟩;obtain⟨u,⟨b,hb,he,rfl⟩,h2⟩:=s (enc a) ⟨a,ha,rfl⟩;rw[h2 H,inj a b ha hb he]
theorem zkE (D:List UInt8→Prop)(hf:∀s at_,D s→s.length<1100000→zvd s at_):∃g,zap prog TT 11 g∧∀s:List UInt8,(s.length≤20000→zmK D s (s.length+1) 0 true)→∀H,g [.s s] H=.val (zqk (zjG s)) H:=by
 obtain⟨g1,k1,s1⟩:=zwL;obtain⟨g2,k2,s2⟩:=zqq D hf;have hC:=ws (ws (ws n0 k1) k2) zyj;have c1:∀(q m:Nat)(s:List UInt8)(i:Nat)(l:Bool)(H:zaa),ScB H q s i l m→i≤s.length→s.length≤20000→skR H q s m (skQ s i l) ((((zad.none.with 30 g1).with 31 g2).with 29 zlN) 30 [.ptr q 0] H):=fun q m s i l H h1 h2 h3=>by
  rw[zac _ _ _ _ rfl,zac _ _ _ _ rfl,zao];exact s1 (q,s,i,l,m) H ⟨h1,h2,by simp only;omega⟩
 have c2:∀(q m:Nat)(s:List UInt8)(i:Nat)(l:Bool)(H:zaa),ScB H q s i l m→i<s.length→s.length≤20000→H[m]? = zbZ[0]?→m≠q→zti D (s.drop i)→zvp H q s i l m (zd6 kw zeO (s.drop i)) ((((zad.none.with 30 g1).with 31 g2).with 29 zlN) 31 [.ptr q 0] H):=fun q m s i l H h1 h2 h3 h4 h5 h6=>by
  rw[zac _ _ _ _ rfl,zao];exact s2 q s i l m H h1 h2 (by omega) h4 h5 h6
 have c3:(((zad.none.with 30 g1).with 31 g2).with 29 zlN) 29 [] zlK=.val (.mp 3) (zlK++zbZ):=by
  rw[zao];simp[zlN,zaa.beq_refl]
 generalize((zad.none.with 30 g1).with 31 g2).with 29 zlN=call at hC c1 c2 c3;exact zqv zah zat 11 (fun s=>[.s s]) (fun s:List UInt8=>s.length≤20000→zmK D s (s.length+1) 0 true) (fun s=>zqk (zjG s)) (fun _ _=>rfl) (fun a b _ _ h=>by simp only[List.cons.injEq,V.s.injEq,and_true]at h;rw[h])
  fun s hs=>(zkN.fact zah (zoy hC D s c3 (fun q m i l H h1 h2 h3=>c1 q m s i l H h1 h2 h3) (fun q m i l H h1 h2 h3 h4 h5 h6=>c2 q m s i l H h1 h2 h3 h4 h5 h6) hs)).mono fun r hr=>zqW hr
def aw1:List UInt8:=[108,101,116,32,120,39,32,61,32,48,120,70,70,32,47,47,32,97]
def aw2:List UInt8:=[49,46,101,32,97,46,62,98,32,34,97,92,120,52,49,34]
theorem ztq:zjG aw1=([(2,[108,101,116],0,true),(1,[120,39],4,false),(6,[61],7,false),(3,[50,53,53],9,false)],0,0):=by kernel_rfl
theorem ztr:zjG aw2=([(3,[49],0,true),(6,[46],1,false),(1,[101],2,false),(1,[97],4,false),(6,[46,62],5,false),(1,[98],7,false),(5,[97,65],9,false)],0,0):=by kernel_rfl
section
variable (u v:List UInt8)
end
def NoF (x:List UInt8):Prop:=∀m,zfR x≠some (m,true)
def awC:Con:=fun f vs=>if f=11 then(match vs with
 | [.s s]=>if s=aw1 then some (.val (zqk ([(2,[108,101,116],0,true),(1,[120,39],4,false),(6,[61],7,false),(3,[50,53,53],9,false)],0,0)))else if s=aw2 then some (.val (zqk ([(3,[49],0,true),(6,[46],1,false),(1,[101],2,false),(1,[97],4,false),(6,[46,62],5,false),(1,[98],7,false),(5,[97,65],9,false)],0,0)))else none
 |_=>none)else none
theorem zts:(match zcK TT (zeD awC) 3000 10 [] []with | .val (.b true) _=>true|_=>false)=true:=by kernel_rfl
def noF (x:List UInt8):Bool:=match zfR x with
 |some (_,true)=>false
 |_=>true
theorem zud {x:List UInt8}(h:noF x=true):NoF x:=fun m e=>by
 unfold noF at h;rw[e]at h;cases h
def zuz (s:List UInt8):Nat→Nat→Bool→Bool
 |0,_,_=>true
 |n+1,i,l=>match skQ s i l with
  | .inl a=>true
  | .inr (j,l')=>if j=s.length then true else if(noF (s.drop j) || !(decide (48≤atS (s.drop j) 0)&&decide (atS (s.drop j) 0≤57)))=true then(match zd6 kw zeO (s.drop j)with
   | .inl e=>true
   | .inr (k,t,m)=>zuz s n (j+m) false)else false
theorem zjp (s:List UInt8):∀(n i:Nat)(l:Bool),zuz s n i l=true→zmK NoF s n i l
 |0,_,_,_=>trivial
 |n+1,i,l,h=>by
  unfold zuz at h;unfold zmK;split
  ·trivial
  ·rename_i j l' e;rw[e]at h;simp only at h;split at h
   ·exact .inl ‹_›
   ·split at h
    ·rename_i h1;refine .inr ⟨fun hd=>?_,?_⟩
     ·rw[hd]at h1;exact zud (by simpa using h1)
     ·split
      ·trivial
      ·rename_i k t m e2;rw[e2]at h;exact zjp s n _ _ h
    ·cases h
theorem zx2:zmK NoF aw1 (aw1.length+1) 0 true:=zjp _ _ _ _ (by kernel_rfl)
theorem zx3:zmK NoF aw2 (aw2.length+1) 0 true:=zjp _ _ _ _ (by kernel_rfl)
theorem zuE:∃g,zap prog TT 11 g∧∀s:List UInt8,(s.length≤20000→zmK NoF s (s.length+1) 0 true)→∀H,g [.s s] H=.val (zqk (zjG s)) H:=
 zkE NoF fun s at_ h _ m t he=>absurd he (h m)
theorem zwJ:∃g,zap prog TT 10 g∧∀H,g [] H=.val (.b true) H:=by
 obtain⟨g1,k1,s1⟩:=zuE;have hC:awC.Sound prog TT:=by
  intro f vs H r h hne;simp only[zeD,awC]at h;split at h
  ·rename_i hf;subst hf;split at h
   ·rename_i s;split at h
    ·rename_i e;subst e;refine k1 _ H r ?_ hne;rw[s1 aw1 (fun _=>zx2) H,ztq];exact Option.some.inj h
    ·split at h
     ·rename_i e;subst e;refine k1 _ H r ?_ hne;rw[s1 aw2 (fun _=>zx3) H,ztr];exact Option.some.inj h
     ·cases h
   ·cases h
  ·cases h
 refine⟨fun vs H=>match vs with | []=>.val (.b true) H|_=>.no,fun vs H x hx hne=>?_,fun H=>rfl⟩;simp only at hx;split at hx
 ·subst hx;have h:=zts;split at h
  ·rename_i J he;obtain⟨h1,h2⟩:=zjS zah zat hC (r:=.val (.b true)) he rfl rfl;exact⟨h1,h2 H⟩
  ·cases h
 ·exact absurd hx.symm hne
open Go.Lib (VarReads LaidVars_reads acceptData firstData)
def zlt (W:World):Mem:=fun b=>W.heap[b]?
theorem zh6 {M:Mem}{ρ:Ren}:∀(l:List V)(cs:List Value),cs.length=l.length→(∀(i:Nat) v x,l[i]? = some v→cs[i]? = some x→rel M ρ v x)→relL M ρ l cs
 | [],[],_,_=>by simp only[relL]
 | [],_::_,h,_=>by simp at h
 |_::_,[],h,_=>by simp at h
 |v::l,x::cs,h,k=>zaE (k 0 v x rfl rfl) (zh6 l cs (by simpa using h) fun i v' x' h1 h2=>k (i+1) v' x' (by simpa using h1) (by simpa using h2))
theorem zgW {W:World}{name:String}{g:Nat}{cs:Array Value}{l:List V}(hg:prog.globalNamed name=some g)(hv:W.var? prog name=some cs)(hl:cs.size=l.length)
 (h:∀(i:Nat) v,l[i]? = some v→∃x,W.cell? ⟨g,i,none⟩=some x∧rel (zlt W) [] v x) :
 ∃(cs':List Value)(ty:TypeId)(fr:Nat×Nat),zlt W g=some (.cells cs'.toArray ty fr)∧relL (zlt W) [] l cs':=by
 unfold World.var? at hv;rw[hg]at hv;simp only[Option.bind_some]at hv;split at hv
 ·rename_i c ty fr hb;cases hv;refine⟨cs.toList,ty,fr,by simpa[zlt]using hb,zh6 _ _ (by simpa using hl) fun i v x h1 h2=>?_⟩;obtain⟨y,hy,hr⟩:=h i v h1;have:W.cell? ⟨g,i,none⟩=cs[i]?:=by simp[World.cell?,hb]
  rw[this]at hy;rw[Array.getElem?_toList]at h2;rw[h2]at hy;cases hy;exact hr
 ·cases hv
theorem u8x:U8Extra prog Tryz.lays196_ren where
 n3:=by kernel_rfl
 n4:=by kernel_rfl
 y3:=by kernel_rfl
 y4:=by kernel_rfl
 c5:=by kernel_rfl
 c119:=by kernel_rfl
 c138:=by kernel_rfl
theorem zfl {W:World}{name:String}{d:DataW Unit}{g:Nat}{t e:TypeId}{n k:Nat}(hg:prog.globalNamed name=some g)(ht:(prog.globals[g]?).map (·.type)=some t)(hu:prog.underlying t=some (.array n e))(hc:prog.cellsOf t=k)(h:VarReads prog W name d) :
 ∃cs,W.var? prog name=some cs∧cs.size=k:=by
 obtain⟨g',t',cs,fuel,p,hg',ht',hv,hd⟩:=h;obtain rfl:=Option.some.inj (hg.symm.trans hg');obtain rfl:=Option.some.inj (ht.symm.trans ht');refine⟨cs,hv,?_⟩;cases fuel with
 |zero=>simp[DataW.trod]at hd
 |succ fuel=>
  simp only[DataW.trod,hu,hc]at hd;split at hd
  ·rename_i hl;simpa using hl
  ·cases hd
theorem zvx:∀j,j<16→((((List.range 16).map fun i=>[V.i .u8 (Lib.accLo i),V.i .u8 (Lib.accHi i)]).flatten)[2*j]? = some (V.i .u8 (Lib.accLo j))∧(((List.range 16).map fun i=>[V.i .u8 (Lib.accLo i),V.i .u8 (Lib.accHi i)]).flatten)[2*j+1]? = some (V.i .u8 (Lib.accHi j))):=by
 intro j hj;have:j=0∨j=1∨j=2∨j=3∨j=4∨j=5∨j=6∨j=7∨j=8∨j=9∨j=10∨j=11∨j=12∨j=13∨j=14∨j=15:=by omega
 rcases this with rfl|rfl|rfl|rfl|rfl|rfl|rfl|rfl|rfl|rfl|rfl|rfl|rfl|rfl|rfl|rfl<;>exact⟨rfl,rfl⟩
theorem zn1 {W:World} (h:laidMetH prog Go.Proofs.YtmjplflnlggbeaaGreatDoor.Rows.tokenStringsUptoRow.laid W) (hsh:W.ShapedOpen prog):SR TT (zlt W) [] [] W:=by
  rw[MakeChecks.laidMetH_plain _ _ _ (by kernel_rfl)]at h
  obtain⟨ps,hv,_,_⟩:=h
  have hr:=LaidVars_reads hv
  have hP:VarReads prog W "internal/strconv.uint64pow10" (Lib.tabData .u64 Lib.pow10Tab):=hr _ _ (.tail _ (.tail _ (.head _)))
  have hA:VarReads prog W "unicode/utf8.acceptRanges" acceptData:=hr _ _ (.tail _ (.tail _ (.tail _ (.head _))))
  have hS:VarReads prog W "strings.asciiSpace" (Lib.tabData .u8 ((List.range 256).map fun i=>if i=32∨(9≤i∧i≤13)then 1 else 0)):=hr _ _ (.tail _ (.tail _ (.tail _ (.tail _ (.tail _ (.head _))))))
  have hG:VarReads prog W "hackamore/token.signs" (.agg (sgnL.map fun s=>.lit (.string s))):=hr _ _ (.tail _ (.tail _ (.tail _ (.tail _ (.tail _ (.tail _ (.head _)))))))
  have hF:VarReads prog W "unicode/utf8.first" firstData:=hr _ _ (.tail _ (.tail _ (.tail _ (.tail _ (.tail _ (.tail _ (.tail _ (.head _))))))))
  have tabs:Lib.Utf8Tabs 1 2 W:=utf8Tabs_of_readsT (U8Types.of196 Tryz.lays196) u8x hF hA
  refine⟨fun b o hb=>hb,rfl,fun n b hn=>by simp at hn,fun n m x y b c c' hn=>by simp at hn,fun g l hl=>?_,fun g hg=>?_⟩
  · simp only [TT]at hl
    split at hl
    · rename_i hg
      subst hg
      cases hl
      have hG':=hG
      obtain⟨cs,hv,hsz⟩:=zfl (g:=0) (t:=77) (by kernel_rfl) (by kernel_rfl) Tryz.underlying77 (k:=43) (by kernel_rfl) hG
      obtain⟨g',t',cs2,fuel,p,hg',ht',hv2,hd⟩:=hG'
      have e0:prog.globalNamed "hackamore/token.signs" = some 0:=by kernel_rfl
      obtain rfl:=Option.some.inj (e0.symm.trans hg')
      obtain rfl:=Option.some.inj ((show(prog.globals[0]?).map (·.type)=some 77 by kernel_rfl).symm.trans ht')
      rw[hv]at hv2
      cases hv2
      have c9:prog.cellsOf 9=1:=by kernel_rfl
      refine zgW e0 hv (by rw[hsz];rfl) fun i v hi=>?_
      have hi43:i<43:=(List.getElem?_eq_some_iff.1 hi).1
      obtain⟨fuel',d,q,hdi,he⟩:=Lib.array_elem Tryz.underlying77 hd i hi43
      rw[c9,Nat.mul_one]at he
      obtain⟨s,e1,e2,_⟩:=DataW.trod_string Tryz.underlying9 he
      simp only[List.getElem?_map,Option.map_eq_some_iff]at hi hdi
      obtain⟨x,hx,rfl⟩:=hi
      obtain⟨y,hy,rfl⟩:=hdi
      rw[hx]at hy
      cases hy
      have hs:s=⟨x.toArray⟩:=by
        simp only[Prod.mk.injEq,DataW.lit.injEq]at e2
        have h1:=e2.1
        simp only[Lit.string.injEq]at h1
        cases s
        simp only at h1
        rw[h1]
      refine⟨.string s,?_,by rw[hs];simp only[rel]⟩
      rw[World.var?_cell e0 hv i,←Array.getElem?_toList]
      have:(cs.toList.drop i)[0]? = some (.string s):=by
        have h2:=congrArg (fun l:List Value=>l[0]?) e1
        simpa using h2
      simpa using this
    · split at hl
      · rename_i hg
        subst hg
        cases hl
        have hS':=hS
        obtain⟨cs,hv,hsz⟩:=zfl (g:=3) (t:=99) (by kernel_rfl) (by kernel_rfl) Tryz.underlying99 (k:=256) (by kernel_rfl) hS
        obtain⟨g',t',cs2,fuel,p,hg',ht',hv2,hd⟩:=hS'
        have e0:prog.globalNamed "strings.asciiSpace" = some 3:=by kernel_rfl
        obtain rfl:=Option.some.inj (e0.symm.trans hg')
        obtain rfl:=Option.some.inj ((show(prog.globals[3]?).map (·.type)=some 99 by kernel_rfl).symm.trans ht')
        have hcs:=Lib.cells_of_tab Tryz.underlying99 Tryz.underlying5 (by kernel_rfl) (by kernel_rfl) hd
        refine zgW e0 hv (by simp[hsz]) fun i v hi=>?_
        rw[hv]at hv2
        cases hv2
        have hi256:i<256:=by
          have:=(List.getElem?_eq_some_iff.1 hi).1
          simpa using this
        simp only[List.getElem?_map,List.getElem?_range hi256,Option.map_some,Option.some.injEq]at hi
        subst hi
        refine⟨.int .u8 (if i=32∨(9≤i∧i≤13)then 1 else 0),?_,by simp only[rel]⟩
        rw[World.var?_cell e0 hv i,←Array.getElem?_toList,hcs]
        simp[List.getElem?_range hi256]
      · split at hl
        · rename_i hg
          subst hg
          cases hl
          obtain⟨cs,hv,hsz⟩:=zfl (g:=1) (t:=99) (by kernel_rfl) (by kernel_rfl) Tryz.underlying99 (k:=256) (by kernel_rfl) hF
          refine zgW (by kernel_rfl) hv (by simp[hsz]) fun i v hi=>?_
          have hi256:i<256:=by
            have:=(List.getElem?_eq_some_iff.1 hi).1
            simpa using this
          simp only[List.getElem?_map,List.getElem?_range hi256,Option.map_some,Option.some.injEq]at hi
          subst hi
          exact⟨_,tabs.1 i hi256,by simp only[rel]⟩
        · split at hl
          · rename_i hg
            subst hg
            cases hl
            obtain⟨cs,hv,hsz⟩:=zfl (g:=2) (t:=102) (by kernel_rfl) (by kernel_rfl) Tryz.underlying102 (k:=32) (by kernel_rfl) hA
            refine zgW (by kernel_rfl) hv (by rw[hsz];rfl) fun i v hi=>?_
            have hi32:i<32:=by
              have:=(List.getElem?_eq_some_iff.1 hi).1
              exact this
            obtain⟨j,hj,hij⟩:∃j,j<16∧(i=2*j∨i=2*j+1):=⟨i/2,by omega,by omega⟩
            obtain⟨k1,k2⟩:=zvx j hj
            rcases hij with rfl|rfl
            · rw[k1]at hi;cases hi
              exact⟨_,(tabs.2 j hj).1,by simp only[rel]⟩
            · rw[k2]at hi;cases hi
              exact⟨_,(tabs.2 j hj).2,by simp only[rel]⟩
          · split at hl
            · rename_i hg
              subst hg
              cases hl
              have hP':=hP
              obtain⟨cs,hv,hsz⟩:=zfl (g:=8) (t:=196) (by kernel_rfl) (by kernel_rfl) Tryz.underlying196 (k:=20) (by kernel_rfl) hP
              obtain⟨g',t',cs2,fuel,p,hg',ht',hv2,hd⟩:=hP'
              have e0:prog.globalNamed "internal/strconv.uint64pow10" = some 8:=by kernel_rfl
              obtain rfl:=Option.some.inj (e0.symm.trans hg')
              obtain rfl:=Option.some.inj ((show(prog.globals[8]?).map (·.type)=some 196 by kernel_rfl).symm.trans ht')
              have hcs:=Lib.cells_of_tab Tryz.underlying196 Tryz.underlying119 (by kernel_rfl) (by kernel_rfl) hd
              refine zgW e0 hv (by simp[hsz]) fun i v hi=>?_
              rw[hv]at hv2
              cases hv2
              have hi20:i<20:=by
                have:=(List.getElem?_eq_some_iff.1 hi).1
                simpa using this
              simp only[List.getElem?_map,List.getElem?_range hi20,Option.map_some,Option.some.injEq]at hi
              subst hi
              refine⟨.int .u64 ((10^i:Nat):Int),?_,by simp only[rel]⟩
              rw[World.var?_cell e0 hv i,←Array.getElem?_toList,hcs]
              simp[Lib.pow10Tab,List.getElem?_range hi20]
            · cases hl
  · have hg4:g=4:=by simpa[TT]using hg
    subst hg4
    obtain⟨m,hm⟩:=cell_of_shapedOpen_int (P:=prog) (w:=W) (k:=.i64) (g:=4) (t:=3) (zero:=#[.int .i64 0]) hsh (of_decide_eq_true (by kernel_rfl)) (by kernel_rfl) rfl (by kernel_rfl) (by kernel_rfl) Tryz.underlying3
    obtain⟨cs,hh,hs,hr⟩:=hsh.1 4 #[.int .i64 0] 3 (of_decide_eq_true (by kernel_rfl)) (by kernel_rfl)
    have hc:cs[0]? = some (.int .i64 m):=by simpa[World.cell?,hh]using hm
    refine⟨m,3,(0,0),?_⟩
    show W.heap[4]? = _
    rw[hh]
    have e:cs=#[.int .i64 m]:=by
      apply Array.ext (by simpa using hs)
      intro i h1 h2
      have hi:i=0:=by simp at h2;exact h2
      subst hi
      simpa[Array.getElem?_eq_getElem h1]using hc
    rw[e]
/-! The program's numbers are those of the reference. -/
theorem zhq (c:Int){base:Int}(hb:base≤16):zbW c<base↔0≤zbA c base:=by
 unfold zbW zbA zk8;repeat' split
 all_goals omega
theorem zxD {c base:Int}(hb:base≤16)(h:zbW c<base):zbA c base=zbW c:=by
 have h2:=(zhq c hb).1 h;unfold zbW zbA zk8 at *;repeat' split
 all_goals (repeat' split at h)
 all_goals omega
def dgb (base:Int)(c:UInt8):Bool:=decide (zbW c.toNat<base)
theorem zxC:zbW ((95:UInt8).toNat:Int)=99:=by decide
theorem zji {base:Int} (hb:0≤base∧base≤16):∀(L:List UInt8) (n:Nat) (out:List UInt8) (pd:Bool),(0<n↔out≠[])→(pd=false→n=0∨∃d r,L=d::r∧zbW d.toNat<base) →
    (∀m,zb7 base L n=some m→zaC base L out pd=(m-n,out++(L.take (m-n)).filter (dgb base))∧(∀c∈L.take (m-n),zbW c.toNat<base∨c=95)∧n≤m∧(0<m↔out++(L.take (m-n)).filter (dgb base)≠[])) ∧
    (zb7 base L n=none→(zaC base L out pd).2≠[]∧L[(zaC base L out pd).1]? = some 95)
  | [],n,out,pd,h1,h2=>by
    refine⟨fun m hm=>?_,fun h=>by simp[zb7]at h⟩
    simp only[zb7,Option.some.injEq]at hm
    subst hm
    simp[zaC,h1]
  | b :: L, n, out,pd,h1,h2=>by
    by_cases hv:zbW b.toNat<base
    · have hd:=(zhq _ hb.2).1 hv
      have ih:=zji hb L (n+1) (out++[b]) true (by simp) (by simp)
      simp only[zb7,zaC,if_pos hv,if_pos hd]
      have hdb:dgb base b=true:=by simp[dgb,hv]
      refine⟨fun m hm=>?_,fun h=>?_⟩
      · obtain⟨e,a1,a2,a3⟩:=ih.1 m hm
        have e1:m-n=(m-(n+1))+1:=by omega
        rw[e,e1,take_succ_cons,filter_cons,if_pos hdb]
        refine⟨by simp,fun c hc=>?_,by omega,by simp;omega⟩
        rcases mem_cons.1 hc with rfl|hc
        · exact .inl hv
        · exact a1 c hc
      · obtain⟨a1,a2⟩:=ih.2 h
        exact⟨a1,by rw[List.getElem?_cons_succ];exact a2⟩
    · have hd : ¬0≤zbA b.toNat base:=fun h=>hv ((zhq _ hb.2).2 h)
      by_cases hu:b.toNat≠95∨n=0
      · have hno:¬(b=95∧out≠[]∧0≤zbA (hdR L) base∧pd=true):=by
          rintro⟨rfl,ho,_⟩
          rcases hu with hu|hu
          · exact hu rfl
          · have:=h1.2 ho;omega
        simp only[zb7,zaC,if_neg hv,if_neg hd,if_pos hu,if_neg hno]
        refine⟨fun m hm=>?_,fun h=>by cases h⟩
        have hm:=Option.some.inj hm
        subst hm
        simp[h1]
      · have hb95:b=95:=UInt8.toNat.inj (show b.toNat=95 by omega)
        have hn:n≠0:=by omega
        have hpd:pd=true:=by
          cases pd with
          |true=>rfl
          | false=>
            rcases h2 rfl with h|⟨d,r,e,hd⟩
            · exact absurd h hn
            · exact absurd hd (by rw[←(List.cons.inj e).1];exact hv)
        subst hb95
        have ho:out≠[]:=h1.1 (by omega)
        cases L with
        | nil=>
          have hno:¬((95:UInt8)=95∧out≠[]∧0≤zbA (hdR []) base∧pd=true):=by
            rintro⟨_,_,h,_⟩
            have:hdR []=0:=rfl
            rw[this]at h
            unfold zbA at h
            rw[show zk8 0= -1 from by decide,if_neg (by omega)]at h
            omega
          have e0:zb7 base [95] n=none:=by rw[zb7,if_neg hv,if_neg hu]
          have e1:zaC base [95] out pd=(0,out):=by rw[zaC,if_neg hd,if_neg hno]
          rw[e0,e1]
          exact⟨fun m hm=>(by cases hm),fun _=>⟨ho,rfl⟩⟩
        | cons d r=>
          by_cases hv2:zbW d.toNat<base
          · have hy:((95:UInt8)=95∧out≠[]∧0≤zbA (hdR (d::r)) base∧pd=true):=⟨rfl,ho,(zhq _ hb.2).1 hv2,hpd⟩
            have ih:=zji hb (d::r) (n+1) out false (by simp[ho]) (fun _=>.inr ⟨d,r,rfl,hv2⟩)
            have e0:zb7 base (95::d::r) n=zb7 base (d::r) (n+1):=by
              rw[zb7,if_neg hv,if_neg hu]
              simp only[if_pos hv2]
            have e1:zaC base (95::d::r) out pd=((zaC base (d::r) out false).1+1,(zaC base (d::r) out false).2):=by
              rw[zaC,if_neg hd,if_pos hy]
            rw[e0,e1]
            have hdb:¬dgb base 95=true:=by unfold dgb;rw[decide_eq_true_eq];exact hv
            refine⟨fun m hm=>?_,fun h=>?_⟩
            · obtain⟨e,a1,a2,a3⟩:=ih.1 m hm
              have e1:m-n=(m-(n+1))+1:=by omega
              rw[e,e1,take_succ_cons,filter_cons,if_neg hdb]
              refine⟨rfl,fun c hc=>?_,by omega,a3⟩
              rcases mem_cons.1 hc with rfl|hc
              · exact .inr rfl
              · exact a1 c hc
            · obtain⟨a1,a2⟩:=ih.2 h
              exact⟨a1,by rw[List.getElem?_cons_succ];exact a2⟩
          · have hno:¬((95:UInt8)=95∧out≠[]∧0≤zbA (hdR (d::r)) base∧pd=true):=fun h=>hv2 ((zhq _ hb.2).2 h.2.2.1)
            have e0:zb7 base (95::d::r) n=none:=by
              rw[zb7,if_neg hv,if_neg hu]
              simp only[if_neg hv2]
            have e1:zaC base (95::d::r) out pd=(0,out):=by
              rw[zaC,if_neg hd,if_neg hno]
            rw[e0,e1]
            exact⟨fun m hm=>(by cases hm),fun _=>⟨ho,rfl⟩⟩
theorem zxO {base:Int}(hb:0≤base∧base≤16){L:List UInt8}{m:Nat}(h:zb7 base L 0=some m):zaC base L [] false=(m,(L.take m).filter (dgb base))∧(∀c∈L.take m,zbW c.toNat<base∨c=95)∧(0<m↔(L.take m).filter (dgb base)≠[]):=by
 obtain⟨a,b,c,d⟩:=(zji hb L 0 [] false (by simp) (by simp)).1 m h;exact⟨a,b,d⟩
theorem zsh {base:Int}(hb:0≤base∧base≤16){L:List UInt8}(h:zb7 base L 0=none):(zaC base L [] false).2≠[]∧L[(zaC base L [] false).1]? = some 95:=(zji hb L 0 [] false (by simp) (by simp)).2 h
theorem zlT {base:Nat}(hb:base≤16)(hb0:0<base):∀(X:List UInt8)(a:Nat),a<340282366920938463463374607431768211456→zdP base X a=if zgj base (X.filter (dgb base)) a<340282366920938463463374607431768211456 then some (zgj base (X.filter (dgb base)) a)else none
 | [],a,h=>by simp only[zdP,filter_nil,zgj,if_pos h]
 |c::X,a,h=>by
  by_cases hv:zbW c.toNat<base
  ·have hdb:dgb base c=true:=by simp[dgb,hv]
   have e:(zbA (c.toNat:Int) (base:Int)).toNat=(zbW (c.toNat:Int)).toNat:=by rw[zxD (by omega) hv]
   simp only[zdP,if_pos hv,filter_cons,if_pos hdb,zgj,e];by_cases hs:a*base+(zbW (c.toNat:Int)).toNat<340282366920938463463374607431768211456
   ·rw[if_pos hs,zlT hb hb0 X _ hs]
   ·have:=zlu base hb0 (X.filter (dgb base)) (a*base+(zbW (c.toNat:Int)).toNat);rw[if_neg hs,if_neg (by omega)]
  ·have hdb:¬dgb base c=true:=by unfold dgb;rw[decide_eq_true_eq];exact hv
   simp only[zdP,if_neg hv,filter_cons,if_neg hdb];exact zlT hb hb0 X a h
theorem zkH:∀(l:List UInt8)(c:UInt8),zaX (l++[c])=zaX l*10+(c.toNat-48)
 | [],c=>by simp[zaX]
 |b::l,c=>by
  have ih:=zkH l c;simp only[cons_append,zaX,length_append,length_cons,length_nil,Nat.zero_add,Nat.pow_succ];rw[ih,←Nat.mul_assoc,Nat.add_mul];omega
theorem zyV (n:Nat):zf4 (UInt8.ofNat (48+n%10))∧(UInt8.ofNat (48+n%10)).toNat=48+n%10:=by
 have h:∀k:Fin 10,zf4 (UInt8.ofNat (48+k.val))∧(UInt8.ofNat (48+k.val)).toNat=48+k.val:=by unfold zf4;decide
 exact h ⟨n%10,Nat.mod_lt _ (by omega)⟩
theorem zsL:∀(k n:Nat),n<k→(∀b∈dgL n,zf4 b)∧zaX (dgL n).reverse=n∧(n≠0→dgL n≠[]∧(dgL n).reverse.head?≠some 48)
 |0,n,h=>absurd h (Nat.not_lt_zero _)
 |k+1,n,h=>by
  by_cases h0:n=0
  ·subst h0;rw[zeX];exact⟨by simp,rfl,fun h=>absurd rfl h⟩
  ·obtain⟨a,b,c⟩:=zsL k (n/10) (by omega);obtain⟨d1,d2⟩:=zyV n;rw[ziE n h0,reverse_cons,zkH,b,d2];refine⟨fun x hx=>?_,by omega,fun _=>⟨by simp,?_⟩⟩
   ·rcases mem_cons.1 hx with rfl|hx
    ·exact d1
    ·exact a x hx
   ·by_cases h1:n/10=0
    ·rw[h1,zeX];simp only[reverse_nil,nil_append,List.head?_cons,ne_eq,Option.some.injEq];intro e;rw[e]at d2;have:(48:UInt8).toNat=48:=rfl;omega
    ·obtain ⟨c1,c2⟩:=c h1;obtain⟨x,y,e⟩:∃x y,(dgL (n/10)).reverse=x::y:=by
      cases hr:(dgL (n/10)).reverse with
      |nil=>exact absurd (reverse_eq_nil_iff.1 hr) c1
      |cons x y=>exact⟨x,y,rfl⟩
     rw[e]at c2 ⊢;exact c2
theorem zhM (n:Nat):zbR (zk4 n)∧zaX (zk4 n)=n:=by
 obtain⟨a,b,c⟩:=zsL (n+1) n (by omega);unfold zk4 ztE;by_cases h0:n=0
 ·subst h0;rw[zeX,if_pos rfl];exact⟨⟨by unfold zf4;decide,by decide,by decide⟩,rfl⟩
 ·obtain⟨c1,c2⟩:=c h0;rw[if_neg c1];refine⟨⟨fun x hx=>a x (mem_reverse.1 hx),?_,fun _=>c2⟩,b⟩;rw[length_reverse];exact length_pos_iff.2 c1
theorem zdI (s:List UInt8)(i j:Nat):atR s (i+j)=atR (s.drop i) j:=by unfold atR;rw[List.getElem?_drop]
theorem ziG (s:List UInt8)(i j:Nat):s.drop (i+j)=(s.drop i).drop j:=by rw[drop_drop]
theorem ztt (s:List UInt8)(i j:Nat)(t:List UInt8)(h:i≤s.length):zdh s (i+j) t=zdh (s.drop i) j t:=by
 unfold zdh;rw[length_drop,take_drop,drop_drop];have e1:decide (i+j+t.length≤s.length)=decide (j+t.length≤s.length-i):=by
  rw[decide_eq_decide];omega
 rw[e1,Nat.add_assoc]
theorem zcC (s:List UInt8)(i:Nat)(t:List UInt8)(h:i≤s.length):zdh s i t=zbF (s.drop i) t:=by
 rw[zpP,←ztt s i 0 t h,Nat.add_zero]
theorem zjK (s:List UInt8)(n:Nat):atS s (n:Nat)=atR s n:=rfl
theorem zon (j:Nat):atR [] j=0:=by simp[atR]
theorem zl1 (c:UInt8)(r:List UInt8):atR (c::r) 0=c.toNat:=by simp[atR]
theorem zq2 (c:UInt8)(r:List UInt8)(j:Nat):atR (c::r) (j+1)=atR r j:=by simp[atR]
theorem ziu {s:List UInt8}{i:Nat}(h:s.length≤i):atR s i=0:=by simp[atR,List.getElem?_eq_none h]
theorem zla {L:List UInt8}{n:Nat}(h:n≤L.length):zmd L n = !(zcy (atR L n)):=by
 unfold zmd;rw[zjK];by_cases e:n=L.length
 ·rw[ziu (by omega)];simp[e];decide
 ·simp[e]
def nmV (o:Option (Int×List UInt8×Nat))(i:Nat):V:=match o with
 |some r=>okV r.1 r.2.1 (i+r.2.2)
 |none=>zkM
theorem zdW {s d text:List UInt8}{base e:Nat}{k:Int}{v:V}(h:zbw s d base e text k v)(hb:d=[]∨zcy (atR s e)=true):v=zkM:=by
 rcases h with⟨_,h⟩|⟨h0,_⟩
 ·exact h
 ·rcases hb with hb|hb
  ·rw[hb]at h0;simp at h0
  ·rw[hb]at h0;simp at h0
theorem zo5 {s d text:List UInt8}{base e:Nat}{v:V}(h:zbw s d base e text 4 v)(hd:d≠[])(hw:zcy (atR s e)=false):v=okV 4 text e:=by
 rcases h with⟨h0,_⟩|⟨_,h⟩
 ·rw[hw]at h0;simp[hd]at h0
 ·rcases h with⟨_,h⟩|⟨h,_⟩
  ·exact h
  ·cases h
theorem zo6 {s d text X:List UInt8}{base e:Nat}{v:V}(h:zbw s d base e text 3 v)(hd:d≠[])(hw:zcy (atR s e)=false)(hb:base≤16)(hb0:0<base)(hX:d=X.filter (dgb base)) :
 v=match zdP base X 0 with|some a=>okV 3 (zk4 a) e|none=>zkM:=by
 rw[zlT hb hb0 X 0 (by decide),←hX];have hmx:=zmu;rcases h with⟨h0,_⟩|⟨_,h⟩
 ·rw[hw]at h0;simp[hd]at h0
 ·rcases h with⟨h,_⟩|⟨_,⟨o,ho,h1,h2,h3⟩|⟨h1,h2⟩⟩
  ·cases h
  ·rw[hmx]at h2;rw[if_pos (by omega)];have:=zq8 ho (zhM (zgj base d 0)).1 (by rw[(zhM _).2];exact h1);simp only;rw[h3,this]
  ·rw[hmx]at h1;rw[if_neg (by omega)];exact h2
theorem zfe (a b:List UInt8):za4 (a++b)=za4 a++za4 b:=by simp[za4]
theorem zff:∀W:List UInt8,(∀c∈W,zbW c.toNat<10∨c=95)→za4 W=W.filter (dgb 10)
 | [],_=>rfl
 |c::W,h=>by
  have ih:=zff W fun x hx=>h x (by simp[hx]);unfold za4 at ih ⊢;rcases h c (by simp)with hc|rfl
  ·have h1:c≠95:=by rintro rfl;rw[zxC]at hc;omega
   have h2:c≠69:=by
    rintro rfl;have:zbW ((69:UInt8).toNat:Int)=14:=by decide
    rw[this]at hc;omega
   have h3:dgb 10 c=true:=by simp[dgb,hc]
   rw[filter_cons,if_pos (by simp[h1]),map_cons,if_neg h2,ih,filter_cons,if_pos h3]
  ·have h3:¬dgb 10 95=true:=by unfold dgb;rw[decide_eq_true_eq,zxC];omega
   rw[filter_cons,if_neg (by simp),ih,filter_cons,if_neg h3]
theorem zsG {s:List UInt8}{e:Nat}(h:s[e]? = some 95):zcy (atR s e)=true:=by
 have:atR s e=95:=by simp[atR,h]
 rw[this];decide
theorem zro (L:List UInt8) (m:Nat) (text:List UInt8) (k:Int):match zge (L.drop m)with
    |none=>ze4 L m text k=none∨∃e' t' k',ze4 L m text k=some (e',t',k')∧zcy (atR L e')=true
    |some 0=>ze4 L m text k=some (m,text,k)
    |some (q+1)=>ze4 L m text k=some (m+(q+1),text++za4 ((L.drop m).take (q+1)),4):=by
  have hat:∀j,atR L (m+j)=atR (L.drop m) j:=zdI L m
  have h0:atR L m=atR (L.drop m) 0:=by rw[←hat,Nat.add_zero]
  have hdr:∀j,L.drop (m+j)=(L.drop m).drop j:=ziG L m
  have hget:∀j,L[m+j]? = (L.drop m)[j]?:=fun j=>by rw[List.getElem?_drop]
  unfold ze4
  rw[h0]
  cases hx:L.drop m with
  |nil=>simp[zge,zon]
  | cons c r =>
    rw[hx]at hat hdr hget
    rw[zl1]
    by_cases hc:c=101∨c=69
    · have hc2 : ((((c.toNat:Nat):Int)==101)||(((c.toNat:Nat):Int)==69))=true:=by rcases hc with rfl|rfl<;>decide
      rw[if_pos hc2]
      simp only[zge,if_pos hc]
      obtain ⟨sg,hsg,htk,hrp⟩:∃sg,zdF L (m+1)=(m+zfn r,sg)∧(∀q,(c::r).take (zfn r+q)=c::(sg++((c::r).drop (zfn r)).take q))∧za4 sg=sg:=by
        unfold zdF
        rw[hat 1,zq2]
        cases r with
        | nil=>
          refine⟨[],by simp[zon,zfn],fun q=>?_,rfl⟩
          simp[zfn,Nat.add_comm 1 q]
        | cons d r'=>
          rw[zl1]
          by_cases hd:d=43∨d=45
          · have hd2:((((d.toNat:Nat):Int)==43)||(((d.toNat:Nat):Int)==45))=true:=by rcases hd with rfl|rfl<;>decide
            rw[if_pos hd2]
            refine⟨[d],?_,fun q=>?_,by rcases hd with rfl|rfl<;>decide⟩
            · simp only[zfn,if_pos hd]
              rw[drop_take,show m+1+1-(m+1)=1 from by omega,hdr 1]
              rfl
            · simp only[zfn,if_pos hd]
              rw[Nat.add_comm 2 q]
              rfl
          · have hd2:¬((((d.toNat:Nat):Int)==43)||(((d.toNat:Nat):Int)==45))=true:=by
              intro e
              simp only[Bool.or_eq_true,beq_iff_eq]at e
              apply hd
              rcases e with e|e
              · exact .inl (UInt8.toNat.inj (by have:(43:UInt8).toNat=43:=rfl;omega))
              · exact .inr (UInt8.toNat.inj (by have:(45:UInt8).toNat=45:=rfl;omega))
            rw[if_neg hd2]
            refine⟨[],?_,fun q=>?_,rfl⟩
            · simp only[zfn,if_neg hd]
            · simp only[zfn,if_neg hd]
              rw[Nat.add_comm 1 q]
              rfl
      rw[hsg]
      simp only[hdr (zfn r)]
      cases hrun:zb7 10 ((c::r).drop (zfn r)) 0 with
      | none=>
        obtain⟨a1,a2⟩:=zsh (by decide) hrun
        simp only
        rw[if_neg a1]
        refine .inr ⟨_,_,_,rfl,zsG ?_⟩
        rw[Nat.add_assoc,hget,←List.getElem?_drop]
        exact a2
      | some q=>
        obtain⟨a1,a2,a3⟩:=zxO (by decide) hrun
        cases q with
        | zero=>
          simp only
          rw[a1]
          simp
        | succ q=>
          simp only
          have hne:=a3.1 (Nat.succ_pos q)
          rw[a1,if_neg hne]
          have:zfn r+(q+1)=(zfn r+q)+1:=by omega
          show some (m+zfn r+(q+1),text++101::(sg++List.filter (dgb 10) (List.take (q+1) (List.drop (zfn r) (c::r)))),(4:Int))=some (m+(zfn r+(q+1)),text++za4 ((c::r).take (zfn r+(q+1))),4)
          rw[htk,show c::(sg++((c::r).drop (zfn r)).take (q+1))=[c]++(sg++((c::r).drop (zfn r)).take (q+1))from rfl,zfe,zfe,hrp,zff _ a2]
          have:za4 [c]=[101]:=by rcases hc with rfl|rfl<;>decide
          rw[this,Nat.add_assoc]
          rfl
    · have hc2:¬((((c.toNat:Nat):Int)==101)||(((c.toNat:Nat):Int)==69))=true:=by
        intro e
        simp only[Bool.or_eq_true,beq_iff_eq]at e
        apply hc
        rcases e with e|e
        · exact .inl (UInt8.toNat.inj (by have:(101:UInt8).toNat=101:=rfl;omega))
        · exact .inr (UInt8.toNat.inj (by have:(69:UInt8).toNat=69:=rfl;omega))
      rw[if_neg hc2]
      simp only[zge,if_neg hc]
theorem ztP (s:List UInt8)(i m:Nat)(t:List UInt8)(k:Int):ze4 s (i+m) t k=(ze4 (s.drop i) m t k).map fun p=>(i+p.1,p.2):=by
 have hsg:zdF s (i+m+1)=(i+(zdF (s.drop i) (m+1)).1,(zdF (s.drop i) (m+1)).2):=by
  unfold zdF;rw[Nat.add_assoc,zdI];split
  ·rw[take_drop,drop_drop];rfl
  ·rfl
 unfold ze4;rw[zdI,hsg];simp only[←ziG];split
 ·split
  ·rfl
  ·simp[Nat.add_assoc]
 ·rfl
theorem zrr (s:List UInt8)(i e:Nat)(d:List UInt8):zdu s (i+e) d=(i+(zdu (s.drop i) e d).1,(zdu (s.drop i) e d).2):=by
 unfold zdu;rw[Nat.add_assoc,zdI,zdI,ziG];split
 ·simp[Nat.add_assoc]
 ·rfl
theorem zsc (s:List UInt8)(i e:Nat)(d:List UInt8):zcF s (i+e) d=(zcF (s.drop i) e d).map fun p=>(i+p.1,p.2):=by
 unfold zcF;rw[zrr];exact ztP s i _ _ _
theorem zmy {s L:List UInt8}{i base:Nat}{v:V}(hb:base=2∨base=16)(hat:∀j,atR s (i+j)=atR L j)(hlen:2≤L.length)
 (h:zbw s (zaC base (L.drop 2) [] false).2 base (i+2+(zaC base (L.drop 2) [] false).1) (zaC base (L.drop 2) [] false).2 3 v):v=nmV (zlx L base) i:=by
 have hb16:0≤(base:Int)∧(base:Int)≤16:=by omega
 unfold zlx;cases hr:zb7 base (L.drop 2) 0 with
 |none=>
  obtain⟨a1,a2⟩:=zsh hb16 hr;refine zdW h (.inr ?_);rw[Nat.add_assoc,hat];refine zsG ?_;rw[←List.getElem?_drop];exact a2
 |some n=>
  obtain⟨a1,a2,a3⟩:=zxO hb16 hr;rw[a1]at h;simp only at h ⊢;by_cases hn:0<n
  ·rw[if_pos hn];have hd:=a3.1 hn;have hle:=zcj _ _ _ _ hr;rw[length_drop]at hle;have hq:zmd L (2+n) = !(zcy (atR s (i+2+n))):=by rw[zla (by omega),Nat.add_assoc,hat]
   cases hw:zcy (atR s (i+2+n))with
   |true=>
    rw[zdW h (.inr hw),hq,hw];cases zdP base ((L.take (2+n)).drop 2) 0<;>rfl
   |false=>
    rw[zo6 h hd hw (by omega) (by omega) (X:=(L.take (2+n)).drop 2) (by rw[drop_take,Nat.add_sub_cancel_left]),hq,hw];cases zdP base ((L.take (2+n)).drop 2) 0 with
    |none=>rfl
    |some a=>
     simp only[Bool.not_false,if_true,nmV];rw[Nat.add_assoc]
  ·rw[if_neg hn];exact zdW h (.inl (Classical.not_not.1 fun hne=>hn (a3.2 hne)))
theorem zkF {s L d text:List UInt8}{i m:Nat}{k:Int}{r:Bool}{v:V}(hat:∀j,atR s (i+j)=atR L j)(hm:m≤L.length)(hd:d≠[])(ht:text=za4 (L.take m))(hk:k=if r=true then 4 else 3)(hX:r=false→d=(L.take m).filter (dgb 10))
 (h:((ze4 L m text k).map (fun p=>(i+p.1,p.2))=none∧v=zkM)∨∃e' t' k',(ze4 L m text k).map (fun p=>(i+p.1,p.2))=some (e',t',k')∧zbw s d 10 e' t' k' v):v=nmV (zjV L (zdg L m r)) i:=by
 have hs:=zro L m text k;unfold zdg;cases he:zge (L.drop m)with
 |none=>
  rw[he]at hs;simp only[zjV,nmV];rcases h with⟨_,h⟩|⟨e',t',k',h1,h2⟩
  ·exact h
  ·rcases hs with hs|⟨e2,t2,k2,hs,hw⟩
   ·rw[hs]at h1;cases h1
   ·rw[hs]at h1;simp only[Option.map_some,Option.some.injEq,Prod.mk.injEq]at h1;obtain⟨rfl,rfl,rfl⟩:=h1;exact zdW h2 (.inr (by rw[hat];exact hw))
 |some q=>
  rw[he]at hs;have hle:=ziP _ _ he;rw[length_drop]at hle;cases q with
  |zero=>
   simp only at hs ⊢;rw[hs]at h;have hN:zbw s d 10 (i+m) text k v:=by
    rcases h with⟨h,_⟩|⟨e',t',k',h1,h2⟩
    ·cases h
    ·simp only[Option.map_some,Option.some.injEq,Prod.mk.injEq]at h1;obtain⟨rfl,rfl,rfl⟩:=h1;exact h2
   rw[if_neg (Nat.lt_irrefl 0),zla hm,←hat];cases hw:zcy (atR s (i+m))with
   |true=>rw[zdW hN (.inr hw)];rfl
   |false=>
    cases r with
    |true=>
     simp only[if_true]at hk;subst hk;rw[zo5 hN hd hw,ht];rfl
    |false=>
     simp only[Bool.false_eq_true,if_false]at hk;subst hk;rw[zo6 hN hd hw (by omega) (by omega) (X:=L.take m) (hX rfl)];simp only[Bool.not_false,if_true,zjV];cases zdP 10 (L.take m) 0<;>rfl
  |succ q=>
   simp only at hs ⊢;rw[hs]at h;have hN:zbw s d 10 (i+(m+(q+1))) (text++za4 ((L.drop m).take (q+1))) 4 v:=by
    rcases h with⟨h,_⟩|⟨e',t',k',h1,h2⟩
    ·cases h
    ·simp only[Option.map_some,Option.some.injEq,Prod.mk.injEq]at h1;obtain⟨rfl,rfl,rfl⟩:=h1;exact h2
   rw[if_pos (Nat.succ_pos q),zla (by omega),←hat];cases hw:zcy (atR s (i+(m+(q+1))))with
   |true=>rw[zdW hN (.inr hw)];rfl
   |false=>
    rw[zo5 hN hd hw,ht,←zfe,←take_add];rfl
theorem zgE (c:Int):0≤zbA c 10↔48≤c∧c≤57:=by
 unfold zbA zk8;repeat' split
 all_goals omega
theorem zmg (L:List UInt8)(n:Nat):(((atR L n==46)&&decide (0≤zbA (atR L (n+1)) 10))=true)↔(n+1<L.length∧atS L n=46∧(decide (48≤atS L (n+1:Nat))&&decide (atS L (n+1:Nat)≤57))=true):=by
 rw[zjK,zjK];simp only[Bool.and_eq_true,beq_iff_eq,decide_eq_true_eq,zgE];constructor
 ·rintro⟨h1,h2,h3⟩;exact⟨zfN (by omega),h1,h2,h3⟩
 ·rintro⟨_,h1,h2,h3⟩;exact⟨h1,h2,h3⟩
theorem zrY {s:List UInt8}{i:Nat}{v:V}(hi:i≤s.length)(hdg:0≤zbA (atR s i) 10)(h:zn7 s i v):v=nmV (zeO (s.drop i)) i:=by
 have hat:∀j,atR s (i+j)=atR (s.drop i) j:=zdI s i;have hdn:=ztF hdg;unfold zn7 at h;rw[zcC s i _ hi,zcC s i _ hi,ziG,zsc]at h;rw[zg8];generalize s.drop i=L at *;by_cases hx:zbF L [48,120]=true
 ·rw[if_pos hx]at h ⊢;exact zmy (.inr rfl) hat (zbv hx) h
 ·rw[if_neg hx]at h ⊢;by_cases hb:zbF L [48,98]=true
  ·rw[if_pos hb]at h ⊢;exact zmy (.inl rfl) hat (zbv hb) h
  ·rw [if_neg hb]at h ⊢;have hbad:∀(e:Nat) (t:List UInt8) (k:Int),L[e]? = some 95→ze4 L e t k=some (e,t,k):=fun e t k he=>by
    unfold ze4;rw[show atR L e=95 from by simp[atR,he],if_neg (by decide)]
   unfold zfR zcF at *;cases hr:zb7 10 L 0 with
   |none=>
    obtain⟨a1,a2⟩:=zsh (by decide) hr;have hf:zdu L (zaC 10 L [] false).1 (zaC 10 L [] false).2=((zaC 10 L [] false).1,(zaC 10 L [] false).2,3):=by
     unfold zdu;rw[show atR L (zaC 10 L [] false).1=95 from by simp[atR,a2],if_neg (by simp)]
    rw[hf]at h;simp only[hbad _ _ _ a2]at h;simp only[zjV,nmV];rcases h with⟨_,h⟩|⟨e',t',k',h1,h2⟩
    ·exact h
    ·simp only[Option.map_some,Option.some.injEq,Prod.mk.injEq]at h1;obtain⟨rfl,rfl,rfl⟩:=h1;exact zdW h2 (.inr (by rw[hat];exact zsG a2))
   |some n=>
    obtain⟨a1,a2,a3⟩:=zxO (by decide) hr;have hle:=zcj _ _ _ _ hr;rw[a1]at h hdn;simp only at h hdn ⊢;by_cases hfr:((atR L n==46)&&decide (0≤zbA (atR L (n+1)) 10))=true
    ·have hf:zdu L n ((L.take n).filter (dgb 10))=(n+1+(zaC 10 (L.drop (n+1)) [] false).1,(L.take n).filter (dgb 10)++46::(zaC 10 (L.drop (n+1)) [] false).2,4):=by
      unfold zdu;rw[if_pos hfr]
     rw[if_pos ((zmg L n).1 hfr)];rw[hf]at h;cases hr2:zb7 10 (L.drop (n+1)) 0 with
     |none=>
      obtain⟨b1,b2⟩:=zsh (by decide) hr2;rw[List.getElem?_drop]at b2;simp only[hbad _ _ _ b2]at h;simp only[zjV,nmV];rcases h with⟨_,h⟩|⟨e',t',k',h1,h2⟩
      ·exact h
      ·simp only[Option.map_some,Option.some.injEq,Prod.mk.injEq]at h1;obtain⟨rfl,rfl,rfl⟩:=h1;exact zdW h2 (.inr (by rw[hat];exact zsG b2))
     |some k=>
      obtain⟨b1,b2,b3⟩:=zxO (by decide) hr2;have hle2:=zcj _ _ _ _ hr2;have hlt:=((zmg L n).1 hfr).1;rw[length_drop]at hle2;rw[b1]at h;simp only at h ⊢;rw[show n+(1+k)=n+1+k from by omega];refine zkF hat (by omega) hdn ?_ rfl (fun e=>by cases e) h;have h46:L.drop n=46::L.drop (n+1):=by
       rw[drop_eq_getElem_cons (by omega)];have h1:=((zmg L n).1 hfr).2.1;rw[zjK]at h1;unfold atR at h1;rw[List.getElem?_eq_getElem (by omega)]at h1;simp only at h1;rw[show L[n]=46 from UInt8.toNat.inj (by have:(46:UInt8).toNat=46:=rfl;omega)]
      rw[show n+1+k=n+(1+k)from by omega,take_add,zfe,zff _ a2,h46,show 1+k=k+1 from by omega,take_succ_cons,show(46:UInt8)::(L.drop (n+1)).take k=[46]++(L.drop (n+1)).take k from rfl,zfe,zff _ b2];rfl
    ·have hf:zdu L n ((L.take n).filter (dgb 10))=(n,(L.take n).filter (dgb 10),3):=by
      unfold zdu;rw[if_neg hfr]
     rw[if_neg (fun e=>hfr ((zmg L n).2 e))];rw[hf]at h;exact zkF hat (by omega) hdn (by rw[zff _ a2]) rfl (fun _=>rfl) h
/-! Escapes, strings and characters of the program are those of the reference. -/
theorem ztL (c:Int):zjY c true znr znq=plT c:=by
 unfold plT znr znq;simp[zjY]
theorem ztK (c:Int):zjY c false znr znq=none:=by
 unfold znr znq;simp[zjY]
theorem zt9 (c:Int):zd0 c=loT c:=by
 unfold zd0 loT;simp only[beq_iff_eq]
theorem zmn (s:List UInt8)(i:Nat):∀(n k v:Nat),zkd s i n k v=(zob (s.drop (i+1)) n (k+1) v).map fun c:Nat=>(c:Int)
 |0,k,v=>rfl
 |n+1,k,v=>by
  have e:atR s (i+2+k)=atS (s.drop (i+1)) ((k+1:Nat):Int):=by rw[zjK,←zdI,show i+1+(k+1)=i+2+k from by omega]
  simp only[zkd,zob,e];by_cases hv:zbW (atS (s.drop (i+1)) ((k+1:Nat):Int))<16
  ·have h0:=(zhq _ (Int.le_refl 16)).1 hv;have h1:=zxD (Int.le_refl 16) hv;rw[if_pos hv,if_neg (by omega),←zmn s i n (k+1)];rw[h1]at h0 ⊢;rw[show((v:Nat):Int)*16+zbW (atS (s.drop (i+1)) ((k+1:Nat):Int))=((16*v+(zbW (atS (s.drop (i+1)) ((k+1:Nat):Int))).toNat:Nat):Int)from by omega]
  ·have h0:¬0≤zbA (atS (s.drop (i+1)) ((k+1:Nat):Int)) 16:=fun h=>hv ((zhq _ (Int.le_refl 16)).2 h);rw[if_neg hv,if_pos (by omega)];rfl
theorem zzf:zbW 0=99:=by decide
theorem zmm (x:List UInt8):∀(n j c:Nat),x.length<n+j→0<n→zob x n j c=none
 |0,j,c,h,h0=>absurd h0 (Nat.lt_irrefl 0)
 |n+1,j,c,h,h0=>by
  simp only[zob];split
  ·rename_i hv;by_cases hn:0<n
   ·exact zmm x n (j+1) _ (by omega) hn
   ·exfalso;have:atS x (j:Nat)=0:=by rw[zjK,ziu (by omega)]
    rw[this,zzf]at hv;omega
  ·rfl
theorem znR (v:Int):zdN [v]=(Utf8.encode v).data.toList:=by simp[zdN]
theorem zrf (i m c:Nat)(hm:m=2∨m=4∨m=6):zlb i m c=(zqQ m c).map fun p=>(p.1,i+1+p.2):=by
 unfold zlb zqQ vrR;rw[znR];by_cases h:(c≤1114111∧((decide ((0:Int)≤c)&&decide ((c:Int)<55296))||(decide ((57343:Int)<c)&&decide ((c:Int)≤1114111)))=true∧(2<m∨c<128))
 ·rw[if_pos h,if_neg]
  ·rw[Option.map_some,show i+2+m=i+1+(1+m)from by omega]
  ·simp only[Bool.or_eq_true,Bool.and_eq_true,decide_eq_true_eq,beq_iff_eq]at h ⊢;omega
 ·rw[if_neg h,if_pos]
  ·rfl
  ·simp only[Bool.or_eq_true,Bool.and_eq_true,decide_eq_true_eq,beq_iff_eq]at h ⊢;omega
theorem zpE (c:Int):loT c=0∨loT c=2∨loT c=4∨loT c=6:=by
 unfold loT;repeat' split
 all_goals simp
theorem zrg {s:List UInt8}{i:Nat}(hi:i<s.length):zoa s i=(ziJ (s.drop (i+1))).map fun p=>(p.1,i+1+p.2):=by
 have h0:atR s (i+1)=atS (s.drop (i+1)) 0:=by
  have:=zdI s (i+1) 0;rw[Nat.add_zero]at this;rw[this];rfl
 unfold zoa ziJ;rw[h0,zt9];by_cases hx:s.drop (i+1)=[]
 ·have hlen:=congrArg List.length hx;rw[length_drop,length_nil]at hlen;rw[if_pos hx,show decide ((i:Int)+1<s.length)=false from by rw[decide_eq_false_iff_not];omega,ztK];have:loT (atS (s.drop (i+1)) 0)=0:=by rw[hx];decide
  rw[this];rfl
 ·have hlen:i+1<s.length:=by
   rcases Nat.lt_or_ge (i+1) s.length with h|h
   ·exact h
   ·exact absurd (drop_eq_nil_of_le h) hx
  rw[if_neg hx,show decide ((i:Int)+1<s.length)=true from by rw[decide_eq_true_eq];omega,ztL];cases hp:plT (atS (s.drop (i+1)) 0)with
  |some t=>simp
  |none=>
   simp only;have hh:=zmn s i (loT (atS (s.drop (i+1)) 0)) 0 0;simp only[Nat.zero_add]at hh;rw[show zkd s i (loT (atS (s.drop (i+1)) 0)) 0 0=zkd s i (loT (atS (s.drop (i+1)) 0)) 0 ((0:Nat):Int)from rfl,hh];rcases zpE (atS (s.drop (i+1)) 0)with h|hm
   ·rw[h,if_neg (by omega)];rfl
   ·by_cases hl:loT (atS (s.drop (i+1)) 0)<(s.drop (i+1)).length
    ·rw[if_pos ⟨by omega,hl⟩];cases zob (s.drop (i+1)) (loT (atS (s.drop (i+1)) 0)) 1 0 with
     |none=>rfl
     |some c=>exact zrf i _ c hm
    ·rw[if_neg (fun h=>hl h.2),zmm _ _ _ _ (by omega) (by omega)];rfl
theorem zmT {s:List UInt8}{k:Nat}(h:k<s.length):(s.take (k+1)).drop k=[UInt8.ofNat (atR s k).toNat]:=by
 rw[drop_take,show k+1-k=1 from by omega,drop_eq_getElem_cons h,take_succ_cons,take_zero];unfold atR;rw[List.getElem?_eq_getElem h];simp only[Int.toNat_natCast,UInt8.ofNat_toNat]
def zlR (o:Option (List UInt8×Nat)):Option (List UInt8×Nat):=match o with
 |some p=>if Lib.validD p.1=true then some p else none
 |none=>none
theorem zjc {s:List UInt8} {i0:Nat} (hi:i0≤s.length) (mk:Int):∀(n' n j:Nat) (out:List UInt8),(s.drop i0).length≤n+j→s.length<n'+(i0+j) →
    zlR (zoc s (zoa s) mk n' (i0+j) out)=(zht (s.drop i0) mk n j out).map fun p=>(p.1,i0+p.2)
  | 0,n,j,out,h1,h2=>by
    have hl:(s.drop i0).length≤j:=by rw[length_drop];omega
    cases n with
    |zero=>rfl
    |succ n=>simp only[zoc,zht,zlR,if_pos hl];rfl
  | n'+1,0,j,out,h1,h2=>by
    have hl:s.length≤i0+j:=by rw[length_drop]at h1;omega
    simp only[zoc,zht,zlR,if_pos hl]
    rfl
  | n' + 1, n + 1,j,out,h1,h2=>by
    simp only[zoc,zht]
    by_cases hl:s.length≤i0+j
    · rw[if_pos hl,if_pos (show(s.drop i0).length≤j by rw[length_drop];omega)]
      rfl
    · rw [if_neg hl,if_neg (show ¬(s.drop i0).length≤j by rw[length_drop];omega)]
      have ha:atR s (i0+j)=atS (s.drop i0) ((j:Nat):Int):=by rw[zjK,zdI]
      rw[ha]
      simp only[beq_iff_eq]
      by_cases c1:atS (s.drop i0) ((j:Nat):Int)=10
      · rw[if_pos c1,if_pos c1];rfl
      · rw [if_neg c1,if_neg c1]
        by_cases c2:atS (s.drop i0) ((j:Nat):Int)=mk
        · rw[if_pos c2,if_pos c2]
          simp only[zlR]
          split
          · rw[Option.map_some,Nat.add_assoc]
          · rfl
        · rw [if_neg c2,if_neg c2]
          by_cases c3:atS (s.drop i0) ((j:Nat):Int)=92
          · rw [if_pos c3,if_pos c3,zrg (by omega),show s.drop (i0+j+1)=(s.drop i0).drop (j+1)from by rw[drop_drop,Nat.add_assoc]]
            cases ziJ ((s.drop i0).drop (j+1))with
            |none=>rfl
            | some p=>
              have:=zjc hi mk n' n (j+1+p.2) (out++p.1) (by omega) (by omega)
              simp only[Option.map_some]
              rw[show i0+j+1+p.2=i0+(j+1+p.2)from by omega]
              exact this
          · rw[if_neg c3,if_neg c3,zmT (by omega),ha]
            exact zjc hi mk n' n (j+1) _ (by omega) (by omega)
theorem zkp {s:List UInt8}{i:Nat}(hi:i≤s.length)(mk:Int):zlR (zes s mk i)=(zb0 (s.drop i) mk).map fun p=>(p.1,i+p.2):=zjc hi mk _ _ 1 [] (by omega) (by omega)
def tkR (o:Nat ⊕ (Int×List UInt8×Nat))(i:Nat):V:=match o with
 | .inr p=>zdz p.1 p.2.1 (i+p.2.2:Nat)
 | .inl e=>zdi e
theorem zsw {s:List UInt8}{i:Nat}(hi:i≤s.length)(mk:Int):zmP (zei (zes s mk i))=tkR (match zb0 (s.drop i) mk with|some p=>.inr (5,p.1,p.2)|none=>.inl 31) i:=by
 have h:=zkp hi mk;cases hq:zes s mk i with
 |none=>
  rw[hq]at h;cases hp:zb0 (s.drop i) mk with
  |none=>rfl
  |some p=>rw[hp]at h;cases h
 |some q=>
  rw[hq]at h;simp only[zlR]at h;unfold zmP zei;simp only;cases hv:Lib.validD q.1 with
  |true=>
   rw[if_pos hv]at h;cases hp:zb0 (s.drop i) mk with
   |none=>rw[hp]at h;cases h
   |some p=>
    rw[hp]at h;have h:=Option.some.inj h;subst h;rfl
  |false=>
   rw[if_neg (by rw[hv];decide)]at h;cases hp:zb0 (s.drop i) mk with
   |none=>rfl
   |some p=>rw[hp]at h;cases h
def rlF (b:ByteArray):Nat→Nat→List Int
 |0,_=>[]
 |n+1,i=>if i<b.size then((Utf8.decode b i).1:Int)::rlF b n (i+(Utf8.decode b i).2)else[]
theorem zmI (b:ByteArray):∀(n i:Nat)(acc:Array Value),(Conv.runesFrom b n i acc).toList=acc.toList++(rlF b n i).map (.int .i32)
 |0,i,acc=>by simp[Conv.runesFrom,rlF]
 |n+1,i,acc=>by
  unfold Conv.runesFrom rlF;split
  ·rw[zmI b n];simp
  ·simp
theorem zmG (b:ByteArray):∀n i,(rlF b n i).length=Lib.runeCountFrom b n i
 |0,_=>rfl
 |n+1,i=>by
  unfold rlF Lib.runeCountFrom;split
  ·rw[length_cons,zmG b n,Nat.add_comm]
  ·rfl
theorem zpZ (l:List UInt8):zc3 l=(rlF ⟨l.toArray⟩ l.length 0).map (.i .i32):=by
 unfold zc3;rw[zmI];simp
theorem zra {s:List UInt8} {i:Nat} (hi:i≤s.length):zn9 (zei (zes s 39 i))=tkR (match zkK (s.drop i)with|some p=>.inr (3,p.1,p.2)|none=>.inl 31) i:=by
  have key : ∀ (l:List UInt8) (e:Nat),(match zc3 l with
      | [.i .i32 r]=>zdz 3 (Lib.itoa (IntKind.i64.wrap r)) e
      |_=>zdi 31)=if Lib.runeCount ⟨l.toArray⟩=1 then zdz 3 (Lib.itoa (IntKind.i64.wrap (Lib.decodeGo ⟨l.toArray⟩).1)) e else zdi 31:=fun l e=>by
    rw[zpZ]
    have hc:(rlF ⟨l.toArray⟩ l.length 0).length=Lib.runeCount ⟨l.toArray⟩:=zmG _ _ _
    rw[←hc]
    cases hl:rlF ⟨l.toArray⟩ l.length 0 with
    |nil=>rfl
    | cons r t =>
      cases t with
      |cons r2 t=>rfl
      |nil=>
        rw[if_pos (show[r].length=1 from rfl)]
        have : r=((Lib.decodeGo ⟨l.toArray⟩).1:Int):=by
          cases l with
          |nil=>cases hl
          | cons c l=>
            simp only[length_cons,rlF]at hl
            split at hl
            · rename_i hlt
              have h1:=(List.cons.inj hl).1
              rw[←h1]
              unfold Lib.decodeGo
              rw[if_neg (by omega)]
            · cases hl
        rw[←this]
        rfl
  have h:=zkp hi 39
  unfold zkK
  cases hq:zes s 39 i with
  | none=>
    rw[hq]at h
    cases hp:zb0 (s.drop i) 39 with
    |none=>rfl
    |some p=>rw[hp]at h;cases h
  | some q=>
    rw[hq]at h
    simp only[zlR]at h
    unfold zn9 zei
    simp only
    cases hv:Lib.validD q.1 with
    | true=>
      rw[if_pos hv]at h
      cases hp:zb0 (s.drop i) 39 with
      |none=>rw[hp]at h;cases h
      | some p=>
        rw[hp]at h
        have h:=Option.some.inj h
        subst h
        rw[if_pos rfl]
        refine(key p.1 (i+p.2)).trans ?_
        simp only
        by_cases h1:Lib.runeCount ⟨p.1.toArray⟩=1
        · rw[if_pos h1,if_pos h1];rfl
        · rw[if_neg h1,if_neg h1];rfl
    | false=>
      rw[if_neg (by rw[hv];decide)]at h
      cases hp:zb0 (s.drop i) 39 with
      |none=>rfl
      |some p=>rw[hp]at h;cases h
theorem zkq (s:List UInt8):∀(n k:Nat),s.length<n+k→k≤s.length→(match zhF s n k with|some j=>(j:Int)-k|none=>-1)=Lib.index (s.drop k) [34,34,34]
 |0,k,h1,h2=>by omega
 |n+1,k,h1,h2=>by
  have hroom:=Lib.index_room (s.drop k) [34,34,34];have hge:=Lib.index_ge (s.drop k) [34,34,34];simp only[zhF];by_cases h3:k+3≤s.length
  ·rw [if_pos h3];have hd:s.drop k=s[k]::s.drop (k+1):=drop_eq_getElem_cons (by omega);have hp:([34,34,34]:List UInt8).isPrefixOf (s.drop k)=((s.take (k+3)).drop k==[34,34,34]):=by
    rw[drop_take,show k+3-k=3 from by omega,Bool.eq_iff_iff,isPrefixOf_iff_prefix,prefix_iff_eq_take,beq_iff_eq];exact eq_comm
   have ih:=zkq s n (k+1) (by omega) (by omega);rw[hd]at hp ⊢;unfold Lib.index;rw[hp];by_cases h4:((s.take (k+3)).drop k==[34,34,34])=true
   ·rw[if_pos h4,if_pos h4];simp
   ·rw[if_neg h4,if_neg h4,←ih];cases hr:zhF s n (k+1)with
    |none=>simp
    |some j=>
     have:=zje s n _ _ hr;simp only[beq_iff_eq];rw[if_neg (by omega)];omega
  ·rw[if_neg h3];simp only;rw[length_drop]at hroom;simp only[length_cons,length_nil]at hroom;omega
theorem zr9 {s:List UInt8}{i:Nat}(h:zbF (s.drop i) [34,34,34]=true):zmP (zh5 s i)=tkR (match zjA (s.drop i)with|some p=>.inr (5,p.1,p.2)|none=>.inl 31) i:=by
 have hlen:=zbv h;rw[length_drop]at hlen;simp only[length_cons,length_nil]at hlen;have hx:=zkq s (s.length+1) (i+3) (by omega) (by omega);unfold zjA zh5;rw[if_pos h,drop_drop,←hx];cases hr:zhF s (s.length+1) (i+3)with
 |none=>
  rw[if_neg (fun h=>absurd (show(0:Int)≤-1 from h.1) (by decide))];rfl
 |some j=>
  have:=zje s _ _ _ hr;simp only;have e:((j:Int)-((i+3:Nat):Int)).toNat=j-(i+3):=by omega
  have e2:zfQ s (i+3) j=(s.drop (i+3)).take (j-(i+3)):=by unfold zfQ;rw[drop_take]
  rw[e,←e2];unfold zmP;simp only;by_cases hv:Lib.validD (zfQ s (i+3) j)=true
  ·rw[if_pos hv,if_pos ⟨by omega,hv⟩];simp only[tkR];rw[show j+3=i+(j-(i+3)+6)from by omega]
  ·rw[if_neg hv,if_neg (fun h=>hv h.2)];rfl
theorem zt4:zi0=kwL:=by kernel_rfl
theorem zuL:sgnL=syL:=by kernel_rfl
/-! Blanks, comments and tokens of the program are those of the reference. -/
theorem zsQ (x:List UInt8):Lib.contains x [10]=x.contains 10:=by
 unfold Lib.contains;rw[Lib.index_one,Lib.contains_iff_indexByte]
theorem zsT:∀L:List UInt8,(if Lib.indexByte L 10<0 then L.length else(Lib.indexByte L 10).toNat)=lnL L
 | []=>rfl
 |b::L=>by
  have ih:=zsT L;have hge:=Lib.indexByte_ge L 10;unfold Lib.indexByte lnL;by_cases hb:(b==10)=true
  ·rw[if_pos hb,if_pos hb];rfl
  ·rw[if_neg hb,if_neg hb,←ih];by_cases h:Lib.indexByte L 10= -1
   ·rw[h];rfl
   ·have h1:¬(Lib.indexByte L 10 == -1)=true:=by rw[beq_iff_eq];exact h
    rw[if_neg h1,if_neg (by omega),if_neg (by omega)];omega
theorem zpD:∀L:List UInt8,(L.take (lnL L)).contains 10=false
 | []=>rfl
 |b::L=>by
  have ih:=zpD L;unfold lnL;by_cases hb:(b==10)=true
  ·rw[if_pos hb];rfl
  ·rw[if_neg hb,take_succ_cons,contains_cons,ih,Bool.or_false];rw[beq_iff_eq]at hb;rw[beq_eq_false_iff_ne];exact fun e=>hb e.symm
theorem zeW {s:List UInt8}{i j e:Nat}(h1:i≤j)(h2:j≤e):(s.take e).drop i=(s.take j).drop i++(s.take e).drop j:=by
 obtain⟨a,rfl⟩:∃a,j=i+a:=⟨j-i,by omega⟩;obtain⟨b,rfl⟩:∃b,e=i+a+b:=⟨e-(i+a),by omega⟩;rw[drop_take,drop_take,drop_take,show i+a+b-i=a+b from by omega,show i+a-i=a from by omega,show i+a+b-(i+a)=b from by omega,take_add,←drop_drop]
theorem zjz {s:List UInt8}{i:Nat}{a b:UInt8}(h:zbF (s.drop i) [a,b]=true):(s.take (i+2)).drop i=[a,b]∧i+2≤s.length:=by
 have hl:=zbv h;rw[length_drop]at hl;simp only[length_cons,length_nil]at hl;simp only[zbF,Bool.and_eq_true,beq_iff_eq]at h;rw[drop_take,show i+2-i=2 from by omega];exact⟨h.2,by omega⟩
theorem zgc (s:List UInt8):∀(n n' i d:Nat) (l:Bool),s.length<n+i→s.length<n'+i→i≤s.length→0<d →
    (∀e,zeU s n' i d=some e→i≤e∧cmF s n i d l=(true,e,l||((s.take e).drop i).contains 10))∧(zeU s n' i d=none→(cmF s n i d l).1=false)
  |0,n',i,d,l,h1,h2,h3,h4=>by omega
  |n+1,0,i,d,l,h1,h2,h3,h4=>by omega
  | n + 1, n' + 1,i,d,l,h1,h2,h3,h4=>by
    simp only[zeU,cmF]
    rw[if_neg (show ¬d=0 by omega),zcC s i _ h3,zcC s i _ h3]
    by_cases c1:zbF (s.drop i) [47,42]=true
    · obtain⟨q1,q2⟩:=zjz c1
      rw[if_pos c1,if_neg (show ¬s.length≤i by omega),if_pos c1]
      obtain⟨a,b⟩:=zgc s n n' (i+2) (d+1) l (by omega) (by omega) q2 (by omega)
      refine⟨fun e he=>?_,b⟩
      obtain⟨a1,a2⟩:=a e he
      refine⟨by omega,?_⟩
      rw[a2,zeW (show i≤i+2 by omega) a1,q1]
      simp
    · rw [if_neg c1,if_neg c1]
      by_cases c2:zbF (s.drop i) [42,47]=true
      · obtain ⟨q1,q2⟩:=zjz c2
        rw[if_pos c2,if_neg (show ¬s.length≤i by omega),if_pos c2]
        by_cases hd:d=1
        · rw[if_pos hd]
          obtain⟨m,rfl⟩:∃m,n=m+1:=⟨n-1,by omega⟩
          subst hd
          refine⟨fun e he=>?_,fun h=>by cases h⟩
          have he:=Option.some.inj he
          subst he
          refine⟨by omega,?_⟩
          rw[q1]
          simp[cmF]
        · rw[if_neg hd]
          obtain⟨a,b⟩:=zgc s n n' (i+2) (d-1) l (by omega) (by omega) q2 (by omega)
          refine⟨fun e he=>?_,b⟩
          obtain⟨a1,a2⟩:=a e he
          refine⟨by omega,?_⟩
          rw[a2,zeW (show i≤i+2 by omega) a1,q1]
          simp
      · rw [if_neg c2]
        by_cases hl:i<s.length
        · rw [if_pos hl,if_neg (show ¬s.length≤i by omega),if_neg c2]
          obtain⟨a,b⟩:=zgc s n n' (i+1) d (l||(atR s i==10)) (by omega) (by omega) (by omega) h4
          refine⟨fun e he=>?_,b⟩
          obtain⟨a1,a2⟩:=a e he
          refine⟨by omega,?_⟩
          rw[a2,zeW (show i≤i+1 by omega) a1,zmT hl]
          have : (atR s i==10)=([UInt8.ofNat (atR s i).toNat].contains 10):=by
            have hr:=zb1 s i
            rw[Bool.eq_iff_iff]
            simp only[beq_iff_eq,contains_cons,contains_nil,Bool.or_false]
            constructor
            · intro h;rw[h];rfl
            · intro h
              have h:=congrArg UInt8.toNat h
              rw[UInt8.toNat_ofNat',Nat.mod_eq_of_lt (by omega)]at h
              have:(10:UInt8).toNat=10:=rfl
              omega
          rw[this,contains_eq_any_beq,contains_eq_any_beq,contains_eq_any_beq,any_append,Bool.or_assoc]
        · rw[if_neg hl,if_pos (show s.length≤i by omega)]
          exact⟨fun e he=>(by cases he),fun _=>rfl⟩
theorem zoT {s:List UInt8}{i:Nat}(h:zbF (s.drop i) [47,42]=true):zeU s (s.length+1) i 0=zeU s s.length (i+2) 1:=by
 simp only[zeU,if_pos h]
theorem zcV (s:List UInt8):∀(n n' i:Nat) (l l2:Bool),s.length<n+i→s.length<n'+i→i≤s.length→match skF s n' i (l2||l)with
    | .inl a=>(zbC s n i l).2.2=a
    | .inr p=>∃l3,zbC s n i l=(p.1,l3,-1)∧p.2=(l2||l3)∧p.1≤s.length
  |0,n',i,l,l2,h1,h2,h3=>by omega
  |n+1,0,i,l,l2,h1,h2,h3=>by omega
  | n + 1, n' + 1, i,l,l2,h1,h2,h3=>by
    simp only[skF,zbC]
    by_cases hl:i<s.length
    · rw [if_pos hl,if_neg (show ¬s.length≤i by omega),zjK]
      by_cases c1:atR s i=10
      · rw[if_pos (by simp[c1]),if_pos (by simp[c1])]
        have ih:=zcV s n n' (i+1) true l2 (by omega) (by omega) (by omega)
        rw[c1]
        rw[show((l2||l)||decide ((10:Int)=10))=(l2||true)from by simp]
        exact ih
      · by_cases c2:atR s i=32∨atR s i=9∨atR s i=13
        · rw[if_pos (by rcases c2 with h|h|h<;>simp[h]),if_neg (by simp[c1]),if_pos (by rcases c2 with h|h|h<;>simp[h])]
          have ih:=zcV s n n' (i+1) l l2 (by omega) (by omega) (by omega)
          rw[show((l2||l)||decide (atR s i=10))=(l2||l)from by simp[c1]]
          exact ih
        · rw [if_neg (by rintro(h|h|h|h);exact c2 (.inl h);exact c2 (.inr (.inl h));exact c2 (.inr (.inr h));exact c1 h),if_neg (by simp[c1]),
            if_neg (by simp only[Bool.or_eq_true,beq_iff_eq];rintro((h|h)|h);exact c2 (.inl h);exact c2 (.inr (.inl h));exact c2 (.inr (.inr h))),
            zcC s i _ h3,zcC s i _ h3]
          unfold zoU
          by_cases c3:zbF (s.drop i) [47,47]=true
          · rw [if_pos c3,if_pos c3]
            have hlen:=zjz c3
            have hln:=zpC (s:=s) (i:=i) (by rw[zcC s i _ h3];exact c3)
            have hle:=zmq (s.drop i)
            rw[length_drop]at hle
            have he:(if Lib.indexByte (s.drop i) 10<0 then s.length else i+(Lib.indexByte (s.drop i) 10).toNat)=i+lnL (s.drop i):=by
              rw[←zsT,length_drop]
              split<;>omega
            rw[he]
            simp only[zkL]
            have hcut:(s.take (i+lnL (s.drop i))).drop i=(s.drop i).take (lnL (s.drop i)):=by rw[drop_take,Nat.add_sub_cancel_left]
            unfold zfQ
            by_cases hv:Lib.validD ((s.take (i+lnL (s.drop i))).drop i)=true
            · rw[if_pos hv,if_pos hv]
              simp only
              rw[zsQ,hcut,zpD,Bool.or_false]
              exact zcV s n n' _ l l2 (by omega) (by omega) (by omega)
            · rw[if_neg hv,if_neg hv]
          · rw [if_neg c3,if_neg c3]
            by_cases c4:zbF (s.drop i) [47,42]=true
            · obtain⟨q1,q2⟩:=zjz c4
              rw[if_pos c4,if_pos c4,zoT c4]
              obtain⟨a,b⟩:=zgc s (s.length+1) s.length (i+2) 1 l (by omega) (by omega) q2 (by omega)
              cases hc:zeU s s.length (i+2) 1 with
              | none=>
                simp only[zkL]
                rw[if_neg (by rw[b hc];decide)]
              | some e=>
                obtain⟨a1,a2⟩:=a e hc
                have hle:=(zhL s (s.length+1) (i+2) 1 l q2).2
                rw[a2]at hle ⊢
                simp only[zkL,if_true]at hle ⊢
                unfold zfQ
                by_cases hv:Lib.validD ((s.take e).drop i)=true
                · rw[if_pos hv,if_pos hv]
                  simp only
                  rw[zsQ,zeW (show i≤i+2 by omega) a1,q1]
                  have ih:=zcV s n n' e (l||((s.take e).drop (i+2)).contains 10) l2 (by omega) (by omega) hle
                  have e9:(([47,42]:List UInt8)++(s.take e).drop (i+2)).contains 10=((s.take e).drop (i+2)).contains 10:=by simp
                  rw[e9,Bool.or_assoc]
                  exact ih
                · rw[if_neg hv,if_neg hv]
            · rw[if_neg c4,if_neg c4]
              exact⟨l,rfl,rfl,h3⟩
    · rw[if_neg hl,if_pos (show s.length≤i by omega)]
      exact⟨l,rfl,rfl,h3⟩
theorem zvZ {s:List UInt8}{i:Nat}:idR s i=i+idR (s.drop i) 0:=by
 have h0:atR s i=atR (s.drop i) 0:=by rw[←zdI,Nat.add_zero]
 unfold idR;rw[h0];split
 ·rfl
 ·simp only[drop_zero,Nat.zero_add];rw[drop_drop];omega
theorem zv3 (y:List UInt8):(kwL.any fun x=>x==y)=kw y:=by
 unfold kw;rw[zt4,contains_eq_any_beq];congr 1;funext x;rw[Bool.eq_iff_iff,beq_iff_eq,beq_iff_eq];exact eq_comm
theorem zuf {s:List UInt8}{i:Nat}(hi:i≤s.length)(best t:List UInt8)(ht:zg4 t≠95):okS s i best t=okP (s.drop i) best t:=by
 unfold okS okP;rw[zcC s i t hi,zdI];have h95:(zg4 t==95)=false:=by rw[beq_eq_false_iff_ne];exact ht
 rw[h95,Bool.or_false];by_cases hl:t.length<(s.drop i).length
 ·rw[show decide (t.length<(s.drop i).length)=true from decide_eq_true hl,Bool.true_and,Bool.not_and]
 ·rw[show decide (t.length<(s.drop i).length)=false from decide_eq_false hl,ziu (by omega),show zcy 0=false from by decide];simp
theorem zmQ {s:List UInt8}{i:Nat}(hi:i≤s.length):∀(L:List (List UInt8))(best:List UInt8),(∀t∈L,zg4 t≠95)→zfK s i L best=sgF (s.drop i) L best
 | [],best,h=>rfl
 |t::L,best,h=>by
  simp only[zfK,sgF];rw[zuf hi best t (h t (by simp))];exact zmQ hi L _ fun t ht=>h t (by simp[ht])
theorem zuK:∀t∈syL,zg4 t≠95:=by decide
theorem zmw {s:List UInt8}{i:Nat}{v:V}(hi:i<s.length)(h:zf6 s i v):v=tkR (zd6 kw zeO (s.drop i)) i:=by
 have h0:atR s i=atS (s.drop i) 0:=by
  have:=zdI s i 0;rw[Nat.add_zero]at this;rw[this];rfl
 unfold zf6 at h;unfold zd6;rw[zvZ]at h;by_cases c1:0<idR (s.drop i) 0
 ·rw[if_pos (by omega)]at h;rw[if_pos c1,h,zv3,drop_take,Nat.add_sub_cancel_left];rfl
 ·rw[if_neg (by omega)]at h;rw[if_neg c1];by_cases c2:0≤zbA (atR s i) 10
  ·rw [if_pos c2]at h;rw[if_pos (by
    rw[zgE,h0]at c2;simp only[Bool.and_eq_true,decide_eq_true_eq];exact c2),zrY (by omega) c2 h]
   cases zeO (s.drop i)<;>rfl
  ·rw [if_neg c2]at h;rw[if_neg (by
    rw[zgE,h0]at c2;simp only[Bool.and_eq_true,decide_eq_true_eq];exact c2)]
   rw[zcC s i _ (by omega),h0]at h;by_cases c3:zbF (s.drop i) [34,34,34]=true
   ·rw [if_pos c3]at h;have h34:atS (s.drop i) 0=34:=by
     have e:s.drop i=s[i]::s.drop (i+1):=drop_eq_getElem_cons hi;have h2:=c3;simp only[zbF,Bool.and_eq_true,beq_iff_eq]at h2;rw[e]at h2;have h2:=(List.cons.inj h2.2).1;rw[e,h2];rfl
    rw[if_neg (by rw[h34];decide),if_pos h34,h,zr9 c3];cases zjA (s.drop i)<;>rfl
   ·rw[if_neg c3]at h;by_cases c4:atS (s.drop i) 0=34
    ·rw[if_pos (by rw[c4];decide)]at h;rw[if_neg (by rw[c4];decide),if_pos c4,h,zsw (by omega)];unfold zjA;rw[if_neg c3];cases zb0 (s.drop i) 34<;>rfl
    ·rw[if_neg (by rw[beq_iff_eq];exact c4)]at h;by_cases c5:atS (s.drop i) 0=39
     ·rw[if_pos (by rw[c5];decide)]at h;rw[if_pos c5,h,zra (by omega)];cases zkK (s.drop i)<;>rfl
     ·rw[if_neg (by rw[beq_iff_eq];exact c5)]at h;rw[if_neg c5,if_neg c4,h];unfold zvo;rw[zmQ (by omega) _ _ zuK,←zuL];by_cases c6:sgF (s.drop i) sgnL []=[]
      ·rw[c6];rfl
      ·rw[if_neg (by rw[beq_iff_eq];exact c6),if_pos (length_pos_iff.2 c6)];simp[tkR]
theorem zuW {x:List UInt8}{e:Nat}(h:zd6 kw zeO x=.inl e):e≠0:=by
 unfold zd6 at h;split at h
 ·cases h
 split at h
 ·split at h
  ·cases h
  ·cases h;decide
 split at h
 ·split at h
  ·cases h
  ·cases h;decide
 split at h
 ·split at h
  ·cases h
  ·cases h;decide
 split at h
 ·cases h
 ·cases h;decide
def zxQ (o:List Tk ⊕ (Nat×Nat)):List Tk ⊕ (Int×Int):=match o with
 | .inl l=>.inl l
 | .inr p=>.inr (p.1,p.2)
theorem zsW {k e c:Int}{t:List UInt8}(h:zdz k t e=zdi c):c=0:=by
 simp only[zdz,zdi,V.tup.injEq,List.cons.injEq,V.i.injEq,true_and,and_true]at h;exact h.2.2.symm
theorem zr0 {k k' e e':Int}{t t':List UInt8}(h:zdz k t e=zdz k' t' e'):k=k'∧t=t'∧e=e':=by
 simp only[zdz,zeQ,V.tup.injEq,List.cons.injEq,V.agg.injEq,V.i.injEq,V.s.injEq,true_and,and_true]at h;exact⟨h.1.1,h.1.2,h.2⟩
theorem zrZ {c c':Int}(h:zdi c=zdi c'):c=c':=by
 simp only[zdi,V.tup.injEq,List.cons.injEq,V.i.injEq,true_and,and_true]at h;exact h
theorem zqj {s:List UInt8}{i:Nat}{acc:List Tk}{r:List Tk ⊕ (Int×Int)}(h:ScanS s i acc r):∀n,s.length<n+i→i≤s.length→r=zxQ (zij s n i (acc.length==0) acc):=by
 induction h with
 | @opn i acc hb=>
  intro n h1 h2;obtain⟨m,rfl⟩:∃m,n=m+1:=⟨n-1,by omega⟩;have hk:=zcV s (s.length+1) (s.length+1) i false (acc.length==0) (by omega) (by omega) h2;rw[Bool.or_false]at hk;simp only[zij,skQ];cases hs:skF s (s.length+1) i (acc.length==0)with
  |inl a=>rw[hs]at hk;rw[hk];rfl
  |inr p=>
   rw[hs]at hk;obtain⟨l3,h3,_⟩:=hk;rw[h3]at hb;simp at hb
 | @done i acc hb he=>
  intro n h1 h2;obtain⟨m,rfl⟩:∃m,n=m+1:=⟨n-1,by omega⟩;have hk:=zcV s (s.length+1) (s.length+1) i false (acc.length==0) (by omega) (by omega) h2;rw[Bool.or_false]at hk;simp only[zij,skQ];cases hs:skF s (s.length+1) i (acc.length==0)with
  |inl a=>rw[hs]at hk;rw[hk]at hb;omega
  |inr p=>
   rw[hs]at hk;obtain⟨l3,h3,_⟩:=hk;rw[h3]at he;simp only at he ⊢;rw[if_pos he];rfl
 | @bad i acc c hb he hc hv=>
  intro n h1 h2;obtain⟨m,rfl⟩:∃m,n=m+1:=⟨n-1,by omega⟩;have hk:=zcV s (s.length+1) (s.length+1) i false (acc.length==0) (by omega) (by omega) h2;rw[Bool.or_false]at hk;simp only[zij,skQ];cases hs:skF s (s.length+1) i (acc.length==0)with
  |inl a=>rw[hs]at hk;rw[hk]at hb;omega
  |inr p=>
   rw[hs]at hk;obtain⟨l3,h3,_⟩:=hk;rw[h3]at he hv ⊢;simp only at he hv ⊢;rw[if_neg (by omega)];have h1:=zmw he hv;cases ht:zd6 kw zeO (s.drop p.1)with
   |inl e=>
    rw[ht]at h1;have:=zrZ h1;subst this;rfl
   |inr q=>
    rw[ht]at h1;exact absurd (zsW h1.symm) hc
 | @step i e acc k t r hb he hv h3 h4 hr ih=>
  intro n h1 h2;obtain⟨m,rfl⟩:∃m,n=m+1:=⟨n-1,by omega⟩;have hk:=zcV s (s.length+1) (s.length+1) i false (acc.length==0) (by omega) (by omega) h2;rw[Bool.or_false]at hk;simp only[zij,skQ];have hge:=fun(x:Nat×Bool)(hs:skF s (s.length+1) i (acc.length==0)=.inr x)=>(zmM s _ i _ x.1 x.2 h2 hs).1;cases hs:skF s (s.length+1) i (acc.length==0)with
  |inl a=>rw[hs]at hk;rw[hk]at hb;omega
  |inr p=>
   have hge:=hge p hs;rw[hs]at hk;obtain⟨l3,e3,e4,_⟩:=hk;rw[e3]at he hv h3 ih;simp only at he hv h3 ih ⊢;rw[if_neg (by omega)];have h1:=zmw he hv;cases ht:zd6 kw zeO (s.drop p.1)with
   |inl c=>
    rw[ht]at h1;have:=zsW h1;exact absurd (by omega) (zuW ht)
   |inr q=>
    rw[ht]at h1;obtain⟨q1,q2,q3⟩:=zr0 h1;have:=ih m (by omega) h4;rw[this,e4,show((acc++[(k,t,((p.1:Nat):Int),l3||((acc.length:Int)==0))]).length==0)=false from by simp];obtain⟨qk,qt,qm⟩:=q;simp only at q1 q2 q3;subst q1 q2;have e5:e=p.1+qm:=by omega
    subst e5;have e6:((acc.length:Int)==0)=(acc.length==0):=by
     rw[Bool.eq_iff_iff,beq_iff_eq,beq_iff_eq];omega
    rw[e6,Bool.or_comm l3]
theorem zkA {s:List UInt8}{r:List Tk ⊕ (Int×Int)}(h:zoi s r):r=if 20000<s.length then .inr (0,16)else zxQ (zij s (s.length+1) 0 true []):=by
 unfold zoi at h;split at h
 ·rename_i hl;rw[if_pos hl];exact h
 ·rename_i hl;rw[if_neg hl];exact zqj h (s.length+1) (by omega) (by omega)
end Go.Ev
