/- strings.Builder: WriteByte, WriteString and String. ValidRune and escape. Trees of quoted. The loop of quoted. quoted. Contracts of the library laid at this program's numbers. character and text. The functions that number chooses an end by. comment. What number comes to; its parts. -/
import Derived.Test.YtmjplflnlggbeaaGreatDoorEYD
import Derived.Test.YtmjplflnlggbeaaGreatDoorEWE2
import Derived.Test.YtmjplflnlggbeaaGreatDoorET41
import Derived.Shelf.Small.Strs
import Derived.Shelf.Utf8.RuneCount
import Derived.Shelf.Strings.Search3
import Derived.Shelf.Unicode.DecodeAny
import Derived.Test.YtmjplflnlggbeaaGreatDoorEEvPart2
namespace Go.Ev
open Go Go.Proofs
set_option linter.unusedSimpArgs false
set_option linter.unusedVariables false
set_option linter.unnecessarySimpa false
open Tryz List
set_option maxRecDepth 100000
theorem zkp (K:zaa)(a b:Option Blk)(n:Nat)(h:n=K.length+1):(K++[a]++[b])[n]? = some b:=by
 subst h;rw[jEb,jPb (by omega),jJc];rfl
theorem zc9 (K:zaa)(a b:Option Blk)(n:Nat)(h:n<K.length):(K++[a]++[b])[n]? = K[n]?:=by
 rw[jEb,jQa h]
theorem zmD (K:zaa)(b:Option Blk)(n:Nat)(h:n=K.length):(K++[b])[n]? = some b:=by
 subst h;simp
theorem zef (K:zaa)(b:Option Blk)(n:Nat)(h:n<K.length):(K++[b])[n]? = K[n]?:=jQa h
def Apt (H:zaa)(n p:Nat):Prop:=p≠n∧p<H.length∧∀a m k,H[n]? = some (some ⟨66,[a,.sl m 1 0 k none],.all⟩)→m≠p
def zoF (H H':zaa)(n:Nat):Prop:=∀p,Apt H n p→H'[p]? = H[p]?∧Apt H' n p
theorem znr {H H':zaa}{n:Nat}{a v:V}(h0:H'[n]? = some (some ⟨66,[a,v],.all⟩))(hv:∀m k,v=.sl m 1 0 k none→H.length≤m∨∃a',H[n]? = some (some ⟨66,[a',.sl m 1 0 k none],.all⟩))(hl:H.length≤H'.length)(hk:∀p,Apt H n p→H'[p]? = H[p]?):zoF H H' n:=fun p hp=>by
 refine⟨hk p hp,hp.1,Nat.lt_of_lt_of_le hp.2.1 hl,fun a' m k h=>?_⟩;rw[h0]at h;simp only[jNa,Blk.mk.injEq,jPa,jLb,jGb]at h;rcases hv m k h.2 with h1|⟨a2,h1⟩
 ·have:=hp.2.1;omega
 ·exact hp.2.2 _ _ _ h1
abbrev CcH (call:zad):Prop:=∀(n:Nat)(a b:V)(H:zaa),H[n]? = some (some ⟨66,[a,b],.all⟩)→(a=.nilp∨a=.ptr n 0)→call 67 [.ptr n 0] H=.val (.tup []) (H.set n (some ⟨66,[.ptr n 0,b],.all⟩))
theorem zyt:∃g,zak prog TT 37 g∧∀(p:Nat×Bs×UInt8)(H:zaa),(Bld H p.1 p.2.1∧p.2.1.length<100000000)→∃H',g [.ptr p.1 0,.i .u8 p.2.2.toNat] H=.val .nili H'∧Bld H' p.1 (p.2.1++[p.2.2])∧zoF H H' p.1:=by
 obtain⟨g1,k1,s1⟩:=zAz;have hC:=ws n0 k1;have hcc:CcH (zad.none.with 67 g1):=fun n a b H h1 h2=>by rw[zan];exact s1 (n,a,b) H ⟨h1,h2⟩
 generalize zad.none.with 67 g1=call at hC hcc;refine zc2 zaf 37 (fun p:Nat×Bs×UInt8=>[.ptr p.1 0,.i .u8 p.2.2.toNat]) (fun p H=>Bld H p.1 p.2.1∧p.2.1.length<100000000) (fun p H r=>∃H',r=.val .nili H'∧Bld H' p.1 (p.2.1++[p.2.2])∧zoF H H' p.1) ?_ ?_
 ·rintro⟨n,l,c⟩ ⟨n',l',c'⟩ H r ⟨h1,_⟩ ⟨h2,_⟩ he hr;simp only[jPa,V.ptr.injEq,V.i.injEq,jLb,jGb,jAd]at he;obtain⟨rfl,hc⟩:=he;have hc:=jBd.1 hc;subst hc;have:=h1.inj h2;simp only at this;subst this;exact hr
 ·rintro⟨n,l,c⟩ H ⟨hb,hl⟩;simp only at hb hl ⊢;have hc:=zkZ c;obtain⟨a,ha,⟨h1,rfl⟩|⟨m,hm,hne,h1,h2⟩⟩:=hb
  ·refine zaA.sym zaf hC (fn:=f37) rfl rfl (by simp[f37]) zy6 (by kernel_rfl) [.un n,.uh H,.uv a,.ui c.toNat] rfl ⟨by rw[zag];rfl,by rw[zag];rfl,trivial⟩ (zaa.set_self h1) ⟨by simp;exact zaa.lt h1,by simp⟩ ?_;have e1:H.set n (some ⟨66,[a,.nils],.all⟩)=H:=(zaa.set_self h1).symm;simp -implicitDefEqProofs only[VC,isR,exU,Ask.den,E.den,O1.den,O2.den,O3.den,SH.den,zat,za9,bD,SB.den,zai,LQ,uu,uW,jOa,jUa,jDa,zbB,e1];refine .inl ⟨_,hcc n a _ H h1 ha,⟨zaa.get_self h1,trivial⟩,by omega,by omega,_,rfl,⟨.ptr n 0,.inr rfl,.inr ⟨(H.set n (some ⟨66,[.ptr n 0,.nils],.all⟩)).length+1,?_,by simp,?_,?_⟩⟩,znr ((zc9 _ _ _ _ (by simp;exact zaa.lt h1)).trans (zaa.get_self (zaa.get_self h1))) ?_ ?_ ?_⟩
   ·have:=zaa.lt h1;simp;omega
   ·refine(zc9 _ _ _ _ (by simp;exact zaa.lt h1)).trans ((zaa.get_self (zaa.get_self h1)).trans ?_);simp
   ·refine(zkp _ _ _ _ (by simp)).trans ?_;simp[zb9]
   ·intro m k e;simp only[V.sl.injEq]at e;left;rw[←e.1];simp
   ·simp
   ·intro p hp;rw[zc9 _ _ _ _ (by simp;exact hp.2.1),jRa (fun e=>hp.1 e.symm),jRa (fun e=>hp.1 e.symm)]
  ·refine zaA.sym zaf hC (fn:=f37) rfl rfl (by simp[f37]) zy7 (by kernel_rfl) [.un n,.uh H,.uv a,.ui c.toNat,.un m,.us l] rfl ⟨by rw[zag];rfl,by rw[zag];rfl,trivial⟩ ?_ ⟨by simp;exact⟨zaa.lt h1,zaa.lt h2⟩,by simp;exact fun e=>hm e.symm⟩ ?_
   ·show H=(H.set m (some ⟨5,zb9 l,.more⟩)).set n (some ⟨66,[a,.sl m 1 0 l.length none],.all⟩);rw[←zaa.set_self h2,←zaa.set_self h1]
   have e1:H.set n (some ⟨66,[a,.sl m 1 0 l.length none],.all⟩)=H:=(zaa.set_self h1).symm;have e2:H.set m (some ⟨5,l.map fun c=>.i .u8 c.toNat,.more⟩)=H:=(zaa.set_self h2).symm;simp -implicitDefEqProofs only[VC,isR,exU,Ask.den,E.den,O1.den,O2.den,O3.den,SH.den,zat,za9,bD,SB.den,zai,LQ,uu,uW,jOa,jUa,jDa,zbB,e2,e1];have hml:m<(H.set n (some (⟨66,[.ptr n 0,.sl m 1 0 l.length none],.all⟩:Blk))).length:=by simp;exact zaa.lt h2
   refine .inl ⟨_,hcc n a _ H h1 ha,⟨zaa.get_self h1,?_,trivial⟩,by omega,by omega,by omega,by omega,_,rfl,⟨.ptr n 0,.inr rfl,.inr ⟨(H.set n (some ⟨66,[.ptr n 0,.sl m 1 0 l.length none],.all⟩)).length+1,?_,by simp,?_,?_⟩⟩,znr (zc9 _ _ _ _ (by simp;exact zaa.lt h1) |>.trans (zaa.get_self (c:=some ⟨66,[.ptr n 0,.sl m 1 0 l.length none],.all⟩) (by rw[jRa hm];exact zaa.get_self h1))) ?_ ?_ ?_⟩
   ·rw[jRa (fun e=>hm e.symm)];exact h2
   ·have:=zaa.lt h1;simp;omega
   ·refine(zc9 _ _ _ _ (by simp;exact zaa.lt h1)).trans (zaa.get_self (c:=some ⟨66,[.ptr n 0,.sl m 1 0 l.length none],.all⟩) ?_ |>.trans ?_)
    ·rw[jRa hm];exact zaa.get_self h1
    ·simp
   ·refine(zkp _ _ _ _ (by simp)).trans ?_;simp[zb9]
   ·intro m' k e;simp only[V.sl.injEq]at e;left;rw[←e.1];simp
   ·simp
   ·intro p hp;have hmp:=hp.2.2 _ _ _ h1;rw[zc9 _ _ _ _ (by simp;exact hp.2.1),jRa (fun e=>hp.1 e.symm),jRa hmp,jRa (fun e=>hp.1 e.symm)]
theorem zyH:zaQ TT shp 14 [] (zae f39) [] ⟨[(0,.f1 (.ptr 0) (.va 0))],⟨.va 1,[(.va 0,some ⟨66,.f2 .cons (.va 2) (.f2 .cons (.f2 (.sl 1) (.va 3) (.f1 .lenS (.va 4))) .nil),.all⟩),(.va 3,some ⟨5,.f2 .cons (.cv (.tup [])) (.f1 .bys (.va 4)),.map⟩)],[]⟩,5,[]⟩ (KF TT f39 [])=.need (xL c0 (xl v4)) (.need (xE (xl v4) (xc 1099511627776)) (.fin (xs v4) ⟨v1,[(v0,xk 66 (x2 v2 (.f2 (.sl 1) v3 (xl v4)))),(v3,some ⟨5,.f2 .cons (.cv (.tup [])) (xy v4),.map⟩)],[]⟩)):=by kernel_rfl
def zk2 (H:zaa)(n:Nat)(l:Bs):Prop:=
 ∃a,(H[n]? = some (some ⟨66,[a,.nils],.all⟩)∧l=[])∨∃m,m≠n∧l≠[]∧H[n]? = some (some ⟨66,[a,.sl m 1 0 l.length none],.all⟩)∧(H[m]? = some (some ⟨5,zb9 l,.more⟩)∨H[m]? = some (some ⟨5,.tup []::zb9 l,.map⟩))
theorem Bld.read {H:zaa}{n:Nat}{l:Bs}(h:Bld H n l):zk2 H n l:=by
 obtain⟨a,_,h|⟨m,h1,h2,h3,h4⟩⟩:=h
 ·exact⟨a,.inl h⟩
 ·exact⟨a,.inr ⟨m,h1,h2,h3,.inl h4⟩⟩
theorem zk2.inj {H:zaa}{n:Nat}{l l':Bs}(h:zk2 H n l)(h':zk2 H n l'):l=l':=by
 obtain⟨a,⟨h1,rfl⟩|⟨m,h1,h2,h3,h4⟩⟩:=h
 ·obtain⟨a',⟨_,rfl⟩|⟨m',_,_,h3',_⟩⟩:=h'
  ·rfl
  ·rw[h1]at h3';simp at h3'
 ·obtain⟨a',⟨h1',rfl⟩|⟨m',_,_,h3',h4'⟩⟩:=h'
  ·rw[h3]at h1';simp at h1'
  ·rw[h3]at h3';simp only[jNa,Blk.mk.injEq,jPa,V.sl.injEq,jLb,jGb]at h3';obtain⟨_,rfl,_⟩:=h3';rcases h4 with h4|h4<;>rcases h4' with h4'|h4'<;>rw[h4]at h4'
   ·simp only[jNa,Blk.mk.injEq,jLb,jGb]at h4';exact zgd h4'
   ·simp at h4'
   ·simp at h4'
   ·simp only[jNa,Blk.mk.injEq,jPa,jLb,jGb]at h4';exact zgd h4'
theorem zyq:∃g,zak prog TT 39 g∧∀(p:Nat×Bs)(H:zaa),(zk2 H p.1 p.2∧p.2.length<100000000)→∃H',g [.ptr p.1 0] H=.val (.s p.2) H'∧zk2 H' p.1 p.2:=by
 refine zc2 zaf 39 (fun p:Nat×Bs=>[.ptr p.1 0]) (fun p H=>zk2 H p.1 p.2∧p.2.length<100000000) (fun p H r=>∃H',r=.val (.s p.2) H'∧zk2 H' p.1 p.2) ?_ ?_
 ·rintro⟨n,l⟩ ⟨n',l'⟩ H r ⟨h1,_⟩ ⟨h2,_⟩ he hr;simp only[jPa,V.ptr.injEq,jGb]at he;subst he;have:=h1.inj h2;simp only at this;subst this;exact hr
 ·rintro⟨n,l⟩ H ⟨hb,hl⟩;simp only at hb hl ⊢;obtain⟨a,⟨h1,rfl⟩|⟨m,hm,hne,h1,h2⟩⟩:=hb
  ·refine zaA.sym zaf n0 (fn:=f39) rfl rfl (by simp[f39]) zyF (by kernel_rfl) [.un n,.uh H,.uv a] rfl ⟨by rw[zag];rfl,trivial⟩ (zaa.set_self h1) ⟨by simp;exact zaa.lt h1,by simp⟩ ?_;have e1:H.set n (some ⟨66,[a,.nils],.all⟩)=H:=(zaa.set_self h1).symm;simp -implicitDefEqProofs only[VC,isR,exU,Ask.den,E.den,O1.den,O2.den,O3.den,SH.den,zat,za9,bD,SB.den,zai,LQ,uu,uW,jOa,jUa,jDa,e1];exact⟨H,rfl,a,.inl ⟨h1,rfl⟩⟩
  ·have hl0:0<l.length:=jEc.2 hne;rcases h2 with h2|h2
   ·refine zaA.sym zaf n0 (fn:=f39) rfl rfl (by simp[f39]) zyG (by kernel_rfl) [.un n,.uh H,.uv a,.un m,.us l] rfl ⟨by rw[zag];rfl,trivial⟩ ?_ ⟨by simp;exact⟨zaa.lt h1,zaa.lt h2⟩,by simp;exact fun e=>hm e.symm⟩ ?_
    ·show H=(H.set m (some ⟨5,zb9 l,.more⟩)).set n (some ⟨66,[a,.sl m 1 0 l.length none],.all⟩);rw[←zaa.set_self h2,←zaa.set_self h1]
    simp -implicitDefEqProofs only[VC,isR,exU,Ask.den,E.den,O1.den,O2.den,O3.den,SH.den,zat,za9,bD,SB.den,zai,LQ,uu,uW,jOa,jUa,jDa];refine⟨by omega,by omega,_,rfl,a,.inr ⟨m,hm,hne,?_,.inr ?_⟩⟩
    ·exact zaa.get_self (c:=some ⟨66,[a,.sl m 1 0 l.length none],.all⟩) (by rw[jRa hm];exact h1)
    ·rw[jRa (fun e=>hm e.symm),zaa.get_self h2];rfl
   ·refine zaA.sym zaf n0 (fn:=f39) rfl rfl (by simp[f39]) zyH (by kernel_rfl) [.un n,.uh H,.uv a,.un m,.us l] rfl ⟨by rw[zag];rfl,trivial⟩ ?_ ⟨by simp;exact⟨zaa.lt h1,zaa.lt h2⟩,by simp;exact fun e=>hm e.symm⟩ ?_
    ·show H=(H.set m (some ⟨5,.tup []::zb9 l,.map⟩)).set n (some ⟨66,[a,.sl m 1 0 l.length none],.all⟩);rw[←zaa.set_self h2,←zaa.set_self h1]
    have e1:H.set n (some ⟨66,[a,.sl m 1 0 l.length none],.all⟩)=H:=(zaa.set_self h1).symm;have e2:H.set m (some ⟨5,.tup []::l.map fun c=>.i .u8 c.toNat,.map⟩)=H:=(zaa.set_self h2).symm;simp -implicitDefEqProofs only[VC,isR,exU,Ask.den,E.den,O1.den,O2.den,O3.den,SH.den,zat,za9,bD,SB.den,zai,LQ,uu,uW,jOa,jUa,jDa,e2,e1];exact⟨by omega,by omega,H,rfl,a,.inr ⟨m,hm,hne,h1,.inr h2⟩⟩
theorem zyr:∃g,zak prog TT 38 g∧∀(p:Nat×Bs×Bs)(H:zaa),(Bld H p.1 p.2.1∧p.2.1.length+p.2.2.length<100000000)→∃H',g [.ptr p.1 0,.s p.2.2] H=.val (.tup [.i .i64 p.2.2.length,.nili]) H'∧Bld H' p.1 (p.2.1++p.2.2)∧zoF H H' p.1:=by
 obtain⟨g1,k1,s1⟩:=zAz;have hC:=ws n0 k1;have hcc:CcH (zad.none.with 67 g1):=fun n a b H h1 h2=>by rw[zan];exact s1 (n,a,b) H ⟨h1,h2⟩
 generalize zad.none.with 67 g1=call at hC hcc;refine zc2 zaf 38 (fun p:Nat×Bs×Bs=>[.ptr p.1 0,.s p.2.2]) (fun p H=>Bld H p.1 p.2.1∧p.2.1.length+p.2.2.length<100000000) (fun p H r=>∃H',r=.val (.tup [.i .i64 p.2.2.length,.nili]) H'∧Bld H' p.1 (p.2.1++p.2.2)∧zoF H H' p.1) ?_ ?_
 ·rintro⟨n,l,c⟩ ⟨n',l',c'⟩ H r ⟨h1,_⟩ ⟨h2,_⟩ he hr;simp only[jPa,V.ptr.injEq,V.s.injEq,jLb,jGb]at he;obtain⟨rfl,rfl⟩:=he;have:=h1.inj h2;simp only at this;subst this;exact hr
 ·rintro⟨n,l,s⟩ H ⟨hb,hl⟩;simp only at hb hl ⊢;obtain⟨a,ha,⟨h1,rfl⟩|⟨m,hm,hne,h1,h2⟩⟩:=hb
  ·refine zaA.sym zaf hC (fn:=f38) rfl rfl (by simp[f38]) zy9 (by kernel_rfl) [.un n,.uh H,.uv a,.us s] rfl ⟨by rw[zag];rfl,by rw[zag];rfl,trivial⟩ (zaa.set_self h1) ⟨by simp;exact zaa.lt h1,by simp⟩ ?_;have e1:H.set n (some ⟨66,[a,.nils],.all⟩)=H:=(zaa.set_self h1).symm;simp -implicitDefEqProofs only[VC,isR,exU,Ask.den,E.den,O1.den,O2.den,O3.den,SH.den,zat,za9,bD,SB.den,zai,LQ,uu,uW,jOa,jUa,jDa,zbB,e1];have hl:s.length<100000000:=by simpa using hl
   refine .inl ⟨_,hcc n a _ H h1 ha,⟨zaa.get_self h1,trivial⟩,fun h0=>?_,fun h0=>⟨by omega,by omega,_,rfl,⟨.ptr n 0,.inr rfl,.inr ⟨(H.set n (some ⟨66,[.ptr n 0,.nils],.all⟩)).length,?_,?_,?_,?_⟩⟩,znr ((zef _ _ _ (by simp;exact zaa.lt h1)).trans (zaa.get_self (zaa.get_self h1))) (fun m k e=>?_) (by simp) fun p hp=>?_⟩⟩
   ·have hs:s=[]:=jRb (by omega);refine⟨_,rfl,⟨.ptr n 0,.inr rfl,.inl ⟨zaa.get_self (zaa.get_self h1),by simp[hs]⟩⟩,znr (zaa.get_self (zaa.get_self h1)) (fun m k e=>by cases e) (by simp) fun p hp=>?_⟩;rw[jRa (fun e=>hp.1 e.symm),jRa (fun e=>hp.1 e.symm)]
   ·have:=zaa.lt h1;simp;omega
   ·intro e;exact h0 (by rw[show s=[]from e];rfl)
   ·refine(zef _ _ _ (by simp;exact zaa.lt h1)).trans ((zaa.get_self (zaa.get_self h1)).trans ?_);simp
   ·refine(zmD _ _ _ (by simp)).trans ?_;simp[zb9]
   ·simp only[V.sl.injEq]at e;left;rw[←e.1];simp
   ·rw[zef _ _ _ (by simp;exact hp.2.1),jRa (fun e=>hp.1 e.symm),jRa (fun e=>hp.1 e.symm)]
  ·refine zaA.sym zaf hC (fn:=f38) rfl rfl (by simp[f38]) zza (by kernel_rfl) [.un n,.uh H,.uv a,.us s,.un m,.us l] rfl ⟨by rw[zag];rfl,by rw[zag];rfl,trivial⟩ ?_ ⟨by simp;exact⟨zaa.lt h1,zaa.lt h2⟩,by simp;exact fun e=>hm e.symm⟩ ?_
   ·show H=(H.set m (some ⟨5,zb9 l,.more⟩)).set n (some ⟨66,[a,.sl m 1 0 l.length none],.all⟩);rw[←zaa.set_self h2,←zaa.set_self h1]
   have e1:H.set n (some ⟨66,[a,.sl m 1 0 l.length none],.all⟩)=H:=(zaa.set_self h1).symm;have e2:H.set m (some ⟨5,l.map fun c=>.i .u8 c.toNat,.more⟩)=H:=(zaa.set_self h2).symm;simp -implicitDefEqProofs only[VC,isR,exU,Ask.den,E.den,O1.den,O2.den,O3.den,SH.den,zat,za9,bD,SB.den,zai,LQ,uu,uW,jOa,jUa,jDa,zbB,e2,e1];have hmm:(H.set n (some (⟨66,[.ptr n 0,.sl m 1 0 l.length none],.all⟩:Blk)))[m]? = some (some ⟨5,zb9 l,.more⟩):=by rw[jRa (fun e=>hm e.symm)];exact h2
   refine .inl ⟨_,hcc n a _ H h1 ha,⟨zaa.get_self h1,hmm,trivial⟩,by omega,by omega,fun h0=>?_,fun h0=>⟨_,rfl,⟨.ptr n 0,.inr rfl,.inr ⟨(H.set n (some ⟨66,[.ptr n 0,.sl m 1 0 l.length none],.all⟩)).length,?_,?_,?_,?_⟩⟩,znr ((zef _ _ _ (by simp;exact zaa.lt h1)).trans (zaa.get_self (c:=some ⟨66,[.ptr n 0,.sl m 1 0 l.length none],.all⟩) (by rw[jRa hm];exact zaa.get_self h1))) (fun m' k e=>?_) (by simp) fun p hp=>?_⟩⟩
   ·have hs:s=[]:=jRb (by omega);subst hs;refine⟨_,rfl,⟨.ptr n 0,.inr rfl,.inr ⟨m,hm,by simpa using hne,?_,?_⟩⟩,znr (zaa.get_self (c:=some ⟨66,[.ptr n 0,.sl m 1 0 l.length none],.all⟩) (by rw[jRa hm];exact zaa.get_self h1)) (fun m' k e=>?_) (by simp) fun p hp=>?_⟩
    ·refine(zaa.get_self (c:=some ⟨66,[.ptr n 0,.sl m 1 0 l.length none],.all⟩) ?_).trans ?_
     ·rw[jRa hm];exact zaa.get_self h1
     ·simp
    ·rw[jRa (fun e=>hm e.symm),zaa.get_self hmm];simp[zb9]
    ·right;refine⟨a,?_⟩;rw[←e];simpa using h1
    ·have hmp:=hp.2.2 _ _ _ h1;rw[jRa (fun e=>hp.1 e.symm),jRa hmp,jRa (fun e=>hp.1 e.symm)]
   ·have:=zaa.lt h1;simp;omega
   ·simp[hne]
   ·refine(zef _ _ _ (by simp;exact zaa.lt h1)).trans ((zaa.get_self (c:=some ⟨66,[.ptr n 0,.sl m 1 0 l.length none],.all⟩) ?_).trans ?_)
    ·rw[jRa hm];exact zaa.get_self h1
    ·simp
   ·refine(zmD _ _ _ (by simp)).trans ?_;simp[zb9]
   ·simp only[V.sl.injEq]at e;left;rw[←e.1];simp
   ·have hmp:=hp.2.2 _ _ _ h1;rw[zef _ _ _ (by simp;exact hp.2.1),jRa (fun e=>hp.1 e.symm),jRa hmp,jRa (fun e=>hp.1 e.symm)]
def vrR (c:Int):Bool:=(decide (0≤c)&&decide (c<55296))||(decide (57343<c)&&decide (c≤1114111))
theorem zAm:zaQ TT shp 17 [] (zae f116) [] ⟨[(0,.f1 (.vi .i32) (.va 0))],⟨.va 1,[],[]⟩,2,[]⟩ (KF TT f116 [])=let qb:SH:=⟨v1,[],[]⟩;let qd:Tree:=.fin (xb (.cb true)) qb;let qc:Tree:=.fin (xb (.cb false)) qb;let qa:Tree:=.ite (xL (xc 57343) v0) (.ite (xE v0 (xc 1114111)) qd qc) qc;.ite (xE c0 v0) (.ite (xL v0 (xc 55296)) qd qa) qa:=by kernel_rfl
theorem zz8:∃g,zak prog TT 116 g∧∀c:Int,True→∀H,g [.i .i32 c] H=(Res.val (.b (vrR c))).at H:=by
 refine zbC zaf zao 116 (fun c:Int=>[.i .i32 c]) (fun _=>True) (fun c=>.val (.b (vrR c))) (fun _ _=>⟨rfl,rfl⟩)
  (fun a b _ _ h=>by
   simp only[jPa,V.i.injEq,jLb,jGb]at h;rw[h]) fun c _=>?_
 refine zaA.sym zaf n0 (fn:=f116) rfl rfl (by simp[f116]) zAm (by kernel_rfl) [.ui c,.uh []] rfl ⟨by rw[zag];rfl,trivial⟩ rfl (zaC _ _) ?_;simp -implicitDefEqProofs only[VC,isR,exU,Ask.den,E.den,O1.den,O2.den,O3.den,SH.den,zat,za9,bD,SB.den,zai,LQ,uu,uW,jOa,jUa,jDa];repeat' (first|refine And.intro ?_ ?_|intro _)
 all_goals first
  |(exfalso;omega)
  |rw[show vrR c=true from by simp[vrR];omega]
  |rw[show vrR c=false from by simp[vrR];omega]
def zoC (s:Bs):Nat→Nat→Nat→Option Nat
 |0,_,c=>some c
 |n+1,i,c=>if zbT (atS s i)<16 then zoC s n (i+1) (16*c+(zbT (atS s i)).toNat)else none
def zrx (l c:Nat):Option (Bs×Nat):=if c≤1114111∧vrR c=true∧(2<l∨c<128)then some ((Utf8.encode c).data.toList,1+l)else none
theorem zi4 (l c:Nat)(h1:c≤1114111)(h2:vrR c=true)(h3:2<l∨c<128):zrx l c=some ((Utf8.encode c).data.toList,1+l):=by
 unfold zrx;rw[if_pos ⟨h1,h2,h3⟩]
theorem zgj (l c:Nat)(h:¬(c≤1114111∧vrR c=true∧(2<l∨c<128))):zrx l c=none:=by
 unfold zrx;rw[if_neg h]
def ziX (s:Bs):Option (Bs×Nat):=if s=[]then none else match plT (atS s 0)with
 |some x=>some (x,1)
 |none=>if 0<loT (atS s 0)∧loT (atS s 0)<s.length then(match zoC s (loT (atS s 0)) 1 0 with
  |some c=>zrx (loT (atS s 0)) c
  |none=>none)else none
def zaJ (o:Option (Bs×Nat))(at_:Int):Res:=match o with
 |some p=>.val (.tup [.s p.1,.i .i64 (p.2:Nat)])
 |none=>.pan (zcu 31 at_)
theorem zwn (c:Int)(h0:0≤c)(h1:c<256):0≤zbT c∧zbT c<100:=by
 unfold zbT zln;repeat' split
 all_goals omega
theorem w32 (c:Nat)(h:c≤1114111):IntKind.i32.wrap (c:Int)=(c:Int):=by
 have e:(2:Int)^IntKind.i32.bits=4294967296:=rfl;have e2:(2:Int)^(IntKind.i32.bits-1)=2147483648:=rfl;simp only[IntKind.wrap,e,e2,IntKind.signed,jSd,jTa];split<;>omega
theorem zwN (s:Bs)(i:Int):0≤atS s i∧atS s i<256:=by
 unfold atS;split
 ·have:=UInt8.toNat_lt ‹UInt8›;omega
 ·omega
theorem zv8:zaQ TT shp 85 [] (zae f100) [] ⟨[(0,.f1 .vs (.va 0)),(1,.f1 (.vi .i64) (.va 1))],⟨.va 2,[],[]⟩,3,[]⟩ (KF TT f100 [0,1,9,10,11])=let qf:E:=xi (xc 31);let qe:E:=.cv (.tup []);let qa:E:=.f2 .cons (xu (xc 110)) (.f2 .cons (xs (.cs [10])) (.f2 .cons (xu (xc 116)) (.f2 .cons (xs (.cs [9])) (.f2 .cons (xu (xc 114)) (.f2 .cons (xs (.cs [13])) (.f2 .cons (xu (xc 48)) (.f2 .cons (xs (.cs [0])) (.f2 .cons (xu (xc 92)) (.f2 .cons (xs (.cs [92])) (x4 (xu (xc 34)) (xs (.cs [34])) (xu (xc 39)) (xs (.cs [39]))))))))))));let qd:SH:=⟨v2,[],[some ⟨172,qa,.map⟩]⟩;let qb:SH:=⟨v2,[],[some ⟨172,qa,.map⟩,some ⟨173,.f2 .cons (xu (xc 120)) (.f2 .cons (xi c2) (x4 (xu (xc 117)) (xi (xc 4)) (xu (xc 85)) (xi (xc 6)))),.map⟩]⟩;let qc:Tree:=.leaf (.stop [tt,tt,tt,tt,tt,tt,tt,ff,tt,ff]) [(0,xs v0),(1,xi v1),(9,xi v5),(10,xv c0),(11,xi c1)] qb;.asks (.call 55 (x3 (xb (.f2 .neS v0 (.cs []))) qf (xi v1))) [] qe (.need (xL c0 (xl v0)) (.ask (.lookup 172 (xm (xN (xh v2) (.cn 0))) (xu (xA v0 c0)) true) qd [.s,.b] (xt (x2 (xs v3) (xb v4))) false (.ite v4 (.fin (xt (x2 (xs v3) (xi c1))) qd) (.ask (.lookup 173 (xm (xN (xh v2) (.cn 1))) (xu (xA v0 c0)) false) qb [.i] (xi v5) false (.ite (xG v5 c0) (.asks (.call 55 (x3 (xb (xG (xl v0) v5)) qf (xi v1))) [] qe qc (.pnc v6 qb)) (.asks (.call 55 (x3 (xb (.cb false)) qf (xi v1))) [] qe qc (.pnc v6 qb))) (.stuck 0))) (.stuck 0))) (.pnc v3 ⟨v2,[],[]⟩):=by kernel_rfl
theorem zrp:goT TT shp 85 [] [tt,tt,tt,tt,tt,tt,tt,ff,tt,ff,ff] (zae f100) [] ⟨[(0,.f1 .vs (.va 0)),(1,.f1 (.vi .i64) (.va 1)),(9,.f1 (.vi .i64) (.va 3)),(10,.f1 (.vi .u64) (.va 4)),(11,.f1 (.vi .i64) (.va 5))],⟨.va 2,[],[]⟩,6,[]⟩ (KF TT f100 [0,1,9,10,11])=let qd:E:=xi (xc 31);let qf:E:=xi v1;let qc:E:=.cv (.tup []);let qb:SH:=⟨v2,[],[]⟩;let qg:E:=.f1 (.wrap .i32) v4;let qa:Tree:=.fin (xt (x2 (xs (.f1 .enc qg)) (xi (xw (xa c1 v3))))) qb;let qh:Tree:=.pnc v7 qb;let qe:E:=x3 (xb (.cb false)) qd qf;.ite (xE v5 v3) (.need (xE c0 v5) (.need (xL v5 (xl v0)) (.asks (.call 94 (x2 (xu (xA v0 v5)) (xi (xc 16)))) [.i,.b] (xt (x2 (xv v6) (xb v7))) (.asks (.call 55 (x3 (xb v7) qd qf)) [] qc (.leaf (.again [tt,tt,tt,tt,tt,tt,tt,ff,tt,ff,ff]) [(0,xs v0),(1,qf),(9,xi v3),(10,xv (xz (xa (xz (.f2 .mul (xc 16) v4)) v6))),(11,xi (xw (xa v5 c1)))] qb) (.pnc v8 qb)) (.stuck 0)))) (.ite (xE v4 (xc 1114111)) (.asks (.call 116 (x1 (xj qg))) [.b] (xb v6) (.ite v6 (.ite (xG v3 c2) (.asks (.call 55 (x3 (xb (.cb true)) qd qf)) [] qc qa qh) (.asks (.call 55 (x3 (xb (xL v4 (xc 128))) qd qf)) [] qc qa qh)) (.asks (.call 55 qe) [] qc qa qh)) (.stuck 0)) (.asks (.call 55 qe) [] qc qa (.pnc v6 qb))):=by kernel_rfl
theorem zsk {call:zad}(hC:call.Sound prog TT)(hm:zdO call)(hval:∀c:Int,0≤c→c<256→∀H,call 94 [.i .u8 c,.i .i64 16] H=.val (.tup [.i .u64 (zbT c),.b (decide (zbT c<16))]) H)(hvr:∀c:Int,∀H,call 116 [.i .i32 c] H=.val (.b (vrR c)) H)
 (s:Bs)(at_:Int)(l:Nat)(hl:l=2∨l=4∨l=6)(hs:l<s.length)(hs2:s.length<1100000):∀(n i c:Nat)(t:Tm)(H:zaa),i+n=l+1→1≤i→c<16^(i-1)→t.wid=85→t.get 0=.s s→t.get 1=.i .i64 at_→t.get 9=.i .i64 (l:Nat)→t.get 10=.i .u64 (c:Nat)→t.get 11=.i .i64 (i:Nat) →
 ctx prog TT [tt,tt,tt,tt,tt,tt,tt,ff,tt,ff,ff] (zae f100) (zaF TT f100 (isR (zaJ (match zoC s n i c with|some c=>zrx l c|none=>none) at_))) (.norm t H):=by
 intro n;induction n with
 |zero=>
  intro i c t H hi h1 hc hw t0 t1 t9 t10 t11;refine zaM.symIn (p:=[tt,tt,tt,tt,tt,tt,tt,ff,tt,ff]) zaf hC rfl zrp (by kernel_rfl) [.us s,.ui at_,.uh H,.ui (l:Nat),.ui (c:Nat),.ui (i:Nat)] rfl hw ⟨t0,t1,t9,t10,t11,trivial⟩ rfl (zaC _ _) ?_;clear t0 t1 t9 t10 t11 hw;simp -implicitDefEqProofs only[VC,isR,exU,Ask.den,E.den,O1.den,O2.den,O3.den,SH.den,zat,za9,bD,SB.den,zai,LQ,uu,uW,jOa,jUa,jDa];simp only[zoC];refine⟨fun h=>absurd h (by omega),fun _=>⟨fun h2=>?_,fun h2=>?_⟩⟩
  ·have hc2:c≤1114111:=by omega
   simp only[w32 c hc2];have hw1:IntKind.i64.wrap (1+(l:Int))=((1+l:Nat):Int):=by rw[w64 (by omega) (by omega)];omega
   rw[hw1];refine .inl ⟨_,fun K=>hvr _ K,fun h3=>⟨fun h4=>?_,fun h4=>?_⟩,fun h3=>?_⟩
   ·refine zaU hm _ _ _ (fun _=>?_) (fun h=>by cases h);have:=zi4 l c hc2 h3 (.inl (by omega));rw[this];simp only[zaJ]
   ·refine zaU hm _ _ _ (fun h=>?_) (fun h=>?_)
    ·have h:(c:Int)<128:=by simpa using h
     have:=zi4 l c hc2 h3 (.inr (by omega));rw[this];simp only[zaJ]
    ·have h:¬(c:Int)<128:=by simpa using h
     have:=zgj l c (fun e=>by have:=e.2.2;omega);rw[this];simp only[zaJ]
   ·refine zaU hm _ _ _ (fun h=>by cases h) (fun _=>?_);have:=zgj l c (fun e=>by rw[e.2.1]at h3;cases h3);rw[this];simp only[zaJ]
  ·refine zaU hm _ _ _ (fun h=>by cases h) (fun _=>?_);have:=zgj l c (fun e=>by have:=e.1;omega);rw[this];simp only[zaJ]
 |succ n ih=>
  intro i c t H hi h1 hc hw t0 t1 t9 t10 t11;refine zaM.symIn (p:=[tt,tt,tt,tt,tt,tt,tt,ff,tt,ff]) zaf hC rfl zrp (by kernel_rfl) [.us s,.ui at_,.uh H,.ui (l:Nat),.ui (c:Nat),.ui (i:Nat)] rfl hw ⟨t0,t1,t9,t10,t11,trivial⟩ rfl (zaC _ _) ?_;clear t0 t1 t9 t10 t11 hw;have hu:=zwN s i;have hv:=zwn _ hu.1 hu.2;simp -implicitDefEqProofs only[VC,isR,exU,Ask.den,E.den,O1.den,O2.den,O3.den,SH.den,zat,za9,bD,SB.den,zai,LQ,uu,uW,jOa,jUa,jDa];refine⟨fun _=>⟨by omega,by omega,.inl ⟨_,_,fun K=>hval _ hu.1 hu.2 K,?_⟩⟩,fun h=>absurd (show(i:Int)≤l by omega) h⟩;refine zaU hm _ _ _ (fun h=>?_) (fun h=>?_)
  ·intro t' hw' f0 f1 f9 f10 f11;have h16:zbT (atS s i)<16:=jBc h;simp only[zoC,if_pos h16];obtain⟨v,hv'⟩:∃v:Nat,zbT (atS s i)=v:=⟨(zbT (atS s i)).toNat,by omega⟩;rw[hv']at f10 h16 ⊢;have hlt:16*c+v<16^i:=by
    have e:(16:Nat)^i=16^(i-1)*16:=by rw[←Nat.pow_succ,show(i-1).succ=i from by omega]
    omega
   have hbig:(16:Nat)^i≤16^6:=Nat.pow_le_pow_right (by omega) (by omega);have h6:(16:Nat)^6=16777216:=rfl;refine ih (i+1) (16*c+v) t' H (by omega) (by omega) (by rw[Nat.add_sub_cancel];exact hlt) hw' f0 f1 f9 ?_ ?_
   ·rw[f10,IntKind.wrap_u64,IntKind.wrap_u64];congr 1;omega
   ·rw[f11,w64 (by omega) (by omega)];congr 1
  ·have h16:¬zbT (atS s i)<16:=of_decide_eq_false h;simp only[zoC,if_neg h16,zaJ]
theorem zpb {call:zad}(hC:call.Sound prog TT)(hm:zdO call)(hval:∀c:Int,0≤c→c<256→∀H,call 94 [.i .u8 c,.i .i64 16] H=.val (.tup [.i .u64 (zbT c),.b (decide (zbT c<16))]) H)(hvr:∀c:Int,∀H,call 116 [.i .i32 c] H=.val (.b (vrR c)) H)
 (s:Bs)(at_:Int)(hs2:s.length<1100000):zaA prog TT 100 [.s s,.i .i64 at_] [] (isR (zaJ (ziX s) at_)):=by
 refine zaA.sym zaf hC (fn:=f100) rfl rfl (by simp[f100]) zv8 (by kernel_rfl) [.us s,.ui at_,.uh []] rfl ⟨by rw[zag];rfl,by rw[zag];rfl,trivial⟩ rfl (zaC _ _) ?_;simp -implicitDefEqProofs only[VC,isR,exU,Ask.den,E.den,O1.den,O2.den,O3.den,SH.den,zat,za9,bD,SB.den,zai,LQ,uu,uW,jOa,jUa,jDa];refine zaU hm _ _ _ (fun h=>?_) (fun h=>?_)
 ·have hne:s≠[]:=by simpa using h
  have hl0:0<s.length:=jEc.2 hne;refine⟨by omega,.inl ⟨_,_,by rw[zvb (K:=_) rfl];rfl,?_⟩⟩;cases hp:plT (atS s 0)with
  |some x=>
   refine⟨fun _=>?_,fun h=>by cases h⟩;simp only[ziX,if_neg hne,hp,zaJ];rfl
  |none=>
   refine⟨fun h=>(by cases h),fun _=>.inl ⟨_,by rw[zva (K:=_) rfl];rfl,fun h0=>?_,fun h0=>?_⟩⟩
   ·refine zaU hm _ _ _ (fun h1=>?_) (fun h1=>?_)
    ·intro t' hw' f0 f1 f9 f10 f11;have h1:loT (atS s 0)<s.length:=by simp only[zmO]at h1;omega
     have h0:0<loT (atS s 0):=by omega
     have hl:loT (atS s 0)=2∨loT (atS s 0)=4∨loT (atS s 0)=6:=by
      unfold loT at h0 ⊢;repeat' split
      all_goals simp_all
     have e:ziX s=(match zoC s (loT (atS s 0)) 1 0 with|some c=>zrx (loT (atS s 0)) c|none=>none):=by
      simp only[ziX,if_neg hne,hp];rw[if_pos ⟨h0,h1⟩]
     rw[e];exact Tri.symLoop rfl (zsk hC hm hval hvr s at_ (loT (atS s 0)) hl h1 hs2 (loT (atS s 0)) 1 0 t' _ (by omega) (by omega) (by simp) hw' f0 f1 f9 f10 f11)
    ·have h1:¬loT (atS s 0)<s.length:=by simp only[zg9]at h1;omega
     simp only[ziX,if_neg hne,hp];rw[if_neg fun e=>h1 e.2];simp only[zaJ]
   ·refine zaU hm _ _ _ (fun h1=>by cases h1) (fun _=>?_);simp only[ziX,if_neg hne,hp];rw[if_neg fun e=>h0 (by have:=e.1;omega)];simp only[zaJ]
 ·have hne:s=[]:=by simpa using h
  subst hne;simp only[ziX,if_true,zaJ]
theorem zyl:∃g,zak prog TT 100 g∧∀p:Bs×Int,p.1.length<1100000→∀H,g [.s p.1,.i .i64 p.2] H=(zaJ (ziX p.1) p.2).at H:=by
 obtain⟨g1,k1,s1⟩:=zra;obtain⟨g2,k2,s2⟩:=zd3;obtain⟨g3,k3,s3⟩:=zz8;refine zbC zaf zao 100 (fun p:Bs×Int=>[.s p.1,.i .i64 p.2]) _ (fun p=>zaJ (ziX p.1) p.2) (fun p _=>⟨rfl,by unfold zaJ;split<;>rfl⟩)
  (fun a b _ _ h=>by
   simp only[jPa,V.s.injEq,V.i.injEq,jLb,jGb]at h;rw[h.1,h.2]) fun p hp=>?_
 exact zpb (ws (ws (ws n0 k1) k2) k3) (fun b e k H=>by rw[zac _ _ _ _ rfl,zan];exact s2 b e k H) (fun c h0 h1 H=>by rw[zac _ _ _ _ rfl,zac _ _ _ _ rfl,zan];exact s1 c 16 h0 h1 (by simp) H) (fun c H=>by rw[zan];exact s3 c trivial H) p.1 p.2 hp
theorem zwh:zaQ TT shp 60 [] (zae f80) [] ⟨[(0,.f1 .vs (.va 0)),(1,.f1 (.vi .u8) (.va 1)),(2,.f1 (.vi .i64) (.va 2))],⟨.va 3,[],[]⟩,4,[]⟩ (KF TT f80 [0,1,2,8,9])=.leaf (.stop [tt,tt,tt,ff]) [(0,xs v0),(1,xu v1),(2,xi v2),(8,xp (xN (xh v3) (.cn 0))),(9,xi c1)] ⟨v3,[],[xk 66 (x2 (.cv .nilp) (.cv .nils))]⟩:=by kernel_rfl
theorem zwi:goT TT shp 60 [] [tt,tt,tt,ff,ff] (zae f80) [] ⟨[(0,.f1 .vs (.va 0)),(1,.f1 (.vi .u8) (.va 1)),(2,.f1 (.vi .i64) (.va 2)),(8,.f1 (.ptr 0) (.cn 0)),(9,.f1 (.vi .i64) (.va 4))],⟨.va 3,[],[]⟩,5,[]⟩ (KF TT f80 [0,1,2,8,9])=let qh:E:=xA v0 v4;let qj:E:=xi (xc 31);let qg:E:=xi v2;let qf:E:=.cv (.tup []);let qd:E:=xp (.cn 0);let qb:SH:=⟨v3,[],[]⟩;let qi:SH:=⟨v5,[],[]⟩;let qc:E:=xw (xa v4 c1);let qe:Tree:=.stuck 0;let qk:Tree:=.pnc v5 qb;let qa:Tree:=.ite (xe qh v1) (.ask (.call 39 (x1 qd)) qb [.s] (xs v6) true (.asks (.call 36 (x1 (xs v6))) [.b] (xb v7) (.asks (.call 55 (x3 (xb v7) qj qg)) [] qf (.ask (.call 39 (x1 qd)) qi [.s] (xs v9) true (.fin (xt (x2 (xs v9) (xi qc))) ⟨v8,[],[]⟩) qe) (.pnc v8 qi)) qe) qe) (.ite (xe qh (xc 92)) (.need (xE c0 qc) (.need (xE qc (xl v0)) (.asks (.call 100 (x2 (xs (.f3 .sub v0 qc (xl v0))) qg)) [.s,.i] (xt (x2 (xs v5) (xi v6))) (.ask (.call 38 (x2 qd (xs v5))) qb [.i] (xt (x2 (xi v8) (.cv .nili))) true (.leaf (.again [tt,tt,tt,ff,ff]) [(0,xs v0),(1,xu v1),(2,qg),(8,qd),(9,xi (xw (xa v4 (xw (xa c1 v6)))))] ⟨v7,[],[]⟩) qe) qk))) (.ask (.call 37 (x2 qd (xu qh))) qb [] (.cv .nili) true (.leaf (.again [tt,tt,tt,ff,ff]) [(0,xs v0),(1,xu v1),(2,qg),(8,qd),(9,xi qc)] qi) qe));.ite (xL v4 (xl v0)) (.need (xE c0 v4) (.asks (.call 55 (x3 (xb (xM qh c10)) qj qg)) [] qf qa qk)) (.asks (.call 55 (x3 (xb (.cb false)) qj qg)) [] qf (.need (xE c0 v4) (.need (xL v4 (xl v0)) qa)) qk):=by kernel_rfl
theorem zuH (c:Int):(Utf8.encode c).data.toList.length≤4:=by
 have h:=zkL c;have e:zdG [c]=(ByteArray.empty++Utf8.encode c).data.toList:=rfl;rw[e,ByteArray.empty_append]at h;exact h
theorem zti {x:Bs}{k:Nat}{p:Bs×Nat}(hx:x.length≤4)(h:some (x,k)=some p):p.2=k∧p.1.length≤4:=by
 have h:=jWa h;subst h;exact⟨rfl,hx⟩
theorem zuR {l c:Nat}{p:Bs×Nat}(h:zrx l c=some p):p.2=1+l∧p.1.length≤4:=by
 by_cases hf:c≤1114111∧vrR c=true∧(2<l∨c<128)
 ·rw[zi4 _ _ hf.1 hf.2.1 hf.2.2]at h;exact zti (zuH _) h
 ·rw[zgj _ _ hf]at h;cases h
theorem zpE (s:Bs)(p:Bs×Nat)(h:ziX s=some p):p.2≤s.length∧p.1.length≤4∧1≤p.2:=by
 unfold ziX at h;split at h
 ·cases h
 ·rename_i hne;have hl0:0<s.length:=jEc.2 hne;split at h
  ·rename_i x hx;cases h;refine⟨by simp only;omega,?_,jDb _⟩;unfold plT at hx;repeat' (split at hx)
   all_goals first
    |(cases hx;simp)
    |cases hx
  ·by_cases hl:0<loT (atS s 0)∧loT (atS s 0)<s.length
   ·rw[if_pos hl]at h;split at h
    ·rename_i c hc;obtain⟨q1,q2⟩:=zuR h;exact⟨by omega,q2,by omega⟩
    ·cases h
   ·rw[if_neg hl]at h;cases h
def zhC (s:Bs)(mk:Int):Nat→Nat→Bs→Option (Bs×Nat)
 |0,_,_=>none
 |n+1,i,out=>if s.length≤i then none else if atS s i=10 then none else if atS s i=mk then(if Lib.validD out=true then some (out,i+1)else none)
  else if atS s i=92 then(match ziX (s.drop (i+1))with
   |some p=>zhC s mk n (i+1+p.2) (out++p.1)
   |none=>none)
  else zhC s mk n (i+1) (out++[UInt8.ofNat (atS s i).toNat])
theorem zga (s:Bs)(i:Nat)(h:i<s.length):∃c:UInt8,atS s i=c.toNat:=by
 unfold atS;rw[jCa,jKa h];exact⟨_,rfl⟩
theorem zsl {call:zad}(hC:call.Sound prog TT)(hm:zdO call)(hesc:∀(x:Bs)(a:Int),x.length<1100000→∀H,call 100 [.s x,.i .i64 a] H=(zaJ (ziX x) a).at H)
 (hwb:∀(n:Nat)(l:Bs)(c:UInt8)(H:zaa),Bld H n l→l.length<100000000→∃H',call 37 [.ptr n 0,.i .u8 c.toNat] H=.val .nili H'∧Bld H' n (l++[c]))
 (hws:∀(n:Nat)(l x:Bs)(H:zaa),Bld H n l→l.length+x.length<100000000→∃H',call 38 [.ptr n 0,.s x] H=.val (.tup [.i .i64 x.length,.nili]) H'∧Bld H' n (l++x))
 (hst:∀(n:Nat)(l:Bs)(H:zaa),zk2 H n l→l.length<100000000→∃H',call 39 [.ptr n 0] H=.val (.s l) H'∧zk2 H' n l)
 (hvs:∀x:Bs,x.length<20000000→∀H,call 36 [.s x] H=.val (.b (Lib.validD x)) H)(s:Bs)(mk at_:Int)(hs:s.length<1100000) :
 ∀(n i:Nat)(out:Bs)(t:Tm)(H:zaa),s.length<n+i→i≤s.length→out.length≤4*i→t.wid=60→t.get 0=.s s→t.get 1=.i .u8 mk→t.get 2=.i .i64 at_→t.get 8=.ptr 0 0→t.get 9=.i .i64 (i:Nat)→Bld H 0 out →
 ctx prog TT [tt,tt,tt,ff,ff] (zae f80) (zaF TT f80 (isR (zaJ (zhC s mk n i out) at_))) (.norm t H):=by
 intro n;induction n with
 |zero=>intro i out t H h1 h2;omega
 |succ n ih=>
  intro i out t H hn hi ho hw t0 t1 t2 t8 t9 hb;refine zaM.symIn (p:=[tt,tt,tt,ff]) zaf hC rfl zwi (by kernel_rfl) [.us s,.ui mk,.ui at_,.uh H,.ui (i:Nat)] rfl hw ⟨t0,t1,t2,t8,t9,trivial⟩ rfl (zaC _ _) ?_;clear t0 t1 t2 t8 t9 hw;simp -implicitDefEqProofs only[VC,isR,exU,Ask.den,E.den,O1.den,O2.den,O3.den,SH.den,zat,za9,bD,SB.den,zai,LQ,uu,uW,jOa,jUa,jDa];have hw1:IntKind.i64.wrap ((i:Int)+1)=((i+1:Nat):Int):=by rw[w64 (by omega) (by omega)];omega
  simp only[hw1];refine⟨fun h=>⟨by omega,?_⟩,fun h=>?_⟩
  ·have hlt:i<s.length:=by omega
   have hnl:¬s.length≤i:=by omega
   obtain⟨c,hc⟩:=zga s i hlt;refine zaU hm _ _ _ (fun h1=>?_) (fun h1=>?_)
   ·have h10:¬atS s i=10:=by simpa using h1
    refine⟨fun h2=>?_,fun h2=>⟨fun h3=>?_,fun h3=>?_⟩⟩
    ·obtain⟨H1,q1,b1⟩:=hst 0 out H hb.read (by omega);refine .inl ⟨out,H1,q1,.inl ⟨_,fun K=>hvs out (by omega) K,?_⟩⟩;refine zaU hm _ _ _ (fun h4=>?_) (fun h4=>?_)
     ·obtain⟨H2,q2,b2⟩:=hst 0 out H1 b1 (by omega);refine .inl ⟨out,H2,q2,?_⟩;simp only[zhC,if_neg hnl,if_neg h10,if_pos h2,h4,if_true,zaJ]
     ·simp only[zhC,if_neg hnl,if_neg h10,if_pos h2,h4,jSa,if_false,zaJ]
    ·refine⟨by omega,by omega,?_⟩;rw[jRd,jCa];rcases hq:ziX (s.drop (i+1))with _|p
     ·refine .inr ⟨zcu 31 at_,fun K=>?_,?_⟩
      ·rw[hesc _ _ (by rw[jJa];omega),hq];rfl
      ·simp only[zhC,if_neg hnl,if_neg h10,if_neg h2,if_pos h3,hq,zaJ]
     ·obtain⟨p1,p2,p3⟩:=zpE _ p hq;rw[jJa]at p1;obtain⟨H1,q1,b1⟩:=hws 0 out p.1 H hb (by omega);refine .inl ⟨p.1,p.2,fun K=>?_,.inl ⟨(p.1.length:Int),?_⟩⟩
      ·rw[hesc _ _ (by rw[jJa];omega),hq];rfl
      ·rw [if_pos trivial];refine⟨H1,q1,?_⟩;intro t' hw' f0 f1 f2 f8 f9;have e:zhC s mk (n+1) i out=zhC s mk n (i+1+p.2) (out++p.1):=by
        simp only[zhC,if_neg hnl,if_neg h10,if_neg h2,if_pos h3,hq]
       have ew:IntKind.i64.wrap ((i:Int)+IntKind.i64.wrap (1+(p.2:Int)))=((i+1+p.2:Nat):Int):=by
        rw[w64 (by rw[w64 (by omega) (by omega)];omega) (by rw[w64 (by omega) (by omega)];omega),w64 (by omega) (by omega)];omega
       rw[ew]at f9;rw[e];exact ih (i+1+p.2) (out++p.1) t' H1 (by omega) (by omega) (by rw[jLa];omega) hw' f0 f1 f2 f8 f9 b1
    ·rw [hc]at h10 h2 h3 ⊢;obtain⟨H1,q1,b1⟩:=hwb 0 out c H hb (by omega);refine .inl ⟨H1,q1,?_⟩;intro t' hw' f0 f1 f2 f8 f9;have e:zhC s mk (n+1) i out=zhC s mk n (i+1) (out++[c]):=by
      simp only[zhC,if_neg hnl,hc,if_neg h10,if_neg h2,if_neg h3,jCa,zgl]
     rw[e];exact ih (i+1) (out++[c]) t' H1 (by omega) (by omega) (by simp;omega) hw' f0 f1 f2 f8 f9 b1
   ·have h10:atS s i=10:=by simpa using h1
    simp only[zhC,if_neg hnl,if_pos h10,zaJ]
  ·have hnl:s.length≤i:=by omega
   refine zaU hm _ _ _ (fun h1=>by cases h1) (fun h1=>?_);simp only[zhC,if_pos hnl,zaJ]
def zbW (s:Bs)(mk:Int):Option (Bs×Nat):=zhC s mk s.length 1 []
theorem zt0:∃g,zak prog TT 80 g∧∀p:Bs×Int×Int,(0<p.1.length∧p.1.length<1100000)→∀H,g [.s p.1,.i .u8 p.2.1,.i .i64 p.2.2] H=(zaJ (zbW p.1 p.2.1) p.2.2).at H:=by
 obtain⟨g1,k1,s1⟩:=zd3;obtain⟨g2,k2,s2⟩:=zyl;obtain⟨g3,k3,s3⟩:=zyt;obtain⟨g4,k4,s4⟩:=zyr;obtain⟨g5,k5,s5⟩:=zyq;obtain⟨g6,k6,s6⟩:=zht;have hC:=ws (ws (ws (ws (ws (ws n0 k1) k2) k3) k4) k5) k6;have c1:zdO ((((((zad.none.with 55 g1).with 100 g2).with 37 g3).with 38 g4).with 39 g5).with 36 g6):=fun b e k H=>by
  rw[zac _ _ _ _ rfl,zac _ _ _ _ rfl,zac _ _ _ _ rfl,zac _ _ _ _ rfl,zac _ _ _ _ rfl,zan];exact s1 b e k H
 have c2:∀(x:Bs)(a:Int),x.length<1100000→∀H,((((((zad.none.with 55 g1).with 100 g2).with 37 g3).with 38 g4).with 39 g5).with 36 g6) 100 [.s x,.i .i64 a] H=(zaJ (ziX x) a).at H:=fun x a hx H=>by
  rw[zac _ _ _ _ rfl,zac _ _ _ _ rfl,zac _ _ _ _ rfl,zac _ _ _ _ rfl,zan];exact s2 (x,a) hx H
 have c3:∀(n:Nat)(l:Bs)(c:UInt8)(H:zaa),Bld H n l→l.length<100000000→∃H',((((((zad.none.with 55 g1).with 100 g2).with 37 g3).with 38 g4).with 39 g5).with 36 g6) 37 [.ptr n 0,.i .u8 c.toNat] H=.val .nili H'∧Bld H' n (l++[c]):=fun n l c H h1 h2=>by
  rw[zac _ _ _ _ rfl,zac _ _ _ _ rfl,zac _ _ _ _ rfl,zan];obtain⟨H',q,b,_⟩:=s3 (n,l,c) H ⟨h1,h2⟩;exact⟨H',q,b⟩
 have c4:∀(n:Nat)(l x:Bs)(H:zaa),Bld H n l→l.length+x.length<100000000→∃H',((((((zad.none.with 55 g1).with 100 g2).with 37 g3).with 38 g4).with 39 g5).with 36 g6) 38 [.ptr n 0,.s x] H=.val (.tup [.i .i64 x.length,.nili]) H'∧Bld H' n (l++x):=fun n l x H h1 h2=>by
  rw[zac _ _ _ _ rfl,zac _ _ _ _ rfl,zan];obtain⟨H',q,b,_⟩:=s4 (n,l,x) H ⟨h1,h2⟩;exact⟨H',q,b⟩
 have c5:∀(n:Nat)(l:Bs)(H:zaa),zk2 H n l→l.length<100000000→∃H',((((((zad.none.with 55 g1).with 100 g2).with 37 g3).with 38 g4).with 39 g5).with 36 g6) 39 [.ptr n 0] H=.val (.s l) H'∧zk2 H' n l:=fun n l H h1 h2=>by
  rw[zac _ _ _ _ rfl,zan];exact s5 (n,l) H ⟨h1,h2⟩
 have c6:∀x:Bs,x.length<20000000→∀H,((((((zad.none.with 55 g1).with 100 g2).with 37 g3).with 38 g4).with 39 g5).with 36 g6) 36 [.s x] H=.val (.b (Lib.validD x)) H:=fun x hx H=>by
  rw[zan];exact s6 x (by omega) H
 generalize(((((zad.none.with 55 g1).with 100 g2).with 37 g3).with 38 g4).with 39 g5).with 36 g6=call at hC c1 c2 c3 c4 c5 c6;refine zbC zaf zao 80 (fun p:Bs×Int×Int=>[.s p.1,.i .u8 p.2.1,.i .i64 p.2.2]) _ (fun p=>zaJ (zbW p.1 p.2.1) p.2.2) (fun p _=>⟨rfl,by unfold zaJ;split<;>rfl⟩)
  (fun a b _ _ h=>by
   simp only[jPa,V.s.injEq,V.i.injEq,jLb,jGb]at h;rw[h.1,h.2.1,h.2.2]) fun p hp=>?_
 obtain⟨s,mk,at_⟩:=p;simp only at hp ⊢;refine zaA.sym zaf hC (fn:=f80) rfl rfl (by simp[f80]) zwh (by kernel_rfl) [.us s,.ui mk,.ui at_,.uh []] rfl ⟨by rw[zag];rfl,by rw[zag];rfl,by rw[zag];rfl,trivial⟩ rfl (zaC _ _) ?_;simp -implicitDefEqProofs only[VC,isR,exU,Ask.den,E.den,O1.den,O2.den,O3.den,SH.den,zat,za9,bD,SB.den,zai,LQ,uu,uW,jOa,jUa,jDa];intro t hw t0 t1 t2 t8 t9;exact Tri.symLoop rfl (zsl hC c1 c2 c3 c4 c5 c6 s mk at_ hp.2 s.length 1 [] t _ (by omega) (by omega) (by simp) hw t0 t1 t2 t8 t9 ⟨_,.inl rfl,.inl ⟨rfl,rfl⟩⟩)
end Go.Ev
namespace Go.Proofs
open Go.Shelf
set_option maxRecDepth 100000
def Tryz.lays137_ren:Go.Shelf.Ren:=⟨fun|137=>71|217=>87|266=>105|n=>n,fun|9=>9|5=>5|3=>3|n=>n,fun|n=>n⟩
theorem Tryz.lays137:Go.Proofs.Lays.n137 Tryz.prog Tryz.lays137_ren:={
 mixed:=by kernel_rfl
 f137:=Tryz.func71.trans (congrArg some (by kernel_rfl))
 f217:=Tryz.func87.trans (congrArg some (by kernel_rfl))
 f266:=Tryz.func105.trans (congrArg some (by kernel_rfl))
 t3:=Tryz.underlying3
 a3:=Tryz.isAgg3
 z3:=Tryz.sizeOf3
 v3:=Tryz.zeroValue3
 t5:=Tryz.underlying5
 a5:=Tryz.isAgg5
 z5:=Tryz.sizeOf5
 v5:=Tryz.zeroValue5
 t9:=Tryz.underlying9
 a9:=Tryz.isAgg9
 z9:=Tryz.sizeOf9
 v9:=Tryz.zeroValue9}
open Go.RowKit in
theorem Tryz.strings_IndexByte (s:ByteArray)(c:Int)(w:World) :
 Calls Tryz.prog 71 #[.string s,.int .u8 c] w fun e w'=>e=.returned (.int .i64 (Lib.indexByte s.data.toList c.toNat.toUInt8))∧w'=w:=Any.strings_IndexByte Tryz.lays137 s c w
def Tryz.lays195_ren:Go.Shelf.Ren:=⟨fun|195=>81|n=>n,fun|9=>9|3=>3|0=>0|4=>4|n=>n,fun|n=>n⟩
theorem Tryz.lays195:Go.Proofs.Lays.n195 Tryz.prog Tryz.lays195_ren:={
 mixed:=by kernel_rfl
 f195:=Tryz.func81.trans (congrArg some (by kernel_rfl))
 t0:=Tryz.underlying0
 a0:=Tryz.isAgg0
 z0:=Tryz.sizeOf0
 v0:=Tryz.zeroValue0
 t3:=Tryz.underlying3
 a3:=Tryz.isAgg3
 z3:=Tryz.sizeOf3
 v3:=Tryz.zeroValue3
 t4:=Tryz.underlying4
 a4:=Tryz.isAgg4
 z4:=Tryz.sizeOf4
 v4:=Tryz.zeroValue4
 t9:=Tryz.underlying9
 a9:=Tryz.isAgg9
 z9:=Tryz.sizeOf9
 v9:=Tryz.zeroValue9}
open Go.RowKit in
theorem Tryz.utf8_RuneCountInString (s:ByteArray)(w:World)(hs:s.size<9223372036854775807) :
 Calls Tryz.prog 81 #[.string s] w fun e w'=>e=.returned (.int .i64 (Lib.runeCount s))∧∃pos,w'=w.iter s pos:=Any.utf8_RuneCountInString Tryz.lays195 s w hs
open Go.RowKit Go.Lib in
theorem Tryz.strings_Index (s sub:ByteArray)(m:Int)(w:World)(hs:s.size<4294967281)(hm:w.cell? ⟨4,0,none⟩=some (.int .i64 m)) :
 Calls Tryz.prog 35 #[.string s,.string sub] w fun e w'=>e=.returned (.int .i64 (Lib.index s.data.toList sub.data.toList))∧w'=w:=Any.strings_Index Tryz.lays143 s sub m w hs hm
open Go.RowKit Go.Lib in
theorem Tryz.strings_Contains (s sub:ByteArray)(m:Int)(w:World)(hs:s.size<4294967281)(hm:w.cell? ⟨4,0,none⟩=some (.int .i64 m)) :
 Calls Tryz.prog 15 #[.string s,.string sub] w fun e w'=>e=.returned (.bool (Lib.contains s.data.toList sub.data.toList))∧w'=w:=Any.strings_Contains Tryz.lays144 s sub m w hs hm
def Tryz.lays197_ren:Go.Shelf.Ren:=⟨fun|197=>82|260=>101|n=>n,fun|9=>9|21=>21|3=>3|4=>4|5=>5|105=>114|119=>99|0=>0|46=>72|139=>102|138=>101|n=>n,fun|3=>1|4=>2|n=>n⟩
theorem Tryz.lays197:Go.Proofs.Lays.n197 Tryz.prog Tryz.lays197_ren:={
 mixed:=by kernel_rfl
 f197:=Tryz.func82.trans (congrArg some (by kernel_rfl))
 f260:=Tryz.func101.trans (congrArg some (by kernel_rfl))
 t0:=Tryz.underlying0
 a0:=Tryz.isAgg0
 z0:=Tryz.sizeOf0
 v0:=Tryz.zeroValue0
 t3:=Tryz.underlying3
 a3:=Tryz.isAgg3
 z3:=Tryz.sizeOf3
 v3:=Tryz.zeroValue3
 t4:=Tryz.underlying4
 a4:=Tryz.isAgg4
 z4:=Tryz.sizeOf4
 v4:=Tryz.zeroValue4
 t5:=Tryz.underlying5
 a5:=Tryz.isAgg5
 z5:=Tryz.sizeOf5
 v5:=Tryz.zeroValue5
 t9:=Tryz.underlying9
 a9:=Tryz.isAgg9
 z9:=Tryz.sizeOf9
 v9:=Tryz.zeroValue9
 t21:=Tryz.underlying21
 a21:=Tryz.isAgg21
 z21:=Tryz.sizeOf21
 v21:=Tryz.zeroValue21
 t46:=Tryz.underlying72
 a46:=Tryz.isAgg72
 z46:=Tryz.sizeOf72
 v46:=Tryz.zeroValue72
 t105:=Tryz.underlying114
 a105:=Tryz.isAgg114
 z105:=Tryz.sizeOf114
 v105:=Tryz.zeroValue114
 t119:=Tryz.underlying99
 a119:=Tryz.isAgg99
 z119:=Tryz.sizeOf99
 t138:=Tryz.underlying101
 a138:=Tryz.isAgg101
 z138:=Tryz.sizeOf101
 v138:=Tryz.zeroValue101
 t139:=Tryz.underlying102
 a139:=Tryz.isAgg102
 z139:=Tryz.sizeOf102
 v139:=Tryz.zeroValue102
 g3:=by kernel_rfl
 g4:=by kernel_rfl}
open Go.RowKit Go.Lib in
theorem Tryz.utf8_DecodeRuneInString (s:ByteArray)(w:World)(hT:Lib.Utf8Tabs 1 2 w) :
 Calls Tryz.prog 82 #[.string s] w fun e w'=>e=.returned (.tuple #[.int .i32 (Lib.decodeGo s).1,.int .i64 (Lib.decodeGo s).2])∧Below w.heap.size w w':=Any.utf8_DecodeRuneInString Tryz.lays197 s w hT
end Go.Proofs
namespace Go.Ev
open Go Go.Proofs Go.RowKit
set_option maxRecDepth 100000
theorem ztQ {M:Mem}{ρ:Ren}{H:zaa}{w:World}(hS:SR TT M ρ H w):∃m:Int,w.cell? ⟨4,0,none⟩=some (.int .i64 m):=by
 obtain⟨m,ty,fr,hM⟩:=hS.gint 4 rfl;have hw:=hS.frozen _ _ hM;exact⟨m,by simp[World.cell?,hw]⟩
def zcz:List V→zaa→OR
 | [.s s,.i .u8 c],H=>.val (.i .i64 (Lib.indexByte s c.toNat.toUInt8)) H
 |_,_=>.no
def zd4:List V→zaa→OR
 | [.s s,.s p],H=>if s.length<4294967281 then .val (.i .i64 (Lib.index s p)) H else .no
 |_,_=>.no
def zbH:List V→zaa→OR
 | [.s s,.s p],H=>if s.length<4294967281 then .val (.b (Lib.contains s p)) H else .no
 |_,_=>.no
def zd5:List V→zaa→OR
 | [.s s],H=>if s.length<4294967281 then .val (.i .i64 (Lib.runeCount ⟨s.toArray⟩)) H else .no
 |_,_=>.no
def zcZ:List V→zaa→OR
 | [.s s],H=>.val (.tup [.i .i32 (Lib.decodeGo ⟨s.toArray⟩).1,.i .i64 (Lib.decodeGo ⟨s.toArray⟩).2]) H
 |_,_=>.no
theorem zAW:zak Tryz.prog TT 71 zcz:=by
 intro vs H r h hne;unfold zcz at h;split at h
 ·rename_i H s c;subst h;refine⟨zcl (f:=71) rfl rfl,fun M ρ w args hS hr=>?_⟩;have ha:args=[.string ⟨s.toArray⟩,.int .u8 c]:=by
   simp only[relL,rel]at hr;obtain⟨x,r,rfl,rfl,x,r,rfl,rfl,rfl⟩:=hr;rfl
  rw[ha];refine zbk (x:=.int .i64 (Lib.indexByte s c.toNat.toUInt8)) hS ?_ (by simp only[rel]);exact(Tryz.strings_IndexByte ⟨s.toArray⟩ c w).mono fun e w' ⟨h1,h2⟩=>⟨h1,h2▸Below.refl _ _⟩
 ·exact absurd h.symm hne
theorem zAV:zak Tryz.prog TT 35 zd4:=by
 intro vs H r h hne;unfold zd4 at h;split at h
 ·rename_i H s p;split at h
  ·rename_i hc;subst h;refine⟨zcl (f:=35) rfl rfl,fun M ρ w args hS hr=>?_⟩;rw[zxE hr];obtain⟨m,hm⟩:=ztQ hS;refine zbk (x:=.int .i64 (Lib.index s p)) hS ?_ (by simp only[rel]);exact(Tryz.strings_Index ⟨s.toArray⟩ ⟨p.toArray⟩ m w (by show s.toArray.size<_;simpa using hc) hm).mono fun e w' ⟨h1,h2⟩=>⟨h1,h2▸Below.refl _ _⟩
  ·exact absurd h.symm hne
 ·exact absurd h.symm hne
theorem zAT:zak Tryz.prog TT 15 zbH:=by
 intro vs H r h hne;unfold zbH at h;split at h
 ·rename_i H s p;split at h
  ·rename_i hc;subst h;refine⟨zcl (f:=15) rfl rfl,fun M ρ w args hS hr=>?_⟩;rw[zxE hr];obtain⟨m,hm⟩:=ztQ hS;refine zbk (x:=.bool (Lib.contains s p)) hS ?_ (by simp only[rel]);exact(Tryz.strings_Contains ⟨s.toArray⟩ ⟨p.toArray⟩ m w (by show s.toArray.size<_;simpa using hc) hm).mono fun e w' ⟨h1,h2⟩=>⟨h1,h2▸Below.refl _ _⟩
  ·exact absurd h.symm hne
 ·exact absurd h.symm hne
theorem zAY:zak Tryz.prog TT 81 zd5:=by
 intro vs H r h hne;unfold zd5 at h;split at h
 ·rename_i H s;split at h
  ·rename_i hc;subst h;refine⟨zcl (f:=81) rfl rfl,fun M ρ w args hS hr=>?_⟩;rw[zvv hr];refine zbk (x:=.int .i64 (Lib.runeCount ⟨s.toArray⟩)) hS ?_ (by simp only[rel]);refine(Tryz.utf8_RuneCountInString ⟨s.toArray⟩ w (by show s.toArray.size<_;simp;omega)).mono ?_;rintro e w' ⟨rfl,pos,rfl⟩;exact⟨rfl,rfl,rfl,rfl,by show w.heap.size≤(w.heap.push _).size;rw[Array.size_push];omega,fun k hk=>RowKit.Below.heap_alloc w _ k hk⟩
  ·exact absurd h.symm hne
 ·exact absurd h.symm hne
theorem zAZ:zak Tryz.prog TT 82 zcZ:=by
 intro vs H r h hne;unfold zcZ at h;split at h
 ·rename_i H s;subst h;refine⟨zcl (f:=82) rfl rfl,fun M ρ w args hS hr=>?_⟩;rw[zvv hr];refine zbk (x:=.tuple #[.int .i32 (Lib.decodeGo ⟨s.toArray⟩).1,.int .i64 (Lib.decodeGo ⟨s.toArray⟩).2]) hS ?_ (by simp[rel,relL]);exact Tryz.utf8_DecodeRuneInString ⟨s.toArray⟩ w (ziy hS)
 ·exact absurd h.symm hne
end Go.Ev
namespace Go.Ev
open Go Go.Proofs
set_option linter.unusedSimpArgs false
set_option linter.unusedVariables false
set_option linter.unnecessarySimpa false
open Tryz List
set_option maxRecDepth 100000
theorem zyK:zaQ TT shp f52.ntmps [] (zae f52) [] ⟨[(0,.f1 .vs (.va 0)),(1,.f1 (.vi .i64) (.va 1))],⟨.va 2,[],[]⟩,3,[]⟩ (KF TT f52 [])=let qa:SH:=⟨v2,[],[]⟩;.asks (.call 80 (x3 (xs v0) (xu (xc 39)) (xi v1))) [.s,.i] (xt (x2 (xs v3) (xi v4))) (.asks (.call 81 (x1 (xs v3))) [.i] (xi v5) (.asks (.call 55 (x3 (xb (xe v5 c1)) (xi (xc 31)) (xi v1))) [] (.cv (.tup [])) (.asks (.call 82 (x1 (xs v3))) [.i,.i] (xt (x2 (xj v6) (xi v7))) (.asks (.call 61 (x1 (xi (xw v6)))) [.s] (xs v8) (.fin (xt (x2 (xs v8) (xi v4))) qa) (.stuck 0)) (.stuck 0)) (.pnc v6 qa)) (.stuck 0)) (.pnc v3 qa):=by kernel_rfl
theorem zy5:zaQ TT shp f53.ntmps [] (zae f53) [] ⟨[(0,.f1 .vs (.va 0)),(1,.f1 (.vi .i64) (.va 1))],⟨.va 2,[],[]⟩,3,[]⟩ (KF TT f53 [])=let qf:E:=xs (.cs [34,34,34]);let qb:E:=xw (xa c3 v4);let qe:E:=xs (.f3 .sub v0 c3 qb);let qc:SH:=⟨v2,[],[]⟩;let qa:Tree:=.fin (xt (x2 qe (xi (xw (xa v4 (xc 6)))))) qc;let qd:E:=xt (x2 (xs v4) (xi v5));.asks (.call 70 (x2 (xs v0) qf)) [.b] (xb v3) (.ite v3 (.need (xE c3 (xl v0)) (.asks (.call 35 (x2 (xs (.f3 .sub v0 c3 (xl v0))) qf)) [.i] (xi v4) (.ite (xH v4 c0) (.need (xE c3 qb) (.need (xE qb (xl v0)) (.asks (.call 36 (x1 qe)) [.b] (xb v5) (.asks (.call 55 (x3 (xb v5) (xi (xc 31)) (xi v1))) [] (.cv (.tup [])) qa (.pnc v6 qc)) (.stuck 0)))) (.asks (.call 55 (x3 (xb (.cb false)) (xi (xc 31)) (xi v1))) [] (.cv (.tup [])) (.need (xE c3 qb) (.need (xE qb (xl v0)) qa)) (.pnc v5 qc))) (.stuck 0))) (.asks (.call 80 (x3 (xs v0) (xu (xc 34)) (xi v1))) [.s,.i] qd (.fin qd qc) (.pnc v4 qc))) (.stuck 0):=by kernel_rfl
theorem zlS (s:Bs)(mk:Int):∀(n i:Nat)(out:Bs)(p:Bs×Nat),out.length≤4*i→zhC s mk n i out=some p→p.1.length≤4*s.length∧i<p.2∧p.2≤s.length
 |0,_,_,_,_,h=>by simp[zhC]at h
 |n+1,i,out,p,ho,h=>by
  simp only[zhC]at h;by_cases h1:s.length≤i
  ·rw[if_pos h1]at h;cases h
  ·rw[if_neg h1]at h;by_cases h2:atS s i=10
   ·rw[if_pos h2]at h;cases h
   ·rw[if_neg h2]at h;by_cases h3:atS s i=mk
    ·rw[if_pos h3]at h;by_cases h4:Lib.validD out=true
     ·rw[if_pos h4]at h;have h:=jWa h;subst h;exact⟨by simp only;omega,by simp only;omega,by simp only;omega⟩
     ·rw[if_neg h4]at h;cases h
    ·rw[if_neg h3]at h;by_cases h5:atS s i=92
     ·rw[if_pos h5]at h;rcases hq:ziX (s.drop (i+1))with _|q
      ·rw[hq]at h;cases h
      ·rw[hq]at h;obtain⟨p1,p2,p3⟩:=zpE _ q hq;have:=zlS s mk n (i+1+q.2) (out++q.1) p (by rw[jLa];omega) h;omega
     ·rw[if_neg h5]at h;have:=zlS s mk n (i+1) _ p (by rw[jLa,length_singleton];omega) h;omega
theorem zhj {s:Bs}{mk:Int}{p:Bs×Nat}(h:zbW s mk=some p):p.1.length≤4*s.length∧1<p.2∧p.2≤s.length:=zlS s mk _ 1 [] p (by simp) h
def zjR (s:Bs):Option (Bs×Nat):=match zbW s 39 with
 |some p=>if Lib.runeCount ⟨p.1.toArray⟩=1 then some (Lib.itoa (IntKind.i64.wrap (Lib.decodeGo ⟨p.1.toArray⟩).1),p.2)else none
 |none=>none
def zjO (s:Bs):Option (Bs×Nat):=if zbv s [34,34,34]=true then
    (if 0≤Lib.index (s.drop 3) [34,34,34]∧Lib.validD ((s.drop 3).take (Lib.index (s.drop 3) [34,34,34]).toNat)=true then some ((s.drop 3).take (Lib.index (s.drop 3) [34,34,34]).toNat,(Lib.index (s.drop 3) [34,34,34]).toNat+6)else none)
  else zbW s 34
theorem zru (n:Int):-9223372036854775808≤IntKind.i64.wrap n∧IntKind.i64.wrap n≤9223372036854775807:=by
 have e:(2:Int)^IntKind.i64.bits=18446744073709551616:=rfl;have e2:(2:Int)^(IntKind.i64.bits-1)=9223372036854775808:=rfl;simp only[IntKind.wrap,e,e2,IntKind.signed,jSd,jTa];split<;>omega
theorem zx8:∃g,zak prog TT 52 g∧∀p:Bs×Int,(0<p.1.length∧p.1.length<1100000)→∀H,g [.s p.1,.i .i64 p.2] H=(zaJ (zjR p.1) p.2).at H:=by
 obtain⟨g1,k1,s1⟩:=zd3;obtain⟨g2,k2,s2⟩:=zt0;have hC:=ws (ws (ws (ws (ws n0 k1) k2) zAY) zAZ) zxm;have c1:zdO (((((zad.none.with 55 g1).with 80 g2).with 81 zd5).with 82 zcZ).with 61 zeC):=fun b e k H=>by
  rw[zac _ _ _ _ rfl,zac _ _ _ _ rfl,zac _ _ _ _ rfl,zac _ _ _ _ rfl,zan];exact s1 b e k H
 have c2:∀(x:Bs)(a:Int),(0<x.length∧x.length<1100000)→∀H,(((((zad.none.with 55 g1).with 80 g2).with 81 zd5).with 82 zcZ).with 61 zeC) 80 [.s x,.i .u8 39,.i .i64 a] H=(zaJ (zbW x 39) a).at H:=fun x a hx H=>by
  rw[zac _ _ _ _ rfl,zac _ _ _ _ rfl,zac _ _ _ _ rfl,zan];exact s2 (x,39,a) hx H
 have c3:∀x:Bs,x.length<4294967281→∀H,(((((zad.none.with 55 g1).with 80 g2).with 81 zd5).with 82 zcZ).with 61 zeC) 81 [.s x] H=.val (.i .i64 (Lib.runeCount ⟨x.toArray⟩)) H:=fun x hx H=>by
  rw[zac _ _ _ _ rfl,zac _ _ _ _ rfl,zan];exact if_pos hx
 have c4:∀x:Bs,∀H,(((((zad.none.with 55 g1).with 80 g2).with 81 zd5).with 82 zcZ).with 61 zeC) 82 [.s x] H=.val (.tup [.i .i32 (Lib.decodeGo ⟨x.toArray⟩).1,.i .i64 (Lib.decodeGo ⟨x.toArray⟩).2]) H:=fun x H=>by
  rw[zac _ _ _ _ rfl,zan];rfl
 have c5:∀n:Int,∀H,(((((zad.none.with 55 g1).with 80 g2).with 81 zd5).with 82 zcZ).with 61 zeC) 61 [.i .i64 (IntKind.i64.wrap n)] H=.val (.s (Lib.itoa (IntKind.i64.wrap n))) H:=fun n H=>by
  rw[zan];exact if_pos (zru n)
 generalize((((zad.none.with 55 g1).with 80 g2).with 81 zd5).with 82 zcZ).with 61 zeC=call at hC c1 c2 c3 c4 c5;refine zbC zaf zao 52 (fun p:Bs×Int=>[.s p.1,.i .i64 p.2]) _ (fun p=>zaJ (zjR p.1) p.2) (fun p _=>⟨rfl,by unfold zaJ;split<;>rfl⟩)
  (fun a b _ _ h=>by
   simp only[jPa,V.s.injEq,V.i.injEq,jLb,jGb]at h;rw[h.1,h.2]) fun p hp=>?_
 obtain⟨s,at_⟩:=p;simp only at hp ⊢;refine zaA.sym zaf hC (fn:=f52) rfl rfl (by simp[f52]) zyK (by kernel_rfl) [.us s,.ui at_,.uh []] rfl ⟨by rw[zag];rfl,by rw[zag];rfl,trivial⟩ rfl (zaC _ _) ?_;simp -implicitDefEqProofs only[VC,isR,exU,Ask.den,E.den,O1.den,O2.den,O3.den,SH.den,zat,za9,bD,SB.den,zai,LQ,uu,uW,jOa,jUa,jDa];rcases hq:zbW s 39 with _|p
 ·refine .inr ⟨zcu 31 at_,fun K=>?_,?_⟩
  ·rw[c2 s at_ hp,hq];rfl
  ·simp only[zjR,hq,zaJ]
 ·obtain⟨p1,p2,p3⟩:=zhj hq;refine .inl ⟨p.1,p.2,fun K=>by rw[c2 s at_ hp,hq];rfl,.inl ⟨_,fun K=>c3 p.1 (by omega) K,?_⟩⟩;refine zaU c1 _ _ _ (fun h=>.inl ⟨_,_,fun K=>c4 p.1 K,.inl ⟨_,fun K=>c5 _ K,?_⟩⟩) (fun h=>?_)
  ·have h:Lib.runeCount ⟨p.1.toArray⟩=1:=by simp at h;omega
   simp only[zjR,hq,if_pos h,zaJ]
  ·have h:¬Lib.runeCount ⟨p.1.toArray⟩=1:=by simp at h;omega
   simp only[zjR,hq,if_neg h,zaJ]
theorem zx9:∃g,zak prog TT 53 g∧∀p:Bs×Int,(0<p.1.length∧p.1.length<1100000)→∀H,g [.s p.1,.i .i64 p.2] H=(zaJ (zjO p.1) p.2).at H:=by
 obtain⟨g1,k1,s1⟩:=zd3;obtain⟨g2,k2,s2⟩:=zt0;obtain⟨g3,k3,s3⟩:=znc;obtain⟨g5,k5,s5⟩:=zht;have hC:=ws (ws (ws (ws (ws n0 k1) k2) k3) zAV) k5;have c1:zdO (((((zad.none.with 55 g1).with 80 g2).with 70 g3).with 35 zd4).with 36 g5):=fun b e k H=>by
  rw[zac _ _ _ _ rfl,zac _ _ _ _ rfl,zac _ _ _ _ rfl,zac _ _ _ _ rfl,zan];exact s1 b e k H
 have c2:∀(x:Bs)(a:Int),(0<x.length∧x.length<1100000)→∀H,(((((zad.none.with 55 g1).with 80 g2).with 70 g3).with 35 zd4).with 36 g5) 80 [.s x,.i .u8 34,.i .i64 a] H=(zaJ (zbW x 34) a).at H:=fun x a hx H=>by
  rw[zac _ _ _ _ rfl,zac _ _ _ _ rfl,zac _ _ _ _ rfl,zan];exact s2 (x,34,a) hx H
 have c3:∀x y:Bs,∀H,(((((zad.none.with 55 g1).with 80 g2).with 70 g3).with 35 zd4).with 36 g5) 70 [.s x,.s y] H=.val (.b (zbv x y)) H:=fun x y H=>by
  rw[zac _ _ _ _ rfl,zac _ _ _ _ rfl,zan];exact s3 x y H
 have c4:∀x y:Bs,x.length<4294967281→∀H,(((((zad.none.with 55 g1).with 80 g2).with 70 g3).with 35 zd4).with 36 g5) 35 [.s x,.s y] H=.val (.i .i64 (Lib.index x y)) H:=fun x y hx H=>by
  rw[zac _ _ _ _ rfl,zan];exact if_pos hx
 have c5:∀x:Bs,x.length<20000000→∀H,(((((zad.none.with 55 g1).with 80 g2).with 70 g3).with 35 zd4).with 36 g5) 36 [.s x] H=.val (.b (Lib.validD x)) H:=fun x hx H=>by
  rw[zan];exact s5 x (by omega) H
 generalize((((zad.none.with 55 g1).with 80 g2).with 70 g3).with 35 zd4).with 36 g5=call at hC c1 c2 c3 c4 c5;refine zbC zaf zao 53 (fun p:Bs×Int=>[.s p.1,.i .i64 p.2]) _ (fun p=>zaJ (zjO p.1) p.2) (fun p _=>⟨rfl,by unfold zaJ;split<;>rfl⟩)
  (fun a b _ _ h=>by
   simp only[jPa,V.s.injEq,V.i.injEq,jLb,jGb]at h;rw[h.1,h.2]) fun p hp=>?_
 obtain⟨s,at_⟩:=p;simp only at hp ⊢;refine zaA.sym zaf hC (fn:=f53) rfl rfl (by simp[f53]) zy5 (by kernel_rfl) [.us s,.ui at_,.uh []] rfl ⟨by rw[zag];rfl,by rw[zag];rfl,trivial⟩ rfl (zaC _ _) ?_;simp -implicitDefEqProofs only[VC,isR,exU,Ask.den,E.den,O1.den,O2.den,O3.den,SH.den,zat,za9,bD,SB.den,zai,LQ,uu,uW,jOa,jUa,jDa];refine .inl ⟨_,fun K=>c3 s [34,34,34] K,fun h=>?_,fun h=>?_⟩
 ·have hl:3≤s.length:=by
   simp only[zbv,jMa,jTa]at h;have:=h.1;simpa using this
  have e0:(s.take (s.length:Int).toNat).drop 3=s.drop 3:=by rw[jCa,jRd]
  have hi:=Lib.index_ge (s.drop 3) [34,34,34];refine⟨by omega,.inl ⟨Lib.index (s.drop 3) [34,34,34],fun K=>?_,fun h4=>?_,fun h4=>?_⟩⟩
  ·simp only[jCa,jRd];exact c4 _ _ (by rw[jJa];omega) K
  ·have hr:=Lib.index_room (s.drop 3) [34,34,34] (by omega);rw[jJa]at hr;simp only[jIa,jVa]at hr;obtain⟨k,hk⟩:∃k:Nat,Lib.index (s.drop 3) [34,34,34]=k:=⟨(Lib.index (s.drop 3) [34,34,34]).toNat,by omega⟩;rw[hk]at hr h4 ⊢;have hw:IntKind.i64.wrap (3+(k:Int))=((3+k:Nat):Int):=by rw[w64 (by omega) (by omega)];omega
   have hw2:IntKind.i64.wrap ((k:Int)+6)=((k+6:Nat):Int):=by rw[w64 (by omega) (by omega)];omega
   have e1:(s.take (3+k)).drop 3=(s.drop 3).take k:=by rw[jSc,jJc]
   simp only[hw,hw2,jCa];have e2:(s.take (3+k)).drop (Int.toNat 3)=(s.drop 3).take k:=e1;rw[e2];refine⟨by omega,by omega,.inl ⟨_,fun K=>c5 _ (by rw[jSb,jJa];omega) K,?_⟩⟩
   ·refine zaU c1 _ _ _ (fun h6=>?_) (fun h6=>?_)
    ·simp only[zjO,if_pos h,hk,jCa];rw[if_pos ⟨by omega,h6⟩];simp only[zaJ]
    ·simp only[zjO,if_pos h,hk,jCa];rw[if_neg fun e=>by rw[e.2]at h6;cases h6];simp only[zaJ]
  ·refine zaU c1 _ _ _ (fun h5=>by cases h5) (fun h5=>?_);simp only[zjO,if_pos h];rw[if_neg fun e=>h4 (by have:=e.1;omega)];simp only[zaJ]
 ·have e:zjO s=zbW s 34:=by simp only[zjO];rw[if_neg (by rw[h];exact jZb)]
  rw[e];rcases hq:zbW s 34 with _|p
  ·refine .inr ⟨zcu 31 at_,fun K=>?_,?_⟩
   ·rw[c2 s at_ hp,hq];rfl
   ·simp only[zaJ]
  ·exact .inl ⟨p.1,p.2,fun K=>by rw[c2 s at_ hp,hq];rfl,by simp only[zaJ]⟩
theorem zyO:zaQ TT shp f74.ntmps [] (zae f74) [] ⟨[(0,.f1 (.vi .i64) (.va 1)),(1,.f1 (.ptr 0) (.va 2)),(2,.f1 (.ptr 0) (.va 3))],⟨.va 0,[(.va 2,some ⟨9,.f2 .cons (.f1 .vs (.va 4)) .nil,.all⟩),(.va 3,some ⟨3,.f2 .cons (.f1 (.vi .i64) (.va 5)) .nil,.all⟩)],[]⟩,6,[]⟩ (KF TT f74 [])=let qa:SH:=⟨v0,[(v2,xk 9 (x1 (xs v4))),(v3,xk 3 (x1 (xi v5)))],[]⟩;.ite (xe v1 (xl v4)) (.asks (.call 55 (x3 (xb (.cb true)) (xi (xc 33)) (xi v5))) [] (.cv (.tup [])) (.fin (xi v1) qa) (.pnc v6 qa)) (.need (xE c0 v1) (.need (xL v1 (xl v4)) (.asks (.call 73 (x1 (xu (xA v4 v1)))) [.b] (xb v6) (.asks (.call 55 (x3 (xb (xo v6)) (xi (xc 33)) (xi v5))) [] (.cv (.tup [])) (.fin (xi v1) qa) (.pnc v7 qa)) (.stuck 0)))):=by kernel_rfl
theorem zwg:zaQ TT shp f51.ntmps [] (sub [tt,tt,ff,tt,ff,ff,tt,tt,ff,tt] (zae f51)) [] ⟨[(2,.f1 (.ptr 0) (.va 1)),(3,.f1 (.ptr 0) (.va 2)),(7,.f1 (.fn 74) (.f2 .cons (.f1 (.ptr 0) (.va 1)) (.f2 .cons (.f1 (.ptr 0) (.va 2)) .nil))),(8,.f1 .vs (.va 5)),(9,.f1 (.vi .i64) (.va 6)),(16,.va 7),(4,.f1 (.vi .i64) (.ci 0)),(5,.f1 .vs (.cs [])),(6,.f1 (.vi .i64) (.ci 0))],⟨.va 0,[(.va 1,some ⟨9,.f2 .cons (.f1 .vs (.va 3)) .nil,.all⟩),(.va 2,some ⟨3,.f2 .cons (.f1 (.vi .i64) (.va 4)) .nil,.all⟩)],[]⟩,8,[]⟩ (K0 [2,3,4,5,6,7,16])=let qc:E:=xw (xa c2 v9);let qd:E:=xp v1;let qe:E:=xp v2;let qa:SH:=⟨v0,[(v1,xk 9 (x1 (xs v3))),(v2,xk 3 (x1 (xi v4)))],[]⟩;let qb:E:=.f1 (.fn 74) (x2 qd qe);let qf:E:=xi c0;let qg:E:=xs (.cs []);.asks (.call 70 (x2 (xs v3) (xs v5))) [.b] (xb v8) (.ite v8 (.need (xE c2 (xl v3)) (.asks (.call 75 (x3 (xs (.f3 .sub v3 c2 (xl v3))) (xi v6) (xi v4))) [.i] (xi v9) (.asks (.call 55 (x3 (xb (xG v9 c0)) (xi (xc 33)) (xi v4))) [] (.cv (.tup [])) (.need (xE c2 qc) (.need (xE qc (xl v3)) (.asks (.call 76 (x3 (xs (.f3 .sub v3 c2 qc)) (xi v6) (xi v4))) [.s] (xs v10) (.ask (.call 74 (x3 (xi qc) qd qe)) qa [.i] (xi v11) false (.leaf .ret [(2,qd),(3,qe),(4,xi c3),(5,xs v10),(6,xi v11),(7,qb),(16,v7)] qa) (.leaf (.pan v11) [(2,qd),(3,qe),(7,qb),(16,v7)] ⟨v12,[],[]⟩)) (.leaf (.pan v10) [(2,qd),(3,qe),(7,qb),(16,v7)] qa)))) (.leaf (.pan v10) [(2,qd),(3,qe),(4,qf),(5,qg),(6,qf),(7,qb),(16,v7)] qa)) (.leaf (.pan v9) [(2,qd),(3,qe),(4,qf),(5,qg),(6,qf),(7,qb),(16,v7)] qa))) (.leaf .norm [(2,qd),(3,qe),(4,qf),(5,qg),(6,qf),(7,qb),(16,v7)] qa)) (.stuck 0):=by kernel_rfl
theorem zyU:zaQ TT shp f51.ntmps [21] (sub [true,true,true] (zae f51)) [] ⟨[(2,.f1 (.ptr 0) (.va 1)),(3,.f1 (.ptr 0) (.va 2)),(7,.f1 (.fn 74) (.f2 .cons (.f1 (.ptr 0) (.va 1)) (.f2 .cons (.f1 (.ptr 0) (.va 2)) .nil))),(4,.f1 (.vi .i64) (.ci 0)),(5,.f1 .vs (.cs [])),(6,.f1 (.vi .i64) (.ci 0))],⟨.va 0,[(.va 1,some ⟨9,.f2 .cons (.f1 .vs (.va 3)) .nil,.all⟩),(.va 2,some ⟨3,.f2 .cons (.f1 (.vi .i64) (.va 4)) .nil,.all⟩)],[]⟩,5,[]⟩ (K0 [2,3,4,5,6])=let qp:E:=xi v4;let qk:E:=xi v5;let qh:E:=xw (xa v5 c1);let qi:E:=xl v3;let qc:E:=xw (xa v5 (xw (xa c1 v7)));let ql:E:=xi (xw (xa qc v8));let qe:E:=xp v1;let qf:E:=xp v2;let qa:SH:=⟨v0,[(v1,xk 9 (x1 (xs v3))),(v2,xk 3 (x1 qp))],[]⟩;let qg:E:=xi c0;let qd:E:=xs (.cs []);let qo:E:=x2 (xs (.f3 .sub v3 v5 qi)) qp;let qm:E:=xi (xw (xa v5 v7));let qj:E:=x3 (xs (.f3 .sub v3 c0 v5)) (xi c10) qp;let qn:E:=xi (xw (xa v5 v6));let qb:Tree:=.need (xE v5 qi) (.asks (.call 77 qo) [.i] (xi v6) (.ite (xG v6 c0) (.ask (.call 74 (x3 qn qe qf)) qa [.i] (xi v7) false (.leaf (.stop [tt,tt,tt,tt,tt,tt,ff]) [(2,qe),(3,qf),(4,qg),(5,qd),(6,qn)] qa) (.leaf (.pan v7) [(2,qe),(3,qf),(4,qg),(5,qd),(6,qn)] ⟨v8,[],[]⟩)) (.ask (.call 74 (x3 qk qe qf)) qa [.i] (xi v7) false (.asks (.call 76 qj) [.s] (xs v8) (.leaf .ret [(2,qe),(3,qf),(4,xi c3),(5,xs v8),(6,qk)] qa) (.leaf (.pan v8) [(2,qe),(3,qf)] qa)) (.leaf (.pan v7) [(2,qe),(3,qf),(4,qg),(5,qd),(6,qk)] ⟨v8,[],[]⟩))) (.leaf (.pan v6) [(2,qe),(3,qf),(4,qg),(5,qd),(6,qk)] qa));.asks (.call 75 (x3 (xs v3) (xi c10) qp)) [.i] qk (.ite (xL qh qi) (.need (xE c0 v5) (.need (xL v5 qi) (.ite (xe (xA v3 v5) (xc 46)) (.need (xE c0 qh) (.asks (.call 50 (x1 (xu (xA v3 qh)))) [.b] (xb v6) (.ite v6 (.need (xE qh qi) (.asks (.call 75 (x3 (xs (.f3 .sub v3 qh qi)) (xi c10) qp)) [.i] (xi v7) (.need (xE c0 qc) (.need (xE qc qi) (.asks (.call 77 (x2 (xs (.f3 .sub v3 qc qi)) qp)) [.i] (xi v8) (.ite (xG v8 c0) (.ask (.call 74 (x3 ql qe qf)) qa [.i] (xi v9) false (.leaf (.stop [tt,tt,tt,tt,tt,tt,ff]) [(2,qe),(3,qf),(4,qg),(5,qd),(6,ql)] qa) (.leaf (.pan v9) [(2,qe),(3,qf),(4,qg),(5,qd),(6,ql)] ⟨v10,[],[]⟩)) (.ask (.call 74 (x3 (xi qc) qe qf)) qa [.i] (xi v9) false (.leaf (.stop [tt,tt,tt,tt,tt,tt,ff]) [(2,qe),(3,qf),(4,qg),(5,qd),(6,xi qc)] qa) (.leaf (.pan v9) [(2,qe),(3,qf),(4,qg),(5,qd),(6,xi qc)] ⟨v10,[],[]⟩))) (.leaf (.pan v8) [(2,qe),(3,qf),(4,qg),(5,qd),(6,xi qc)] qa)))) (.leaf (.pan v7) [(2,qe),(3,qf),(4,qg),(5,qd)] qa))) (.need (xE v5 qi) (.asks (.call 77 qo) [.i] (xi v7) (.ite (xG v7 c0) (.ask (.call 74 (x3 qm qe qf)) qa [.i] (xi v8) false (.leaf (.stop [tt,tt,tt,tt,tt,tt,ff]) [(2,qe),(3,qf),(4,qg),(5,qd),(6,qm)] qa) (.leaf (.pan v8) [(2,qe),(3,qf),(4,qg),(5,qd),(6,qm)] ⟨v9,[],[]⟩)) (.ask (.call 74 (x3 qk qe qf)) qa [.i] (xi v8) false (.asks (.call 76 qj) [.s] (xs v9) (.leaf .ret [(2,qe),(3,qf),(4,xi c3),(5,xs v9),(6,qk)] qa) (.leaf (.pan v9) [(2,qe),(3,qf)] qa)) (.leaf (.pan v8) [(2,qe),(3,qf),(4,qg),(5,qd),(6,qk)] ⟨v9,[],[]⟩))) (.leaf (.pan v7) [(2,qe),(3,qf),(4,qg),(5,qd),(6,qk)] qa)))) (.stuck 0))) qb))) (.need (xE c0 v5) qb)) (.leaf (.pan v5) [(2,qe),(3,qf),(4,qg),(5,qd),(6,qg)] qa):=by kernel_rfl
theorem zum {s:Bs}{n:Nat}(h:n<s.length):∃b:UInt8,s[n]? = some b∧atS s (n:Nat)=b.toNat:=by
 refine⟨s[n],jKa h,?_⟩;simp[atS,jKa h]
def zmy (s:Bs)(n:Nat):Bool:=decide (n=s.length) || !(zcR (atS s n))
theorem zhe {call:zad}{f:Nat}{args:List V}{o:Option Nat}{at_:Int}{A:Int→Prop}{B:V→Prop}(h:∀K,call f args K=(match o with|some n=>.val (.i .i64 n) K|none=>.pan (zcu 33 at_) K))(h1:∀n:Nat,o=some n→A n)(h2:o=none→B (zcu 33 at_)) :
 (∃x,(∀K,call f args K=.val (.i .i64 x) K)∧A x)∨∃v,(∀K,call f args K=.pan v K)∧B v:=by
 cases o with
 |some n=>exact .inl ⟨n,h,h1 n rfl⟩
 |none=>exact .inr ⟨_,h,h2 rfl⟩
theorem zvS {call:zad}{f:Nat}{args:List V}{r:Res}{o:Option Nat}{at_:Int}{A:Bs→Prop}{B:V→Prop}(h:∀K,call f args K=r.at K)(hr:r=(match o with|some n=>.val (.s (zlj n))|none=>.pan (zcu 33 at_)))(h1:∀n:Nat,o=some n→A (zlj n))(h2:o=none→B (zcu 33 at_)) :
 (∃x,(∀K,call f args K=.val (.s x) K)∧A x)∨∃v,(∀K,call f args K=.pan v K)∧B v:=by
 subst hr;cases o with
 |some n=>exact .inl ⟨_,h,h1 n rfl⟩
 |none=>exact .inr ⟨_,h,h2 rfl⟩
theorem zgM {call:zad}{f:Nat}{args:List V}{b:Bool}{n:Int}{at_:Int}{K:zaa}{A:Int→Prop}{B:V→zaa→Prop}(h:call f args K=if b=true then .val (.i .i64 n) K else .pan (zcu 33 at_) K)(h1:b=true→A n)(h2:b=false→B (zcu 33 at_) K) :
 (∃x,call f args K=.val (.i .i64 x) K∧A x)∨∃v H',call f args K=.pan v H'∧B v H':=by
 cases b with
 |true=>exact .inl ⟨n,h,h1 rfl⟩
 |false=>exact .inr ⟨_,K,h,h2 rfl⟩
def zAD (call:zad):Prop:=∀(n:Nat)(s:Bs)(at_:Int)(a b:Nat)(H:zaa),a≠b→n≤s.length→s.length<1100000→H[a]? = some (some ⟨9,[.s s],.all⟩)→H[b]? = some (some ⟨3,[.i .i64 at_],.all⟩)→call 74 [.i .i64 n,.ptr a 0,.ptr b 0] H=if zmy s n=true then .val (.i .i64 n) H else .pan (zcu 33 at_) H
theorem zvI {H:zaa}{a b:Nat}{x y:Option Blk}(h1:H[a]? = some x)(h2:H[b]? = some y):(H.set b y).set a x=H:=by
 rw[←zaa.set_self h2,←zaa.set_self h1]
theorem zyb:∃g,zak prog TT 74 g∧∀(n:Nat)(s:Bs)(at_:Int)(a b:Nat)(H:zaa),a≠b→n≤s.length→s.length<1100000→H[a]? = some (some ⟨9,[.s s],.all⟩)→H[b]? = some (some ⟨3,[.i .i64 at_],.all⟩)→g [.i .i64 n,.ptr a 0,.ptr b 0] H=if zmy s n=true then .val (.i .i64 n) H else .pan (zcu 33 at_) H:=by
 obtain⟨g1,k1,s1⟩:=zd3;obtain⟨g2,k2,s2⟩:=zvP;have hC:=ws (ws n0 k1) k2;have hm:zdO ((zad.none.with 55 g1).with 73 g2):=fun b e k H=>by rw[zac _ _ _ _ rfl,zan];exact s1 b e k H
 have hp:∀b:UInt8,∀H,((zad.none.with 55 g1).with 73 g2) 73 [.i .u8 b.toNat] H=.val (.b (zcR b.toNat)) H:=fun b H=>by rw[zan];exact s2 b trivial H
 generalize(zad.none.with 55 g1).with 73 g2=call at hC hm hp;obtain⟨g,k,h⟩:=zc2 zaf 74 (fun p:Nat×Bs×Int×Nat×Nat=>[.i .i64 p.1,.ptr p.2.2.2.1 0,.ptr p.2.2.2.2 0]) (fun p H=>p.2.2.2.1≠p.2.2.2.2∧p.1≤p.2.1.length∧p.2.1.length<1100000∧H[p.2.2.2.1]? = some (some ⟨9,[.s p.2.1],.all⟩)∧H[p.2.2.2.2]? = some (some ⟨3,[.i .i64 p.2.2.1],.all⟩))
  (fun p H r=>r=if zmy p.2.1 p.1=true then .val (.i .i64 p.1) H else .pan (zcu 33 p.2.2.1) H) (by
  rintro⟨n,s,at_,a,b⟩ ⟨n',s',at',a',b'⟩ H r ⟨_,_,_,h1,h2⟩ ⟨_,_,_,h3,h4⟩ he hr;simp only at h1 h2 h3 h4 hr ⊢;simp only[jPa,V.i.injEq,V.ptr.injEq,jLb,jGb,jAd]at he;obtain⟨rfl,rfl,rfl⟩:=he;rw[h1]at h3;rw[h2]at h4;simp only[jNa,Blk.mk.injEq,jPa,V.s.injEq,V.i.injEq,jLb,jGb]at h3 h4;obtain rfl:=h3;obtain rfl:=h4;exact hr) (by
  rintro⟨n,s,at_,a,b⟩ H ⟨hab,hn,hs,ha,hb⟩;simp only at hab hn hs ha hb ⊢;have e1:=zvI ha hb;refine zaA.sym zaf hC (fn:=f74) rfl rfl (by simp[f74]) zyO (by kernel_rfl) [.uh H,.ui (n:Nat),.un a,.un b,.us s,.ui at_] rfl ⟨by rw[zag];rfl,by rw[zag];rfl,by rw[zag];rfl,trivial⟩ e1.symm ⟨by simp;exact⟨zaa.lt ha,zaa.lt hb⟩,by simp;exact hab⟩ ?_;simp -implicitDefEqProofs only[VC,isR,exU,Ask.den,E.den,O1.den,O2.den,O3.den,SH.den,zat,za9,bD,SB.den,zai,LQ,uu,uW,jOa,jUa,jDa,zbB,jSa,if_false,if_true,e1];refine⟨fun h=>?_,fun h=>?_⟩
  ·have hq:zmy s n=true:=by unfold zmy;rw[jVb (by omega)];rfl
   refine zaU hm _ _ _ (fun _=>?_) (fun h=>by cases h);rw[if_pos hq]
  ·have hlt:n<s.length:=by omega
   obtain⟨c,hc,hat⟩:=zum hlt;have hq:zmy s n = !(zcR c.toNat):=by unfold zmy;rw[jNb (by omega),hat];rfl
   rw[hat,hq];refine⟨by omega,by omega,.inl ⟨_,fun K=>hp c K,zaU hm _ _ _ (fun h=>?_) (fun h=>?_)⟩⟩
   ·rw[if_pos h]
   ·rw[if_neg (by rw[h];exact jZb)])
 exact⟨g,k,fun n s at_ a b H h1 h2 h3 h4 h5=>h (n,s,at_,a,b) H ⟨h1,h2,h3,h4,h5⟩⟩
theorem zyL:zaQ TT shp f47.ntmps [] (zae f47) [] ⟨[(0,.f1 (.ptr 0) (.va 0))],⟨.va 1,[(.va 0,some ⟨55,.f2 .cons (.f1 .vs (.va 2)) (.f2 .cons (.f1 (.vi .i64) (.va 3)) (.f2 .cons (.f1 .vb (.va 4)) (.f2 .cons (.f1 .mp (.va 5)) .nil))),.all⟩)],[]⟩,6,[]⟩ (KF TT f47 [0,3,5])=let qf:E:=x1 (xp v0);let qg:E:=xs v2;let qh:E:=xm v5;let qa:SH:=⟨v1,[(v0,xk 55 (x4 qg (xi v3) (xb v4) qh))],[]⟩;let qb:E:=xw (xa v3 (xl v10));let qi:E:=xs (.f3 .sub v2 v3 qb);let qk:E:=xb v11;let qe:E:=xb (.cb true);let qd:Tree:=.stuck 0;let qc:E:=xw (xa v3 v9);let qj:E:=xs (.f3 .sub v2 v3 qc);.ask (.call 48 qf) qa [.s] (xs v6) false (.asks (.call 70 (x2 (xs v6) (xs (.cs [47,47])))) [.b] (xb v7) (.ite v7 (.ask (.call 48 qf) qa [.s] (xs v8) false (.asks (.call 71 (x2 (xs v8) (xu c10))) [.i] (xi v9) (.ite (xL v9 c0) (.ask (.call 48 qf) qa [.s] (xs v10) false (.need (xE c0 v3) (.need (xE v3 qb) (.need (xE qb (xl v2)) (.asks (.call 36 (x1 qi)) [.b] qk (.asks (.call 55 (x3 qk (xi (xc 32)) (xi v3))) [] (.cv (.tup [])) (.ite v4 (.fin qe ⟨v1,[(v0,xk 55 (x4 qg (xi qb) qe qh))],[]⟩) (.asks (.call 15 (x2 qi (xs (.cs [10])))) [.b] (xb v12) (.fin qe ⟨v1,[(v0,xk 55 (x4 qg (xi qb) (xb v12) qh))],[]⟩) qd)) (.pnc v12 ⟨v1,[(v0,xk 55 (x4 qg (xi qb) (xb v4) qh))],[]⟩)) qd)))) qd) (.need (xE c0 v3) (.need (xE v3 qc) (.need (xE qc (xl v2)) (.asks (.call 36 (x1 qj)) [.b] (xb v10) (.asks (.call 55 (x3 (xb v10) (xi (xc 32)) (xi v3))) [] (.cv (.tup [])) (.ite v4 (.fin qe ⟨v1,[(v0,xk 55 (x4 qg (xi qc) qe qh))],[]⟩) (.asks (.call 15 (x2 qj (xs (.cs [10])))) [.b] qk (.fin qe ⟨v1,[(v0,xk 55 (x4 qg (xi qc) qk qh))],[]⟩) qd)) (.pnc v11 ⟨v1,[(v0,xk 55 (x4 qg (xi qc) (xb v4) qh))],[]⟩)) qd))))) qd) qd) (.ask (.call 48 qf) qa [.s] (xs v8) false (.asks (.call 70 (x2 (xs v8) (xs (.cs [47,42])))) [.b] (xb v9) (.ite v9 (.leaf (.stop [tt,tt,ff,ff,tt,tt,tt,ff,tt,ff]) [(0,xp v0),(3,xi v3),(5,xi c0)] qa) (.fin (xb (.cb false)) qa)) qd) qd)) qd) qd:=by kernel_rfl
theorem zv3:goT TT shp f47.ntmps [] [tt,tt,ff,ff,tt,tt,tt,ff,tt,ff,ff] (zae f47) [] ⟨[(0,.f1 (.ptr 0) (.va 0)),(3,.f1 (.vi .i64) (.va 6)),(5,.f1 (.vi .i64) (.va 7))],⟨.va 1,[(.va 0,some ⟨55,.f2 .cons (.f1 .vs (.va 2)) (.f2 .cons (.f1 (.vi .i64) (.va 3)) (.f2 .cons (.f1 .vb (.va 4)) (.f2 .cons (.f1 .mp (.va 5)) .nil))),.all⟩)],[]⟩,8,[]⟩ (KF TT f47 [0,3,5])=let qq:E:=xp v0;let qk:E:=xs v2;let ql:E:=xm v5;let qc:SH:=⟨v1,[(v0,xk 55 (x4 qk (xi v3) (xb v4) ql))],[]⟩;let qt:E:=xE c0 v6;let qb:E:=xw (xa v3 c2);let qg:E:=xs (.f3 .sub v2 v6 qb);let qr:E:=xi (xc 32);let qo:E:=xi v6;let qj:E:=.cv (.tup []);let qd:E:=xb (.cb true);let qh:Tree:=.fin qd ⟨v1,[(v0,xk 55 (x4 qk (xi qb) qd ql))],[]⟩;let qn:E:=xs (.cs [10]);let qf:Tree:=.stuck 0;let qa:SH:=⟨v1,[(v0,xk 55 (x4 qk (xi qb) (xb v4) ql))],[]⟩;let qm:E:=x3 (xb v12) qr qo;let qs:E:=xb v13;let qe:E:=xw (xa v3 c1);let qp:E:=xs (.f3 .sub v2 v6 qe);let qi:SH:=⟨v1,[(v0,xk 55 (x4 qk (xi qe) (xb v4) ql))],[]⟩;.ask (.call 48 (x1 qq)) qc [.s] (xs v8) false (.asks (.call 70 (x2 (xs v8) (xs (.cs [47,42])))) [.b] (xb v9) (.ite v9 (.ite (xe (xw (xa v7 c1)) c0) (.need qt (.need (xE v6 qb) (.need (xE qb (xl v2)) (.asks (.call 36 (x1 qg)) [.b] (xb v10) (.asks (.call 55 (x3 (xb v10) qr qo)) [] qj (.ite v4 qh (.asks (.call 15 (x2 qg qn)) [.b] (xb v11) (.fin qd ⟨v1,[(v0,xk 55 (x4 qk (xi qb) (xb v11) ql))],[]⟩) qf)) (.pnc v11 qa)) qf)))) (.leaf (.again [tt,tt,ff,ff,tt,tt,tt,ff,tt,ff,ff]) [(0,qq),(3,qo),(5,xi (xw (xa v7 c1)))] qa)) (.ask (.call 48 (x1 qq)) qc [.s] (xs v10) false (.asks (.call 70 (x2 (xs v10) (xs (.cs [42,47])))) [.b] (xb v11) (.ite v11 (.ite (xe (xw (xS v7 c1)) c0) (.need qt (.need (xE v6 qb) (.need (xE qb (xl v2)) (.asks (.call 36 (x1 qg)) [.b] (xb v12) (.asks (.call 55 qm) [] qj (.ite v4 qh (.asks (.call 15 (x2 qg qn)) [.b] qs (.fin qd ⟨v1,[(v0,xk 55 (x4 qk (xi qb) qs ql))],[]⟩) qf)) (.pnc v13 qa)) qf)))) (.leaf (.again [tt,tt,ff,ff,tt,tt,tt,ff,tt,ff,ff]) [(0,qq),(3,qo),(5,xi (xw (xS v7 c1)))] qa)) (.asks (.call 55 (x3 (xb (xL v3 (xl v2))) qr qo)) [] qj (.ite (xe v7 c0) (.need qt (.need (xE v6 qe) (.need (xE qe (xl v2)) (.asks (.call 36 (x1 qp)) [.b] (xb v12) (.asks (.call 55 qm) [] qj (.ite v4 (.fin qd ⟨v1,[(v0,xk 55 (x4 qk (xi qe) qd ql))],[]⟩) (.asks (.call 15 (x2 qp qn)) [.b] qs (.fin qd ⟨v1,[(v0,xk 55 (x4 qk (xi qe) qs ql))],[]⟩) qf)) (.pnc v13 qi)) qf)))) (.leaf (.again [tt,tt,ff,ff,tt,tt,tt,ff,tt,ff,ff]) [(0,qq),(3,qo),(5,xi v7)] qi)) (.pnc v12 qc))) qf) qf)) qf) qf:=by kernel_rfl
theorem zy4:zaQ TT shp f30.ntmps [] (zae f30) [] ⟨[(0,.f1 (.ptr 0) (.va 0))],⟨.va 1,[(.va 0,some ⟨55,.f2 .cons (.f1 .vs (.va 2)) (.f2 .cons (.f1 (.vi .i64) (.va 3)) (.f2 .cons (.f1 .vb (.va 4)) (.f2 .cons (.f1 .mp (.va 5)) .nil))),.all⟩)],[]⟩,6,[]⟩ (KF TT f30 [0])=.leaf (.stop [false]) [(0,xp v0)] ⟨v1,[(v0,xk 55 (x4 (xs v2) (xi v3) (xb v4) (xm v5)))],[]⟩:=by kernel_rfl
theorem zwj:goT TT shp f30.ntmps [] [false,false] (zae f30) [] ⟨[(0,.f1 (.ptr 0) (.va 0))],⟨.va 1,[(.va 0,some ⟨55,.f2 .cons (.f1 .vs (.va 2)) (.f2 .cons (.f1 (.vi .i64) (.va 3)) (.f2 .cons (.f1 .vb (.va 4)) (.f2 .cons (.f1 .mp (.va 5)) .nil))),.all⟩)],[]⟩,6,[]⟩ (KF TT f30 [0])=let qd:E:=xA v2 v3;let qf:E:=xi (xw (xa v3 c1));let qa:Tree:=.ite v4 (.leaf (.again [false,false]) [(0,xp v0)] ⟨v1,[(v0,xk 55 (x4 (xs v2) qf (xb (.cb true)) (xm v5)))],[]⟩) (.leaf (.again [false,false]) [(0,xp v0)] ⟨v1,[(v0,xk 55 (x4 (xs v2) qf (xb (xe qd c10)) (xm v5)))],[]⟩);let qc:SH:=⟨v1,[(v0,xk 55 (x4 (xs v2) (xi v3) (xb v4) (xm v5)))],[]⟩;let qb:E:=x4 (xs v2) (xi v8) (xb v9) (xm v5);let qe:SH:=⟨v6,[(v0,xk 55 qb)],[]⟩;.ite (xL v3 (xl v2)) (.need (xE c0 v3) (.ite (xe qd (xc 32)) qa (.ite (xe qd (xc 9)) qa (.ite (xe qd (xc 13)) qa (.ite (xe qd c10) qa (.askk (.call 47 (x1 (xp v0))) qc [.b,.i,.b] (xb v7) [(v0,xR 55 qb)] (.ite v7 (.leaf (.again [false,false]) [(0,xp v0)] qe) (.fin (xt .nil) qe)) (.pnc v6 ⟨v7,[],[]⟩))))))) (.fin (xt .nil) qc):=by kernel_rfl
abbrev scB (s:Bs)(i:Nat)(l:Bool)(m:Nat):Blk:={ty:=55,cells:=[.s s,.i .i64 i,.b l,.mp m],kind:=.all}
def zeV (s:Bs):Nat→Nat→Nat→Option Nat
 |0,_,_=>none
 |n+1,i,d=>if zbv (s.drop i) [47,42]=true then zeV s n (i+2) (d+1)
  else if zbv (s.drop i) [42,47]=true then(if d=1 then some (i+2)else zeV s n (i+2) (d-1))
  else if i<s.length then zeV s n (i+1) d else none
def zk4 (s:Bs)(i:Nat)(l:Bool)(o:Option Nat):Option (Nat×Bool):=match o with
 |some e=>if Lib.validD ((s.take e).drop i)=true then some (e,l||Lib.contains ((s.take e).drop i) [10])else none
 |none=>none
def zrw (H:zaa)(n:Nat)(s:Bs)(m:Nat)(i:Nat)(o:Option (Nat×Bool))(r:OR):Prop:=match o with
 |some p=>r=.val (.b true) (H.set n (some (scB s p.1 p.2 m)))
 |none=>∃b,r=.pan (zcu 32 i) (H.set n b)
theorem zbw {s p:Bs}(h:zbv s p=true):p.length≤s.length:=by
 simp only[zbv,jMa,jTa]at h;exact h.1
theorem zlA {call:zad}(hm:zdO call)(hvs:∀x:Bs,x.length<20000000→∀H,call 36 [.s x] H=.val (.b (Lib.validD x)) H)
 (hct:∀x y:Bs,x.length<4294967281→∀H,call 15 [.s x,.s y] H=.val (.b (Lib.contains x y)) H)(s:Bs)(m a e:Nat)(l:Bool)(q:Nat)(H0:zaa)(hs:s.length<1100000) :
 (∃x,(∀K,call 36 [.s ((s.take e).drop a)] K=.val (.b x) K) ∧
  (((∀K,call 55 [.b x,.i .i64 32,.i .i64 (a:Nat)] K=.val (.tup []) K)∧(l=true→zrw H0 q s m a (zk4 s a l (some e)) (.val (.b true) (H0.set q (some ⟨55,[.s s,.i .i64 (e:Nat),.b true,.mp m],.all⟩)))) ∧
   (l=false→(∃y,(∀K,call 15 [.s ((s.take e).drop a),.s [10]] K=.val (.b y) K)∧zrw H0 q s m a (zk4 s a l (some e)) (.val (.b true) (H0.set q (some ⟨55,[.s s,.i .i64 (e:Nat),.b y,.mp m],.all⟩))))∨∃v,(∀K,call 15 [.s ((s.take e).drop a),.s [10]] K=.pan v K)∧False)) ∨
  ∃v,(∀K,call 55 [.b x,.i .i64 32,.i .i64 (a:Nat)] K=.pan v K)∧zrw H0 q s m a (zk4 s a l (some e)) (.pan v (H0.set q (some ⟨55,[.s s,.i .i64 (e:Nat),.b l,.mp m],.all⟩))))) ∨
 ∃v,(∀K,call 36 [.s ((s.take e).drop a)] K=.pan v K)∧False:=by
 have hl:((s.take e).drop a).length<20000000:=by rw[jJa,jSb];omega
 refine .inl ⟨_,fun K=>hvs _ hl K,zaU hm _ _ _ (fun h=>⟨fun h1=>?_,fun h1=>.inl ⟨_,fun K=>hct _ _ (by omega) K,?_⟩⟩) (fun h=>?_)⟩
 ·simp only[zk4,if_pos h,zrw,h1,Bool.true_or]
 ·simp only[zk4,if_pos h,zrw,h1,jVd]
 ·have h':¬Lib.validD ((s.take e).drop a)=true:=by rw[h];exact jZb
  simp only[zk4,if_neg h',zrw];exact⟨_,rfl⟩
theorem zsh {call:zad}(hC:call.Sound prog TT)(hm:zdO call)(hrest:∀(n:Nat)(s:Bs)(i:Nat)(l:Bool)(m:Nat)(H:zaa),ScB H n s i l m→i≤s.length→call 48 [.ptr n 0] H=.val (.s (s.drop i)) H)
 (hpre:∀x y:Bs,∀H,call 70 [.s x,.s y] H=.val (.b (zbv x y)) H)(hvs:∀x:Bs,x.length<20000000→∀H,call 36 [.s x] H=.val (.b (Lib.validD x)) H)
 (hct:∀x y:Bs,x.length<4294967281→∀H,call 15 [.s x,.s y] H=.val (.b (Lib.contains x y)) H)(s:Bs)(m a:Nat)(l:Bool)(q:Nat)(H0:zaa)(hs:s.length<1100000)(ha:a≤s.length)(hq:q<H0.length) :
 ∀(n i d:Nat)(t:Tm),s.length<n+i→a≤i→i≤s.length→d≤i→(0<d∨zbv (s.drop i) [47,42]=true)→t.wid=f47.ntmps→t.get 0=.ptr q 0→t.get 3=.i .i64 (a:Nat)→t.get 5=.i .i64 (d:Nat) →
 ctx prog TT [tt,tt,ff,ff,tt,tt,tt,ff,tt,ff,ff] (zae f47) (zaF TT f47 (zrw H0 q s m a (zk4 s a l (zeV s n i d)))) (.norm t (H0.set q (some (scB s i l m)))):=by
 intro n;induction n with
 |zero=>intro i d t h1 h2;omega
 |succ n ih=>
  intro i d t hn hai hi hd hd0 hw t0 t3 t5;refine zaM.symIn (p:=[tt,tt,ff,ff,tt,tt,tt,ff,tt,ff]) zaf hC rfl zv3 (by kernel_rfl) [.un q,.uh H0,.us s,.ui (i:Nat),.ub l,.un m,.ui (a:Nat),.ui (d:Nat)] rfl hw ⟨t0,t3,t5,trivial⟩ rfl ⟨by simp;exact hq,by simp⟩ ?_;clear t0 t3 t5 hw;simp -implicitDefEqProofs only[VC,isR,exU,Ask.den,E.den,O1.den,O2.den,O3.den,SH.den,zat,za9,bD,SB.den,zai,LQ,uu,uW,jOa,jUa,jDa,zbB,jSa,if_false,if_true];have w2:IntKind.i64.wrap ((i:Int)+2)=((i+2:Nat):Int):=by rw[w64 (by omega) (by omega)];omega
  have w1:IntKind.i64.wrap ((i:Int)+1)=((i+1:Nat):Int):=by rw[w64 (by omega) (by omega)];omega
  have wd:IntKind.i64.wrap ((d:Int)+1)=((d+1:Nat):Int):=by rw[w64 (by omega) (by omega)];omega
  simp only[w2,w1,wd,jCa];have hr:=hrest q s i l m (H0.set q (some (scB s i l m))) (by unfold ScB;rw[jFb hq]) hi;refine .inl ⟨_,hr,.inl ⟨_,fun K=>hpre _ _ K,fun h1=>⟨fun h2=>by omega,fun _ t' hw' f0 f3 f5=>?_⟩,fun h1=>.inl ⟨_,hr,.inl ⟨_,fun K=>hpre _ _ K,fun h2=>?_,fun h2=>?_⟩⟩⟩⟩
  ·have hl:=zbw h1;rw[jJa]at hl;simp only[jIa,jVa]at hl;have e:zeV s (n+1) i d=zeV s n (i+2) (d+1):=by simp only[zeV,if_pos h1]
   rw[e];exact ih (i+2) (d+1) t' (by omega) (by omega) (by omega) (by omega) (.inl (by omega)) hw' f0 f3 f5
  ·have hl:=zbw h2;rw[jJa]at hl;simp only[jIa,jVa]at hl;have h1':¬zbv (s.drop i) [47,42]=true:=by rw[h1];exact jZb
   have hd1:0<d:=hd0.resolve_right h1';have wm:IntKind.i64.wrap ((d:Int)-1)=((d-1:Nat):Int):=by rw[w64 (by omega) (by omega)];omega
   simp only[wm];refine⟨fun h3=>⟨by omega,by omega,by omega,?_⟩,fun h3 t' hw' f0 f3 f5=>?_⟩
   ·have e:zeV s (n+1) i d=some (i+2):=by simp only[zeV,if_neg h1',if_pos h2];rw[if_pos (by omega)]
    rw[e];exact zlA hm hvs hct s m a (i+2) l q H0 hs
   ·have e:zeV s (n+1) i d=zeV s n (i+2) (d-1):=by simp only[zeV,if_neg h1',if_pos h2];rw[if_neg (by omega)]
    rw[e];exact ih (i+2) (d-1) t' (by omega) (by omega) (by omega) (by omega) (.inl (by omega)) hw' f0 f3 f5
  ·have h1':¬zbv (s.drop i) [47,42]=true:=by rw[h1];exact jZb
   have h2':¬zbv (s.drop i) [42,47]=true:=by rw[h2];exact jZb
   have hd1:0<d:=hd0.resolve_right h1';refine zaU hm _ _ _ (fun h3=>⟨fun h4=>by omega,fun h4 t' hw' f0 f3 f5=>?_⟩) (fun h3=>?_)
   ·have hlt:i<s.length:=by simp only[zmO]at h3;omega
    have e:zeV s (n+1) i d=zeV s n (i+1) d:=by simp only[zeV,if_neg h1',if_neg h2',if_pos hlt]
    rw[e];exact ih (i+1) d t' (by omega) (by omega) (by omega) (by omega) (.inl hd1) hw' f0 f3 f5
   ·have hlt:¬i<s.length:=by simp only[zg9]at h3;omega
    have e:zeV s (n+1) i d=none:=by simp only[zeV,if_neg h1',if_neg h2',if_neg hlt]
    rw[e];exact⟨_,rfl⟩
def znM (s:Bs)(i:Nat)(l:Bool):Option (Option (Nat×Bool)):=
 if zbv (s.drop i) [47,47]=true then some (zk4 s i l (some (if Lib.indexByte (s.drop i) 10<0 then s.length else i+(Lib.indexByte (s.drop i) 10).toNat)))
 else if zbv (s.drop i) [47,42]=true then some (zk4 s i l (zeV s (s.length+1) i 0))else none
def zrV (H:zaa)(p:Nat×Bs×Nat×Bool×Nat)(r:OR):Prop:=match znM p.2.1 p.2.2.1 p.2.2.2.1 with
 |none=>r=.val (.b false) H
 |some o=>zrw H p.1 p.2.1 p.2.2.2.2 p.2.2.1 o r
theorem ScB.inj {H:zaa}{n i i' m m':Nat}{s s':Bs}{l l':Bool}(h:ScB H n s i l m)(h':ScB H n s' i' l' m'):s=s'∧i=i'∧l=l'∧m=m':=by
 unfold ScB at h h';rw[h]at h';simp only[jNa,Blk.mk.injEq,jPa,V.s.injEq,V.i.injEq,V.b.injEq,V.mp.injEq,jLb,jGb,jAd]at h';exact h'
theorem zx7:∃g,zak prog TT 47 g∧∀(p:Nat×Bs×Nat×Bool×Nat)(H:zaa),(ScB H p.1 p.2.1 p.2.2.1 p.2.2.2.1 p.2.2.2.2∧p.2.2.1≤p.2.1.length∧p.2.1.length<1100000)→zrV H p (g [.ptr p.1 0] H):=by
 obtain⟨g1,k1,s1⟩:=zd3;obtain⟨g2,k2,s2⟩:=ztY;obtain⟨g3,k3,s3⟩:=znc;obtain⟨g4,k4,s4⟩:=zht;have hC:=ws (ws (ws (ws (ws (ws n0 k1) k2) k3) k4) zAT) zAW;have c1:zdO ((((((zad.none.with 55 g1).with 48 g2).with 70 g3).with 36 g4).with 15 zbH).with 71 zcz):=fun b e k H=>by
  rw[zac _ _ _ _ rfl,zac _ _ _ _ rfl,zac _ _ _ _ rfl,zac _ _ _ _ rfl,zac _ _ _ _ rfl,zan];exact s1 b e k H
 have c2:∀(n:Nat)(s:Bs)(i:Nat)(l:Bool)(m:Nat)(H:zaa),ScB H n s i l m→i≤s.length→((((((zad.none.with 55 g1).with 48 g2).with 70 g3).with 36 g4).with 15 zbH).with 71 zcz) 48 [.ptr n 0] H=.val (.s (s.drop i)) H:=fun n s i l m H h1 h2=>by
  rw[zac _ _ _ _ rfl,zac _ _ _ _ rfl,zac _ _ _ _ rfl,zac _ _ _ _ rfl,zan];exact s2 n s i l m H h1 h2
 have c3:∀x y:Bs,∀H,((((((zad.none.with 55 g1).with 48 g2).with 70 g3).with 36 g4).with 15 zbH).with 71 zcz) 70 [.s x,.s y] H=.val (.b (zbv x y)) H:=fun x y H=>by
  rw[zac _ _ _ _ rfl,zac _ _ _ _ rfl,zac _ _ _ _ rfl,zan];exact s3 x y H
 have c4:∀x:Bs,x.length<20000000→∀H,((((((zad.none.with 55 g1).with 48 g2).with 70 g3).with 36 g4).with 15 zbH).with 71 zcz) 36 [.s x] H=.val (.b (Lib.validD x)) H:=fun x hx H=>by
  rw[zac _ _ _ _ rfl,zac _ _ _ _ rfl,zan];exact s4 x (by omega) H
 have c5:∀x y:Bs,x.length<4294967281→∀H,((((((zad.none.with 55 g1).with 48 g2).with 70 g3).with 36 g4).with 15 zbH).with 71 zcz) 15 [.s x,.s y] H=.val (.b (Lib.contains x y)) H:=fun x y hx H=>by
  rw[zac _ _ _ _ rfl,zan];exact if_pos hx
 have c6:∀x:Bs,∀H,((((((zad.none.with 55 g1).with 48 g2).with 70 g3).with 36 g4).with 15 zbH).with 71 zcz) 71 [.s x,.i .u8 10] H=.val (.i .i64 (Lib.indexByte x 10)) H:=fun x H=>by
  rw[zan];rfl
 generalize(((((zad.none.with 55 g1).with 48 g2).with 70 g3).with 36 g4).with 15 zbH).with 71 zcz=call at hC c1 c2 c3 c4 c5 c6;refine zc2 zaf 47 (fun p:Nat×Bs×Nat×Bool×Nat=>[.ptr p.1 0]) (fun p H=>ScB H p.1 p.2.1 p.2.2.1 p.2.2.2.1 p.2.2.2.2∧p.2.2.1≤p.2.1.length∧p.2.1.length<1100000) (fun p H r=>zrV H p r) ?_ ?_
 ·rintro⟨n,s,i,l,m⟩ ⟨n',s',i',l',m'⟩ H r ⟨h1,_⟩ ⟨h2,_⟩ he hr;simp only[jPa,V.ptr.injEq,jGb]at he;subst he;obtain⟨rfl,rfl,rfl,rfl⟩:=h1.inj h2;exact hr
 ·rintro⟨q,s,i,l,m⟩ H ⟨hb,hi,hs⟩;simp only at hb hi hs ⊢;have hq:q<H.length:=zaa.lt hb;have e1:H.set q (some (scB s i l m))=H:=(zaa.set_self hb).symm;refine zaA.sym zaf hC (fn:=f47) rfl rfl (by simp[f47]) zyL (by kernel_rfl) [.un q,.uh H,.us s,.ui (i:Nat),.ub l,.un m] rfl ⟨by rw[zag];rfl,trivial⟩ (zaa.set_self hb) ⟨by simp;exact hq,by simp⟩ ?_;simp -implicitDefEqProofs only[VC,isR,exU,Ask.den,E.den,O1.den,O2.den,O3.den,SH.den,zat,za9,bD,SB.den,zai,LQ,uu,uW,jOa,jUa,jDa,zbB,jSa,if_false,if_true];have hr:=c2 q s i l m _ (show ScB (H.set q (some (scB s i l m))) q s i l m by unfold ScB;rw[jFb hq]) hi;refine .inl ⟨_,hr,.inl ⟨_,fun K=>c3 _ _ K,fun h1=>.inl ⟨_,hr,.inl ⟨_,fun K=>c6 _ K,fun h2=>.inl ⟨_,hr,?_⟩,fun h2=>?_⟩⟩,fun h1=>.inl ⟨_,hr,.inl ⟨_,fun K=>c3 _ _ K,fun h2 t' hw' f0 f3 f5=>?_,fun h2=>?_⟩⟩⟩⟩
  ·have w1:IntKind.i64.wrap ((i:Int)+((s.drop i).length:Nat))=(s.length:Nat):=by rw[jJa,w64 (by omega) (by omega)];omega
   simp only[w1,jCa,zrV,znM,if_pos h1];rw[if_pos h2];exact⟨by omega,by omega,by omega,zlA c1 c4 c5 s m i s.length l q H hs⟩
  ·have hx:=Lib.index_room (s.drop i) [10] (by rw[Lib.index_one];omega);rw[Lib.index_one,jJa,length_singleton]at hx;obtain⟨k,hk⟩:∃k:Nat,Lib.indexByte (s.drop i) 10=k:=⟨(Lib.indexByte (s.drop i) 10).toNat,by omega⟩;rw[hk]at hx h2 ⊢;have w1:IntKind.i64.wrap ((i:Int)+(k:Nat))=((i+k:Nat):Int):=by rw[w64 (by omega) (by omega)];omega
   have ec:znM s i l=some (zk4 s i l (some (i+k))):=by simp only[znM,if_pos h1,hk,jCa];rw[if_neg h2]
   simp only[w1,jCa,zrV,ec];exact⟨by omega,by omega,by omega,zlA c1 c4 c5 s m i (i+k) l q H hs⟩
  ·have h1':¬zbv (s.drop i) [47,47]=true:=by rw[h1];exact jZb
   simp only[zrV,znM,if_neg h1',if_pos h2];exact Tri.symLoop rfl (zsh hC c1 c2 c3 c4 c5 s m i l q H hs hi hq (s.length+1) i 0 t' (by omega) (by omega) (by omega) (by omega) (.inr h2) hw' f0 f3 f5)
  ·have h1':¬zbv (s.drop i) [47,47]=true:=by rw[h1];exact jZb
   have h2':¬zbv (s.drop i) [47,42]=true:=by rw[h2];exact jZb
   simp only[zrV,znM,if_neg h1',if_neg h2',e1]
def zk6 (s:Bs)(base:Nat):Option (Int×Bs×Nat):=match zb6 base (s.drop 2) 0 with
 |none=>none
 |some n=>if 0<n then(match zdI base ((s.take (2+n)).drop 2) 0 with
  |none=>none
  |some a=>if zmy s (2+n)=true then some (3,zlj a,2+n)else none)else none
def zdg (s:Bs)(m:Nat)(r:Bool):Option (Nat×Bool):=match zgg (s.drop m)with
 |none=>none
 |some k=>if 0<k then(if zmy s (m+k)=true then some (m+k,true)else none)else if zmy s m=true then some (m,r)else none
def zfO (s:Bs):Option (Nat×Bool):=match zb6 10 s 0 with
 |none=>none
 |some n=>if n+1<s.length∧atS s n=46∧(decide (48≤atS s (n+1:Nat))&&decide (atS s (n+1:Nat)≤57))=true then(match zb6 10 (s.drop (n+1)) 0 with
  |none=>none
  |some k=>zdg s (n+(1+k)) true)else zdg s n false
def za1 (s:Bs):Bs:=(s.filter fun c=>c !=95).map fun c=>if c=69 then 101 else c
def zdv (s:Bs):Option (Int×Bs×Nat):=
 if zbv s [48,120]=true then zk6 s 16 else if zbv s [48,98]=true then zk6 s 2 else match zfO s with
  |none=>none
  |some (m,true)=>some (4,za1 (s.take m),m)
  |some (m,false)=>match zdI 10 (s.take m) 0 with
   |none=>none
   |some a=>some (3,zlj a,m)
def zmQ (o:Option (Int×Bs×Nat))(at_:Int):Res:=match o with
 |some r=>.val (.tup [.i .i64 r.1,.s r.2.1,.i .i64 (r.2.2:Nat)])
 |none=>.pan (zcu 33 at_)
theorem zi2 (s:Bs)(k:Nat)(h:zgg s=some k):k≤s.length:=by
 cases s with
 |nil=>simp[zgg]at h;omega
 |cons c r=>
  simp only[zgg]at h;split at h
  ·split at h
   ·rename_i k' hk;have:=zcg 10 _ _ _ hk;rw[jJa]at this;have h:=jWa h;have:zfp r≤(c::r).length∨(c::r).length<zfp r:=by omega
    simp only[jIa]at *;omega
   ·cases h
  ·have h:=jWa h;omega
structure NumH (call:zad) (at_:Int):Prop where
  run:∀(s:Bs)(base:Nat),s.length<1100000→base=2∨base=10∨base=16→∀K,call 75 [.s s,.i .i64 base,.i .i64 at_] K=(match zb6 base s 0 with|some n=>.val (.i .i64 n) K|none=>.pan (zcu 33 at_) K)
  exp:∀(s:Bs),s.length<1100000→∀K,call 77 [.s s,.i .i64 at_] K=(match zgg s with|some n=>.val (.i .i64 n) K|none=>.pan (zcu 33 at_) K)
  who:∀(s:Bs)(base:Nat),base=2∨base=10∨base=16→s.length<1100000→∀K,call 76 [.s s,.i .i64 base,.i .i64 at_] K=(zwo base s at_).at K
  pre:∀x y:Bs,∀K,call 70 [.s x,.s y] K=.val (.b (zbv x y)) K
  dig:∀c:Int,∀K,call 50 [.i .u8 c] K=.val (.b (decide (48≤c)&&decide (c≤57))) K
  must:zdO call
  ends:zAD call
theorem NumH.who' {call:zad} {at_:Int} (h:NumH call at_) (s:Bs) (base:Nat) (hb:base=2∨base=10∨base=16) (hs:s.length<1100000) {A:Bs→Prop} {B:V→Prop} (h1:∀n:Nat,zdI base s 0=some n→A (zlj n)) (h2:zdI base s 0=none→B (zcu 33 at_)) :
    (∃x,(∀K,call 76 [.s s,.i .i64 base,.i .i64 at_] K=.val (.s x) K)∧A x)∨∃v,(∀K,call 76 [.s s,.i .i64 base,.i .i64 at_] K=.pan v K)∧B v:=
  zvS (h.who s base hb hs) rfl h1 h2
abbrev zhM (s:Bs)(at_:Int):zaa:=[some ⟨9,[.s s],.all⟩,some ⟨3,[.i .i64 at_],.all⟩,none]
theorem zmh {t:Tm}{H:zaa}{k:Int}{x:Bs}{n:Nat}{o:Option (Int×Bs×Nat)}{at_:Int}(f4:t.get 4=.i .i64 k)(f5:t.get 5=.s x)(f6:t.get 6=.i .i64 (n:Nat))(ho:o=some (k,x,n)):zaF TT f51 (isR (zmQ o at_)) (.ret t H):=by
 subst ho;refine⟨_,rfl,?_⟩;simp[f51,f4,f5,f6]
theorem zqz {call:zad}(hC:call.Sound prog TT)(s:Bs)(at_:Int)(hn:NumH call at_)(hs:s.length<1100000)(p:Bs)(base:Nat)(hb:base=2∨base=10∨base=16)(hp:p.length=2)(itv:V)(t:Tm){Q:Out→Prop}
 (hw:t.wid=f51.ntmps)(t2:t.get 2=.ptr 0 0)(t3:t.get 3=.ptr 1 0)(t7:t.get 7=.fn 74 [.ptr 0 0,.ptr 1 0])(t8:t.get 8=.s p)(t9:t.get 9=.i .i64 base)(t16:t.get 16=itv)(t4:t.get 4=.i .i64 0)(t5:t.get 5=.s [])(t6:t.get 6=.i .i64 0)
 (hY:zbv s p=true→∀o,zaF TT f51 (isR (zmQ (zk6 s base) at_)) o→(∃v t H,o=.pan v t H)∨(∃t H,o=.ret t H)→Q o)
 (hN:zbv s p=false→∀t':Tm,t'.wid=f51.ntmps→t'.get 2=.ptr 0 0→t'.get 3=.ptr 1 0→t'.get 4=.i .i64 0→t'.get 5=.s []→t'.get 6=.i .i64 0→t'.get 7=.fn 74 [.ptr 0 0,.ptr 1 0]→t'.get 16=itv→Q (.norm t' (zhM s at_))) :
 Tri prog TT (sub [tt,tt,ff,tt,ff,ff,tt,tt,ff,tt] (zae f51)) t (zhM s at_) Q:=by
 refine Tri.sym (R:=fun _=>False) zaf hC zwg (by kernel_rfl) (σ:=[.uh (zhM s at_),.un 0,.un 1,.us s,.ui at_,.us p,.ui base,.uv itv]) hw rfl ⟨t2,t3,t7,t8,t9,t16,t4,t5,t6,trivial⟩ rfl ⟨by simp,by simp⟩ ?_;clear t2 t3 t7 t8 t9 t16 t4 t5 t6;simp -implicitDefEqProofs only[VC,isR,exU,Ask.den,E.den,O1.den,O2.den,O3.den,SH.den,zat,za9,bD,SB.den,zai,LQ,uu,uW,jOa,jUa,jDa,jSa,if_false,if_true];have e2:((zhM s at_).set 1 (some ⟨3,[.i .i64 at_],.all⟩)).set 0 (some ⟨9,[.s s],.all⟩)=zhM s at_:=rfl;rw[e2];have d2:(s.take s.length).drop (2:Int).toNat=s.drop 2:=by rw[jRd];rfl
 rw[d2];refine .inl ⟨_,fun K=>hn.pre s p K,fun h=>?_,fun h=>?_⟩
 ·have hl:=zbw h;refine⟨by omega,zhe (hn.run (s.drop 2) base (by rw[jJa];omega) hb) (fun n hr=>?_) (fun hr=>?_)⟩
  ·have hnl:=zcg base _ _ _ hr;rw[jJa]at hnl;have w2:IntKind.i64.wrap (2+(n:Int))=((2+n:Nat):Int):=by rw[w64 (by omega) (by omega)];omega
   rw[w2];simp only[jCa];refine zaU hn.must _ _ _ (fun h1=>?_) (fun h1=>?_)
   ·have h0:0<n:=by simpa using h1
    refine⟨by omega,by omega,hn.who' _ base hb (by rw[jJa,jSb];omega) (fun a ha=>?_) (fun ha=>?_)⟩
    ·refine zgM (hn.ends (2+n) s at_ 0 1 (zhM s at_) (by omega) (by omega) hs rfl rfl) (fun he=>?_) (fun he=>?_)
     ·intro t' hw' f2 f3 f4 f5 f6 f7 f16;refine hY h _ (zmh f4 f5 f6 ?_) (.inr ⟨_,_,rfl⟩);simp only[zk6,hr,if_pos h0];have ha':zdI base ((s.take (2+n)).drop 2) 0=some a:=ha;simp only[ha',if_pos he]
     ·intro t' hw' f2 f3 f7 f16;refine hY h _ ?_ (.inl ⟨_,_,_,rfl⟩);have ha':zdI base ((s.take (2+n)).drop 2) 0=some a:=ha;simp only[zk6,hr,if_pos h0,ha',he,jSa,if_false];exact rfl
    ·intro t' hw' f2 f3 f7 f16;refine hY h _ ?_ (.inl ⟨_,_,_,rfl⟩);have ha':zdI base ((s.take (2+n)).drop 2) 0=none:=ha;simp only[zk6,hr,if_pos h0,ha'];exact rfl
   ·have h0:¬0<n:=by simpa using h1
    intro t' hw' f2 f3 f4 f5 f6 f7 f16;refine hY h _ ?_ (.inl ⟨_,_,_,rfl⟩);simp only[zk6,hr,if_neg h0];exact rfl
  ·intro t' hw' f2 f3 f4 f5 f6 f7 f16;refine hY h _ ?_ (.inl ⟨_,_,_,rfl⟩);simp only[zk6,hr];exact rfl
 ·intro t' hw' f2 f3 f4 f5 f6 f7 f16;exact hN h t' hw' f2 f3 f4 f5 f6 f7 f16
def zj9 (s:Bs):Option (Nat×Bool)→Option (Int×Bs×Nat)
 |none=>none
 |some (m,true)=>some (4,za1 (s.take m),m)
 |some (m,false)=>match zdI 10 (s.take m) 0 with
  |none=>none
  |some a=>some (3,zlj a,m)
theorem zhd (s:Bs):zdv s=if zbv s [48,120]=true then zk6 s 16 else if zbv s [48,98]=true then zk6 s 2 else zj9 s (zfO s):=by
 unfold zdv zj9;rfl
def zwq (s:Bs)(at_:Int):Prop:=∀(m:Nat)(t:Tm),zfO s=some (m,true)→m≤s.length→t.wid=f51.ntmps→t.get 2=.ptr 0 0→t.get 3=.ptr 1 0→t.get 6=.i .i64 (m:Nat) →
 Tri prog TT (sub [tt,tt,tt,tt,tt,tt,ff] (sub [true,true,true] (zae f51))) t (zhM s at_) (ctx prog TT [tt,tt,tt,tt,tt,tt,ff] (sub [true,true,true] (zae f51)) (zaF TT f51 (isR (zmQ (zj9 s (zfO s)) at_))))
theorem zs2 {call:zad} (hC:call.Sound prog TT) (s:Bs) (at_:Int) (hn:NumH call at_) (hs:s.length<1100000) (hf:zwq s at_) (t:Tm)
    (hw:t.wid=f51.ntmps)(t2:t.get 2=.ptr 0 0)(t3:t.get 3=.ptr 1 0)(t7:t.get 7=.fn 74 [.ptr 0 0,.ptr 1 0])(t4:t.get 4=.i .i64 0)(t5:t.get 5=.s [])(t6:t.get 6=.i .i64 0) :
    Tri prog TT (sub [true,true,true] (zae f51)) t (zhM s at_) (zaF TT f51 (isR (zmQ (zj9 s (zfO s)) at_))):=by
  refine Tri.sym (R:=fun _=>False) zaf hC zyU (by kernel_rfl) (σ:=[.uh (zhM s at_),.un 0,.un 1,.us s,.ui at_]) hw rfl ⟨t2,t3,t7,t4,t5,t6,trivial⟩ rfl ⟨by simp,by simp⟩ ?_
  clear t2 t3 t7 t4 t5 t6
  simp -implicitDefEqProofs only[VC,isR,exU,Ask.den,E.den,O1.den,O2.den,O3.den,SH.den,zat,za9,bD,SB.den,zai,LQ,uu,uW,jOa,jUa,jDa,jSa,if_false,if_true]
  have e2:((zhM s at_).set 1 (some ⟨3,[.i .i64 at_],.all⟩)).set 0 (some ⟨9,[.s s],.all⟩)=zhM s at_:=rfl
  rw[e2]
  simp only[jRd]
  have hends:=fun n (h:n≤s.length)=>hn.ends n s at_ 0 1 (zhM s at_) (by omega) h hs rfl rfl
  have whole:∀n:Nat,n≤s.length→zfO s=zdg s n false→zgg (s.drop n)=some 0→zmy s n=true →
      (∃x,(∀K,call 76 [.s ((s.take n).drop 0),.i .i64 10,.i .i64 at_] K=.val (.s x) K)∧∀t':Tm,t'.wid=f51.ntmps→t'.get 2=.ptr 0 0→t'.get 3=.ptr 1 0→t'.get 4=.i .i64 3→t'.get 5=.s x→t'.get 6=.i .i64 (n:Nat)→zaF TT f51 (isR (zmQ (zj9 s (zfO s)) at_)) (.ret t' (zhM s at_))) ∨
      ∃v,(∀K,call 76 [.s ((s.take n).drop 0),.i .i64 10,.i .i64 at_] K=.pan v K)∧∀t':Tm,t'.wid=f51.ntmps→t'.get 2=.ptr 0 0→t'.get 3=.ptr 1 0→zaF TT f51 (isR (zmQ (zj9 s (zfO s)) at_)) (.pan v t' (zhM s at_)):=by
    intro n hnl hd he hq
    have hd':zfO s=some (n,false):=by rw[hd];simp only[zdg,he,hq,if_true];rfl
    refine hn.who' _ 10 (.inr (.inl rfl)) (by rw[jJa,jSb];omega) (fun a ha=>?_) (fun ha=>?_)
    · intro t' hw' f2 f3 f4 f5 f6
      refine zmh f4 f5 f6 ?_
      have ha':zdI 10 (s.take n) 0=some a:=ha
      rw[hd']
      simp only[zj9,ha']
    · intro t' hw' f2 f3
      have ha':zdI 10 (s.take n) 0=none:=ha
      rw[hd']
      simp only[zj9,ha']
      exact rfl
  have pan:∀(t':Tm) (H:zaa),zfO s=none→zaF TT f51 (isR (zmQ (zj9 s (zfO s)) at_)) (.pan (zcu 33 at_) t' H):=by
    intro t' H hd
    rw[hd]
    exact rfl
  refine zhe (hn.run s 10 hs (.inr (.inl rfl))) (fun n hr=>?_) (fun hr t' hw' f2 f3 f4 f5 f6=>pan _ _ (by
    have hr:zb6 10 s 0=none:=hr
    simp only[zfO,hr]))
  have hr:zb6 10 s 0=some n:=hr
  have hnl:=zcg 10 _ _ _ hr
  have w1:IntKind.i64.wrap ((n:Int)+1)=((n+1:Nat):Int):=by rw[w64 (by omega) (by omega)];omega
  rw[w1]
  simp only[jCa]
  have noFrac:zfO s=zdg s n false→∀(A:Int→Prop) (B:V→Prop),
      (zgg (s.drop n)=some 0→A 0)→(∀k:Nat,0<k→zgg (s.drop n)=some k→n+k≤s.length→A k)→(zfO s=none→B (zcu 33 at_)) →
      (∃x,(∀K,call 77 [.s (s.drop n),.i .i64 at_] K=.val (.i .i64 x) K)∧A x)∨∃v,(∀K,call 77 [.s (s.drop n),.i .i64 at_] K=.pan v K)∧B v:=by
    intro hd A B h0 h1 h2
    refine zhe (hn.exp (s.drop n) (by rw[jJa];omega)) (fun k hk=>?_) (fun hk=>?_)
    · have hkl:=zi2 _ _ hk
      rw[jJa]at hkl
      by_cases hk0:0<k
      · exact h1 k hk0 hk (by omega)
      · have:k=0:=by omega
        subst this
        exact h0 hk
    · exact h2 (by rw[hd];simp only[zdg,hk])
  refine⟨fun h1=>⟨by omega,by omega,fun h2=>⟨by omega,.inl ⟨_,fun K=>hn.dig _ K,fun h3=>⟨by omega,?frac⟩,fun h3=>⟨by omega,?tail1⟩⟩⟩,fun h2=>⟨by omega,?tail2⟩⟩,fun h1=>⟨by omega,by omega,?tail3⟩⟩
  case frac=>
    have hd:zfO s=match zb6 10 (s.drop (n+1)) 0 with|none=>none|some k=>zdg s (n+(1+k)) true:=by
      simp only[zfO,hr]
      rw[if_pos ⟨by omega,h2,h3⟩]
    refine zhe (hn.run (s.drop (n+1)) 10 (by rw[jJa];omega) (.inr (.inl rfl))) (fun k hk=>?_) (fun hk t' hw' f2 f3 f4 f5=>pan _ _ (by
      have hk:zb6 10 (s.drop (n+1)) 0=none:=hk
      rw[hd,hk]))
    have hk:zb6 10 (s.drop (n+1)) 0=some k:=hk
    have hkl:=zcg 10 _ _ _ hk
    rw[jJa]at hkl
    rw[hk]at hd
    simp only at hd
    have w2:IntKind.i64.wrap (1+(k:Int))=((1+k:Nat):Int):=by rw[w64 (by omega) (by omega)];omega
    have w3:IntKind.i64.wrap ((n:Int)+((1+k:Nat):Int))=((n+(1+k):Nat):Int):=by rw[w64 (by omega) (by omega)];omega
    rw[w2,w3]
    simp only[jCa]
    generalize hm:n+(1+k)=m at hd w3 ⊢
    have hml:m≤s.length:=by omega
    refine⟨by omega,by omega,zhe (hn.exp (s.drop m) (by rw[jJa];omega)) (fun j hj=>?_) (fun hj t' hw' f2 f3 f4 f5 f6=>pan _ _ (by rw[hd];simp only[zdg,hj]))⟩
    have hjl:=zi2 _ _ hj
    rw[jJa]at hjl
    refine⟨fun h0=>?_,fun h0=>?_⟩
    · have w4:IntKind.i64.wrap ((m:Int)+(j:Nat))=((m+j:Nat):Int):=by rw[w64 (by omega) (by omega)];omega
      rw[w4]
      have hj0:0<j:=by omega
      refine zgM (hends (m+j) (by omega)) (fun hq t' hw' f2 f3 f4 f5 f6=>hf (m+j) t' (by rw[hd];simp only[zdg,hj,if_pos hj0,if_pos hq]) (by omega) hw' f2 f3 f6) (fun hq t' hw' f2 f3 f4 f5 f6=>pan _ _ (by rw[hd];simp only[zdg,hj,if_pos hj0,hq];rfl))
    · have hj0:¬0<j:=by omega
      refine zgM (hends m hml) (fun hq t' hw' f2 f3 f4 f5 f6=>hf m t' (by rw[hd];simp only[zdg,hj,if_neg hj0,if_pos hq]) hml hw' f2 f3 f6) (fun hq t' hw' f2 f3 f4 f5 f6=>pan _ _ (by rw[hd];simp only[zdg,hj,if_neg hj0,hq];rfl))
  all_goals
    have hd:zfO s=zdg s n false:=by
      simp only[zfO,hr]
      rw[if_neg]
      rintro⟨k1,k2,k3⟩
      first
        |omega
        |exact h2 k2
        |(rw[h3]at k3;cases k3)
    refine noFrac hd _ _ (fun he=>⟨fun h=>absurd h (by omega),fun _=>?_⟩) (fun k hk he hkl=>⟨fun _=>?_,fun h=>absurd h (by omega)⟩) (fun hd' t' hw' f2 f3 f4 f5 f6=>pan _ _ hd')
    · exact zgM (hends n (by omega)) (fun hq=>whole n (by omega) hd he hq) (fun hq t' hw' f2 f3 f4 f5 f6=>pan _ _ (by rw[hd];simp only[zdg,he,hq];rfl))
    · have w4:IntKind.i64.wrap ((n:Int)+(k:Nat))=((n+k:Nat):Int):=by rw[w64 (by omega) (by omega)];omega
      rw[w4]
      exact zgM (hends (n+k) hkl) (fun hq t' hw' f2 f3 f4 f5 f6=>hf (n+k) t' (by rw[hd];simp only[zdg,he,if_pos hk,if_pos hq]) hkl hw' f2 f3 f6) (fun hq t' hw' f2 f3 f4 f5 f6=>pan _ _ (by rw[hd];simp only[zdg,he,if_pos hk,hq];rfl))
end Go.Ev
