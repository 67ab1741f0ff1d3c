/- TokenTexts of all rows of tokens. An argument that is a row of tokens; the call. -/
import Derived.Test.YtmjplflnlggbeaaGreatDoorECF
import Derived.Test.YtmjplflnlggbeaaGreatDoorEZS
import Derived.ChangeShapes
import Derived.WideShapes
import Derived.RowKit3
import Derived.OpenShut
namespace Go.Ev
open Go Go.Proofs
set_option linter.unusedSimpArgs false
set_option linter.unusedVariables false
set_option linter.unnecessarySimpa false
open Tryz List
set_option maxRecDepth 1000000
/-! Which tokens can be written: the program's answer and the reference's. -/
theorem zvk {k:Int}{x:Bs}{l:List Tk}{y:Tk}{a:Nat}(hl:x.length≤20000)(h:zdf x=([y],a,0))(h0:y.2.2.1=0)(h1:y.1=k)(h2:y.2.1=x):∃m,zcQ kw zdv x=.inr (k,x,m):=by
 have ht:=zkP hl h;cases ht with
 |step hs hj htk hr=>
  rename_i j m l' k' t;simp only at h0 h1 h2;subst h1;subst h2;have hj0:j=0:=by omega
  subst hj0;exact⟨m,htk⟩
theorem zgm {k:Int}{x:Bs}:zrz k x (zdf x)=true↔∃y a,zdf x=([y],a,0)∧y.2.2.1=0∧y.1=k∧y.2.1=x:=by
 constructor
 ·intro h;rcases hs:zdf x with⟨l,a,e⟩;rw[hs]at h;unfold zrz at h;rw[jMa,jOa]at h;obtain⟨he,h⟩:=h;simp only at he;subst he;rcases l with _|⟨y,_|⟨z,r⟩⟩
  ·cases h
  ·simp only[jMa,jOa]at h;exact⟨y,a,rfl,h.1,h.2.1,h.2.2⟩
  ·cases h
 ·rintro⟨y,a,e,h1,h2,h3⟩;rw[e];simp[zrz,h1,h2,h3]
theorem zmR {k:Int}{x:Bs}:ztS k x (zdf x)=true↔∃y a,zdf x=([y],a,0)∧y.1=k∧y.2.1=x:=by
 constructor
 ·intro h;rcases hs:zdf x with⟨l,a,e⟩;rw[hs]at h;unfold ztS at h;rw[jMa,jOa]at h;obtain⟨he,h⟩:=h;simp only at he;subst he;rcases l with _|⟨y,_|⟨z,r⟩⟩
  ·cases h
  ·simp only[jMa,jOa]at h;exact⟨y,a,rfl,h.1,h.2⟩
  ·cases h
 ·rintro⟨y,a,e,h2,h3⟩;rw[e];simp[ztS,h2,h3]
theorem zlN {k:Int}{x:Bs}(hs:znn x)(h:zcQ kw zdv x=.inr (k,x,x.length))(hl:x.length≤20000):zrz k x (zdf x)=true:=
 zgm.2 ⟨_,0,zv2 hs h hl,rfl,rfl,rfl⟩
theorem zxg:(zdX.all fun w=>match w with
 |c::r=>(zf0 c.toNat||((c.toNat:Int)==95))&&idR (c::r) 0==(c::r).length
 | []=>false)=true:=by kernel_rfl
theorem zxL:(sgnL.all fun y=>match zcQ kw zdv y with
 | .inr (k,t,m)=>k==6&&(t==y&&m==y.length)
 | .inl _=>false)=true:=by kernel_rfl
theorem zmI {c:UInt8}{r:Bs}(h:(zf0 c.toNat||((c.toNat:Int)==95))=true):znn (c::r):=by
 have key:∀k:UInt8,(zf0 k.toNat||((k.toNat:Int)==95))=false→c≠k:=fun k hk e=>by rw[e,hk]at h;cases h
 refine zne ?_ (key 47 (by decide));unfold zwx;simp[key 32 (by decide),key 9 (by decide),key 13 (by decide),key 10 (by decide)]
theorem zsq {x:Bs}(h:0<idR x 0):∃c r,x=c::r∧(zf0 c.toNat||((c.toNat:Int)==95))=true:=by
 rcases x with _|⟨c,r⟩
 ·exact absurd h (by decide)
 ·refine⟨c,r,rfl,?_⟩;unfold idR at h;have ha:atR (c::r) 0=c.toNat:=rfl;rw[ha]at h;split at h
  ·exact absurd h (Nat.lt_irrefl 0)
  ·rename_i hh;rw[jNc];simp only[jMa,jLc,jUa]at hh;cases hl:zf0 c.toNat
   ·right;rw[jOa];exact Classical.byContradiction fun h95=>hh ⟨hl,h95⟩
   ·left;rfl
theorem ztN {x:Bs}(h0:0<idR x 0)(h:idR x 0=x.length):zcQ kw zdv x=.inr (if kw x=true then 2 else 1,x,x.length):=by
 unfold zcQ;rw[if_pos h0,h,jRd]
theorem zgs {x t:Bs}{k:Int}{m:Nat}(h:zcQ kw zdv x=.inr (k,t,m)) :
 (0<idR x 0∧t=x.take (idR x 0)∧k=if kw t=true then 2 else 1)∨((decide (48≤atS x 0)&&decide (atS x 0≤57))=true∧(k=3∨k=4))∨(atS x 0=39∧k=3∧zjR x=some (t,m))∨k=5∨(k=6∧t∈sgnL):=by
 unfold zcQ at h;split at h
 ·simp only[jOd,jZa]at h;obtain⟨rfl,rfl,rfl⟩:=h;exact .inl ⟨‹_›,rfl,rfl⟩
 split at h
 ·rename_i hd;split at h
  ·rename_i r hr;cases h;refine .inr (.inl ⟨hd,?_⟩);unfold zdv zk6 at hr;repeat' split at hr
   all_goals first
    |cases hr;done
    |(cases hr;simp)
  ·cases h
 split at h
 ·rename_i h39;split at h
  ·rename_i p hp;cases h;exact .inr (.inr (.inl ⟨h39,rfl,hp⟩))
  ·cases h
 split at h
 ·split at h
  ·cases h;exact .inr (.inr (.inr (.inl rfl)))
  ·cases h
 split at h
 ·rename_i hg;simp only[jOd,jZa]at h;obtain⟨rfl,rfl,rfl⟩:=h;exact .inr (.inr (.inr (.inr ⟨rfl,(zl3 x sgnL []).resolve_left (fun e=>by rw[e]at hg;simp at hg)⟩)))
 ·cases h
theorem zsb {k:Int}{x:Bs}(hl:x.length≤20000):zhB k x=zlB k x:=by
 unfold zlB;by_cases h5:k=5
 ·rw[if_pos h5];unfold zhB;rw[if_neg (by omega),if_neg (by omega),if_neg (by omega),if_pos h5]
 rw[if_neg h5];by_cases hk:k<1∨6<k
 ·have:zk3 k x=true:=by unfold zk3;rcases hk with h|h<;>simp[h]
  rw[this];unfold zhB;rw[if_neg (by omega),if_neg (by omega),if_neg (by omega),if_neg (by omega),if_neg (by omega)];rfl
 rcases x with _|⟨c,r⟩
 ·have:zk3 k []=true:=rfl;rw[this,Bool.not_true,Bool.false_and];unfold zhB;repeat' split
  all_goals first
   |rfl
   |omega
   |decide
 have hb:zk3 k (c::r)=false:=by
  unfold zk3;simp only[Bool.or_eq_false_iff,jKc];exact⟨rfl,by omega,by omega,by omega⟩
 rw[hb,Bool.not_false,jSd];generalize hx:c::r=x at hl hb;have hne:x≠[]:=by rw[←hx];simp
 have hile:idR x 0≤x.length:=(zkr (Nat.zero_le _)).2;have tok:zrz k x (zdf x)=true→∃m,zcQ kw zdv x=.inr (k,x,m):=fun h=>by
  obtain⟨y,a,h1,h2,h3,h4⟩:=zgm.1 h;exact zvk (l:=[]) hl h1 h2 h3 h4
 have idl:x=x.take (idR x 0)→idR x 0=x.length:=fun e=>by
  have:=congrArg List.length e;rw[jSb]at this;omega
 rw[jYc];by_cases h1:k=1
 ·subst h1;unfold zhB;rw[if_pos rfl];simp only[jMa,jLc,jOa,isEmpty_eq_false_iff];constructor
  ·rintro⟨⟨_,h2⟩,h3⟩;have h2:idR x 0=x.length:=by omega
   have h0:0<idR x 0:=by rw[h2];exact jEc.2 hne
   obtain⟨c',r',e,hc⟩:=zsq h0;have:=ztN h0 h2;rw[if_neg (by rw[h3];decide)]at this;exact zlN (by rw[e];exact zmI hc) this hl
  ·intro h;obtain⟨m,hm⟩:=tok h;rcases zgs hm with⟨h0,e,hk'⟩|⟨_,h⟩|⟨_,h,_⟩|h|⟨h,_⟩
   ·have hi:=idl e;refine⟨⟨hne,by rw[hi]⟩,?_⟩;cases hkw:kw x with
    |false=>rfl
    |true=>rw[hkw]at hk';exact absurd hk' (by decide)
   all_goals omega
 by_cases h2:k=2
 ·subst h2;unfold zhB;rw[if_neg (by decide),if_pos rfl];constructor
  ·intro hk';have hm:x∈zdX:=contains_iff_mem.1 hk';have:=jBb.1 zxg x hm;rw[←hx]at this;simp only[jMa,jOa]at this;have hi:idR x 0=x.length:=by rw[←hx];exact this.2
   have ht:=ztN (by rw[hi];exact jEc.2 hne) hi;rw[if_pos hk']at ht;exact zlN (by rw[←hx];exact zmI this.1) ht hl
  ·intro h;obtain⟨m,hm⟩:=tok h;rcases zgs hm with⟨h0,e,hk'⟩|⟨_,h⟩|⟨_,h,_⟩|h|⟨h,_⟩
   ·cases hkw:kw x with
    |true=>rfl
    |false=>rw[hkw]at hk';exact absurd hk' (by decide)
   all_goals omega
 by_cases h6:k=6
 ·subst h6;unfold zhB;rw[if_neg (by decide),if_neg (by decide),if_neg (by decide),if_neg (by decide),if_pos rfl];constructor
  ·intro hc;have hm:x∈sgnL:=contains_iff_mem.1 hc;have:=jBb.1 zxL x hm;split at this
   ·rename_i k t m ht;simp only[jMa,jOa]at this;obtain⟨rfl,rfl,rfl⟩:=this;obtain⟨s1,s2,s3⟩:=ztd _ hm;refine zlN ⟨⟨c,r,hx.symm,?_⟩,s2,s3⟩ ht hl;rw[←hx]at s1;simpa using s1
   ·cases this
  ·intro h;obtain⟨m,hm⟩:=tok h;rcases zgs hm with⟨_,_,h⟩|⟨_,h⟩|⟨_,h,_⟩|h|⟨_,h⟩
   ·split at h<;>omega
   ·omega
   ·omega
   ·omega
   ·exact contains_iff_mem.2 h
 have h34:k=3∨k=4:=by omega
 unfold zhB;rw[if_neg h1,if_neg h2,if_pos h34];simp only[jMa];constructor
 ·rintro⟨_,hd,h⟩;obtain⟨y,a,e1,e2,e3⟩:=zmR.1 h;have hst:znn x:=by
   have ha:atS x 0=c.toNat:=by rw[←hx];rfl
   rw[ha]at hd;simp only[jTa]at hd;have:=zpv (b:=c) (by unfold zfs;omega);rw[←hx];refine zne ?_ (this 47 (by decide));unfold zwx;simp[this 32 (by decide),this 9 (by decide),this 13 (by decide),this 10 (by decide)]
  refine zgm.2 ⟨y,a,e1,?_,e2,e3⟩;have ht:=zkP hl e1;cases ht with
  |step hs hj htk hr=>
   have:skQ x 0 true=.inr (0,true):=zna (i:=0) hst _ (by omega);rw[this]at hs;cases hs;rfl
 ·intro h;obtain⟨m,hm⟩:=tok h;obtain⟨y,a,e1,e2,e3,e4⟩:=zgm.1 h;refine⟨by simpa using hne,?_,zmR.2 ⟨y,a,e1,e3,e4⟩⟩;rcases zgs hm with⟨_,_,h⟩|⟨h,_⟩|⟨h39,_,hc⟩|h|⟨h,_⟩
  ·split at h<;>omega
  ·simpa using h
  ·exfalso;unfold zjR at hc;split at hc
   ·split at hc
    ·simp only[jNa,jZa]at hc;have ha:atS x 0=c.toNat:=by rw[←hx];rfl
     refine zp4 _ c (by rw[hc.1,←hx];exact jIc ..) (jBd.1 ?_);have e:(39:UInt8).toNat=39:=rfl;rw[e];omega
    ·cases hc
   ·cases hc
  ·omega
  ·omega
theorem zkY {f g:Tk→Bool}:∀(l:List Tk)(b:Bool)(out:Bs),(∀x∈l,f x=g x)→zev f l b out=zev g l b out
 | [],_,_,_=>rfl
 |x::r,b,out,h=>by
  rw[zev,zev,h x (jIc ..),zkY r false _ fun y hy=>h y (jYb _ hy)]
noncomputable def cfF:zad:=(((zad.none.with 10 (ch zkT)).with 25 (ch zq2)).with 26 (ch zq3)).with 27 (ch zq4)
theorem ztF:cfF.Sound prog TT:=ws (ws (ws (ws n0 (zdJ zkT)) (zdJ zq2)) (zdJ zq3)) (zdJ zq4)
theorem zuX (l:List Tk)(hl:l.length≤60):∀(n i:Nat)(t:Tm)(H:zaa),l.length<n+i→i≤l.length→(∀x∈l.take i,x.2.1.length≤300)→t.wid=f8.ntmps→t.get 0=.isl 4 (zaO l)→t.get 13=.isl 4 (zaO l)→t.get 14=.i .i64 l.length→t.get 15=.i .i64 (i:Nat) →
 ctx prog TT [tt,tt,ff,tt,ff,ff] (zae f8) (zaF TT f8 (isR (.val (.b true)))) (.norm t H):=by
 intro n;induction n with
 |zero=>intro i t H h1 h2;omega
 |succ n ih=>
  intro i t H hn hi hp hw t0 t13 t14 t15;have hlr:=zb5 l;refine zaM.symIn (p:=[tt,tt,ff,tt,ff]) zaf ztF rfl zyS (by kernel_rfl) [.ul (zaO l),.ui (i:Nat),.uh H] rfl hw ⟨t0,t13,by rw[t14,←hlr];rfl,t15,trivial⟩ rfl (zaC _ _) ?_;clear t0 t13 t14 t15 hw;simp -implicitDefEqProofs only[VC,isR,exU,Ask.den,E.den,O1.den,O2.den,O3.den,SH.den,zat,za9,bD,SB.den,zai,LQ,uu,uW,jOa,jUa,jDa,jSa,if_false,if_true];rw[hlr];refine⟨fun h=>⟨by omega,?_⟩,fun h=>?_⟩
  ·have h1:i<l.length:=by omega
   have hg:l[i]? = some l[i]:=jKa h1;have htk:l.take (i+1)=l.take i++[l[i]]:=by rw[take_add_one,hg];rfl
   generalize l[i]=x at hg htk;refine .inl ⟨x.1,x.2.1,x.2.2.1,x.2.2.2,zmK hg H,fun h3=>.inl ⟨true,zc3 zkT,rfl⟩,fun h3 t hw f0 f13 f14 f15=>?_⟩;have w1:IntKind.i64.wrap ((i:Int)+1)=((i+1:Nat):Int):=by rw[w64 (by omega) (by omega)];omega
   refine ih (i+1) t _ (by omega) (by omega) (fun y hy=>?_) hw f0 f13 f14 (by rw[f15,w1]);rw[htk]at hy;rcases jKd.1 hy with hy|hy
   ·exact hp y hy
   ·rw[mem_singleton.1 hy];omega
  ·rw[jTb (by omega)]at hp;have hx:l.length<1000000∧∀x∈l,x.2.1.length<1000000:=⟨by omega,fun x hx=>by have:=hp x hx;omega⟩;have e:=zkY (f:=fun x=>zhB x.1 x.2.1) (g:=fun x=>zlB x.1 x.2.1) l true [] fun x hx=>zsb (by have:=hp x hx;omega);have h27:=zc3 zq4 l hx;rw[←e]at h27;refine .inl ⟨_,fun K=>zc3 zq3 l (by omega) K,.inl ⟨_,_,fun K=>zc3 zq2 l hx K,.inl ⟨_,_,fun K=>h27 K,fun _=>⟨fun _=>.inl ⟨true,zc3 zkT,rfl⟩,fun h=>absurd rfl h⟩,fun h=>absurd rfl h⟩⟩⟩
theorem zp8 (l:List Tk)(h1:l.length<1100000):zjT prog TT 8 [.isl 4 (zaO l)] (.val (.b true)):=by
 apply zaV.of1;apply zaA.is;refine zaA.sym zaf ztF (fn:=f8) rfl rfl (by simp[f8]) zAf (by kernel_rfl) [.ul (zaO l),.uh []] rfl ⟨by rw[zag];rfl,trivial⟩ rfl (zaC _ _) ?_;simp -implicitDefEqProofs only[VC,isR,exU,Ask.den,E.den,O1.den,O2.den,O3.den,SH.den,zat,za9,bD,SB.den,zai,LQ,uu,uW,jOa,jUa,jDa];rw[zb5];refine⟨fun h=>.inl ⟨true,zc3 zkT,rfl⟩,fun h t hw t0 t13 t14 t15=>?_⟩;exact Tri.symLoop rfl (zuX l (by omega) (l.length+1) 0 t [] (by omega) (by omega) (fun x hx=>by simp at hx) hw t0 t13 t14 t15)
open Go.ChangeShapes Go.WideShapes Go.RowKit
open Go.Proofs.YtmjplflnlggbeaaGreatDoor (Rows.uptoBulk Rows.uptoBulkAll Rows.tokenTextsSpec Rows.tokenTextsUptoRow Rows.uptoSmall Rows.OpenSpec.upto)
section
variable {H:Type}{enc:TypeId×Value→H}{W W':World}
theorem zfl {sp:Nat→Bool}:∀{ts:List TypeId}{vs:List Value}{ds:List (DataW H)}{ps:List MemPlace},DataW.TrodAll enc prog W 0 sp true ts vs ds ps→(∀p∈ps,W.sameAt W' p)→DataW.TrodAll enc prog W' 0 sp true ts vs ds ps
 | [],[],[],_,h,_=>h
 |_::_,_::_,_::_,_,⟨p,q,⟨n,h1⟩,h2,e⟩,hs=>⟨p,q,⟨n,DataW.trod_carry n _ _ _ h1 fun x hx=>hs x (by rw[e];exact mem_append_left _ hx)⟩,zfl h2 fun x hx=>hs x (by rw[e];exact jQd _ hx),e⟩
theorem zol (hb:Below W.heap.size W W')(p:MemPlace)(hp:p.block<W.heap.size):W.sameAt W' p:=by
 cases p with
 |cell b off=>
  show W'.cell? ⟨b,off,none⟩=W.cell? ⟨b,off,none⟩;unfold World.cell?;rw[hb.block b hp]
 |map b=>exact hb.block b hp
theorem zn0 (hb:Below W.heap.size W W')(may:MemPlace→Prop):W.keptBut W' may:=by
 refine⟨hb.os,hb.output,fun i hi=>?_⟩;rw[hb.block i hi];exact(World.keptBut_refl W may).2.2 i hi
theorem zzT:Kids prog (·<prog.types.size):=kids_rows (by kernel_rfl) (by kernel_rfl)
theorem zrH (b o n:Nat):Addr.add ⟨b,o,none⟩ n=⟨b,o+n,none⟩:=by
 unfold Addr.add;split
 ·rename_i h;subst h;rfl
 ·rfl
theorem zrc {a:Addr}{v:Value}(h:W.cell? a=some v):a.spot=none:=by
 unfold World.cell? at h;split at h
 ·split at h
  ·cases h
  ·rename_i hs;cases hh:a.spot with
   |none=>rfl
   |some _=>rw[hh]at hs;simp at hs
 ·cases h
theorem ztE {a:Addr}{cs:List Value}(h:W.cells? 0 a 4=some cs):∃v0 v1 v2 v3,cs=[v0,v1,v2,v3]∧W.cell? (a.add 0)=some v0∧W.cell? (a.add 1)=some v1∧W.cell? (a.add 2)=some v2∧W.cell? (a.add 3)=some v3:=by
 unfold World.cells? at h;rw[if_pos (Nat.zero_le _)]at h;simp only[List.range,List.range.loop,mapM_cons,mapM_nil,Option.pure_def,Option.bind_eq_bind,Option.bind_eq_some_iff,jNa]at h;obtain⟨v0,h0,r0,⟨v1,h1,r1,⟨v2,h2,r2,⟨v3,h3,r3,hr3,rfl⟩,rfl⟩,rfl⟩,rfl⟩:=h;subst hr3;exact⟨v0,v1,v2,v3,rfl,h0,h1,h2,h3⟩
section
variable {sp:Nat→Bool}
theorem zou {fuel:Nat}{cs:List Value}{x:DataW H×List MemPlace}(h:DataW.trod enc prog W 0 sp true fuel 44 cs=some x) :
 ∃y:Tk,relL (zf7 W) [] (tkL y) cs∧1≤Rows.uptoBulk x.1:=by
 obtain⟨xs,n,rfl,rfl,hl,hlen,hf⟩:=DataW.trod_struct Tryz.underlying44 h;have c44:prog.cellsOf 44=4:=by kernel_rfl
 have c3:prog.cellsOf 3=1:=by kernel_rfl
 have c9:prog.cellsOf 9=1:=by kernel_rfl
 have c4:prog.cellsOf 4=1:=by kernel_rfl
 match xs,hlen with
 | [y0,y1,y2,y3],_=>
  have f0:=hf 0 _ rfl;have f1:=hf 1 _ rfl;have f2:=hf 2 _ rfl;have f3:=hf 3 _ rfl;rw[c44]at hl;match cs,hl with
  | [v0,v1,v2,v3],_=>
   have f0:DataW.trod enc prog W 0 sp true n 3 [v0]=some y0:=by simpa[c3]using f0
   have f1:DataW.trod enc prog W 0 sp true n 9 [v1]=some y1:=by simpa[c9]using f1
   have f2:DataW.trod enc prog W 0 sp true n 3 [v2]=some y2:=by simpa[c3,c9]using f2
   have f3:DataW.trod enc prog W 0 sp true n 4 [v3]=some y3:=by simpa[c3,c9,c4]using f3
   obtain⟨k,e0,hy0,_⟩:=DataW.trod_int Tryz.underlying3 f0;obtain⟨s,e1,hy1,_⟩:=DataW.trod_string Tryz.underlying9 f1;obtain⟨a,e2,hy2,_⟩:=DataW.trod_int Tryz.underlying3 f2;obtain⟨b,e3,hy3⟩:=DataW.trod_bool Tryz.underlying4 f3;simp only[jPa,jGb]at e0 e1 e2 e3;subst e0 e1 e2 e3;subst hy0 hy1 hy2 hy3;have hs:∃l:Bs,s=⟨l.toArray⟩:=⟨s.data.toList,by cases s;simp⟩;obtain⟨l,rfl⟩:=hs;refine⟨(k,l,a,b),zaw (by simp only[rel]) (zaw (by simp only[rel]) (zaw (by simp only[rel]) (zaw (by simp only[rel]) (by simp only[relL])))),?_⟩;simp[Rows.uptoBulk,Rows.uptoBulkAll]
theorem zmb (fuel:Nat) (v:Value) (x:DataW H×List MemPlace) (h:DataW.trod enc prog W 0 sp true fuel 27 [v]=some x) :
    ∃p:List Tk,rel (zf7 W) [] (.isl 4 (zaO p)) v∧p.length≤Rows.uptoBulk x.1:=by
  have c44:prog.cellsOf 44=4:=by kernel_rfl
  rcases DataW.trod_slice Tryz.underlying27 h with⟨e2,hy2⟩|⟨a,len,cap,elems,rest,m,hm,e2,hy2,hb0,hlc,hcap,hel,hat,_,_⟩
  · cases e2
    subst hy2
    refine⟨[],?_,Nat.zero_le _⟩
    simp only[rel,zaO,map_nil]
    exact⟨none,0,rfl,jDb _,fun h=>absurd rfl h⟩
  · cases e2
    subst hy2
    rw[c44]at hat
    have kids:∀(es:List (DataW H×List MemPlace)) (b o i0:Nat),(∀j,j<es.length→(W.cells? 0 (Addr.add ⟨b,o,none⟩ ((i0+j)*4)) 4).bind (DataW.trod enc prog W 0 sp true m 44)=es[j]?) →
        ∃ys:List Tk,ys.length=es.length∧relRow (zf7 W) [] 4 (zaO ys) b (o+i0*4)∧ys.length≤Rows.uptoBulkAll (es.map (·.1)):=by
      intro es
      induction es with
      |nil=>intro b o i0 _;exact⟨[],rfl,by simp only[zaO,map_nil,relRow],by simp⟩
      | cons e es ihs=>
        intro b o i0 hh
        have h0:=hh 0 (by simp)
        simp only[jBa,Option.bind_eq_some_iff]at h0
        obtain⟨c,hc,ht⟩:=h0
        obtain⟨z,hz,hzb⟩:=zou ht
        obtain ⟨ys,hyl,hyr,hyb⟩:=ihs b o (i0+1) (fun j hj=>by
          have:=hh (j+1) (by simp;omega)
          rw[show i0+(j+1)=i0+1+j from by omega]at this
          simpa using this)
        obtain⟨w0,w1,w2,w3,rfl,g0,g1,g2,g3⟩:=ztE hc
        simp only[jNd,zrH]at g0 g1 g2 g3
        refine⟨z::ys,by simp[hyl],?_,?_⟩
        · simp only[zaO,jJb,relRow]
          refine⟨⟨.agg #[w0,w1,w2,w3],?_,rfl,fun j q hj=>?_⟩,?_⟩
          · simp only[rel]
            exact⟨[w0,w1,w2,w3],rfl,hz⟩
          · match j,hj with
            |0,hj=>simp[Value.cells]at hj;subst hj;exact zd9 (by simpa using g0)
            |1,hj=>simp[Value.cells]at hj;subst hj;exact zd9 g1
            |2,hj=>simp[Value.cells]at hj;subst hj;exact zd9 g2
            |3,hj=>simp[Value.cells]at hj;subst hj;exact zd9 g3
            |j+4,hj=>simp[Value.cells]at hj
          · rw[show o+i0*4+4=o+(i0+1)*4 from by omega]
            exact hyr
        · simp only[jIa,jJb,Rows.uptoBulkAll];omega
    by_cases h0:elems.length=0
    · have:elems=[]:=jRb h0
      subst this
      refine⟨[],?_,Nat.zero_le _⟩
      simp only[rel,zaO,map_nil]
      simp only[jVa]at hel
      subst hel
      exact⟨some a,cap,rfl,Nat.zero_le _,fun h=>absurd rfl h⟩
    · have hsp:a.spot=none:=by
        have:=hat 0 (by omega)
        obtain⟨e,he⟩:∃e,elems[0]? = some e:=⟨elems[0],jKa (by omega)⟩
        rw[he]at this
        simp only[Option.bind_eq_some_iff]at this
        obtain⟨c,hc,_⟩:=this
        obtain⟨w0,_,_,_,_,g0,_⟩:=ztE hc
        have:=zrc g0
        simpa[Addr.add]using this
      obtain⟨b,o,s⟩:=a
      simp only at hsp
      subst hsp
      obtain⟨ys,hyl,hyr,hyb⟩:=kids elems b o 0 (fun j hj=>by rw[jKb];exact hat j (by omega))
      refine⟨ys,?_,?_⟩
      · simp only[rel]
        rw[zb5,hyl,hel]
        refine⟨some ⟨b,o,none⟩,cap,rfl,hlc,fun _=>⟨b,o,rfl,?_⟩⟩
        simpa using hyr
      · simp only[Rows.uptoBulk]
        omega
end
theorem zwL {base:Nat}{v:Value}{d:DataW H}{p:List MemPlace}(hok:Value.okWide prog W .any base 27 v)(h:DataW.Trod enc prog W 0 (fun _=>true) true 27 v d p) :
 ∃y:List Tk,rel (zf7 W) [] (.isl 4 (zaO y)) v∧y.length≤Rows.uptoBulk d:=by
 obtain⟨n,hn⟩:=h;unfold Value.okWide at hok;rw[Tryz.underlying27]at hok;unfold Cell.okWide at hok;simp only[Tryz.underlying27]at hok;cases v<;>first
  |exact zmb n _ _ hn
  |exact absurd hok (by simp)
  |exact absurd hok (by unfold Cell.ok;rw[Tryz.underlying27];simp)
end
theorem contract {H:Type}(enc:TypeId×Value→H)(F:Stop.Interp)(W:World)(base:Nat)(args:Array Value)(ds gs:List (DataW H))(before:List MemPlace)
 (hval:∀(j:Nat) t v,f8.params[j]? = some t→args[j]? = some v→Value.okWide prog W .any base t v)
 (hW:DataW.Whole enc prog f8.params.toList Rows.tokenTextsSpec.vars false W args.toList ds gs before)
 (hsm:Rows.uptoBulkAll (ds++gs)≤1048576)(hL:laidMetH prog Rows.tokenTextsUptoRow.laid W)(hsh:W.ShapedOpen prog) :
 Calls prog 8 args W fun e W'=>∃v,e=.returned v∧((Rows.OpenSpec.upto Rows.tokenTextsSpec).at F).post enc prog f8 false true false false W args v W':=by
 have hW':=hW;obtain⟨p,q,hA0,hV,rfl,hfz,hnd⟩:=hW;have hA:DataW.TrodAll enc prog W 0 (fun _=>true) true f8.params.toList args.toList ds p:=hA0;have hAk:=hA;rw[Tryz.params8]at hA hval;obtain⟨v0,vs0,d0,ds0,p0,q0,hargs,rfl,rfl,h0,r0⟩:=trodAll_cons hA;obtain⟨rfl,rfl,rfl⟩:=trodAll_nil r0;obtain rfl:args=#[v0]:=by cases args;simp_all
 obtain⟨rfl,rfl⟩:=trodVars_none hV;obtain⟨x0,e0,n0'⟩:=zwL (hval 0 27 v0 rfl rfl) h0;simp only[jWb,Rows.uptoBulkAll]at hsm;have hb:=zp8 x0 (by omega);obtain⟨_,hcall⟩:=zgG zaf zao hb (by show(nl (.isl 4 (zaO x0))&&true)=true;rw[zhq];rfl) rfl;have:=hcall [] (zf7 W) [] W [v0] (zor hL hsh) (zaw e0 (by simp only[relL]));refine jTd this ?_;rintro e W' ⟨x,M',ρ',rfl,he,hx,_⟩;simp only[rel]at hx;subst hx;have hB:Below W.heap.size W W':=⟨he.os,he.tape,he.output,he.size,fun k hk=>he.frame k hk (fun c hc=>by simp at hc)⟩;have hlt:=hAk.lt;have hresp:=DataW.TrodAll.respare (spare':=fun b=>decide (b<W.heap.size)) zzT (slices_full_of prog (by kernel_rfl)) (fun t ht=>by
  rw[Tryz.params8]at ht;have:t=27:=by simpa using ht
  subst this;exact jBc (by kernel_rfl)) hAk (fun p hp=>by simpa using hlt p hp)
 refine⟨_,rfl,?_⟩;refine⟨_,_,_,[],_,[],hW',?_,zfl hresp (fun p hp=>zol hB p (hlt p hp)),rfl,zn0 hB _,fun h=>by cases h⟩;exact trodAll_mk1 (shut_bool Tryz.underlying4 true)
end Go.Ev
