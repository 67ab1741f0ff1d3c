/- Lemmas. Walks of TokenBlanks. Tokens of a text behind another one. Tokens of a text with blanks put into it. TokenBlanks returns true. -/
import Derived.Test.YtmjplflnlggbeaaGreatDoorBBO
import Derived.Lib.TrimU
import Derived.Test.YtmjplflnlggbeaaGreatDoorBBD
import Derived.ChangeShapes
import Derived.WideShapes
import Derived.RowKit3
import Derived.OpenShut
import Derived.Test.YtmjplflnlggbeaaGreatDoorCards
import Derived.Test.YtmjplflnlggbeaaGreatDoorTie
import Derived.ProofKit
import Derived.LaidMore
import Derived.Deep.DeepHandedRow
import Derived.Deep.DeepWitnessRowRef
import Derived.Deep.DeepLaidRun
import Derived.SevenTiedAt
namespace Go.Ev
open Go Go.Proofs
set_option linter.unusedSimpArgs false
set_option linter.unusedVariables false
set_option linter.unnecessarySimpa false
open Tryz List
set_option maxRecDepth 100000
/-! A number's text, scanned again. -/
theorem zfF (b:UInt8):zbz b.toNat<10↔zcL b:=(zix _ (by decide)).trans (zr9 b)
theorem zu3 {b:UInt8}(h:zcL b):b≠95∧b≠69∧b≠46∧b≠101∧b≠120∧b≠98:=by
 unfold zcL at h;have e:∀k:UInt8,b=k→b.toNat=k.toNat:=fun k h=>by rw[h]
 refine⟨fun k=>?_,fun k=>?_,fun k=>?_,fun k=>?_,fun k=>?_,fun k=>?_⟩<;>(have:=e _ k;revert this;simp;omega)
theorem ze7:∀(d z:List UInt8)(n:Nat),(∀b∈d,zcL b)→Stop z→zbD 10 (d++z) n=some (n+d.length)
 | [],[],n,_,_=>by simp[zbD]
 | [],c::z,n,_,hz=>by
  obtain⟨h1,h2⟩:=hz c rfl;have h2:c.toNat≠95:=fun e=>h2 (UInt8.toNat_inj.1 e);rw[nil_append,zbi,if_neg (fun h=>h1 ((zfF c).1 h)),if_pos (.inl h2)];rfl
 |c::d,z,n,hd,hz=>by
  rw[cons_append,zbi,if_pos ((zfF c).2 (hd c (mem_cons_self ..))),ze7 d z (n+1) (fun b hb=>hd b (mem_cons_of_mem _ hb)) hz,length_cons];congr 1;omega
theorem zq4 {x:List UInt8}(hx:zuv x):zem x=some x.length:=by
 rcases hx with rfl|⟨g,m,hg,hm,rfl⟩
 ·rfl
 ·have hr:=ze7 m [] 0 hm.1 zmJ;rw[append_nil,Nat.zero_add]at hr;have hl:0<m.length:=length_pos_iff.2 hm.2;obtain⟨k,hk⟩:∃k,m.length=k+1:=⟨m.length-1,by omega⟩;rw[hk]at hr;have e:zhz (g++m)=1+g.length∧(101::(g++m):List UInt8).drop (1+g.length)=m:=by
   refine⟨?_,by rw[Nat.add_comm,drop_succ_cons,drop_left]⟩;rcases hg with rfl|rfl|rfl
   ·rcases m with _|⟨d,r⟩
    ·exact absurd rfl hm.2
    ·have hd:=hm.1 d (mem_cons_self ..);have h1:¬(d=43∨d=45):=by
      unfold zcL at hd;rintro(rfl|rfl)<;>revert hd<;>decide
     rw[nil_append,zhz,if_neg h1];rfl
   ·rfl
   ·rfl
  rw[zem,if_pos (.inl rfl),e.1,e.2,hr];simp;omega
theorem zf9 (s:List UInt8):zj0 s s.length=true:=by simp[zj0]
theorem zo8 {d z:List UInt8}{c:UInt8}(hd:zsz d)(hz:∀b,z.head? = some b→b≠c)(hc:¬zcL c):za5 (d++z) [48,c]=false:=by
 rw[Bool.eq_false_iff];intro h;obtain⟨u,hu⟩:=zcx.1 h;rcases d with _|⟨a,_|⟨b,d⟩⟩
 ·exact hd.2 rfl
 ·simp only[cons_append,nil_append,List.cons.injEq]at hu;exact hz c (by rw[←hu.2];rfl) rfl
 ·simp only[cons_append,nil_append,List.cons.injEq]at hu;exact hc (hu.2.1▸hd.1 b (by simp))
theorem zpv {l:List UInt8}(h:∀c∈l,c≠95∧c≠69):zaQ l=l:=by
 unfold zaQ;rw[filter_eq_self.2 (fun c hc=>by simp[(h c hc).1])];refine(map_congr_left fun c hc=>?_).trans (map_id l);rw[if_neg (h c hc).2];rfl
theorem zoK {s:List UInt8}(h:znI s):∀c∈s,c≠95∧c≠69:=by
 obtain⟨d,f,x,hd,hf,hx,_,rfl⟩:=h;have dg:∀{m:List UInt8},zsz m→∀c∈m,c≠95∧c≠69:=fun hm c hc=>⟨(zu3 (hm.1 c hc)).1,(zu3 (hm.1 c hc)).2.1⟩;intro c hc;rcases mem_append.1 hc with hc|hc
 ·exact dg hd c hc
 rcases mem_append.1 hc with hc|hc
 ·rcases hf with rfl|⟨m,hm,rfl⟩
  ·cases hc
  ·rcases mem_cons.1 hc with rfl|hc
   ·decide
   ·exact dg hm c hc
 ·rcases hx with rfl|⟨g,m,hg,hm,rfl⟩
  ·cases hc
  ·rcases mem_cons.1 hc with rfl|hc
   ·decide
   rcases mem_append.1 hc with hc|hc
   ·rcases hg with rfl|rfl|rfl
    ·cases hc
    ·rw[mem_singleton.1 hc];decide
    ·rw[mem_singleton.1 hc];decide
   ·exact dg hm c hc
theorem zty {s:List UInt8}(h:znI s):zcm s=some (4,s,s.length):=by
 have hrep:=zpv (zoK h);obtain⟨d,f,x,hd,hf,hx,hne,rfl⟩:=h;have hst:=zqd hf hx;have hz:∀(c:UInt8),c≠46→c≠101→∀b,(f++x).head? = some b→b≠c:=fun c h1 h2 b hb=>by
  rcases hf with rfl|⟨m,hm,rfl⟩
  ·rcases hx with rfl|⟨g,m,hg,hm,rfl⟩
   ·cases hb
   ·simp at hb;subst hb;exact fun e=>h2 e.symm
  ·simp at hb;subst hb;exact fun e=>h1 e.symm
 have hdec:zdO (d++(f++x))=some ((d++(f++x)).length,true):=by
  have hr:=ze7 d (f++x) 0 hd.1 hst;rw[Nat.zero_add]at hr;unfold zdO;rw[hr];simp only;have ex:=zq4 hx;rcases hf with rfl|⟨m,hm,rfl⟩
  ·have hx0:x≠[]:=by simpa using hne
   have h46:atS (d++([]++x)) d.length≠46:=by
    rcases hx with rfl|⟨g,m,hg,hm,rfl⟩
    ·exact absurd rfl hx0
    ·rw[nil_append,zfg];decide
   rw[if_neg (fun h=>h46 h.2.1)];unfold zb7;rw[nil_append,drop_left,ex];simp only;have hl:d.length+x.length=(d++x).length:=by simp
   rw[if_pos (length_pos_iff.2 hx0),hl,if_pos (zf9 _)]
  ·obtain ⟨a,r,rfl⟩:∃a r,m=a::r:=by
    rcases m with _|⟨a,r⟩
    ·exact absurd rfl hm.2
    ·exact⟨a,r,rfl⟩
   have ha:=hm.1 a (by simp);have e1:d++(46::a::r++x)=(d++[46])++a::(r++x):=by simp
   have e2:atS (d++(46::a::r++x)) d.length=46:=zfg d 46 _;have e3:atS (d++(46::a::r++x)) (d.length+1:Nat)=a.toNat:=by
    rw[e1];have:=zfg (d++[46]) a (r++x);simpa using this
   have e4:(d++(46::a::r++x)).drop (d.length+1)=(a::r)++x:=by
    rw[e1,show d.length+1=(d++[46]).length by simp,drop_left];rfl
   have hr2:=ze7 (a::r) x 0 hm.1 (zmI hx);rw[Nat.zero_add]at hr2;unfold zcL at ha;rw[if_pos ⟨by simp,e2,by rw[e3];simp;omega⟩,e4,hr2];simp only;unfold zb7;have e5:(d++(46::a::r++x)).drop (d.length+(1+(a::r).length))=x:=by
    rw[show d++(46::a::r++x)=(d++46::a::r)++x by simp,show d.length+(1+(a::r).length)=(d++46::a::r).length by simp;omega,drop_left]
   rw[e5,ex];simp only;have hl:(d++(46::a::r++x)).length=d.length+(1+(a::r).length)+x.length:=by simp;omega
   split
   ·rw[←hl,if_pos (zf9 _)]
   ·rename_i h0;have:x.length=0:=by omega
    rw[this,Nat.add_zero]at hl;rw[←hl,if_pos (zf9 _)]
 unfold zcm;rw[if_neg (by rw[zo8 hd (hz 120 (by decide) (by decide)) (by unfold zcL;decide)];decide),if_neg (by rw[zo8 hd (hz 98 (by decide) (by decide)) (by unfold zcL;decide)];decide),hdec];simp only[take_length,hrep]
theorem zpd {s:List UInt8}(hc:ziz s)(hv:zdv s≤zdv zo3):zcm s=some (3,s,s.length):=by
 have hd:zsz s:=⟨hc.1,fun e=>by have:=hc.2.1;rw[e]at this;simp at this⟩;have hdec:zdO s=some (s.length,false):=by
  have hr:=ze7 s [] 0 hd.1 zmJ;rw[Nat.zero_add,append_nil]at hr;unfold zdO;rw[hr];simp only;rw[if_neg (by omega)];unfold zb7;rw[drop_length];simp only[zem];rw[if_neg (by omega),if_pos (zf9 _)]
 have hm:zdv zo3=340282366920938463463374607431768211455:=by decide
 have hf:s.filter (dgb 10)=s:=filter_eq_self.2 fun c h=>by
  simp only[dgb,decide_eq_true_eq];exact(zfF c).2 (hd.1 c h)
 have hw:zdw 10 s 0=some (zdv s):=by
  rw[zlR (by decide) (by decide) s 0 (by decide)];have:List.filter (dgb ((10:Nat):Int)) s=s:=hf;rw[this,zmn s 0 hd.1,Nat.zero_mul,Nat.zero_add,if_pos (by omega)]
 have hp:∀c:UInt8,¬zcL c→za5 s [48,c]=false:=fun c h=>by
  have:=zo8 (z:=[]) hd (fun b hb=>by cases hb) h;rwa [append_nil]at this
 unfold zcm;rw[if_neg (by rw[hp 120 (by unfold zcL;decide)];decide),if_neg (by rw[hp 98 (by unfold zcL;decide)];decide),hdec];simp only[take_length];have:=(zfl (zdv s));rw[hw];simp only;rw[zqP this.1 hc this.2]
theorem zmB (base:Int):∀(L:List UInt8)(n m:Nat),zbD base L n=some m→n≤m
 | [],n,m,h=>by simp only[zbD,Option.some.injEq]at h;omega
 |c::r,n,m,h=>by
  rw[zbi]at h;split at h
  ·have:=zmB base r _ _ h;omega
  ·split at h
   ·simp only[Option.some.injEq]at h;omega
   ·split at h
    ·split at h
     ·have:=zmB base _ _ _ h;omega
     ·cases h
    ·cases h
theorem zjj {L:List UInt8}{m:Nat}(h:zbD 10 L 0=some m)(hm:0<m):zsz (zaQ (L.take m)):=by
 obtain⟨_,a2,a3⟩:=zyM (by decide) h;rw[zmv _ a2];refine⟨fun b hb=>?_,a3.1 hm⟩;have:=(mem_filter.1 hb).2;simp only[dgb,decide_eq_true_eq]at this;exact(zfF b).1 this
theorem zq3 {L:List UInt8}{k:Nat}(h:zem L=some k):zuv (zaQ (L.take k))∧(zaQ (L.take k)=[]→k=0):=by
 rcases L with _|⟨c,r⟩
 ·simp only[zem,Option.some.injEq]at h;subst h;exact⟨.inl rfl,fun _=>rfl⟩
 ·simp only[zem]at h;split at h
  ·rename_i hc;split at h
   ·rename_i q hr;simp only[Option.some.injEq]at h;have hd:=zjj hr (by omega);have e1:∃g,Sgn g∧zaQ ((c::r).take (zhz r))=101::g:=by
     have ec:zaQ [c]=[101]:=by rcases hc with rfl|rfl<;>rfl
     rcases r with _|⟨d,r⟩
     ·exact⟨[],.inl rfl,ec⟩
     ·by_cases hd:d=43∨d=45
      ·rw[zhz,if_pos hd];refine⟨[d],.inr (by rcases hd with rfl|rfl<;>simp),?_⟩;show zaQ ([c]++[d])=_;rw[ze5,ec];rcases hd with rfl|rfl<;>rfl
      ·rw[zhz,if_neg hd];exact⟨[],.inl rfl,ec⟩
    obtain⟨g,hg,e1⟩:=e1;have e:zaQ ((c::r).take k)=101::(g++zaQ (((c::r).drop (zhz r)).take (q+1))):=by
     rw[←h,take_add,ze5,e1];rfl
    rw[e];exact⟨.inr ⟨g,_,hg,hd,rfl⟩,fun h=>by cases h⟩
   ·cases h
  ·simp only[Option.some.injEq]at h;subst h;exact⟨.inl rfl,fun _=>rfl⟩
theorem zkJ {s:List UInt8}{m e:Nat}{r r':Bool}(h:zb7 s m r=some (e,r')):∃x,zuv x∧zaQ (s.take e)=zaQ (s.take m)++x∧(r'=true→r=true∨x≠[])∧(r'=false→e=m):=by
 unfold zb7 at h;split at h
 ·cases h
 ·rename_i k hk;obtain⟨h1,h2⟩:=zq3 hk;split at h
  ·rename_i h0;split at h
   ·cases h;exact⟨_,h1,by rw[take_add,ze5],fun _=>.inr fun e=>by have:=h2 e;omega,fun h=>by cases h⟩
   ·cases h
  ·split at h
   ·cases h;exact⟨[],.inl rfl,by rw[append_nil],fun h=>.inl h,fun _=>rfl⟩
   ·cases h
theorem zs1 {s:List UInt8}{m:Nat}(h0:zcL (UInt8.ofNat (atS s 0).toNat))(hs:s≠[])(h:zdO s=some (m,true)):znI (zaQ (s.take m)):=by
 unfold zdO at h;split at h
 ·cases h
 ·rename_i n hr;have hn:0<n:=by
   rcases s with _|⟨c,r⟩
   ·exact absurd rfl hs
   ·have e:UInt8.ofNat (atS (c::r) 0).toNat=c:=by
     show UInt8.ofNat ((c.toNat:Int)).toNat=c;rw[Int.toNat_natCast,UInt8.ofNat_toNat]
    rw[e]at h0;rw[zbi,if_pos ((zfF c).2 h0)]at hr;have:=zmB _ _ _ _ hr;omega
  have hd:=zjj hr hn;split at h
  ·rename_i hc;split at h
   ·cases h
   ·rename_i k hk;obtain⟨x,hx,e1,_,_⟩:=zkJ h;have hk0:0<k:=by
     obtain⟨y,hy⟩:=zeL s (n+1) (by omega);have e:s.drop (n+1)=y::s.drop (n+1+1):=by
      rw[drop_eq_getElem_cons (by omega)];congr 1;unfold atS at hy;rw[Int.toNat_natCast,List.getElem?_eq_getElem (by omega)]at hy;exact UInt8.toNat_inj.1 (Int.ofNat_inj.1 hy)
     have h2:=hc.2.2;rw[hy]at h2;simp only[Bool.and_eq_true,decide_eq_true_eq]at h2;rw[e,zbi,if_pos ((zfF y).2 (by unfold zcL;omega))]at hk;have:=zmB _ _ _ _ hk;omega
    have hm:=zjj hk hk0;refine⟨_,46::zaQ ((s.drop (n+1)).take k),x,hd,.inr ⟨_,hm,rfl⟩,hx,.inl (by simp),?_⟩;rw[e1,take_add,ze5,append_assoc];congr 2;rw[Nat.add_comm 1 k,drop_eq_getElem_cons (by omega),take_succ_cons];have e46:s[n]'(by omega)=46:=by
     have:=hc.2.1;unfold atS at this;rw[Int.toNat_natCast,List.getElem?_eq_getElem (by omega)]at this;exact UInt8.toNat_inj.1 (by simpa using Int.ofNat_inj.1 this)
    rw[e46,show(46:UInt8)::(s.drop (n+1)).take k=[46]++(s.drop (n+1)).take k from rfl,ze5];rfl
  ·obtain⟨x,hx,e1,e2,_⟩:=zkJ h;refine⟨_,[],x,hd,.inl rfl,hx,.inr ((e2 rfl).resolve_left (by simp)),?_⟩;rw[e1];rfl
theorem zmP {base:Nat}:∀(X:List UInt8)(a n:Nat),a<340282366920938463463374607431768211456→zdw base X a=some n→n<340282366920938463463374607431768211456
 | [],a,n,h,e=>by simp only[zdw,Option.some.injEq]at e;omega
 |c::X,a,n,h,e=>by
  simp only[zdw]at e;split at e
  ·split at e
   ·exact zmP X _ n ‹_› e
   ·cases e
  ·exact zmP X a n h e
theorem zpb {s t:List UInt8}{k:Int}{m:Nat}(hs:s≠[])(h0:zcL (UInt8.ofNat (atS s 0).toNat))(h:zcm s=some (k,t,m)):zcm t=some (k,t,t.length)∧(∃b r,t=b::r∧zcL b)∧t.length≤s.length+39:=by
 have hm:zdv zo3=340282366920938463463374607431768211455:=by decide
 have int:∀a:Nat,a<340282366920938463463374607431768211456→zcm (zfk a)=some (3,zfk a,(zfk a).length)∧(∃b r,zfk a=b::r∧zcL b)∧(zfk a).length≤s.length+39:=fun a ha=>by
  obtain⟨h1,h2⟩:=zfl a;have hle:=zgC h1 (by rw[h2];omega);refine⟨zpd h1 (by rw[h2];omega),?_,by omega⟩;rcases hd:zfk a with _|⟨b,r⟩
  ·rw[hd]at h1;exact absurd h1.2.1 (by simp)
  ·rw[hd]at h1;exact⟨b,r,rfl,h1.1 b (by simp)⟩
 have pfx:∀base,zhN s base=some (k,t,m)→zcm t=some (k,t,t.length)∧(∃b r,t=b::r∧zcL b)∧t.length≤s.length+39:=fun base h=>by
  unfold zhN at h;split at h
  ·cases h
  ·split at h
   ·split at h
    ·cases h
    ·rename_i hw;split at h
     ·simp only[Option.some.injEq,Prod.mk.injEq]at h;obtain⟨rfl,rfl,_⟩:=h;exact int _ (zmP _ _ _ (by decide) hw)
     ·cases h
   ·cases h
 unfold zcm at h;split at h
 ·exact pfx _ h
 ·split at h
  ·exact pfx _ h
  ·split at h
   ·cases h
   ·rename_i hdec;simp only[Option.some.injEq,Prod.mk.injEq]at h;obtain⟨rfl,rfl,_⟩:=h;have hf:=zs1 h0 hs hdec;refine⟨zty hf,?_,by
     have:∀l:List UInt8,(zaQ l).length≤l.length:=fun l=>by unfold zaQ;rw[length_map];exact length_filter_le ..
     exact Nat.le_trans (this _) (by rw[length_take];omega)⟩
    obtain⟨d,f,x,hd,_,_,_,e⟩:=hf;rw[e];rcases d with _|⟨b,d⟩
    ·exact absurd rfl hd.2
    ·exact⟨b,_,rfl,hd.1 b (by simp)⟩
   ·split at h
    ·cases h
    ·rename_i hw;simp only[Option.some.injEq,Prod.mk.injEq]at h;obtain⟨rfl,rfl,_⟩:=h;exact int _ (zmP _ _ _ (by decide) hw)
theorem zqU (n:Nat):Lib.decDigits n=zfk n:=by
 induction n using Nat.strongRecOn with
 |_ n ih=>
  rw[Lib.decDigits];by_cases h:n<10
  ·rw[dif_pos h];by_cases h0:n=0
   ·subst h0;simp[zfk,zde,zqT]
   ·rw[zfk,zd1 n h0,Nat.div_eq_of_lt h,zde,Nat.mod_eq_of_lt h];rfl
  ·rw[dif_neg h,ih (n/10) (by omega),zfk,zfk,zd1 n (by omega),zd1 (n/10) (by omega)];simp[zqT]
theorem zoe {s t:List UInt8}{m:Nat}(h:ziK s=some (t,m)):zcm t=some (3,t,t.length)∧(∃b r,t=b::r∧zcL b)∧t.length≤s.length+39:=by
 unfold ziK at h;split at h
 ·split at h
  ·simp only[Option.some.injEq,Prod.mk.injEq]at h;rename_i p _ _;have hr:(Lib.decodeGo ⟨p.1.toArray⟩).1≤1114111:=by
    unfold Lib.decodeGo;split
    ·simp
    ·exact Lib.rune_le _ _
   have e:t=zfk (Lib.decodeGo ⟨p.1.toArray⟩).1:=by
    rw[←h.1,w64 (by omega) (by omega),←zqU];unfold Lib.itoa;rw[if_neg (by omega),Int.toNat_natCast]
   rw[e];obtain⟨h1,h2⟩:=zfl (Lib.decodeGo ⟨p.1.toArray⟩).1;have hm:zdv zo3=340282366920938463463374607431768211455:=by decide
   have hle:=zgC h1 (by rw[h2];omega);refine⟨zpd h1 (by rw[h2];omega),?_,by omega⟩;rcases hd:zfk (Lib.decodeGo ⟨p.1.toArray⟩).1 with _|⟨b,r⟩
   ·rw[hd]at h1;exact absurd h1.2.1 (by simp)
   ·rw[hd]at h1;exact⟨b,r,rfl,h1.1 b (by simp)⟩
  ·cases h
 ·cases h
/-! Tokens, written and scanned again. -/
def zgu (w:List UInt8):Prop:=(∃c r,w=c::r∧zkk c=false)∧za5 w [47,47]=false∧za5 w [47,42]=false
theorem zeU {z:List UInt8}(hz:BlH z)(b:List UInt8):zbr b z:=⟨0,z,hz,rfl⟩
theorem zgu.on {w z:List UInt8}(h:zgu w)(hz:BlH z):zgu (w++z):=by
 obtain⟨⟨c,r,rfl,hc⟩,h1,h2⟩:=h;have k:∀p:List UInt8,(∀c∈p,zkk c=false)→za5 (c::r) p=false→za5 (c::r++z) p=false:=fun p hp h=>by
  rw[Bool.eq_false_iff]at h ⊢;intro e;have:=zhf (a:=c::r) (b:=[]) hp (zeU hz []) e;rw[append_nil]at this;exact h this
 exact⟨⟨c,r++z,rfl,hc⟩,k _ (by decide) h1,k _ (by decide) h2⟩
theorem zjz {c:UInt8}{r:List UInt8}(h1:zkk c=false)(h2:c≠47):zgu (c::r):=
 ⟨⟨c,r,rfl,h1⟩,by simp[za5,h2],by simp[za5,h2]⟩
theorem zjs {s:List UInt8}{i:Nat}{l:Bool}(h:zgu (s.drop i)):∀n,0<n→skF s n i l=.inr (i,l)
 |n+1,_=>by
  obtain⟨⟨c,r,e,hc⟩,h1,h2⟩:=h;obtain⟨k1,k2,_⟩:=zk5 s i c r e;have hb:¬(atS s i=32∨atS s i=9∨atS s i=13∨atS s i=10):=by
   rw[k2];intro h;simp only[zkk,Bool.or_eq_false_iff,beq_eq_false_iff_ne]at hc;have e:∀k:UInt8,(c.toNat:Int)=k.toNat→c=k:=fun k h=>UInt8.toNat_inj.1 (Int.ofNat_inj.1 h);rcases h with h|h|h|h
   ·exact hc.1.1.1 (e 32 h)
   ·exact hc.1.1.2 (e 9 h)
   ·exact hc.1.2 (e 13 h)
   ·exact hc.2 (e 10 h)
  have hq:zel s i l=none:=by
   unfold zel;rw[if_neg (by rw[h1];decide),if_neg (by rw[h2];decide)]
  rw[skF,if_pos k1,if_neg hb,hq]
theorem zt6 {k:Int}{t:List UInt8}(hs:zgu t)(h:zcM kw zcm t=.inr (k,t,t.length))(hl:t.length≤20000):zf0 t=([(k,t,0,true)],0,0):=by
 refine zhv hl (.step (j:=0) (m:=t.length) (zjs (i:=0) hs _ (by omega)) ?_ h (.done (l':=false) ?_))
 ·obtain⟨⟨c,r,rfl,_⟩,_⟩:=hs;simp
 ·rw[Nat.zero_add];exact zsr t false
theorem zt7 {t:List UInt8}{k:Int}(h1:zcm t=some (k,t,t.length))(h2:∃b r,t=b::r∧zcL b):zcM kw zcm t=.inr (k,t,t.length)∧zgu t∧(decide (48≤atS t 0)&&decide (atS t 0≤57))=true:=by
 obtain⟨b,r,e,hb⟩:=h2;have ha:atS t 0=b.toNat:=by rw[e];rfl
 have hd:(decide (48≤atS t 0)&&decide (atS t 0≤57))=true:=by
  rw[ha];unfold zcL at hb;simp;omega
 have hi:idR t 0=0:=ztj (s:=t) (i:=0) (by rw[e];rfl) hb;refine⟨?_,?_,hd⟩
 ·unfold zcM;rw[hi,if_neg (by omega),if_pos hd,h1]
 ·have:=zoo hb;rw[e];refine zjz ?_ (this 47 (by decide));unfold zkk;simp[this 32 (by decide),this 9 (by decide),this 13 (by decide),this 10 (by decide)]
theorem zrN:∀y∈sgnL,(match y with|c::_=>!zkk c | []=>false)=true∧za5 y [47,47]=false∧za5 y [47,42]=false:=by decide
theorem zhh {s:List UInt8}{mk:Int}:∀(n i:Nat)(out:List UInt8)(p:List UInt8×Nat),zeG s mk n i out=some p→Lib.validD p.1=true
 |0,_,_,_,h=>by simp[zeG]at h
 |n+1,i,out,p,h=>by
  simp only[zeG]at h;split at h
  ·cases h
  ·split at h
   ·cases h
   ·split at h
    ·split at h
     ·cases h;assumption
     ·cases h
    ·split at h
     ·split at h
      ·exact zhh n _ _ _ h
      ·cases h
     ·exact zhh n _ _ _ h
theorem zqn {s:List UInt8}{p:List UInt8×Nat}(h:zhw s=some p):Lib.validD p.1=true∧p.1.length≤4*s.length:=by
 unfold zhw at h;split at h
 ·split at h
  ·rename_i h1 h2;cases h;exact⟨h2.2,by simp only[length_take,length_drop];omega⟩
  ·cases h
 ·exact⟨zhh _ _ _ _ h,(ze3 h).1⟩
structure Again (x:Tk):Prop where
  len:x.2.1.length≤16039
  start:zgu (wrQ x)
  tok:∀z,BlH z→zcM kw zcm (wrQ x++z)=.inr (x.1,x.2.1,(wrQ x).length)
  fit:zfZ x.1 x.2.1=true
theorem zqh {x t:List UInt8}{k:Int}{m:Nat}(a:Int)(l:Bool)(hx:x.length≤4000)(h:zcM kw zcm x=.inr (k,t,m)):Again (k,t,a,l):=by
 have hm:=zcr h;simp only at hm;have hlen:(x.take m).length=m:=by rw[length_take];omega
 have hne:x.take m≠[]:=fun e=>by rw[e]at hlen;simp at hlen;omega
 have h0:=h;have bl:BlH []:=fun c r e=>by cases e
 have same:t=x.take m→k≠5→zgu t→zfZ k t=true→Again (k,t,a,l):=fun e hk hs hf=>by
  have ew:wrQ (k,t,a,l)=t:=if_neg hk;refine⟨by simp only[e,hlen];omega,by rw[ew];exact hs,fun z hz=>?_,hf⟩;rw[ew,e];have:=zjB (a:=x.take m) (b:=x.drop m) (z:=z) (K:=k) (t:=t) hne (zeU hz _) (by rw[take_append_drop,hlen];exact h);rw[this,e]
 have num:zcm t=some (k,t,t.length)→(∃b r,t=b::r∧zcL b)→t.length≤4039→(k=3∨k=4)→Again (k,t,a,l):=fun h1 h2 h3 hk=>by
  obtain⟨q1,q2,q3⟩:=zt7 h1 h2;have ew:wrQ (k,t,a,l)=t:=if_neg (by simp only;omega);refine⟨by simp only;omega,by rw[ew];exact q2,fun z hz=>?_,?_⟩
  ·rw[ew];exact zjB (a:=t) (b:=[]) (fun e=>by obtain⟨b,r,e',_⟩:=h2;rw[e]at e';cases e') (zeU hz _) (by rw[append_nil];exact q1)
  ·have hs:=zt6 q2 q1 (by omega);unfold zfZ;rw[if_neg (by simp only;omega),if_neg (by simp only;omega),if_pos hk,q3,hs];obtain⟨b,r,e,_⟩:=h2;simp[zuG,e]
 unfold zcM at h;by_cases c1:0<idR x 0
 ·rw [if_pos c1]at h;simp only[Sum.inr.injEq,Prod.mk.injEq]at h;obtain⟨rfl,rfl,rfl⟩:=h;have hi:idR (x.take (idR x 0)) 0=(x.take (idR x 0)).length:=by
   have:=zsh (a:=x.take (idR x 0)) (b:=x.drop (idR x 0)) (z:=[]) hne (zeU bl _) (by rw[take_append_drop,hlen]);rwa [append_nil]at this
  obtain⟨c,r,hc⟩:∃c r,x=c::r:=by
   rcases x with _|⟨c,r⟩
   ·exact absurd rfl hne
   ·exact⟨c,r,rfl⟩
  have hlet:zhy c.toNat||((c.toNat:Int)==95):=by
   unfold idR at c1;have ha:atR x 0=c.toNat:=by rw[hc];rfl
   rw[ha]at c1;split at c1
   ·exact absurd c1 (Nat.lt_irrefl 0)
   ·rename_i hh;rw[Bool.or_eq_true];simp only[Bool.and_eq_true,Bool.not_eq_true',bne_iff_ne]at hh;cases hl:zhy c.toNat
    ·right;rw[beq_iff_eq];exact Classical.byContradiction fun h95=>hh ⟨hl,h95⟩
    ·left;rfl
  have hst:zgu (x.take (idR x 0)):=by
   obtain⟨q,hq⟩:∃q,idR x 0=q+1:=⟨idR x 0-1,by omega⟩;rw[hq,hc,take_succ_cons];have key:∀k:UInt8,(zhy k.toNat||((k.toNat:Int)==95))=false→c≠k:=fun k hk e=>by rw[e,hk]at hlet;cases hlet
   refine zjz ?_ (key 47 (by decide));unfold zkk;simp[key 32 (by decide),key 9 (by decide),key 13 (by decide),key 10 (by decide)]
  cases hk:kw (x.take (idR x 0))with
  |true=>
   simp only[hk,if_true]at same ⊢;exact same trivial (by decide) hst (by unfold zfZ;rw[if_neg (by decide),if_pos rfl,hk])
  |false=>
   simp only[hk,Bool.false_eq_true,if_false]at same ⊢;refine same trivial (by decide) hst ?_;unfold zfZ;rw[if_pos rfl,hk,hi];simp[isEmpty_iff,hne]
 rw[if_neg c1]at h;split at h
 ·rename_i c2;split at h
  ·rename_i r hr;cases h;have hx0:x≠[]:=fun e=>by rw[e]at hne;simp at hne
   obtain⟨y,hy⟩:=zeL x 0 (length_pos_iff.2 hx0);have hy:atS x 0=y.toNat:=hy;obtain⟨q1,q2,q3⟩:=zpb hx0 (by rw[hy,Int.toNat_natCast,UInt8.ofNat_toNat];rw[hy]at c2;unfold zcL;simp at c2;omega) hr;refine num q1 q2 (by omega) ?_;unfold zcm zhN at hr;repeat' split at hr
   all_goals first
    |cases hr;done
    |(cases hr;simp)
  ·cases h
 split at h
 ·split at h
  ·rename_i p hp;cases h;obtain⟨q1,q2,q3⟩:=zoe (m:=p.2) (t:=p.1) hp;exact num q1 q2 (by omega) (.inl rfl)
  ·cases h
 split at h
 ·split at h
  ·rename_i p hp;cases h;obtain⟨hv,hvl⟩:=zqn hp;have ew:wrQ (5,p.1,a,l)=qtL p.1:=if_pos rfl;refine⟨by simp only;omega,by rw[ew];exact zjz (by decide) (by decide),fun z hz=>?_,?_⟩
   ·rw[ew];refine zjB (a:=qtL p.1) (b:=[]) (by simp[qtL]) (zeU hz _) ?_;exact zwk p.1 [] hv (.inl rfl)
   ·show zfZ 5 p.1=true;unfold zfZ;rw[if_neg (by decide),if_neg (by decide),if_neg (by decide),if_pos rfl,hv]
  ·cases h
 split at h
 ·rename_i hg;simp only[Sum.inr.injEq,Prod.mk.injEq]at h;obtain⟨rfl,rfl,rfl⟩:=h;have hmem:sgF x sgnL []∈sgnL:=(zlH x sgnL []).resolve_left (fun e=>by rw[e]at hg;simp at hg);obtain⟨s1,s2,s3⟩:=zrN _ hmem;have hpre:sgF x sgnL []=x.take (sgF x sgnL []).length:=by
   have hsp:=(zed x sgnL []).1.resolve_left (fun e=>by rw[e]at hg;simp at hg);have:=hsp.2;unfold alw at this;rw[Bool.and_eq_true]at this;obtain⟨u,hu⟩:=zcx.1 this.1;have e:x.take (sgF x sgnL []).length=(sgF x sgnL []++u).take (sgF x sgnL []).length:=by rw[hu]
   rw[e,take_left]
  refine same hpre (by decide) ⟨?_,s2,s3⟩ ?_
  ·rcases hy:sgF x sgnL []with _|⟨c,r⟩
   ·rw[hy]at hg;simp at hg
   ·rw[hy]at s1;exact⟨c,r,rfl,by simpa using s1⟩
  ·unfold zfZ;rw[if_neg (by decide),if_neg (by decide),if_neg (by decide),if_neg (by decide),if_pos rfl];exact contains_iff_mem.2 hmem
 ·cases h
def shy:Nat→Option Shape:=fun f=>
 if f=14 then some ⟨[.b],zux,.pure,false⟩else
 if f=25 then some ⟨[.s,.i],two (.f1 .vs (.va 0)) (.f1 (.vi .i64) (.va 1)),.pure,false⟩else
 shx f
theorem zxP:zaS TT shy f9.ntmps [] (zah f9) [] ⟨[(0,.f1 .vs (.va 0))],⟨.va 1,[],[]⟩,2,[]⟩ (KF TT f9 [3,7,68,69])=let qc:E:=.f1 (.isl 4) v2;let qf:SH:=⟨v1,[],[]⟩;let qd:Tree:=.stuck 0;let qb:Tree:=.asks (.call 10 .nil) [.b] (xb v5) (.fin (xb v5) qf) qd;let qe:E:=.f1 (.isl 4) v7;let qa:Tree:=.fin (xb (.cb false)) qf;.asks (.call 11 (x1 (xs v0))) [.l,.i,.i] (xt (x3 qc (xi v3) (xi v4))) (.ite (xG (xl v0) (xc 2000)) qb (.ite (xM v4 c0) qb (.asks (.call 25 (x1 qc)) [.s,.i] (xt (x2 (xs v5) (xi v6))) (.ite (xe v6 (xc 16)) (.asks (.call 10 .nil) [.b] (xb v7) (.fin (xb v7) qf) qd) (.asks (.call 11 (x1 (xs v5))) [.l,.i,.i] (xt (x3 qe (xi v8) (xi v9))) (.asks (.call 25 (x1 qe)) [.s,.i] (xt (x2 (xs v10) (xi v11))) (.ite (xM v6 c0) qa (.ite (xM v9 c0) qa (.ite (xM v11 c0) qa (.ite (.f2 .neS v10 v5) qa (.asks (.call 14 (x2 qc qe)) [.b] (xb v12) (.ite v12 (.leaf (.stop [true,true,true,true,true,true,true,true,false,true,false]) [(3,qc),(7,qe),(68,xi (xn v2)),(69,xi c0)] qf) qa) qd))))) qd) qd)) qd))) qd:=by kernel_rfl
theorem zwx:goT TT shy f9.ntmps [] [true,true,true,true,true,true,true,true,false,true,false,false] (zah f9) [] ⟨[(3,.f1 (.isl 4) (.va 0)),(7,.f1 (.isl 4) (.va 1)),(68,.f1 (.vi .i64) (.f1 .lenL (.va 0))),(69,.f1 (.vi .i64) (.va 2))],⟨.va 3,[],[]⟩,4,[]⟩ (KF TT f9 [3,7,68,69])=let qa:SH:=⟨v3,[],[]⟩;.ite (xL v2 (xn v0)) (.need (xE c0 v2) (.ask (.load 4 (.f3 (.ipt 4 3) v0 v2 .nil)) qa [.b] (xb v4) false (.need (xL v2 (xn v1)) (.ask (.load 4 (.f3 (.ipt 4 3) v1 v2 .nil)) qa [.b] (xb v5) false (.ite (.f2 .eqB v4 v5) (.leaf (.again [true,true,true,true,true,true,true,true,false,true,false,false]) [(3,.f1 (.isl 4) v0),(7,.f1 (.isl 4) v1),(68,xi (xn v0)),(69,xi (xw (xa v2 c1)))] qa) (.fin (xb (.cb false)) qa)) (.stuck 0))) (.stuck 0))) (.asks (.call 10 .nil) [.b] (xb v4) (.fin (xb v4) qa) (.stuck 0)):=by kernel_rfl
def zhp (b:Bool)(x:Tk):List UInt8:=if b=true then[]else if x.2.2.2=true then[10]else[32]
def zbp:Bool→List Tk→List UInt8
 |_,[]=>[]
 |b,x::r=>zhp b x++wrQ x++zbp false r
theorem zgo (fit:Tk→Bool):∀(l:List Tk) (b:Bool) (out:List UInt8),(∀x∈l,fit x=true)→(b=true→∀x r,l=x::r→x.2.2.2=true)→out.length≤20000 →
    zgn fit l b out=if(out++zbp b l).length≤20000 then(out++zbp b l,0)else([],16)
  | [],b,out,_,_,ho=>by simp[zgn,zbp,ho]
  | x :: r,b,out,hf,hb,ho=>by
    have e:out++zbp b (x::r)=(out++zhp b x++wrQ x)++zbp false r:=by simp[zbp]
    have es:out++(if b=true then[]else if x.2.2.2=true then[10]else[32])++wrQ x=out++zhp b x++wrQ x:=rfl
    rw[zgn,if_pos ⟨hf x (mem_cons_self ..),fun h=>hb h x r rfl⟩,es,e]
    split
    · rename_i h
      rw[if_neg (by rw[length_append (bs:=zbp false r)];omega)]
    · exact zgo fit r false _ (fun y hy=>hf y (mem_cons_of_mem _ hy)) (fun h=>by cases h) (by omega)
def zrz:Bool→Nat→List Tk→List Tk
 |_,_,[]=>[]
 |b,n,x::r=>(x.1,x.2.1,((n+(zhp b x).length:Nat):Int),b||x.2.2.2)::zrz false (n+(zhp b x).length+(wrQ x).length) r
theorem ztk:∀l:List Tk,BlH (zbp false l)
 | [],c,r,h=>by cases h
 |x::l,c,r,h=>by
  unfold zbp zhp at h;rw[if_neg (by decide)]at h;split at h<;>(simp only[append_assoc,cons_append,List.cons.injEq]at h;rw[←h.1];rfl)
theorem zkl:∀(l:List Tk)(b:Bool)(P:List UInt8),(∀x∈l,Again x)→Toks (P++zbp b l) P.length b (zrz b P.length l)
 | [],b,P,_=>by
  refine .done (l':=b) ?_;have:=zsr P b;simpa[zbp]using this
 |x::r,b,P,h=>by
  have hx:=h x (mem_cons_self ..);have hbl:=ztk r;have e:P++zbp b (x::r)=(P++zhp b x)++(wrQ x++zbp false r):=by simp[zbp]
  have hd:(P++zbp b (x::r)).drop (P.length+(zhp b x).length)=wrQ x++zbp false r:=by
   rw[e,←length_append,drop_left]
  have hst:zgu ((P++zbp b (x::r)).drop (P.length+(zhp b x).length)):=by rw[hd];exact hx.start.on hbl
  have hsk:skQ (P++zbp b (x::r)) P.length b=.inr (P.length+(zhp b x).length,b||x.2.2.2):=by
   cases b with
   |true=>
    have:(zhp true x).length=0:=rfl;rw[this]at hst ⊢;exact zjs hst _ (by omega)
   |false=>
    have key:∀c:UInt8,zhp false x=[c]→(c=10∨c=32)→decide ((c.toNat:Int)=10)=x.2.2.2→skQ (P++zbp false (x::r)) P.length false=.inr (P.length+(zhp false x).length,false||x.2.2.2):=fun c hc h1 h2=>by
     have d0:(P++zbp false (x::r)).drop P.length=c::(wrQ x++zbp false r):=by
      rw[drop_left,zbp,hc];rfl
     obtain⟨k1,k2,_⟩:=zk5 _ _ _ _ d0;rw[hc]at hst ⊢;unfold skQ;rw[skF,if_pos k1,k2,if_pos (by rcases h1 with rfl|rfl<;>simp),h2];exact zjs hst _ (by omega)
    cases hl:x.2.2.2 with
    |true=>
     have h10:zhp false x=[10]:=by unfold zhp;rw[if_neg (by decide),if_pos hl]
     have:=key 10 h10 (.inl rfl) (by rw[hl];rfl);rwa [hl]at this
    |false=>
     have h32:zhp false x=[32]:=by unfold zhp;rw[if_neg (by decide),if_neg (by rw[hl];decide)]
     have:=key 32 h32 (.inr rfl) (by rw[hl];rfl);rwa [hl]at this
  have hlt:P.length+(zhp b x).length<(P++zbp b (x::r)).length:=by
   obtain⟨⟨c,q,hc,_⟩,_⟩:=hst;exact(zk5 _ _ _ _ hc).1
  refine .step hsk hlt (by rw[hd];exact hx.tok _ hbl) ?_;have:=zkl r false (P++zhp b x++wrQ x) (fun y hy=>h y (mem_cons_of_mem _ hy));have e2:P++zbp b (x::r)=(P++zhp b x++wrQ x)++zbp false r:=by simp[zbp]
  rw[e2];simpa[Nat.add_assoc]using this
def zjH (x:Tk):Int×List UInt8×Bool:=(x.1,x.2.1,x.2.2.2)
theorem zpl:∀(l:List Tk)(b:Bool)(n:Nat),(b=true→∀x r,l=x::r→x.2.2.2=true)→(zrz b n l).map zjH=l.map zjH
 | [],_,_,_=>rfl
 |x::r,b,n,h=>by
  rw[zrz,map_cons,map_cons,zpl r false _ (fun h=>by cases h)];congr 1;unfold zjH;cases b with
  |true=>rw[h rfl x r rfl];rfl
  |false=>rfl
theorem zmj:∀(l m:List Tk)(b:Bool),l.map zjH=m.map zjH→zbp b l=zbp b m
 | [],[],_,_=>rfl
 | [],_::_,_,h=>by cases h
 |_::_,[],_,h=>by cases h
 |x::l,y::m,b,h=>by
  rw[map_cons,map_cons,List.cons.injEq]at h;have h1:=h.1;simp only[zjH,Prod.mk.injEq]at h1;have e1:zhp b x=zhp b y:=by unfold zhp;rw[h1.2.2]
  have e2:wrQ x=wrQ y:=by unfold wrQ;rw[h1.1,h1.2.1]
  rw[zbp,zbp,e1,e2,zmj l m false h.2]
theorem zl3 {s:List UInt8}{i:Nat}{o:Option Nat}{p:Nat×Bool}(h:zfY s i true o=some p):p.2=true:=by
 cases o with
 |none=>cases h
 |some e=>
  simp only[zfY,Bool.true_or]at h;split at h
  ·rw[←Option.some.inj h]
  ·cases h
theorem zlJ {s:List UInt8}:∀(n i j:Nat)(l':Bool),skF s n i true=.inr (j,l')→l'=true
 |0,i,j,l',h=>by simp[skF]at h;exact h.2
 |n+1,i,j,l',h=>by
  simp only[skF]at h;split at h
  ·split at h
   ·exact zlJ n _ _ _ h
   ·split at h
    ·cases h;rfl
    ·cases h
    ·rename_i p hp;have:p.2=true:=by
      unfold zel at hp;split at hp
      ·exact zl3 (Option.some.inj hp)
      ·split at hp
       ·exact zl3 (Option.some.inj hp)
       ·cases hp
     rw[this]at h;exact zlJ n _ _ _ h
  ·cases h;rfl
theorem ziw {s:List UInt8}{i:Nat}{b:Bool}{l:List Tk}(hs:s.length≤4000)(h:Toks s i b l):∀x∈l,Again x:=by
 induction h with
 |done h=>intro x hx;cases hx
 |step h hj ht hr ih=>
  intro x hx;rcases mem_cons.1 hx with rfl|hx
  ·exact zqh _ _ (by rw[length_drop];omega) ht
  ·exact ih x hx
theorem zkK {s:List UInt8}{i:Nat}{l:List Tk}(h:Toks s i true l):∀x r,l=x::r→x.2.2.2=true:=by
 cases h with
 |done h=>intro x r e;cases e
 |step h hj ht hr=>
  intro x r e;cases e;exact zlJ _ _ _ _ h
theorem zqJ {s:List UInt8}{l:List Tk}{a:Nat}(hs:s.length≤2000)(h:zf0 s=(l,a,0))(hj:(zbp true l).length≤20000) :
 zgn (fun x=>zfZ x.1 x.2.1) l true []=(zbp true l,0)∧∃m,zf0 (zbp true l)=(m,0,0)∧m.map zjH=l.map zjH∧zgn (fun x=>zfZ x.1 x.2.1) m true []=(zbp true l,0)∧l.length≤2000∧(∀x∈l,x.2.1.length≤16039):=by
 have ht:=zkD (by omega) h;have ha:=ziw (by omega) ht;have hl:=zkK ht;have hlen:=zmO ht (Nat.zero_le _);have hk:=zpl l true 0 (fun _=>hl);refine⟨?_,zrz true 0 l,?_,hk,?_,by omega,fun x hx=>(ha x hx).len⟩
 ·rw[zgo _ l true [] (fun x hx=>(ha x hx).fit) (fun _=>hl) (by simp),nil_append,if_pos hj]
 ·have:=zkl l true [] ha;rw[nil_append]at this;exact zhv hj this
 ·have hmem:∀y∈zrz true 0 l,∃x∈l,zjH x=zjH y:=fun y hy=>by
   have:zjH y∈l.map zjH:=by rw[←hk];exact mem_map_of_mem hy
   obtain⟨x,h1,h2⟩:=mem_map.1 this;exact⟨x,h1,h2⟩
  have hf:∀y∈zrz true 0 l,zfZ y.1 y.2.1=true:=fun y hy=>by
   obtain⟨x,h1,h2⟩:=hmem y hy;simp only[zjH,Prod.mk.injEq]at h2;rw[←h2.1,←h2.2.1];exact(ha x h1).fit
  have hl2:true=true→∀x r,zrz true 0 l=x::r→x.2.2.2=true:=fun _ x r e=>by
   cases l with
   |nil=>cases e
   |cons y q=>
    rw[zrz,List.cons.injEq]at e;rw[←e.1];rfl
  rw[zgo _ _ true [] hf hl2 (by simp),nil_append,zmj _ l true hk,if_pos hj]
/-! A text behind another one. -/
def shR (d:Nat):Nat ⊕ (Nat×Bool)→Nat ⊕ (Nat×Bool)
 | .inl a=>.inl (d+a)
 | .inr p=>.inr (d+p.1,p.2)
theorem zuV (p x:List UInt8)(i:Nat):atS (p++x) ((p.length+i:Nat):Int)=atS x (i:Nat):=by
 rw[zgw,zgw,zlZ,drop_left]
theorem zdf (p x:List UInt8)(i:Nat):(p++x).drop (p.length+i)=x.drop i:=by rw[←drop_drop,drop_left]
theorem ziN (p x:List UInt8):∀(n N i d:Nat),x.length<n+i→(p++x).length<N+(p.length+i)→zdM (p++x) N (p.length+i) d=(zdM x n i d).map (p.length + ·)
 |0,N,i,d,hn,hN=>by
  cases N with
  |zero=>rfl
  |succ N=>
   have e:x.drop i=[]:=drop_eq_nil_of_le (by omega);have p1:za5 [] [47,42]=false:=by decide
   have p2:za5 [] [42,47]=false:=by decide
   simp only[zdM,zdf,e,p1,p2,Bool.false_eq_true,if_false];rw[if_neg (by rw[length_append];omega)];rfl
 |n+1,N,i,d,hn,hN=>by
  cases N with
  |zero=>
   rw[length_append]at hN;have e:x.drop i=[]:=drop_eq_nil_of_le (by omega);have p1:za5 [] [47,42]=false:=by decide
   have p2:za5 [] [42,47]=false:=by decide
   simp only[zdM,e,p1,p2,Bool.false_eq_true,if_false];rw[if_neg (by omega)];rfl
  |succ N=>
   simp only[zdM,zdf];split
   ·exact ziN p x n N (i+2) (d+1) (by omega) (by omega)
   ·split
    ·split
     ·rfl
     ·exact ziN p x n N (i+2) (d-1) (by omega) (by omega)
    ·by_cases hl:i<x.length
     ·rw[if_pos hl,if_pos (by rw[length_append];omega)];exact ziN p x n N (i+1) d (by omega) (by omega)
     ·rw[if_neg hl,if_neg (by rw[length_append];omega)];rfl
theorem zu0 (p x:List UInt8)(i e:Nat):((p++x).take (p.length+e)).drop (p.length+i)=(x.take e).drop i:=by
 rw[take_append,take_of_length_le (by omega),Nat.add_sub_cancel_left,zdf]
theorem zoh (p x:List UInt8)(i:Nat)(l:Bool)(o:Option Nat):zfY (p++x) (p.length+i) l (o.map (p.length + ·))=(zfY x i l o).map fun q=>(p.length+q.1,q.2):=by
 cases o with
 |none=>rfl
 |some e=>
  simp only[zfY,Option.map_some];rw[zu0];split<;>rfl
theorem zsZ (p x:List UInt8)(i:Nat)(b:Bool)(hi:i≤x.length):zel (p++x) (p.length+i) b=(zel x i b).map (Option.map fun q=>(p.length+q.1,q.2)):=by
 unfold zel;rw[zdf];split
 ·have:(if Lib.indexByte (x.drop i) 10<0 then(p++x).length else p.length+i+(Lib.indexByte (x.drop i) 10).toNat)=p.length+(if Lib.indexByte (x.drop i) 10<0 then x.length else i+(Lib.indexByte (x.drop i) 10).toNat):=by
   rw[length_append];split<;>omega
  rw[this];simp only[Option.map_some];exact congrArg some (zoh p x i b (some _))
 ·split
  ·rw[ziN p x (x.length+1) _ i 0 (by omega) (by rw[length_append];omega)];simp only[Option.map_some];exact congrArg some (zoh p x i b _)
  ·rfl
theorem zhr (p x:List UInt8):∀(n N i:Nat)(b:Bool),x.length<n+i→(p++x).length<N+(p.length+i)→i≤x.length→skF (p++x) N (p.length+i) b=shR p.length (skF x n i b)
 |0,N,i,b,hn,hN,hi=>by omega
 |n+1,N,i,b,hn,hN,hi=>by
  obtain⟨N,rfl⟩:∃M,N=M+1:=⟨N-1,by rw[length_append]at hN;omega⟩;simp only[skF];by_cases hl:i<x.length
  ·rw[if_pos hl,if_pos (by rw[length_append];omega),zuV,zsZ p x i b hi];split
   ·exact zhr p x n N (i+1) _ (by omega) (by omega) (by omega)
   ·cases hc:zel x i b with
    |none=>rfl
    |some o=>
     cases o with
     |none=>rfl
     |some q=>
      have:=zfi hi hc;simp only[Option.map_some];exact zhr p x n N q.1 q.2 (by omega) (by omega) this.2
  ·rw[if_neg hl,if_neg (by rw[length_append];omega)];rfl
theorem zmE (p x:List UInt8)(i:Nat)(b:Bool)(hi:i≤x.length):skQ (p++x) (p.length+i) b=shR p.length (skQ x i b):=zhr p x _ _ i b (by omega) (by omega) hi
def mvT (d:Nat)(x:Tk):Tk:=(x.1,x.2.1,(d:Int)+x.2.2.1,x.2.2.2)
theorem zt9 {x:List UInt8}{i:Nat}{b:Bool}{M:List Tk}(h:Toks x i b M)(p:List UInt8):i≤x.length→Toks (p++x) (p.length+i) b (M.map (mvT p.length)):=by
 induction h with
 |done h=>
  intro hi;refine .done (l':=‹Bool›) ?_;rw[zmE p x _ _ hi,h,length_append];rfl
 | @step i j m b l' k t L h hj ht hr ih=>
  intro hi;have hk:=zfc hi h;have hm:=zcr ht;rw[length_drop]at hm;simp only at hm;have e:mvT p.length (k,t,(j:Int),l')=(k,t,((p.length+j:Nat):Int),l'):=by unfold mvT;simp
  rw[map_cons,e];refine .step (m:=m) ?_ (by rw[length_append];omega) (by rw[zdf];exact ht) ?_
  ·rw[zmE p x _ _ hi,h];rfl
  ·rw[Nat.add_assoc];exact ih (by omega)
theorem zqj {s:List UInt8}{i':Nat}{b:Bool}{M':List Tk}(h:Toks s i' b M')(p x:List UInt8)(hs:s=p++x):∀i,i'=p.length+i→i≤x.length→∃M,M'=M.map (mvT p.length)∧Toks x i b M:=by
 induction h with
 | @done i0 b l' h=>
  intro i hi hil;subst hs hi;rw[zmE p x i b hil]at h;cases hk:skQ x i b with
  |inl a=>rw[hk]at h;cases h
  |inr q=>
   rw[hk]at h;simp only[shR,Sum.inr.injEq,Prod.mk.injEq,length_append]at h;exact⟨[],rfl,.done (l':=q.2) (by rw[hk];congr 1;exact Prod.ext (by simp only;omega) rfl)⟩
 | @step i0 j m b l' k t L h hj ht hr ih=>
  intro i hi hil;subst hs hi;rw[zmE p x i b hil]at h;cases hk:skQ x i b with
  |inl a=>rw[hk]at h;cases h
  |inr q=>
   rw[hk]at h;simp only[shR,Sum.inr.injEq,Prod.mk.injEq]at h;obtain⟨rfl,rfl⟩:=h;rw[length_append]at hj;rw[zdf]at ht;have hm:=zcr ht;rw[length_drop]at hm;simp only at hm;obtain⟨M,h1,h2⟩:=ih (q.1+m) (by omega) (by omega);refine⟨(k,t,(q.1:Int),q.2)::M,?_,.step hk (by omega) ht h2⟩;rw[map_cons,h1];congr 1
theorem zgk {s:List UInt8}:∀(n i:Nat)(b:Bool)(j:Nat)(l':Bool),s.length<n+i→i≤s.length→skF s n i b=.inr (j,l')→j<s.length→∀(N:Nat)(b':Bool),skF s (N+1) j b'=.inr (j,b')
 |0,i,b,j,l',hn,hi,h,hj=>by omega
 |n+1,i,b,j,l',hn,hi,h,hj=>by
  intro N b';have hij:=(zfb s _ _ _ _ _ hi h).1;simp only[skF]at h;rw[if_pos (show i<s.length by omega)]at h;split at h
  ·exact zgk n (i+1) _ j l' (by omega) (by omega) h hj N b'
  ·rename_i hb;cases hc:zel s i b with
   |none=>
    rw[hc]at h;simp only[Sum.inr.injEq,Prod.mk.injEq]at h;obtain⟨rfl,rfl⟩:=h;have hc':zel s i b'=none:=by
     unfold zel at hc ⊢;split at hc
     ·cases hc
     ·rename_i h1;rw[if_neg h1];split at hc
      ·cases hc
      ·rename_i h2;rw[if_neg h2]
    simp only[skF];rw[if_pos hj,if_neg hb,hc']
   |some o=>
    cases o with
    |none=>rw[hc]at h;cases h
    |some p=>
     rw[hc]at h;have:=zfi hi hc;exact zgk n p.1 _ j l' (by omega) this.2 h hj N b'
def zuY:List (List UInt8):=[[32],[10],[9,13],[32,47,42,32,97,32,47,42,32,98,32,42,47,32,99,32,42,47,32],[32,47,47,32,120,10],[32]]
theorem zgj (a:UInt8)(z:List UInt8)(n:Nat)(b:Bool)(ha:zkk a=true)(hn:z.length<n):skF (a::z) (n+1) 0 b=shR 1 (skF z n 0 (b||(a==10))):=by
 have e0:atS (a::z) ((0:Nat):Int)=a.toNat:=by rw[zgw,zcg]
 have hb:(atS (a::z) ((0:Nat):Int)=32∨atS (a::z) ((0:Nat):Int)=9∨atS (a::z) ((0:Nat):Int)=13∨atS (a::z) ((0:Nat):Int)=10):=by
  rw[e0];rcases zcA ha with rfl|rfl|rfl|rfl<;>decide
 have h10:decide (atS (a::z) ((0:Nat):Int)=10)=(a==10):=by
  rw[e0];rcases zcA ha with rfl|rfl|rfl|rfl<;>decide
 have e1:skF (a::z) (n+1) 0 b=skF (a::z) n 1 (b||(a==10)):=by
  simp only[skF];rw[if_pos (by simp),if_pos hb,h10]
 rw[e1];have:=zhr [a] z n n 0 (b||(a==10)) (by omega) (by simp;omega) (by omega);simpa using this
theorem zpY (q z:List UInt8)(n:Nat)(b:Bool)(nl:Bool)(h0:∀b,zel (q++z) 0 b=some (some (q.length,b||nl)))(hq:0<q.length)(h47:atS (q++z) 0=47)(hn:z.length<n):skF (q++z) (n+1) 0 b=shR q.length (skF z n 0 (b||nl)):=by
 have e1:skF (q++z) (n+1) 0 b=skF (q++z) n q.length (b||nl):=by
  have h47':atS (q++z) ((0:Nat):Int)=47:=h47;simp only[skF];rw[if_pos (by rw[length_append];omega),h47',if_neg (by decide),h0]
 rw[e1];exact zhr q z n n 0 _ (by omega) (by rw[length_append];omega) (by omega)
theorem zxf (z:List UInt8)(b:Bool):zel ([47,42,32,97,32,47,42,32,98,32,42,47,32,99,32,42,47]++z) 0 b=some (some (17,b||false)):=by
 have e:zdM ([47,42,32,97,32,47,42,32,98,32,42,47,32,99,32,42,47]++z) (([47,42,32,97,32,47,42,32,98,32,42,47,32,99,32,42,47]++z).length+1) 0 0=some 17:=by
  have el:([47,42,32,97,32,47,42,32,98,32,42,47,32,99,32,42,47]++z).length+1=z.length+18:=by simp
  rw[el];simp[zdM,za5]
 unfold zel;rw[e,if_neg (by simp[za5]),if_pos (by simp[za5])];have e2:((([47,42,32,97,32,47,42,32,98,32,42,47,32,99,32,42,47]:List UInt8)++z).take 17).drop 0=[47,42,32,97,32,47,42,32,98,32,42,47,32,99,32,42,47]:=by simp
 have e3:Lib.validD [47,42,32,97,32,47,42,32,98,32,42,47,32,99,32,42,47]=true:=by kernel_rfl
 have e4:Lib.contains [47,42,32,97,32,47,42,32,98,32,42,47,32,99,32,42,47] [10]=false:=by kernel_rfl
 simp only[zfY,e2,e3,e4,if_true]
theorem zxg (z:List UInt8)(b:Bool):zel ([47,47,32,120]++10::z) 0 b=some (some (4,b||false)):=by
 have hi:Lib.indexByte ([47,47,32,120]++10::z) 10=4:=by
  simp[Lib.indexByte]
 unfold zel;rw[if_pos (by simp[za5]),drop_zero,hi];have e2:((([47,47,32,120]:List UInt8)++10::z).take 4).drop 0=[47,47,32,120]:=by simp
 have e3:Lib.validD [47,47,32,120]=true:=by kernel_rfl
 have e4:Lib.contains [47,47,32,120] [10]=false:=by kernel_rfl
 have e5:(if(4:Int)<0 then([47,47,32,120]++10::z).length else 0+(4:Int).toNat)=4:=rfl;rw[e5];simp only[zfY,e2,e3,e4,if_true]
theorem zvR {bl:List UInt8}(hb:bl∈zuY)(z:List UInt8)(n:Nat)(b:Bool)(hn:(bl++z).length<n)(hz:∀(N:Nat)(b':Bool),skF z (N+1) 0 b'=.inr (0,b')):skF (bl++z) n 0 b=.inr (bl.length,b||bl.contains 10):=by
 have one:∀(a:UInt8)(n:Nat)(b:Bool),zkk a=true→z.length+1<n→skF (a::z) n 0 b=.inr (1,b||(a==10)):=fun a n b ha hn=>by
  obtain⟨n,rfl⟩:∃m,n=m+2:=⟨n-2,by omega⟩;rw[zgj a z (n+1) b ha (by omega),hz];rfl
 simp only[zuY,mem_cons,not_mem_nil,or_false]at hb;rcases hb with rfl|rfl|rfl|rfl|rfl|rfl
 ·exact(one 32 n b (by decide) (by simp only[length_append,length_cons,length_nil]at hn;omega)).trans (by simp)
 ·exact(one 10 n b (by decide) (by simp only[length_append,length_cons,length_nil]at hn;omega)).trans (by simp)
 ·obtain⟨n,rfl⟩:∃m,n=m+1:=⟨n-1,by simp only[length_append,length_cons,length_nil]at hn;omega⟩;simp only[cons_append,nil_append,length_cons]at hn ⊢;rw[zgj 9 (13::z) n b (by decide) (by simp;omega),one 13 n _ (by decide) (by omega)];simp[shR]
 ·obtain⟨n,rfl⟩:∃m,n=m+2:=⟨n-2,by simp only[length_append,length_cons,length_nil]at hn;omega⟩;rw[show([32,47,42,32,97,32,47,42,32,98,32,42,47,32,99,32,42,47,32]++z:List UInt8)=32::([47,42,32,97,32,47,42,32,98,32,42,47,32,99,32,42,47]++32::z)from rfl]at hn ⊢;simp only[length_cons,length_append,length_nil]at hn;rw[zgj 32 _ (n+1) b (by decide) (by simp;omega),zpY _ (32::z) n _ false (zxf _) (by decide) rfl (by simp;omega),one 32 n _ (by decide) (by omega)];simp[shR]
 ·obtain⟨n,rfl⟩:∃m,n=m+2:=⟨n-2,by simp only[length_append,length_cons,length_nil]at hn;omega⟩;rw[show([32,47,47,32,120,10]++z:List UInt8)=32::([47,47,32,120]++10::z)from rfl]at hn ⊢;simp only[length_cons,length_append,length_nil]at hn;rw[zgj 32 _ (n+1) b (by decide) (by simp;omega),zpY _ (10::z) n _ false (zxg _) (by decide) rfl (by simp;omega),one 10 n _ (by decide) (by omega)];simp[shR]
 ·exact(one 32 n b (by decide) (by simp only[length_append,length_cons,length_nil]at hn;omega)).trans (by simp)
def zx0 (x:Tk):Tk:=(x.1,x.2.1,0,false)
structure BlR (l m:List Tk) (k:Nat) (nl:Bool):Prop where
  bar:m.map zx0=l.map zx0
  line:∀(n:Nat)(x y:Tk),l[n]? = some x→m[n]? = some y→y.2.2.2=if n=k then x.2.2.2||nl else x.2.2.2
theorem Toks.blank {s:List UInt8}{i:Nat}{b:Bool}{l:List Tk}(h:Toks s i b l){bl:List UInt8}(hb:bl∈zuY):i≤s.length→∀(k c:Nat)(x:Tk),l[k]? = some x→x.2.2.1=(c:Int)→∃m,Toks (s.take c++(bl++s.drop c)) i b m∧BlR l m k (bl.contains 10):=by
 have hbl:∀z:List UInt8,BlH (bl++z):=fun z a r e=>by
  simp only[zuY,mem_cons,not_mem_nil,or_false]at hb;rcases hb with rfl|rfl|rfl|rfl|rfl|rfl<;>(rw[←(List.cons.inj e).1];rfl)
 have hbp:0<bl.length:=by
  simp only[zuY,mem_cons,not_mem_nil,or_false]at hb;rcases hb with rfl|rfl|rfl|rfl|rfl|rfl<;>decide
 induction h with
 |done h=>intro _ k c x hx;simp at hx
 | @step i j m b l' kd t L h hj ht hr ih=>
  intro hi k c x hx hxc;have hk:=zfc hi h;have hm:=zcr ht;rw[length_drop]at hm;simp only at hm;cases k with
  |zero=>
   rw[List.getElem?_cons_zero]at hx;cases hx;simp only at hxc;have e:j=c:=by omega
   subst e;have hlen:(s.take j).length=j:=zbl hj;have hs:s=s.take j++s.drop j:=(take_append_drop j s).symm;obtain⟨M,h1,h2,_⟩:=zkF (y:=bl++s.drop j) (hbl _) hj _ ((s.take j++(bl++s.drop j)).length+1) i b j l' (by omega) hi h (by omega) (by omega);have hst:∀(N:Nat)(b':Bool),skF (s.drop j) (N+1) 0 b'=.inr (0,b'):=fun N b'=>by
    have h3:=zgk _ i b j l' (by omega) hi h hj (s.length+1) b';have h4:=zhr (s.take j) (s.drop j) (s.length+1) (s.length+2) 0 b' (by rw[length_drop];omega) (by rw[←hs,hlen];omega) (by omega);rw[←hs,hlen]at h4;have h4:skF s (s.length+1+1) j b'=shR j (skF (s.drop j) (s.length+1) 0 b'):=h4;rw[h3]at h4;have h5:skF (s.drop j) (s.length+1) 0 b'=.inr (0,b'):=by
     cases hq:skF (s.drop j) (s.length+1) 0 b' with
     |inl a=>rw[hq]at h4;cases h4
     |inr q=>
      rw[hq]at h4;simp only[shR,Sum.inr.injEq,Prod.mk.injEq]at h4;congr 1;exact Prod.ext (by simp only;omega) h4.2.symm
    exact zgk (s:=s.drop j) (s.length+1) 0 b' 0 b' (by rw[length_drop];omega) (by omega) h5 (by rw[length_drop];omega) N b'
   have hsk:skQ (s.take j++(bl++s.drop j)) i b=.inr (j+bl.length,l'||bl.contains 10):=by
    unfold skQ;rw[h2];have h6:=zhr (s.take j) (bl++s.drop j) ((bl++s.drop j).length+1) M 0 l' (by omega) (by rw[hlen];omega) (by omega);rw[hlen]at h6;have h6:skF (s.take j++(bl++s.drop j)) M j l'=shR j (skF (bl++s.drop j) ((bl++s.drop j).length+1) 0 l'):=h6;rw[h6,zvR hb _ _ _ (by omega) hst];rfl
   obtain⟨M2,e1,e2⟩:=zqj hr (s.take j) (s.drop j) hs m (by rw[hlen]) (by rw[length_drop];omega);have hp:s.take j++(bl++s.drop j)=(s.take j++bl)++s.drop j:=by rw[append_assoc]
   have hpl:(s.take j++bl).length=j+bl.length:=by rw[length_append,hlen]
   have e3:=zt9 e2 (s.take j++bl) (by rw[length_drop];omega);rw[hpl,←hp]at e3;refine⟨_,.step hsk (by rw[hp,length_append,hpl,length_drop];omega) (by rw[hp,←hpl,←Nat.add_zero (s.take j++bl).length,zdf];exact ht) e3,?_,?_⟩
   ·rw[e1];simp only[map_cons,map_map];rfl
   ·intro n x y hx hy;cases n with
    |zero=>
     rw[List.getElem?_cons_zero]at hx hy;cases hx;cases hy;rfl
    |succ n=>
     rw[List.getElem?_cons_succ]at hx hy;rw[e1]at hx;rw[List.getElem?_map]at hx hy;cases hq:M2[n]? with
     |none=>rw[hq]at hx;cases hx
     |some q=>
      rw[hq]at hx hy;cases hx;cases hy;rw[if_neg (by omega)];rfl
  |succ k=>
   rw[List.getElem?_cons_succ]at hx;have ha:=hr.at (by omega) x (mem_of_getElem? hx);have hcs:c<s.length:=by omega
   obtain⟨M,h1,h2⟩:=ih (by omega) k c x hx hxc;refine⟨_,.step (zpZ (hbl _) hcs hi h (by omega)) (by rw[length_append,zbl hcs];omega) (zqi (hbl _) hcs ht (by omega)) h1,?_,?_⟩
   ·simp only[map_cons];rw[h2.bar]
   ·intro n x y hx hy;cases n with
    |zero=>
     rw[List.getElem?_cons_zero]at hx hy;cases hx;cases hy;rw[if_neg (by omega)]
    |succ n=>
     rw[List.getElem?_cons_succ]at hx hy;have:=h2.line n x y hx hy;rw[this];by_cases hnk:n=k
     ·rw[if_pos hnk,if_pos (by omega)]
     ·rw[if_neg hnk,if_neg (by omega)]
theorem zoY {l:List Tk}{i:Nat}{x:Tk}(h:l[i]? = some x)(H:zaa):zae TT 4 H (.ipt 4 (zaG l) i 3)=some (.b x.2.2.2):=by
 have e:zb3 (TT.und 4)=some false:=rfl;simp only[zae,zaG,List.getElem?_map,h,Option.map_some,zby,e];rfl
noncomputable def cfC:zad:=(((zad.none.with 10 (ch zir)).with 11 (ch zfV)).with 25 (ch zmF)).with 14 (ch zp0)
theorem zr6:cfC.Sound prog TT:=ws (ws (ws (ws n0 (zeo zir)) (zeo zfV)) (zeo zmF)) (zeo zp0)
theorem zte (l m:List Tk)(hl:l.length<1100000)(he:m.length=l.length)(hk:∀(i:Nat)(x y:Tk),l[i]? = some x→m[i]? = some y→x.2.2.2=y.2.2.2) :
 ∀(n i:Nat)(t:Tm)(H:zaa),l.length<n+i→i≤l.length→t.wid=f9.ntmps→t.get 3=.isl 4 (zaG l)→t.get 7=.isl 4 (zaG m)→t.get 68=.i .i64 l.length→t.get 69=.i .i64 (i:Nat) →
 ctx prog TT [true,true,true,true,true,true,true,true,false,true,false,false] (zah f9) (zaV TT f9 (isR (.val (.b true)))) (.norm t H):=by
 intro n;induction n with
 |zero=>intro i t H h1 h2;omega
 |succ n ih=>
  intro i t H hn hi hw t3 t7 t68 t69;have hlr:=zbR l;have hmr:=zbR m;refine zbe.symIn (p:=[true,true,true,true,true,true,true,true,false,true,false]) zaf zr6 rfl zwx (by kernel_rfl) [.ul (zaG l),.ul (zaG m),.ui (i:Nat),.uh H] rfl hw ⟨t3,t7,by rw[t68,←hlr];rfl,t69,trivial⟩ rfl (zbd _ _) ?_;clear t3 t7 t68 t69 hw;simp -implicitDefEqProofs only[VC,isR,exU,Ask.den,forall_eq,E.den,O1.den,O2.den,O3.den,U.int_ui,U.boo_ub,U.val_uv,U.lst_ul,U.str_us,U.nat_un,U.heap_uh,SH.den,zaB,zbX,bD,SB.den,zaq,LQ,cons_append,nil_append,List.getElem?_cons_zero,List.getElem?_cons_succ,Option.getD_some,zam,zai,zan,zaj,beq_iff_eq,bne_iff_ne,beq_eq_false_iff_ne,Int.toNat_natCast,Bool.false_eq_true,if_false,if_true];have w1:IntKind.i64.wrap ((i:Int)+1)=((i+1:Nat):Int):=by rw[w64 (by omega) (by omega)];omega
  simp only[w1,Int.toNat_natCast];rw[hlr,hmr];refine⟨fun h=>?_,fun h=>.inl ⟨true,zc2 zir,rfl⟩⟩;have h1:i<l.length:=by omega
  have h2:i<m.length:=by omega
  have hx:=List.getElem?_eq_getElem h1;have hy:=List.getElem?_eq_getElem h2;have hline:=hk i _ _ hx hy;refine⟨by omega,.inl ⟨l[i].2.2.2,congrArg (fun o=>lift o H) (zoY hx H),by omega,.inl ⟨m[i].2.2.2,congrArg (fun o=>lift o H) (zoY hy H),fun hq t' hw' f3 f7 f68 f69=>?_,fun hq=>absurd hline hq⟩⟩⟩;exact ih (i+1) t' H (by omega) (by omega) hw' f3 f7 f68 f69
theorem zrl (s:List UInt8)(h1:s.length<1100000):zkS prog TT 9 [.s s] (.val (.b true)):=by
 apply zbY.of1;apply zaH.is;refine zaH.sym zaf zr6 (fn:=f9) rfl rfl (by simp[f9]) zxP (by kernel_rfl) [.us s,.uh []] rfl ⟨by rw[zag];rfl,trivial⟩ rfl (zbd _ _) ?_;simp -implicitDefEqProofs only[VC,isR,exU,Ask.den,forall_eq,E.den,O1.den,O2.den,O3.den,U.int_ui,U.boo_ub,U.val_uv,U.lst_ul,U.str_us,U.nat_un,U.heap_uh,SH.den,zaB,zbX,bD,SB.den,zaq,LQ,cons_append,nil_append,List.getElem?_cons_zero,List.getElem?_cons_succ,Option.getD_some,zam,zai,zan,zaj,beq_iff_eq,bne_iff_ne,beq_eq_false_iff_ne,Int.toNat_natCast];rcases hsc:zf0 s with⟨l,a,e⟩;refine .inl ⟨zaG l,(a:Nat),(e:Nat),fun K=>(zc2 zfV s K).trans (by rw[hsc];rfl),fun h=>.inl ⟨true,zc2 zir,rfl⟩,fun h=>⟨fun he=>.inl ⟨true,zc2 zir,rfl⟩,fun he=>?_⟩⟩;have he:e=0:=by simpa using he
 subst he;have ht:=zkD (by omega) hsc;have ha:=ziw (by omega) ht;have hlen:=zmO ht (Nat.zero_le _);have hlx:l.length<1000000∧∀x∈l,x.2.1.length<1000000:=⟨by omega,fun x hx=>by have:=(ha x hx).len;omega⟩;have hT:=zc2 zmF l hlx;have htx:=zgo (fun x=>zfZ x.1 x.2.1) l true [] (fun x hx=>(ha x hx).fit) (fun _=>zkK ht) (by simp);rw[nil_append]at htx;by_cases hj:(zbp true l).length≤20000
 ·rw[if_pos hj]at htx;obtain⟨_,m,hm,hk,htm,_,_⟩:=zqJ (by omega) hsc hj;have hml:m.length=l.length:=by have:=congrArg List.length hk;simpa using this
  have hmx:m.length<1000000∧∀x∈m,x.2.1.length<1000000:=by
   refine⟨by omega,fun y hy=>?_⟩;have:zjH y∈l.map zjH:=by rw[←hk];exact mem_map_of_mem hy
   obtain⟨x,h1,h2⟩:=mem_map.1 this;simp only[zjH,Prod.mk.injEq]at h2;rw[←h2.2.1];exact hlx.2 x h1
  refine .inl ⟨zbp true l,((0:Nat):Int),fun K=>(hT K).trans (by rw[htx];rfl),fun h=>absurd h (by decide),fun _=>?_⟩;refine .inl ⟨zaG m,((0:Nat):Int),((0:Nat):Int),fun K=>(zc2 zfV (zbp true l) K).trans (by rw[hm];rfl),?_⟩;refine .inl ⟨zbp true l,((0:Nat):Int),fun K=>(zc2 zmF m hmx K).trans (by rw[htm];rfl),fun h=>by simp at h,fun _=>⟨fun h=>by simp at h,fun _=>⟨fun h=>by simp at h,fun _=>⟨fun h=>by simp at h,fun _=>?_⟩⟩⟩⟩;have hsame:znu l m=true:=by
   unfold znu;rw[decide_eq_true_eq];have e:∀q:List Tk,q.map zhD=(q.map zjH).map fun p=>(p.1,p.2.1,(0:Int),false):=fun q=>by rw[map_map];rfl
   rw[e,e,hk]
  refine .inl ⟨znu l m,zc2 zp0 (l,m) ⟨by simp only;omega,by simp only;omega⟩,fun _ t hw t3 t7 t68 t69=>?_,fun h=>by rw[hsame]at h;cases h⟩;refine Tri.symLoop rfl (zte l m (by omega) hml (fun i x y hx hy=>?_) (l.length+1) 0 t [] (by omega) (by omega) hw t3 t7 (by rw[t68,zbR]) t69);have:=congrArg (fun q:List (Int×List UInt8×Bool)=>q[i]?) hk;simp only[List.getElem?_map,hx,hy,Option.map_some,Option.some.injEq,zjH,Prod.mk.injEq]at this;exact this.2.2.symm
 ·rw[if_neg hj]at htx;exact .inl ⟨[],((16:Nat):Int),fun K=>(hT K).trans (by rw[htx];rfl),fun _=>.inl ⟨true,zc2 zir,rfl⟩,fun h=>by simp at h⟩
open Go.ChangeShapes Go.WideShapes Go.RowKit
open Go.Proofs.YtmjplflnlggbeaaGreatDoor (Rows.uptoBulk Rows.uptoBulkAll Rows.tokenBackSpec Rows.tokenBackUptoRow Rows.uptoSmall Rows.OpenSpec.upto)
section
variable {H:Type}{enc:TypeId×Value→H}{W W':World}
theorem zfd {sp:Nat→Bool}:∀{ts:List TypeId}{vs:List Value}{ds:List (DataW H)}{ps:List MemPlace},DataW.TrodAll enc prog W 0 sp true ts vs ds ps→(∀p∈ps,W.sameAt W' p)→DataW.TrodAll enc prog W' 0 sp true ts vs ds ps
 | [],[],[],_,h,_=>h
 |_::_,_::_,_::_,_,⟨p,q,⟨n,h1⟩,h2,e⟩,hs=>⟨p,q,⟨n,DataW.trod_carry n _ _ _ h1 fun x hx=>hs x (by rw[e];exact mem_append_left _ hx)⟩,zfd h2 fun x hx=>hs x (by rw[e];exact mem_append_right _ hx),e⟩
theorem znv (hb:Below W.heap.size W W')(p:MemPlace)(hp:p.block<W.heap.size):W.sameAt W' p:=by
 cases p with
 |cell b off=>
  show W'.cell? ⟨b,off,none⟩=W.cell? ⟨b,off,none⟩;unfold World.cell?;rw[hb.block b hp]
 |map b=>exact hb.block b hp
theorem znc (hb:Below W.heap.size W W')(may:MemPlace→Prop):W.keptBut W' may:=by
 refine⟨hb.os,hb.output,fun i hi=>?_⟩;rw[hb.block i hi];exact(World.keptBut_refl W may).2.2 i hi
theorem zxt:Kids prog (·<prog.types.size):=kids_rows (by kernel_rfl) (by kernel_rfl)
theorem zuT {base:Nat}{v:Value}{d:DataW H}{p:List MemPlace}(hok:Value.okWide prog W .any base 9 v)(h:DataW.Trod enc prog W 0 (fun _=>true) true 9 v d p) :
 ∃s:List UInt8,rel (zlp W) [] (.s s) v∧s.length<Rows.uptoBulk d:=by
 have hv:∃s:ByteArray,v=.string s:=by
  unfold Value.okWide Cell.okWide Cell.ok at hok;rw[Tryz.underlying9]at hok;cases v<;>simp at hok;exact⟨_,rfl⟩
 obtain⟨s,rfl⟩:=hv;obtain⟨n,hn⟩:=h;obtain⟨s',e1,e2,_⟩:=DataW.trod_string Tryz.underlying9 hn;have e:s=s':=by simpa[Value.cells]using e1
 subst e;simp only[Prod.mk.injEq]at e2;refine⟨s.data.toList,by simp only[rel],?_⟩;rw[e2.1];simp[Rows.uptoBulk]
end
theorem contract {H:Type}(enc:TypeId×Value→H)(F:Stop.Interp)(W:World)(base:Nat)(args:Array Value)(ds gs:List (DataW H))(before:List MemPlace)
 (hval:∀(j:Nat) t v,f9.params[j]? = some t→args[j]? = some v→Value.okWide prog W .any base t v)
 (hW:DataW.Whole enc prog f9.params.toList Rows.tokenBackSpec.vars false W args.toList ds gs before)
 (hsm:Rows.uptoBulkAll (ds++gs)≤1048576)(hL:laidMetH prog Rows.tokenBackUptoRow.laid W)(hsh:W.ShapedOpen prog) :
 Calls prog 9 args W fun e W'=>∃v,e=.returned v∧((Rows.OpenSpec.upto Rows.tokenBackSpec).at F).post enc prog f9 false true false false W args v W':=by
 have hW':=hW;obtain⟨p,q,hA0,hV,rfl,hfz,hnd⟩:=hW;have hA:DataW.TrodAll enc prog W 0 (fun _=>true) true f9.params.toList args.toList ds p:=hA0;have hAk:=hA;rw[Tryz.params9]at hA hval;obtain⟨v0,vs0,d0,ds0,p0,q0,hargs,rfl,rfl,h0,r0⟩:=trodAll_cons hA;obtain⟨rfl,rfl,rfl⟩:=trodAll_nil r0;obtain rfl:args=#[v0]:=by cases args;simp_all
 obtain⟨rfl,rfl⟩:=trodVars_none hV;obtain⟨x0,e0,n0'⟩:=zuT (hval 0 9 v0 rfl rfl) h0;simp only[append_nil,Rows.uptoBulkAll]at hsm;have hb:=zrl x0 (by omega);obtain⟨_,hcall⟩:=zgH zaf zaw hb (by simp[nlL,nl]) rfl;have:=hcall [] (zlp W) [] W [v0] (znB hL hsh) (zaz e0 (by simp only[relL]));refine Calls.mono this ?_;rintro e W' ⟨x,M',ρ',rfl,he,hx,_⟩;simp only[rel]at hx;subst hx;have hB:Below W.heap.size W W':=⟨he.os,he.tape,he.output,he.size,fun k hk=>he.frame k hk (fun c hc=>by simp at hc)⟩;have hlt:=hAk.lt;have hresp:=DataW.TrodAll.respare (spare':=fun b=>decide (b<W.heap.size)) zxt (slices_full_of prog (by kernel_rfl)) (fun t ht=>by
  rw[Tryz.params9]at ht;have:t=9:=by simpa using ht
  subst this;exact of_decide_eq_true (by kernel_rfl)) hAk (fun p hp=>by simpa using hlt p hp)
 refine⟨_,rfl,?_⟩;refine⟨_,_,_,[],_,[],hW',?_,zfd hresp (fun p hp=>znv hB p (hlt p hp)),rfl,znc hB _,fun h=>by cases h⟩;exact trodAll_mk1 (shut_bool Tryz.underlying4 true)
end Go.Ev
namespace Go.Proofs.YtmjplflnlggbeaaGreatDoor
open Go Go.Proofs Go.RowKit
set_option maxRecDepth 1000000
theorem own : ownKnob Tryz.prog.godebug = none := by kernel_rfl
noncomputable def u8s (l : List Int) : Array Value := (l.map fun c => Value.int .u8 c).toArray
noncomputable def u16s (l : List Int) : Array Value := (l.map fun c => Value.int .u16 c).toArray
noncomputable def u64s (l : List Int) : Array Value := (l.map fun c => Value.int .u64 c).toArray
noncomputable def cellsOfG : List (Nat × Array Value) := [(0, (Go.Ev.sgnL.map fun s => Value.string ⟨s.toArray⟩).toArray), (3, u8s ((List.range 256).map fun i => if i = 32 ∨ (9 ≤ i ∧ i ≤ 13) then 1 else 0)), (1, u8s ((List.range 256).map fun i => (Lib.firstT i : Int))),
 (2, u8s ((List.range 16).map fun i => [(Lib.accLo i : Int), (Lib.accHi i : Int)]).flatten), (5, #[.pointer (some { block := 18, off := 0 })]), (11, #[.pointer (some { block := 18, off := 0 })]), (8, u64s [1, 10, 100, 1000, 10000, 100000, 1000000, 10000000, 100000000, 1000000000, 10000000000, 100000000000, 1000000000000, 10000000000000, 100000000000000, 1000000000000000, 10000000000000000, 100000000000000000, 1000000000000000000, 10000000000000000000]), (9, u8s [0, 1, 28, 2, 29, 14, 24, 3, 30, 22, 20, 15, 25, 17, 4, 8, 31, 27, 13, 23, 21, 19, 16, 7, 26, 12, 18, 6, 11, 5, 10, 9]), (10, u8s [0, 1, 56, 2, 57, 49, 28, 3, 61, 58, 42, 50, 38, 29, 17, 4, 62, 47, 59, 36, 45, 43, 51, 22, 53, 39, 33, 30, 24, 18, 12, 5, 63, 55, 48, 27, 60, 41, 37, 16, 46, 35, 44, 21, 52, 32, 23, 11, 54, 26, 40, 15, 34, 20, 31, 10, 25, 14, 19, 9, 13, 8, 7, 6])]
noncomputable def setG (h : Array Obj) (x : Nat × Array Value) : Array Obj := h.modify x.1 fun
 | .cells _ t f => .cells x.2 t f
 | o => o
noncomputable def base (os : Os) : Array Obj := (World.holding Tryz.prog os ⟨#[], #[], []⟩).heap
noncomputable def heapG (os : Os) : Array Obj := Array.push (Array.push (cellsOfG.foldl setG (base os)) (.cells (u16s [9, 13, 1, 32, 133, 101, 160, 5760, 5600, 8192, 8202, 1, 8232, 8233, 1, 8239, 8287, 48, 12288, 12288, 1]) 161 (0, 0))) (.cells #[.slice (some { block := 17, off := 0 }) 7 7, .slice none 0 0, .int .i64 2] 159 (0, 0))
noncomputable def laidWorld (os : Os) : World := { World.holding Tryz.prog os ⟨#[], #[], []⟩ with heap := heapG os }
noncomputable def args0 : Array Value := #[.string ByteArray.empty]
theorem laid_met (os : Os) : laidMet Tryz.prog Rows.tokenBackUptoRow.laid ((laidWorld os).forCall (fun _ _ => 0) ⟨#[], args0, []⟩).memory :=
 laidMet_of_run3 8 (by kernel_rfl) (by kernel_rfl) (by kernel_rfl)
end Go.Proofs.YtmjplflnlggbeaaGreatDoor
