/- Two literals behind each other are scanned to their two texts. awake returns true. What the row's list of tables says of the world, and that a text reads as its bytes. Runs of the lock. The slow way of Once. Once and NewReplacer, closed. Once and NewReplacer, at any heap. Replace, that of its table given. Counts of a byte. The counting loop of Replace. The loop of Replace over words. The copying loop of Replace. The body of Replace. Texts of floats. Replace of a table of bytes. Replace. The text of a float. Scan of every text. The digits of the program and of the reference. The ends of numbers, the exponent. The numbers of the program are those of the reference. Escapes, strings and characters of the program are those of the reference. -/
import Derived.Test.YtmjplflnlggbeaaGreatDoorBZI
import Derived.Test.YtmjplflnlggbeaaGreatDoorRows
import Derived.ChangeArms
import Derived.ChangeSame
import Derived.ChangeReads
import Derived.ReadAgain
import Derived.Deep.Strs
import Derived.Lib.LaidTab
import Derived.Lib.LaidU8T
import Derived.MakeChecks
import Derived.Shelf.Vars
import Derived.Test.YtmjplflnlggbeaaGreatDoorBEvPart2
import Derived.Test.YtmjplflnlggbeaaGreatDoorBYK
import Derived.Test.YtmjplflnlggbeaaGreatDoorBYC
namespace Go.Ev
open Go Go.Proofs
set_option linter.unusedSimpArgs false
set_option linter.unusedVariables false
set_option linter.unnecessarySimpa false
open Tryz List
set_option maxRecDepth 1000000
theorem zfg (p:List UInt8)(c:UInt8)(r:List UInt8):atS (p++c::r) (p.length:Nat)=c.toNat:=by
 unfold atS;rw[Int.toNat_natCast,zkI]
theorem zti:((List.range 128).all fun c=>decide (¬(c<32∨c=127))||(decide (zbz ((zoS.getD (c/16) 0).toNat:Nat)=((c/16:Nat):Int))&&decide (zbz ((zoS.getD (c%16) 0).toNat:Nat)=((c%16:Nat):Int))&&((Utf8.encode c).data.toList==[UInt8.ofNat c])&&vrR c))=true:=by kernel_rfl
theorem zrf (c:Nat)(h:c<32∨c=127):zbz ((zoS.getD (c/16) 0).toNat:Nat)=((c/16:Nat):Int)∧zbz ((zoS.getD (c%16) 0).toNat:Nat)=((c%16:Nat):Int)∧(Utf8.encode c).data.toList=[UInt8.ofNat c]∧vrR c=true:=by
 have:=all_eq_true.1 zti c (mem_range.2 (by omega));simp only[Bool.or_eq_true,Bool.and_eq_true,decide_eq_true_eq,beq_iff_eq]at this;rcases this with h1|h1
 ·exact absurd h h1
 ·exact⟨h1.1.1.1,h1.1.1.2,h1.1.2,h1.2⟩
theorem zs6 (a b:UInt8)(r:List UInt8)(c:Nat)(hc:c<128)(h1:zbz (a.toNat:Nat)=((c/16:Nat):Int))(h2:zbz (b.toNat:Nat)=((c%16:Nat):Int))(h3:(Utf8.encode c).data.toList=[UInt8.ofNat c])(h4:vrR c=true):zfK (120::a::b::r)=some ([UInt8.ofNat c],3):=by
 have a0:atS (120::a::b::r) 0=120:=rfl;have a1:atS (120::a::b::r) ((1:Nat):Int)=a.toNat:=rfl;have a2:atS (120::a::b::r) ((2:Nat):Int)=b.toNat:=rfl;have p0:plT 120=none:=rfl;have l0:loT 120=2:=rfl;have hh:zke (120::a::b::r) 2 1 0=some c:=by
  show zke _ (1+1) 1 0=_;rw[zke,a1,h1,if_pos (by omega)];show zke _ (0+1) 2 _=_;rw[zke,a2,h2,if_pos (by omega),zke];refine congrArg some ?_;rw[Int.toNat_natCast,Int.toNat_natCast];omega
 unfold zfK;rw[if_neg (by simp<;>omega),a0,p0,l0];simp only;rw[if_pos ⟨by omega,by simp⟩,hh];simp only;rw[zge _ _ (by omega) h4 (.inr hc),h3]
theorem zhZ (a:UInt8)(r x:List UInt8)(h:plT (a.toNat:Nat)=some x):zfK (a::r)=some (x,1):=by
 have a0:atS (a::r) 0=a.toNat:=rfl;unfold zfK;rw[if_neg (by simp<;>omega),a0,h]
theorem zls (c:UInt8):(qtC c.toNat=[c]∧(c.toNat:Int)≠10∧(c.toNat:Int)≠34∧(c.toNat:Int)≠92)∨(∃y,qtC c.toNat=92::y∧∀rest,zfK (y++rest)=some ([c],y.length)):=by
 have cc:∀k:Nat,c.toNat=k→[c]=[UInt8.ofNat k]:=fun k h=>by rw[←h,UInt8.ofNat_toNat]
 by_cases a1:c.toNat=34
 ·exact .inr ⟨[34],by rw[a1];rfl,fun r=>by rw[cc _ a1];exact zhZ 34 r _ rfl⟩
 by_cases a2:c.toNat=92
 ·exact .inr ⟨[92],by rw[a2];rfl,fun r=>by rw[cc _ a2];exact zhZ 92 r _ rfl⟩
 by_cases a3:c.toNat=10
 ·exact .inr ⟨[110],by rw[a3];rfl,fun r=>by rw[cc _ a3];exact zhZ 110 r _ rfl⟩
 by_cases a4:c.toNat=9
 ·exact .inr ⟨[116],by rw[a4];rfl,fun r=>by rw[cc _ a4];exact zhZ 116 r _ rfl⟩
 by_cases a5:c.toNat=13
 ·exact .inr ⟨[114],by rw[a5];rfl,fun r=>by rw[cc _ a5];exact zhZ 114 r _ rfl⟩
 by_cases a6:c.toNat=0
 ·exact .inr ⟨[48],by rw[a6];rfl,fun r=>by rw[cc _ a6];exact zhZ 48 r _ rfl⟩
 by_cases h:c.toNat<32∨c.toNat=127
 ·obtain⟨h1,h2,h3,h4⟩:=zrf c.toNat h;refine .inr ⟨[120,zoS.getD (c.toNat/16) 0,zoS.getD (c.toNat%16) 0],?_,fun r=>?_⟩
  ·unfold qtC;rw[if_neg a1,if_neg a2,if_neg a3,if_neg a4,if_neg a5,if_neg a6,if_pos h]
  ·have:=zs6 _ _ r c.toNat (by omega) h1 h2 h3 h4;rw[UInt8.ofNat_toNat]at this;exact this
 ·refine .inl ⟨?_,by omega,by omega,by omega⟩;unfold qtC;rw[if_neg a1,if_neg a2,if_neg a3,if_neg a4,if_neg a5,if_neg a6,if_neg h,UInt8.ofNat_toNat]
def qtB (w:List UInt8):List UInt8:=(w.map fun c=>qtC c.toNat).flatten
theorem zcU (c:UInt8)(w:List UInt8):qtB (c::w)=qtC c.toNat++qtB w:=rfl
theorem zpq:∀(w p:List UInt8)(rest out:List UInt8)(n:Nat),w.length<n→zeG (p++(qtB w++34::rest)) 34 n p.length out=if Lib.validD (out++w)=true then some (out++w,p.length+(qtB w).length+1)else none
 | [],p,rest,out,0,h=>absurd h (by simp)
 | [],p,rest,out,n+1,h=>by
  have a0:atS (p++(qtB []++34::rest)) (p.length:Nat)=34:=zfg p 34 rest;rw[zeG,if_neg (by simp<;>omega),a0,if_neg (by omega),if_pos rfl,append_nil];rfl
 |c::w,p,rest,out,0,h=>absurd h (by simp)
 |c::w,p,rest,out,n+1,h=>by
  have hn:w.length<n:=by simpa using h
  rcases zls c with⟨e,h1,h2,h3⟩|⟨y,e,hy⟩
  ·have e1:p++(qtB (c::w)++34::rest)=p++c::(qtB w++34::rest):=by rw[zcU,e];rfl
   have a0:=zfg p c (qtB w++34::rest);have ih:=zpq w (p++[c]) rest (out++[c]) n hn;rw[e1,zeG,if_neg (by simp<;>omega),a0,if_neg h1,if_neg h2,if_neg h3];rw[Int.toNat_natCast,UInt8.ofNat_toNat];have e2:p++[c]++(qtB w++34::rest)=p++c::(qtB w++34::rest):=by simp
   rw[e2,length_append]at ih;simp only[length_singleton]at ih;rw[ih,zcU,e];simp[Nat.add_assoc,Nat.add_comm,Nat.add_left_comm]
  ·have e1:p++(qtB (c::w)++34::rest)=p++92::(y++(qtB w++34::rest)):=by rw[zcU,e];simp
   have a0:atS (p++92::(y++(qtB w++34::rest))) (p.length:Nat)=92:=zfg p 92 _;have ih:=zpq w (p++92::y) rest (out++[c]) n hn;have ed:(p++92::(y++(qtB w++34::rest))).drop (p.length+1)=y++(qtB w++34::rest):=by
    rw[show p++92::(y++(qtB w++34::rest))=(p++[92])++(y++(qtB w++34::rest))from by simp,show p.length+1=(p++[92]).length from by simp,drop_left]
   rw[e1,zeG,if_neg (by simp<;>omega),a0,if_neg (by omega),if_neg (by omega),if_pos rfl,ed,hy];simp only;have e2:p++92::y++(qtB w++34::rest)=p++92::(y++(qtB w++34::rest)):=by simp
   have e3:(p++92::y).length=p.length+1+y.length:=by simp;omega
   rw[e2,e3]at ih;rw[ih,zcU,e];simp[Nat.add_assoc,Nat.add_comm,Nat.add_left_comm]
def qtL (w:List UInt8):List UInt8:=34::(qtB w++[34])
theorem zsn:∀w:List UInt8,w.length≤(qtB w).length
 | []=>Nat.le_refl _
 |c::w=>by
  rw[zcU,length_append,length_cons];have:=zsn w;rcases zls c with⟨e,_⟩|⟨y,e,_⟩<;>rw[e]<;>simp<;>omega
theorem zso:∀w:List UInt8,(qtB w).length≤4*w.length
 | []=>Nat.le_refl _
 |c::w=>by
  rw[zcU,length_append,length_cons];have:=zso w;have:=zpo c.toNat
  omega
theorem zps (w rest:List UInt8)(hv:Lib.validD w=true):zcu (qtL w++rest) 34=some (w,(qtL w).length):=by
 have h:=zpq w [34] rest [] (qtL w++rest).length (by have:=zsn w;simp[qtL];omega);unfold zcu;have e:qtL w++rest=[34]++(qtB w++34::rest):=by simp[qtL]
 rw[←e]at h;rw[show(1:Nat)=[(34:UInt8)].length from rfl,h,nil_append,if_pos hv];simp[qtL];omega
theorem zwL (w rest:List UInt8)(hv:Lib.validD w=true)(hr:rest=[]∨∃r,rest=32::r):zhw (qtL w++rest)=some (w,(qtL w).length):=by
 have hp:za5 (qtL w++rest) [34,34,34]=false:=by
  unfold za5;rcases hw:w with _|⟨c,w'⟩
  ·rcases hr with rfl|⟨r,rfl⟩
   ·rfl
   ·simp[qtL,qtB]
  ·rcases zls c with⟨e,_,h2,_⟩|⟨y,e,_⟩
   ·have:c≠34:=fun e=>h2 (by rw[e];rfl);simp[qtL,zcU,e,this]
   ·simp[qtL,zcU,e]
 unfold zhw;rw[if_neg (by rw[hp];exact Bool.false_ne_true)];exact zps w rest hv
theorem zwk (w rest:List UInt8)(hv:Lib.validD w=true)(hr:rest=[]∨∃r,rest=32::r):zcM kw zcm (qtL w++rest)=.inr (5,w,(qtL w).length):=by
 have a0:atS (qtL w++rest) 0=34:=rfl;have i0:idR (qtL w++rest) 0=0:=by
  unfold idR;have:atR (qtL w++rest) 0=34:=rfl;rw[this,if_pos (by decide)]
 unfold zcM;rw[i0,a0,if_neg (by omega),if_neg (by decide),if_neg (by decide),if_pos rfl,zwL w rest hv hr]
theorem zk5 (s:List UInt8)(i:Nat)(c:UInt8)(x:List UInt8)(h:s.drop i=c::x):i<s.length∧atS s i=c.toNat∧s.drop (i+1)=x:=by
 have h1:i<s.length:=by
  apply Nat.lt_of_not_le;intro hle;rw[drop_eq_nil_of_le hle]at h;cases h
 have h2:s[i]? = some c:=by
  have:(s.drop i)[0]? = some c:=by rw[h];rfl
  rwa [List.getElem?_drop,Nat.add_zero]at this
 refine⟨h1,?_,?_⟩
 ·unfold atS;rw[Int.toNat_natCast,h2]
 ·have:(s.drop i).drop 1=x:=by rw[h];rfl
  rwa [drop_drop]at this
theorem zsr (s:List UInt8)(l:Bool):skQ s s.length l=.inr (s.length,l):=by
 unfold skQ;rw[skF,if_neg (by omega)]
section
variable (u v:List UInt8)
end
theorem zxy (s:List UInt8)(h:Lib.validD s=true):qtR s=.tup [.s (qtL s),.i .i64 0]:=by
 unfold qtR;rw[if_pos h];rfl
def NoF (x:List UInt8):Prop:=∀m,zdO x≠some (m,true)
def awC:Con:=fun f vs=>if f=11 then(match vs with
 | [.s s]=>if s=aw1 then some (.val (zqy ([(2,[108,101,116],0,true),(1,[120,39],4,false),(6,[61],7,false),(3,[50,53,53],9,false)],0,0)))else if s=aw2 then some (.val (zqy ([(3,[49],0,true),(6,[46],1,false),(1,[101],2,false),(1,[97],4,false),(6,[46,62],5,false),(1,[98],7,false),(5,[97,65],9,false)],0,0)))else none
 |_=>none)else none
theorem zsN:(match zdE TT (zhJ awC) 3000 10 [] []with | .val (.b true) _=>true|_=>false)=true:=by kernel_rfl
def noF (x:List UInt8):Bool:=match zdO x with
 |some (_,true)=>false
 |_=>true
theorem ztv {x:List UInt8}(h:noF x=true):NoF x:=fun m e=>by
 unfold noF at h;rw[e]at h;cases h
def ztS (s:List UInt8):Nat→Nat→Bool→Bool
 |0,_,_=>true
 |n+1,i,l=>match skQ s i l with
  | .inl a=>true
  | .inr (j,l')=>if j=s.length then true else if(noF (s.drop j) || !(decide (48≤atS (s.drop j) 0)&&decide (atS (s.drop j) 0≤57)))=true then(match zcM kw zcm (s.drop j)with
   | .inl e=>true
   | .inr (k,t,m)=>ztS s n (j+m) false)else false
theorem zjq (s:List UInt8):∀(n i:Nat)(l:Bool),ztS s n i l=true→zmD NoF s n i l
 |0,_,_,_=>trivial
 |n+1,i,l,h=>by
  unfold ztS at h;unfold zmD;split
  ·trivial
  ·rename_i j l' e;rw[e]at h;simp only at h;split at h
   ·exact .inl ‹_›
   ·split at h
    ·rename_i h1;refine .inr ⟨fun hd=>?_,?_⟩
     ·rw[hd]at h1;exact ztv (by simpa using h1)
     ·split
      ·trivial
      ·rename_i k t m e2;rw[e2]at h;exact zjq s n _ _ h
    ·cases h
theorem zxc:zmD NoF aw1 (aw1.length+1) 0 true:=zjq _ _ _ _ (by kernel_rfl)
theorem zxd:zmD NoF aw2 (aw2.length+1) 0 true:=zjq _ _ _ _ (by kernel_rfl)
theorem ztX:∃g,zao prog TT 11 g∧∀s:List UInt8,(s.length≤20000→zmD NoF s (s.length+1) 0 true)→∀H,g [.s s] H=.val (zqy (zf0 s)) H:=
 zkG NoF fun s at_ h _ m t he=>absurd he (h m)
theorem zir:∃g,zao prog TT 10 g∧∀H,g [] H=.val (.b true) H:=by
 obtain⟨g1,k1,s1⟩:=ztX;have hC:awC.Sound prog TT:=by
  intro f vs H r h hne;simp only[zhJ,awC]at h;split at h
  ·rename_i hf;subst hf;split at h
   ·rename_i s;split at h
    ·rename_i e;subst e;refine k1 _ H r ?_ hne;rw[s1 aw1 (fun _=>zxc) H,zsL];exact Option.some.inj h
    ·split at h
     ·rename_i e;subst e;refine k1 _ H r ?_ hne;rw[s1 aw2 (fun _=>zxd) H,zsM];exact Option.some.inj h
     ·cases h
   ·cases h
  ·cases h
 refine⟨fun vs H=>match vs with | []=>.val (.b true) H|_=>.no,fun vs H x hx hne=>?_,fun H=>rfl⟩;simp only at hx;split at hx
 ·subst hx;have h:=zsN;split at h
  ·rename_i J he;obtain⟨h1,h2⟩:=zjV zaf zaw hC (r:=.val (.b true)) he rfl rfl;exact⟨h1,h2 H⟩
  ·cases h
 ·exact absurd hx.symm hne
open Go.Lib (VarReads LaidVars_reads acceptData firstData)
def zlp (W:World):Mem:=fun b=>W.heap[b]?
theorem zid {M:Mem}{ρ:Ren}:∀(l:List V)(cs:List Value),cs.length=l.length→(∀(i:Nat) v x,l[i]? = some v→cs[i]? = some x→rel M ρ v x)→relL M ρ l cs
 | [],[],_,_=>by simp only[relL]
 | [],_::_,h,_=>by simp at h
 |_::_,[],h,_=>by simp at h
 |v::l,x::cs,h,k=>zaz (k 0 v x rfl rfl) (zid l cs (by simpa using h) fun i v' x' h1 h2=>k (i+1) v' x' (by simpa using h1) (by simpa using h2))
theorem zgY {W:World}{name:String}{g:Nat}{cs:Array Value}{l:List V}(hg:prog.globalNamed name=some g)(hv:W.var? prog name=some cs)(hl:cs.size=l.length)
 (h:∀(i:Nat) v,l[i]? = some v→∃x,W.cell? ⟨g,i,none⟩=some x∧rel (zlp W) [] v x) :
 ∃(cs':List Value)(ty:TypeId)(fr:Nat×Nat),zlp W g=some (.cells cs'.toArray ty fr)∧relL (zlp W) [] l cs':=by
 unfold World.var? at hv;rw[hg]at hv;simp only[Option.bind_some]at hv;split at hv
 ·rename_i c ty fr hb;cases hv;refine⟨cs.toList,ty,fr,by simpa[zlp]using hb,zid _ _ (by simpa using hl) fun i v x h1 h2=>?_⟩;obtain⟨y,hy,hr⟩:=h i v h1;have:W.cell? ⟨g,i,none⟩=cs[i]?:=by simp[World.cell?,hb]
  rw[this]at hy;rw[Array.getElem?_toList]at h2;rw[h2]at hy;cases hy;exact hr
 ·cases hv
theorem u8x:U8Extra prog Tryz.lays196_ren where
 n3:=by kernel_rfl
 n4:=by kernel_rfl
 y3:=by kernel_rfl
 y4:=by kernel_rfl
 c5:=by kernel_rfl
 c119:=by kernel_rfl
 c138:=by kernel_rfl
theorem zfe {W:World}{name:String}{d:DataW Unit}{g:Nat}{t e:TypeId}{n k:Nat}(hg:prog.globalNamed name=some g)(ht:(prog.globals[g]?).map (·.type)=some t)(hu:prog.underlying t=some (.array n e))(hc:prog.cellsOf t=k)(h:VarReads prog W name d) :
 ∃cs,W.var? prog name=some cs∧cs.size=k:=by
 obtain⟨g',t',cs,fuel,p,hg',ht',hv,hd⟩:=h;obtain rfl:=Option.some.inj (hg.symm.trans hg');obtain rfl:=Option.some.inj (ht.symm.trans ht');refine⟨cs,hv,?_⟩;cases fuel with
 |zero=>simp[DataW.trod]at hd
 |succ fuel=>
  simp only[DataW.trod,hu,hc]at hd;split at hd
  ·rename_i hl;simpa using hl
  ·cases hd
theorem zuS:∀j,j<16→((((List.range 16).map fun i=>[V.i .u8 (Lib.accLo i),V.i .u8 (Lib.accHi i)]).flatten)[2*j]? = some (V.i .u8 (Lib.accLo j))∧(((List.range 16).map fun i=>[V.i .u8 (Lib.accLo i),V.i .u8 (Lib.accHi i)]).flatten)[2*j+1]? = some (V.i .u8 (Lib.accHi j))):=by
 intro j hj;have:j=0∨j=1∨j=2∨j=3∨j=4∨j=5∨j=6∨j=7∨j=8∨j=9∨j=10∨j=11∨j=12∨j=13∨j=14∨j=15:=by omega
 rcases this with rfl|rfl|rfl|rfl|rfl|rfl|rfl|rfl|rfl|rfl|rfl|rfl|rfl|rfl|rfl|rfl<;>exact⟨rfl,rfl⟩
theorem znB {W:World} (h:laidMetH prog Go.Proofs.YtmjplflnlggbeaaGreatDoor.Rows.tokenStringsUptoRow.laid W) (hsh:W.ShapedOpen prog):SR TT (zlp W) [] [] W:=by
  rw[MakeChecks.laidMetH_plain _ _ _ (by kernel_rfl)]at h
  obtain⟨ps,hv,_,_⟩:=h
  have hr:=LaidVars_reads hv
  have hP:VarReads prog W "internal/strconv.uint64pow10" (Lib.tabData .u64 Lib.pow10Tab):=hr _ _ (.tail _ (.tail _ (.head _)))
  have hA:VarReads prog W "unicode/utf8.acceptRanges" acceptData:=hr _ _ (.tail _ (.tail _ (.tail _ (.head _))))
  have hS:VarReads prog W "strings.asciiSpace" (Lib.tabData .u8 ((List.range 256).map fun i=>if i=32∨(9≤i∧i≤13)then 1 else 0)):=hr _ _ (.tail _ (.tail _ (.tail _ (.tail _ (.tail _ (.head _))))))
  have hG:VarReads prog W "hackamore/token.signs" (.agg (sgnL.map fun s=>.lit (.string s))):=hr _ _ (.tail _ (.tail _ (.tail _ (.tail _ (.tail _ (.tail _ (.head _)))))))
  have hF:VarReads prog W "unicode/utf8.first" firstData:=hr _ _ (.tail _ (.tail _ (.tail _ (.tail _ (.tail _ (.tail _ (.tail _ (.head _))))))))
  have tabs:Lib.Utf8Tabs 1 2 W:=utf8Tabs_of_readsT (U8Types.of196 Tryz.lays196) u8x hF hA
  refine⟨fun b o hb=>hb,rfl,fun n b hn=>by simp at hn,fun n m x y b c c' hn=>by simp at hn,fun g l hl=>?_,fun g hg=>?_⟩
  · simp only [TT]at hl
    split at hl
    · rename_i hg
      subst hg
      cases hl
      have hG':=hG
      obtain⟨cs,hv,hsz⟩:=zfe (g:=0) (t:=77) (by kernel_rfl) (by kernel_rfl) Tryz.underlying77 (k:=43) (by kernel_rfl) hG
      obtain⟨g',t',cs2,fuel,p,hg',ht',hv2,hd⟩:=hG'
      have e0:prog.globalNamed "hackamore/token.signs" = some 0:=by kernel_rfl
      obtain rfl:=Option.some.inj (e0.symm.trans hg')
      obtain rfl:=Option.some.inj ((show(prog.globals[0]?).map (·.type)=some 77 by kernel_rfl).symm.trans ht')
      rw[hv]at hv2
      cases hv2
      have c9:prog.cellsOf 9=1:=by kernel_rfl
      refine zgY e0 hv (by rw[hsz];rfl) fun i v hi=>?_
      have hi43:i<43:=(List.getElem?_eq_some_iff.1 hi).1
      obtain⟨fuel',d,q,hdi,he⟩:=Lib.array_elem Tryz.underlying77 hd i hi43
      rw[c9,Nat.mul_one]at he
      obtain⟨s,e1,e2,_⟩:=DataW.trod_string Tryz.underlying9 he
      simp only[List.getElem?_map,Option.map_eq_some_iff]at hi hdi
      obtain⟨x,hx,rfl⟩:=hi
      obtain⟨y,hy,rfl⟩:=hdi
      rw[hx]at hy
      cases hy
      have hs:s=⟨x.toArray⟩:=by
        simp only[Prod.mk.injEq,DataW.lit.injEq]at e2
        have h1:=e2.1
        simp only[Lit.string.injEq]at h1
        cases s
        simp only at h1
        rw[h1]
      refine⟨.string s,?_,by rw[hs];simp only[rel]⟩
      rw[World.var?_cell e0 hv i,←Array.getElem?_toList]
      have:(cs.toList.drop i)[0]? = some (.string s):=by
        have h2:=congrArg (fun l:List Value=>l[0]?) e1
        simpa using h2
      simpa using this
    · split at hl
      · rename_i hg
        subst hg
        cases hl
        have hS':=hS
        obtain⟨cs,hv,hsz⟩:=zfe (g:=3) (t:=99) (by kernel_rfl) (by kernel_rfl) Tryz.underlying99 (k:=256) (by kernel_rfl) hS
        obtain⟨g',t',cs2,fuel,p,hg',ht',hv2,hd⟩:=hS'
        have e0:prog.globalNamed "strings.asciiSpace" = some 3:=by kernel_rfl
        obtain rfl:=Option.some.inj (e0.symm.trans hg')
        obtain rfl:=Option.some.inj ((show(prog.globals[3]?).map (·.type)=some 99 by kernel_rfl).symm.trans ht')
        have hcs:=Lib.cells_of_tab Tryz.underlying99 Tryz.underlying5 (by kernel_rfl) (by kernel_rfl) hd
        refine zgY e0 hv (by simp[hsz]) fun i v hi=>?_
        rw[hv]at hv2
        cases hv2
        have hi256:i<256:=by
          have:=(List.getElem?_eq_some_iff.1 hi).1
          simpa using this
        simp only[List.getElem?_map,List.getElem?_range hi256,Option.map_some,Option.some.injEq]at hi
        subst hi
        refine⟨.int .u8 (if i=32∨(9≤i∧i≤13)then 1 else 0),?_,by simp only[rel]⟩
        rw[World.var?_cell e0 hv i,←Array.getElem?_toList,hcs]
        simp[List.getElem?_range hi256]
      · split at hl
        · rename_i hg
          subst hg
          cases hl
          obtain⟨cs,hv,hsz⟩:=zfe (g:=1) (t:=99) (by kernel_rfl) (by kernel_rfl) Tryz.underlying99 (k:=256) (by kernel_rfl) hF
          refine zgY (by kernel_rfl) hv (by simp[hsz]) fun i v hi=>?_
          have hi256:i<256:=by
            have:=(List.getElem?_eq_some_iff.1 hi).1
            simpa using this
          simp only[List.getElem?_map,List.getElem?_range hi256,Option.map_some,Option.some.injEq]at hi
          subst hi
          exact⟨_,tabs.1 i hi256,by simp only[rel]⟩
        · split at hl
          · rename_i hg
            subst hg
            cases hl
            obtain⟨cs,hv,hsz⟩:=zfe (g:=2) (t:=102) (by kernel_rfl) (by kernel_rfl) Tryz.underlying102 (k:=32) (by kernel_rfl) hA
            refine zgY (by kernel_rfl) hv (by rw[hsz];rfl) fun i v hi=>?_
            have hi32:i<32:=by
              have:=(List.getElem?_eq_some_iff.1 hi).1
              exact this
            obtain⟨j,hj,hij⟩:∃j,j<16∧(i=2*j∨i=2*j+1):=⟨i/2,by omega,by omega⟩
            obtain⟨k1,k2⟩:=zuS j hj
            rcases hij with rfl|rfl
            · rw[k1]at hi;cases hi
              exact⟨_,(tabs.2 j hj).1,by simp only[rel]⟩
            · rw[k2]at hi;cases hi
              exact⟨_,(tabs.2 j hj).2,by simp only[rel]⟩
          · split at hl
            · rename_i hg
              subst hg
              cases hl
              have hP':=hP
              obtain⟨cs,hv,hsz⟩:=zfe (g:=8) (t:=196) (by kernel_rfl) (by kernel_rfl) Tryz.underlying196 (k:=20) (by kernel_rfl) hP
              obtain⟨g',t',cs2,fuel,p,hg',ht',hv2,hd⟩:=hP'
              have e0:prog.globalNamed "internal/strconv.uint64pow10" = some 8:=by kernel_rfl
              obtain rfl:=Option.some.inj (e0.symm.trans hg')
              obtain rfl:=Option.some.inj ((show(prog.globals[8]?).map (·.type)=some 196 by kernel_rfl).symm.trans ht')
              have hcs:=Lib.cells_of_tab Tryz.underlying196 Tryz.underlying119 (by kernel_rfl) (by kernel_rfl) hd
              refine zgY e0 hv (by simp[hsz]) fun i v hi=>?_
              rw[hv]at hv2
              cases hv2
              have hi20:i<20:=by
                have:=(List.getElem?_eq_some_iff.1 hi).1
                simpa using this
              simp only[List.getElem?_map,List.getElem?_range hi20,Option.map_some,Option.some.injEq]at hi
              subst hi
              refine⟨.int .u64 ((10^i:Nat):Int),?_,by simp only[rel]⟩
              rw[World.var?_cell e0 hv i,←Array.getElem?_toList,hcs]
              simp[Lib.pow10Tab,List.getElem?_range hi20]
            · cases hl
  · have hg4:g=4:=by simpa[TT]using hg
    subst hg4
    obtain⟨m,hm⟩:=cell_of_shapedOpen_int (P:=prog) (w:=W) (k:=.i64) (g:=4) (t:=3) (zero:=#[.int .i64 0]) hsh (of_decide_eq_true (by kernel_rfl)) (by kernel_rfl) rfl (by kernel_rfl) (by kernel_rfl) Tryz.underlying3
    obtain⟨cs,hh,hs,hr⟩:=hsh.1 4 #[.int .i64 0] 3 (of_decide_eq_true (by kernel_rfl)) (by kernel_rfl)
    have hc:cs[0]? = some (.int .i64 m):=by simpa[World.cell?,hh]using hm
    refine⟨m,3,(0,0),?_⟩
    show W.heap[4]? = _
    rw[hh]
    have e:cs=#[.int .i64 m]:=by
      apply Array.ext (by simpa using hs)
      intro i h1 h2
      have hi:i=0:=by simp at h2;exact h2
      subst hi
      simpa[Array.getElem?_eq_getElem h1]using hc
    rw[e]
def mk0:zhC:=fun vs H=>match vs with | []=>.val .un H|_=>.no
def mk1:zhC:=fun vs H=>match vs with | [.ptr n off]=>.val .un H|_=>.no
noncomputable def syG:Gam:=fun f vs H=>if f=122 then some (zlY .u32 vs H)else if f=142 then some (zqG .i32 vs H)else if f=147 then some (zqE .i32 vs H)else if f=135 then some (ziF .u32 vs H)else if f=141 then some (mk0 vs H)else if f=143 then some (mk0 vs H)else if f=144 then some (mk1 vs H)else if f=146 then some (mk1 vs H)else none
theorem zvp:zeJ prog TT 122 (zlY .u32):=znP (fn:=f122) .u32 Tryz.func122 (by kernel_rfl) (by kernel_rfl) (zcI (by kernel_rfl)) (by kernel_rfl)
theorem zvq:zeJ prog TT 135 (ziF .u32):=zmR (fn:=f135) .u32 Tryz.func135 (by kernel_rfl) (by kernel_rfl) (zcI (by kernel_rfl)) (by kernel_rfl)
theorem zvs:zeJ prog TT 142 (zqG .i32):=zqH (fn:=f142) .i32 Tryz.func142 (by kernel_rfl) (by kernel_rfl) (zcI (by kernel_rfl)) (by kernel_rfl)
theorem zvw:zeJ prog TT 147 (zqE .i32):=zqF (fn:=f147) .i32 Tryz.func147 (by kernel_rfl) (by kernel_rfl) (zcI (by kernel_rfl)) (by kernel_rfl)
theorem zvr:zeJ prog TT 141 mk0:=zhS (fn:=f141) Tryz.func141 (by kernel_rfl) (by kernel_rfl) (zcI (by kernel_rfl)) .disable (by kernel_rfl)
theorem zvt:zeJ prog TT 143 mk0:=zhS (fn:=f143) Tryz.func143 (by kernel_rfl) (by kernel_rfl) (zcI (by kernel_rfl)) .enable (by kernel_rfl)
theorem zvu:zeJ prog TT 144 mk1:=zjM (fn:=f144) Tryz.func144 (by kernel_rfl) (by kernel_rfl) (zcI (by kernel_rfl)) .acquire (by kernel_rfl)
theorem zvv:zeJ prog TT 146 mk1:=zjM (fn:=f146) Tryz.func146 (by kernel_rfl) (by kernel_rfl) (zcI (by kernel_rfl)) .releaseMerge (by kernel_rfl)
theorem ziu:syG.SoundX prog TT:=by
 intro f vs H r h hne;simp only[syG]at h;repeat' (split at h)
 all_goals first
  |(cases h;done)
  |skip
 ·rename_i e;subst e;exact .inr (zvp vs H r (Option.some.inj h) hne)
 ·rename_i e;subst e;exact .inr (zvs vs H r (Option.some.inj h) hne)
 ·rename_i e;subst e;exact .inr (zvw vs H r (Option.some.inj h) hne)
 ·rename_i e;subst e;exact .inr (zvq vs H r (Option.some.inj h) hne)
 ·rename_i e;subst e;exact .inr (zvr vs H r (Option.some.inj h) hne)
 ·rename_i e;subst e;exact .inr (zvt vs H r (Option.some.inj h) hne)
 ·rename_i e;subst e;exact .inr (zvu vs H r (Option.some.inj h) hne)
 ·rename_i e;subst e;exact .inr (zvv vs H r (Option.some.inj h) hne)
def rpB (d s:Int)(r o:V):Blk:=⟨151,[.i .u32 d,.i .i32 s,.i .u32 0,r,o],.all⟩
def onB:Blk:=⟨9,[.s [95],.s [],.s [69],.s [101]],.more⟩
def rp0:zaa:=[some onB,some (rpB 0 0 .nili (.sl 0 1 0 4 none))]
def rp1:zaa:=[some onB,some (rpB 0 1 .nili (.sl 0 1 0 4 none))]
def bsC:List V:=(List.range 256).map (fun i=>if i=95 then .sl 9 1 0 0 none else if i=69 then .sl 6 1 0 1 none else .nils)++[.sl 2 1 0 2 (some 2)]
def rpT:zaa:=[some ⟨9,[.s [69],.s [95]],.all⟩,some ⟨193,bsC,.all⟩,some ⟨5,[.i .u8 69],.all⟩,some ⟨9,[.s [69]],.all⟩,some ⟨5,[.tup [],.i .u8 101],.map⟩,some ⟨5,[.i .u8 95],.all⟩,some ⟨9,[.s [95]],.all⟩,some ⟨5,[.tup []],.map⟩]
def rp2:zaa:=some onB::some (rpB 0 1 (.ifc 194 (.ptr 3 0)) .nils)::rpT
def rp3:zaa:=some onB::some (rpB 1 1 (.ifc 194 (.ptr 3 0)) .nils)::rpT
def rp4:zaa:=some onB::some (rpB 1 0 (.ifc 194 (.ptr 3 0)) .nils)::rpT
def zx4 (r:OR)(v:V)(H:zaa):Bool:=match r with | .val u J=>V.beq u v&&zaa.beq J H|_=>false
theorem zev {r:OR}{v:V}{H:zaa}(h:zx4 r v H=true):r=.val v H:=by
 unfold zx4 at h;split at h
 ·rw[Bool.and_eq_true]at h;rw[V.beq_eq _ _ h.1,zaa.beq_eq _ _ h.2]
 ·cases h
theorem ztJ:zdE TT syG 3000 123 [.ptr 1 1] rp0=.val .un rp1:=zev (by kernel_rfl)
theorem zrI:zdE TT syG 3000 113 [.ptr 1 0] rp1=.val (.b false) rp1:=zev (by kernel_rfl)
theorem zrH:zdE TT syG 3000 99 [.ptr 1 0] rp1=.val .un rp2:=zev (by kernel_rfl)
theorem zrJ:zdE TT syG 3000 125 [.ptr 1 0,.b true] rp2=.val .un rp3:=zev (by kernel_rfl)
theorem zpw:zdE TT syG 3000 124 [.ptr 1 1] rp3=.val .un rp4:=zev (by kernel_rfl)
theorem zn6 {call:zad}(hC:call.Sound prog TT)(c1:call 123 [.ptr 1 1] rp0=.val .un rp1)(c2:call 113 [.ptr 1 0] rp1=.val (.b false) rp1)(c3:call 99 [.ptr 1 0] rp1=.val .un rp2) :
 zkT prog TT 114 [.ptr 1 0,.bfn 99 [.ptr 1 0]] rp0 fun r=>r=.val .un rp4:=by
 refine⟨f114,_,rfl,rfl,by simp[f114],?_⟩;have h0:(Tm.init f114.ntmps [.ptr 1 0,.bfn 99 [.ptr 1 0]]).get 0=.ptr 1 0:=by rw[zag];rfl
 have h1:(Tm.init f114.ntmps [.ptr 1 0,.bfn 99 [.ptr 1 0]]).get 1=.bfn 99 [.ptr 1 0]:=by rw[zag];rfl
 have hw:(Tm.init f114.ntmps [.ptr 1 0,.bfn 99 [.ptr 1 0]]).wid=21:=rfl;generalize Tm.init f114.ntmps [.ptr 1 0,.bfn 99 [.ptr 1 0]]=t at *;have x1:TT.ext 123=none:=rfl;have x2:TT.ext 113=none:=rfl;have x3:TT.ext 99=none:=rfl;refine zdx.seq (zdx.lift ?_);refine Tri.regN (t':=?t1) (H':=?H1) zaf hC ?e1 ?q1;case e1=>
  refine zas ?_;iterate 4 refine zab rfl (by simp[h0,c1,x1]<;>rfl) (by rfl) (by simp[hw]) ?_
  exact zak
 refine zdx.seq ?_;refine zdx.reg (f:=124) (caps:=[]) (vs:=[.ptr 1 1]) (xv:=?xv) (yv:=?yv) (t1:=?t3) (t2:=?t4) (H1:=?H3) (H2:=?H4) zaf hC 3 rfl rfl rfl ?e3 ?x3 ?xx ?y3 ?yy ?f3 ?e4 ?q3;case e3=>
  iterate 3 refine zab rfl (by simp[h0]<;>rfl) (by rfl) (by simp[hw]) ?_
  exact zak
 case x3=>simp<;>rfl
 case xx=>rfl
 case y3=>simp<;>rfl
 case yy=>rfl
 case f3=>simp[hw]
 case e4=>exact zak
 refine zdx.seq (zdx.lift ?_);refine Tri.regN (t':=?t5) (H':=?H5) zaf hC ?e5 ?q5;case e5=>
  refine zas ?_;iterate 5 refine zab rfl (by simp[h0,c2,x2]<;>rfl) (by rfl) (by simp[hw]) ?_
  exact zak
 refine zdx.condT (o:=?o6) ?g6 ?r6 ?_;case g6=>simp<;>rfl
 case r6=>rfl
 refine zdx.seq ?_;refine zdx.reg (f:=125) (caps:=[]) (vs:=[.ptr 1 0,.b true]) (xv:=?xv7) (yv:=?yv7) (t1:=?t7) (t2:=?t8) (H1:=?H7) (H2:=?H8) zaf hC 3 rfl rfl rfl ?e7 ?x7 ?xx7 ?y7 ?yy7 ?f7 ?e8 ?q7;case e7=>
  iterate 3 refine zab rfl (by simp[h0]<;>rfl) (by rfl) (by simp[hw]) ?_
  exact zak
 case x7=>simp<;>rfl
 case xx7=>rfl
 case y7=>simp<;>rfl
 case yy7=>rfl
 case f7=>simp[hw]
 case e8=>exact zak
 refine zdx.lift ?_;refine Tri.regN (t':=?t9) (H':=?H9) zaf hC ?e9 ?q9;case e9=>
  refine zas ?_;iterate 2 refine zab rfl (by simp[h1,c3,x3]<;>rfl) (by rfl) (by simp[hw]) ?_
  exact zak
 have k1:zeI prog TT 125 [.ptr 1 0,.b true] none rp2 rp3:=zfI zaf (by
  obtain⟨fn,c,q1,q2,q3,q4⟩:=zaH.of_run zaf ziu rfl zrJ (by simp);exact⟨fn,c,q1,q2,q3,q4.mono fun o ho=>by cases o<;>simp only[zaV]at ho ⊢ <;> (first|exact ho.elim|(obtain⟨v,e,f⟩:=ho;cases e;exact⟨_,⟨_,rfl⟩,f⟩)|exact⟨_,ho⟩)⟩)
 have k2:zeI prog TT 124 [.ptr 1 1] none rp3 rp4:=zfI zaf (by
  obtain⟨fn,c,q1,q2,q3,q4⟩:=zaH.of_run zaf ziu rfl zpw (by simp);exact⟨fn,c,q1,q2,q3,q4.mono fun o ho=>by cases o<;>simp only[zaV]at ho ⊢ <;> (first|exact ho.elim|(obtain⟨v,e,f⟩:=ho;cases e;exact⟨_,⟨_,rfl⟩,f⟩)|exact⟨_,ho⟩)⟩)
 refine⟨rp4,.un,⟨rp3,k1,rp4,k2,rfl⟩,?_,rfl⟩;rfl
theorem zvo:zao prog TT 114 (zrS [.ptr 1 0,.bfn 99 [.ptr 1 0]] rp0 (.val .un rp4)):=by
 have k1:zao prog TT 123 (zrS [.ptr 1 1] rp0 (.val .un rp1)):=zjt fun _=>zdQ zaf ziu rfl ztJ (by simp);have k2:zao prog TT 113 (zrS [.ptr 1 0] rp1 (.val (.b false) rp1)):=zjt fun _=>zdQ zaf ziu rfl zrI (by simp);have k3:zao prog TT 99 (zrS [.ptr 1 0] rp1 (.val .un rp2)):=zjt fun _=>zdQ zaf ziu rfl zrH (by simp);have hC:=ws (ws (ws n0 k1) k2) k3;refine zjt fun _=>?_;obtain⟨r,rfl,_,he,hc⟩:=(zkT.fact zaf (zn6 hC (by rw[zac _ _ _ _ rfl,zac _ _ _ _ rfl,zap];exact zlL _ _ _) (by rw[zac _ _ _ _ rfl,zap];exact zlL _ _ _) (by rw[zap];exact zlL _ _ _)));exact⟨he,hc⟩
noncomputable def zw0:Gam:=fun f vs H=>if f=114 then some (zrS [.ptr 1 0,.bfn 99 [.ptr 1 0]] rp0 (.val .un rp4) vs H)else syG f vs H
theorem zqg:zw0.SoundX prog TT:=by
 intro f vs H r h hne;unfold zw0 at h;split at h
 ·rename_i e;subst e;exact .inl (zvo vs H r (Option.some.inj h) hne)
 ·exact ziu f vs H r h hne
theorem zxB:zdE TT zw0 3000 98 [.ptr 1 0,.bfn 99 [.ptr 1 0]] rp0=.val .un rp4:=zev (by kernel_rfl)
def nw0:zaa:=[some ⟨9,[.s [95],.s [],.s [69],.s [101]],.all⟩]
def nw1:zaa:=[some ⟨9,[.s [95],.s [],.s [69],.s [101]],.all⟩,some onB,some (rpB 0 0 .nili (.sl 1 1 0 4 none))]
theorem zvG:zdE TT zw0 3000 78 [.sl 0 1 0 4 (some 4)] nw0=.val (.ptr 2 0) nw1:=zev (by kernel_rfl)
def wdB:Blk:=⟨9,[.s [95],.s [],.s [69],.s [101]],.all⟩
theorem zv1:∃g,zao prog TT 78 g∧∀(n:Nat)(H:zaa),H[n]? = some (some wdB)→∃B,g [.sl n 1 0 4 (some 4)] H=.val (.ptr (H.length+1) 0) B∧B.length=H.length+2∧(∀j,j<H.length→B[j]? = H[j]?)∧B[H.length]? = some (some onB)∧B[H.length+1]? = some (some (rpB 0 0 .nili (.sl H.length 1 0 4 none))):=by
 obtain⟨g,k,s⟩:=zbZ.spec (P:=prog) (F:=78) zaf (D:=fun vs H=>∃n,vs=[.sl n 1 0 4 (some 4)]∧H[n]? = some (some wdB))
  (R:=fun vs H r=>∃B,r=.val (.ptr (H.length+1) 0) B∧B.length=H.length+2∧(∀j,j<H.length→B[j]? = H[j]?)∧B[H.length]? = some (some onB)∧B[H.length+1]? = some (some (rpB 0 0 .nili (.sl H.length 1 0 4 none)))) (by
  rintro vs H ⟨n,rfl,hn⟩;have hlt:n<H.length:=(List.getElem?_eq_some_iff.1 hn).1;have hx:zbZ prog TT 78 [.sl 0 1 0 4 (some 4)] nw0 fun r=>r=.val (.ptr 2 0) nw1:=⟨_,rfl,by simp,zdQ zaf zqg rfl zvG (by simp)⟩;have hg:∀k,k<nw0.length→(fun _:Nat=>n) k<H.length:=fun k _=>hlt;have hi:∀k j,k<nw0.length→j<nw0.length→(fun _:Nat=>n) k=(fun _:Nat=>n) j→k=j:=fun k j h1 h2 _=>by
   have l:nw0.length=1:=rfl;omega
  have hp:=zbZ.part (H:=H) zaw hg hi (fun k hk=>by
   have l:nw0.length=1:=rfl;have:k=0:=by omega
   subst this;exact⟨wdB,rfl,hn⟩) (by rfl) (by rfl) (by decide) (by rfl) (by rfl) hx
  have hB:=zgg (H:=H) (H0:=nw0) (H1:=nw1) hg hi (by decide);refine hp.mono fun r hr=>⟨_,hr,hB.len,fun j hj=>?_,hB.new 1 (by decide) (by decide),hB.new 2 (by decide) (by decide)⟩;by_cases e:j=n
  ·subst e;exact(hB.old 0 (by decide)).trans hn.symm
  ·exact hB.rest j hj fun _ _=>e)
 refine⟨g,k,fun n H hn=>?_⟩;obtain⟨r,⟨B,rfl,hB⟩,hr⟩:=s _ H ⟨n,rfl,hn⟩;exact⟨B,hr,hB⟩
def bsB (N:Nat):Blk:=⟨193,(List.range 256).map (fun i=>if i=95 then V.sl (N+7) 1 0 0 none else if i=69 then .sl (N+4) 1 0 1 none else .nils)++[.sl N 1 0 2 (some 2)],.all⟩
def DoR (H:zaa)(q:Nat)(B:zaa):Prop:=B.length=H.length+8∧(∀j,j<H.length→j≠q→B[j]? = H[j]?)∧B[q]? = some (some (rpB 1 0 (.ifc 194 (.ptr (H.length+1) 0)) .nils))∧B[H.length]? = some (some ⟨9,[.s [69],.s [95]],.all⟩)∧B[H.length+1]? = some (some (bsB H.length))∧B[H.length+4]? = some (some ⟨5,[.tup [],.i .u8 101],.map⟩)∧B[H.length+7]? = some (some ⟨5,[.tup []],.map⟩)
theorem zv7:∃g,zao prog TT 98 g∧∀(m q:Nat)(H:zaa),m≠q→H[m]? = some (some onB)→H[q]? = some (some (rpB 0 0 .nili (.sl m 1 0 4 none)))→∃B,g [.ptr q 0,.bfn 99 [.ptr q 0]] H=.val .un B∧DoR H q B:=by
 obtain⟨g,k,s⟩:=zbZ.spec (P:=prog) (F:=98) zaf (D:=fun vs H=>∃m q,vs=[.ptr q 0,.bfn 99 [.ptr q 0]]∧m≠q∧H[m]? = some (some onB)∧H[q]? = some (some (rpB 0 0 .nili (.sl m 1 0 4 none))))
  (R:=fun vs H r=>∃q B,vs=[.ptr q 0,.bfn 99 [.ptr q 0]]∧r=.val .un B∧DoR H q B) (by
  rintro vs H ⟨m,q,rfl,hne,hm,hq⟩;have hlm:m<H.length:=(List.getElem?_eq_some_iff.1 hm).1;have hlq:q<H.length:=(List.getElem?_eq_some_iff.1 hq).1;have l:rp0.length=2:=rfl;have hx:zbZ prog TT 98 [.ptr 1 0,.bfn 99 [.ptr 1 0]] rp0 fun r=>r=.val .un rp4:=⟨_,rfl,by simp,zdQ zaf zqg rfl zxB (by simp)⟩;have hg:∀k,k<rp0.length→(fun k:Nat=>if k=0 then m else q) k<H.length:=fun k _=>by
   simp only;split<;>assumption
  have hi:∀k j,k<rp0.length→j<rp0.length→(fun k:Nat=>if k=0 then m else q) k=(fun k:Nat=>if k=0 then m else q) j→k=j:=fun k j h1 h2 h=>by
   simp only at h;split at h<;>split at h<;>first|omega|(exfalso;exact hne h)|(exfalso;exact hne h.symm)
  have hp:=zbZ.part (H:=H) (g:=fun k:Nat=>if k=0 then m else q) zaw hg hi (fun k hk=>by
   have:k=0∨k=1:=by omega
   rcases this with rfl|rfl
   ·exact⟨onB,rfl,hm⟩
   ·exact⟨_,rfl,hq⟩) (by rfl) (by rfl) (by decide) (by rfl) (by rfl) hx
  have hB:=zgg (H:=H) (H0:=rp0) (H1:=rp4) hg hi (by decide);refine hp.mono fun r hr=>⟨q,_,rfl,hr,hB.len,fun j hj hjq=>?_,hB.old 1 (by decide),hB.new 2 (by decide) (by decide),?_,hB.new 6 (by decide) (by decide),hB.new 9 (by decide) (by decide)⟩
  ·by_cases e:j=m
   ·subst e;exact(hB.old 0 (by decide)).trans hm.symm
   ·exact hB.rest j hj fun k hk=>by
     show j≠if k=0 then m else q;split
     ·exact e
     ·exact hjq
  ·exact hB.new 3 (by decide) (by decide))
 refine⟨g,k,fun m q H h1 h2 h3=>?_⟩;obtain⟨r,⟨q',B,he,rfl,hB⟩,hr⟩:=s _ H ⟨m,q,rfl,h1,h2,h3⟩;simp only[List.cons.injEq,V.ptr.injEq,and_true]at he;obtain⟨rfl,_⟩:=he;exact⟨B,hr,hB⟩
def BsR (H:zaa)(p N:Nat):Prop:=H[p]? = some (some (bsB N))∧H[N]? = some (some ⟨9,[.s [69],.s [95]],.all⟩)∧H[N+4]? = some (some ⟨5,[.tup [],.i .u8 101],.map⟩)∧H[N+7]? = some (some ⟨5,[.tup []],.map⟩)
def BsH (call:zad):Prop:=∀(p N:Nat)(H:zaa)(x:List UInt8),BsR H p N→x.length<1100000→∃H',call 186 [.ptr p 0,.s x] H=.val (.s (zaQ x)) H'∧H.length≤H'.length∧∀j,j<H.length→H'[j]? = H[j]?
theorem zn0 {call:zad} (hC:call.Sound prog TT) (m q:Nat) (H:zaa) (x:List UInt8) (hx:x.length<1100000) (hne:m≠q) (hm:H[m]? = some (some onB)) (hq:H[q]? = some (some (rpB 0 0 .nili (.sl m 1 0 4 none))))
    (c1:∃B,call 98 [.ptr q 0,.bfn 99 [.ptr q 0]] H=.val .un B∧DoR H q B)(c2:BsH call):zaH prog TT 79 [.ptr q 0,.s x] H fun r=>∃B,r=.val (.s (zaQ x)) B∧H.length≤B.length∧∀j,j<H.length→j≠q→B[j]? = H[j]?:=by
 obtain⟨B,c1,b1,b2,b3,b4,b5,b6,b7⟩:=c1
 obtain⟨H',c2,d1,d2⟩:=c2 (H.length+1) H.length B x ⟨b5,b4,b6,b7⟩ hx
 have hql:q<H.length:=(List.getElem?_eq_some_iff.1 hq).1
 refine⟨f79,_,rfl,rfl,by simp[f79],?_⟩
 have h0:(Tm.init f79.ntmps [.ptr q 0,.s x]).get 0=.ptr q 0:=by rw[zag];rfl
 have h1:(Tm.init f79.ntmps [.ptr q 0,.s x]).get 1=.s x:=by rw[zag];rfl
 have hw:(Tm.init f79.ntmps [.ptr q 0,.s x]).wid=17:=rfl
 generalize Tm.init f79.ntmps [.ptr q 0,.s x]=t at *
 have x1:TT.ext 98=none:=rfl
 have x2:TT.ext 186=none:=rfl
 have x3:TT.meth 194 "Replace" = some 186:=rfl
 apply rS hC
 · refine oA ?_
   rfl
 apply sQ
 refine Tri.regN (t':=?t2) (H':=?H2) zaf hC ?e2 ?q2
 case e2=>
  refine zas ?_
  iterate 6 refine zab rfl (by simp[h0,c1,x1]<;>rfl) (by rfl) (by simp[hw]) ?_
  exact zak
 apply sN
 apply sQ
 refine Tri.regN (t':=?t3) (H':=?H3) zaf hC ?e3 ?q3
 case e3=>
  refine zas ?_
  iterate 3 refine zab rfl (by simp[h0]<;>rfl) (by rfl) (by simp[hw]) ?_
  refine gO (by simp[b3,rpB]<;>rfl) ?_
  iterate 3 refine oA ?_
  exact zak
 apply sN
 apply Tri.ret
 refine⟨.s (zaQ x),⟨H',rfl,by omega,fun j h1 h2=>?_⟩,?_⟩
 · rw[d2 j (by omega),b2 j h1 h2]
 · simp[f79]
open Go Go.Proofs Go.RowKit
def zju:List V→zaa→OR
 | [.s s,.s [c]],H=>.val (.i .i64 (Lib.countByte s c)) H
 |_,_=>.no
theorem zyK:zao Tryz.prog TT 188 zju:=by
 intro vs H r h hne;unfold zju at h;split at h
 ·rename_i H s c;subst h;refine⟨zcj (f:=188) rfl rfl,fun M ρ w args hS hr=>?_⟩;have ha:args=[.string ⟨s.toArray⟩,.string ⟨#[c]⟩]:=by
   simp only[relL,rel]at hr;obtain⟨x,r,rfl,rfl,x,r,rfl,rfl,rfl⟩:=hr;rfl
  rw[ha];refine zbj (x:=.int .i64 (Lib.countByte s c)) hS ?_ (by simp only[rel]);exact(Any.strings_Count_one Tryz.lays138 ⟨s.toArray⟩ c w).mono fun e w' ⟨h1,h2⟩=>⟨h1,h2▸Below.refl _ _⟩
 ·exact absurd h.symm hne
def zob (N c:Nat):V:=if c=95 then .sl (N+7) 1 0 0 none else if c=69 then .sl (N+4) 1 0 1 none else .nils
theorem zsT (N c:Nat)(h:c<256):(bsB N).cells[c]? = some (zob N c):=by
 unfold bsB zob;simp only;rw[List.getElem?_append_left (by simpa using h),List.getElem?_map,List.getElem?_range h];rfl
theorem zdL {H:zaa}{p N:Nat}(h:H[p]? = some (some (bsB N)))(c:Nat)(hc:c<256):zae TT 64 H (.ptr p c)=some (zob N c):=by
 have h1:zar H p=some (bsB N):=by
  unfold zar;rw[h];rfl
 have h2:=zsT N c hc;simp only[zae,h1];have e1:zb3 (TT.und 64)=some false:=rfl;simp only[zby,e1,zcd,h2]
def isX (c:UInt8):Bool:=c==95||c==69
theorem zuZ (N c:Nat)(h:c≠95)(h':c≠69):zob N c=.nils:=by unfold zob;rw[if_neg h,if_neg h']
theorem zh7 {call:zad}(hC:call.Sound prog TT){Q:Out→Prop}(p N:Nat)(H:zaa)(hp:H[p]? = some (some (bsB N))):∀(L pre:List UInt8)(t:Tm)(n:Int)(a:Bool),(pre++L).length<1100000→-2000000≤n-L.length→n≤2000000→t.wid=122→t.get 0=.ptr p 0→t.get 1=.s (pre++L)→t.get 5=.i .i64 n→t.get 6=.b a→t.get 10=.i .i64 pre.length →
 (∀t':Tm,t'.wid=122→t'.get 0=.ptr p 0→t'.get 1=.s (pre++L)→t'.get 5=.i .i64 (n-(L.count 95:Nat))→t'.get 6=.b (a||L.any isX)→Q (.exit 2 t' H)) →
 zbe prog TT (sub [true,true,true,false,true,true,true,false,false] (zah f186)) t H Q:=by
 intro L;induction L with
 |nil=>
  intro pre t n a hlen hn1 hn2 hw h0 h1 h5 h6 h10 hE;have hF:=ai @h0 (ai @h1 (ai @h5 (ai @h6 @h10)));refine zbe.round' ?_;apply sQ;apply rS hC
  ·iterate 4 refine gO (by simp[hF,-zae]<;>rfl) ?_
   rfl
  refine cF (by simp[hF,-zae]<;>rfl) ?_;refine Tri.exit ?_;refine za8 ?_;refine zbo ?_;exact hE _ (by simp[hw]) (by simp[h0]) (by simp[h1]) (by simp[h5]) (by simp[h6])
 |cons b L ih=>
  intro pre t n a hlen hn1 hn2 hw h0 h1 h5 h6 h10 hE;have hlt:=ziX pre.length L.length;have hat:=zkI pre b L;have hat2:=zjA pre b L;have hb1:(0:Int)≤b.toNat:=(zkL b).1;have hb2:(b.toNat:Int)<256:=(zkL b).2;have hi:b.toNat<256:=b.toNat_lt;by_cases h95:b.toNat=95
  ·have hb:b=95:=UInt8.toNat_inj.1 h95;have hl:zae TT 64 H (.ptr p b.toNat)=some (.sl (N+7) 1 0 0 none):=by rw[zdL hp _ hi,h95];rfl
   have hn:IntKind.i64.wrap (n + -1)=n-1:=by rw[zaU (by simp at hn1;omega) (by omega)];omega
   have hF:=ai @h0 (ai @h1 (ai @h5 (ai @h6 (ai @h10 (ai @hlt (ai @hat (ai @hat2 (ai @hb1 (ai @hb2 (ai @hl (ai @hi @hn)))))))))));refine zbe.round' ?_;apply sQ;apply rS hC
   ·iterate 4 refine gO (by simp[hF,-zae]<;>rfl) ?_
    rfl
   refine cT (by simp[hF,-zae]<;>rfl) ?_;apply Tri.skip;apply sN;apply sQ;apply bK;apply rS hC
   ·iterate 4 refine gO (by simp[hF,-zae]<;>rfl) ?_
    rfl
   apply rS hC
   ·iterate 7 refine gO (by simp[hF,-zae]<;>rfl) ?_
    rfl
   refine cT (by simp[hF,-zae]<;>rfl) ?_;apply rS hC
   ·iterate 11 refine gO (by simp[hF,-zae]<;>rfl) ?_
    rfl
   apply rN hC
   ·refine gO (by simp[hF,-zae]<;>rfl) ?_;rfl
   apply bN;apply sN;apply rN hC
   ·iterate 3 refine gO (by simp[hF,-zae]<;>rfl) ?_
    rfl
   refine zav ?_;refine ih (pre++[b]) _ (n-1) true (by simpa using hlen) (by simp at hn1 ⊢;omega) (by omega) (by simp[hw]) (by simp[h0]) (by simp[h1]) (by simp[h5]<;>exact hn) (by simp[h6]) (by simp[h10]<;>exact zaU (by omega) (by simp at hlen;omega)) (fun t' k1 k2 k3 k4 k5=>hE t' k1 k2 (by simpa using k3) (by rw[k4];rw[count_cons];simp[hb];omega) (by rw[k5];simp[isX,hb]))
  ·have hb:b≠95:=fun e=>h95 (by rw[e];rfl);by_cases h69:b.toNat=69
   ·have hb':b=69:=UInt8.toNat_inj.1 h69;have hl:zae TT 64 H (.ptr p b.toNat)=some (.sl (N+4) 1 0 1 none):=by rw[zdL hp _ hi,h69];rfl
    have hn:IntKind.i64.wrap (n+IntKind.i64.wrap 0)=n:=by rw[show IntKind.i64.wrap 0=0 from rfl,Int.add_zero];exact zaU (by simp at hn1;omega) (by omega)
    have hF:=ai @h0 (ai @h1 (ai @h5 (ai @h6 (ai @h10 (ai @hlt (ai @hat (ai @hat2 (ai @hb1 (ai @hb2 (ai @hl (ai @hi @hn)))))))))));refine zbe.round' ?_;apply sQ;apply rS hC
    ·iterate 4 refine gO (by simp[hF,-zae]<;>rfl) ?_
     rfl
    refine cT (by simp[hF,-zae]<;>rfl) ?_;apply Tri.skip;apply sN;apply sQ;apply bK;apply rS hC
    ·iterate 4 refine gO (by simp[hF,-zae]<;>rfl) ?_
     rfl
    apply rS hC
    ·iterate 7 refine gO (by simp[hF,-zae]<;>rfl) ?_
     rfl
    refine cT (by simp[hF,-zae]<;>rfl) ?_;apply rS hC
    ·iterate 11 refine gO (by simp[hF,-zae]<;>rfl) ?_
     rfl
    apply rN hC
    ·refine gO (by simp[hF,-zae]<;>rfl) ?_;rfl
    apply bN;apply sN;apply rN hC
    ·iterate 3 refine gO (by simp[hF,-zae]<;>rfl) ?_
     rfl
    refine zav ?_;refine ih (pre++[b]) _ n true (by simpa using hlen) (by simp at hn1 ⊢;omega) (by omega) (by simp[hw]) (by simp[h0]) (by simp[h1]) (by simp[h5]<;>exact hn) (by simp[h6]) (by simp[h10]<;>exact zaU (by omega) (by simp at hlen;omega)) (fun t' k1 k2 k3 k4 k5=>hE t' k1 k2 (by simpa using k3) (by rw[k4];rw[count_cons];simp[hb']) (by rw[k5];simp[isX,hb']))
   ·have hb':b≠69:=fun e=>h69 (by rw[e];rfl);have hl:zae TT 64 H (.ptr p b.toNat)=some .nils:=by rw[zdL hp _ hi,zuZ N _ h95 h69]
    have hF:=ai @h0 (ai @h1 (ai @h5 (ai @h6 (ai @h10 (ai @hlt (ai @hat (ai @hat2 (ai @hb1 (ai @hb2 (ai @hl @hi))))))))));refine zbe.round' ?_;apply sQ;apply rS hC
    ·iterate 4 refine gO (by simp[hF,-zae]<;>rfl) ?_
     rfl
    refine Tri.condG (o:=?ok2) (b:=?bk2) ?gk2 ?rk2 ?yk2 ?nk2;case gk2=>simp[hF,-zae]<;>rfl
    case rk2=>rfl
    case yk2=>
     intro hy2;apply Tri.skip;apply sN;apply sQ;apply bK;apply rS hC
     ·iterate 4 refine gO (by simp[hF,-zae]<;>rfl) ?_
      rfl
     apply rS hC
     ·iterate 7 refine gO (by simp[hF,-zae]<;>rfl) ?_
      rfl
     refine cF (by simp[hF,-zae]<;>rfl) ?_;apply Tri.skip;apply bN;apply sN;apply rN hC
     ·iterate 3 refine gO (by simp[hF,-zae]<;>rfl) ?_
      rfl
     refine zav ?_;refine ih (pre++[b]) _ n a (by simpa using hlen) (by simp at hn1 ⊢;omega) (by omega) (by simp[hw]) (by simp[h0]) (by simp[h1]) (by simp[h5]) (by simp[h6]) (by simp[h10]<;>exact zaU (by omega) (by simp at hlen;omega)) (fun t' k1 k2 k3 k4 k5=>hE t' k1 k2 (by simpa using k3) (by rw[k4];rw[count_cons];simp[hb]) (by rw[k5];simp[isX,beq_eq_false_iff_ne.2 hb,beq_eq_false_iff_ne.2 hb']))
    case nk2=>
     intro hn2;exact absurd hn2 (by simp[hF,-zae])
theorem zkx {call:zad}(hC:call.Sound prog TT){Q:Out→Prop}(p N:Nat)(H:zaa)(hp:H[p]? = some (some (bsB N)))(hN:H[N]? = some (some ⟨9,[.s [69],.s [95]],.all⟩))(x:List UInt8)(t:Tm)(n:Int)(a:Bool)(hw:t.wid=122)(h0:t.get 0=.ptr p 0)(h1:t.get 1=.s x)(h5:t.get 5=.i .i64 n)(h6:t.get 6=.b a)(h30:t.get 30=.sl N 1 0 2 (some 2))(h31:t.get 31=.i .i64 2)(h32:t.get 32=.i .i64 2)(hE:∀t':Tm,t'.wid=122→t'.get 0=.ptr p 0→t'.get 1=.s x→t'.get 5=.i .i64 (n)→t'.get 6=.b (a)→Q (.exit 0 t' H)) :
 zbe prog TT (sub [true,true,true,false,true,false,true,false,false] (zah f186)) t H Q:=by
 have hF:=ai @h0 (ai @h1 (ai @h5 (ai @h6 (ai @h30 (ai @h31 @h32)))));refine zbe.round' ?_;apply rS hC
 ·refine gO (by simp[hF,-zae]<;>rfl) ?_;rfl
 apply sQ;refine cF (by simp[hF,-zae]<;>rfl) ?_;refine Tri.exit ?_;refine za8 ?_;refine zbo ?_;exact hE _ (by simp[hw]) (by simp[h0]) (by simp[h1]) (by simp[h5]) (by simp[h6])
theorem znn {call:zad}(hC:call.Sound prog TT){Q:Out→Prop}(p N:Nat)(H:zaa)(hp:H[p]? = some (some (bsB N)))(hN:H[N]? = some (some ⟨9,[.s [69],.s [95]],.all⟩))(x:List UInt8)(t:Tm)(n:Int)(a:Bool)(m:Nat)(hm:m≤2000000)(hn0:-2000000≤n)(hn2:n≤4000000)(hcnt:∀K,call 188 [.s x,.s [69]] K=.val (.i .i64 m) K)(hz:((m:Int) !=0)=true)(hw:t.wid=122)(h0:t.get 0=.ptr p 0)(h1:t.get 1=.s x)(h5:t.get 5=.i .i64 n)(h6:t.get 6=.b a)(h30:t.get 30=.sl N 1 0 2 (some 2))(h31:t.get 31=.i .i64 2)(h32:t.get 32=.i .i64 0)(hA:∀t':Tm,t'.wid=122→t'.get 0=.ptr p 0→t'.get 1=.s x→t'.get 5=.i .i64 (n)→t'.get 6=.b (true)→t'.get 30=.sl N 1 0 2 (some 2)→t'.get 31=.i .i64 2→t'.get 32=.i .i64 1→zbe prog TT (sub [true,true,true,false,true,false,true,false,false] (zah f186)) t' H Q) :
 zbe prog TT (sub [true,true,true,false,true,false,true,false,false] (zah f186)) t H Q:=by
 have x87:TT.ext 188=none:=rfl;have hl:zae TT 9 H (.ptr N 0)=some (.s [69]):=by simp[zae,zar,hN,zby,zb3,zcd]
 have hl2:zae TT 64 H (.ptr p 69)=some (.sl (N+4) 1 0 1 none):=by rw[zdL hp 69 (by omega)];rfl
 have hn:IntKind.i64.wrap (n+IntKind.i64.wrap ((m:Int)*IntKind.i64.wrap (0)))=n:=by
  rw[show IntKind.i64.wrap (0)=0 from rfl,zaU (n:=(m:Int)*0) (by omega) (by omega),zaU (by omega) (by omega)];omega
 have hF:=ai @h0 (ai @h1 (ai @h5 (ai @h6 (ai @h30 (ai @h31 (ai @h32 (ai @hl (ai @hl2 (ai @hcnt (ai @x87 @hz))))))))));refine zbe.round' ?_;apply rS hC
 ·refine gO (by simp[hF,-zae]<;>rfl) ?_;rfl
 apply sQ;refine cT (by simp[hF,-zae]<;>rfl) ?_;apply Tri.skip;apply sN;apply sQ;apply bK;apply rS hC
 ·iterate 3 refine gO (by simp[hF,-zae]<;>rfl) ?_
  rfl
 apply rS hC
 ·iterate 4 refine gO (by simp[hF,-zae]<;>rfl) ?_
  rfl
 apply rS hC
 ·iterate 2 refine gO (by simp[hF,-zae]<;>rfl) ?_
  rfl
 refine cT (by simp[hF,-zae]<;>rfl) ?_;apply sQ;refine Tri.regN (t':=?ty07) (H':=?Hy07) zaf hC ?ey07 ?qy07;case ey07=>
  refine zdj (t':=?ty07) (by kernel_rfl) ?_ ?ry0907;iterate 14 refine QR.val rfl (by simp[hF,-zae]<;>rfl) (by rfl) (by simp[hw]) ?_
  exact QR.nil;case ry0907=>exact rfl
 apply sN;apply rN hC
 ·refine gO (by simp[hF,-zae]<;>rfl) ?_;rfl
 apply bN;apply sN;apply rN hC
 ·iterate 2 refine gO (by simp[hF,-zae]<;>rfl) ?_
  rfl
 refine zav ?_;exact hA _ (by simp[hw]) (by simp[h0]) (by simp[h1]) (by simp[h5]<;>exact hn) (by simp[h6]) (by simp[h30]) (by simp[h31]) (by simp[h32]<;>rfl)
theorem znm {call:zad}(hC:call.Sound prog TT){Q:Out→Prop}(p N:Nat)(H:zaa)(hp:H[p]? = some (some (bsB N)))(hN:H[N]? = some (some ⟨9,[.s [69],.s [95]],.all⟩))(x:List UInt8)(t:Tm)(n:Int)(a:Bool)(m:Nat)(hcnt:∀K,call 188 [.s x,.s [69]] K=.val (.i .i64 m) K)(hz:((m:Int) !=0)=false)(hw:t.wid=122)(h0:t.get 0=.ptr p 0)(h1:t.get 1=.s x)(h5:t.get 5=.i .i64 n)(h6:t.get 6=.b a)(h30:t.get 30=.sl N 1 0 2 (some 2))(h31:t.get 31=.i .i64 2)(h32:t.get 32=.i .i64 0)(hA:∀t':Tm,t'.wid=122→t'.get 0=.ptr p 0→t'.get 1=.s x→t'.get 5=.i .i64 (n)→t'.get 6=.b (a)→t'.get 30=.sl N 1 0 2 (some 2)→t'.get 31=.i .i64 2→t'.get 32=.i .i64 1→zbe prog TT (sub [true,true,true,false,true,false,true,false,false] (zah f186)) t' H Q) :
 zbe prog TT (sub [true,true,true,false,true,false,true,false,false] (zah f186)) t H Q:=by
 have x87:TT.ext 188=none:=rfl;have hl:zae TT 9 H (.ptr N 0)=some (.s [69]):=by simp[zae,zar,hN,zby,zb3,zcd]
 have hF:=ai @h0 (ai @h1 (ai @h5 (ai @h6 (ai @h30 (ai @h31 (ai @h32 (ai @hl (ai @hcnt (ai @x87 @hz)))))))));refine zbe.round' ?_;apply rS hC
 ·refine gO (by simp[hF,-zae]<;>rfl) ?_;rfl
 apply sQ;refine cT (by simp[hF,-zae]<;>rfl) ?_;apply Tri.skip;apply sN;apply sQ;apply bK;apply rS hC
 ·iterate 3 refine gO (by simp[hF,-zae]<;>rfl) ?_
  rfl
 apply rS hC
 ·iterate 4 refine gO (by simp[hF,-zae]<;>rfl) ?_
  rfl
 apply rS hC
 ·iterate 2 refine gO (by simp[hF,-zae]<;>rfl) ?_
  rfl
 refine cF (by simp[hF,-zae]<;>rfl) ?_;apply Tri.skip;apply bN;apply sN;apply rN hC
 ·iterate 2 refine gO (by simp[hF,-zae]<;>rfl) ?_
  rfl
 refine zav ?_;exact hA _ (by simp[hw]) (by simp[h0]) (by simp[h1]) (by simp[h5]) (by simp[h6]) (by simp[h30]) (by simp[h31]) (by simp[h32]<;>rfl)
theorem znp {call:zad}(hC:call.Sound prog TT){Q:Out→Prop}(p N:Nat)(H:zaa)(hp:H[p]? = some (some (bsB N)))(hN:H[N]? = some (some ⟨9,[.s [69],.s [95]],.all⟩))(x:List UInt8)(t:Tm)(n:Int)(a:Bool)(m:Nat)(hm:m≤2000000)(hn0:-2000000≤n)(hn2:n≤4000000)(hcnt:∀K,call 188 [.s x,.s [95]] K=.val (.i .i64 m) K)(hz:((m:Int) !=0)=true)(hw:t.wid=122)(h0:t.get 0=.ptr p 0)(h1:t.get 1=.s x)(h5:t.get 5=.i .i64 n)(h6:t.get 6=.b a)(h30:t.get 30=.sl N 1 0 2 (some 2))(h31:t.get 31=.i .i64 2)(h32:t.get 32=.i .i64 1)(hA:∀t':Tm,t'.wid=122→t'.get 0=.ptr p 0→t'.get 1=.s x→t'.get 5=.i .i64 (n-m)→t'.get 6=.b (true)→t'.get 30=.sl N 1 0 2 (some 2)→t'.get 31=.i .i64 2→t'.get 32=.i .i64 2→zbe prog TT (sub [true,true,true,false,true,false,true,false,false] (zah f186)) t' H Q) :
 zbe prog TT (sub [true,true,true,false,true,false,true,false,false] (zah f186)) t H Q:=by
 have x87:TT.ext 188=none:=rfl;have hl:zae TT 9 H (.ptr N 1)=some (.s [95]):=by simp[zae,zar,hN,zby,zb3,zcd]
 have hl2:zae TT 64 H (.ptr p 95)=some (.sl (N+7) 1 0 0 none):=by rw[zdL hp 95 (by omega)];rfl
 have hn:IntKind.i64.wrap (n+IntKind.i64.wrap ((m:Int)*IntKind.i64.wrap (-1)))=n-m:=by
  rw[show IntKind.i64.wrap (-1)= -1 from rfl,zaU (n:=(m:Int)*(-1)) (by omega) (by omega),zaU (by omega) (by omega)];omega
 have hF:=ai @h0 (ai @h1 (ai @h5 (ai @h6 (ai @h30 (ai @h31 (ai @h32 (ai @hl (ai @hl2 (ai @hcnt (ai @x87 @hz))))))))));refine zbe.round' ?_;apply rS hC
 ·refine gO (by simp[hF,-zae]<;>rfl) ?_;rfl
 apply sQ;refine cT (by simp[hF,-zae]<;>rfl) ?_;apply Tri.skip;apply sN;apply sQ;apply bK;apply rS hC
 ·iterate 3 refine gO (by simp[hF,-zae]<;>rfl) ?_
  rfl
 apply rS hC
 ·iterate 4 refine gO (by simp[hF,-zae]<;>rfl) ?_
  rfl
 apply rS hC
 ·iterate 2 refine gO (by simp[hF,-zae]<;>rfl) ?_
  rfl
 refine cT (by simp[hF,-zae]<;>rfl) ?_;apply sQ;refine Tri.regN (t':=?ty17) (H':=?Hy17) zaf hC ?ey17 ?qy17;case ey17=>
  refine zdj (t':=?ty17) (by kernel_rfl) ?_ ?ry1907;iterate 14 refine QR.val rfl (by simp[hF,-zae]<;>rfl) (by rfl) (by simp[hw]) ?_
  exact QR.nil;case ry1907=>exact rfl
 apply sN;apply rN hC
 ·refine gO (by simp[hF,-zae]<;>rfl) ?_;rfl
 apply bN;apply sN;apply rN hC
 ·iterate 2 refine gO (by simp[hF,-zae]<;>rfl) ?_
  rfl
 refine zav ?_;exact hA _ (by simp[hw]) (by simp[h0]) (by simp[h1]) (by simp[h5]<;>exact hn) (by simp[h6]) (by simp[h30]) (by simp[h31]) (by simp[h32]<;>rfl)
theorem zno {call:zad}(hC:call.Sound prog TT){Q:Out→Prop}(p N:Nat)(H:zaa)(hp:H[p]? = some (some (bsB N)))(hN:H[N]? = some (some ⟨9,[.s [69],.s [95]],.all⟩))(x:List UInt8)(t:Tm)(n:Int)(a:Bool)(m:Nat)(hcnt:∀K,call 188 [.s x,.s [95]] K=.val (.i .i64 m) K)(hz:((m:Int) !=0)=false)(hw:t.wid=122)(h0:t.get 0=.ptr p 0)(h1:t.get 1=.s x)(h5:t.get 5=.i .i64 n)(h6:t.get 6=.b a)(h30:t.get 30=.sl N 1 0 2 (some 2))(h31:t.get 31=.i .i64 2)(h32:t.get 32=.i .i64 1)(hA:∀t':Tm,t'.wid=122→t'.get 0=.ptr p 0→t'.get 1=.s x→t'.get 5=.i .i64 (n)→t'.get 6=.b (a)→t'.get 30=.sl N 1 0 2 (some 2)→t'.get 31=.i .i64 2→t'.get 32=.i .i64 2→zbe prog TT (sub [true,true,true,false,true,false,true,false,false] (zah f186)) t' H Q) :
 zbe prog TT (sub [true,true,true,false,true,false,true,false,false] (zah f186)) t H Q:=by
 have x87:TT.ext 188=none:=rfl;have hl:zae TT 9 H (.ptr N 1)=some (.s [95]):=by simp[zae,zar,hN,zby,zb3,zcd]
 have hF:=ai @h0 (ai @h1 (ai @h5 (ai @h6 (ai @h30 (ai @h31 (ai @h32 (ai @hl (ai @hcnt (ai @x87 @hz)))))))));refine zbe.round' ?_;apply rS hC
 ·refine gO (by simp[hF,-zae]<;>rfl) ?_;rfl
 apply sQ;refine cT (by simp[hF,-zae]<;>rfl) ?_;apply Tri.skip;apply sN;apply sQ;apply bK;apply rS hC
 ·iterate 3 refine gO (by simp[hF,-zae]<;>rfl) ?_
  rfl
 apply rS hC
 ·iterate 4 refine gO (by simp[hF,-zae]<;>rfl) ?_
  rfl
 apply rS hC
 ·iterate 2 refine gO (by simp[hF,-zae]<;>rfl) ?_
  rfl
 refine cF (by simp[hF,-zae]<;>rfl) ?_;apply Tri.skip;apply bN;apply sN;apply rN hC
 ·iterate 2 refine gO (by simp[hF,-zae]<;>rfl) ?_
  rfl
 refine zav ?_;exact hA _ (by simp[hw]) (by simp[h0]) (by simp[h1]) (by simp[h5]) (by simp[h6]) (by simp[h30]) (by simp[h31]) (by simp[h32]<;>rfl)
theorem zh6 {call:zad} (hC:call.Sound prog TT) {Q:Out→Prop} (p N:Nat) (H:zaa) (hp:H[p]? = some (some (bsB N))) (hN:H[N]? = some (some ⟨9,[.s [69],.s [95]],.all⟩)) (x:List UInt8) (t:Tm) (n:Int) (a:Bool) (hx:x.length<1100000) (hn0:0≤n) (hn2:n≤2000000) (hcnt:∀(c:UInt8) (K:zaa),call 188 [.s x,.s [c]] K=.val (.i .i64 (Lib.countByte x c)) K) (hw:t.wid=122) (h0:t.get 0=.ptr p 0) (h1:t.get 1=.s x) (h5:t.get 5=.i .i64 n) (h6:t.get 6=.b a) (h30:t.get 30=.sl N 1 0 2 (some 2)) (h31:t.get 31=.i .i64 2) (h32:t.get 32=.i .i64 0) (hE:∀t':Tm,t'.wid=122→t'.get 0=.ptr p 0→t'.get 1=.s x→t'.get 5=.i .i64 (n-(Lib.countByte x 95:Nat))→t'.get 6=.b (a||decide (Lib.countByte x 69≠0)||decide (Lib.countByte x 95≠0))→Q (.exit 0 t' H)) :
    zbe prog TT (sub [true,true,true,false,true,false,true,false,false] (zah f186)) t H Q:=by
  have hc1:Lib.countByte x 69≤x.length:=count_le_length
  have hc2:Lib.countByte x 95≤x.length:=count_le_length
  have two:∀(a1:Bool) (t1:Tm),t1.wid=122→t1.get 0=.ptr p 0→t1.get 1=.s x→t1.get 5=.i .i64 n→t1.get 6=.b a1→t1.get 30=.sl N 1 0 2 (some 2)→t1.get 31=.i .i64 2→t1.get 32=.i .i64 1→(a||decide (Lib.countByte x 69≠0))=a1→zbe prog TT (sub [true,true,true,false,true,false,true,false,false] (zah f186)) t1 H Q:=by
    intro a1 t1 k1 k2 k3 k4 k5 k6 k7 k8 ha
    cases hz:((Lib.countByte x 95:Nat):Int) !=0 with
    | true=>
      refine znp hC p N H hp hN x t1 n a1 (Lib.countByte x 95) (by omega) (by omega) (by omega) (hcnt 95) hz k1 k2 k3 k4 k5 k6 k7 k8 fun t2 j1 j2 j3 j4 j5 j6 j7 j8=>?_
      refine zkx hC p N H hp hN x t2 _ _ j1 j2 j3 j4 j5 j6 j7 j8 fun t3 i1 i2 i3 i4 i5=>hE t3 i1 i2 i3 i4 (have h9:Lib.countByte x 95≠0:=by simpa using hz
        by rw[i5];simp[h9])
    | false=>
      have h0:Lib.countByte x 95=0:=by simpa using hz
      refine zno hC p N H hp hN x t1 n a1 (Lib.countByte x 95) (hcnt 95) hz k1 k2 k3 k4 k5 k6 k7 k8 fun t2 j1 j2 j3 j4 j5 j6 j7 j8=>?_
      refine zkx hC p N H hp hN x t2 _ _ j1 j2 j3 j4 j5 j6 j7 j8 fun t3 i1 i2 i3 i4 i5=>hE t3 i1 i2 i3 (by rw[i4,h0];simp) (by rw[i5,←ha];simp[h0])
  cases hz:((Lib.countByte x 69:Nat):Int) !=0 with
  | true=>
    refine znn hC p N H hp hN x t n a (Lib.countByte x 69) (by omega) (by omega) (by omega) (hcnt 69) hz hw h0 h1 h5 h6 h30 h31 h32 fun t2 j1 j2 j3 j4 j5 j6 j7 j8=>?_
    exact two true t2 j1 j2 j3 j4 j5 j6 j7 j8 (by simp only[bne_iff_ne,ne_eq]at hz;simp;right;omega)
  | false=>
    have h0':Lib.countByte x 69=0:=by simpa using hz
    refine znm hC p N H hp hN x t n a (Lib.countByte x 69) (hcnt 69) hz hw h0 h1 h5 h6 h30 h31 h32 fun t2 j1 j2 j3 j4 j5 j6 j7 j8=>?_
    exact two a t2 j1 j2 j3 j4 j5 j6 j7 j8 (by simp[h0'])

def byV (l:List UInt8):List V:=l.map fun c=>V.i .u8 c.toNat
def zeg (out:List UInt8)(k:Nat):Blk:=⟨5,byV out++List.replicate k (V.i .u8 0),.all⟩
theorem zqa {H:zaa}{m:Nat}{ty:Nat}{l:List V}(h:H[m]? = some (some ⟨ty,.tup []::l,.map⟩)):zjy H m=some l:=by
 have h1:zar H m=none:=by simp[zar,h]
 have h2:ziZ H m=some ⟨ty,l,.all⟩∨∃k,ziZ H m=some ⟨ty,l,k⟩:=by
  right;simp[ziZ,h,zgW]
 obtain⟨k,h2⟩:=h2.elim (fun h=>⟨_,h⟩) id;simp only[zjy,h1,h2];rfl
theorem znz (l:List V)(o:Nat)(h:o≤l.length):splice l o []=l:=by simp[splice]
theorem zjX {H:zaa}{z m:Nat}{blk:Blk}{cs:List V}(hz:zar H z=some blk)(hs:zjy H m=some cs)(o w:Nat)(c:Option Nat)(h:o≤blk.cells.length):zdz TT 64 (.sl z 1 o w c) (.sl m 1 0 0 none) H=.val (.i .i64 0) (H.set z (some blk)):=by
 have e1:TT.und 64=some (.slice 5):=rfl;have e2:TT.size 5=some 1:=rfl;have e3:cut cs 0 0=some []:=by simp[cut]
 simp only[zdz,e1,hz,hs,zcK];rw[show Nat.min 0 w=0 from Nat.zero_min w,e3];simp[e2,znz _ _ h,h]
theorem zqS {H:zaa}{z m:Nat}{blk:Blk}{v:V}(hz:zar H z=some blk)(hs:zjy H m=some [v])(hf:zeF v=true)(o w:Nat)(c:Option Nat)(hw:0<w)(h:o<blk.cells.length):zdz TT 64 (.sl z 1 o w c) (.sl m 1 0 1 none) H=.val (.i .i64 1) (H.set z (some {blk with cells:=splice blk.cells o [v]})):=by
 have e1:TT.und 64=some (.slice 5):=rfl;have e2:TT.size 5=some 1:=rfl;have e3:cut [v] 0 1=some [v]:=by simp[cut]
 simp only[zdz,e1,hz,hs,zcK];rw[show Nat.min 1 w=1 from Nat.min_eq_left hw,e3];show(if _ then _ else _)=_;rw[if_pos ⟨trivial,trivial,e2,by rw[all_cons,hf];rfl,by simp;omega⟩];rfl
theorem BsR.set {H:zaa}{p N z:Nat}(h:BsR H p N)(hz:z≠p∧z≠N∧z≠N+4∧z≠N+7)(b:Option Blk):BsR (H.set z b) p N:=by
 obtain⟨h1,h2,h3,h4⟩:=h;obtain⟨z1,z2,z3,z4⟩:=hz;exact⟨by rw[List.getElem?_set_ne z1];exact h1,by rw[List.getElem?_set_ne z2];exact h2,by rw[List.getElem?_set_ne z3];exact h3,by rw[List.getElem?_set_ne z4];exact h4⟩
theorem zl1 (out:List UInt8)(k:Nat)(c:UInt8):splice (zeg out (k+1)).cells out.length [V.i .u8 c.toNat]=(zeg (out++[c]) k).cells:=by
 have e:(byV out).length=out.length:=by simp[byV]
 unfold splice zeg;simp only;rw[take_append_of_le_length (by omega),take_of_length_le (by omega),drop_append,drop_eq_nil_of_le (by simp;omega),e];simp[byV,replicate_succ]
theorem zh8 {call:zad}(hC:call.Sound prog TT){Q:Out→Prop}(p N z:Nat)(hzn:z≠p∧z≠N∧z≠N+4∧z≠N+7):∀(L pre:List UInt8)(t:Tm)(H:zaa)(W J:Nat),J=(zaQ pre).length→(pre++L).length<1100000→W=J+(zaQ L).length→BsR H p N→H[z]? = some (some (zeg (zaQ pre) (zaQ L).length))→t.wid=122→t.get 0=.ptr p 0→t.get 1=.s (pre++L)→t.get 12=.sl z 1 0 W (some W)→t.get 13=.i .i64 J→t.get 14=.i .i64 pre.length →
 (∀(t':Tm)(H':zaa),t'.wid=122→t'.get 12=.sl z 1 0 W (some W)→H'[z]? = some (some (zeg (zaQ (pre++L)) 0))→H'.length=H.length→(∀j,j≠z→H'[j]? = H[j]?)→Q (.exit 4 t' H')) →
 zbe prog TT (sub [true,true,true,true,true,true,true,false,true,false,false] (zah f186)) t H Q:=by
 intro L;induction L with
 |nil=>
  intro pre t H W J hJ hlen hW hB hz hw h0 h1 h12 h13 h14 hE;have hF:=ai @h0 (ai @h1 (ai @h12 (ai @h13 @h14)));refine zbe.round' ?_;apply sQ;apply rS hC
  ·iterate 4 refine gO (by simp[hF,-zae]<;>rfl) ?_
   rfl
  refine cF (by simp[hF,-zae]<;>rfl) ?_;refine Tri.exit ?_;refine za8 ?_;refine zbo ?_;exact hE _ _ (by simp[hw]) (by simp[h12]) (by rw[hz];simp[zaQ]) rfl (fun _ _=>rfl)
 |cons b L ih=>
  intro pre t H W J hJ hlen hW hB hz hw h0 h1 h12 h13 h14 hE;have hlt:=ziX pre.length L.length;have hat:=zkI pre b L;have hat2:=zjA pre b L;have hb1:(0:Int)≤b.toNat:=(zkL b).1;have hb2:(b.toNat:Int)<256:=(zkL b).2;have hi:b.toNat<256:=b.toNat_lt;have hle:J≤W:=by omega
  have hzb:zar H z=some (zeg (zaQ pre) (zaQ (b::L)).length):=by simp[zar,hz,zeg]
  have hJ2:J<1100000:=by
   have h1:(zaQ pre).length≤pre.length:=by unfold zaQ;rw[length_map];exact length_filter_le _ _
   rw[length_append]at hlen;omega
  have hs7:zjy H (N+7)=some []:=zqa hB.2.2.2;have hs4:zjy H (N+4)=some [.i .u8 101]:=zqa hB.2.2.1;by_cases h95:b.toNat=95
  ·have hb:b=95:=UInt8.toNat_inj.1 h95;have hr:zaQ (pre++[b])=zaQ pre:=by rw[hb];simp[zaQ]
   have hr2:zaQ (b::L)=zaQ L:=by rw[hb];simp[zaQ]
   have hl:zae TT 64 H (.ptr p b.toNat)=some (.sl (N+7) 1 0 0 none):=by rw[zdL hB.1 _ hi,h95];rfl
   have hset:H.set z (some (zeg (zaQ pre) (zaQ (b::L)).length))=H:=(zaa.set_self hz).symm;have hn:IntKind.i64.wrap ((J:Int)+0)=J:=by rw[Int.add_zero];exact zaU (by omega) (by omega)
   by_cases hWJ:W=J
   ·have hcp:zdz TT 64 (.sl z 1 0 0 (some 0)) (.sl (N+7) 1 0 0 none) H=.val (.i .i64 0) (H.set z (some (zeg (zaQ pre) (zaQ (b::L)).length))):=zjX hzb hs7 0 0 _ (by omega);have hF:=ai @h0 (ai @h1 (ai @h12 (ai @h13 (ai @h14 (ai @hlt (ai @hat (ai @hat2 (ai @hb1 (ai @hb2 (ai @hl (ai @hcp (ai @hle (ai @hWJ @hset)))))))))))));refine zbe.round' ?_;apply sQ;apply rS hC
    ·iterate 4 refine gO (by simp[hF,-zae]<;>rfl) ?_
     rfl
    refine cT (by simp[hF,-zae]<;>rfl) ?_;apply Tri.skip;apply sN;apply sQ;apply bK;apply rS hC
    ·iterate 4 refine gO (by simp[hF,-zae]<;>rfl) ?_
     rfl
    apply rS hC
    ·iterate 7 refine gO (by simp[hF,-zae]<;>rfl) ?_
     rfl
    refine cT (by simp[hF,-zae]<;>rfl) ?_;refine Tri.regN (t':=?ta6) (H':=?Ha6) zaf hC ?ea6 ?qa6;case ea6=>
     refine zbG (t':=?ta6) (H':=?Ha6) (ks:=[.q,.q,.q,.q,.q,.q,.q,.q,.q,.f,.e,.q,.q]) (fun _=>True) (by kernel_rfl) ?Aa906 ?_ ?ra906;case Aa906=>simp[hF,-zae]
     iterate 9 refine DR.blind rfl rfl (by simp[hF,-zae]<;>rfl) (by rfl) (by simp[hw]) ?_
     refine DR.fix rfl (by simp[hF,-zae]<;>rfl) (by rfl) (by simp[hw]) ?_;refine DR.eff rfl rfl (by simp[hF,-zae]<;>rfl) (by rfl) (by simp[hw]) (by simp[hF,-zae]) ?_;iterate 2 refine DR.blind rfl rfl (by simp[hF,-zae]<;>rfl) (by rfl) (by simp[hw]) ?_
     exact DR.nil;case ra906=>exact rfl
    apply bN;apply sN;apply rN hC
    ·iterate 3 refine gO (by simp[hF,-zae]<;>rfl) ?_
     rfl
    refine zav ?_;refine ih (pre++[b]) _ H W J (by rw[hJ,hr]) (by simpa using hlen) (by rw[hW,hr2]) hB (by rw[hr,hz,hr2])  (by simp[hw]) (by simp[h0]) (by simp[h1]) (by simp[h12]) (by simp[h13]<;>exact hn) (by simp[h14]<;>exact zaU (by omega) (by simp at hlen;omega)) (fun t' H' k1 k2 k3 k4 k5=>hE t' H' k1 k2 (by simpa using k3) k4 k5)
   ·have hcp:zdz TT 64 (.sl z 1 J (W-J) (some (W-J))) (.sl (N+7) 1 0 0 none) H=.val (.i .i64 0) (H.set z (some (zeg (zaQ pre) (zaQ (b::L)).length))):=zjX hzb hs7 J _ _ (by simp[zeg,byV];omega);have hF:=ai @h0 (ai @h1 (ai @h12 (ai @h13 (ai @h14 (ai @hlt (ai @hat (ai @hat2 (ai @hb1 (ai @hb2 (ai @hl (ai @hcp (ai @hle (ai @hWJ @hset)))))))))))));refine zbe.round' ?_;apply sQ;apply rS hC
    ·iterate 4 refine gO (by simp[hF,-zae]<;>rfl) ?_
     rfl
    refine cT (by simp[hF,-zae]<;>rfl) ?_;apply Tri.skip;apply sN;apply sQ;apply bK;apply rS hC
    ·iterate 4 refine gO (by simp[hF,-zae]<;>rfl) ?_
     rfl
    apply rS hC
    ·iterate 7 refine gO (by simp[hF,-zae]<;>rfl) ?_
     rfl
    refine cT (by simp[hF,-zae]<;>rfl) ?_;refine Tri.regN (t':=?tb6) (H':=?Hb6) zaf hC ?eb6 ?qb6;case eb6=>
     refine zbG (t':=?tb6) (H':=?Hb6) (ks:=[.q,.q,.q,.q,.q,.q,.q,.q,.q,.f,.e,.q,.q]) (fun _=>True) (by kernel_rfl) ?Ab906 ?_ ?rb906;case Ab906=>simp[hF,-zae]
     iterate 9 refine DR.blind rfl rfl (by simp[hF,-zae]<;>rfl) (by rfl) (by simp[hw]) ?_
     refine DR.fix rfl (by simp[hF,-zae]<;>rfl) (by rfl) (by simp[hw]) ?_;refine DR.eff rfl rfl (by simp[hF,-zae]<;>rfl) (by rfl) (by simp[hw]) (by simp[hF,-zae]) ?_;iterate 2 refine DR.blind rfl rfl (by simp[hF,-zae]<;>rfl) (by rfl) (by simp[hw]) ?_
     exact DR.nil;case rb906=>exact rfl
    apply bN;apply sN;apply rN hC
    ·iterate 3 refine gO (by simp[hF,-zae]<;>rfl) ?_
     rfl
    refine zav ?_;refine ih (pre++[b]) _ H W J (by rw[hJ,hr]) (by simpa using hlen) (by rw[hW,hr2]) hB (by rw[hr,hz,hr2])  (by simp[hw]) (by simp[h0]) (by simp[h1]) (by simp[h12]) (by simp[h13]<;>exact hn) (by simp[h14]<;>exact zaU (by omega) (by simp at hlen;omega)) (fun t' H' k1 k2 k3 k4 k5=>hE t' H' k1 k2 (by simpa using k3) k4 k5)
  ·have hb:b≠95:=fun e=>h95 (by rw[e];rfl);have hn:IntKind.i64.wrap ((J:Int)+1)=((J+1:Nat):Int):=by rw[zaU (by omega) (by omega)];omega
   by_cases h69:b.toNat=69
   ·have hb':b=69:=UInt8.toNat_inj.1 h69;have hr:zaQ (pre++[b])=zaQ pre++[101]:=by rw[hb'];simp[zaQ]
    have hr2:zaQ (b::L)=101::zaQ L:=by rw[hb'];simp[zaQ]
    have hl:zae TT 64 H (.ptr p b.toNat)=some (.sl (N+4) 1 0 1 none):=by rw[zdL hB.1 _ hi,h69];rfl
    have hWJ:¬W=J:=by rw[hW,hr2];simp
    have hJl:J<(zeg (zaQ pre) (zaQ (b::L)).length).cells.length:=by simp[zeg,byV,hJ,hr2]
    have hcp:zdz TT 64 (.sl z 1 J (W-J) (some (W-J))) (.sl (N+4) 1 0 1 none) H=.val (.i .i64 1) (H.set z (some (zeg (zaQ pre++[101]) (zaQ L).length))):=by
     rw[zqS hzb hs4 rfl J _ _ (by omega) hJl,hr2,length_cons,hJ,show V.i IntKind.u8 101=.i .u8 ((101:UInt8).toNat:Nat)from rfl,zl1];rfl
    have hzl:z<H.length:=zaa.lt hz;have hF:=ai @h0 (ai @h1 (ai @h12 (ai @h13 (ai @h14 (ai @hlt (ai @hat (ai @hat2 (ai @hb1 (ai @hb2 (ai @hl (ai @hcp (ai @hle @hWJ))))))))))));refine zbe.round' ?_;apply sQ;apply rS hC
    ·iterate 4 refine gO (by simp[hF,-zae]<;>rfl) ?_
     rfl
    refine cT (by simp[hF,-zae]<;>rfl) ?_;apply Tri.skip;apply sN;apply sQ;apply bK;apply rS hC
    ·iterate 4 refine gO (by simp[hF,-zae]<;>rfl) ?_
     rfl
    apply rS hC
    ·iterate 7 refine gO (by simp[hF,-zae]<;>rfl) ?_
     rfl
    refine cT (by simp[hF,-zae]<;>rfl) ?_;refine Tri.regN (t':=?tc6) (H':=?Hc6) zaf hC ?ec6 ?qc6;case ec6=>
     refine zbG (t':=?tc6) (H':=?Hc6) (ks:=[.q,.q,.q,.q,.q,.q,.q,.q,.q,.f,.e,.q,.q]) (fun _=>True) (by kernel_rfl) ?Ac906 ?_ ?rc906;case Ac906=>simp[hF,-zae]
     iterate 9 refine DR.blind rfl rfl (by simp[hF,-zae]<;>rfl) (by rfl) (by simp[hw]) ?_
     refine DR.fix rfl (by simp[hF,-zae]<;>rfl) (by rfl) (by simp[hw]) ?_;refine DR.eff rfl rfl (by simp[hF,-zae]<;>rfl) (by rfl) (by simp[hw]) (by simp[hF,-zae]) ?_;iterate 2 refine DR.blind rfl rfl (by simp[hF,-zae]<;>rfl) (by rfl) (by simp[hw]) ?_
     exact DR.nil;case rc906=>exact rfl
    apply bN;apply sN;apply rN hC
    ·iterate 3 refine gO (by simp[hF,-zae]<;>rfl) ?_
     rfl
    refine zav ?_;refine ih (pre++[b]) _ _ W (J+1) (by rw[hr,hJ];simp) (by simpa using hlen) (by rw[hW,hr2,length_cons];omega) (hB.set hzn _) (by rw[List.getElem?_set_self hzl,hr])  (by simp[hw]) (by simp[h0]) (by simp[h1]) (by simp[h12]) (by simp[h13]<;>exact hn) (by simp[h14]<;>exact zaU (by omega) (by simp at hlen;omega)) (fun t' H' k1 k2 k3 k4 k5=>hE t' H' k1 k2 (by simpa using k3) (by rw[k4];simp) (fun j hj=>by rw[k5 j hj,List.getElem?_set_ne (fun e=>hj e.symm)]))
   ·have hb':b≠69:=fun e=>h69 (by rw[e];rfl);have hr:zaQ (pre++[b])=zaQ pre++[b]:=by simp[zaQ,hb,hb']
    have hr2:zaQ (b::L)=b::zaQ L:=by simp[zaQ,hb,hb']
    have hl:zae TT 64 H (.ptr p b.toNat)=some .nils:=by rw[zdL hB.1 _ hi,zuZ N _ h95 h69]
    have hJW:(J:Int)<W:=by rw[hW,hr2,length_cons];omega
    have hzl:z<H.length:=zaa.lt hz;have hst:zbO TT 5 H (.ptr z J) (.i .u8 b.toNat)=some (H.set z (some (zeg (zaQ pre++[b]) (zaQ L).length))):=by
     have e2:TT.size 5=some 1:=rfl;have hJl:J<(zeg (zaQ pre) (zaQ (b::L)).length).cells.length:=by simp[zeg,byV,hJ,hr2]
     have hcl:(V.i .u8 b.toNat).cells=[V.i .u8 b.toNat]:=rfl;unfold zbO;simp only[hzb,hcl];rw[if_pos ⟨e2,hJl,rfl⟩,zfN,setK_eq,hr2,length_cons,hJ,zl1];rfl
    have hF:=ai @h0 (ai @h1 (ai @h12 (ai @h13 (ai @h14 (ai @hlt (ai @hat (ai @hat2 (ai @hb1 (ai @hb2 (ai @hl (ai @hst (ai @hle @hJW))))))))))));refine zbe.round' ?_;apply sQ;apply rS hC
    ·iterate 4 refine gO (by simp[hF,-zae,-zbO]<;>rfl) ?_
     rfl
    refine Tri.condG (o:=?od2) (b:=?bd2) ?gd2 ?rd2 ?yd2 ?nd2;case gd2=>simp[hF,-zae,-zbO]<;>rfl
    case rd2=>rfl
    case yd2=>
     intro hy2;apply Tri.skip;apply sN;apply sQ;apply bK;apply rS hC
     ·iterate 4 refine gO (by simp[hF,-zae,-zbO]<;>rfl) ?_
      rfl
     apply rS hC
     ·iterate 7 refine gO (by simp[hF,-zae,-zbO]<;>rfl) ?_
      rfl
     refine cF (by simp[hF,-zae,-zbO]<;>rfl) ?_;apply rS hC
     ·iterate 5 refine gO (by simp[hF,-zae,-zbO]<;>rfl) ?_
      rfl
     apply rN hC
     ·iterate 3 refine gO (by simp[hF,-zae,-zbO]<;>rfl) ?_
      rfl
     apply bN;apply sN;apply rN hC
     ·iterate 3 refine gO (by simp[hF,-zae,-zbO]<;>rfl) ?_
      rfl
     refine zav ?_;refine ih (pre++[b]) _ _ W (J+1) (by rw[hr,hJ];simp) (by simpa using hlen) (by rw[hW,hr2,length_cons];omega) (hB.set hzn _) (by rw[List.getElem?_set_self hzl,hr])  (by simp[hw]) (by simp[h0]) (by simp[h1]) (by simp[h12]) (by simp[h13]<;>exact hn) (by simp[h14]<;>exact zaU (by omega) (by simp at hlen;omega)) (fun t' H' k1 k2 k3 k4 k5=>hE t' H' k1 k2 (by simpa using k3) (by rw[k4];simp) (fun j hj=>by rw[k5 j hj,List.getElem?_set_ne (fun e=>hj e.symm)]))
    case nd2=>
     intro hn2;exact absurd hn2 (by simp[hF,-zae,-zbO])
theorem zkW {call:zad}(hC:call.Sound prog TT)(w16:IntKind.i64.wrap 16=16)(p N:Nat)(H:zaa)(hB:BsR H p N)(x:List UInt8)(hx:x.length<1100000)(hl256:zae TT 37 H (.ptr p 256)=some (.sl N 1 0 2 (some 2)))(hcnt:∀(c:UInt8)(K:zaa),call 188 [.s x,.s [c]] K=.val (.i .i64 (Lib.countByte x c)) K)(h16:¬(16:Int)≤x.length)(W:Nat)(hWW:(W:Int)=W)(e5:(x.length:Int)-(x.count 95:Nat)=W)(e6:(false||x.any isX)=false)(hmk:zbc TT 64 (.i .i64 W) (.i .i64 W) H=.val (.sl H.length 1 0 W (some W)) (H++[some (zeg [] W)]))(hrep:zaQ x=x)   : zaH prog TT 186 [.ptr p 0,.s x] H (fun r=>∃B,r=.val (.s (zaQ x)) B∧H.length≤B.length∧∀j,j<H.length→B[j]? = H[j]?):=by
 refine⟨f186,_,rfl,rfl,by simp[f186],?_⟩;have h0:(Tm.init f186.ntmps [.ptr p 0,.s x]).get 0=.ptr p 0:=by rw[zag];rfl
 have h1:(Tm.init f186.ntmps [.ptr p 0,.s x]).get 1=.s x:=by rw[zag];rfl
 have hw:(Tm.init f186.ntmps [.ptr p 0,.s x]).wid=122:=rfl;generalize Tm.init f186.ntmps [.ptr p 0,.s x]=t at *;try simp only[Nd.enc_eq]at *
 have hF:=ai @h0 (ai @h1 (ai @hl256 (ai @h16 @w16)));apply rS hC
 ·refine gO (by simp[hF,-zae]<;>rfl) ?_;rfl
 apply rS hC
 ·iterate 3 refine gO (by simp[hF,-zae]<;>rfl) ?_
  rfl
 apply rS hC
 ·refine gO (by simp[hF,-zae]<;>rfl) ?_;rfl
 apply sQ;apply rS hC
 ·iterate 9 refine gO (by simp[hF,-zae]<;>rfl) ?_
  rfl
 refine cF (by simp[hF,-zae]<;>rfl) ?_;apply rS hC
 ·refine gO (by simp[hF,-zae]<;>rfl) ?_;rfl
 apply bK;refine Tri.loop ?_;refine zh7 hC p N H hB.1 x [] _ (x.length:Int) false (by simpa using hx) (by omega) (by omega) (by simp[hw]) (by simp[h0]) (by simp[h1]) (by simp<;>rfl) (by simp<;>rfl) (by simp<;>rfl) ?exit;case exit=>
  intro t2 hw h0 h1 h5 h6;rw[e5]at h5;rw[e6]at h6;refine zaO ?_;apply sN;apply sQ;apply rS hC
  ·iterate 2 refine gO (by simp[hF,-zae,h0,h1,h5,h6,-zae,hmk]<;>rfl) ?_
   rfl
  refine cT (by simp[hF,-zae]<;>rfl) ?_;apply rS hC
  ·iterate 2 refine gO (by simp[hF,-zae,h0,h1,h5,h6,-zae,hmk]<;>rfl) ?_
   rfl
  apply Tri.ret;apply sR;refine⟨.s (zaQ x),⟨_,rfl,Nat.le_refl _,fun _ _=>rfl⟩,?_⟩;simp[f186,h1,hrep]
theorem zkU {call:zad}(hC:call.Sound prog TT)(w16:IntKind.i64.wrap 16=16)(p N:Nat)(H:zaa)(hB:BsR H p N)(x:List UInt8)(hx:x.length<1100000)(hl256:zae TT 37 H (.ptr p 256)=some (.sl N 1 0 2 (some 2)))(hcnt:∀(c:UInt8)(K:zaa),call 188 [.s x,.s [c]] K=.val (.i .i64 (Lib.countByte x c)) K)(h16:(16:Int)≤x.length)(W:Nat)(hWW:(W:Int)=W)(e5:(x.length:Int)-(Lib.countByte x 95:Nat)=W)(e6:(false||decide (Lib.countByte x 69≠0)||decide (Lib.countByte x 95≠0))=false)(hmk:zbc TT 64 (.i .i64 W) (.i .i64 W) H=.val (.sl H.length 1 0 W (some W)) (H++[some (zeg [] W)]))(hrep:zaQ x=x)   : zaH prog TT 186 [.ptr p 0,.s x] H (fun r=>∃B,r=.val (.s (zaQ x)) B∧H.length≤B.length∧∀j,j<H.length→B[j]? = H[j]?):=by
 refine⟨f186,_,rfl,rfl,by simp[f186],?_⟩;have h0:(Tm.init f186.ntmps [.ptr p 0,.s x]).get 0=.ptr p 0:=by rw[zag];rfl
 have h1:(Tm.init f186.ntmps [.ptr p 0,.s x]).get 1=.s x:=by rw[zag];rfl
 have hw:(Tm.init f186.ntmps [.ptr p 0,.s x]).wid=122:=rfl;generalize Tm.init f186.ntmps [.ptr p 0,.s x]=t at *;try simp only[Nd.enc_eq]at *
 have hF:=ai @h0 (ai @h1 (ai @hl256 (ai @h16 @w16)));apply rS hC
 ·refine gO (by simp[hF,-zae]<;>rfl) ?_;rfl
 apply rS hC
 ·iterate 3 refine gO (by simp[hF,-zae]<;>rfl) ?_
  rfl
 apply rS hC
 ·refine gO (by simp[hF,-zae]<;>rfl) ?_;rfl
 apply sQ;apply rS hC
 ·iterate 9 refine gO (by simp[hF,-zae]<;>rfl) ?_
  rfl
 refine cT (by simp[hF,-zae]<;>rfl) ?_;apply rS hC
 ·iterate 6 refine gO (by simp[hF,-zae]<;>rfl) ?_
  rfl
 apply bK;refine Tri.loop ?_;refine zh6 hC p N H hB.1 hB.2.1 x _ (x.length:Int) false hx (by omega) (by omega) hcnt (by simp[hw]) (by simp[h0]) (by simp[h1]) (by simp<;>rfl) (by simp<;>rfl) (by simp<;>rfl) (by simp<;>rfl) (by simp<;>rfl) ?exit;case exit=>
  intro t2 hw h0 h1 h5 h6;rw[e5]at h5;rw[e6]at h6;refine zaO ?_;apply sN;apply sQ;apply rS hC
  ·iterate 2 refine gO (by simp[hF,-zae,h0,h1,h5,h6,-zae,hmk]<;>rfl) ?_
   rfl
  refine cT (by simp[hF,-zae]<;>rfl) ?_;apply rS hC
  ·iterate 2 refine gO (by simp[hF,-zae,h0,h1,h5,h6,-zae,hmk]<;>rfl) ?_
   rfl
  apply Tri.ret;apply sR;refine⟨.s (zaQ x),⟨_,rfl,Nat.le_refl _,fun _ _=>rfl⟩,?_⟩;simp[f186,h1,hrep]
theorem zkX {call:zad}(hC:call.Sound prog TT)(w16:IntKind.i64.wrap 16=16)(p N:Nat)(H:zaa)(hB:BsR H p N)(x:List UInt8)(hx:x.length<1100000)(hl256:zae TT 37 H (.ptr p 256)=some (.sl N 1 0 2 (some 2)))(hcnt:∀(c:UInt8)(K:zaa),call 188 [.s x,.s [c]] K=.val (.i .i64 (Lib.countByte x c)) K)(h16:¬(16:Int)≤x.length)(W:Nat)(hWW:(W:Int)=W)(e5:(x.length:Int)-(x.count 95:Nat)=W)(e6:(false||x.any isX)=true)(hmk:zbc TT 64 (.i .i64 W) (.i .i64 W) H=.val (.sl H.length 1 0 W (some W)) (H++[some (zeg [] W)]))(hW:W=0+(zaQ x).length)(hzn:H.length≠p∧H.length≠N∧H.length≠N+4∧H.length≠N+7)(hB2:BsR (H++[some (zeg [] W)]) p N)(hcv0:∀K:zaa,K[H.length]? = some (some (zeg (zaQ x) 0))→zaW TT 64 9 (.sl H.length 1 0 W (some W)) K=.val (.s (zaQ x)) K)   : zaH prog TT 186 [.ptr p 0,.s x] H (fun r=>∃B,r=.val (.s (zaQ x)) B∧H.length≤B.length∧∀j,j<H.length→B[j]? = H[j]?):=by
 refine⟨f186,_,rfl,rfl,by simp[f186],?_⟩;have h0:(Tm.init f186.ntmps [.ptr p 0,.s x]).get 0=.ptr p 0:=by rw[zag];rfl
 have h1:(Tm.init f186.ntmps [.ptr p 0,.s x]).get 1=.s x:=by rw[zag];rfl
 have hw:(Tm.init f186.ntmps [.ptr p 0,.s x]).wid=122:=rfl;generalize Tm.init f186.ntmps [.ptr p 0,.s x]=t at *;try simp only[Nd.enc_eq]at *
 have hF:=ai @h0 (ai @h1 (ai @hl256 (ai @h16 @w16)));apply rS hC
 ·refine gO (by simp[hF,-zae]<;>rfl) ?_;rfl
 apply rS hC
 ·iterate 3 refine gO (by simp[hF,-zae]<;>rfl) ?_
  rfl
 apply rS hC
 ·refine gO (by simp[hF,-zae]<;>rfl) ?_;rfl
 apply sQ;apply rS hC
 ·iterate 9 refine gO (by simp[hF,-zae]<;>rfl) ?_
  rfl
 refine cF (by simp[hF,-zae]<;>rfl) ?_;apply rS hC
 ·refine gO (by simp[hF,-zae]<;>rfl) ?_;rfl
 apply bK;refine Tri.loop ?_;refine zh7 hC p N H hB.1 x [] _ (x.length:Int) false (by simpa using hx) (by omega) (by omega) (by simp[hw]) (by simp[h0]) (by simp[h1]) (by simp<;>rfl) (by simp<;>rfl) (by simp<;>rfl) ?exit;case exit=>
  intro t2 hw h0 h1 h5 h6;rw[e5]at h5;rw[e6]at h6;refine zaO ?_;apply sN;apply sQ;apply rS hC
  ·iterate 2 refine gO (by simp[hF,-zae,h0,h1,h5,h6,-zae,hmk]<;>rfl) ?_
   rfl
  refine cF (by simp[hF,-zae]<;>rfl) ?_;apply Tri.skip;apply sN;apply rS hC
  ·iterate 3 refine gO (by simp[hF,-zae,h0,h1,h5,h6,-zae,hmk]<;>rfl) ?_
   rfl
  apply rS hC
  ·refine gO (by simp[hF,-zae,h0,h1,h5,h6,-zae,hmk]<;>rfl) ?_;rfl
  apply sQ;apply rS hC
  ·refine gO (by simp[hF,-zae,h0,h1,h5,h6,-zae,hmk]<;>rfl) ?_;rfl
  apply bK;refine Tri.loop ?_;refine zh8 hC p N H.length hzn x [] _ _ W 0 rfl (by simpa using hx) hW hB2 (by rw[List.getElem?_append_right (Nat.le_refl _),Nat.sub_self,hW,Nat.zero_add];rfl) (by simp[hw]) (by simp[h0]) (by simp[h1]) (by simp<;>rfl) (by simp<;>rfl) (by simp<;>rfl) ?exit2;case exit2=>
   intro t3 H3 hw h12 hz3 hl3 hk3;rw[nil_append]at hz3;have hcv:=hcv0 H3 hz3;refine zaO ?_;apply sN;apply rS hC
   ·iterate 3 refine gO (by simp[hF,-zae,h12,hcv,-zaW]<;>rfl) ?_
    rfl
   apply Tri.ret;refine⟨.s (zaQ x),⟨H3,rfl,by rw[hl3];simp,fun j hj=>by rw[hk3 j (by omega),List.getElem?_append_left hj]⟩,?_⟩;simp[f186]
theorem zkV {call:zad}(hC:call.Sound prog TT)(w16:IntKind.i64.wrap 16=16)(p N:Nat)(H:zaa)(hB:BsR H p N)(x:List UInt8)(hx:x.length<1100000)(hl256:zae TT 37 H (.ptr p 256)=some (.sl N 1 0 2 (some 2)))(hcnt:∀(c:UInt8)(K:zaa),call 188 [.s x,.s [c]] K=.val (.i .i64 (Lib.countByte x c)) K)(h16:(16:Int)≤x.length)(W:Nat)(hWW:(W:Int)=W)(e5:(x.length:Int)-(Lib.countByte x 95:Nat)=W)(e6:(false||decide (Lib.countByte x 69≠0)||decide (Lib.countByte x 95≠0))=true)(hmk:zbc TT 64 (.i .i64 W) (.i .i64 W) H=.val (.sl H.length 1 0 W (some W)) (H++[some (zeg [] W)]))(hW:W=0+(zaQ x).length)(hzn:H.length≠p∧H.length≠N∧H.length≠N+4∧H.length≠N+7)(hB2:BsR (H++[some (zeg [] W)]) p N)(hcv0:∀K:zaa,K[H.length]? = some (some (zeg (zaQ x) 0))→zaW TT 64 9 (.sl H.length 1 0 W (some W)) K=.val (.s (zaQ x)) K)   : zaH prog TT 186 [.ptr p 0,.s x] H (fun r=>∃B,r=.val (.s (zaQ x)) B∧H.length≤B.length∧∀j,j<H.length→B[j]? = H[j]?):=by
 refine⟨f186,_,rfl,rfl,by simp[f186],?_⟩;have h0:(Tm.init f186.ntmps [.ptr p 0,.s x]).get 0=.ptr p 0:=by rw[zag];rfl
 have h1:(Tm.init f186.ntmps [.ptr p 0,.s x]).get 1=.s x:=by rw[zag];rfl
 have hw:(Tm.init f186.ntmps [.ptr p 0,.s x]).wid=122:=rfl;generalize Tm.init f186.ntmps [.ptr p 0,.s x]=t at *;try simp only[Nd.enc_eq]at *
 have hF:=ai @h0 (ai @h1 (ai @hl256 (ai @h16 @w16)));apply rS hC
 ·refine gO (by simp[hF,-zae]<;>rfl) ?_;rfl
 apply rS hC
 ·iterate 3 refine gO (by simp[hF,-zae]<;>rfl) ?_
  rfl
 apply rS hC
 ·refine gO (by simp[hF,-zae]<;>rfl) ?_;rfl
 apply sQ;apply rS hC
 ·iterate 9 refine gO (by simp[hF,-zae]<;>rfl) ?_
  rfl
 refine cT (by simp[hF,-zae]<;>rfl) ?_;apply rS hC
 ·iterate 6 refine gO (by simp[hF,-zae]<;>rfl) ?_
  rfl
 apply bK;refine Tri.loop ?_;refine zh6 hC p N H hB.1 hB.2.1 x _ (x.length:Int) false hx (by omega) (by omega) hcnt (by simp[hw]) (by simp[h0]) (by simp[h1]) (by simp<;>rfl) (by simp<;>rfl) (by simp<;>rfl) (by simp<;>rfl) (by simp<;>rfl) ?exit;case exit=>
  intro t2 hw h0 h1 h5 h6;rw[e5]at h5;rw[e6]at h6;refine zaO ?_;apply sN;apply sQ;apply rS hC
  ·iterate 2 refine gO (by simp[hF,-zae,h0,h1,h5,h6,-zae,hmk]<;>rfl) ?_
   rfl
  refine cF (by simp[hF,-zae]<;>rfl) ?_;apply Tri.skip;apply sN;apply rS hC
  ·iterate 3 refine gO (by simp[hF,-zae,h0,h1,h5,h6,-zae,hmk]<;>rfl) ?_
   rfl
  apply rS hC
  ·refine gO (by simp[hF,-zae,h0,h1,h5,h6,-zae,hmk]<;>rfl) ?_;rfl
  apply sQ;apply rS hC
  ·refine gO (by simp[hF,-zae,h0,h1,h5,h6,-zae,hmk]<;>rfl) ?_;rfl
  apply bK;refine Tri.loop ?_;refine zh8 hC p N H.length hzn x [] _ _ W 0 rfl (by simpa using hx) hW hB2 (by rw[List.getElem?_append_right (Nat.le_refl _),Nat.sub_self,hW,Nat.zero_add];rfl) (by simp[hw]) (by simp[h0]) (by simp[h1]) (by simp<;>rfl) (by simp<;>rfl) (by simp<;>rfl) ?exit2;case exit2=>
   intro t3 H3 hw h12 hz3 hl3 hk3;rw[nil_append]at hz3;have hcv:=hcv0 H3 hz3;refine zaO ?_;apply sN;apply rS hC
   ·iterate 3 refine gO (by simp[hF,-zae,h12,hcv,-zaW]<;>rfl) ?_
    rfl
   apply Tri.ret;refine⟨.s (zaQ x),⟨H3,rfl,by rw[hl3];simp,fun j hj=>by rw[hk3 j (by omega),List.getElem?_append_left hj]⟩,?_⟩;simp[f186]
theorem zih:∀x:List UInt8,(zaQ x).length+x.count 95=x.length
 | []=>rfl
 |c::x=>by
  have ih:=zih x;by_cases h:c=95
  ·subst h;have e:zaQ (95::x)=zaQ x:=by simp[zaQ]
   rw[e,count_cons_self,length_cons];omega
  ·have e:(zaQ (c::x)).length=(zaQ x).length+1:=by simp[zaQ,h]
   rw[e,count_cons_of_ne (fun e=>h e),length_cons];omega
theorem znO:∀x:List UInt8,(decide (Lib.countByte x 69≠0)||decide (Lib.countByte x 95≠0))=x.any isX
 | []=>rfl
 |c::x=>by
  have ih:=znO x;unfold Lib.countByte at ih ⊢;rw[any_cons,←ih];by_cases h:c=95
  ·subst h;simp[isX]
  ·by_cases h':c=69
   ·subst h';simp[isX]
   ·rw[count_cons_of_ne (fun e=>h e),count_cons_of_ne (fun e=>h' e)];simp[isX,h,h']
theorem zpu:∀x:List UInt8,x.any isX=false→zaQ x=x
 | [],_=>rfl
 |c::x,h=>by
  rw[any_cons,Bool.or_eq_false_iff]at h;have ih:=zpu x h.2;have h1:c≠95∧c≠69:=by simpa[isX]using h.1
  have e:zaQ (c::x)=c::zaQ x:=by simp[zaQ,h1.1,h1.2]
  rw[e,ih]
theorem zjS:∀l:List UInt8,zcs (byV l)=some l
 | []=>rfl
 |c::l=>by
  have ih:=zjS l;show zcs (V.i .u8 c.toNat::byV l)=_;simp only[zcs,ih];simp
theorem zmx (v:V):∀n,zhP n [v]=List.replicate n v
 |0=>rfl
 |n+1=>by rw[zhP,zmx v n];rfl
theorem zvm (H:zaa)(W:Nat)(hW:W<2000000):zbc TT 64 (.i .i64 W) (.i .i64 W) H=.val (.sl H.length 1 0 W (some W)) (H++[some (zeg [] W)]):=by
 have e1:TT.und 64=some (.slice 5):=rfl;have e2:TT.size 5=some 1:=rfl;have e3:TT.zero 5=some (.i .u8 0):=rfl;have e4:TT.bytes 5=some 1:=rfl;have hcl:(V.i .u8 0).cells=[V.i .u8 0]:=rfl;simp only[zbc,e1,e2,e3,e4,hcl,za2];rw[if_pos ⟨rfl,by omega,by omega,by omega,by omega,by omega⟩,Int.toNat_natCast,zmx];rfl
theorem zu1 (l:List UInt8)(z W:Nat)(hW:W=l.length)(K:zaa)(h:K[z]? = some (some (zeg l 0))):zaW TT 64 9 (.sl z 1 0 W (some W)) K=.val (.s l) K:=by
 have e1:TT.und 64=some (.slice 5):=rfl;have e2:TT.und 9=some .string:=rfl;have e3:TT.und 5=some (.int .u8):=rfl;have hc:zar K z=some (zeg l 0):=by simp[zar,h,zeg]
 have hl:(byV l).length=l.length:=by simp[byV]
 have hcut:cut (zeg l 0).cells 0 W=some (byV l):=by
  unfold cut zeg;simp only[replicate_zero,append_nil];rw[if_pos (by omega),drop_zero,take_of_length_le (by omega)]
 simp only[zaW,e1,e2,e3,hc,hcut,zjS,if_true]
theorem zwc:∃g,zao prog TT 186 g∧∀(p N:Nat)(H:zaa)(x:List UInt8),BsR H p N→x.length<1100000→∃H',g [.ptr p 0,.s x] H=.val (.s (zaQ x)) H'∧H.length≤H'.length∧∀j,j<H.length→H'[j]? = H[j]?:=by
 have hC:=ws n0 zyK;have hcnt:∀(x:List UInt8)(c:UInt8)(K:zaa),(zad.none.with 188 zju) 188 [.s x,.s [c]] K=.val (.i .i64 (Lib.countByte x c)) K:=fun x c K=>by rw[zap];rfl
 generalize zad.none.with 188 zju=call at hC hcnt;obtain⟨g,k,s⟩:=zbZ.spec (P:=prog) (F:=186) zaf (D:=fun vs H=>∃(p N:Nat)(x:List UInt8),vs=[.ptr p 0,.s x]∧BsR H p N∧x.length<1100000)
  (R:=fun vs H r=>∃(p:Nat)(x:List UInt8),vs=[.ptr p 0,.s x]∧∃B,r=.val (.s (zaQ x)) B∧H.length≤B.length∧∀j,j<H.length→B[j]? = H[j]?) (by
  rintro vs H ⟨p,N,x,rfl,hB,hx⟩;refine(zaH.fact zaf (R:=fun r=>∃B,r=.val (.s (zaQ x)) B∧H.length≤B.length∧∀j,j<H.length→B[j]? = H[j]?) ?_).mono fun r hr=>⟨p,x,rfl,hr⟩;have hc1:zar H p=some (bsB N):=by
   unfold zar;rw[hB.1];rfl
  have hl256:zae TT 37 H (.ptr p 256)=some (.sl N 1 0 2 (some 2)):=by
   have h2:(bsB N).cells[256]? = some (.sl N 1 0 2 (some 2)):=by
    unfold bsB;simp only;rw[List.getElem?_append_right (by simp)];simp
   simp only[zae,hc1];have e1:zb3 (TT.und 37)=some false:=rfl;simp only[zby,e1,zcd,h2]
  have w16:IntKind.i64.wrap 16=16:=rfl;have hrc:=zih x;have hlp:p<H.length:=zaa.lt hB.1;have hlN:N<H.length:=zaa.lt hB.2.1;have hl4:N+4<H.length:=zaa.lt hB.2.2.1;have hl7:N+7<H.length:=zaa.lt hB.2.2.2;have hWl:(zaQ x).length<2000000:=by omega
  have hmk:=zvm H (zaQ x).length hWl;have hzn:H.length≠p∧H.length≠N∧H.length≠N+4∧H.length≠N+7:=⟨by omega,by omega,by omega,by omega⟩;have hB2:BsR (H++[some (zeg [] (zaQ x).length)]) p N:=⟨by rw[List.getElem?_append_left hlp];exact hB.1,by rw[List.getElem?_append_left hlN];exact hB.2.1,by rw[List.getElem?_append_left hl4];exact hB.2.2.1,by rw[List.getElem?_append_left hl7];exact hB.2.2.2⟩;have hcv0:∀K:zaa,K[H.length]? = some (some (zeg (zaQ x) 0))→zaW TT 64 9 (.sl H.length 1 0 (zaQ x).length (some (zaQ x).length)) K=.val (.s (zaQ x)) K:=fun K h=>zu1 (zaQ x) H.length _ rfl K h;have e5:(x.length:Int)-(x.count 95:Nat)=((zaQ x).length:Nat):=by omega
  have e5':(x.length:Int)-(Lib.countByte x 95:Nat)=((zaQ x).length:Nat):=e5;have hany:=znO x;cases ha:x.any isX with
  |false=>
   have hrep:=zpu x ha;have e6:(false||x.any isX)=false:=by rw[ha];rfl
   have e6':(false||decide (Lib.countByte x 69≠0)||decide (Lib.countByte x 95≠0))=false:=by rw[Bool.false_or,hany,ha]
   by_cases h16:(16:Int)≤x.length
   ·exact zkU hC w16 p N H hB x hx hl256 (hcnt x) h16 _ rfl e5' e6' hmk hrep
   ·exact zkW hC w16 p N H hB x hx hl256 (hcnt x) h16 _ rfl e5 e6 hmk hrep
  |true=>
   have e6:(false||x.any isX)=true:=by rw[ha];rfl
   have e6':(false||decide (Lib.countByte x 69≠0)||decide (Lib.countByte x 95≠0))=true:=by rw[Bool.false_or,hany,ha]
   by_cases h16:(16:Int)≤x.length
   ·exact zkV hC w16 p N H hB x hx hl256 (hcnt x) h16 _ rfl e5' e6' hmk (by omega) hzn hB2 hcv0
   ·exact zkX hC w16 p N H hB x hx hl256 (hcnt x) h16 _ rfl e5 e6 hmk (by omega) hzn hB2 hcv0)
 refine⟨g,k,fun p N H x h1 h2=>?_⟩;obtain⟨r,⟨p',x',he,B,rfl,h3,h4⟩,hr⟩:=s _ H ⟨p,N,x,rfl,h1,h2⟩;simp only[List.cons.injEq,V.ptr.injEq,V.s.injEq,and_true]at he;obtain⟨rfl,rfl⟩:=he;exact⟨B,hr,h3,h4⟩
theorem zv2:∃g,zao prog TT 79 g∧∀(m q:Nat)(H:zaa)(x:List UInt8),x.length<1100000→m≠q→H[m]? = some (some onB)→H[q]? = some (some (rpB 0 0 .nili (.sl m 1 0 4 none)))→∃B,g [.ptr q 0,.s x] H=.val (.s (zaQ x)) B∧H.length≤B.length∧∀j,j<H.length→j≠q→B[j]? = H[j]?:=by
 obtain⟨g1,k1,s1⟩:=zv7;obtain⟨g2,k2,s2⟩:=zwc;have hC:=ws (ws n0 k1) k2;have c1:∀(m q:Nat)(H:zaa),m≠q→H[m]? = some (some onB)→H[q]? = some (some (rpB 0 0 .nili (.sl m 1 0 4 none)))→∃B,((zad.none.with 98 g1).with 186 g2) 98 [.ptr q 0,.bfn 99 [.ptr q 0]] H=.val .un B∧DoR H q B:=fun m q H h1 h2 h3=>by
  rw[zac _ _ _ _ rfl,zap];exact s1 m q H h1 h2 h3
 have c2:BsH ((zad.none.with 98 g1).with 186 g2):=fun p N H x h1 h2=>by
  rw[zap];exact s2 p N H x h1 h2
 generalize(zad.none.with 98 g1).with 186 g2=call at hC c1 c2;obtain⟨g,k,s⟩:=zbZ.spec (P:=prog) (F:=79) zaf (D:=fun vs H=>∃(m q:Nat)(x:List UInt8),vs=[.ptr q 0,.s x]∧x.length<1100000∧m≠q∧H[m]? = some (some onB)∧H[q]? = some (some (rpB 0 0 .nili (.sl m 1 0 4 none))))
  (R:=fun vs H r=>∃(q:Nat)(x:List UInt8),vs=[.ptr q 0,.s x]∧∃B,r=.val (.s (zaQ x)) B∧H.length≤B.length∧∀j,j<H.length→j≠q→B[j]? = H[j]?) (by
  rintro vs H ⟨m,q,x,rfl,hx,hne,hm,hq⟩;exact(zaH.fact zaf (zn0 hC m q H x hx hne hm hq (c1 m q H hne hm hq) c2)).mono fun r hr=>⟨q,x,rfl,hr⟩)
 refine⟨g,k,fun m q H x h1 h2 h3 h4=>?_⟩;obtain⟨r,⟨q',x',he,B,rfl,h5,h6⟩,hr⟩:=s _ H ⟨m,q,x,rfl,h1,h2,h3,h4⟩;simp only[List.cons.injEq,V.ptr.injEq,V.s.injEq,and_true]at he;obtain⟨rfl,rfl⟩:=he;exact⟨B,hr,h5,h6⟩
theorem ztc (s:List UInt8)(at_:Int)(hs:s.length<1100000):zuw s at_:=by
 intro m t hd hm hw t2 t3 t6;obtain⟨g1,k1,s1⟩:=zv1;obtain⟨g2,k2,s2⟩:=zv2;have hC:=ws (ws n0 k1) k2;have hb0:∃b0,(zhM s at_)[0]? = some (some b0)∧zae TT 9 (zhM s at_) (.ptr 0 0)=some (.s s):=⟨_,rfl,by rfl⟩;have h1:=s1 3 (zhM s at_++[some wdB]) (by rfl);obtain⟨B,c1,b1,b2,b3,b4⟩:=h1;have h2:=s2 4 5 B (s.take m) (by rw[length_take];omega) (by omega) b3 b4;obtain⟨B2,c2,d1,d2⟩:=h2;have c1':((zad.none.with 78 g1).with 79 g2) 78 [.sl 3 1 0 4 (some 4)] [some ⟨9,[.s s],.all⟩,some ⟨3,[.i .i64 at_],.all⟩,none,some wdB]=.val (.ptr 5 0) B:=by
  rw[zac _ _ _ _ rfl,zap];exact c1
 have c2':((zad.none.with 78 g1).with 79 g2) 79 [.ptr 5 0,.s (s.take m)] B=.val (.s (zaQ (s.take m))) B2:=by
  rw[zap];exact c2
 generalize(zad.none.with 78 g1).with 79 g2=call at hC c1' c2';have x1:TT.ext 78=none:=rfl;have x2:TT.ext 79=none:=rfl;have hbs:zaY TT 37 4 [(0,.s [95]),(1,.s []),(2,.s [69]),(3,.s [101])] (zhM s at_)=.val (.sl 3 1 0 4 (some 4)) (zhM s at_++[some wdB]):=by rfl
 have A1:∀K:zaa,K[0]? = some (some ⟨9,[.s s],.all⟩)→zae TT 9 K (.ptr 0 0)=some (.s s):=fun K h=>by simp[zae,zar,h,zby,zb3,zcd]
 have hB0:B[0]? = some (some ⟨9,[.s s],.all⟩):=by rw[b2 0 (by show 0<4;omega)];rfl
 have hB20:B2[0]? = some (some ⟨9,[.s s],.all⟩):=by rw[d2 0 (by rw[b1];show 0<4+2;omega) (by decide)];exact hB0
 have hle:(m:Int)≤s.length:=by omega
 show Tri prog TT (.region _ _ _) t (zhM s at_) _;refine Tri.regN (t':=?t1) (H':=?H1) zaf hC ?e1 ?q1;case e1=>
  refine zbG (t':=?t1) (H':=?H1) (ks:=[.e,.e,.a,.q,.q,.e,.q,.q,.q,.q]) (fun K=>K[0]? = some (some ⟨9,[.s s],.all⟩)) (by kernel_rfl) ?A1 ?_ ?r1;case A1=>rfl
  refine DR.eff rfl rfl (by simp[hbs,zca]<;>rfl) (by rfl) (by simp[hw]) (by rfl) ?_;refine DR.eff rfl rfl (by simp[c1',x1]<;>rfl) (by rfl) (by simp[hw]) hB0 ?_;refine DR.any rfl (by simp[t2,A1 B hB0,-zae]<;>rfl) (by rfl) (by simp[hw]) (by intro K hK;simp[t2,A1 K hK,-zae]<;>rfl) ?_;refine DR.blind rfl rfl (by simp[t6]<;>rfl) (by rfl) (by simp[hw]) ?_;refine DR.blind rfl rfl (by simp[hm]<;>rfl) (by rfl) (by simp[hw]) ?_;refine DR.eff rfl rfl (by simp[c2',x2]<;>rfl) (by rfl) (by simp[hw]) hB20 ?_;refine DR.blind rfl rfl (by simp[t6]<;>rfl) (by rfl) (by simp[hw]) ?_;iterate 3 refine DR.blind rfl rfl (by simp<;>rfl) (by rfl) (by simp[hw]) ?_
  exact DR.nil;case r1=>exact rfl
 show Tri prog TT .ret _ _ _;apply Tri.ret;show zaV TT f51 _ (.ret _ _);refine⟨.tup [.i .i64 4,.s (zaQ (s.take m)),.i .i64 m],?_,?_⟩
 ·rw [hd];first
   |exact⟨B2,rfl⟩
   |rfl
 ·simp[f51]
theorem zfV:∃g,zao prog TT 11 g∧∀(s:List UInt8)(H:zaa),g [.s s] H=.val (zqy (zf0 s)) H:=by
 obtain⟨g,k,h⟩:=zkG (fun _=>True) fun s at_ _ hs=>ztc s at_ hs;exact⟨g,k,fun s H=>h s (fun _=>zkB s _ 0 true) H⟩
#print axioms zfV
/-! The program's numbers are those of the reference. -/
theorem zix (c:Int){base:Int}(hb:base≤16):zbz c<base↔0≤zdP c base:=by
 unfold zbz zdP zk3;repeat' split
 all_goals omega
theorem zxS {c base:Int}(hb:base≤16)(h:zbz c<base):zdP c base=zbz c:=by
 have h2:=(zix c hb).1 h;unfold zbz zdP zk3 at *;repeat' split
 all_goals (repeat' split at h)
 all_goals omega
def dgb (base:Int)(c:UInt8):Bool:=decide (zbz c.toNat<base)
theorem zwM:zbz ((95:UInt8).toNat:Int)=99:=by decide
theorem zlB {base:Int} (hb:0≤base∧base≤16):∀(L:List UInt8) (n:Nat) (out:List UInt8) (pd:Bool),(0<n↔out≠[])→(pd=false→n=0∨∃d r,L=d::r∧zbz d.toNat<base) →
    (∀m,zbD base L n=some m→zdD base L out pd=(m-n,out++(L.take (m-n)).filter (dgb base))∧(∀c∈L.take (m-n),zbz c.toNat<base∨c=95)∧n≤m∧(0<m↔out++(L.take (m-n)).filter (dgb base)≠[])) ∧
    (zbD base L n=none→(zdD base L out pd).2≠[]∧L[(zdD base L out pd).1]? = some 95)
  | [],n,out,pd,h1,h2=>by
    refine⟨fun m hm=>?_,fun h=>by simp[zbD]at h⟩
    simp only[zbD,Option.some.injEq]at hm
    subst hm
    simp[zdD,h1]
  | b :: L, n, out,pd,h1,h2=>by
    by_cases hv:zbz b.toNat<base
    · have hd:=(zix _ hb.2).1 hv
      have ih:=zlB hb L (n+1) (out++[b]) true (by simp) (by simp)
      simp only[zbD,zdD,if_pos hv,if_pos hd]
      have hdb:dgb base b=true:=by simp[dgb,hv]
      refine⟨fun m hm=>?_,fun h=>?_⟩
      · obtain⟨e,a1,a2,a3⟩:=ih.1 m hm
        have e1:m-n=(m-(n+1))+1:=by omega
        rw[e,e1,take_succ_cons,filter_cons,if_pos hdb]
        refine⟨by simp,fun c hc=>?_,by omega,by simp;omega⟩
        rcases mem_cons.1 hc with rfl|hc
        · exact .inl hv
        · exact a1 c hc
      · obtain⟨a1,a2⟩:=ih.2 h
        exact⟨a1,by rw[List.getElem?_cons_succ];exact a2⟩
    · have hd : ¬0≤zdP b.toNat base:=fun h=>hv ((zix _ hb.2).2 h)
      by_cases hu:b.toNat≠95∨n=0
      · have hno:¬(b=95∧out≠[]∧0≤zdP (hdR L) base∧pd=true):=by
          rintro⟨rfl,ho,_⟩
          rcases hu with hu|hu
          · exact hu rfl
          · have:=h1.2 ho;omega
        simp only[zbD,zdD,if_neg hv,if_neg hd,if_pos hu,if_neg hno]
        refine⟨fun m hm=>?_,fun h=>by cases h⟩
        have hm:=Option.some.inj hm
        subst hm
        simp[h1]
      · have hb95:b=95:=UInt8.toNat.inj (show b.toNat=95 by omega)
        have hn:n≠0:=by omega
        have hpd:pd=true:=by
          cases pd with
          |true=>rfl
          | false=>
            rcases h2 rfl with h|⟨d,r,e,hd⟩
            · exact absurd h hn
            · exact absurd hd (by rw[←(List.cons.inj e).1];exact hv)
        subst hb95
        have ho:out≠[]:=h1.1 (by omega)
        cases L with
        | nil=>
          have hno:¬((95:UInt8)=95∧out≠[]∧0≤zdP (hdR []) base∧pd=true):=by
            rintro⟨_,_,h,_⟩
            have:hdR []=0:=rfl
            rw[this]at h
            unfold zdP at h
            rw[show zk3 0= -1 from by decide,if_neg (by omega)]at h
            omega
          have e0:zbD base [95] n=none:=by rw[zbD,if_neg hv,if_neg hu]
          have e1:zdD base [95] out pd=(0,out):=by rw[zdD,if_neg hd,if_neg hno]
          rw[e0,e1]
          exact⟨fun m hm=>(by cases hm),fun _=>⟨ho,rfl⟩⟩
        | cons d r=>
          by_cases hv2:zbz d.toNat<base
          · have hy:((95:UInt8)=95∧out≠[]∧0≤zdP (hdR (d::r)) base∧pd=true):=⟨rfl,ho,(zix _ hb.2).1 hv2,hpd⟩
            have ih:=zlB hb (d::r) (n+1) out false (by simp[ho]) (fun _=>.inr ⟨d,r,rfl,hv2⟩)
            have e0:zbD base (95::d::r) n=zbD base (d::r) (n+1):=by
              rw[zbD,if_neg hv,if_neg hu]
              simp only[if_pos hv2]
            have e1:zdD base (95::d::r) out pd=((zdD base (d::r) out false).1+1,(zdD base (d::r) out false).2):=by
              rw[zdD,if_neg hd,if_pos hy]
            rw[e0,e1]
            have hdb:¬dgb base 95=true:=by unfold dgb;rw[decide_eq_true_eq];exact hv
            refine⟨fun m hm=>?_,fun h=>?_⟩
            · obtain⟨e,a1,a2,a3⟩:=ih.1 m hm
              have e1:m-n=(m-(n+1))+1:=by omega
              rw[e,e1,take_succ_cons,filter_cons,if_neg hdb]
              refine⟨rfl,fun c hc=>?_,by omega,a3⟩
              rcases mem_cons.1 hc with rfl|hc
              · exact .inr rfl
              · exact a1 c hc
            · obtain⟨a1,a2⟩:=ih.2 h
              exact⟨a1,by rw[List.getElem?_cons_succ];exact a2⟩
          · have hno:¬((95:UInt8)=95∧out≠[]∧0≤zdP (hdR (d::r)) base∧pd=true):=fun h=>hv2 ((zix _ hb.2).2 h.2.2.1)
            have e0:zbD base (95::d::r) n=none:=by
              rw[zbD,if_neg hv,if_neg hu]
              simp only[if_neg hv2]
            have e1:zdD base (95::d::r) out pd=(0,out):=by
              rw[zdD,if_neg hd,if_neg hno]
            rw[e0,e1]
            exact⟨fun m hm=>(by cases hm),fun _=>⟨ho,rfl⟩⟩
theorem zyM {base:Int}(hb:0≤base∧base≤16){L:List UInt8}{m:Nat}(h:zbD base L 0=some m):zdD base L [] false=(m,(L.take m).filter (dgb base))∧(∀c∈L.take m,zbz c.toNat<base∨c=95)∧(0<m↔(L.take m).filter (dgb base)≠[]):=by
 obtain⟨a,b,c,d⟩:=(zlB hb L 0 [] false (by simp) (by simp)).1 m h;exact⟨a,b,d⟩
theorem zlR {base:Nat}(hb:base≤16)(hb0:0<base):∀(X:List UInt8)(a:Nat),a<340282366920938463463374607431768211456→zdw base X a=if zni base (X.filter (dgb base)) a<340282366920938463463374607431768211456 then some (zni base (X.filter (dgb base)) a)else none
 | [],a,h=>by simp only[zdw,filter_nil,zni,if_pos h]
 |c::X,a,h=>by
  by_cases hv:zbz c.toNat<base
  ·have hdb:dgb base c=true:=by simp[dgb,hv]
   have e:(zdP (c.toNat:Int) (base:Int)).toNat=(zbz (c.toNat:Int)).toNat:=by rw[zxS (by omega) hv]
   simp only[zdw,if_pos hv,filter_cons,if_pos hdb,zni,e];by_cases hs:a*base+(zbz (c.toNat:Int)).toNat<340282366920938463463374607431768211456
   ·rw[if_pos hs,zlR hb hb0 X _ hs]
   ·have:=zo9 base hb0 (X.filter (dgb base)) (a*base+(zbz (c.toNat:Int)).toNat);rw[if_neg hs,if_neg (by omega)]
  ·have hdb:¬dgb base c=true:=by unfold dgb;rw[decide_eq_true_eq];exact hv
   simp only[zdw,if_neg hv,filter_cons,if_neg hdb];exact zlR hb hb0 X a h
theorem zkM:∀(l:List UInt8)(c:UInt8),zdv (l++[c])=zdv l*10+(c.toNat-48)
 | [],c=>by simp[zdv]
 |b::l,c=>by
  have ih:=zkM l c;simp only[cons_append,zdv,length_append,length_cons,length_nil,Nat.zero_add,Nat.pow_succ];rw[ih,←Nat.mul_assoc,Nat.add_mul];omega
theorem zyp (n:Nat):zcL (UInt8.ofNat (48+n%10))∧(UInt8.ofNat (48+n%10)).toNat=48+n%10:=by
 have h:∀k:Fin 10,zcL (UInt8.ofNat (48+k.val))∧(UInt8.ofNat (48+k.val)).toNat=48+k.val:=by unfold zcL;decide
 exact h ⟨n%10,Nat.mod_lt _ (by omega)⟩
theorem zr8:∀(k n:Nat),n<k→(∀b∈dgL n,zcL b)∧zdv (dgL n).reverse=n∧(n≠0→dgL n≠[]∧(dgL n).reverse.head?≠some 48)
 |0,n,h=>absurd h (Nat.not_lt_zero _)
 |k+1,n,h=>by
  by_cases h0:n=0
  ·subst h0;rw[zde];exact⟨by simp,rfl,fun h=>absurd rfl h⟩
  ·obtain⟨a,b,c⟩:=zr8 k (n/10) (by omega);obtain⟨d1,d2⟩:=zyp n;rw[zd1 n h0,reverse_cons,zkM,b,d2];refine⟨fun x hx=>?_,by omega,fun _=>⟨by simp,?_⟩⟩
   ·rcases mem_cons.1 hx with rfl|hx
    ·exact d1
    ·exact a x hx
   ·by_cases h1:n/10=0
    ·rw[h1,zde];simp only[reverse_nil,nil_append,List.head?_cons,ne_eq,Option.some.injEq];intro e;rw[e]at d2;have:(48:UInt8).toNat=48:=rfl;omega
    ·obtain ⟨c1,c2⟩:=c h1;obtain⟨x,y,e⟩:∃x y,(dgL (n/10)).reverse=x::y:=by
      cases hr:(dgL (n/10)).reverse with
      |nil=>exact absurd (reverse_eq_nil_iff.1 hr) c1
      |cons x y=>exact⟨x,y,rfl⟩
     rw[e]at c2 ⊢;exact c2
theorem zfl (n:Nat):ziz (zfk n)∧zdv (zfk n)=n:=by
 obtain⟨a,b,c⟩:=zr8 (n+1) n (by omega);unfold zfk zqT;by_cases h0:n=0
 ·subst h0;rw[zde,if_pos rfl];exact⟨⟨by unfold zcL;decide,by decide,by decide⟩,rfl⟩
 ·obtain⟨c1,c2⟩:=c h0;rw[if_neg c1];refine⟨⟨fun x hx=>a x (mem_reverse.1 hx),?_,fun _=>c2⟩,b⟩;rw[length_reverse];exact length_pos_iff.2 c1
theorem zlZ (s:List UInt8)(i j:Nat):atR s (i+j)=atR (s.drop i) j:=by unfold atR;rw[List.getElem?_drop]
theorem zsO (s:List UInt8)(i j:Nat)(t:List UInt8)(h:i≤s.length):ziH s (i+j) t=ziH (s.drop i) j t:=by
 unfold ziH;rw[length_drop,take_drop,drop_drop];have e1:decide (i+j+t.length≤s.length)=decide (j+t.length≤s.length-i):=by
  rw[decide_eq_decide];omega
 rw[e1,Nat.add_assoc]
theorem zqM (s:List UInt8)(i:Nat)(t:List UInt8)(h:i≤s.length):ziH s i t=za5 (s.drop i) t:=by
 rw[zpm,←zsO s i 0 t h,Nat.add_zero]
theorem zgw (s:List UInt8)(n:Nat):atS s (n:Nat)=atR s n:=rfl
theorem znQ (j:Nat):atR [] j=0:=by simp[atR]
theorem zcg (c:UInt8)(r:List UInt8):atR (c::r) 0=c.toNat:=by simp[atR]
theorem ziE (c:UInt8)(r:List UInt8)(j:Nat):atR (c::r) (j+1)=atR r j:=by simp[atR]
theorem zqI {s:List UInt8}{i:Nat}(h:s.length≤i):atR s i=0:=by simp[atR,List.getElem?_eq_none h]
theorem zs4 {L:List UInt8}{n:Nat}(h:n≤L.length):zj0 L n = !(zeE (atR L n)):=by
 unfold zj0;rw[zgw];by_cases e:n=L.length
 ·rw[zqI (by omega)];simp[e];decide
 ·simp[e]
theorem ze5 (a b:List UInt8):zaQ (a++b)=zaQ a++zaQ b:=by simp[zaQ]
theorem zmv:∀W:List UInt8,(∀c∈W,zbz c.toNat<10∨c=95)→zaQ W=W.filter (dgb 10)
 | [],_=>rfl
 |c::W,h=>by
  have ih:=zmv W fun x hx=>h x (by simp[hx]);unfold zaQ at ih ⊢;rcases h c (by simp)with hc|rfl
  ·have h1:c≠95:=by rintro rfl;rw[zwM]at hc;omega
   have h2:c≠69:=by
    rintro rfl;have:zbz ((69:UInt8).toNat:Int)=14:=by decide
    rw[this]at hc;omega
   have h3:dgb 10 c=true:=by simp[dgb,hc]
   rw[filter_cons,if_pos (by simp[h1]),map_cons,if_neg h2,ih,filter_cons,if_pos h3]
  ·have h3:¬dgb 10 95=true:=by unfold dgb;rw[decide_eq_true_eq,zwM];omega
   rw[filter_cons,if_neg (by simp),ih,filter_cons,if_neg h3]
theorem zjY (c:Int):0≤zdP c 10↔48≤c∧c≤57:=by
 unfold zdP zk3;repeat' split
 all_goals omega
theorem zsf (L:List UInt8)(n:Nat):(((atR L n==46)&&decide (0≤zdP (atR L (n+1)) 10))=true)↔(n+1<L.length∧atS L n=46∧(decide (48≤atS L (n+1:Nat))&&decide (atS L (n+1:Nat)≤57))=true):=by
 rw[zgw,zgw];simp only[Bool.and_eq_true,beq_iff_eq,decide_eq_true_eq,zjY];constructor
 ·rintro⟨h1,h2,h3⟩;exact⟨zuU (by omega),h1,h2,h3⟩
 ·rintro⟨_,h1,h2,h3⟩;exact⟨h1,h2,h3⟩
/-! Escapes, strings and characters of the program are those of the reference. -/
end Go.Ev
