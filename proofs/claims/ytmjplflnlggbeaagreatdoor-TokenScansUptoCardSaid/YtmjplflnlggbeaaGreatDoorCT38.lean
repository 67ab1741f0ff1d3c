/- A number at a place: the walk. A number at a place. Walks over a comment of a line. Walks over blanks and comments. Blanks and comments at a place. A string of the second kind. Walks over a literal with marks. Walks over an escape. Escapes, literals and names of the reference. The decimal digits of a number, as an answer for the evaluator. Walks over the symbols. -/
import Derived.Test.YtmjplflnlggbeaaGreatDoorCT20
import Derived.Test.YtmjplflnlggbeaaGreatDoorCWE
import Derived.Shelf.LaysM
import Derived.Shelf.Strconv.Itoa3
namespace Go.Ev
open Go Go.Proofs
set_option linter.unusedSimpArgs false
set_option linter.unusedVariables false
set_option linter.unnecessarySimpa false
open Tryz List
set_option maxRecDepth 100000
def zeQ (k:Int)(t:List UInt8):V:=.agg [.i .i64 k,.s t,.i .i64 0,.b false]
def zkM:V:=.tup [zeQ 0 [],.i .i64 0,.i .i64 33]
def okV (k:Int)(t:List UInt8)(e:Nat):V:=.tup [zeQ k t,.i .i64 e,.i .i64 0]
def zbw (s d:List UInt8)(base e:Nat)(text:List UInt8)(k:Int)(v:V):Prop:=
 (((d==[])||zcy (atR s e))=true∧v=zkM)∨(((d==[])||zcy (atR s e))=false∧((k=4∧v=okV 4 text e)∨(k=3∧((∃o,zbR o∧zaX o=zgj base d 0∧zgj base d 0≤zaX zfz∧v=okV 3 o e)∨(zaX zfz<zgj base d 0∧v=zkM)))))
theorem zqF {call:zad}(hC:call.Sound prog TT){t:Tm}{Q:Out→Prop}(hw:t.wid=136){s d text:List UInt8}{e base:Nat}{k:Int}(h0:t.get 0=.s s)(h4:t.get 4=.ptr 0 0)(h7:t.get 7=.i .i64 (base:Int))(h9:t.get 9=.i .i64 e)(h10:t.get 10=.s d)(h11:t.get 11=.s text)(h12:t.get 12=.i .i64 k)
 (ha:∀H,call 64 [.s s,.i .i64 e] H=.val (.i .u8 (atR s e)) H)(hwd:∀H,call 63 [.i .u8 (atR s e)] H=.val (.b (zcy (atR s e))) H)(hk:k=3∨k=4)(hdec:∃r,ztc d base r∧∀H,call 84 [.s d,.i .i64 base] H=.val r H)
 (hV:∀(t':Tm)(k2:Int)(t2:List UInt8)(e2 c2:Int),t'.get 4=.ptr 0 0→t'.get 5=.i .i64 e2→t'.get 6=.i .i64 c2→zbw s d base e text k (.tup [zeQ k2 t2,.i .i64 e2,.i .i64 c2])→Q (.ret t' [some ⟨44,[.i .i64 k2,.s t2,.i .i64 0,.b false],.all⟩])):Tri prog TT (sub [true,true,true,true,true,true,true,true,true] (zae f58)) t [some ⟨44,[.i .i64 0,.s [],.i .i64 0,.b false],.all⟩] Q:=by
 have hE:((d==[])||zcy (atR s e))=true→∀t':Tm,t'.get 4=.ptr 0 0→t'.get 5=.i .i64 0→t'.get 6=.i .i64 33→Q (.ret t' [some ⟨44,[.i .i64 0,.s [],.i .i64 0,.b false],.all⟩]):=fun h t' a b c=>hV t' 0 [] 0 33 a b c (.inl ⟨h,rfl⟩);rcases hk with rfl|rfl
 ·obtain⟨r,⟨o,o1,o2,o3,rfl⟩|⟨o1,rfl⟩,hr⟩:=hdec
  ·exact zuT (k:=0) hC hw h0 h4 h7 h9 h10 h11 h12 ha hwd hr (fun h t' a b c=>hV t' 3 o e 0 a b c (.inr ⟨h,.inr ⟨rfl,.inl ⟨o,o1,o2,o3,rfl⟩⟩⟩)) hE
  ·exact zuU (k:=0) hC hw h0 h4 h7 h9 h10 h11 h12 ha hwd hr (fun h t' a b c=>hV t' 0 [] 0 33 a b c (.inr ⟨h,.inr ⟨rfl,.inr ⟨o1,rfl⟩⟩⟩)) hE
 ·exact zuS (k:=0) hC hw h0 h4 h7 h9 h10 h11 h12 ha hwd (fun h t' a b c=>hV t' 4 text e 0 a b c (.inr ⟨h,.inl ⟨rfl,rfl⟩⟩)) hE
theorem zuq {s d:List UInt8}{e e':Nat}{t':List UInt8}{k':Int}(h:zcF s e d=some (e',t',k')):k'=3∨k'=4:=by
 unfold zcF ze4 at h;split at h
 ·split at h
  ·cases h
  ·cases h;exact .inr rfl
 ·cases h;unfold zdu;split
  ·exact .inr rfl
  ·exact .inl rfl
def zn7 (s:List UInt8)(i:Nat)(v:V):Prop:=
 if zdh s i [48,120]=true then zbw s (zaC 16 (s.drop (i+2)) [] false).2 16 (i+2+(zaC 16 (s.drop (i+2)) [] false).1) (zaC 16 (s.drop (i+2)) [] false).2 3 v
 else if zdh s i [48,98]=true then zbw s (zaC 2 (s.drop (i+2)) [] false).2 2 (i+2+(zaC 2 (s.drop (i+2)) [] false).1) (zaC 2 (s.drop (i+2)) [] false).2 3 v
 else(zcF s (i+(zaC 10 (s.drop i) [] false).1) (zaC 10 (s.drop i) [] false).2=none∧v=zkM)∨∃e' t' k',zcF s (i+(zaC 10 (s.drop i) [] false).1) (zaC 10 (s.drop i) [] false).2=some (e',t',k')∧zbw s (zaC 10 (s.drop i) [] false).2 10 e' t' k' v
theorem znd {call:zad}(hC:call.Sound prog TT)(s:List UInt8)(i:Nat)(hsl:s.length<100000000)(hil:i+2≤s.length)(ha:∀(i:Nat) H,call 64 [.s s,.i .i64 i] H=.val (.i .u8 (atR s i)) H)(hwd:∀(i:Nat) H,call 63 [.i .u8 (atR s i)] H=.val (.b (zcy (atR s i))) H)(hx:∀H,call 56 [.s s,.i .i64 i,.s [48,120]] H=.val (.b true) H)(hb:∀H,call 56 [.s s,.i .i64 i,.s [48,98]] H=.val (.b false) H)
 (hdg:∀H,call 83 [.s s,.i .i64 ((i:Int)+2),.i .i64 16] H=.val (.tup [.i .i64 ((i+2+(zaC 16 (s.drop (i+2)) [] false).1:Nat):Int),.s (zaC 16 (s.drop (i+2)) [] false).2]) H)(hdec:∃r,ztc (zaC 16 (s.drop (i+2)) [] false).2 16 r∧∀H,call 84 [.s (zaC 16 (s.drop (i+2)) [] false).2,.i .i64 (16:Nat)] H=.val r H)(hwi:IntKind.i64.wrap ((i:Int)+2)=(i:Int)+2)  : zaI prog TT 58 [.s s,.i .i64 i] (fun r=>∃v,r=.val v∧zbw s (zaC 16 (s.drop (i+2)) [] false).2 16 (i+2+(zaC 16 (s.drop (i+2)) [] false).1) (zaC 16 (s.drop (i+2)) [] false).2 3 v):=by
 refine en f58 rfl rfl (by simp[f58]) 136 rfl fun t hw hg=>?_;have h0:=hg 0 _ rfl;have h1:=hg 1 _ rfl;clear hg;try simp only[Nd.enc_eq]at *
 have hF:=ai @h0 (ai @h1 (ai @hx (ai @hb (ai @hdg @hwi))));apply rS hC
 ·iterate 3 refine oA ?_
  rfl
 apply rS hC
 ·refine oA ?_;rfl
 apply rS hC
 ·iterate 2 refine oA ?_
  rfl
 apply sQ;apply rS hC
 ·iterate 3 refine oA ?_
  rfl
 refine cT (by simp[hF]<;>rfl) ?_;apply rS hC
 ·refine oA ?_;rfl
 apply rN hC
 ·iterate 3 refine oA ?_
  rfl
 apply sN;apply sQ;apply rS hC
 ·iterate 3 refine oA ?_
  rfl
 refine cF (by simp[hF]<;>rfl) ?_;apply Tri.skip;apply sN;apply rS hC
 ·iterate 9 refine oA ?_
  rfl
 apply rS hC
 ·iterate 2 refine oA ?_
  rfl
 apply rS hC
 ·refine oA ?_;rfl
 apply sQ;apply rS hC
 ·iterate 2 refine oA ?_
  rfl
 refine cF (by simp[hF]<;>rfl) ?_;apply Tri.skip;apply sN;refine zqF hC (by simp[hw]) (s:=s) (d:=(zaC 16 (s.drop (i+2)) [] false).2) (e:=i+2+(zaC 16 (s.drop (i+2)) [] false).1) (base:=16) (text:=(zaC 16 (s.drop (i+2)) [] false).2) (k:=3) (by simp[hF]) (by simp[hF]) (by simp[hF]) (by simp[hF]) (by simp[hF]) (by simp[hF]) (by simp[hF]) (ha _) (hwd _) (.inl rfl) hdec ?cr32_15;case cr32_15=>
  intro t5 k2 t2 e2 c2 q4 q5 q6 hne0;have hne:∃v,(Res.val (.tup [zeQ k2 t2,.i .i64 e2,.i .i64 c2])=.val v)∧zbw s (zaC 16 (s.drop (i+2)) [] false).2 16 (i+2+(zaC 16 (s.drop (i+2)) [] false).1) (zaC 16 (s.drop (i+2)) [] false).2 3 v:=⟨_,rfl,hne0⟩;refine zbo (by simp[f58,q4,q5,q6]<;>rfl) (by rfl) ?_;exact hne
theorem znb {call:zad}(hC:call.Sound prog TT)(s:List UInt8)(i:Nat)(hsl:s.length<100000000)(hil:i+2≤s.length)(ha:∀(i:Nat) H,call 64 [.s s,.i .i64 i] H=.val (.i .u8 (atR s i)) H)(hwd:∀(i:Nat) H,call 63 [.i .u8 (atR s i)] H=.val (.b (zcy (atR s i))) H)(hx:∀H,call 56 [.s s,.i .i64 i,.s [48,120]] H=.val (.b false) H)(hb:∀H,call 56 [.s s,.i .i64 i,.s [48,98]] H=.val (.b true) H)
 (hdg:∀H,call 83 [.s s,.i .i64 ((i:Int)+2),.i .i64 2] H=.val (.tup [.i .i64 ((i+2+(zaC 2 (s.drop (i+2)) [] false).1:Nat):Int),.s (zaC 2 (s.drop (i+2)) [] false).2]) H)(hdec:∃r,ztc (zaC 2 (s.drop (i+2)) [] false).2 2 r∧∀H,call 84 [.s (zaC 2 (s.drop (i+2)) [] false).2,.i .i64 (2:Nat)] H=.val r H)(hwi:IntKind.i64.wrap ((i:Int)+2)=(i:Int)+2)  : zaI prog TT 58 [.s s,.i .i64 i] (fun r=>∃v,r=.val v∧zbw s (zaC 2 (s.drop (i+2)) [] false).2 2 (i+2+(zaC 2 (s.drop (i+2)) [] false).1) (zaC 2 (s.drop (i+2)) [] false).2 3 v):=by
 refine en f58 rfl rfl (by simp[f58]) 136 rfl fun t hw hg=>?_;have h0:=hg 0 _ rfl;have h1:=hg 1 _ rfl;clear hg;try simp only[Nd.enc_eq]at *
 have hF:=ai @h0 (ai @h1 (ai @hx (ai @hb (ai @hdg @hwi))));apply rS hC
 ·iterate 3 refine oA ?_
  rfl
 apply rS hC
 ·refine oA ?_;rfl
 apply rS hC
 ·iterate 2 refine oA ?_
  rfl
 apply sQ;apply rS hC
 ·iterate 3 refine oA ?_
  rfl
 refine cF (by simp[hF]<;>rfl) ?_;apply Tri.skip;apply sN;apply sQ;apply rS hC
 ·iterate 3 refine oA ?_
  rfl
 refine cT (by simp[hF]<;>rfl) ?_;apply rS hC
 ·refine oA ?_;rfl
 apply rN hC
 ·iterate 3 refine oA ?_
  rfl
 apply sN;apply rS hC
 ·iterate 9 refine oA ?_
  rfl
 apply rS hC
 ·iterate 2 refine oA ?_
  rfl
 apply rS hC
 ·refine oA ?_;rfl
 apply sQ;apply rS hC
 ·iterate 2 refine oA ?_
  rfl
 refine cF (by simp[hF]<;>rfl) ?_;apply Tri.skip;apply sN;refine zqF hC (by simp[hw]) (s:=s) (d:=(zaC 2 (s.drop (i+2)) [] false).2) (e:=i+2+(zaC 2 (s.drop (i+2)) [] false).1) (base:=2) (text:=(zaC 2 (s.drop (i+2)) [] false).2) (k:=3) (by simp[hF]) (by simp[hF]) (by simp[hF]) (by simp[hF]) (by simp[hF]) (by simp[hF]) (by simp[hF]) (ha _) (hwd _) (.inl rfl) hdec ?cr32_15;case cr32_15=>
  intro t5 k2 t2 e2 c2 q4 q5 q6 hne0;have hne:∃v,(Res.val (.tup [zeQ k2 t2,.i .i64 e2,.i .i64 c2])=.val v)∧zbw s (zaC 2 (s.drop (i+2)) [] false).2 2 (i+2+(zaC 2 (s.drop (i+2)) [] false).1) (zaC 2 (s.drop (i+2)) [] false).2 3 v:=⟨_,rfl,hne0⟩;refine zbo (by simp[f58,q4,q5,q6]<;>rfl) (by rfl) ?_;exact hne
theorem znc {call:zad}(hC:call.Sound prog TT)(s:List UInt8)(i:Nat)(hsl:s.length<100000000)(hil:i≤s.length)(ha:∀(i:Nat) H,call 64 [.s s,.i .i64 i] H=.val (.i .u8 (atR s i)) H)(hwd:∀(i:Nat) H,call 63 [.i .u8 (atR s i)] H=.val (.b (zcy (atR s i))) H)(hx:∀H,call 56 [.s s,.i .i64 i,.s [48,120]] H=.val (.b false) H)(hb:∀H,call 56 [.s s,.i .i64 i,.s [48,98]] H=.val (.b false) H)
 (hdg:∀H,call 83 [.s s,.i .i64 (i:Int),.i .i64 10] H=.val (.tup [.i .i64 ((i+(zaC 10 (s.drop (i)) [] false).1:Nat):Int),.s (zaC 10 (s.drop (i)) [] false).2]) H)(hdec:∃r,ztc (zaC 10 (s.drop (i)) [] false).2 10 r∧∀H,call 84 [.s (zaC 10 (s.drop (i)) [] false).2,.i .i64 (10:Nat)] H=.val r H)(hdg10:∀i:Nat,i≤s.length→∀H,call 83 [.s s,.i .i64 i,.i .i64 10] H=.val (.tup [.i .i64 ((i+(zaC 10 (s.drop i) [] false).1:Nat):Int),.s (zaC 10 (s.drop i) [] false).2]) H)(hd1:∀(i:Nat) H,call 57 [.i .u8 (atR s i),.i .i64 10] H=.val (.i .i64 (zbA (atR s i) 10)) H)(hwi:IntKind.i64.wrap ((i:Int)+2)=(i:Int)+2)  : zaI prog TT 58 [.s s,.i .i64 i] (fun r=>∃v,r=.val v∧((zcF s (i+(zaC 10 (s.drop (i)) [] false).1) (zaC 10 (s.drop (i)) [] false).2=none∧v=zkM)∨∃e' t' k',zcF s (i+(zaC 10 (s.drop (i)) [] false).1) (zaC 10 (s.drop (i)) [] false).2=some (e',t',k')∧zbw s (zaC 10 (s.drop (i)) [] false).2 10 e' t' k' v)):=by
 refine en f58 rfl rfl (by simp[f58]) 136 rfl fun t hw hg=>?_;have h0:=hg 0 _ rfl;have h1:=hg 1 _ rfl;clear hg;try simp only[Nd.enc_eq]at *
 have hF:=ai @h0 (ai @h1 (ai @hx (ai @hb (ai @hdg @hwi))));apply rS hC
 ·iterate 3 refine oA ?_
  rfl
 apply rS hC
 ·refine oA ?_;rfl
 apply rS hC
 ·iterate 2 refine oA ?_
  rfl
 apply sQ;apply rS hC
 ·iterate 3 refine oA ?_
  rfl
 refine cF (by simp[hF]<;>rfl) ?_;apply Tri.skip;apply sN;apply sQ;apply rS hC
 ·iterate 3 refine oA ?_
  rfl
 refine cF (by simp[hF]<;>rfl) ?_;apply Tri.skip;apply sN;apply rS hC
 ·iterate 9 refine oA ?_
  rfl
 apply rS hC
 ·iterate 2 refine oA ?_
  rfl
 apply rS hC
 ·refine oA ?_;rfl
 apply sQ;apply rS hC
 ·iterate 2 refine oA ?_
  rfl
 refine cT (by simp[hF]<;>rfl) ?_;refine zvW hC (by simp[hw]) (s:=s) (d:=(zaC 10 (s.drop (i)) [] false).2) (e:=i+(zaC 10 (s.drop (i)) [] false).1) (base:=10) (by simp[hF]) (by simp[hF]) (by simp[hF]) (by simp[hF]) (by simp[hF]) (by simp[hF]) (by simp[hF]) (by omega) (by have:=zcW 10 (s.drop i) [] false;simp at this ⊢;omega) hsl ha hdg10 (by have:=zdn 10 (s.drop i) [] false;simp at this;omega) (hd1 _) ?cn13_13 ?cr13_13;case cn13_13=>
  intro t4 hw q0 q4 q7 q10 e' text' k' hexp q9 q11 q12;apply sN;refine zqF hC hw q0 q4 q7 q9 q10 q11 q12 (ha _) (hwd _) (zuq hexp) hdec ?cr32_14;case cr32_14=>
   intro t5 k2 t2 e2 c2 q4 q5 q6 hne0;have hne:∃v,(Res.val (.tup [zeQ k2 t2,.i .i64 e2,.i .i64 c2])=.val v)∧((zcF s (i+(zaC 10 (s.drop (i)) [] false).1) (zaC 10 (s.drop (i)) [] false).2=none∧v=zkM)∨∃e' t' k',zcF s (i+(zaC 10 (s.drop (i)) [] false).1) (zaC 10 (s.drop (i)) [] false).2=some (e',t',k')∧zbw s (zaC 10 (s.drop (i)) [] false).2 10 e' t' k' v):=⟨_,rfl,.inr ⟨_,_,_,hexp,hne0⟩⟩;refine zbo (by simp[f58,q4,q5,q6]<;>rfl) (by rfl) ?_;exact hne
 case cr13_13=>
  intro hexp t4 q4 q5 q6;have hne:∃v,(Res.val (.tup [zeQ 0 [],.i .i64 0,.i .i64 33])=.val v)∧((zcF s (i+(zaC 10 (s.drop (i)) [] false).1) (zaC 10 (s.drop (i)) [] false).2=none∧v=zkM)∨∃e' t' k',zcF s (i+(zaC 10 (s.drop (i)) [] false).1) (zaC 10 (s.drop (i)) [] false).2=some (e',t',k')∧zbw s (zaC 10 (s.drop (i)) [] false).2 10 e' t' k' v):=⟨_,rfl,.inl ⟨hexp,rfl⟩⟩;apply sR;refine zbo (by simp[f58,q4,q5,q6]<;>rfl) (by rfl) ?_;exact hne
theorem zgF (base:Int):∀(L out:List UInt8)(pd:Bool),(∀b∈out,0≤zbA b.toNat base)→∀b∈(zaC base L out pd).2,0≤zbA b.toNat base
 | [],out,pd,h,b,hb=>h b hb
 |c::L,out,pd,h,b,hb=>by
  simp only[zaC]at hb;split at hb
  ·rename_i hc;refine zgF base L (out++[c]) true (fun x hx=>?_) b hb;rcases mem_append.1 hx with hx|hx
   ·exact h x hx
   ·obtain rfl:x=c:=by simpa using hx
    exact hc
  ·split at hb
   ·exact zgF base L out false h b hb
   ·exact h b hb
theorem zbB {s:List UInt8}{i:Nat}{t:List UInt8}(h:zdh s i t=true):i+t.length≤s.length:=by
 simp only[zdh,Bool.and_eq_true,decide_eq_true_eq]at h;exact h.1
theorem zq5 {s:List UInt8}{i:Nat}{a b:UInt8}(h:zdh s i [48,a]=true)(h2:zdh s i [48,b]=true):a=b:=by
 simp only[zdh,Bool.and_eq_true,beq_iff_eq,length_cons,length_nil]at h h2;have:=h.2.symm.trans h2.2;simpa using this
theorem zwz:∃g,zap prog TT 58 g∧∀(s:List UInt8)(i:Nat),s.length<100000000→i≤s.length→∃v,zn7 s i v∧∀H,g [.s s,.i .i64 i] H=.val v H:=by
 obtain⟨g1,k1,s1⟩:=zkD;obtain⟨g2,k2,s2⟩:=zkC;obtain⟨g3,k3,s3⟩:=zqo;obtain⟨g4,k4,s4⟩:=zqp;obtain⟨g5,k5,s5⟩:=zwE;obtain⟨g6,k6,s6⟩:=zwF;obtain⟨g,hg,hs⟩:=zcS zah zat 58 (fun vs=>∃(s:List UInt8)(i:Nat),s.length<100000000∧i≤s.length∧vs=[.s s,.i .i64 i]) (fun vs r=>∃(s:List UInt8)(i:Nat)(v:V),vs=[.s s,.i .i64 i]∧r=.val v∧nl v=true∧zn7 s i v) (by
  rintro vs ⟨s,i,hl,hi,rfl⟩;refine⟨by simp[nlL,nl],by rintro r ⟨_,_,v,_,rfl,h,_⟩;exact h,?_⟩;have hC:=ws (ws (ws (ws (ws (ws n0 k1) k2) k3) k4) k5) k6;generalize hc:(((((zad.none.with 57 g1).with 64 g2).with 63 g3).with 56 g4).with 83 g5).with 84 g6=call at hC;have c6:∀vs H,call 84 (vs) H=g6 vs H:=fun vs H=>by rw[←hc,zao]
  have c5:∀vs H,call 83 (vs) H=g5 vs H:=fun vs H=>by rw[←hc,zac _ _ _ _ rfl,zao]
  have c4:∀vs H,call 56 (vs) H=g4 vs H:=fun vs H=>by rw[←hc,zac _ _ _ _ rfl,zac _ _ _ _ rfl,zao]
  have c3:∀vs H,call 63 (vs) H=g3 vs H:=fun vs H=>by rw[←hc,zac _ _ _ _ rfl,zac _ _ _ _ rfl,zac _ _ _ _ rfl,zao]
  have c2:∀vs H,call 64 (vs) H=g2 vs H:=fun vs H=>by rw[←hc,zac _ _ _ _ rfl,zac _ _ _ _ rfl,zac _ _ _ _ rfl,zac _ _ _ _ rfl,zao]
  have c1:∀vs H,call 57 (vs) H=g1 vs H:=fun vs H=>by rw[←hc,zac _ _ _ _ rfl,zac _ _ _ _ rfl,zac _ _ _ _ rfl,zac _ _ _ _ rfl,zac _ _ _ _ rfl,zao]
  have ha:∀(i:Nat) H,call 64 [.s s,.i .i64 i] H=.val (.i .u8 (atR s i)) H:=fun i H=>(c2 _ H).trans (s2 s i H);have hwd:∀(i:Nat) H,call 63 [.i .u8 (atR s i)] H=.val (.b (zcy (atR s i))) H:=fun i H=>(c3 _ H).trans (s3 _ (zb1 s i).1 (zb1 s i).2 H);have hd1:∀(i:Nat) H,call 57 [.i .u8 (atR s i),.i .i64 10] H=.val (.i .i64 (zbA (atR s i) 10)) H:=fun i H=>(c1 _ H).trans (s1 _ 10 (zb1 s i).1 (zb1 s i).2 (by simp) H);have hb:∀(a:UInt8) H,call 56 [.s s,.i .i64 i,.s [48,a]] H=.val (.b (zdh s i [48,a])) H:=fun a H=>(c4 _ H).trans (s4 s i [48,a] (by omega) (by simp) H);have hdg:∀(base:Int)(j:Nat),base=2∨base=10∨base=16→j≤s.length→∀H,call 83 [.s s,.i .i64 j,.i .i64 base] H=.val (.tup [.i .i64 ((j+(zaC base (s.drop j) [] false).1:Nat):Int),.s (zaC base (s.drop j) [] false).2]) H:=fun base j h1 h2 H=>(c5 _ H).trans (s5 s j base h1 (by omega) h2 H);have hdec:∀(base j:Nat),base=2∨base=10∨base=16→∃r,ztc (zaC base (s.drop j) [] false).2 base r∧∀H,call 84 [.s (zaC base (s.drop j) [] false).2,.i .i64 base] H=.val r H:=fun base j h1=>by
   obtain⟨r,hr,h⟩:=s6 (zaC base (s.drop j) [] false).2 base h1 (by have:=zcW base (s.drop j) [] false;simp at this;omega) (zgF base (s.drop j) [] false (by simp));exact⟨r,hr,fun H=>(c6 _ H).trans (h H)⟩
  have hwi:IntKind.i64.wrap ((i:Int)+2)=(i:Int)+2:=zak (by omega) (by omega);have fin:∀{S:V→Prop},(∀v,S v→zn7 s i v∧nl v=true)→zaI prog TT 58 [.s s,.i .i64 i] (fun r=>∃v,r=.val v∧S v)→zaI prog TT 58 [.s s,.i .i64 i] (fun r=>∃(s':List UInt8)(i':Nat)(v:V),[V.s s,.i .i64 i]=[.s s',.i .i64 i']∧r=.val v∧nl v=true∧zn7 s' i' v):=fun h1 h2=>h2.mono (by
   rintro r ⟨v,rfl,hv⟩;exact⟨s,i,v,rfl,rfl,(h1 v hv).2,(h1 v hv).1⟩)
  have nle:∀{d text:List UInt8}{base e:Nat}{k:Int}{v:V},zbw s d base e text k v→nl v=true:=by
   rintro d text base e k v (⟨_,rfl⟩|⟨_,⟨_,rfl⟩|⟨_,⟨o,_,_,_,rfl⟩|⟨_,rfl⟩⟩⟩)<;>simp[zkM,okV,zeQ,nl,nlL]
  cases hx:zdh s i [48,120]with
  |true=>
   have hlen:=zbB hx;simp only[length_cons,length_nil]at hlen;have hbf:zdh s i [48,98]=false:=by
    cases hbb:zdh s i [48,98]with
    |false=>rfl
    |true=>exact absurd (zq5 hx hbb) (by decide)
   refine fin (S:=fun v=>zbw s (zaC 16 (s.drop (i+2)) [] false).2 16 (i+2+(zaC 16 (s.drop (i+2)) [] false).1) (zaC 16 (s.drop (i+2)) [] false).2 3 v) (fun v hv=>⟨?_,nle hv⟩) (znd hC s i hl (by omega) ha hwd (fun H=>by rw[hb,hx]) (fun H=>by rw[hb,hbf]) (fun H=>?_) (hdec 16 (i+2) (by simp)) hwi)
   ·unfold zn7;rw[if_pos hx];exact hv
   ·have:=hdg 16 (i+2) (by simp) (by omega) H;simpa using this
  |false=>
   cases hbb:zdh s i [48,98]with
   |true=>
    have hlen:=zbB hbb;simp only[length_cons,length_nil]at hlen;refine fin (S:=fun v=>zbw s (zaC 2 (s.drop (i+2)) [] false).2 2 (i+2+(zaC 2 (s.drop (i+2)) [] false).1) (zaC 2 (s.drop (i+2)) [] false).2 3 v) (fun v hv=>⟨?_,nle hv⟩) (znb hC s i hl (by omega) ha hwd (fun H=>by rw[hb,hx]) (fun H=>by rw[hb,hbb]) (fun H=>?_) (hdec 2 (i+2) (by simp)) hwi)
    ·unfold zn7;rw[if_neg (by rw[hx];simp),if_pos hbb];exact hv
    ·have:=hdg 2 (i+2) (by simp) (by omega) H;simpa using this
   |false=>
    refine fin (S:=fun v=>(zcF s (i+(zaC 10 (s.drop i) [] false).1) (zaC 10 (s.drop i) [] false).2=none∧v=zkM)∨∃e' t' k',zcF s (i+(zaC 10 (s.drop i) [] false).1) (zaC 10 (s.drop i) [] false).2=some (e',t',k')∧zbw s (zaC 10 (s.drop i) [] false).2 10 e' t' k' v) (fun v hv=>⟨?_,?_⟩) (znc hC s i hl hi ha hwd (fun H=>by rw[hb,hx]) (fun H=>by rw[hb,hbb]) (fun H=>hdg 10 i (by simp) hi H) (hdec 10 i (by simp)) (fun j hj H=>hdg 10 j (by simp) hj H) hd1 hwi)
    ·unfold zn7;rw[if_neg (by rw[hx];simp),if_neg (by rw[hbb];simp)];exact hv
    ·rcases hv with⟨_,rfl⟩|⟨_,_,_,_,h⟩
     ·simp[zkM,zeQ,nl,nlL]
     ·exact nle h)
 refine⟨g,hg,fun s i hl hi=>?_⟩;obtain⟨r,⟨s1,i1,v,e,rfl,_,h1⟩,h⟩:=hs _ ⟨s,i,hl,hi,rfl⟩;simp only[List.cons.injEq,V.s.injEq,V.i.injEq,true_and,and_true]at e;obtain⟨rfl,e2⟩:=e;rw[show i1=i from by omega]at h1;exact⟨v,h1,h⟩
def lnL:List UInt8→Nat
 | []=>0
 |b::l=>if(b==10)=true then 0 else lnL l+1
theorem zmq:∀l,lnL l≤l.length
 | []=>Nat.le_refl _
 |b::l=>by
  have:=zmq l;simp only[lnL,length_cons];split<;>omega
def cmF (s:List UInt8):Nat→Nat→Nat→Bool→Bool×Nat×Bool
 |0,i,_,l=>(false,i,l)
 |n+1,i,d,l=>if d=0 then(true,i,l)else if s.length≤i then(false,i,l)
  else if zdh s i [47,42]=true then cmF s n (i+2) (d+1) l
  else if zdh s i [42,47]=true then cmF s n (i+2) (d-1) l
  else cmF s n (i+1) d (l||(atR s i==10))
theorem zhL (s:List UInt8):∀(n i d:Nat)(l:Bool),i≤s.length→i≤(cmF s n i d l).2.1∧(cmF s n i d l).2.1≤s.length
 |0,i,d,l,h=>⟨Nat.le_refl _,h⟩
 |n+1,i,d,l,h=>by
  simp only[cmF];split
  ·exact⟨Nat.le_refl _,h⟩
  split
  ·exact⟨Nat.le_refl _,h⟩
  split
  ·rename_i hb;have:=zbB hb;simp only[length_cons,length_nil]at this;have:=zhL s n (i+2) (d+1) l (by omega);omega
  split
  ·rename_i hb;have:=zbB hb;simp only[length_cons,length_nil]at this;have:=zhL s n (i+2) (d-1) l (by omega);omega
  ·have:=zhL s n (i+1) d (l||(atR s i==10)) (by omega);omega
theorem zom {s:List UInt8}{i:Nat}{b:UInt8}(h:s[i]? = some b):atR s i=b.toNat:=by unfold atR;rw[h]
def zfQ (s : List UInt8) (i j : Nat) : List UInt8 := (s.take j).drop i
def zbC (s : List UInt8) : Nat → Nat → Bool → Nat × Bool × Int
  | 0, i, l => (i, l, -1)
  | n + 1, i, l => if s.length ≤ i then (i, l, -1)
    else if ((atR s i == 10) : Bool) = true then zbC s n (i + 1) true
    else if (((atR s i == 32) || (atR s i == 9)) || (atR s i == 13)) = true then zbC s n (i + 1) l
    else if zdh s i [47, 47] = true then (if Lib.validD (zfQ s i (i + lnL (s.drop i))) = true then zbC s n (i + lnL (s.drop i)) l else (i, l, i))
    else if zdh s i [47, 42] = true then (if (cmF s (s.length + 1) (i + 2) 1 l).1 = true then
        (if Lib.validD (zfQ s i (cmF s (s.length + 1) (i + 2) 1 l).2.1) = true then zbC s n (cmF s (s.length + 1) (i + 2) 1 l).2.1 (cmF s (s.length + 1) (i + 2) 1 l).2.2 else (i, (cmF s (s.length + 1) (i + 2) 1 l).2.2, i))
      else (i, (cmF s (s.length + 1) (i + 2) 1 l).2.2, i))
    else (i, l, -1)
theorem zpC {s : List UInt8} {i : Nat} (h : zdh s i [47, 47] = true) : 0 < lnL (s.drop i) := by
 have h1 := zbB h;simp only [zdh, Bool.and_eq_true, beq_iff_eq, List.length_cons, List.length_nil] at h h1;have h2 := h.2;have h3 : i < s.length := by omega
 have h4 : ((s.take (i + 2)).drop i)[0]? = some 47 := by rw [h2]; rfl
 rw [List.getElem?_drop, List.getElem?_take_of_lt (by omega)] at h4;rw [List.drop_eq_getElem_cons h3];have h5 : s[i] = 47 := by
  have := List.getElem?_eq_getElem h3;simp only [Nat.add_zero] at h4;rw [this] at h4;exact Option.some.inj h4
 simp [lnL, h5]
theorem zxc : za2 TT shf Tryz.f32.ntmps [] (zae Tryz.f32) [] ⟨[(0, .f1 .vs (.va 0)), (1, .f1 (.vi .i64) (.va 1))], ⟨.va 2, [], []⟩, 3, []⟩ (KF TT Tryz.f32 [0, 1, 7]) = .leaf (.stop [.true, .true, .false, .false]) [(0, .f1 .vs (.va 0)), (1, .f1 (.vi .i64) (.va 1)), (7, .f1 .vb (.cb .false))] ⟨.va 2, [], []⟩ := by kernel_rfl
theorem zxd : goT TT shf Tryz.f32.ntmps [] [true, true, false, false, false] (zae Tryz.f32) [] ⟨[(0, .f1 .vs (.va 0)), (1, .f1 (.vi .i64) (.va 1)), (7, .f1 .vb (.va 2))], ⟨.va 3, [], []⟩, 4, []⟩ (KF TT Tryz.f32 [0, 1, 7, 8, 9, 10]) = .ite (.f2 .ltI (.va 1) (.f1 .lenS (.va 0))) (.need (.f2 .leI (.ci 0) (.va 1)) (.ite (.f2 .eqI (.f2 .at (.va 0) (.va 1)) (.ci 10)) (.leaf (.again [.true, .true, .false, .false, .false]) [(0, .f1 .vs (.va 0)), (1, .f1 (.vi .i64) (.f1 (.wrap .i64) (.f2 .add (.va 1) (.ci 1)))), (7, .f1 .vb (.cb .true))] ⟨.va 3, [], []⟩) (.ite (.f2 .eqI (.f2 .at (.va 0) (.va 1)) (.ci 32)) (.leaf (.again [.true, .true, .false, .false, .false]) [(0, .f1 .vs (.va 0)), (1, .f1 (.vi .i64) (.f1 (.wrap .i64) (.f2 .add (.va 1) (.ci 1)))), (7, .f1 .vb (.va 2))] ⟨.va 3, [], []⟩) (.ite (.f2 .eqI (.f2 .at (.va 0) (.va 1)) (.ci 9)) (.leaf (.again [.true, .true, .false, .false, .false]) [(0, .f1 .vs (.va 0)), (1, .f1 (.vi .i64) (.f1 (.wrap .i64) (.f2 .add (.va 1) (.ci 1)))), (7, .f1 .vb (.va 2))] ⟨.va 3, [], []⟩) (.ite (.f2 .eqI (.f2 .at (.va 0) (.va 1)) (.ci 13)) (.leaf (.again [.true, .true, .false, .false, .false]) [(0, .f1 .vs (.va 0)), (1, .f1 (.vi .i64) (.f1 (.wrap .i64) (.f2 .add (.va 1) (.ci 1)))), (7, .f1 .vb (.va 2))] ⟨.va 3, [], []⟩) (.asks (.call 56 (.f2 .cons (.f1 .vs (.va 0)) (.f2 .cons (.f1 (.vi .i64) (.va 1)) (.f2 .cons (.f1 .vs (.cs [47, 47])) .nil)))) [.b] (.f1 .vb (.va 4)) (.ite (.va 4) (.leaf (.stop [.true, .true, .false, .false, .false, .true, .false, .false, .true, .true, .true, .true, .true, .false, .true, .false, .false]) [(0, .f1 .vs (.va 0)), (1, .f1 (.vi .i64) (.va 1)), (7, .f1 .vb (.va 2)), (8, .f1 (.vi .i64) (.va 1))] ⟨.va 3, [], []⟩) (.asks (.call 56 (.f2 .cons (.f1 .vs (.va 0)) (.f2 .cons (.f1 (.vi .i64) (.va 1)) (.f2 .cons (.f1 .vs (.cs [47, 42])) .nil)))) [.b] (.f1 .vb (.va 5)) (.ite (.va 5) (.leaf (.stop [.true, .true, .false, .false, .false, .true, .false, .false, .true, .true, .true, .true, .true, .true, .true, .false, .true, .true, .false, .false]) [(0, .f1 .vs (.va 0)), (1, .f1 (.vi .i64) (.f1 (.wrap .i64) (.f2 .add (.va 1) (.ci 2)))), (7, .f1 .vb (.va 2)), (9, .f1 (.vi .i64) (.va 1)), (10, .f1 (.vi .i64) (.ci 1))] ⟨.va 3, [], []⟩) (.fin (.f1 .tup (.f2 .cons (.f1 (.vi .i64) (.va 1)) (.f2 .cons (.f1 .vb (.va 2)) (.f2 .cons (.f1 (.vi .i64) (.ci (-1))) .nil)))) ⟨.va 3, [], []⟩)) (.stuck 0))) (.stuck 0))))))) (.fin (.f1 .tup (.f2 .cons (.f1 (.vi .i64) (.va 1)) (.f2 .cons (.f1 .vb (.va 2)) (.f2 .cons (.f1 (.vi .i64) (.ci (-1))) .nil)))) ⟨.va 3, [], []⟩) := by kernel_rfl
theorem zxe : goT TT shf Tryz.f32.ntmps [] [true, true, false, false, false, true, false, false, true, true, true, true, true, false, true, false, false, false] (zae Tryz.f32) [] ⟨[(0, .f1 .vs (.va 0)), (1, .f1 (.vi .i64) (.va 1)), (7, .f1 .vb (.va 2)), (8, .f1 (.vi .i64) (.va 3))], ⟨.va 4, [], []⟩, 5, []⟩ (KF TT Tryz.f32 [0, 1, 7, 8]) = .ite (.f2 .ltI (.va 1) (.f1 .lenS (.va 0))) (.need (.f2 .leI (.ci 0) (.va 1)) (.ite (.f2 .neI (.f2 .at (.va 0) (.va 1)) (.ci 10)) (.leaf (.again [.true, .true, .false, .false, .false, .true, .false, .false, .true, .true, .true, .true, .true, .false, .true, .false, .false, .false]) [(0, .f1 .vs (.va 0)), (1, .f1 (.vi .i64) (.f1 (.wrap .i64) (.f2 .add (.va 1) (.ci 1)))), (7, .f1 .vb (.va 2)), (8, .f1 (.vi .i64) (.va 3))] ⟨.va 4, [], []⟩) (.need (.f2 .leI (.ci 0) (.va 3)) (.need (.f2 .leI (.va 3) (.va 1)) (.need (.f2 .leI (.va 1) (.f1 .lenS (.va 0))) (.asks (.call 36 (.f2 .cons (.f1 .vs (.f3 .sub (.va 0) (.va 3) (.va 1))) .nil)) [.b] (.f1 .vb (.va 5)) (.ite (.va 5) (.leaf (.again [.true, .true, .false, .false, .false]) [(0, .f1 .vs (.va 0)), (1, .f1 (.vi .i64) (.va 1)), (7, .f1 .vb (.va 2)), (8, .f1 (.vi .i64) (.va 3))] ⟨.va 4, [], []⟩) (.fin (.f1 .tup (.f2 .cons (.f1 (.vi .i64) (.va 3)) (.f2 .cons (.f1 .vb (.va 2)) (.f2 .cons (.f1 (.vi .i64) (.va 3)) .nil)))) ⟨.va 4, [], []⟩)) (.stuck 0))))))) (.need (.f2 .leI (.ci 0) (.va 3)) (.need (.f2 .leI (.va 3) (.va 1)) (.need (.f2 .leI (.va 1) (.f1 .lenS (.va 0))) (.asks (.call 36 (.f2 .cons (.f1 .vs (.f3 .sub (.va 0) (.va 3) (.va 1))) .nil)) [.b] (.f1 .vb (.va 5)) (.ite (.va 5) (.leaf (.again [.true, .true, .false, .false, .false]) [(0, .f1 .vs (.va 0)), (1, .f1 (.vi .i64) (.va 1)), (7, .f1 .vb (.va 2)), (8, .f1 (.vi .i64) (.va 3))] ⟨.va 4, [], []⟩) (.fin (.f1 .tup (.f2 .cons (.f1 (.vi .i64) (.va 3)) (.f2 .cons (.f1 .vb (.va 2)) (.f2 .cons (.f1 (.vi .i64) (.va 3)) .nil)))) ⟨.va 4, [], []⟩)) (.stuck 0))))) := by kernel_rfl
theorem zxf : goT TT shf Tryz.f32.ntmps [] [true, true, false, false, false, true, false, false, true, true, true, true, true, true, true, false, true, true, false, false, false] (zae Tryz.f32) [] ⟨[(0, .f1 .vs (.va 0)), (1, .f1 (.vi .i64) (.va 1)), (7, .f1 .vb (.va 2)), (9, .f1 (.vi .i64) (.va 3)), (10, .f1 (.vi .i64) (.va 4))], ⟨.va 5, [], []⟩, 6, []⟩ (KF TT Tryz.f32 [0, 1, 7, 9, 10]) = .ite (.f2 .gtI (.va 4) (.ci 0)) (.ite (.f2 .geI (.va 1) (.f1 .lenS (.va 0))) (.fin (.f1 .tup (.f2 .cons (.f1 (.vi .i64) (.va 3)) (.f2 .cons (.f1 .vb (.va 2)) (.f2 .cons (.f1 (.vi .i64) (.va 3)) .nil)))) ⟨.va 5, [], []⟩) (.asks (.call 56 (.f2 .cons (.f1 .vs (.va 0)) (.f2 .cons (.f1 (.vi .i64) (.va 1)) (.f2 .cons (.f1 .vs (.cs [47, 42])) .nil)))) [.b] (.f1 .vb (.va 6)) (.ite (.va 6) (.leaf (.again [.true, .true, .false, .false, .false, .true, .false, .false, .true, .true, .true, .true, .true, .true, .true, .false, .true, .true, .false, .false, .false]) [(0, .f1 .vs (.va 0)), (1, .f1 (.vi .i64) (.f1 (.wrap .i64) (.f2 .add (.va 1) (.ci 2)))), (7, .f1 .vb (.va 2)), (9, .f1 (.vi .i64) (.va 3)), (10, .f1 (.vi .i64) (.f1 (.wrap .i64) (.f2 .add (.va 4) (.ci 1))))] ⟨.va 5, [], []⟩) (.asks (.call 56 (.f2 .cons (.f1 .vs (.va 0)) (.f2 .cons (.f1 (.vi .i64) (.va 1)) (.f2 .cons (.f1 .vs (.cs [42, 47])) .nil)))) [.b] (.f1 .vb (.va 7)) (.ite (.va 7) (.leaf (.again [.true, .true, .false, .false, .false, .true, .false, .false, .true, .true, .true, .true, .true, .true, .true, .false, .true, .true, .false, .false, .false]) [(0, .f1 .vs (.va 0)), (1, .f1 (.vi .i64) (.f1 (.wrap .i64) (.f2 .add (.va 1) (.ci 2)))), (7, .f1 .vb (.va 2)), (9, .f1 (.vi .i64) (.va 3)), (10, .f1 (.vi .i64) (.f1 (.wrap .i64) (.f2 .sub (.va 4) (.ci 1))))] ⟨.va 5, [], []⟩) (.ite (.va 2) (.leaf (.again [.true, .true, .false, .false, .false, .true, .false, .false, .true, .true, .true, .true, .true, .true, .true, .false, .true, .true, .false, .false, .false]) [(0, .f1 .vs (.va 0)), (1, .f1 (.vi .i64) (.f1 (.wrap .i64) (.f2 .add (.va 1) (.ci 1)))), (7, .f1 .vb (.cb .true)), (9, .f1 (.vi .i64) (.va 3)), (10, .f1 (.vi .i64) (.va 4))] ⟨.va 5, [], []⟩) (.need (.f2 .leI (.ci 0) (.va 1)) (.need (.f2 .ltI (.va 1) (.f1 .lenS (.va 0))) (.leaf (.again [.true, .true, .false, .false, .false, .true, .false, .false, .true, .true, .true, .true, .true, .true, .true, .false, .true, .true, .false, .false, .false]) [(0, .f1 .vs (.va 0)), (1, .f1 (.vi .i64) (.f1 (.wrap .i64) (.f2 .add (.va 1) (.ci 1)))), (7, .f1 .vb (.f2 .eqI (.f2 .at (.va 0) (.va 1)) (.ci 10))), (9, .f1 (.vi .i64) (.va 3)), (10, .f1 (.vi .i64) (.va 4))] ⟨.va 5, [], []⟩))))) (.stuck 0))) (.stuck 0))) (.need (.f2 .leI (.ci 0) (.va 3)) (.need (.f2 .leI (.va 3) (.va 1)) (.need (.f2 .leI (.va 1) (.f1 .lenS (.va 0))) (.asks (.call 36 (.f2 .cons (.f1 .vs (.f3 .sub (.va 0) (.va 3) (.va 1))) .nil)) [.b] (.f1 .vb (.va 6)) (.ite (.va 6) (.leaf (.again [.true, .true, .false, .false, .false]) [(0, .f1 .vs (.va 0)), (1, .f1 (.vi .i64) (.va 1)), (7, .f1 .vb (.va 2)), (9, .f1 (.vi .i64) (.va 3)), (10, .f1 (.vi .i64) (.va 4))] ⟨.va 5, [], []⟩) (.fin (.f1 .tup (.f2 .cons (.f1 (.vi .i64) (.va 3)) (.f2 .cons (.f1 .vb (.va 2)) (.f2 .cons (.f1 (.vi .i64) (.va 3)) .nil)))) ⟨.va 5, [], []⟩)) (.stuck 0))))) := by kernel_rfl
theorem zl2 (s : List UInt8) (i : Nat) : atS s (i : Nat) = atR s i := rfl
def zvB (p : Nat × Bool × Int) : V := .tup [.i .i64 p.1, .b p.2.1, .i .i64 p.2.2]
section
variable {call : zad} (hC : call.Sound Tryz.prog TT) (s : List UInt8) (hsl : s.length < 100000000) (hbg : ∀ (i : Nat) (a b : UInt8), i < 100000000 → ∀ H, call 56 [.s s, .i .i64 i, .s [a, b]] H = .val (.b (zdh s i [a, b])) H) (hvd : ∀ x : List UInt8, x.length < 100000000 → ∀ H, call 36 [.s x] H = .val (.b (Lib.validD x)) H)
include hC hsl hvd in
theorem ztZ (r : Res) (f : Nat) (l : Bool)
 (hfin : Lib.validD (zfQ s f (f + lnL (s.drop f))) = true → ∀ (t : Tm) (H : zaa), t.wid = Tryz.f32.ntmps → t.get 0 = .s s → t.get 1 = .i .i64 ((f + lnL (s.drop f) : Nat) : Int) → t.get 7 = .b l → ctx Tryz.prog TT [true, true, false, false, false] (zae Tryz.f32) (za1 TT Tryz.f32 (isR r)) (.norm t H))
 (hbad : ¬ Lib.validD (zfQ s f (f + lnL (s.drop f))) = true → r = .val (zvB (f, l, f))) :
 ∀ (n j : Nat) (t : Tm) (H : zaa), s.length < n + j → f ≤ j → j ≤ s.length → j + lnL (s.drop j) = f + lnL (s.drop f) → t.wid = Tryz.f32.ntmps → t.get 0 = .s s → t.get 1 = .i .i64 (j : Nat) → t.get 7 = .b l → t.get 8 = .i .i64 (f : Nat) →
 ctx Tryz.prog TT [true, true, false, false, false, true, false, false, true, true, true, true, true, false, true, false, false, false] (zae Tryz.f32) (za1 TT Tryz.f32 (isR r)) (.norm t H) := by
 intro n;induction n with
 | zero => intro j t H h1 h2 h3; omega
 | succ n ih =>
  intro j t H hn hf hj he hw t0 t1 t7 t8;refine zaP.symIn (p := [true, true, false, false, false, true, false, false, true, true, true, true, true, false, true, false, false]) zah hC rfl zxe (by kernel_rfl) [.us s, .ui (j : Nat), .ub l, .ui (f : Nat), .uh H] rfl hw ⟨t0, t1, t7, t8, trivial⟩ rfl (zaW _ _) ?_;clear t0 t1 t7 t8 hw;simp -implicitDefEqProofs only [VC, isR, exU, Ask.den, forall_eq, E.den, O1.den, O2.den, O3.den, U.int_ui, U.boo_ub, U.val_uv, U.lst_ul, U.str_us, U.nat_un, U.heap_uh, SH.den, zaF, zbH, bD, SB.den, zas, LQ, List.cons_append, List.nil_append, List.getElem?_cons_zero, List.getElem?_cons_succ, Option.getD_some, zam, zai, zan, zaj, beq_iff_eq, bne_iff_ne, beq_eq_false_iff_ne, Int.toNat_natCast];have w1 : IntKind.i64.wrap ((j : Int) + 1) = ((j + 1 : Nat) : Int) := by rw [zak (by omega) (by omega)]; omega
  simp only [w1, Int.toNat_natCast, zl2];have stop : lnL (s.drop j) = 0 → (0 : Int) ≤ (f : Nat) ∧ ((f : Nat) : Int) ≤ (j : Nat) ∧ ((j : Nat) : Int) ≤ (s.length : Nat) ∧ ((∃ x, (∀ (K : zaa), call 36 [.s ((s.take j).drop f)] K = .val (.b x) K) ∧ (x = true → ∀ (t : Tm), t.wid = Tryz.f32.ntmps → t.get 0 = .s s → t.get 1 = .i .i64 (j : Nat) → t.get 7 = .b l → t.get 8 = .i .i64 (f : Nat) → ctx Tryz.prog TT [true, true, false, false, false] (zae Tryz.f32) (za1 TT Tryz.f32 (isR r)) (.norm t H)) ∧ (x = false → r = .val (.tup [.i .i64 (f : Nat), .b l, .i .i64 (f : Nat)]))) ∨ ∃ v, (∀ (K : zaa), call 36 [.s ((s.take j).drop f)] K = .pan v K) ∧ False) := fun h0 => by
   have e : f + lnL (s.drop f) = j := by omega
   rw [e] at hfin hbad;refine ⟨by omega, by omega, by omega, .inl ⟨_, hvd _ (by rw [List.length_drop, List.length_take]; omega), fun hx t hw f0 f1 f7 f8 => hfin hx t H hw f0 f1 f7, fun hx => ?_⟩⟩;exact hbad (by rw [show zfQ s f j = (s.take j).drop f from rfl, hx]; decide)
  refine ⟨fun h => ⟨by omega, fun h10 t hw f0 f1 f7 f8 => ?_, fun h10 => ?_⟩, fun h => ?_⟩
  ·have hd : s.drop j = s[j]'(by omega) :: s.drop (j + 1) := List.drop_eq_getElem_cons (by omega);have hb : ¬ (s[j]'(by omega) == 10) = true := fun e => h10 (by
    rw [beq_iff_eq] at e;unfold atR;rw [List.getElem?_eq_getElem (by omega), e];rfl)
   refine ih (j + 1) t H (by omega) (by omega) (by omega) ?_ hw f0 f1 f7 f8;rw [hd] at he;simp only [lnL] at he;rw [if_neg hb] at he;omega
  ·refine stop ?_;have hd : s.drop j = s[j]'(by omega) :: s.drop (j + 1) := List.drop_eq_getElem_cons (by omega);have hb : (s[j]'(by omega) == 10) = true := by
    simp only [bne_eq_false_iff_eq] at h10;unfold atR at h10;rw [List.getElem?_eq_getElem (by omega)] at h10;simp only at h10;rw [beq_iff_eq];exact UInt8.toNat.inj (by have : (10 : UInt8).toNat = 10 := rfl; omega)
   rw [hd];simp only [lnL];rw [if_pos hb]
  ·refine stop ?_;rw [List.drop_eq_nil_of_le (by omega)];rfl
include hC hsl hbg hvd in
theorem ztX (r : Res) (f : Nat) (q : Bool × Nat × Bool)
 (hfin : q.1 = true → Lib.validD (zfQ s f q.2.1) = true → ∀ (t : Tm) (H : zaa), t.wid = Tryz.f32.ntmps → t.get 0 = .s s → t.get 1 = .i .i64 (q.2.1 : Nat) → t.get 7 = .b q.2.2 → ctx Tryz.prog TT [true, true, false, false, false] (zae Tryz.f32) (za1 TT Tryz.f32 (isR r)) (.norm t H))
 (hbad : q.1 = false ∨ ¬ Lib.validD (zfQ s f q.2.1) = true → r = .val (zvB (f, q.2.2, f))) :
 ∀ (n j d : Nat) (l : Bool) (t : Tm) (H : zaa), s.length < n + j → f ≤ j → j ≤ s.length → d ≤ j → cmF s n j d l = q → t.wid = Tryz.f32.ntmps → t.get 0 = .s s → t.get 1 = .i .i64 (j : Nat) → t.get 7 = .b l → t.get 9 = .i .i64 (f : Nat) → t.get 10 = .i .i64 (d : Nat) →
 ctx Tryz.prog TT [true, true, false, false, false, true, false, false, true, true, true, true, true, true, true, false, true, true, false, false, false] (zae Tryz.f32) (za1 TT Tryz.f32 (isR r)) (.norm t H) := by
 intro n;induction n with
 | zero => intro j d l t H h1 h2 h3; omega
 | succ n ih =>
  intro j d l t H hn hf hj hdj hq hw t0 t1 t7 t9 t10;refine zaP.symIn (p := [true, true, false, false, false, true, false, false, true, true, true, true, true, true, true, false, true, true, false, false]) zah hC rfl zxf (by kernel_rfl) [.us s, .ui (j : Nat), .ub l, .ui (f : Nat), .ui (d : Nat), .uh H] rfl hw ⟨t0, t1, t7, t9, t10, trivial⟩ rfl (zaW _ _) ?_;clear t0 t1 t7 t9 t10 hw;simp -implicitDefEqProofs only [VC, isR, exU, Ask.den, forall_eq, E.den, O1.den, O2.den, O3.den, U.int_ui, U.boo_ub, U.val_uv, U.lst_ul, U.str_us, U.nat_un, U.heap_uh, SH.den, zaF, zbH, bD, SB.den, zas, LQ, List.cons_append, List.nil_append, List.getElem?_cons_zero, List.getElem?_cons_succ, Option.getD_some, zam, zai, zan, zaj, beq_iff_eq, bne_iff_ne, beq_eq_false_iff_ne, Int.toNat_natCast];have w1 : IntKind.i64.wrap ((j : Int) + 1) = ((j + 1 : Nat) : Int) := by rw [zak (by omega) (by omega)]; omega
  have w2 : IntKind.i64.wrap ((j : Int) + 2) = ((j + 2 : Nat) : Int) := by rw [zak (by omega) (by omega)]; omega
  have w3 : IntKind.i64.wrap ((d : Int) + 1) = ((d + 1 : Nat) : Int) := by rw [zak (by omega) (by omega)]; omega
  simp only [w1, w2, w3, Int.toNat_natCast, zl2];simp only [cmF] at hq;refine ⟨fun h => ⟨fun h2 => ?_, fun h2 => .inl ⟨_, hbg j 47 42 (by omega), fun hb => fun t hw f0 f1 f7 f9 f10 => ?_, fun hb => .inl ⟨_, hbg j 42 47 (by omega), fun hc => fun t hw f0 f1 f7 f9 f10 => ?_, fun hc => ⟨fun hl => fun t hw f0 f1 f7 f9 f10 => ?_, fun hl => ⟨by omega, by omega, fun t hw f0 f1 f7 f9 f10 => ?_⟩⟩⟩⟩⟩, fun h => ?_⟩
  ·rw [if_neg (by omega), if_pos (by omega)] at hq;subst hq;exact hbad (.inl rfl)
  ·have := zbB hb;simp only [List.length_cons, List.length_nil] at this;rw [if_neg (by omega), if_neg (by omega), if_pos hb] at hq;exact ih (j + 2) (d + 1) l t H (by omega) (by omega) (by omega) (by omega) hq hw f0 f1 f7 f9 f10
  ·have := zbB hc;simp only [List.length_cons, List.length_nil] at this;rw [if_neg (by omega), if_neg (by omega), if_neg (by rw [hb]; decide), if_pos hc] at hq;refine ih (j + 2) (d - 1) l t H (by omega) (by omega) (by omega) (by omega) hq hw f0 f1 f7 f9 ?_;rw [f10, zak (by omega) (by omega)];congr 1;omega
  ·rw [if_neg (by omega), if_neg (by omega), if_neg (by rw [hb]; decide), if_neg (by rw [hc]; decide), hl] at hq;exact ih (j + 1) d true t H (by omega) (by omega) (by omega) (by omega) hq hw f0 f1 f7 f9 f10
  ·rw [if_neg (by omega), if_neg (by omega), if_neg (by rw [hb]; decide), if_neg (by rw [hc]; decide), hl, Bool.false_or] at hq;exact ih (j + 1) d _ t H (by omega) (by omega) (by omega) (by omega) hq hw f0 f1 f7 f9 f10
  ·have hd0 : d = 0 := by omega
   rw [if_pos hd0] at hq;subst hq;refine ⟨by omega, by omega, by omega, .inl ⟨_, hvd _ (by rw [List.length_drop, List.length_take]; omega), fun hx t hw f0 f1 f7 f9 f10 => hfin rfl hx t H hw f0 f1 f7, fun hx => ?_⟩⟩;exact hbad (.inr (by rw [show zfQ s f j = (s.take j).drop f from rfl, hx]; decide))
include hC hsl hbg hvd in
theorem ztW : ∀ (n i : Nat) (l : Bool) (t : Tm) (H : zaa), s.length < n + i → i ≤ s.length → t.wid = Tryz.f32.ntmps → t.get 0 = .s s → t.get 1 = .i .i64 (i : Nat) → t.get 7 = .b l →
    ctx Tryz.prog TT [true, true, false, false, false] (zae Tryz.f32) (za1 TT Tryz.f32 (isR (.val (zvB (zbC s n i l))))) (.norm t H) := by
  intro n
  induction n with
  | zero => intro i l t H h1 h2; omega
  | succ n ih =>
    intro i l t H hn hi hw t0 t1 t7
    refine zaP.symIn (p := [true, true, false, false]) zah hC rfl zxd (by kernel_rfl) [.us s, .ui (i : Nat), .ub l, .uh H] rfl hw ⟨t0, t1, t7, trivial⟩ rfl (zaW _ _) ?_
    clear t0 t1 t7 hw
    simp -implicitDefEqProofs only [VC, isR, exU, Ask.den, forall_eq, E.den, O1.den, O2.den, O3.den, U.int_ui, U.boo_ub, U.val_uv, U.lst_ul, U.str_us, U.nat_un, U.heap_uh, SH.den, zaF, zbH, bD, SB.den, zas, LQ, List.cons_append, List.nil_append, List.getElem?_cons_zero, List.getElem?_cons_succ, Option.getD_some, zam, zai, zan, zaj, beq_iff_eq, bne_iff_ne, beq_eq_false_iff_ne, Int.toNat_natCast]
    have w1 : IntKind.i64.wrap ((i : Int) + 1) = ((i + 1 : Nat) : Int) := by rw [zak (by omega) (by omega)]; omega
    have w2 : IntKind.i64.wrap ((i : Int) + 2) = ((i + 2 : Nat) : Int) := by rw [zak (by omega) (by omega)]; omega
    simp only [w1, w2, Int.toNat_natCast, zl2]
    have sp : (atR s i = 32 ∨ atR s i = 9 ∨ atR s i = 13) → i < s.length → atR s i ≠ 10 → ∀ t : Tm, t.wid = Tryz.f32.ntmps → t.get 0 = .s s → t.get 1 = .i .i64 ((i + 1 : Nat) : Int) → t.get 7 = .b l → ctx Tryz.prog TT [true, true, false, false, false] (zae Tryz.f32) (za1 TT Tryz.f32 (isR (.val (zvB (zbC s (n + 1) i l))))) (.norm t H) := fun hb hlt h10 t hw f0 f1 f7 => by
      have e : zbC s (n + 1) i l = zbC s n (i + 1) l := by
        simp only [zbC]
        rw [if_neg (show ¬ s.length ≤ i by omega), if_neg (by rw [beq_iff_eq]; exact h10), if_pos (by rcases hb with h | h | h <;> simp [h])]
      rw [e]
      exact ih (i + 1) l t H (by omega) (by omega) hw f0 f1 f7
    refine ⟨fun h => ⟨by omega, fun h10 t hw f0 f1 f7 => ?_, fun h10 => ⟨fun h32 => sp (.inl h32) (by omega) h10, fun h32 => ⟨fun h9 => sp (.inr (.inl h9)) (by omega) h10, fun h9 => ⟨fun h13 => sp (.inr (.inr h13)) (by omega) h10, fun h13 => ?_⟩⟩⟩⟩, fun h => ?_⟩
    · have e : zbC s (n + 1) i l = zbC s n (i + 1) true := by
        simp only [zbC]
        rw [if_neg (show ¬ s.length ≤ i by omega), if_pos (by rw [beq_iff_eq]; exact h10)]
      rw [e]
      exact ih (i + 1) true t H (by omega) (by omega) hw f0 f1 f7
    · have e0 : zbC s (n + 1) i l = (if zdh s i [47, 47] = true then (if Lib.validD (zfQ s i (i + lnL (s.drop i))) = true then zbC s n (i + lnL (s.drop i)) l else (i, l, i))
          else if zdh s i [47, 42] = true then (if (cmF s (s.length + 1) (i + 2) 1 l).1 = true then
            (if Lib.validD (zfQ s i (cmF s (s.length + 1) (i + 2) 1 l).2.1) = true then zbC s n (cmF s (s.length + 1) (i + 2) 1 l).2.1 (cmF s (s.length + 1) (i + 2) 1 l).2.2 else (i, (cmF s (s.length + 1) (i + 2) 1 l).2.2, i))
            else (i, (cmF s (s.length + 1) (i + 2) 1 l).2.2, i))
          else (i, l, -1)) := by
        simp only [zbC]
        rw [if_neg (show ¬ s.length ≤ i by omega), if_neg (by rw [beq_iff_eq]; exact h10), if_neg (by simp [h32, h9, h13])]
      rw [e0]
      refine .inl ⟨_, hbg i 47 47 (by omega), fun hb t hw f0 f1 f7 f8 => ?_, fun hb => .inl ⟨_, hbg i 47 42 (by omega), fun hc t hw f0 f1 f7 f9 f10 => ?_, fun hc => ?_⟩⟩
      · have h1 := zpC hb
        have h2 := zmq (s.drop i)
        rw [List.length_drop] at h2
        rw [if_pos hb]
        refine Tri.symLoop rfl (ztZ hC s hsl hvd _ i l (fun hv t H hw f0 f1 f7 => ?_) (fun hv => by rw [if_neg hv]) (s.length + 1) i t H (by omega) (by omega) hi rfl hw f0 f1 f7 f8)
        rw [if_pos hv]
        exact ih _ l t H (by omega) (by omega) hw f0 f1 f7
      · have h1 := zbB hc
        simp only [List.length_cons, List.length_nil] at h1
        have h2 := zhL s (s.length + 1) (i + 2) 1 l (by omega)
        rw [if_neg (by rw [hb]; decide), if_pos hc]
        refine Tri.symLoop rfl (ztX hC s hsl hbg hvd _ i (cmF s (s.length + 1) (i + 2) 1 l) (fun hq hv t H hw f0 f1 f7 => ?_) (fun hv => ?_) (s.length + 1) (i + 2) 1 l t H (by omega) (by omega) (by omega) (by omega) rfl hw f0 f1 f7 f9 f10)
        · rw [if_pos hq, if_pos hv]
          exact ih _ _ t H (by omega) (by omega) hw f0 f1 f7
        · rcases hv with hv | hv
          · rw [if_neg (by rw [hv]; decide)]
          · rw [if_neg hv]
            split <;> rfl
      · rw [if_neg (by rw [hb]; decide), if_neg (by rw [hc]; decide)]
        rfl
    · have e : zbC s (n + 1) i l = (i, l, -1) := by
        simp only [zbC]
        rw [if_pos (show s.length ≤ i by omega)]
      rw [e]
      rfl
include hC hsl hbg hvd in
theorem zor (i : Nat) (hi : i ≤ s.length) : zaI Tryz.prog TT 32 [.s s, .i .i64 i] (fun r => r = .val (zvB (zbC s (s.length + 1) i false))) := by
 apply zaO.is;refine zaO.sym zah hC (fn := Tryz.f32) rfl rfl (by simp [Tryz.f32]) zxc (by kernel_rfl) [.us s, .ui (i : Nat), .uh []] rfl ⟨by rw [zag]; rfl, by rw [zag]; rfl, trivial⟩ rfl (zaW _ _) ?_;simp -implicitDefEqProofs only [VC, isR, exU, Ask.den, forall_eq, E.den, O1.den, O2.den, O3.den, U.int_ui, U.boo_ub, U.val_uv, U.lst_ul, U.str_us, U.nat_un, U.heap_uh, SH.den, zaF, zbH, bD, SB.den, zas, LQ, List.cons_append, List.nil_append, List.getElem?_cons_zero, List.getElem?_cons_succ, Option.getD_some, zam, zai, zan, zaj, beq_iff_eq, bne_iff_ne, beq_eq_false_iff_ne, Int.toNat_natCast];intro t hw t0 t1 t7;exact Tri.symLoop rfl (ztW hC s hsl hbg hvd (s.length + 1) i false t _ (by omega) hi hw t0 t1 t7)
end
theorem znX:∃g,zap prog TT 36 g∧∀s:List UInt8,s.length<100000000→∀H,g [.s s] H=.val (.b (Lib.validD s)) H:=⟨zjt,zy5,fun s hs H=>by
 have:s.length<4294967281:=by omega
 simp only[zjt];rw[if_pos this]⟩
theorem zgu (s:List UInt8):∀(n i:Nat)(l:Bool),i≤s.length→i≤(zbC s n i l).1∧(zbC s n i l).1≤s.length
 |0,i,l,h=>⟨Nat.le_refl _,h⟩
 |n+1,i,l,h=>by
  simp only[zbC];split
  ·exact⟨Nat.le_refl _,h⟩
  split
  ·have:=zgu s n (i+1) true (by omega);omega
  split
  ·have:=zgu s n (i+1) l (by omega);omega
  split
  ·have h1:=zmq (s.drop i);rw[length_drop]at h1;split
   ·have:=zgu s n (i+lnL (s.drop i)) l (by omega);omega
   ·exact⟨Nat.le_refl _,h⟩
  split
  ·rename_i hb;have hb:=zbB hb;simp only[length_cons,length_nil]at hb;have h1:=zhL s (s.length+1) (i+2) 1 l (by omega);split
   ·split
    ·have:=zgu s n (cmF s (s.length+1) (i+2) 1 l).2.1 (cmF s (s.length+1) (i+2) 1 l).2.2 (by omega);omega
    ·exact⟨Nat.le_refl _,h⟩
   ·exact⟨Nat.le_refl _,h⟩
  ·exact⟨Nat.le_refl _,h⟩
theorem zwx:∃g,zap prog TT 32 g∧∀(s:List UInt8)(i:Nat),s.length<100000000→i≤s.length→∀H,g [.s s,.i .i64 i] H=.val (.tup [.i .i64 (zbC s (s.length+1) i false).1,.b (zbC s (s.length+1) i false).2.1,.i .i64 (zbC s (s.length+1) i false).2.2]) H:=by
 obtain⟨g1,k1,s1⟩:=zqp;obtain⟨g2,k2,s2⟩:=znX;obtain⟨g,k,s⟩:=zbh zah zat 32 (fun p:List UInt8×Nat=>[.s p.1,.i .i64 p.2]) (fun p=>p.1.length<100000000∧p.2≤p.1.length) (fun p=>.tup [.i .i64 (zbC p.1 (p.1.length+1) p.2 false).1,.b (zbC p.1 (p.1.length+1) p.2 false).2.1,.i .i64 (zbC p.1 (p.1.length+1) p.2 false).2.2]) (fun p _=>by simp[nlL,nl]) (fun _=>by simp[nl,nlL]) (fun a b h=>by
  simp only[List.cons.injEq,V.s.injEq,V.i.injEq,true_and,and_true]at h;rw[h.1,show a.2=b.2 from by omega]) (fun p hp=>zaI.of1 (zor (ws (ws n0 k1) k2) p.1 hp.1 (fun i a b hi H=>by
   rw[zac _ _ _ _ rfl,zao];exact s1 p.1 i [a,b] (by omega) (by simp) H) (fun x hx H=>by
   rw[zao];exact s2 x hx H) p.2 hp.2))
 exact⟨g,k,fun a i h1 h2 H=>s (a,i) ⟨h1,h2⟩ H⟩
def zhF (s:List UInt8):Nat→Nat→Option Nat
 |0,_=>none
 |n+1,k=>if k+3≤s.length then(if((s.take (k+3)).drop k==[34,34,34])=true then some k else zhF s n (k+1))else none
theorem zje (s:List UInt8):∀(n k j:Nat),zhF s n k=some j→k≤j∧j+3≤s.length
 |0,k,j,h=>by cases h
 |n+1,k,j,h=>by
  simp only[zhF]at h;split at h
  ·split at h
   ·cases h;omega
   ·have:=zje s n (k+1) j h;omega
  ·cases h
def zr8 (s:List UInt8)(i:Nat):V:=match zhF s (s.length+1) (i+3)with
 |none=>.tup [.s [],.i .i64 0,.b false]
 |some k=>.tup [.s (zfQ s (i+3) k),.i .i64 ((k+3:Nat):Int),.b (Lib.validD (zfQ s (i+3) k))]
theorem zrO {call:zad}(hC:call.Sound prog TT)(s:List UInt8)(i:Nat)(hsl:s.length<100000000)(hil:i≤s.length)(hvd:∀x:List UInt8,x.length<100000000→∀H,call 36 [.s x] H=.val (.b (Lib.validD x)) H){Q:Out→Prop}:∀(n k:Nat)(t:Tm)(H:zaa),s.length+4-k<n+4→i+3≤k∧k≤s.length+3 →
 t.wid=36→t.get 0=.s s→t.get 1=.i .i64 i→t.get 7=.i .i64 k →
 (∀(t':Tm)(H':zaa),t'.wid=36→zhF s n k=none→Q (.exit 0 t' H')) →
 (∀(t':Tm)(H':zaa)(j:Nat),zhF s n k=some j→t'.get 4=.s (zfQ s (i+3) j)→t'.get 5=.i .i64 ((j+3:Nat):Int)→t'.get 6=.b (Lib.validD (zfQ s (i+3) j))→Q (.ret t' H')) →
 zaP prog TT (sub [true,false,true,false,false] (zae f59)) t H Q:=by
 intro n;induction n with
 |zero=>
  intro k t H hn hk hw h0 h1 h7 hE hR;have hwk:IntKind.i64.wrap ((k:Int)+3)=(k:Int)+3:=zak (by omega) (by omega);have hge:¬(k:Int)+3≤s.length:=by omega
  have hres:zhF s 0 k=none:=rfl;have hF:=ai @h0 (ai @h1 (ai @h7 (ai @hwk @hge)));refine zaP.round' ?_;apply sQ;apply rS hC
  ·iterate 5 refine oA ?_
   rfl
  refine cF (by simp[hF]<;>rfl) ?_;refine Tri.exit ?_;refine zaA ?_;refine zaz ?_;exact hE _ _ (by simp[hw]) hres
 |succ n ih=>
  intro k t H hn hk hw h0 h1 h7 hE hR;have hwk:IntKind.i64.wrap ((k:Int)+3)=(k:Int)+3:=zak (by omega) (by omega);by_cases hlt2:k+3≤s.length
  ·have hlt:(k:Int)+3≤s.length:=by omega
   have hwi:IntKind.i64.wrap ((i:Int)+3)=(i:Int)+3:=zak (by omega) (by omega);have hwk1:IntKind.i64.wrap ((k:Int)+1)=(k:Int)+1:=zak (by omega) (by omega);have b1:(0:Int)≤(k:Int)+3:=by omega
   have b2:((k:Int)+3).toNat=k+3:=by omega
   have b3:(k:Int)≤(k:Int)+3:=by omega
   have b4:k≤k+3:=by omega
   have c1:(0:Int)≤(i:Int)+3:=by omega
   have c2:((i:Int)+3).toNat=i+3:=by omega
   have c3:(i:Int)+3≤k:=by omega
   have c4:k≤s.length:=by omega
   have hva:=hvd (zfQ s (i+3) k) (by simp[zfQ];omega);unfold zfQ at hva;cases heq:((s.take (k+3)).drop k==[34,34,34])with
   |true=>
    have hres:zhF s (n+1) k=some k:=by simp only[zhF];rw[if_pos hlt2,if_pos heq]
    have hF:=And.intro c3<|And.intro c4<|ai @h0 (ai @h1 (ai @h7 (ai @hwk (ai @hlt (ai @heq (ai @hwi (ai @hva (ai @c1 (ai @c2 (ai @b1 (ai @b2 (ai @b3 @b4))))))))))));refine zaP.round' ?_;apply sQ;apply rS hC
    ·iterate 5 refine oA ?_
     rfl
    refine cT (by simp[hF]<;>rfl) ?_;apply Tri.skip;apply sN;apply sQ;apply bK;apply rS hC
    ·iterate 6 refine oA ?_
     rfl
    refine cT (by simp[hF]<;>rfl) ?_;apply sQ;refine Tri.regN (t':=?th5) (H':=?Hh5) zah hC ?eh5 ?qh5;case eh5=>
     refine zbT (t':=?th5) (by kernel_rfl) ?_ ?rh905;iterate 16 refine QR.val rfl (by simp[hF]<;>rfl) (by rfl) (by simp[hw]) ?_
     exact QR.nil;case rh905=>exact rfl
    apply sN;apply Tri.ret;apply bR;apply sR;refine zcf ?_;exact hR _ _ k hres (by simp[zfQ]) (by simp) (by simp[zfQ])
   |false=>
    have hres:zhF s (n+1) k=zhF s n (k+1):=by simp only[zhF];rw[if_pos hlt2,if_neg (by rw[heq];simp)]
    have hF:=ai @h0 (ai @h1 (ai @h7 (ai @hwk (ai @hlt (ai @heq (ai @hwk1 (ai @b1 (ai @b2 (ai @b3 @b4)))))))));refine zaP.round' ?_;apply sQ;apply rS hC
    ·iterate 5 refine oA ?_
     rfl
    refine cT (by simp[hF]<;>rfl) ?_;apply Tri.skip;apply sN;apply sQ;apply bK;apply rS hC
    ·iterate 6 refine oA ?_
     rfl
    refine cF (by simp[hF]<;>rfl) ?_;apply Tri.skip;apply bN;apply sN;apply rN hC
    ·iterate 3 refine oA ?_
     rfl
    refine zar ?_;refine ih (k+1) _ _ (by omega) (by omega) (by simp[hw]) (by simp[h0]) (by simp[h1]) (by simp) (fun t' H' k1 k2=>hE t' H' k1 (by rw[hres];exact k2)) (fun t' H' j k2=>hR t' H' j (by rw[hres];exact k2))
  ·have hge:¬(k:Int)+3≤s.length:=by omega
   have hres:zhF s (n+1) k=none:=by simp only[zhF];rw[if_neg hlt2]
   have hF:=ai @h0 (ai @h1 (ai @h7 (ai @hwk @hge)));refine zaP.round' ?_;apply sQ;apply rS hC
   ·iterate 5 refine oA ?_
    rfl
   refine cF (by simp[hF]<;>rfl) ?_;refine Tri.exit ?_;refine zaA ?_;refine zaz ?_;exact hE _ _ (by simp[hw]) hres
theorem zos {call:zad}(hC:call.Sound prog TT)(s:List UInt8)(i:Nat)(hsl:s.length<100000000)(hil:i≤s.length)(hwi:IntKind.i64.wrap ((i:Int)+3)=(i:Int)+3)(hvd:∀x:List UInt8,x.length<100000000→∀H,call 36 [.s x] H=.val (.b (Lib.validD x)) H)  : zaI prog TT 59 [.s s,.i .i64 i] (fun r=>r=.val (zr8 s i)):=by
 refine en f59 rfl rfl (by simp[f59]) 36 rfl fun t hw hg=>?_;have h0:=hg 0 _ rfl;have h1:=hg 1 _ rfl;clear hg;try simp only[Nd.enc_eq]at *
 have hF:=ai @h0 (ai @h1 @hwi);apply rS hC
 ·iterate 3 refine oA ?_
  rfl
 apply sQ;apply rS hC
 ·iterate 3 refine oA ?_
  rfl
 apply bK;refine Tri.loop ?_;refine zrO hC s i hsl hil hvd (s.length+1) (i+3) _ _ (by omega) (by omega) (by simp[hw]) (by simp[h0]) (by simp[h1]) (by simp[hwi]) ?exit ?ret;case exit=>
  intro t2 H2 hw hr;have q4:True:=trivial;have q5:True:=trivial;have q6:True:=trivial;refine zaw ?_;apply sN;apply rS hC
  ·iterate 3 refine oA ?_
   rfl
  apply Tri.ret;simp only[zr8,hr];refine zbo (by simp[f59,q4,q5,q6]<;>rfl) (by rfl) ?_;first
   |rfl
   |simp
 case ret=>
  intro t2 H2 j hr q4 q5 q6;apply bR;apply sR;simp only[zr8,hr];refine zbo (by simp[f59,q4,q5,q6]<;>rfl) (by rfl) ?_;first
   |rfl
   |simp
def zoc (s:List UInt8)(esc:Nat→Option (List UInt8×Nat))(mk:Int):Nat→Nat→List UInt8→Option (List UInt8×Nat)
 |0,_,_=>none
 |n+1,i,out=>if s.length≤i then none else if((atR s i==10):Bool)=true then none
  else if((atR s i==mk):Bool)=true then some (out,i+1)
  else if((atR s i==92):Bool)=true then(match esc i with|some p=>zoc s esc mk n p.2 (out++p.1)|none=>none)
  else zoc s esc mk n (i+1) (out++(s.take (i+1)).drop i)
def zlc:Option (List UInt8×Nat)→V
 |some p=>.tup [.s p.1,.i .i64 p.2,.b true]
 |none=>.tup [.s [],.i .i64 0,.b false]
def zwh:Option (List UInt8×Nat)→V
 |some p=>.tup [.s p.1,.i .i64 p.2,.b (Lib.validD p.1)]
 |none=>.tup [.s [],.i .i64 0,.b false]
def zei:Option (List UInt8×Nat)→List UInt8×Nat×Bool
 |some p=>(p.1,p.2,Lib.validD p.1)
 |none=>([],0,false)
theorem zxt:za2 TT shf f60.ntmps [] (zae f60) [] ⟨[(0,.f1 .vs (.va 0)),(1,.f1 (.vi .i64) (.va 1)),(2,.f1 (.vi .u8) (.va 2))],⟨.va 3,[],[]⟩,4,[]⟩ (KF TT f60 [0,1,2,9])=.leaf (.stop [true,true,true,false,false]) [(0,xs v0),(1,xi (xw (xa v1 c1))),(2,xu v2),(9,xs (.cs []))] ⟨v3,[],[]⟩:=by kernel_rfl
theorem zxu:goT TT shf f60.ntmps [] [true,true,true,false,false,false] (zae f60) [] ⟨[(0,.f1 .vs (.va 0)),(1,.f1 (.vi .i64) (.va 1)),(2,.f1 (.vi .u8) (.va 2)),(9,.f1 .vs (.va 3))],⟨.va 4,[],[]⟩,5,[]⟩ (KF TT f60 [0,1,2,9])=let qf:E:=xA v0 v1;let qb:E:=xw (xa v1 c1);let qc:SH:=⟨v4,[],[]⟩;let qd:E:=xc 9223372036854775807;let qa:Tree:=.fin (xt (x3 (xs (.cs [])) (xi c0) (xb (.cb false)))) qc;let qe:E:=.f3 .sub v0 v1 qb;.ite (xL v1 (xl v0)) (.need (xE c0 v1) (.ite (xM qf c10) (.ite (xe qf v2) (.asks (.call 36 (x1 (xs v3))) [.b] (xb v5) (.fin (xt (x3 (xs v3) (xi qb) (xb v5))) qc) (.stuck 0)) (.ite (xe qf (xc 92)) (.asks (.call 85 (x2 (xs v0) (xi v1))) [.s,.i,.b] (xt (x3 (xs v5) (xi v6) (xb v7))) (.ite v7 (.need (xE (xa (xl v3) (xl v5)) qd) (.leaf (.again [true,true,true,false,false,false]) [(0,xs v0),(1,xi v6),(2,xu v2),(9,xs (xP v3 v5))] qc)) qa) (.stuck 0)) (.need (xE v1 qb) (.need (xE qb (xl v0)) (.need (xE (xa (xl v3) (xl qe)) qd) (.leaf (.again [true,true,true,false,false,false]) [(0,xs v0),(1,xi qb),(2,xu v2),(9,xs (xP v3 qe))] qc)))))) qa)) qa:=by kernel_rfl
theorem zpR (r:Option (List UInt8×Nat)):zwh r=.tup [.s (zei r).1,.i .i64 (zei r).2.1,.b (zei r).2.2]:=by cases r<;>rfl
theorem ztC (s:List UInt8)(i:Nat)(h:i<s.length):((s.take (i+1)).drop i).length=1:=by rw[length_drop,length_take];omega
theorem zt0 {call:zad}(hC:call.Sound prog TT)(s:List UInt8)(esc:Nat→Option (List UInt8×Nat))(mk:Int)(hsl:s.length<100000000)(hvd:∀x:List UInt8,x.length≤4*s.length→∀H,call 36 [.s x] H=.val (.b (Lib.validD x)) H)
 (hesc:∀i:Nat,i<s.length→∀H,call 85 [.s s,.i .i64 i] H=.val (zlc (esc i)) H)(hej:∀(i:Nat)(tx:List UInt8)(j:Nat),i<s.length→esc i=some (tx,j)→i<j∧j≤s.length∧tx.length≤4) :
 ∀(n i:Nat)(out:List UInt8)(t:Tm)(H:zaa),s.length<n+i→i≤s.length→out.length≤4*i→t.wid=f60.ntmps→t.get 0=.s s→t.get 1=.i .i64 (i:Nat)→t.get 2=.i .u8 mk→t.get 9=.s out →
 ctx prog TT [true,true,true,false,false,false] (zae f60) (za1 TT f60 (isR (.val (zwh (zoc s esc mk n i out))))) (.norm t H):=by
 intro n;induction n with
 |zero=>intro i out t H h1 h2;omega
 |succ n ih=>
  intro i out t H hn hi ho hw t0 t1 t2 t9;refine zaP.symIn (p:=[true,true,true,false,false]) zah hC rfl zxu (by kernel_rfl) [.us s,.ui (i:Nat),.ui mk,.us out,.uh H] rfl hw ⟨t0,t1,t2,t9,trivial⟩ rfl (zaW _ _) ?_;clear t0 t1 t2 t9 hw;simp -implicitDefEqProofs only[VC,isR,exU,Ask.den,forall_eq,E.den,O1.den,O2.den,O3.den,U.int_ui,U.boo_ub,U.val_uv,U.lst_ul,U.str_us,U.nat_un,U.heap_uh,SH.den,zaF,zbH,bD,SB.den,zas,LQ,cons_append,nil_append,List.getElem?_cons_zero,List.getElem?_cons_succ,Option.getD_some,zam,zai,zan,zaj,beq_iff_eq,bne_iff_ne,beq_eq_false_iff_ne,Int.toNat_natCast];have w1:IntKind.i64.wrap ((i:Int)+1)=((i+1:Nat):Int):=by rw[zak (by omega) (by omega)];omega
  simp only[w1,Int.toNat_natCast,zl2,zoc,beq_iff_eq];refine⟨fun h=>?_,fun h=>by rw[if_pos (show s.length≤i by omega)];rfl⟩;rw[if_neg (show ¬s.length≤i by omega)];have hc:=ztC s i (by omega);refine⟨by omega,fun h10=>?_,fun h10=>by rw[if_pos (by simpa using h10)];rfl⟩;rw[if_neg h10];refine⟨fun hm=>.inl ⟨_,hvd out (by omega),by rw[if_pos hm];rfl⟩,fun hm=>?_⟩;rw[if_neg hm];refine⟨fun h92=>?_,fun h92=>?_⟩
  ·rw[if_pos h92];have he:=hesc i (by omega);cases hq:esc i with
   |none=>
    rw[hq]at he;exact .inl ⟨_,_,_,he,fun h=>(by cases h),fun _=>rfl⟩
   |some p=>
    rw[hq]at he;have hj:=hej i p.1 p.2 (by omega) hq;exact .inl ⟨_,_,_,he,fun _=>⟨by omega,fun t hw f0 f1 f2 f9=>ih p.2 _ t H (by omega) hj.2.1 (by rw[length_append];omega) hw f0 f1 f2 f9⟩,fun h=>by cases h⟩
  ·rw[if_neg h92];exact⟨by omega,by omega,by rw[hc];omega,fun t hw f0 f1 f2 f9=>ih (i+1) _ t H (by omega) (by omega) (by rw[length_append,hc];omega) hw f0 f1 f2 f9⟩
theorem zot {call:zad}(hC:call.Sound prog TT)(s:List UInt8)(esc:Nat→Option (List UInt8×Nat))(mk:Int)(i:Nat)(hil:i<s.length)(hwi:IntKind.i64.wrap ((i:Int)+1)=(i:Int)+1)(hsl:s.length<100000000)(hvd:∀x:List UInt8,x.length≤4*s.length→∀H,call 36 [.s x] H=.val (.b (Lib.validD x)) H)
 (hesc:∀i:Nat,i<s.length→∀H,call 85 [.s s,.i .i64 i] H=.val (zlc (esc i)) H)(hej:∀(i:Nat)(tx:List UInt8)(j:Nat),i<s.length→esc i=some (tx,j)→i<j∧j≤s.length∧tx.length≤4)  : zaI prog TT 60 [.s s,.i .i64 i,.i .u8 mk] (fun r=>r=.val (zwh (zoc s esc mk (s.length+1) (i+1) []))):=by
 apply zaO.is;refine zaO.sym zah hC (fn:=f60) rfl rfl (by simp[f60]) zxt (by kernel_rfl) [.us s,.ui (i:Nat),.ui mk,.uh []] rfl ⟨by rw[zag];rfl,by rw[zag];rfl,by rw[zag];rfl,trivial⟩ rfl (zaW _ _) ?_;simp -implicitDefEqProofs only[VC,isR,exU,Ask.den,forall_eq,E.den,O1.den,O2.den,O3.den,U.int_ui,U.boo_ub,U.val_uv,U.lst_ul,U.str_us,U.nat_un,U.heap_uh,SH.den,zaF,zbH,bD,SB.den,zas,LQ,cons_append,nil_append,List.getElem?_cons_zero,List.getElem?_cons_succ,Option.getD_some,zam,zai,zan,zaj,beq_iff_eq,bne_iff_ne,beq_eq_false_iff_ne,Int.toNat_natCast];rw[hwi];intro t hw t0 t1 t2 t9;exact Tri.symLoop rfl (zt0 hC s esc mk hsl hvd hesc hej (s.length+1) (i+1) [] t _ (by omega) (by omega) (by simp) hw t0 (by rw[t1];rfl) t2 t9)
def zjY (c:Int)(ok:Bool):List UInt8→List UInt8→Option (List UInt8)
 |x::xs,y::ys=>if((c==(x.toNat:Int))&&ok)=true then some [y]else zjY c ok xs ys
 |_,_=>none
def zkd (s:List UInt8)(i:Nat):Nat→Nat→Int→Option Int
 |0,_,n=>some n
 |m+1,k,n=>if zbA (atR s (i+2+k)) 16<0 then none else zkd s i m (k+1) (n*16+zbA (atR s (i+2+k)) 16)
theorem zo0:∀c:Int,0≤c→c<256→zbA c 16<16∧-1≤zbA c 16:=fun c h0 h1=>by
 obtain⟨k,rfl,hk⟩:=zej (p:=fun c=>decide (zbA (c:Int) 16<16∧-1≤zbA (c:Int) 16)) (n:=256) (by decide +kernel) h0 h1;simpa using hk
def zlb (i m:Nat)(v:Int):Option (List UInt8×Nat):=
 if((((((m:Int)==0)||(((m:Int)==2)&&decide (127<v)))||decide (1114111<v)))||(decide (55296≤v)&&decide (v<57344)))=true then none else some (zdN [v],i+2+m)
theorem zsH {n:Int}(h1:-2147483648≤n)(h2:n<2147483648):IntKind.i32.wrap n=n:=by
 have e:(2:Int)^IntKind.i32.bits=4294967296:=rfl;have e2:(2:Int)^(IntKind.i32.bits-1)=2147483648:=rfl;simp only[IntKind.wrap,e,e2,IntKind.signed,Bool.true_and,decide_eq_true_eq];split<;>omega
theorem zx6 (v:Int)(H:zaa):zaK TT 95 1 [(0,.i .i32 v)] H=.val (.sl H.length 1 0 1 (some 1)) (H++[some {ty:=21,cells:=[.i .i32 v],kind:=.all}]):=by
 have e1:TT.und 95=some (.slice 21):=rfl;have e2:TT.size 21=some 1:=rfl;have e3:TT.zero 21=some (.i .i32 0):=rfl;simp only[zaK,e1,e2,e3];simp[zgk,zer,splice,za0,V.cells]
theorem zx7 (v:Int)(H:zaa):zaN TT 95 9 (.sl H.length 1 0 1 (some 1)) (H++[some {ty:=21,cells:=[.i .i32 v],kind:=.all}])=.val (.s (zdN [v])) (H++[some {ty:=21,cells:=[.i .i32 v],kind:=.all}]):=by
 have e1:TT.und 95=some (.slice 21):=rfl;have e2:TT.und 9=some .string:=rfl;have e3:TT.und 21=some (.int .i32):=rfl;simp only[zaN,e1,e2,e3];simp[zau,cut,zie]
def zye:Option (List UInt8×Nat)→List UInt8×Int×Bool
 |some p=>(p.1,p.2,true)
 |none=>([],0,false)
def zd0 (c:Int):Nat:=if(c==120)=true then 2 else if(c==117)=true then 4 else if(c==85)=true then 6 else 0
def znr:List UInt8:=[110,116,114,48,92,34,39]
def znq:List UInt8:=[10,9,13,0,92,34,39]
def zoa (s:List UInt8)(i:Nat):Option (List UInt8×Nat):=
 match zjY (atR s (i+1)) (decide ((i:Int)+1<s.length)) znr znq with
 |some t=>some (t,i+2)
 |none=>match zkd s i (zd0 (atR s (i+1))) 0 0 with
  |none=>none
  |some v=>zlb i (zd0 (atR s (i+1))) v
theorem ztM (r:Option (List UInt8×Nat)):zlc r=.tup [.s (zye r).1,.i .i64 (zye r).2.1,.b (zye r).2.2]:=by cases r<;>rfl
theorem zxq:za2 TT shf f85.ntmps [] (zae f85) [] ⟨[(0,.f1 .vs (.va 0)),(1,.f1 (.vi .i64) (.va 1))],⟨.va 2,[],[]⟩,3,[]⟩ (KF TT f85 [0,1,7,8,9])=.leaf (.stop [true,true,true,false,true,false]) [(0,xs v0),(1,xi v1),(7,xs (.cs [110,116,114,48,92,34,39])),(8,xs (.cs [10,9,13,0,92,34,39])),(9,xi c0)] ⟨v2,[],[]⟩:=by kernel_rfl
theorem zs7:goT TT shf f85.ntmps [] [true,true,true,false,true,false,false] (zae f85) [] ⟨[(0,.f1 .vs (.va 0)),(1,.f1 (.vi .i64) (.va 1)),(7,.f1 .vs (.cs [110,116,114,48,92,34,39])),(8,.f1 .vs (.cs [10,9,13,0,92,34,39])),(9,.f1 (.vi .i64) (.va 2))],⟨.va 3,[],[]⟩,4,[]⟩ (KF TT f85 [0,1,7,8,9,10,11,12])=let qh:E:=xs v0;let qg:E:=x2 qh (xi (xw (xa v1 c1)));let qb:E:=.cs [110,116,114,48,92,34,39];let qf:E:=xw (xa v2 c1);let qc:E:=.cs [10,9,13,0,92,34,39];let qd:SH:=⟨v3,[],[]⟩;let qi:E:=xi v1;let qj:E:=xs qb;let qk:E:=xs qc;let qa:Tree:=.leaf (.again [true,true,true,false,true,false,false]) [(0,qh),(1,qi),(7,qj),(8,qk),(9,xi qf)] qd;let qe:E:=xi c0;.ite (xL v2 (xc 7)) (.asks (.call 64 qg) [.i] (xu v4) (.need (xE c0 v2) (.ite (xe v4 (xA qb v2)) (.ite (xL (xw (xa v1 c1)) (xl v0)) (.need (xE v2 qf) (.need (xE qf (xc 7)) (.fin (xt (x3 (xs (.f3 .sub qc v2 qf)) (xi (xw (xa v1 c2))) (xb (.cb true)))) qd))) qa) qa)) (.stuck 0)) (.asks (.call 64 qg) [.i] (xu v4) (.ite (xe v4 (xc 120)) (.leaf (.stop [true,true,true,true,true,true,true,false,true,false]) [(0,qh),(1,qi),(7,qj),(8,qk),(9,xi v2),(10,xi c2),(11,qe),(12,qe)] qd) (.ite (xe v4 (xc 117)) (.leaf (.stop [true,true,true,true,true,true,true,false,true,false]) [(0,qh),(1,qi),(7,qj),(8,qk),(9,xi v2),(10,xi (xc 4)),(11,qe),(12,qe)] qd) (.ite (xe v4 (xc 85)) (.leaf (.stop [true,true,true,true,true,true,true,false,true,false]) [(0,qh),(1,qi),(7,qj),(8,qk),(9,xi v2),(10,xi (xc 6)),(11,qe),(12,qe)] qd) (.leaf (.stop [true,true,true,true,true,true,true,false,true,false]) [(0,qh),(1,qi),(7,qj),(8,qk),(9,xi v2),(10,qe),(11,qe),(12,qe)] qd)))) (.stuck 0)):=by kernel_rfl
theorem zs8:goT TT shf f85.ntmps [26] [true,true,true,true,true,true,true,false,true,false,false] (zae f85) [] ⟨[(0,.f1 .vs (.va 0)),(1,.f1 (.vi .i64) (.va 1)),(10,.f1 (.vi .i64) (.va 2)),(11,.f1 (.vi .i64) (.va 3)),(12,.f1 (.vi .i64) (.va 4))],⟨.va 5,[],[]⟩,6,[]⟩ (KF TT f85 [0,1,10,11,12])=let qd:SH:=⟨v5,[],[]⟩;let qb:Tree:=.fin (xt (x3 (xs (.cs [])) (xi c0) (xb (.cb false)))) qd;let qc:Tree:=.leaf (.stop [true,true,true,true,true,true,true,true,true,false]) [(0,xs v0),(1,xi v1),(10,xi v2),(11,xi v3),(12,xi v4)] qd;let qa:Tree:=.ite (xG v3 (xc 1114111)) qb (.ite (xH v3 (xc 55296)) (.ite (xL v3 (xc 57344)) qb qc) qc);.ite (xL v4 v2) (.asks (.call 64 (x2 (xs v0) (xi (xw (xa (xw (xa v1 c2)) v4))))) [.i] (xu v6) (.asks (.call 57 (x2 (xu v6) (xi (xc 16)))) [.i] (xi v7) (.ite (xL v7 c0) qb (.leaf (.again [true,true,true,true,true,true,true,false,true,false,false]) [(0,xs v0),(1,xi v1),(10,xi v2),(11,xi (xw (xa (xw (.f2 .mul v3 (xc 16))) v7))),(12,xi (xw (xa v4 c1)))] qd)) (.stuck 0)) (.stuck 0)) (.ite (xe v2 c0) qb (.ite (xe v2 c2) (.ite (xG v3 (xc 127)) qb qa) qa)):=by kernel_rfl
theorem zwk {call:zad}(hC:call.Sound prog TT){i m:Nat}{v:Int}{t:Tm}{H:zaa}{Q:Out→Prop}(hi:i<1000000000)(hm:m≤6)(hv0:0≤v)(hv1:v<16777216)(hw:t.wid=f85.ntmps)(h1:t.get 1=.i .i64 (i:Nat))(h10:t.get 10=.i .i64 (m:Nat))(h11:t.get 11=.i .i64 v)
 (hQ:∀(t':Tm)(H':zaa),t'.get 4=.s (zdN [v])→t'.get 5=.i .i64 ((i+2+m:Nat):Int)→t'.get 6=.b true→Q (.norm t' H')):Tri prog TT (sub [true,true,true,true,true,true,true,true,true,false] (zae f85)) t H Q:=by
 have hw0:t.wid=100:=hw;have hw1:IntKind.i64.wrap ((i:Int)+2)=(i:Int)+2:=zak (by omega) (by omega);have hw2:IntKind.i64.wrap ((i:Int)+2+m)=(i:Int)+2+m:=zak (by omega) (by omega);have hw3:IntKind.i32.wrap v=v:=zsH (by omega) (by omega);have hF:=ai @h1 (ai @h10 (ai @h11 (ai @hw1 (ai @hw2 @hw3))));refine Tri.regN (t':=?t1) (H':=?H1) zah hC ?e1 ?q1;case e1=>
  refine zax ?_;iterate 2 refine zab rfl (by simp[hF]<;>rfl) (by rfl) (by simp[hw0]) ?_
  refine zab rfl (by simp[zx6]<;>rfl) (by rfl) (by simp[hw0]) ?_;refine zab rfl (by simp[zx7]<;>rfl) (by rfl) (by simp[hw0]) ?_;iterate 7 refine zab rfl (by simp[hF]<;>rfl) (by rfl) (by simp[hw0]) ?_
  exact zaq
 exact hQ _ _ (by simp) (by simp) (by simp)
section
variable {call:zad}(hC:call.Sound prog TT)(s:List UInt8)(i:Nat)(hi:i<1000000000)(c2:∀(j:Nat) H,call 64 [.s s,.i .i64 j] H=.val (.i .u8 (atR s j)) H)(c3:∀c:Int,0≤c→c<256→∀H,call 57 [.i .u8 c,.i .i64 16] H=.val (.i .i64 (zbA c 16)) H)
include hC hi c2 c3 in
theorem zry (m:Nat) (hm:m≤6):∀(n k:Nat) (v:Int) (t:Tm) (H:zaa),k+n=m→0≤v→v<16^k→t.wid=f85.ntmps→t.get 0=.s s→t.get 1=.i .i64 (i:Nat)→t.get 10=.i .i64 (m:Nat)→t.get 11=.i .i64 v→t.get 12=.i .i64 (k:Nat) →
    ctx prog TT [true,true,true,true,true,true,true,false,true,false,false] (zae f85) (za1 TT f85 (isR (.val (zlc (match zkd s i n k v with|none=>none|some v=>zlb i m v))))) (.norm t H):=by
  intro n
  induction n with
  | zero =>
    intro k v t H hk hv0 hv1 hw t0 t1 t10 t11 t12
    have hp:(16:Int)^k≤16^6:=by exact_mod_cast Nat.pow_le_pow_right (by decide) (show k≤6 by omega)
    refine zaP.symIn (p:=[true,true,true,true,true,true,true,false,true,false]) zah hC rfl zs8 (by kernel_rfl) [.us s,.ui (i:Nat),.ui (m:Nat),.ui v,.ui (k:Nat),.uh H] rfl hw ⟨t0,t1,t10,t11,t12,trivial⟩ rfl (zaW _ _) ?_
    clear t0 t1 t10 t11 t12 hw
    simp -implicitDefEqProofs only[VC,isR,exU,Ask.den,forall_eq,E.den,O1.den,O2.den,O3.den,U.int_ui,U.boo_ub,U.val_uv,U.lst_ul,U.str_us,U.nat_un,U.heap_uh,SH.den,zaF,zbH,bD,SB.den,zas,LQ,cons_append,nil_append,List.getElem?_cons_zero,List.getElem?_cons_succ,Option.getD_some,zam,zai,zan,zaj,beq_iff_eq,bne_iff_ne,beq_eq_false_iff_ne,Int.toNat_natCast]
    simp only[zkd]
    have esc:∀w:Option (List UInt8×Nat),zlb i m v=w→∀{A:Option (List UInt8×Nat)→Prop},A w→A (zlb i m v):=fun w e A h=>by rw[e];exact h
    have bad:(m=0∨(m=2∧127<v)∨1114111<v∨(55296≤v∧v<57344))→(Res.val (zlc (zlb i m v))=Res.val (.tup [.s [],.i .i64 0,.b false])):=fun h=>by
      unfold zlb
      rw[if_pos (by simp only[Bool.or_eq_true,Bool.and_eq_true,beq_iff_eq,decide_eq_true_eq];omega)]
      rfl
    have good:¬(m=0∨(m=2∧127<v)∨1114111<v∨(55296≤v∧v<57344))→∀(t:Tm) ,t.wid=f85.ntmps→t.get 0=.s s→t.get 1=.i .i64 (i:Nat)→t.get 10=.i .i64 (m:Nat)→t.get 11=.i .i64 v→t.get 12=.i .i64 (k:Nat) →
        Tri prog TT (sub [true,true,true,true,true,true,true,true,true,false] (zae f85)) t H (ctx prog TT [true,true,true,true,true,true,true,true,true,false] (zae f85) (za1 TT f85 (isR (.val (zlc (zlb i m v)))))):=fun h t hw f0 f1 f10 f11 f12=>by
      have e:zlb i m v=some (zdN [v],i+2+m):=by
        unfold zlb
        rw[if_neg (by simp only[Bool.or_eq_true,Bool.and_eq_true,beq_iff_eq,decide_eq_true_eq];omega)]
      rw[e]
      refine zwk hC hi hm hv0 (by omega) hw f1 f10 f11 fun t' H' g4 g5 g6=>?_
      show Tri prog TT .ret t' H' (ctx prog TT [true,true,true,true,true,true,true,true,true,true] (zae f85) _)
      apply Tri.ret
      exact zoW _ _ _ ⟨_,rfl,by simp[f85,g4,g5,g6,zlc]⟩
    refine ⟨fun h=>absurd h (by omega),fun _=>⟨fun a=>bad (.inl (by omega)),fun a=>⟨fun b=>⟨fun c=>bad (.inr (.inl ⟨by omega,c⟩)),fun c=>⟨fun d=>bad (.inr (.inr (.inl d))),fun d=>⟨fun e=>⟨fun f=>bad (.inr (.inr (.inr ⟨e,f⟩))),fun f=>good (by omega)⟩,fun e=>good (by omega)⟩⟩⟩,
      fun b=>⟨fun d=>bad (.inr (.inr (.inl d))),fun d=>⟨fun e=>⟨fun f=>bad (.inr (.inr (.inr ⟨e,f⟩))),fun f=>good (by omega)⟩,fun e=>good (by omega)⟩⟩⟩⟩⟩
  | succ n ih=>
    intro k v t H hk hv0 hv1 hw t0 t1 t10 t11 t12
    have hp:(16:Int)^k≤16^6:=by exact_mod_cast Nat.pow_le_pow_right (by decide) (show k≤6 by omega)
    refine zaP.symIn (p:=[true,true,true,true,true,true,true,false,true,false]) zah hC rfl zs8 (by kernel_rfl) [.us s,.ui (i:Nat),.ui (m:Nat),.ui v,.ui (k:Nat),.uh H] rfl hw ⟨t0,t1,t10,t11,t12,trivial⟩ rfl (zaW _ _) ?_
    clear t0 t1 t10 t11 t12 hw
    simp -implicitDefEqProofs only[VC,isR,exU,Ask.den,forall_eq,E.den,O1.den,O2.den,O3.den,U.int_ui,U.boo_ub,U.val_uv,U.lst_ul,U.str_us,U.nat_un,U.heap_uh,SH.den,zaF,zbH,bD,SB.den,zas,LQ,cons_append,nil_append,List.getElem?_cons_zero,List.getElem?_cons_succ,Option.getD_some,zam,zai,zan,zaj,beq_iff_eq,bne_iff_ne,beq_eq_false_iff_ne,Int.toNat_natCast]
    have hr:=zb1 s (i+2+k)
    have hd:=zo0 (atR s (i+2+k)) hr.1 hr.2
    have w1:IntKind.i64.wrap ((i:Int)+2)=(i:Int)+2:=zak (by omega) (by omega)
    have w2:IntKind.i64.wrap ((i:Int)+2+k)=((i+2+k:Nat):Int):=by rw[zak (by omega) (by omega)];omega
    have w3:IntKind.i64.wrap ((k:Int)+1)=((k+1:Nat):Int):=by rw[zak (by omega) (by omega)];omega
    have w4:IntKind.i64.wrap (v*16)=v*16:=zak (by omega) (by omega)
    have w5:IntKind.i64.wrap (v*16+zbA (atR s (i+2+k)) 16)=v*16+zbA (atR s (i+2+k)) 16:=zak (by omega) (by omega)
    rw[w1,w2,w3,w4]
    refine⟨fun _=>.inl ⟨_,c2 (i+2+k),.inl ⟨_,c3 _ hr.1 hr.2,fun h=>?_,fun h t hw f0 f1 f10 f11 f12=>?_⟩⟩,fun h=>absurd (show((k:Nat):Int)<(m:Nat)by omega) h⟩
    · simp only[zkd]
      rw[if_pos h]
      rfl
    · have e:zkd s i (n+1) k v=zkd s i n (k+1) (v*16+zbA (atR s (i+2+k)) 16):=by
        simp only[zkd]
        rw[if_neg h]
      rw[e]
      exact ih (k+1) _ t H (by omega) (by omega) (by rw[Int.pow_succ];omega) hw f0 f1 f10 (by rw[f11,w5]) f12
include hC hi c2 c3 in
theorem zrx:∀(n k:Nat) (t:Tm) (H:zaa),k+n=7→t.wid=f85.ntmps→t.get 0=.s s→t.get 1=.i .i64 (i:Nat)→t.get 7=.s znr→t.get 8=.s znq→t.get 9=.i .i64 (k:Nat) →
    ctx prog TT [true,true,true,false,true,false,false] (zae f85) (za1 TT f85 (isR (.val (zlc (match zjY (atR s (i+1)) (decide ((i:Int)+1<s.length)) (znr.drop k) (znq.drop k)with
      |some t=>some (t,i+2)
      | none=>match zkd s i (zd0 (atR s (i+1))) 0 0 with
        |none=>none
        |some v=>zlb i (zd0 (atR s (i+1))) v))))) (.norm t H):=by
  have w1:IntKind.i64.wrap ((i:Int)+1)=((i+1:Nat):Int):=by rw[zak (by omega) (by omega)];omega
  have w2:IntKind.i64.wrap ((i:Int)+2)=((i+2:Nat):Int):=by rw[zak (by omega) (by omega)];omega
  intro n
  induction n with
  | zero =>
    intro k t H hk hw t0 t1 t7 t8 t9
    refine zaP.symIn (p:=[true,true,true,false,true,false]) zah hC rfl zs7 (by kernel_rfl) [.us s,.ui (i:Nat),.ui (k:Nat),.uh H] rfl hw ⟨t0,t1,t7,t8,t9,trivial⟩ rfl (zaW _ _) ?_
    clear t0 t1 t7 t8 t9 hw
    simp -implicitDefEqProofs only[VC,isR,exU,Ask.den,forall_eq,E.den,O1.den,O2.den,O3.den,U.int_ui,U.boo_ub,U.val_uv,U.lst_ul,U.str_us,U.nat_un,U.heap_uh,SH.den,zaF,zbH,bD,SB.den,zas,LQ,cons_append,nil_append,List.getElem?_cons_zero,List.getElem?_cons_succ,Option.getD_some,zam,zai,zan,zaj,beq_iff_eq,bne_iff_ne,beq_eq_false_iff_ne,Int.toNat_natCast]
    have hk7:k=7:=by omega
    subst hk7
    rw[w1]
    refine⟨fun h=>absurd h (by decide),fun _=>.inl ⟨_,c2 (i+1),?_⟩⟩
    generalize atR s (i+1)=c
    have e:zjY c (decide ((i:Int)+1<s.length)) (znr.drop 7) (znq.drop 7)=none:=rfl
    rw[e]
    have go:∀m:Nat,m≤6→zd0 c=m→∀t:Tm,t.wid=f85.ntmps→t.get 0=.s s→t.get 1=.i .i64 (i:Nat)→t.get 10=.i .i64 (m:Nat)→t.get 11=.i .i64 0→t.get 12=.i .i64 0 →
        Tri prog TT (sub [true,true,true,true,true,true,true,false,true,false] (zae f85)) t H (ctx prog TT [true,true,true,true,true,true,true,false,true,false] (zae f85) (za1 TT f85 (isR (.val (zlc (match zkd s i (zd0 c) 0 0 with|none=>none|some v=>zlb i (zd0 c) v)))))):=fun m hm e t hw f0 f1 f10 f11 f12=>by
      rw[e]
      exact Tri.symLoop rfl (zry hC s i hi c2 c3 m hm m 0 0 t H (by omega) (by omega) (by decide) hw f0 f1 f10 f11 f12)
    refine⟨fun h t hw f0 f1 f7 f8 f9 f10 f11 f12=>go 2 (by omega) (by simp[zd0,h]) t hw f0 f1 f10 f11 f12,fun h=>⟨fun h' t hw f0 f1 f7 f8 f9 f10 f11 f12=>go 4 (by omega) (by simp[zd0,h,h']) t hw f0 f1 f10 f11 f12,fun h'=>⟨fun h'' t hw f0 f1 f7 f8 f9 f10 f11 f12=>go 6 (by omega) (by simp[zd0,h,h',h'']) t hw f0 f1 f10 f11 f12,fun h'' t hw f0 f1 f7 f8 f9 f10 f11 f12=>go 0 (by omega) (by simp[zd0,h,h',h'']) t hw f0 f1 f10 f11 f12⟩⟩⟩
  | succ n ih=>
    intro k t H hk hw t0 t1 t7 t8 t9
    refine zaP.symIn (p:=[true,true,true,false,true,false]) zah hC rfl zs7 (by kernel_rfl) [.us s,.ui (i:Nat),.ui (k:Nat),.uh H] rfl hw ⟨t0,t1,t7,t8,t9,trivial⟩ rfl (zaW _ _) ?_
    clear t0 t1 t7 t8 t9 hw
    simp -implicitDefEqProofs only[VC,isR,exU,Ask.den,forall_eq,E.den,O1.den,O2.den,O3.den,U.int_ui,U.boo_ub,U.val_uv,U.lst_ul,U.str_us,U.nat_un,U.heap_uh,SH.den,zaF,zbH,bD,SB.den,zas,LQ,cons_append,nil_append,List.getElem?_cons_zero,List.getElem?_cons_succ,Option.getD_some,zam,zai,zan,zaj,beq_iff_eq,bne_iff_ne,beq_eq_false_iff_ne,Int.toNat_natCast]
    have w3:IntKind.i64.wrap ((k:Int)+1)=((k+1:Nat):Int):=by rw[zak (by omega) (by omega)];omega
    rw[w1,w2,w3]
    simp only[Int.toNat_natCast]
    obtain ⟨x,y,e1,e2,e3,e4⟩:∃x y:UInt8,znr.drop k=x::znr.drop (k+1)∧znq.drop k=y::znq.drop (k+1)∧atS [110,116,114,48,92,34,39] (k:Nat)=x.toNat∧(([10,9,13,0,92,34,39]:List UInt8).take (k+1)).drop k=[y]:=by
      have:k=0∨k=1∨k=2∨k=3∨k=4∨k=5∨k=6:=by omega
      rcases this with rfl|rfl|rfl|rfl|rfl|rfl|rfl<;>exact⟨_,_,rfl,rfl,rfl,rfl⟩
    rw[e1,e2,e3,e4]
    have go : ((atR s (i+1)==(x.toNat:Int))&&decide ((i:Int)+1<s.length))=false→∀t:Tm,t.wid=f85.ntmps→t.get 0=.s s→t.get 1=.i .i64 (i:Nat)→t.get 7=.s [110,116,114,48,92,34,39]→t.get 8=.s [10,9,13,0,92,34,39]→t.get 9=.i .i64 ((k+1:Nat):Int) →
        ctx prog TT [true,true,true,false,true,false,false] (zae f85) (za1 TT f85 (isR (.val (zlc (match zjY (atR s (i+1)) (decide ((i:Int)+1<s.length)) (x::znr.drop (k+1)) (y::znq.drop (k+1))with
          |some t=>some (t,i+2)
          | none=>match zkd s i (zd0 (atR s (i+1))) 0 0 with
            |none=>none
            |some v=>zlb i (zd0 (atR s (i+1))) v))))) (.norm t H):=fun h t hw f0 f1 f7 f8 f9=>by
      have e:zjY (atR s (i+1)) (decide ((i:Int)+1<s.length)) (x::znr.drop (k+1)) (y::znq.drop (k+1))=zjY (atR s (i+1)) (decide ((i:Int)+1<s.length)) (znr.drop (k+1)) (znq.drop (k+1)):=by
        rw[zjY,if_neg (by rw[h];decide)]
      rw[e]
      exact ih (k+1) t H (by omega) hw f0 f1 f7 f8 f9
    refine⟨fun _=>.inl ⟨_,c2 (i+1),by omega,fun hx=>⟨fun hl=>⟨by omega,by omega,?_⟩,fun hl=>go (by rw[decide_eq_false (by omega),Bool.and_false])⟩,fun hx=>go (by rw[beq_eq_false_iff_ne.2 hx,Bool.false_and])⟩,fun h=>absurd h (by omega)⟩
    rw[zjY,if_pos (by rw[hx,decide_eq_true (by omega)];simp)]
    rfl
include hC hi c2 c3 in
theorem zne:zaI prog TT 85 [.s s,.i .i64 i] (fun r=>r=.val (zlc (zoa s i))):=by
 apply zaO.is;refine zaO.sym zah hC (fn:=f85) rfl rfl (by simp[f85]) zxq (by kernel_rfl) [.us s,.ui (i:Nat),.uh []] rfl ⟨by rw[zag];rfl,by rw[zag];rfl,trivial⟩ rfl (zaW _ _) ?_;simp -implicitDefEqProofs only[VC,isR,exU,Ask.den,forall_eq,E.den,O1.den,O2.den,O3.den,U.int_ui,U.boo_ub,U.val_uv,U.lst_ul,U.str_us,U.nat_un,U.heap_uh,SH.den,zaF,zbH,bD,SB.den,zas,LQ,cons_append,nil_append,List.getElem?_cons_zero,List.getElem?_cons_succ,Option.getD_some,zam,zai,zan,zaj,beq_iff_eq,bne_iff_ne,beq_eq_false_iff_ne,Int.toNat_natCast];intro t hw t0 t1 t7 t8 t9;exact Tri.symLoop rfl (zrx hC s i hi c2 c3 7 0 t _ rfl hw t0 t1 t7 t8 t9)
end
theorem zow {call:zad}(hC:call.Sound prog TT)(s:List UInt8)(i:Nat)(hi:i<1000000000)(hwi1:IntKind.i64.wrap ((i:Int)+1)=(i:Int)+1)(c2a:∀H,call 64 [.s s,.i .i64 ((i:Int)+1)] H=.val (.i .u8 (atR s (i+1))) H)(c2:∀(j:Nat) H,call 64 [.s s,.i .i64 j] H=.val (.i .u8 (atR s j)) H)(c3:∀c:Int,0≤c→c<256→∀H,call 57 [.i .u8 c,.i .i64 16] H=.val (.i .i64 (zbA c 16)) H)  : zaI prog TT 85 [.s s,.i .i64 i] (fun r=>r=.val (zlc (zoa s i))):=by
 exact zne hC s i hi c2 c3
end Go.Ev
-- no T33
namespace Go.Ev
open Go Go.Proofs
set_option maxRecDepth 1000000
set_option linter.unusedVariables false
theorem zjZ {c:Int}{ok:Bool}:∀{l l' r:List UInt8},zjY c ok l l'=some r→ok=true∧r.length=1
 |x::xs,y::ys,r,h=>by
  simp only[zjY]at h;split at h
  ·rename_i hc;simp only[Bool.and_eq_true]at hc;cases h;exact⟨hc.2,rfl⟩
  ·exact zjZ h
 | [],_,r,h=>by simp[zjY]at h
 |_::_,[],r,h=>by simp[zjY]at h
theorem ztn {s:List UInt8}{i:Nat}(h:s.length≤i):atR s i=0:=by simp[atR,List.getElem?_eq_none h]
theorem zpx {s:List UInt8}{i:Nat}:∀(m k:Nat)(v v':Int),zkd s i m k v=some v'→0<m→i+2+k+m≤s.length
 |0,k,v,v',h,h0=>by omega
 |m+1,k,v,v',h,h0=>by
  simp only[zkd]at h;split at h
  ·cases h
  ·rename_i hd;by_cases hm:m=0
   ·subst hm;by_cases hl:i+2+k<s.length
    ·omega
    ·rw[ztn (by omega)]at hd;exact absurd (by decide) hd
   ·have:=zpx m (k+1) _ v' h (by omega);omega
theorem zky (v:Int):(zdN [v]).length≤4:=by
 have h:=foldl_size_le [v] ByteArray.empty;have e:(zdN [v]).length=(([v]:List Int).foldl (fun r n=>r++Utf8.encode n) ByteArray.empty).size:=by
  unfold zdN;rw[Array.length_toList];rfl
 rw[e];exact h
theorem zpa {s:List UInt8}{i:Nat}{tx:List UInt8}{j:Nat}(hi:i<s.length)(h:zoa s i=some (tx,j)):i<j∧j≤s.length∧tx.length≤4:=by
 unfold zoa at h;split at h
 ·rename_i t ht;obtain⟨h1,h2⟩:=zjZ ht;simp only[decide_eq_true_eq]at h1;cases h;omega
 ·split at h
  ·cases h
  ·rename_i v hv;unfold zlb at h;split at h
   ·cases h
   ·rename_i hc;cases h;have hm:0<zd0 (atR s (i+1)):=by
     rcases Nat.eq_zero_or_pos (zd0 (atR s (i+1)))with h0|h0
     ·rw[h0]at hc;simp at hc
     ·exact h0
    have:=zpx _ _ _ _ hv hm;exact⟨by omega,by omega,zky v⟩
theorem zwG:∃g,zap Tryz.prog TT 85 g∧∀(s:List UInt8)(i:Nat),i<100000000→∀H,g [.s s,.i .i64 i] H=.val (zlc (zoa s i)) H:=by
 obtain⟨g2,k2,s2⟩:=zkC;obtain⟨g3,k3,s3⟩:=zkD;obtain⟨g,k,s⟩:=zbh zah zat 85 (fun p:List UInt8×Nat=>[.s p.1,.i .i64 p.2]) (fun p=>p.2<100000000) (fun p=>zlc (zoa p.1 p.2)) (fun p _=>by simp[nlL,nl]) (fun p=>by rw[ztM];rfl) (fun a b h=>by
  simp only[List.cons.injEq,V.s.injEq,V.i.injEq,true_and,and_true]at h;rw[h.1,show a.2=b.2 from by omega]) (fun p hp=>by
  obtain⟨s,i⟩:=p;simp only at hp ⊢;have hC:=ws (ws n0 k2) k3;generalize hc:(zad.none.with 64 g2).with 57 g3=call at hC;have c2:∀(j:Nat) H,call 64 [.s s,.i .i64 j] H=.val (.i .u8 (atR s j)) H:=fun j H=>by rw[←hc,zac _ _ _ _ rfl,zao];exact s2 _ _ H
  have c3:∀c:Int,0≤c→c<256→∀H,call 57 [.i .u8 c,.i .i64 16] H=.val (.i .i64 (zbA c 16)) H:=fun c a b H=>by rw[←hc,zao];exact s3 c 16 a b (by simp) H
  exact zaI.of1 (zow hC s i (by omega) (zak (by omega) (by omega)) (fun H=>c2 (i+1) H) c2 c3))
 exact⟨g,k,fun s' i h H=>s (s',i) h H⟩
def zes (s:List UInt8)(mk:Int)(i:Nat):Option (List UInt8×Nat):=zoc s (zoa s) mk (s.length+1) (i+1) []
theorem zwB:∃g,zap Tryz.prog TT 60 g∧∀(s:List UInt8)(i:Nat)(mk:Int),s.length<20000000→i<s.length→∀H,g [.s s,.i .i64 i,.i .u8 mk] H=.val (zwh (zes s mk i)) H:=by
 obtain⟨g2,k2,s2⟩:=zwG;obtain⟨g3,k3,s3⟩:=znX;obtain⟨g,k,s⟩:=zbh zah zat 60 (fun p:List UInt8×Nat×Int=>[.s p.1,.i .i64 p.2.1,.i .u8 p.2.2]) (fun p=>p.1.length<20000000∧p.2.1<p.1.length) (fun p=>zwh (zes p.1 p.2.2 p.2.1)) (fun p _=>by simp[nlL,nl]) (fun p=>by rw[zpR];rfl) (fun a b h=>by
  simp only[List.cons.injEq,V.s.injEq,V.i.injEq,true_and,and_true]at h;rw[h.1,show a.2.1=b.2.1 from by omega,h.2.2]) (fun p hp=>by
  obtain⟨s,i,mk⟩:=p;simp only at hp ⊢;have hC:=ws (ws n0 k2) k3;generalize hc:(zad.none.with 85 g2).with 36 g3=call at hC;have c2:∀i:Nat,i<s.length→∀H,call 85 [.s s,.i .i64 i] H=.val (zlc (zoa s i)) H:=fun j hj H=>by rw[←hc,zac _ _ _ _ rfl,zao];exact s2 _ _ (by omega) H
  have c3:∀x:List UInt8,x.length≤4*s.length→∀H,call 36 [.s x] H=.val (.b (Lib.validD x)) H:=fun x hx H=>by rw[←hc,zao];exact s3 x (by omega) H
  exact zaI.of1 (zot hC s (zoa s) mk i hp.2 (zak (by omega) (by omega)) (by omega) c3 c2 (fun i tx j h1 h2=>zpa h1 h2)))
 exact⟨g,k,fun s' i mk h1 h2 H=>s (s',i,mk) ⟨h1,h2⟩ H⟩
theorem zul (s:List UInt8)(i:Nat):nl (zr8 s i)=true:=by unfold zr8;split<;>rfl
theorem zwA:∃g,zap Tryz.prog TT 59 g∧∀(s:List UInt8)(i:Nat),s.length<20000000→i<s.length→∀H,g [.s s,.i .i64 i] H=.val (zr8 s i) H:=by
 obtain⟨g3,k3,s3⟩:=znX;obtain⟨g,k,s⟩:=zbh zah zat 59 (fun p:List UInt8×Nat=>[.s p.1,.i .i64 p.2]) (fun p=>p.1.length<20000000∧p.2<p.1.length) (fun p=>zr8 p.1 p.2) (fun p _=>by simp[nlL,nl]) (fun p=>zul _ _) (fun a b h=>by
  simp only[List.cons.injEq,V.s.injEq,V.i.injEq,true_and,and_true]at h;rw[h.1,show a.2=b.2 from by omega]) (fun p hp=>by
  obtain⟨s,i⟩:=p;simp only at hp ⊢;have hC:=ws n0 k3;generalize hc:zad.none.with 36 g3=call at hC;have c3:∀x:List UInt8,x.length<100000000→∀H,call 36 [.s x] H=.val (.b (Lib.validD x)) H:=fun x hx H=>by rw[←hc,zao];exact s3 x hx H
  exact zaI.of1 (zos hC s i (by omega) (by omega) (zak (by omega) (by omega)) c3))
 exact⟨g,k,fun s' i h1 h2 H=>s (s',i) ⟨h1,h2⟩ H⟩
end Go.Ev
namespace Go.Proofs
def Tryz.laysM171_ren:Go.Shelf.Ren:=⟨fun|171=>61|243=>86|246=>104|283=>117|284=>118|285=>119|286=>120|129=>129|317=>128|318=>130|319=>131|320=>132|337=>139|338=>140|n=>n,fun|3=>3|9=>9|2=>2|4=>4|171=>174|0=>0|53=>119|37=>64|5=>5|173=>177|212=>196|51=>125|20=>20|213=>197|46=>72|232=>225|233=>226|n=>n,fun|17=>8|18=>9|19=>10|n=>n⟩
theorem Tryz.laysM171:Go.Proofs.LaysM.n171 Tryz.prog Tryz.laysM171_ren:={
 mixed:=by kernel_rfl
 f129:=Tryz.func129.trans (congrArg some (by kernel_rfl))
 f171:=Tryz.func61.trans (congrArg some (by kernel_rfl))
 f243:=Tryz.func86.trans (congrArg some (by kernel_rfl))
 f246:=Tryz.func104.trans (congrArg some (by kernel_rfl))
 f283:=Tryz.func117.trans (congrArg some (by kernel_rfl))
 f284:=Tryz.func118.trans (congrArg some (by kernel_rfl))
 f285:=Tryz.func119.trans (congrArg some (by kernel_rfl))
 f286:=Tryz.func120.trans (congrArg some (by kernel_rfl))
 f317:=Tryz.func128.trans (congrArg some (by kernel_rfl))
 f318:=Tryz.func130.trans (congrArg some (by kernel_rfl))
 f319:=Tryz.func131.trans (congrArg some (by kernel_rfl))
 f320:=Tryz.func132.trans (congrArg some (by kernel_rfl))
 f337:=Tryz.func139.trans (congrArg some (by kernel_rfl))
 f338:=Tryz.func140.trans (congrArg some (by kernel_rfl))
 t0:=Tryz.underlying0
 a0:=Tryz.isAgg0
 z0:=Tryz.sizeOf0
 v0:=Tryz.zeroValue0
 t2:=Tryz.underlying2
 a2:=Tryz.isAgg2
 z2:=Tryz.sizeOf2
 v2:=Tryz.zeroValue2
 t3:=Tryz.underlying3
 a3:=Tryz.isAgg3
 z3:=Tryz.sizeOf3
 v3:=Tryz.zeroValue3
 t4:=Tryz.underlying4
 a4:=Tryz.isAgg4
 z4:=Tryz.sizeOf4
 v4:=Tryz.zeroValue4
 t5:=Tryz.underlying5
 a5:=Tryz.isAgg5
 z5:=Tryz.sizeOf5
 v5:=Tryz.zeroValue5
 t9:=Tryz.underlying9
 a9:=Tryz.isAgg9
 z9:=Tryz.sizeOf9
 v9:=Tryz.zeroValue9
 t20:=Tryz.underlying20
 a20:=Tryz.isAgg20
 z20:=Tryz.sizeOf20
 v20:=Tryz.zeroValue20
 t37:=Tryz.underlying64
 a37:=Tryz.isAgg64
 z37:=Tryz.sizeOf64
 v37:=Tryz.zeroValue64
 t46:=Tryz.underlying72
 a46:=Tryz.isAgg72
 z46:=Tryz.sizeOf72
 v46:=Tryz.zeroValue72
 t51:=Tryz.underlying125
 a51:=Tryz.isAgg125
 z51:=Tryz.sizeOf125
 v51:=Tryz.zeroValue125
 t53:=Tryz.underlying119
 a53:=Tryz.isAgg119
 z53:=Tryz.sizeOf119
 v53:=Tryz.zeroValue119
 t171:=Tryz.underlying174
 a171:=Tryz.isAgg174
 z171:=Tryz.sizeOf174
 v171:=Tryz.zeroValue174
 t173:=Tryz.underlying177
 a173:=Tryz.isAgg177
 z173:=Tryz.sizeOf177
 v173:=Tryz.zeroValue177
 t212:=Tryz.underlying196
 a212:=Tryz.isAgg196
 z212:=Tryz.sizeOf196
 v212:=Tryz.zeroValue196
 t213:=Tryz.underlying197
 a213:=Tryz.isAgg197
 z213:=Tryz.sizeOf197
 t232:=Tryz.underlying225
 a232:=Tryz.isAgg225
 z232:=Tryz.sizeOf225
 v232:=Tryz.zeroValue225
 t233:=Tryz.underlying226
 a233:=Tryz.isAgg226
 z233:=Tryz.sizeOf226
 v233:=Tryz.zeroValue226
 g17:=by kernel_rfl
 g18:=by kernel_rfl
 g19:=by kernel_rfl
 i0:=by kernel_rfl
 i2:=by kernel_rfl
 i3:=by kernel_rfl
 i4:=by kernel_rfl
 i5:=by kernel_rfl
 i9:=by kernel_rfl
 i20:=by kernel_rfl
 i37:=by kernel_rfl
 i46:=by kernel_rfl
 i51:=by kernel_rfl
 i53:=by kernel_rfl
 i171:=by kernel_rfl
 i173:=by kernel_rfl
 i212:=by kernel_rfl
 i232:=by kernel_rfl
 i233:=by kernel_rfl
 m17:=by kernel_rfl
 m18:=by kernel_rfl
 m19:=by kernel_rfl}
end Go.Proofs
namespace Go.Ev
open Go Go.Proofs
open Go.RowKit (Below)
set_option maxRecDepth 100000
def zev:List V→zaa→OR
 | [.i .i64 n],H=>if -9223372036854775808≤n∧n≤9223372036854775807 then .val (.s (Lib.itoa n)) H else .no
 |_,_=>.no
theorem zlQ {M:Mem} {ρ:Ren} {H:zaa} {w:World} (hS:SR TT M ρ H w):Lib.TabIs Tryz.prog w "internal/strconv.uint64pow10" .u64 Lib.pow10Tab:=by
  obtain⟨cs,ty,fr,hM,hr⟩:=hS.glob 8 _ rfl
  have hw:=hS.frozen _ _ hM
  have hg:Tryz.prog.globalNamed "internal/strconv.uint64pow10" = some 8:=by kernel_rfl
  unfold Lib.TabIs World.var?
  rw[hg]
  simp only[Option.bind_some,hw]
  congr 2
  have key:∀(l:List Int) (cs:List Value),relL M ρ (l.map fun z=>V.i .u64 z) cs→cs=l.map fun z=>Value.int .u64 z:=by
    intro l
    induction l with
    |nil=>intro cs h;simpa[relL]using h
    | cons z l ih=>
      intro cs h
      simp only[List.map_cons,relL,rel]at h
      obtain⟨x,r,rfl,rfl,hr⟩:=h
      rw[ih r hr]
      rfl
  refine key Lib.pow10Tab cs ?_
  have e:(Lib.pow10Tab.map fun z=>V.i .u64 z)=((List.range 20).map fun i=>V.i .u64 ((10^i:Nat):Int)):=by
    simp only[Lib.pow10Tab,List.map_map]
    rfl
  rw[e]
  exact hr
theorem zv6:zap Tryz.prog TT 61 zev:=by
 intro vs H r h hne;unfold zev at h;split at h
 ·rename_i H n;split at h
  ·rename_i hc;subst h;refine⟨zco (f:=61) rfl rfl,fun M ρ w args hS hr=>?_⟩;have ha:args=[.int .i64 n]:=by
    simp only[relL,rel]at hr;obtain⟨x,r,rfl,rfl,rfl⟩:=hr;rfl
   rw[ha];refine zbl (x:=.string ⟨(Lib.itoa n).toArray⟩) hS ?_ (by simp only[rel]);refine(Any.strconv_Itoa Tryz.laysM171 n hc.1 hc.2 w (zlQ hS)).mono ?_;rintro e w' ⟨rfl,k,os,rfl⟩;exact⟨rfl,rfl,rfl,rfl,by simp[Sort.grow,World.drewN],fun j hj=>by simp only[Sort.grow,World.drewN];rw[Array.getElem?_append_left hj]⟩
  ·exact absurd h.symm hne
 ·exact absurd h.symm hne
end Go.Ev
namespace Go.Ev
open Go Go.Proofs
set_option linter.unusedSimpArgs false
set_option linter.unusedVariables false
set_option linter.unnecessarySimpa false
open Tryz List
set_option maxRecDepth 100000
def zg4 (x:List UInt8):Int:=match x.getLast? with|some b=>b.toNat|none=>0
def okS (s:List UInt8)(i:Nat)(best x:List UInt8):Bool:=decide (best.length<x.length)&&(zdh s i x&&(!(zgi (zg4 x)) || !(zcy (atR s (i+x.length)))))
def zfK (s:List UInt8)(i:Nat):List (List UInt8)→List UInt8→List UInt8
 | [],best=>best
 |x::l,best=>zfK s i l (if okS s i best x=true then x else best)
theorem zmt {call:zad}(hC:call.Sound prog TT)(s:List UInt8)(i:Nat)(hi:i<100000000)(SY:List (List UInt8))(hsy:∀H,call 24 [] H=.val (.isl 1 (zex SY)) H)
 (hbt:∀t:List UInt8,t.length<1000→∀H,call 56 [.s s,.i .i64 i,.s t] H=.val (.b (zdh s i t)) H)(hlt:∀b:UInt8,∀H,call 62 [.i .u8 b.toNat] H=.val (.b (zgi b.toNat)) H)(hatc:∀(j:Nat) H,call 64 [.s s,.i .i64 j] H=.val (.i .u8 (atR s j)) H)(hwc:∀(j:Nat) H,call 63 [.i .u8 (atR s j)] H=.val (.b (zcy (atR s j))) H)(H:zaa){Q:Out→Prop} :
 ∀(L pre:List (List UInt8))(best:List UInt8)(t:Tm),SY=pre++L→(pre++L).length<1100000→(∀y∈L,y≠[]∧y.length<1000)→t.wid=164→t.get 0=.s s→t.get 1=.i .i64 i→t.get 4=.ptr 0 0→t.get 15=.s best→t.get 16=.i .i64 pre.length →
 (∀t':Tm,t'.wid=164→t'.get 0=.s s→t'.get 1=.i .i64 i→t'.get 4=.ptr 0 0→t'.get 15=.s (zfK s i L best)→Q (.exit 0 t' H)) →
 zaP prog TT (sub [true,true,true,true,true,true,false,true,false,false] (zae f33)) t H Q:=by
 intro L;induction L with
 |nil=>
  intro pre best t hsp hlen hne hw h0 h1 h4 h15 h16 hE;rw[hsp]at hsy;have hF:=ai @h0 (ai @h1 (ai @h4 (ai @h15 (ai @h16 (ai @hsy @zbd)))));refine zaP.round' ?_;apply sQ;apply rS hC
  ·iterate 4 refine gO (by simp[hF,append_nil]<;>rfl) ?_
   rfl
  refine cF (by simp[hF,append_nil]<;>rfl) ?_;refine Tri.exit ?_;refine zaA ?_;refine zaz ?_;exact hE _ (by simp[hw]) (by simp[h0]) (by simp[h1]) (by simp[h4]) (by simp[h15,zfK])
 |cons x L ih=>
  intro pre best t hsp hlen hne hw h0 h1 h4 h15 h16 hE;have hsy0:=hsy;rw[hsp]at hsy;obtain⟨hx0,hx1⟩:=hne x (by simp);obtain⟨n,hxl⟩:∃n,x.length=n+1:=⟨x.length-1,by have:=length_pos_iff.2 hx0;omega⟩;have hbg:=hbt x hx1;have hlbt:=hlt;have hlen2:pre.length<1100000:=by simp at hlen;omega
  have hwk:IntKind.i64.wrap ((pre.length:Int)+1)=(pre.length:Int)+1:=zak (by omega) (by omega);have hlt:=zds pre.length L.length;have hat:=zo4 pre x L;have hat2:=zmc pre x L;cases hlg0:decide (best.length<x.length)with
  |false=>
   have hok:okS s i best x=false:=by simp only[okS,hlg0];rfl
   have hlg:¬(best.length:Int)<(n:Int)+1:=by have:=of_decide_eq_false hlg0;omega
   have hF:=ai @h0 (ai @h1 (ai @h4 (ai @h15 (ai @h16 (ai @hsy (ai @hlt (ai @hat (ai @hat2 (ai @zbd (ai @hxl (ai @hbg (ai @hwk @hlg))))))))))));refine zaP.round' ?_;apply sQ;apply rS hC
   ·iterate 4 refine oA ?_
    rfl
   refine cT (by simp[hF]<;>rfl) ?_;apply Tri.skip;apply sN;apply sQ;apply bK;apply rS hC
   ·iterate 5 refine oA ?_
    rfl
   apply rS hC
   ·iterate 6 refine oA ?_
    iterate 4 refine oC ?_
    iterate 2 refine oA ?_
    iterate 17 refine oC ?_
    refine oA ?_;rfl
   refine cF (by simp[hF]<;>rfl) ?_;apply Tri.skip;apply bN;apply sN;apply rN hC
   ·iterate 3 refine oA ?_
    rfl
   refine zar ?_;refine ih (pre++[x]) best _ (by rw[hsp];simp) (by simpa using hlen) (fun y hy=>hne y (by simp[hy])) (by simp[hw]) (by simp[h0]) (by simp[h1]) (by simp[h4]) (by simp[h15]) (by simp[h16,hwk]) (fun t' k1 k2 k3 k4 k5=>hE t' k1 k2 k3 k4 (by rw[k5];simp only[zfK];rw[if_neg (by rw[hok];simp)]))
  |true=>
   have hlg:(best.length:Int)<(n:Int)+1:=by have:=of_decide_eq_true hlg0;omega
   cases hb:zdh s i x with
   |false=>
    have hok:okS s i best x=false:=by simp only[okS,hlg0,hb];rfl
    have hF:=ai @h0 (ai @h1 (ai @h4 (ai @h15 (ai @h16 (ai @hsy (ai @hlt (ai @hat (ai @hat2 (ai @zbd (ai @hxl (ai @hbg (ai @hwk (ai @hlg @hb)))))))))))));refine zaP.round' ?_;apply sQ;apply rS hC
    ·iterate 4 refine oA ?_
     rfl
    refine cT (by simp[hF]<;>rfl) ?_;apply Tri.skip;apply sN;apply sQ;apply bK;apply rS hC
    ·iterate 5 refine oA ?_
     rfl
    apply rS hC
    ·iterate 6 refine oA ?_
     iterate 4 refine oB ?_
     iterate 2 refine oA ?_
     iterate 17 refine oC ?_
     refine oA ?_;rfl
    refine cF (by simp[hF]<;>rfl) ?_;apply Tri.skip;apply bN;apply sN;apply rN hC
    ·iterate 3 refine oA ?_
     rfl
    refine zar ?_;refine ih (pre++[x]) best _ (by rw[hsp];simp) (by simpa using hlen) (fun y hy=>hne y (by simp[hy])) (by simp[hw]) (by simp[h0]) (by simp[h1]) (by simp[h4]) (by simp[h15]) (by simp[h16,hwk]) (fun t' k1 k2 k3 k4 k5=>hE t' k1 k2 k3 k4 (by rw[k5];simp only[zfK];rw[if_neg (by rw[hok];simp)]))
   |true=>
    have hnx:n<x.length:=by omega
    obtain⟨lb,hlb⟩:∃b,x[n]? = some b:=⟨_,List.getElem?_eq_getElem hnx⟩;have hlb2:∀h,x[n]'h=lb:=fun h=>Option.some.inj ((List.getElem?_eq_getElem h).symm.trans hlb);have hlst:zg4 x=lb.toNat:=by
     unfold zg4;rw[List.getLast?_eq_getElem?,hxl,Nat.add_sub_cancel,hlb]
    have hle:=hlbt lb;have hwn:IntKind.i64.wrap (n:Int)=(n:Int):=zak (by omega) (by omega);have hwi:IntKind.i64.wrap ((i:Int)+((n:Int)+1))=(i:Int)+((n:Int)+1):=zak (by omega) (by omega);have c2:∀H,call 64 [.s s,.i .i64 ((i:Int)+((n:Int)+1))] H=.val (.i .u8 (atR s (i+(n+1)))) H:=fun H=>hatc (i+(n+1)) H;have hwo:=hwc (i+(n+1));cases hll:zgi (lb.toNat:Int)with
    |false=>
     have hok:okS s i best x=true:=by unfold okS;rw[hlg0,hb,hlst,hll];rfl
     have hF:=ai @h0 (ai @h1 (ai @h4 (ai @h15 (ai @h16 (ai @hsy (ai @hlt (ai @hat (ai @hat2 (ai @zbd (ai @hxl (ai @hbg (ai @hwk (ai @hlg (ai @hb (ai @hll (ai @hwn (ai @hlb (ai @hlb2 (ai @hle (ai @hwi (ai @c2 @hwo)))))))))))))))))))));refine zaP.round' ?_;apply sQ;apply rS hC
     ·iterate 4 refine oA ?_
      rfl
     refine cT (by simp[hF]<;>rfl) ?_;apply Tri.skip;apply sN;apply sQ;apply bK;apply rS hC
     ·iterate 5 refine oA ?_
      rfl
     apply rS hC
     ·iterate 6 refine oA ?_
      iterate 4 refine oB ?_
      iterate 2 refine oA ?_
      iterate 8 refine oB ?_
      iterate 8 refine oC ?_
      refine oB ?_;refine oA ?_;rfl
     refine cT (by simp[hF]<;>rfl) ?_;apply rN hC
     ·iterate 2 refine oA ?_
      rfl
     apply bN;apply sN;apply rN hC
     ·iterate 3 refine oA ?_
      rfl
     refine zar ?_;refine ih (pre++[x]) x _ (by rw[hsp];simp) (by simpa using hlen) (fun y hy=>hne y (by simp[hy])) (by simp[hw]) (by simp[h0]) (by simp[h1]) (by simp[h4]) (by simp[h15]) (by simp[h16,hwk]) (fun t' k1 k2 k3 k4 k5=>hE t' k1 k2 k3 k4 (by rw[k5];simp only[zfK];rw[if_pos hok]))
    |true=>
     cases hww:zcy (atR s (i+(n+1)))with
     |true=>
      have hok:okS s i best x=false:=by unfold okS;rw[hlg0,hb,hlst,hll,hxl,hww];rfl
      have hF:=ai @h0 (ai @h1 (ai @h4 (ai @h15 (ai @h16 (ai @hsy (ai @hlt (ai @hat (ai @hat2 (ai @zbd (ai @hxl (ai @hbg (ai @hwk (ai @hlg (ai @hb (ai @hll (ai @hww (ai @hwn (ai @hlb (ai @hlb2 (ai @hle (ai @hwi (ai @c2 @hwo))))))))))))))))))))));refine zaP.round' ?_;apply sQ;apply rS hC
      ·iterate 4 refine oA ?_
       rfl
      refine cT (by simp[hF]<;>rfl) ?_;apply Tri.skip;apply sN;apply sQ;apply bK;apply rS hC
      ·iterate 5 refine oA ?_
       rfl
      apply rS hC
      ·iterate 6 refine oA ?_
       iterate 4 refine oB ?_
       iterate 2 refine oA ?_
       iterate 17 refine oB ?_
       refine oA ?_;rfl
      refine cF (by simp[hF]<;>rfl) ?_;apply Tri.skip;apply bN;apply sN;apply rN hC
      ·iterate 3 refine oA ?_
       rfl
      refine zar ?_;refine ih (pre++[x]) best _ (by rw[hsp];simp) (by simpa using hlen) (fun y hy=>hne y (by simp[hy])) (by simp[hw]) (by simp[h0]) (by simp[h1]) (by simp[h4]) (by simp[h15]) (by simp[h16,hwk]) (fun t' k1 k2 k3 k4 k5=>hE t' k1 k2 k3 k4 (by rw[k5];simp only[zfK];rw[if_neg (by rw[hok];simp)]))
     |false=>
      have hok:okS s i best x=true:=by unfold okS;rw[hlg0,hb,hlst,hll,hxl,hww];rfl
      have hF:=ai @h0 (ai @h1 (ai @h4 (ai @h15 (ai @h16 (ai @hsy (ai @hlt (ai @hat (ai @hat2 (ai @zbd (ai @hxl (ai @hbg (ai @hwk (ai @hlg (ai @hb (ai @hll (ai @hww (ai @hwn (ai @hlb (ai @hlb2 (ai @hle (ai @hwi (ai @c2 @hwo))))))))))))))))))))));refine zaP.round' ?_;apply sQ;apply rS hC
      ·iterate 4 refine oA ?_
       rfl
      refine Tri.condG (o:=?of2) (b:=?bf2) ?gf2 ?rf2 ?yf2 ?nf2;case gf2=>simp[hF]<;>rfl
      case rf2=>rfl
      case yf2=>
       intro hy2;apply Tri.skip;apply sN;apply sQ;apply bK;apply rS hC
       ·iterate 5 refine oA ?_
        rfl
       apply rS hC
       ·iterate 6 refine oA ?_
        iterate 4 refine oB ?_
        iterate 2 refine oA ?_
        iterate 17 refine oB ?_
        refine oA ?_;rfl
       refine cT (by simp[hF]<;>rfl) ?_;apply rN hC
       ·iterate 2 refine oA ?_
        rfl
       apply bN;apply sN;apply rN hC
       ·iterate 3 refine oA ?_
        rfl
       refine zar ?_;refine ih (pre++[x]) x _ (by rw[hsp];simp) (by simpa using hlen) (fun y hy=>hne y (by simp[hy])) (by simp[hw]) (by simp[h0]) (by simp[h1]) (by simp[h4]) (by simp[h15]) (by simp[h16,hwk]) (fun t' k1 k2 k3 k4 k5=>hE t' k1 k2 k3 k4 (by rw[k5];simp only[zfK];rw[if_pos hok]))
      case nf2=>
       intro hn2;exact absurd hn2 (by simp[hF])
end Go.Ev
