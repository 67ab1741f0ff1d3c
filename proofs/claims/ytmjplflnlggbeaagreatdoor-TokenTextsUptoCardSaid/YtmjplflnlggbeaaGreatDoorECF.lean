/- Blanks, comments and tokens of the program are those of the reference. A token in another surrounding: names and numbers. A token in another surrounding: strings and symbols. TokenScans: lists of tokens compared. Walks of the laws without a reference. Trees of Text and fits. Contracts taken; keywords on any heap; the length of a builder. Tokens without places and lines. Kinds and texts compared. fits of the program. Text of the program. Trees of the reference's Quote. The reference's Quote. Walks: TokenNames. Trees of the reference: given, written, Text. Blanks and comments in another surrounding. The tokens of a text, of a text that is cut. TokenPlaces returns true. Walks of TokenBlanks. Tokens of a text behind another one. Tokens of a text with blanks put into it. TokenBlanks returns true. written and Text of the reference. given. Texts of integers and floats, and their tokens. A number, scanned again. A token, written and scanned again. -/
import Derived.Test.YtmjplflnlggbeaaGreatDoorEZN
import Derived.Test.YtmjplflnlggbeaaGreatDoorEZS
import Derived.Test.YtmjplflnlggbeaaGreatDoorEEvPart2
import Derived.Test.YtmjplflnlggbeaaGreatDoorEYD
import Derived.Lib.TrimU
namespace Go.Ev
open Go Go.Proofs
set_option linter.unusedSimpArgs false
set_option linter.unusedVariables false
set_option linter.unnecessarySimpa false
open Tryz List
set_option maxRecDepth 100000
/-! Blanks, comments and tokens of the program are those of the reference. -/
theorem ztM (x:Bs):Lib.contains x [10]=x.contains 10:=by
 unfold Lib.contains;rw[Lib.index_one,Lib.contains_iff_indexByte]
theorem ztP:∀L:Bs,(if Lib.indexByte L 10<0 then L.length else(Lib.indexByte L 10).toNat)=lnL L
 | []=>rfl
 |b::L=>by
  have ih:=ztP L;have hge:=Lib.indexByte_ge L 10;unfold Lib.indexByte lnL;by_cases hb:(b==10)=true
  ·rw[if_pos hb,if_pos hb];rfl
  ·rw[if_neg hb,if_neg hb,←ih];by_cases h:Lib.indexByte L 10= -1
   ·rw[h];rfl
   ·have h1:¬(Lib.indexByte L 10 == -1)=true:=by rw[jOa];exact h
    rw[if_neg h1,if_neg (by omega),if_neg (by omega)];omega
theorem zqe:∀L:Bs,(L.take (lnL L)).contains 10=false
 | []=>rfl
 |b::L=>by
  have ih:=zqe L;unfold lnL;by_cases hb:(b==10)=true
  ·rw[if_pos hb];rfl
  ·rw[if_neg hb,jUc,contains_cons,ih,Bool.or_false];rw[jOa]at hb;rw[jDa];exact fun e=>hb e.symm
theorem zeX {s:Bs}{i j e:Nat}(h1:i≤j)(h2:j≤e):(s.take e).drop i=(s.take j).drop i++(s.take e).drop j:=by
 obtain⟨a,rfl⟩:∃a,j=i+a:=⟨j-i,by omega⟩;obtain⟨b,rfl⟩:∃b,e=i+a+b:=⟨e-(i+a),by omega⟩;rw[jSc,jSc,jSc,show i+a+b-i=a+b from by omega,show i+a-i=a from by omega,show i+a+b-(i+a)=b from by omega,take_add,←jDd]
theorem zjN {s:Bs}{i:Nat}{a b:UInt8}(h:zbv (s.drop i) [a,b]=true):(s.take (i+2)).drop i=[a,b]∧i+2≤s.length:=by
 have hl:=zbw h;rw[jJa]at hl;simp only[jIa,jVa]at hl;simp only[zbv,jMa,jOa]at h;rw[jSc,show i+2-i=2 from by omega];exact⟨h.2,by omega⟩
theorem zge (s:Bs):∀(n n' i d:Nat) (l:Bool),s.length<n+i→s.length<n'+i→i≤s.length→0<d →
    (∀e,zeV s n' i d=some e→i≤e∧cmF s n i d l=(true,e,l||((s.take e).drop i).contains 10))∧(zeV s n' i d=none→(cmF s n i d l).1=false)
  |0,n',i,d,l,h1,h2,h3,h4=>by omega
  |n+1,0,i,d,l,h1,h2,h3,h4=>by omega
  | n + 1, n' + 1,i,d,l,h1,h2,h3,h4=>by
    simp only[zeV,cmF]
    rw[if_neg (show ¬d=0 by omega),zcv s i _ h3,zcv s i _ h3]
    by_cases c1:zbv (s.drop i) [47,42]=true
    · obtain⟨q1,q2⟩:=zjN c1
      rw[if_pos c1,if_neg (show ¬s.length≤i by omega),if_pos c1]
      obtain⟨a,b⟩:=zge s n n' (i+2) (d+1) l (by omega) (by omega) q2 (by omega)
      refine⟨fun e he=>?_,b⟩
      obtain⟨a1,a2⟩:=a e he
      refine⟨by omega,?_⟩
      rw[a2,zeX (show i≤i+2 by omega) a1,q1]
      simp
    · rw [if_neg c1,if_neg c1]
      by_cases c2:zbv (s.drop i) [42,47]=true
      · obtain ⟨q1,q2⟩:=zjN c2
        rw[if_pos c2,if_neg (show ¬s.length≤i by omega),if_pos c2]
        by_cases hd:d=1
        · rw[if_pos hd]
          obtain⟨m,rfl⟩:∃m,n=m+1:=⟨n-1,by omega⟩
          subst hd
          refine⟨fun e he=>?_,fun h=>by cases h⟩
          have he:=jWa he
          subst he
          refine⟨by omega,?_⟩
          rw[q1]
          simp[cmF]
        · rw[if_neg hd]
          obtain⟨a,b⟩:=zge s n n' (i+2) (d-1) l (by omega) (by omega) q2 (by omega)
          refine⟨fun e he=>?_,b⟩
          obtain⟨a1,a2⟩:=a e he
          refine⟨by omega,?_⟩
          rw[a2,zeX (show i≤i+2 by omega) a1,q1]
          simp
      · rw [if_neg c2]
        by_cases hl:i<s.length
        · rw [if_pos hl,if_neg (show ¬s.length≤i by omega),if_neg c2]
          obtain⟨a,b⟩:=zge s n n' (i+1) d (l||(atR s i==10)) (by omega) (by omega) (by omega) h4
          refine⟨fun e he=>?_,b⟩
          obtain⟨a1,a2⟩:=a e he
          refine⟨by omega,?_⟩
          rw[a2,zeX (show i≤i+1 by omega) a1,znj hl]
          have : (atR s i==10)=([UInt8.ofNat (atR s i).toNat].contains 10):=by
            have hr:=zbY s i
            rw[jYc]
            simp only[jOa,contains_cons,contains_nil,Bool.or_false]
            constructor
            · intro h;rw[h];rfl
            · intro h
              have h:=congrArg UInt8.toNat h
              rw[UInt8.toNat_ofNat',Nat.mod_eq_of_lt (by omega)]at h
              have:(10:UInt8).toNat=10:=rfl
              omega
          rw[this,contains_eq_any_beq,contains_eq_any_beq,contains_eq_any_beq,any_append,Bool.or_assoc]
        · rw[if_neg hl,if_pos (show s.length≤i by omega)]
          exact⟨fun e he=>(by cases he),fun _=>rfl⟩
theorem zpp {s:Bs}{i:Nat}(h:zbv (s.drop i) [47,42]=true):zeV s (s.length+1) i 0=zeV s s.length (i+2) 1:=by
 simp only[zeV,if_pos h]
theorem zcS (s:Bs):∀(n n' i:Nat) (l l2:Bool),s.length<n+i→s.length<n'+i→i≤s.length→match skF s n' i (l2||l)with
    | .inl a=>(zbE s n i l).2.2=a
    | .inr p=>∃l3,zbE s n i l=(p.1,l3,-1)∧p.2=(l2||l3)∧p.1≤s.length
  |0,n',i,l,l2,h1,h2,h3=>by omega
  |n+1,0,i,l,l2,h1,h2,h3=>by omega
  | n + 1, n' + 1, i,l,l2,h1,h2,h3=>by
    simp only[skF,zbE]
    by_cases hl:i<s.length
    · rw [if_pos hl,if_neg (show ¬s.length≤i by omega),zjY]
      by_cases c1:atR s i=10
      · rw[if_pos (by simp[c1]),if_pos (by simp[c1])]
        have ih:=zcS s n n' (i+1) true l2 (by omega) (by omega) (by omega)
        rw[c1]
        rw[show((l2||l)||decide ((10:Int)=10))=(l2||true)from by simp]
        exact ih
      · by_cases c2:atR s i=32∨atR s i=9∨atR s i=13
        · rw[if_pos (by rcases c2 with h|h|h<;>simp[h]),if_neg (by simp[c1]),if_pos (by rcases c2 with h|h|h<;>simp[h])]
          have ih:=zcS s n n' (i+1) l l2 (by omega) (by omega) (by omega)
          rw[show((l2||l)||decide (atR s i=10))=(l2||l)from by simp[c1]]
          exact ih
        · rw [if_neg (by rintro(h|h|h|h);exact c2 (.inl h);exact c2 (.inr (.inl h));exact c2 (.inr (.inr h));exact c1 h),if_neg (by simp[c1]),
            if_neg (by simp only[jNc,jOa];rintro((h|h)|h);exact c2 (.inl h);exact c2 (.inr (.inl h));exact c2 (.inr (.inr h))),
            zcv s i _ h3,zcv s i _ h3]
          unfold znM
          by_cases c3:zbv (s.drop i) [47,47]=true
          · rw [if_pos c3,if_pos c3]
            have hlen:=zjN c3
            have hln:=zqd (s:=s) (i:=i) (by rw[zcv s i _ h3];exact c3)
            have hle:=zmL (s.drop i)
            rw[jJa]at hle
            have he:(if Lib.indexByte (s.drop i) 10<0 then s.length else i+(Lib.indexByte (s.drop i) 10).toNat)=i+lnL (s.drop i):=by
              rw[←ztP,jJa]
              split<;>omega
            rw[he]
            simp only[zk4]
            have hcut:(s.take (i+lnL (s.drop i))).drop i=(s.drop i).take (lnL (s.drop i)):=by rw[jSc,jJc]
            unfold zfN
            by_cases hv:Lib.validD ((s.take (i+lnL (s.drop i))).drop i)=true
            · rw[if_pos hv,if_pos hv]
              simp only
              rw[ztM,hcut,zqe,Bool.or_false]
              exact zcS s n n' _ l l2 (by omega) (by omega) (by omega)
            · rw[if_neg hv,if_neg hv]
          · rw [if_neg c3,if_neg c3]
            by_cases c4:zbv (s.drop i) [47,42]=true
            · obtain⟨q1,q2⟩:=zjN c4
              rw[if_pos c4,if_pos c4,zpp c4]
              obtain⟨a,b⟩:=zge s (s.length+1) s.length (i+2) 1 l (by omega) (by omega) q2 (by omega)
              cases hc:zeV s s.length (i+2) 1 with
              | none=>
                simp only[zk4]
                rw[if_neg (by rw[b hc];decide)]
              | some e=>
                obtain⟨a1,a2⟩:=a e hc
                have hle:=(zhV s (s.length+1) (i+2) 1 l q2).2
                rw[a2]at hle ⊢
                simp only[zk4,if_true]at hle ⊢
                unfold zfN
                by_cases hv:Lib.validD ((s.take e).drop i)=true
                · rw[if_pos hv,if_pos hv]
                  simp only
                  rw[ztM,zeX (show i≤i+2 by omega) a1,q1]
                  have ih:=zcS s n n' e (l||((s.take e).drop (i+2)).contains 10) l2 (by omega) (by omega) hle
                  have e9:(([47,42]:Bs)++(s.take e).drop (i+2)).contains 10=((s.take e).drop (i+2)).contains 10:=by simp
                  rw[e9,Bool.or_assoc]
                  exact ih
                · rw[if_neg hv,if_neg hv]
            · rw[if_neg c4,if_neg c4]
              exact⟨l,rfl,rfl,h3⟩
    · rw[if_neg hl,if_pos (show s.length≤i by omega)]
      exact⟨l,rfl,rfl,h3⟩
theorem zxb {s:Bs}{i:Nat}:idR s i=i+idR (s.drop i) 0:=by
 have h0:atR s i=atR (s.drop i) 0:=by rw[←zdB,jNd]
 unfold idR;rw[h0];split
 ·rfl
 ·simp only[jFc,jKb];rw[jDd];omega
theorem zxf (y:Bs):(kwL.any fun x=>x==y)=kw y:=by
 unfold kw;rw[zu7,contains_eq_any_beq];congr 1;funext x;rw[jYc,jOa,jOa];exact eq_comm
theorem zvi {s:Bs}{i:Nat}(hi:i≤s.length)(best t:Bs)(ht:zf6 t≠95):okS s i best t=okP (s.drop i) best t:=by
 unfold okS okP;rw[zcv s i t hi,zdB];have h95:(zf6 t==95)=false:=by rw[jDa];exact ht
 rw[h95,Bool.or_false];by_cases hl:t.length<(s.drop i).length
 ·rw[show decide (t.length<(s.drop i).length)=true from jVb hl,jSd,Bool.not_and]
 ·rw[show decide (t.length<(s.drop i).length)=false from jNb hl,ziJ (by omega),show zcR 0=false from by decide];simp
theorem zng {s:Bs}{i:Nat}(hi:i≤s.length):∀(L:List (Bs))(best:Bs),(∀t∈L,zf6 t≠95)→zk7 s i L best=sgF (s.drop i) L best
 | [],best,h=>rfl
 |t::L,best,h=>by
  simp only[zk7,sgF];rw[zvi hi best t (h t (by simp))];exact zng hi L _ fun t ht=>h t (by simp[ht])
theorem zvT:∀t∈syL,zf6 t≠95:=by decide
theorem zmS {s:Bs}{i:Nat}{v:V}(hi:i<s.length)(h:zla s i v):v=tkR (zcQ kw zdv (s.drop i)) i:=by
 have h0:atR s i=atS (s.drop i) 0:=by
  have:=zdB s i 0;rw[jNd]at this;rw[this];rfl
 unfold zla at h;unfold zcQ;rw[zxb]at h;by_cases c1:0<idR (s.drop i) 0
 ·rw[if_pos (by omega)]at h;rw[if_pos c1,h,zxf,jSc,jJc];rfl
 ·rw[if_neg (by omega)]at h;rw[if_neg c1];by_cases c2:0≤zby (atR s i) 10
  ·rw [if_pos c2]at h;rw[if_pos (by
    rw[zgH,h0]at c2;simp only[jMa,jTa];exact c2),zsN (by omega) c2 h]
   cases zdv (s.drop i)<;>rfl
  ·rw [if_neg c2]at h;rw[if_neg (by
    rw[zgH,h0]at c2;simp only[jMa,jTa];exact c2)]
   rw[zcv s i _ (by omega),h0]at h;by_cases c3:zbv (s.drop i) [34,34,34]=true
   ·rw [if_pos c3]at h;have h34:atS (s.drop i) 0=34:=by
     have e:s.drop i=s[i]::s.drop (i+1):=jAb hi;have h2:=c3;simp only[zbv,jMa,jOa]at h2;rw[e]at h2;have h2:=(List.cons.inj h2.2).1;rw[e,h2];rfl
    rw[if_neg (by rw[h34];decide),if_pos h34,h,zsX c3];cases zjO (s.drop i)<;>rfl
   ·rw[if_neg c3]at h;by_cases c4:atS (s.drop i) 0=34
    ·rw[if_pos (by rw[c4];decide)]at h;rw[if_neg (by rw[c4];decide),if_pos c4,h,ztn (by omega)];unfold zjO;rw[if_neg c3];cases zbW (s.drop i) 34<;>rfl
    ·rw[if_neg (by rw[jOa];exact c4)]at h;by_cases c5:atS (s.drop i) 0=39
     ·rw[if_pos (by rw[c5];decide)]at h;rw[if_pos c5,h,zrU (by omega)];cases zjR (s.drop i)<;>rfl
     ·rw[if_neg (by rw[jOa];exact c5)]at h;rw[if_neg c5,if_neg c4,h];unfold zwD;rw[zng (by omega) _ _ zvT,←zvU];by_cases c6:sgF (s.drop i) sgnL []=[]
      ·rw[c6];rfl
      ·unfold ztp;rw[if_neg c6,if_pos (jEc.2 c6)];simp[tkR]
theorem zrm {x:Bs}{e:Nat}(h:zcQ kw zdv x=.inl e):e≠0:=by
 unfold zcQ at h;split at h
 ·cases h
 split at h
 ·split at h
  ·cases h
  ·cases h;decide
 split at h
 ·split at h
  ·cases h
  ·cases h;decide
 split at h
 ·split at h
  ·cases h
  ·cases h;decide
 split at h
 ·cases h
 ·cases h;decide
def zzr (o:List Tk ⊕ (Nat×Nat)):List Tk ⊕ (Int×Int):=match o with
 | .inl l=>.inl l
 | .inr p=>.inr (p.1,p.2)
theorem ztT {k e c:Int}{t:Bs}(h:zjm k t e=zif c):c=0:=by
 simp only[zjm,zif,V.tup.injEq,jPa,V.i.injEq,jLb,jGb]at h;exact h.2.2.symm
theorem zsP {k k' e e':Int}{t t':Bs}(h:zjm k t e=zjm k' t' e'):k=k'∧t=t'∧e=e':=by
 simp only[zjm,ziz,V.tup.injEq,jPa,V.agg.injEq,V.i.injEq,V.s.injEq,jLb,jGb]at h;exact⟨h.1.1,h.1.2,h.2⟩
theorem zsO {c c':Int}(h:zif c=zif c'):c=c':=by
 simp only[zif,V.tup.injEq,jPa,V.i.injEq,jLb,jGb]at h;exact h
theorem zqW {s:Bs}{i:Nat}{acc:List Tk}{r:List Tk ⊕ (Int×Int)}(h:ScanS s i acc r):∀n,s.length<n+i→i≤s.length→r=zzr (zfo s n i (acc.length==0) acc):=by
 induction h with
 | @opn i acc hb=>
  intro n h1 h2;obtain⟨m,rfl⟩:∃m,n=m+1:=⟨n-1,by omega⟩;have hk:=zcS s (s.length+1) (s.length+1) i false (acc.length==0) (by omega) (by omega) h2;rw[Bool.or_false]at hk;simp only[zfo,skQ];cases hs:skF s (s.length+1) i (acc.length==0)with
  |inl a=>rw[hs]at hk;rw[hk];rfl
  |inr p=>
   rw[hs]at hk;obtain⟨l3,h3,_⟩:=hk;rw[h3]at hb;simp at hb
 | @done i acc hb he=>
  intro n h1 h2;obtain⟨m,rfl⟩:∃m,n=m+1:=⟨n-1,by omega⟩;have hk:=zcS s (s.length+1) (s.length+1) i false (acc.length==0) (by omega) (by omega) h2;rw[Bool.or_false]at hk;simp only[zfo,skQ];cases hs:skF s (s.length+1) i (acc.length==0)with
  |inl a=>rw[hs]at hk;rw[hk]at hb;omega
  |inr p=>
   rw[hs]at hk;obtain⟨l3,h3,_⟩:=hk;rw[h3]at he;simp only at he ⊢;rw[if_pos he];rfl
 | @bad i acc c hb he hc hv=>
  intro n h1 h2;obtain⟨m,rfl⟩:∃m,n=m+1:=⟨n-1,by omega⟩;have hk:=zcS s (s.length+1) (s.length+1) i false (acc.length==0) (by omega) (by omega) h2;rw[Bool.or_false]at hk;simp only[zfo,skQ];cases hs:skF s (s.length+1) i (acc.length==0)with
  |inl a=>rw[hs]at hk;rw[hk]at hb;omega
  |inr p=>
   rw[hs]at hk;obtain⟨l3,h3,_⟩:=hk;rw[h3]at he hv ⊢;simp only at he hv ⊢;rw[if_neg (by omega)];have h1:=zmS he hv;cases ht:zcQ kw zdv (s.drop p.1)with
   |inl e=>
    rw[ht]at h1;have:=zsO h1;subst this;rfl
   |inr q=>
    rw[ht]at h1;exact absurd (ztT h1.symm) hc
 | @step i e acc k t r hb he hv h3 h4 hr ih=>
  intro n h1 h2;obtain⟨m,rfl⟩:∃m,n=m+1:=⟨n-1,by omega⟩;have hk:=zcS s (s.length+1) (s.length+1) i false (acc.length==0) (by omega) (by omega) h2;rw[Bool.or_false]at hk;simp only[zfo,skQ];have hge:=fun(x:Nat×Bool)(hs:skF s (s.length+1) i (acc.length==0)=.inr x)=>(zm8 s _ i _ x.1 x.2 h2 hs).1;cases hs:skF s (s.length+1) i (acc.length==0)with
  |inl a=>rw[hs]at hk;rw[hk]at hb;omega
  |inr p=>
   have hge:=hge p hs;rw[hs]at hk;obtain⟨l3,e3,e4,_⟩:=hk;rw[e3]at he hv h3 ih;simp only at he hv h3 ih ⊢;rw[if_neg (by omega)];have h1:=zmS he hv;cases ht:zcQ kw zdv (s.drop p.1)with
   |inl c=>
    rw[ht]at h1;have:=ztT h1;exact absurd (by omega) (zrm ht)
   |inr q=>
    rw[ht]at h1;obtain⟨q1,q2,q3⟩:=zsP h1;have:=ih m (by omega) h4;rw[this,e4,show((acc++[(k,t,((p.1:Nat):Int),l3||((acc.length:Int)==0))]).length==0)=false from by simp];obtain⟨qk,qt,qm⟩:=q;simp only at q1 q2 q3;subst q1 q2;have e5:e=p.1+qm:=by omega
    subst e5;have e6:((acc.length:Int)==0)=(acc.length==0):=by
     rw[jYc,jOa,jOa];omega
    rw[e6,Bool.or_comm l3]
theorem zkO {s:Bs}{r:List Tk ⊕ (Int×Int)}(h:zoK s r):r=if 20000<s.length then .inr (0,16)else zzr (zfo s (s.length+1) 0 true []):=by
 unfold zoK at h;split at h
 ·rename_i hl;rw[if_pos hl];exact h
 ·rename_i hl;rw[if_neg hl];exact zqW h (s.length+1) (by omega) (by omega)
/-! A token hangs on its own bytes and on what stands behind it, as far as that goes on in the same way, or ends, or a blank comes. -/
def zwx (c:UInt8):Bool:=c==32||c==9||c==13||c==10
abbrev zwP:E:=.f1 .vb (.va 0)
abbrev zAy:E:=.f1 .tup (.f2 .cons (.va 0) (.f2 .cons (.f1 (.vi .i64) (.va 1)) (.f2 .cons (.f1 (.vi .i64) (.va 2)) .nil)))
def shq:Nat→Option Shape:=fun f=>
 if f=10 then some ⟨[.b],zwP,.pure,false⟩else
 if f=11 then some ⟨[.v,.i,.i],zAy,.pure,false⟩else
 if f=12 then some ⟨[.v,.i,.i],zAy,.pure,false⟩else
 if f=13 then some ⟨[.b],zwP,.pure,false⟩else
 if f=14 then some ⟨[.b],zwP,.pure,false⟩else
 if f=34 then some ⟨[.v],.va 0,.pure,false⟩else
 shp f
def zaO (l:List Tk):List V:=l.map fun x=>.agg (tkL x)
theorem zxh {ty:TypeId}(ha:zbV (TT.und ty)=some true)(hs:TT.size ty=some 4){l:List Tk}{i:Nat}{x:Tk}(h:l[i]? = some x)(H:zaa):zah TT ty H (.ipt 4 (zaO l) i 0)=some (.agg (tkL x)):=by
 simp only[zah,zaO,jUb,h,jXa,zbq,ha,hs];rfl
theorem zm7 {s:Bs}:∀(n i:Nat)(b:Bool)(acc l:List Tk),i≤s.length→zfo s n i b acc=.inl l→l.length+i≤acc.length+s.length
 |0,i,b,acc,l,hi,h=>by cases h;omega
 |n+1,i,b,acc,l,hi,h=>by
  simp only[zfo]at h;split at h
  ·cases h
  ·rename_i j l' hs;have hk:=zm9 hi hs;split at h
   ·cases h;omega
   ·split at h
    ·cases h
    ·rename_i k t m ht;have hm:=zjL ht;rw[jJa]at hm;simp only at hm;have:=zm7 n _ _ _ _ (by omega) h;simp only[jLa,jIa,jVa]at this;omega
theorem ztb {s:Bs}{l:List Tk}(h:zoK s (.inl l)):zdf s=(l,0,0)∧l.length≤s.length:=by
 have e:=zkO h;unfold zdf;split at e
 ·cases e
 ·rename_i hl;rw[if_neg hl];cases hf:zfo s (s.length+1) 0 true []with
  |inl l'=>
   rw[hf]at e;simp only[zzr,Sum.inl.injEq]at e;subst e;have:=zm7 _ _ _ _ _ (by omega) hf;exact⟨rfl,by simpa using this⟩
  |inr p=>rw[hf]at e;cases e
theorem ztc {s:Bs}{p:Int×Int}(h:zoK s (.inr p)):∃a c:Nat,p=((a:Int),(c:Int))∧zdf s=([],a,c):=by
 have e:=zkO h;unfold zdf;split at e
 ·rename_i hl;rw[if_pos hl];cases e;exact⟨0,16,rfl,rfl⟩
 ·rename_i hl;rw[if_neg hl];cases hf:zfo s (s.length+1) 0 true []with
  |inl l'=>rw[hf]at e;cases e
  |inr q=>
   rw[hf]at e;simp only[zzr,jOd]at e;exact⟨_,_,e,rfl⟩
abbrev zzm:E:=.f1 (.isl 4) (.va 0)
def shr:Nat→Option Shape:=fun f=>
 if f=11 then some ⟨[.l,.i,.i],.f1 .tup (.f2 .cons zzm (.f2 .cons (.f1 (.vi .i64) (.va 1)) (.f2 .cons (.f1 (.vi .i64) (.va 2)) .nil))),.pure,false⟩else
 if f=34 then some ⟨[.l],zzm,.pure,false⟩else
 shq f
def shx:Nat→Option Shape:=fun f=>
 if f=40 then some ⟨[.b],zwP,.pure,false⟩else
 if f=44 then some ⟨[.b],zwP,.pure,false⟩else
 if f=16 then some ⟨[.s,.i],two (.f1 .vs (.va 0)) (.f1 (.vi .i64) (.va 1)),.pure,false⟩else
 if f=37 then some ⟨[],.cv .nili,.keeps [],false⟩else
 if f=38 then some ⟨[.i],two (.f1 (.vi .i64) (.va 0)) (.cv .nili),.keeps [],false⟩else
 if f=45 then some ⟨[.i],.f1 (.vi .i64) (.va 0),.reads,false⟩else
 shr f
abbrev zAB:E:=.f1 .agg (.f2 .cons (.f1 (.vi .i64) (.va 0)) (.f2 .cons (.f1 .vs (.va 1)) (.f2 .cons (.f1 (.vi .i64) (.va 2)) (.f2 .cons (.f1 .vb (.va 3)) .nil))))
theorem zyQ:zaQ TT shx f44.ntmps [5,8] (zae f44) [] ⟨[(0,zAB)],⟨.va 4,[],[]⟩,5,[]⟩ (KF TT f44 [1,73,74])=let qa:SH:=⟨v4,[],[xk 34 (x4 (xi v0) (xs v1) (xi v2) (xb v3))]⟩;let qc:E:=xp (xN (xh v4) (.cn 0));let qb:Tree:=.leaf (.stop [tt,ff,tt,ff,tt,tt,tt,tt,tt,ff,ff,ff]) [(1,qc)] qa;.ite (xe v0 c1) (.asks (.call 40 (x1 (xs v1))) [.b] (xb v5) (.fin (xb v5) qa) (.stuck 0)) (.ite (xe v0 c2) (.leaf (.stop [tt,ff,tt,ff,tt,tt,tt,ff,ff]) [(1,qc)] qa) (.ite (xe v0 c3) qb (.ite (xe v0 (xc 4)) qb (.ite (xe v0 (xc 5)) (.asks (.call 36 (x1 (xs v1))) [.b] (xb v5) (.fin (xb v5) qa) (.stuck 0)) (.ite (xe v0 (xc 6)) (.leaf (.stop [tt,ff,tt,ff,tt,tt,tt,tt,tt,tt,tt,tt,tt,ff,tt,ff]) [(1,qc),(73,xg (.f2 .cons (xs (.cs [60,60])) (.f2 .cons (xs (.cs [62,62])) (.f2 .cons (xs (.cs [61,61])) (.f2 .cons (xs (.cs [33,61])) (.f2 .cons (xs (.cs [60,61])) (.f2 .cons (xs (.cs [62,61])) (.f2 .cons (xs (.cs [61,62])) (.f2 .cons (xs (.cs [45,62])) (.f2 .cons (xs (.cs [46,62])) (.f2 .cons (xs (.cs [43,63])) (.f2 .cons (xs (.cs [45,63])) (.f2 .cons (xs (.cs [42,63])) (.f2 .cons (xs (.cs [47,63])) (.f2 .cons (xs (.cs [37,63])) (.f2 .cons (xs (.cs [35,114,101,97,100])) (.f2 .cons (xs (.cs [35,115,101,110,100])) (.f2 .cons (xs (.cs [35,115,104,97,114,101])) (.f2 .cons (xs (.cs [35,97,108,105,97,115])) (.f2 .cons (xs (.cs [35,97,110,121])) (.f2 .cons (xs (.cs [40])) (.f2 .cons (xs (.cs [41])) (.f2 .cons (xs (.cs [91])) (.f2 .cons (xs (.cs [93])) (.f2 .cons (xs (.cs [123])) (.f2 .cons (xs (.cs [125])) (.f2 .cons (xs (.cs [44])) (.f2 .cons (xs (.cs [46])) (.f2 .cons (xs (.cs [58])) (.f2 .cons (xs (.cs [59])) (.f2 .cons (xs (.cs [63])) (.f2 .cons (xs (.cs [61])) (.f2 .cons (xs (.cs [60])) (.f2 .cons (xs (.cs [62])) (.f2 .cons (xs (.cs [43])) (.f2 .cons (xs (.cs [45])) (.f2 .cons (xs (.cs [42])) (.f2 .cons (xs (.cs [47])) (.f2 .cons (xs (.cs [37])) (.f2 .cons (xs (.cs [124])) (x4 (xs (.cs [38])) (xs (.cs [94])) (xs (.cs [33])) (xs (.cs [126]))))))))))))))))))))))))))))))))))))))))))),(74,xi c0)] qa) (.fin (xb (.cb false)) qa)))))):=by kernel_rfl
theorem zv9:goT TT shx f44.ntmps [] [tt,ff,tt,ff,tt,tt,tt,tt,tt,ff,ff,ff] (zae f44) [] ⟨[(1,.f1 (.ptr 0) (.va 0))],⟨.va 1,[(.va 0,some ⟨34,.f2 .cons (.f1 (.vi .i64) (.va 2)) (.f2 .cons (.f1 .vs (.va 3)) (.f2 .cons (.f1 (.vi .i64) (.va 4)) (.f2 .cons (.f1 .vb (.va 5)) .nil))),.all⟩)],[]⟩,6,[]⟩ (KF TT f44 [1])=let qa:SH:=⟨v1,[(v0,xk 34 (x4 (xi v2) (xs v3) (xi v4) (xb v5)))],[]⟩;let qb:Tree:=.fin (xb (.cb false)) qa;let qc:Tree:=.stuck 0;.ite (xQ v3 (.cs [])) qb (.need (xL c0 (xl v3)) (.asks (.call 50 (x1 (xu (xA v3 c0)))) [.b] (xb v6) (.ite v6 (.asks (.call 11 (x1 (xs v3))) [.l,.i,.i] (xt (x3 (.f1 (.isl 4) v7) (xi v8) (xi v9))) (.ite (xe v9 c0) (.ite (xe (xn v7) c1) (.need (xL c0 (xn v7)) (.ask (.load 3 (.f3 (.ipt 4 0) v7 c0 .nil)) qa [.i] (xi v10) false (.ite (xe v10 v2) (.ask (.load 9 (.f3 (.ipt 4 1) v7 c0 .nil)) qa [.s] (xs v11) false (.fin (xb (xQ v11 v3)) qa) qc) qb) qc)) qb) qb) qc) qb) qc)):=by kernel_rfl
theorem zwa:goT TT shx f44.ntmps [17] [tt,ff,tt,ff,tt,tt,tt,tt,tt,tt,tt,tt,tt,ff,tt,ff,ff] (zae f44) [] ⟨[(1,.f1 (.ptr 0) (.va 0)),(73,.va 6),(74,.f1 (.vi .i64) (.va 7))],⟨.va 1,[(.va 0,some ⟨34,.f2 .cons (.f1 (.vi .i64) (.va 2)) (.f2 .cons (.f1 .vs (.va 3)) (.f2 .cons (.f1 (.vi .i64) (.va 4)) (.f2 .cons (.f1 .vb (.va 5)) .nil))),.all⟩)],[]⟩,8,[]⟩ (KF TT f44 [1,73,74])=let qa:SH:=⟨v1,[(v0,xk 34 (x4 (xi v2) (xs v3) (xi v4) (xb v5)))],[]⟩;.ite (xL v7 (xc 43)) (.leaf (.stop [tt,ff,tt,ff,tt,tt,tt,tt,tt,tt,tt,tt,tt,ff,tt,ff,ff,tt,tt,ff,ff,ff]) [(1,xp v0),(73,v6),(74,xi v7)] qa) (.fin (xb (.cb false)) qa):=by kernel_rfl
theorem zwb:goT TT shx f44.ntmps [] [tt,ff,tt,ff,tt,tt,tt,tt,tt,tt,tt,tt,tt,ff,tt,ff,ff,tt,tt,ff,ff,tt] (zae f44) [] ⟨[(1,.f1 (.ptr 0) (.va 0)),(7,.f1 .vs (.va 8)),(73,.va 6),(74,.f1 (.vi .i64) (.va 7))],⟨.va 1,[(.va 0,some ⟨34,.f2 .cons (.f1 (.vi .i64) (.va 2)) (.f2 .cons (.f1 .vs (.va 3)) (.f2 .cons (.f1 (.vi .i64) (.va 4)) (.f2 .cons (.f1 .vb (.va 5)) .nil))),.all⟩)],[]⟩,9,[]⟩ (KF TT f44 [1,73,74])=let qa:SH:=⟨v1,[(v0,xk 34 (x4 (xi v2) (xs v3) (xi v4) (xb v5)))],[]⟩;.ite (xQ v8 v3) (.fin (xb (.cb true)) qa) (.leaf (.again [tt,ff,tt,ff,tt,tt,tt,tt,tt,tt,tt,tt,tt,ff,tt,ff,ff]) [(1,xp v0),(73,v6),(74,xi (xw (xa v7 c1)))] qa):=by kernel_rfl
theorem zwe:zaQ TT shx f45.ntmps [] (zae f45) [] ⟨[(0,.f1 (.ptr 0) (.va 0))],⟨.va 1,[(.va 0,some ⟨66,.f2 .cons (.va 2) (.f2 .cons (.cv .nils) .nil),.all⟩)],[]⟩,3,[]⟩ (KF TT f45 [])=.fin (xi c0) ⟨v1,[(v0,xk 66 (x2 v2 (.cv .nils)))],[]⟩:=by kernel_rfl
theorem zwf:zaQ TT shx f45.ntmps [] (zae f45) [] ⟨[(0,.f1 (.ptr 0) (.va 0))],⟨.va 1,[(.va 0,some ⟨66,.f2 .cons (.va 2) (.f2 .cons (.f2 (.sl 1) (.va 3) (.f1 .lenS (.va 4))) .nil),.all⟩)],[]⟩,5,[]⟩ (KF TT f45 [])=.fin (xi (xl v4)) ⟨v1,[(v0,xk 66 (x2 v2 (.f2 (.sl 1) v3 (xl v4))))],[]⟩:=by kernel_rfl
theorem zAd:zaQ TT shx f25.ntmps [] (zae f25) [] ⟨[(0,.f1 (.isl 4) (.va 0))],⟨.va 1,[],[]⟩,2,[]⟩ (KF TT f25 [4,8,9,10])=.leaf (.stop [tt,tt,ff,tt,ff]) [(4,xp (xN (xh v1) (.cn 0))),(8,.f1 (.isl 4) v0),(9,xi (xn v0)),(10,xi c0)] ⟨v1,[],[xk 66 (x2 (.cv .nilp) (.cv .nils))]⟩:=by kernel_rfl
theorem zyz:goT TT shx f25.ntmps [11] [tt,tt,ff,tt,ff,ff] (zae f25) [] ⟨[(4,.f1 (.ptr 0) (.va 1)),(8,.f1 (.isl 4) (.va 0)),(9,.f1 (.vi .i64) (.f1 .lenL (.va 0))),(10,.f1 (.vi .i64) (.va 2))],⟨.va 3,[],[]⟩,4,[]⟩ (KF TT f25 [4,6,8,9,10])=let qa:E:=x4 (xi v4) (xs v5) (xi v6) (xb v7);let qg:E:=xp v1;let qd:E:=xN (xh v3) (.cn 0);let qc:SH:=⟨v3,[],[xk 34 qa]⟩;let qe:Tree:=.fin (xt (x2 (xs (.cs [])) (xi c2))) qc;let qb:Tree:=.leaf (.stop [tt,tt,ff,tt,ff,ff,tt,tt,ff,ff,tt,tt,tt,ff]) [(4,qg),(6,xp qd),(8,.f1 (.isl 4) v0),(9,xi (xn v0)),(10,xi v2)] ⟨v9,[(qd,xk 34 qa)],[]⟩;let qf:Tree:=.stuck 0;.ite (xL v2 (xn v0)) (.need (xE c0 v2) (.ask (.load 34 (.f3 (.ipt 4 0) v0 v2 .nil)) ⟨v3,[],[]⟩ [.i,.s,.i,.b] (xg qa) false (.asks (.call 44 (x1 (xg qa))) [.b] (xb v8) (.ite v8 (.ite (xe v2 c0) (.ite v7 (.leaf (.stop [tt,tt,ff,tt,ff,ff,tt,tt,ff,ff,tt,tt,tt,ff]) [(4,qg),(6,xp qd),(8,.f1 (.isl 4) v0),(9,xi (xn v0)),(10,xi v2)] qc) qe) (.ite v7 (.askk (.call 37 (x2 qg (xu c10))) qc [] (.cv .nili) [(qd,xR 34 qa)] qb qf) (.askk (.call 37 (x2 qg (xu (xc 32)))) qc [] (.cv .nili) [(qd,xR 34 qa)] qb qf))) qe) qf) qf)) (.ask (.call 39 (x1 qg)) ⟨v3,[],[]⟩ [.s] (xs v5) true (.fin (xt (x2 (xs v5) (xi c0))) ⟨v4,[],[]⟩) qf):=by kernel_rfl
theorem zyA:goT TT shx f25.ntmps [] [tt,tt,ff,tt,ff,ff,tt,tt,ff,ff,tt,tt,tt,ff] (zae f25) [] ⟨[(4,.f1 (.ptr 0) (.va 1)),(6,.f1 (.ptr 0) (.va 3)),(8,.f1 (.isl 4) (.va 0)),(9,.f1 (.vi .i64) (.f1 .lenL (.va 0))),(10,.f1 (.vi .i64) (.va 2))],⟨.va 4,[(.va 3,some ⟨34,.f2 .cons (.f1 (.vi .i64) (.va 5)) (.f2 .cons (.f1 .vs (.va 6)) (.f2 .cons (.f1 (.vi .i64) (.va 7)) (.f2 .cons (.f1 .vb (.va 8)) .nil))),.all⟩)],[]⟩,9,[]⟩ (KF TT f25 [4,8,9,10])=let qg:E:=xp v1;let qa:E:=x4 (xi v5) (xs v6) (xi v7) (xb v8);let qb:=xk 34 qa;let qh:SH:=⟨v4,[(v3,qb)],[]⟩;let qc:SH:=⟨v11,[(v3,qb)],[]⟩;let qe:E:=xt (x2 (xs (.cs [])) (xi (xc 16)));let qi:E:=xi (xw (xa v2 c1));let qf:Tree:=.stuck 0;let qd:SH:=⟨v9,[(v3,qb)],[]⟩;.ite (xe v5 (xc 5)) (.asks (.call 16 (x1 (xs v6))) [.s,.i] (xt (x2 (xs v9) (xi v10))) (.askk (.call 38 (x2 qg (xs v9))) qh [.i] (xt (x2 (xi v12) (.cv .nili))) [(v3,xR 34 qa)] (.ask (.call 45 (x1 qg)) qc [.i] (xi v13) false (.ite (xG v13 (xc 20000)) (.fin qe qc) (.leaf (.again [tt,tt,ff,tt,ff,ff]) [(4,qg),(8,.f1 (.isl 4) v0),(9,xi (xn v0)),(10,qi)] qc)) qf) qf) qf) (.askk (.call 38 (x2 qg (xs v6))) qh [.i] (xt (x2 (xi v10) (.cv .nili))) [(v3,xR 34 qa)] (.ask (.call 45 (x1 qg)) qd [.i] (xi v11) false (.ite (xG v11 (xc 20000)) (.fin qe qd) (.leaf (.again [tt,tt,ff,tt,ff,ff]) [(4,qg),(8,.f1 (.isl 4) v0),(9,xi (xn v0)),(10,qi)] qd)) qf) qf):=by kernel_rfl
noncomputable def ch {F:FuncId}{φ:zhA→Prop}(h:∃g,zak prog TT F g∧φ g):zhA:=h.choose
theorem zdJ {F:FuncId}{φ:zhA→Prop}(h:∃g,zak prog TT F g∧φ g):zak prog TT F (ch h):=h.choose_spec.1
theorem zc3 {F:FuncId}{φ:zhA→Prop}(h:∃g,zak prog TT F g∧φ g):φ (ch h):=h.choose_spec.2
theorem zAa:∃g,zak prog TT 29 g∧∀H:zaa,∃B,g [] H=.val (.mp H.length) B∧(∀j,j<H.length→B[j]? = H[j]?)∧B[H.length]? = zbb[0]?:=by
 obtain⟨g,k,s⟩:=zbX.spec (P:=prog) (F:=29) zaf (D:=fun vs H=>vs=[]) (R:=fun vs H r=>∃B,r=.val (.mp H.length) B∧(∀j,j<H.length→B[j]? = H[j]?)∧B[H.length]? = zbb[0]?) (by
  rintro vs H rfl;have hx:zbX prog TT 29 [] [] fun r=>r=.val (.mp 0) zbb:=⟨_,rfl,by simp,ze1 zaf Con.none_sound 3000 29 [] [] _ zfY (by simp)⟩;have n0:∀k,¬k<([]:zaa).length:=fun k=>jLd k;have hp:=zbX.part (H:=H) (g:=fun _=>0) zao (fun k h=>absurd h (n0 k)) (fun k j h=>absurd h (n0 k)) (fun k h=>absurd h (n0 k)) (by rfl) (by kernel_rfl) (by simp) (by rfl) (by kernel_rfl) hx;have hB:=zgn (H:=H) (H0:=[]) (H1:=zbb) (g:=fun _=>0) (fun k h=>absurd h (n0 k)) (fun k j h=>absurd h (n0 k)) (by simp);refine hp.mono fun r hr=>⟨_,?_,fun j hj=>hB.rest j hj fun k hk=>absurd hk (n0 k),?_⟩
  ·rw[hr];rfl
  ·exact(hB.new 0 (by simp) (by decide)).trans (by kernel_rfl))
 refine⟨g,k,fun H=>?_⟩;obtain⟨r,⟨B,rfl,hB⟩,hr⟩:=s [] H rfl;exact⟨B,hr,hB⟩
theorem zq7:∃g,zak prog TT 45 g∧∀(p:Nat×Bs)(H:zaa),Bld H p.1 p.2→g [.ptr p.1 0] H=.val (.i .i64 p.2.length) H:=by
 refine zc2 zaf 45 (fun p:Nat×Bs=>[.ptr p.1 0]) (fun p H=>Bld H p.1 p.2) (fun p H r=>r=.val (.i .i64 p.2.length) H) ?_ ?_
 ·rintro⟨n,l⟩ ⟨n',l'⟩ H r h1 h2 he hr;simp only[jPa,V.ptr.injEq,jGb]at he;subst he;rw[←h1.inj h2];exact hr
 ·rintro⟨n,l⟩ H hb;obtain⟨a,_,⟨h1,h2⟩|⟨m,hm,hne,h1,h2⟩⟩:=hb
  ·simp only at h1 h2 ⊢;subst h2;refine zaA.sym zaf n0 (fn:=f45) rfl rfl (by simp[f45]) zwe (by kernel_rfl) [.un n,.uh H,.uv a] rfl ⟨by rw[zag];rfl,trivial⟩ (zaa.set_self h1) ⟨by simp;exact zaa.lt h1,by simp⟩ ?_;simp -implicitDefEqProofs only[VC,isR,exU,Ask.den,E.den,O1.den,O2.den,O3.den,SH.den,zat,za9,bD,SB.den,zai,LQ,uu,uW,jOa,jUa,jDa,←zaa.set_self h1];rfl
  ·simp only at h1 h2 ⊢;refine zaA.sym zaf n0 (fn:=f45) rfl rfl (by simp[f45]) zwf (by kernel_rfl) [.un n,.uh H,.uv a,.un m,.us l] rfl ⟨by rw[zag];rfl,trivial⟩ (zaa.set_self h1) ⟨by simp;exact zaa.lt h1,by simp⟩ ?_;simp -implicitDefEqProofs only[VC,isR,exU,Ask.den,E.den,O1.den,O2.den,O3.den,SH.den,zat,za9,bD,SB.den,zai,LQ,uu,uW,jOa,jUa,jDa,←zaa.set_self h1]
def zwr (H:zaa)(v:V)(l:List Tk):Prop:=(v=.nils∧l=[])∨∃n,v=.sl n 4 0 l.length none∧H[n]? = some (some {ty:=34,cells:=tkC l,kind:=.more})
theorem zAG {H:zaa}{v:V}{l:List Tk}(h:zwr H v l)(hl:l.length<100000000)(x:Tk){b:Nat}(hb:H[b]? = some (some {ty:=34,cells:=tkL x,kind:=.all})) :
 ∃v2 H2,zaN TT 23 v (.sl b 4 0 1 (some 1)) H=.val v2 H2∧zwr H2 v2 (l++[x]):=by
 have e1:TT.und 23=some (.slice 34):=rfl;have e2:TT.size 34=some 4:=rfl;have e3:TT.zero 34=some (.agg [.i .i64 0,.s [],.i .i64 0,.b false]):=rfl;have e4:TT.bytes 34=some 40:=rfl;have c1:zap H b=some {ty:=34,cells:=tkL x,kind:=.all}:=by simp[zap,hb]
 have c3:cut (tkL x) (0*4) (1*4)=some (tkL x):=by simp[cut,tkL]
 have f1:(tkL x).all zeA=true:=by simp[tkL,zeA]
 have f2:(V.agg [.i .i64 0,.s [],.i .i64 0,.b false]).cells.length=4:=rfl;rcases h with⟨rfl,rfl⟩|⟨n,rfl,hn⟩
 ·simp only[zaN,e1,e2,e3,e4,za7,c1,c3,jXa,if_true];rw[if_pos ⟨by decide,f2,by decide,f1⟩];simp only[zaX];rw[if_neg (by decide),if_pos ⟨by omega,by omega⟩];exact⟨_,_,rfl,.inr ⟨H.length,rfl,by simp[tkC]⟩⟩
 ·have c2:zap H n=some {ty:=34,cells:=tkC l,kind:=.more}:=by simp[zap,hn]
  have c4:cut (tkC l) (0*4) (l.length*4)=some (tkC l):=by simp[cut,←zbI]
  have hlen:=zbI l;simp only[zaN,e1,e2,e3,e4,za7,c1,c2,c3,c4,jXa,if_true];rw[if_pos ⟨by decide,f2,by decide,f1⟩,if_pos ⟨trivial,by omega,by omega⟩];simp only[zaX,setK_eq];rw[if_neg (by decide),if_pos ⟨trivial,by omega,trivial⟩];refine⟨_,_,rfl,.inr ⟨H.length,by simp,?_⟩⟩;rw[zjK];simp
theorem zhq (l:List Tk):nl (.isl 4 (zaO l))=true:=by
 show nlL (zaO l)=true;unfold zaO;induction l with
 |nil=>rfl
 |cons x l ih=>
  show(nl (V.agg (tkL x))&&nlL (l.map fun x=>V.agg (tkL x)))=true;rw[ih];rfl
theorem zju {l r:List Tk}(h:zaO l=zaO r):l=r:=by
 refine(map_inj_right (f:=fun x:Tk=>V.agg (tkL x)) fun x y e=>?_).1 h;simp only[V.agg.injEq,tkL,jPa,V.i.injEq,V.s.injEq,V.b.injEq,jLb,jGb]at e;exact Prod.ext e.1 (Prod.ext e.2.1 (Prod.ext e.2.2.1 e.2.2.2))
theorem zb5 (l:List Tk):(zaO l).length=l.length:=by simp[zaO]
def ztS (k:Int)(x:Bs)(p:List Tk×Nat×Nat):Bool:=p.2.2==0&&match p.1 with
 | [y]=>y.1==k&&y.2.1==x
 |_=>false
def zhB (k:Int)(x:Bs):Bool:=
 if k=1 then(!x.isEmpty)&&(((idR x 0:Nat):Int)==x.length) && !kw x
 else if k=2 then kw x
 else if k=3∨k=4 then(x !=[])&&((decide (48≤atS x 0)&&decide (atS x 0≤57))&&ztS k x (zdf x))
 else if k=5 then Lib.validD x
 else if k=6 then sgnL.contains x else false
noncomputable def cfA:zad:=((((zad.none.with 40 (ch zvN)).with 29 (ch zAa)).with 50 (ch zon)).with 11 (ch znb)).with 36 (ch zht)
theorem zhU:cfA.Sound prog TT:=ws (ws (ws (ws (ws n0 (zdJ zvN)) (zdJ zAa)) (zdJ zon)) (zdJ znb)) (zdJ zht)
abbrev tkB (k:Int)(x:Bs)(a:Int)(l:Bool):Blk:={ty:=34,cells:=[.i .i64 k,.s x,.i .i64 a,.b l],kind:=.all}
theorem zvt (k:Int)(x:Bs)(a:Int)(l:Bool)(t:Tm)(hw:t.wid=82)(t1:t.get 1=.ptr 0 0){Q:Out→Prop}(h:∀t' H',t'.get 2=.b (kw x)→Q (.norm t' H')):Tri prog TT (sub [tt,ff,tt,ff,tt,tt,tt,ff,ff] (zae f44)) t [some (tkB k x a l)] Q:=by
 obtain⟨B,c1,c2,c3⟩:=zc3 zAa [some (tkB k x a l)];have c1:cfA 29 [] [some (tkB k x a l)]=.val (.mp 1) B:=c1;have b0:B[0]? = some (some (tkB k x a l)):=c2 0 (by simp);have hl:zbm TT 52 (.mp 1) (.s x) false B=some (.b (kw x)):=zp5 c3 x;have ex:TT.ext 29=none:=rfl;show Tri prog TT (.region _ _ true) t _ Q;refine Tri.regN (t':=?t1) (H':=?H1) zaf zhU ?e1 ?q1;case e1=>
  refine zbG (t':=?t1) (H':=?H1) (ks:=[.e,.q,.a,.f,.q]) (fun K=>K[0]? = some (some (tkB k x a l))) (by kernel_rfl) rfl ?_ ?r1;refine DR.eff rfl rfl (by simp[c1,ex]<;>rfl) (by rfl) (by simp[hw]) b0 ?_;refine DR.blind rfl rfl (by simp[t1]<;>rfl) (by rfl) (by simp[hw]) ?_;refine DR.any rfl (by simp[b0]<;>rfl) (by rfl) (by simp[hw]) (by intro K hK;simp[hK]<;>rfl) ?_;refine DR.fix rfl (by simp[hl]<;>rfl) (by rfl) (by simp[hw]) ?_;refine DR.blind rfl rfl (by simp<;>rfl) (by rfl) (by simp[hw]) ?_;exact DR.nil;case r1=>exact rfl
 exact h _ _ (by simp)
theorem zvj {k:Int}{x:Bs}{p:List Tk×Nat×Nat}(h:p.2.2=0):ztS k x p=match p.1 with
 | [y]=>y.1==k&&y.2.1==x
 |_=>false:=by simp[ztS,h]
theorem zp9 {l:List Tk}{i:Nat}{x:Tk}(h:l[i]? = some x)(H:zaa):zah TT 3 H (.ipt 4 (zaO l) i 0)=some (.i .i64 x.1):=by
 have e:zbV (TT.und 3)=some false:=rfl;simp only[zah,zaO,jUb,h,jXa,zbq,e];rfl
theorem zqb {l:List Tk}{i:Nat}{x:Tk}(h:l[i]? = some x)(H:zaa):zah TT 9 H (.ipt 4 (zaO l) i 1)=some (.s x.2.1):=by
 have e:zbV (TT.und 9)=some false:=rfl;simp only[zah,zaO,jUb,h,jXa,zbq,e];rfl
theorem zql (k:Int)(x:Bs)(a:Int)(l:Bool)(t:Tm)(hw:t.wid=f44.ntmps)(t1:t.get 1=.ptr 0 0) :
 Tri prog TT (sub [tt,ff,tt,ff,tt,tt,tt,tt,tt,ff,ff,ff] (zae f44)) t [some (tkB k x a l)] (ctx prog TT [tt,ff,tt,ff,tt,tt,tt,tt,tt,ff,ff,ff] (zae f44) (zaF TT f44 (isR (.val (.b ((x !=[])&&((decide (48≤atS x 0)&&decide (atS x 0≤57))&&ztS k x (zdf x)))))))):=by
 refine Tri.symIn zaf zhU zv9 (by kernel_rfl) [.un 0,.uh [some (tkB k x a l)],.ui k,.us x,.ui a,.ub l] rfl hw ⟨t1,trivial⟩ rfl ⟨by simp,by simp⟩ ?_;simp -implicitDefEqProofs only[VC,isR,exU,Ask.den,E.den,O1.den,O2.den,O3.den,SH.den,zat,za9,bD,SB.den,zai,LQ,uu,uW,jOa,jUa,jDa,jSa,if_false,if_true];refine⟨fun h=>?_,fun h=>?_⟩
 ·subst h;rfl
 ·have hx:(x !=[])=true:=by simpa using h
  have hl:0<x.length:=jEc.2 (by simpa using h);obtain⟨y,hy⟩:=zga x 0 hl;have hy:atS x 0=y.toNat:=hy;rw[hx,jSd,hy];refine⟨by omega,.inl ⟨_,fun K=>zc3 zon _ trivial K,fun hd=>?_,fun hd=>by rw[hd];rfl⟩⟩;rw[hd,jSd];obtain⟨p,ps⟩:∃p,p=zdf x:=⟨_,rfl⟩;refine .inl ⟨zaO p.1,(p.2.1:Nat),(p.2.2:Nat),fun K=>by rw[ps];exact zc3 znb x K,?_,?_⟩
  ·intro he;have he:p.2.2=0:=by omega
   rw[←ps,zvj he,zb5];refine⟨fun h1=>?_,fun h1=>?_⟩
   ·have h1:p.1.length=1:=by omega
    obtain⟨z,hz⟩:=length_eq_one_iff.1 h1;rw[hz];refine⟨by simp,.inl ⟨z.1,?_,?_⟩⟩
    ·exact congrArg (fun o=>lift o _) (zp9 (i:=0) rfl _)
    ·refine⟨fun h2=>.inl ⟨z.2.1,congrArg (fun o=>lift o _) (zqb (i:=0) rfl _),?_⟩,fun h2=>?_⟩
     ·simp[h2]
     ·simp[h2]
   ·have h1:p.1.length≠1:=by omega
    rcases hpl:p.1 with _|⟨z,_|⟨z2,r⟩⟩
    ·rfl
    ·exact absurd (by rw[hpl];rfl) h1
    ·rfl
  ·intro he;have he:p.2.2≠0:=by omega
   rw[←ps];simp[ztS,he]
theorem ztg (k:Int)(x:Bs)(a:Int)(l:Bool):∀(n i:Nat)(t:Tm),43<n+i→i≤43→t.wid=f44.ntmps→t.get 1=.ptr 0 0→t.get 73=.agg (sgnL.map .s)→t.get 74=.i .i64 (i:Nat) →
 ctx prog TT [tt,ff,tt,ff,tt,tt,tt,tt,tt,tt,tt,tt,tt,ff,tt,ff,ff] (zae f44) (zaF TT f44 (isR (.val (.b ((sgnL.drop i).contains x))))) (.norm t [some (tkB k x a l)]):=by
 intro n;induction n with
 |zero=>intro i t h1 h2;omega
 |succ n ih=>
  intro i t hn hi hw t1 t73 t74;refine zaM.symIn (p:=[tt,ff,tt,ff,tt,tt,tt,tt,tt,tt,tt,tt,tt,ff,tt,ff]) zaf zhU rfl zwa (by kernel_rfl) [.un 0,.uh [some (tkB k x a l)],.ui k,.us x,.ui a,.ub l,.uv (.agg (sgnL.map .s)),.ui (i:Nat)] rfl hw ⟨t1,t73,t74,trivial⟩ rfl ⟨by simp,by simp⟩ ?_;clear t1 t73 t74 hw;simp -implicitDefEqProofs only[VC,isR,exU,Ask.den,E.den,O1.den,O2.den,O3.den,SH.den,zat,za9,bD,SB.den,zai,LQ,uu,uW,jOa,jUa,jDa,jSa,if_false,if_true];refine⟨fun h t hw t1 t73 t74=>?_,fun h=>?_⟩
  ·have hlt:i<sgnL.length:=by show i<43;omega
   have hx:sgnL[i]? = some sgnL[i]:=jKa hlt;have hd:sgnL.drop i=sgnL[i]::sgnL.drop (i+1):=jAb hlt;have hw1:t.wid=82:=hw;generalize sgnL[i]=y at hd hx;refine Tri.regN (t':=?t1) (H':=?H1) zaf zhU ?e1 ?q1;case e1=>
    refine zar ?_;refine zab rfl (by simp[t73,t74,hx,h]<;>rfl) (by rfl) (by simp[hw1]) ?_;refine zab rfl (by simp<;>rfl) (by rfl) (by simp[hw1]) ?_;exact zal
   show ctx prog TT [tt,ff,tt,ff,tt,tt,tt,tt,tt,tt,tt,tt,tt,ff,tt,ff,ff,tt,tt,ff,ff,ff] (zae f44) _ _;apply sN;refine Tri.symIn zaf zhU zwb (by kernel_rfl) [.un 0,.uh [some (tkB k x a l)],.ui k,.us x,.ui a,.ub l,.uv (.agg (sgnL.map .s)),.ui (i:Nat),.us y] rfl ?_ ⟨by simp[t1],by simp,by simp[t73],by simp[t74],trivial⟩ rfl ⟨by simp,by simp⟩ ?_
   ·simp[hw1]
   simp -implicitDefEqProofs only[VC,isR,exU,Ask.den,E.den,O1.den,O2.den,O3.den,SH.den,zat,za9,bD,SB.den,zai,LQ,uu,uW,jOa,jUa,jDa,jSa,if_false,if_true];have w1:IntKind.i64.wrap ((i:Int)+1)=((i+1:Nat):Int):=by rw[w64 (by omega) (by omega)];omega
   rw[hd];refine⟨fun e=>?_,fun e t' hw' f1 f73 f74=>?_⟩
   ·subst e;simp
   ·have e2:(y::sgnL.drop (i+1)).contains x=(sgnL.drop (i+1)).contains x:=by
     rw[contains_cons];have:(x==y)=false:=by simp;exact fun h=>e h.symm
     rw[this,jVd]
    rw[e2];exact ih (i+1) t' (by omega) (by omega) hw' f1 f73 (by rw[f74,w1])
  ·have:i=43:=by omega
   subst this;rfl
theorem zq6:∃g,zak prog TT 44 g∧∀p:Int×Bs×Int×Bool,p.2.1.length<1000000→∀H,g [.agg [.i .i64 p.1,.s p.2.1,.i .i64 p.2.2.1,.b p.2.2.2]] H=(Res.val (.b (zhB p.1 p.2.1))).at H:=by
 refine zbC zaf zao 44 (fun p:Int×Bs×Int×Bool=>[.agg [.i .i64 p.1,.s p.2.1,.i .i64 p.2.2.1,.b p.2.2.2]]) _ (fun p=>.val (.b (zhB p.1 p.2.1))) (fun _ _=>⟨rfl,rfl⟩) (fun a b _ _ h=>?_) fun p hp=>?_
 ·simp only[jPa,V.agg.injEq,V.i.injEq,V.s.injEq,jLb,jGb]at h;rw[h.1,h.2.1]
 obtain⟨k,x,a,l⟩:=p;simp only at hp ⊢;refine zaA.sym zaf zhU (fn:=f44) rfl rfl (by simp[f44]) zyQ (by kernel_rfl) [.ui k,.us x,.ui a,.ub l,.uh []] rfl ⟨by rw[zag];rfl,trivial⟩ rfl (zaC _ _) ?_;simp -implicitDefEqProofs only[VC,isR,exU,Ask.den,E.den,O1.den,O2.den,O3.den,SH.den,zat,za9,bD,SB.den,zai,LQ,uu,uW,jOa,jUa,jDa];unfold zhB;refine⟨fun h1=>.inl ⟨_,fun K=>zc3 zvN x (by show x.length<1090000;omega) K,by rw[if_pos h1]⟩,fun h1=>⟨fun h2 t hw t1=>?_,fun h2=>⟨fun h3 t hw t1=>?_,fun h3=>⟨fun h4 t hw t1=>?_,fun h4=>⟨fun h5=>.inl ⟨_,fun K=>zc3 zht x (by omega) K,?_⟩,fun h5=>⟨fun h6 t hw t1 t73 t74=>?_,fun h6=>?_⟩⟩⟩⟩⟩⟩
 ·rw[if_neg h1,if_pos h2];exact zvt k x a l t hw t1 fun t' H' f2=>Tri.ret (show zaF TT f44 _ (.ret t' H')from⟨_,rfl,by simp[f2,f44]⟩)
 ·rw[if_neg h1,if_neg h2,if_pos (.inl h3)];exact zql k x a l t hw t1
 ·rw[if_neg h1,if_neg h2,if_pos (.inr h4)];exact zql k x a l t hw t1
 ·rw[if_neg h1,if_neg h2,if_neg (by omega),if_pos h5]
 ·rw[if_neg h1,if_neg h2,if_neg (by omega),if_neg h5,if_pos h6];exact Tri.symLoop rfl (ztg k x a l 44 0 t (by omega) (by omega) hw t1 t73 t74)
 ·rw[if_neg h1,if_neg h2,if_neg (by omega),if_neg h5,if_neg h6]
def wrQ (x:Tk):Bs:=if x.1=5 then qtL x.2.1 else x.2.1
def zev (fit:Tk→Bool):List Tk→Bool→Bs→Bs×Nat
  | [],_,out=>(out,0)
  | x :: r,b,out=>if fit x=true∧(b=true→x.2.2.2=true)then
      (if 20000<(out++(if b=true then[]else if x.2.2.2=true then[10]else[32])++wrQ x).length then([],16)else zev fit r false (out++(if b=true then[]else if x.2.2.2=true then[10]else[32])++wrQ x))
    else([],2)
def zmc (p:Bs×Nat):V:=.tup [.s p.1,.i .i64 (p.2:Nat)]
noncomputable def cfB:zad:=(((((zad.none.with 44 (ch zq6)).with 16 (ch zz9)).with 37 (ch zyt)).with 38 (ch zyr)).with 39 (ch zyq)).with 45 (ch zq7)
theorem zpk:cfB.Sound prog TT:=ws (ws (ws (ws (ws (ws n0 (zdJ zq6)) (zdJ zz9)) (zdJ zyt)) (zdJ zyr)) (zdJ zyq)) (zdJ zq7)
theorem zmK {l:List Tk}{i:Nat}{x:Tk}(h:l[i]? = some x)(H:zaa):lift (zah TT 34 H (.ipt 4 (zaO l) i 0)) H=.val (.agg [.i .i64 x.1,.s x.2.1,.i .i64 x.2.2.1,.b x.2.2.2]) H:=by
 rw[zxh rfl rfl h];rfl
theorem zxx (x:Bs):(qtL x).length≤4*x.length+2:=by
 have:=ztU x;simp[qtL];omega
theorem zt9 (x:Tk):(wrQ x).length≤4*x.2.1.length+2:=by
 unfold wrQ;split
 ·exact zxx _
 ·omega
theorem zm1 (l:List Tk) (q i p:Nat) (x:Tk) (out:Bs) (t:Tm) (H:zaa) (hx:x.2.1.length<1000000) (hf:zhB x.1 x.2.1=true) (ho:out.length≤20001) (hw:t.wid=f25.ntmps)
    (t4:t.get 4=.ptr q 0)(t6:t.get 6=.ptr p 0)(t8:t.get 8=.isl 4 (zaO l))(t9:t.get 9=.i .i64 (l.length:Nat))(t10:t.get 10=.i .i64 (i:Nat))(hb:Bld H q out)(hp:H[p]? = some (some (tkB x.1 x.2.1 x.2.2.1 x.2.2.2)))(hap:Apt H q p)(hi:i<1000000){fit:Tk→Bool}{r:List Tk}
    (ih:∀t' H',t'.wid=f25.ntmps→t'.get 4=.ptr q 0→t'.get 8=.isl 4 (zaO l)→t'.get 9=.i .i64 (l.length:Nat)→t'.get 10=.i .i64 ((i+1:Nat):Int)→(out++wrQ x).length≤20000→Bld H' q (out++wrQ x) →
      ctx prog TT [tt,tt,ff,tt,ff,ff] (zae f25) (zaF TT f25 (isR (.val (zmc (zev fit r false (out++wrQ x)))))) (.norm t' H')) :
    Tri prog TT (sub [tt,tt,ff,tt,ff,ff,tt,tt,ff,ff,tt,tt,tt,ff] (zae f25)) t H (ctx prog TT [tt,tt,ff,tt,ff,ff,tt,tt,ff,ff,tt,tt,tt,ff] (zae f25)
      (zaF TT f25 (isR (.val (zmc (if 20000<(out++wrQ x).length then([],16)else zev fit r false (out++wrQ x))))))):=by
  have hlr:=zb5 l
  have hpl:=zaa.lt hp
  refine Tri.symIn zaf zpk zyA (by kernel_rfl) [.ul (zaO l),.un q,.ui (i:Nat),.un p,.uh H,.ui x.1,.us x.2.1,.ui x.2.2.1,.ub x.2.2.2] rfl hw ⟨t4,t6,t8,by rw[t9,←hlr];rfl,t10,trivial⟩ (zaa.set_self hp) ⟨by simp;exact hpl,by simp⟩ ?_
  clear t4 t6 t8 t9 t10 hw
  have hset:H.set p (some ⟨34,[.i .i64 x.1,.s x.2.1,.i .i64 x.2.2.1,.b x.2.2.2],.all⟩)=H:=(zaa.set_self hp).symm
  simp -implicitDefEqProofs only[VC,isR,exU,Ask.den,E.den,O1.den,O2.den,O3.den,SH.den,zat,za9,bD,SB.den,zai,LQ,uu,uW,jOa,jUa,jDa,zbB,hset,jSa,if_false,if_true]
  have w1:IntKind.i64.wrap ((i:Int)+1)=((i+1:Nat):Int):=by rw[w64 (by omega) (by omega)];omega
  have hwl:=zt9 x
  have go:∃H',cfB 38 [.ptr q 0,.s (wrQ x)] H=.val (.tup [.i .i64 (wrQ x).length,.nili]) H'∧Bld H' q (out++wrQ x)∧H'[p]? = some (some (tkB x.1 x.2.1 x.2.2.1 x.2.2.2)):=by
    obtain⟨H',h1,h2,h3⟩:=zc3 zyr (q,out,wrQ x) H ⟨hb,by simp only;omega⟩
    exact⟨H',h1,h2,(h3 p hap).1.trans hp⟩
  obtain⟨H',h1,h2,h3⟩:=go
  have hl:cfB 45 [.ptr q 0] H'=.val (.i .i64 (out++wrQ x).length) H':=zc3 zq7 (q,out++wrQ x) H' h2
  have hset':H'.set p (some ⟨34,[.i .i64 x.1,.s x.2.1,.i .i64 x.2.2.1,.b x.2.2.2],.all⟩)=H':=(zaa.set_self h3).symm
  have fin:(((20000:Int)<(out++wrQ x).length→Res.val (zmc (if 20000<(out++wrQ x).length then([],16)else zev fit r false (out++wrQ x)))=Res.val (V.tup [V.s [],V.i IntKind.i64 16])) ∧
      (¬ (20000:Int)<(out++wrQ x).length→∀t':Tm,t'.wid=f25.ntmps→t'.get 4=.ptr q 0→t'.get 8=.isl 4 (zaO l)→t'.get 9=.i .i64 ((zaO l).length:Nat)→t'.get 10=.i .i64 (IntKind.i64.wrap ((i:Int)+1)) →
        ctx prog TT [tt,tt,ff,tt,ff,ff] (zae f25) (zaF TT f25 (isR (.val (zmc (if 20000<(out++wrQ x).length then([],16)else zev fit r false (out++wrQ x)))))) (.norm t' H'))):=by
    refine⟨fun h=>?_,fun h t' hw' f4 f8 f9 f10=>?_⟩
    · rw[if_pos (by omega)];rfl
    · rw[if_neg (by omega)]
      exact ih t' H' hw' f4 f8 (by rw[f9,hlr]) (by rw[f10,w1]) (by omega) h2
  generalize zmc (if 20000<(out++wrQ x).length then([],16)else zev fit r false (out++wrQ x))=R at fin ⊢
  by_cases hk:x.1=5
  · have e:wrQ x=qtL x.2.1:=if_pos hk
    have hq:∀K,cfB 16 [.s x.2.1] K=.val (.tup [.s (wrQ x),.i .i64 0]) K:=fun K=>by
      have hv:Lib.validD x.2.1=true:=by
        have:=hf
        unfold zhB at this
        rw[if_neg (by omega),if_neg (by omega),if_neg (by omega),if_pos hk]at this
        exact this
      have:=zc3 zz9 x.2.1 (by omega) K
      rw[zzX _ hv,←e]at this
      exact this
    refine⟨fun _=>.inl ⟨wrQ x,0,hq,.inl ⟨_,H',h1,⟨h3,trivial⟩,?_⟩⟩,fun h=>absurd hk h⟩
    rw[hset']
    exact .inl ⟨_,hl,fin⟩
  · have e:wrQ x=x.2.1:=if_neg hk
    refine⟨fun h=>absurd h hk,fun _=>.inl ⟨_,H',by rw[e]at h1;exact h1,⟨h3,trivial⟩,?_⟩⟩
    rw[hset']
    exact .inl ⟨_,hl,fin⟩
theorem zso (l:List Tk) (hl:l.length<1000000) (hx:∀x∈l,x.2.1.length<1000000) (q:Nat):∀(n i:Nat) (out:Bs) (t:Tm) (H:zaa),l.length<n+i→i≤l.length→out.length≤20000→(i=0→out=[])→t.wid=f25.ntmps →
    t.get 4=.ptr q 0→t.get 8=.isl 4 (zaO l)→t.get 9=.i .i64 (l.length:Nat)→t.get 10=.i .i64 (i:Nat)→Bld H q out →
    ctx prog TT [tt,tt,ff,tt,ff,ff] (zae f25) (zaF TT f25 (isR (.val (zmc (zev (fun x=>zhB x.1 x.2.1) (l.drop i) (i==0) out))))) (.norm t H):=by
  intro n
  induction n with
  |zero=>intro i out t H h1 h2;omega
  |succ n ih=>
    intro i out t H hn hi ho h0 hw t4 t8 t9 t10 hb
    have hlr:=zb5 l
    refine zaM.symIn (p:=[tt,tt,ff,tt,ff]) zaf zpk rfl zyz (by kernel_rfl) [.ul (zaO l),.un q,.ui (i:Nat),.uh H] rfl hw ⟨t4,t8,by rw[t9,←hlr];rfl,t10,trivial⟩ rfl (zaC _ _) ?_
    clear t4 t8 t9 t10 hw
    simp -implicitDefEqProofs only[VC,isR,exU,Ask.den,E.den,O1.den,O2.den,O3.den,SH.den,zat,za9,bD,SB.den,zai,LQ,uu,uW,jOa,jUa,jDa,zbB,jSa,if_false,if_true]
    rw[hlr]
    refine⟨fun h=>⟨by omega,?_⟩,fun h=>?_⟩
    · have h1 : i<l.length:=by omega
      have hd:l.drop i=l[i]::l.drop (i+1):=jAb h1
      have hg:l[i]? = some l[i]:=jKa h1
      have hxl:=hx _ (getElem_mem h1)
      rw[hd]
      generalize l[i]=x at hd hg hxl
      refine .inl ⟨x.1,x.2.1,x.2.2.1,x.2.2.2,zmK hg H,.inl ⟨_,fun K=>zc3 zq6 x hxl K,fun hf=>?_,fun hf=>?_⟩⟩
      · have hql : q≠H.length+0∧q<H.length:=by
          have:q<H.length:=by
            obtain⟨a,_,⟨h1,_⟩|⟨m,_,_,h1,_⟩⟩:=hb<;>exact zaa.lt h1
          exact⟨by omega,this⟩
        have hH1:Bld (H++[some (tkB x.1 x.2.1 x.2.2.1 x.2.2.2)]) q out∧Apt (H++[some (tkB x.1 x.2.1 x.2.2.1 x.2.2.2)]) q H.length:=by
          obtain⟨a,ha,⟨h1,h2⟩|⟨m,hm,hne,h1,h2⟩⟩:=hb
          · have e1:=(jQa (l₂:=[some (tkB x.1 x.2.1 x.2.2.1 x.2.2.2)]) hql.2).trans h1
            refine⟨⟨a,ha,.inl ⟨e1,h2⟩⟩,by omega,by simp,fun a' m k e=>?_⟩
            rw[e1]at e;simp at e
          · have e1:=(jQa (l₂:=[some (tkB x.1 x.2.1 x.2.2.1 x.2.2.2)]) hql.2).trans h1
            have hml:=zaa.lt h2
            refine⟨⟨a,ha,.inr ⟨m,hm,hne,e1,(jQa hml).trans h2⟩⟩,by omega,by simp,fun a' m' k e=>?_⟩
            rw[e1]at e
            simp only[jNa,Blk.mk.injEq,jPa,V.sl.injEq,jLb,jGb]at e
            omega
        have hpn:(H++[some (tkB x.1 x.2.1 x.2.2.1 x.2.2.2)])[H.length]? = some (some (tkB x.1 x.2.1 x.2.2.1 x.2.2.2)):=by simp
        have blank:∀(c:UInt8),i≠0→(if x.2.2.2=true then[10]else[32])=[c]→∃H',cfB 37 [.ptr q 0,.i .u8 c.toNat] (H++[some (tkB x.1 x.2.1 x.2.2.1 x.2.2.2)])=.val .nili H'∧H'[H.length]? = some (some (tkB x.1 x.2.1 x.2.2.1 x.2.2.2)) ∧
            ∀ t : Tm,t.wid=f25.ntmps→t.get 4=.ptr q 0→t.get 6=.ptr H.length 0→t.get 8=.isl 4 (zaO l)→t.get 9=.i .i64 (l.length:Nat)→t.get 10=.i .i64 (i:Nat) →
              Tri prog TT (sub [tt,tt,ff,tt,ff,ff,tt,tt,ff,ff,tt,tt,tt,ff] (zae f25)) t H' (ctx prog TT [tt,tt,ff,tt,ff,ff,tt,tt,ff,ff,tt,tt,tt,ff] (zae f25)
                (zaF TT f25 (isR (.val (zmc (zev (fun x=>zhB x.1 x.2.1) (x::l.drop (i+1)) (i==0) out)))))):=by
          intro c hi0 hc
          obtain⟨H',k1,k2,k3⟩:=zc3 zyt (q,out,c) _ ⟨hH1.1,by simp only;omega⟩
          refine⟨H',k1,(k3 _ hH1.2).1.trans hpn,fun t hw t4 t6 t8 t9 t10=>?_⟩
          have e0:(i==0)=false:=by simpa using hi0
          have e:zev (fun x=>zhB x.1 x.2.1) (x::l.drop (i+1)) (i==0) out=if 20000<((out++[c])++wrQ x).length then([],16)else zev (fun x=>zhB x.1 x.2.1) (l.drop (i+1)) false ((out++[c])++wrQ x):=by
            rw[zev,if_pos ⟨hf,fun h=>by rw[e0]at h;cases h⟩,e0]
            simp only[jSa,if_false,hc]
          rw[e]
          exact zm1 l q i H.length x (out++[c]) t H' hxl hf (by simp;omega) hw t4 t6 t8 t9 t10 k2 ((k3 _ hH1.2).1.trans hpn) (k3 _ hH1.2).2 (by omega) fun t' H' k1 k2 k3 k4 k5 k6 k7=>ih (i+1) _ t' H' (by omega) (by omega) k6 (by omega) k1 k2 k3 k4 k5 k7
        refine⟨fun hi0=>⟨fun hl1 t hw t4 t6 t8 t9 t10=>?_,fun hl1=>?_⟩,fun hi0=>⟨fun hl1=>?_,fun hl1=>?_⟩⟩
        · have hi0:i=0:=by omega
          subst hi0
          have:=h0 rfl
          subst this
          have e:zev (fun x=>zhB x.1 x.2.1) (x::l.drop (0+1)) (0==0) []=if 20000<([]++wrQ x).length then([],16)else zev (fun x=>zhB x.1 x.2.1) (l.drop (0+1)) false ([]++wrQ x):=by
            rw[zev,if_pos ⟨hf,fun _=>hl1⟩];rfl
          rw[e]
          exact zm1 l q 0 H.length x [] t _ hxl hf (by simp) hw t4 t6 t8 (by rw[t9]) t10 hH1.1 hpn hH1.2 (by omega) fun t' H' k1 k2 k3 k4 k5 k6 k7=>ih 1 _ t' H' (by omega) (by omega) k6 (by omega) k1 k2 k3 k4 k5 k7
        · have hi0:i=0:=by omega
          subst hi0
          rw[zev,if_neg (fun h=>by have:=h.2 rfl;rw[hl1]at this;cases this)]
          rfl
        · obtain⟨H',k1,k2,k3⟩:=blank 10 (by omega) (if_pos hl1)
          refine .inl ⟨H',k1,⟨k2,trivial⟩,fun t hw t4 t6 t8 t9 t10=>?_⟩
          rw[show List.set H' (H.length+0) _=H' from(zaa.set_self k2).symm]
          exact k3 t hw t4 t6 t8 t9 t10
        · obtain⟨H',k1,k2,k3⟩:=blank 32 (by omega) (if_neg (by rw[hl1];exact jZb))
          refine .inl ⟨H',k1,⟨k2,trivial⟩,fun t hw t4 t6 t8 t9 t10=>?_⟩
          rw[show List.set H' (H.length+0) _=H' from(zaa.set_self k2).symm]
          exact k3 t hw t4 t6 t8 t9 t10
      · rw[zev,if_neg (fun h=>by rw[hf]at h;exact absurd h.1 (by simp))]
        rfl
    · rw[jAc (by omega),zev]
      obtain⟨H',k1,k2⟩:=zc3 zyq (q,out) H ⟨hb.read,by simp only;omega⟩
      exact .inl ⟨out,H',k1,rfl⟩
theorem zq2:∃g,zak prog TT 25 g∧∀l:List Tk,(l.length<1000000∧∀x∈l,x.2.1.length<1000000)→∀H,g [.isl 4 (zaO l)] H=(Res.val (zmc (zev (fun x=>zhB x.1 x.2.1) l true []))).at H:=by
 refine zbC zaf zao 25 (fun l:List Tk=>[.isl 4 (zaO l)]) _ (fun l=>.val (zmc (zev (fun x=>zhB x.1 x.2.1) l true []))) (fun l _=>⟨?_,rfl⟩) (fun a b _ _ h=>?_) fun l hl=>?_
 ·show(nl (.isl 4 (zaO l))&&true)=true;rw[zhq];rfl
 ·simp only[jPa,V.isl.injEq,jLb,jGb]at h;rw[zju h]
 ·refine zaA.sym zaf zpk (fn:=f25) rfl rfl (by simp[f25]) zAd (by kernel_rfl) [.ul (zaO l),.uh []] rfl ⟨by rw[zag];rfl,trivial⟩ rfl (zaC _ _) ?_;simp -implicitDefEqProofs only[VC,isR,exU,Ask.den,E.den,O1.den,O2.den,O3.den,SH.den,zat,za9,bD,SB.den,zai,LQ,uu,uW,jOa,jUa,jDa];intro t hw t4 t8 t9 t10;have hb:Bld ([]++[some ⟨66,[.nilp,.nils],.all⟩]) 0 []:=⟨_,.inl rfl,.inl ⟨rfl,rfl⟩⟩;exact Tri.symLoop rfl (zso l hl.1 hl.2 0 (l.length+1) 0 [] t _ (by omega) (by omega) (by simp) (fun _=>rfl) hw t4 t8 (by rw[t9,zb5]) t10 hb)
def nmL:Bs:=[110,116,114,48,92,34]
def byL:Bs:=[10,9,13,0,92,34]
theorem zy1:zaQ TT shp f17.ntmps [] (zae f17) [] ⟨[(0,.f1 .vs (.va 0))],⟨.va 1,[],[]⟩,2,[]⟩ (KF TT f17 [0,4,5,6,7,8])=.asks (.call 36 (x1 (xs v0))) [.b] (xb v2) (.ite v2 (.leaf (.stop [tt,tt,tt,tt,tt,tt,ff,tt,ff]) [(0,xs v0),(4,xs (.cs [110,116,114,48,92,34])),(5,xs (.cs [10,9,13,0,92,34])),(6,xs (.cs [48,49,50,51,52,53,54,55,56,57,65,66,67,68,69,70])),(7,xs (.cs [34])),(8,xi c0)] ⟨v1,[],[]⟩) (.fin (xt (x2 (xs (.cs [])) (xi c2))) ⟨v1,[],[]⟩)) (.stuck 0):=by kernel_rfl
theorem zy2:goT TT shp f17.ntmps [] [tt,tt,tt,tt,tt,tt,ff,tt,ff,ff] (zae f17) [] ⟨[(0,.f1 .vs (.va 0)),(4,.f1 .vs (.cs [110,116,114,48,92,34])),(5,.f1 .vs (.cs [10,9,13,0,92,34])),(6,.f1 .vs (.cs [48,49,50,51,52,53,54,55,56,57,65,66,67,68,69,70])),(7,.f1 .vs (.va 2)),(8,.f1 (.vi .i64) (.va 3))],⟨.va 1,[],[]⟩,4,[]⟩ (KF TT f17 [0,4,5,6,7,8,9,10])=let qj:E:=xw (xa v3 c1);let qf:E:=xA v0 v3;let ql:E:=xc 16;let qb:E:=.f2 (.opI .quo .u8) qf ql;let qg:E:=xx (xa qb c1);let qd:E:=.cs [48,49,50,51,52,53,54,55,56,57,65,66,67,68,69,70];let qn:E:=.f3 .sub qd qb qg;let qe:E:=xc 9223372036854775807;let qc:E:=.f2 (.opI .rem .u8) qf ql;let qh:E:=xx (xa qc c1);let qo:E:=.f3 .sub qd qc qh;let qi:E:=xs (.cs [110,116,114,48,92,34]);let qk:E:=xs (.cs [10,9,13,0,92,34]);let qm:SH:=⟨v1,[],[]⟩;let qa:Tree:=.need (.f2 (.okI .quo .u8) qf ql) (.need (xE c0 qb) (.need (xE qb qg) (.need (xE qg ql) (.need (xE (xa c2 (xl qn)) qe) (.lets (xP (.cs [92,120]) qn) (.need (.f2 (.okI .rem .u8) qf ql) (.need (xE c0 qc) (.need (xE qc qh) (.need (xE qh ql) (.need (xE (xa (xl v4) (xl qo)) qe) (.lets (xP v4 qo) (.leaf (.stop [tt,tt,tt,tt,tt,tt,ff,tt,ff,ff,tt,ff,ff,tt,tt,ff,tt,ff]) [(0,xs v0),(4,qi),(5,qk),(6,xs qd),(7,xs v2),(8,xi v3),(9,xs v5),(10,xi c0)] qm))))))))))));.ite (xL v3 (xl v0)) (.need (xE c0 v3) (.need (xE v3 qj) (.need (xE qj (xl v0)) (.ite (xL qf (xc 32)) qa (.ite (xe qf (xc 127)) qa (.leaf (.stop [tt,tt,tt,tt,tt,tt,ff,tt,ff,ff,tt,ff,ff,tt,tt,ff,tt,ff]) [(0,xs v0),(4,qi),(5,qk),(6,xs qd),(7,xs v2),(8,xi v3),(9,xs (.f3 .sub v0 v3 qj)),(10,xi c0)] qm)))))) (.need (xE (xa (xl v2) c1) qe) (.fin (xt (x2 (xs (xP v2 (.cs [34]))) (xi c0))) qm)):=by kernel_rfl
theorem zy3:goT TT shp f17.ntmps [] [tt,tt,tt,tt,tt,tt,ff,tt,ff,ff,tt,ff,ff,tt,tt,ff,tt,ff,ff] (zae f17) [] ⟨[(0,.f1 .vs (.va 0)),(4,.f1 .vs (.cs [110,116,114,48,92,34])),(5,.f1 .vs (.cs [10,9,13,0,92,34])),(6,.f1 .vs (.cs [48,49,50,51,52,53,54,55,56,57,65,66,67,68,69,70])),(7,.f1 .vs (.va 2)),(8,.f1 (.vi .i64) (.va 3)),(9,.f1 .vs (.va 4)),(10,.f1 (.vi .i64) (.va 5))],⟨.va 1,[],[]⟩,6,[]⟩ (KF TT f17 [0,4,5,6,7,8,9,10])=let qd:E:=.cs [10,9,13,0,92,34];let qc:E:=xw (xa v5 c1);let qb:E:=.cs [110,116,114,48,92,34];let qg:E:=.f3 .sub qb v5 qc;let qf:E:=xc 9223372036854775807;let qa:E:=xs (.cs [48,49,50,51,52,53,54,55,56,57,65,66,67,68,69,70]);let qe:SH:=⟨v1,[],[]⟩;.ite (xL v5 (xc 6)) (.need (xE c0 v3) (.need (xL v3 (xl v0)) (.need (xE c0 v5) (.ite (xe (xA v0 v3) (xA qd v5)) (.need (xE v5 qc) (.need (xE qc (xc 6)) (.need (xE (xa c1 (xl qg)) qf) (.leaf (.again [tt,tt,tt,tt,tt,tt,ff,tt,ff,ff,tt,ff,ff,tt,tt,ff,tt,ff,ff]) [(0,xs v0),(4,xs qb),(5,xs qd),(6,qa),(7,xs v2),(8,xi v3),(9,xs (xP (.cs [92]) qg)),(10,xi qc)] qe)))) (.leaf (.again [tt,tt,tt,tt,tt,tt,ff,tt,ff,ff,tt,ff,ff,tt,tt,ff,tt,ff,ff]) [(0,xs v0),(4,xs qb),(5,xs qd),(6,qa),(7,xs v2),(8,xi v3),(9,xs v4),(10,xi qc)] qe))))) (.need (xE (xa (xl v2) (xl v4)) qf) (.leaf (.again [tt,tt,tt,tt,tt,tt,ff,tt,ff,ff]) [(0,xs v0),(4,xs qb),(5,xs qd),(6,qa),(7,xs (xP v2 v4)),(8,xi (xw (xa v3 c1))),(9,xs v4),(10,xi v5)] qe)):=by kernel_rfl
def rqT (c:Nat)(x:Bs):Nat→Bs
 |0=>x
 |k+1=>if c=(byL.getD k 0).toNat then[92,nmL.getD k 0]else rqT c x k
def rq0 (c:Nat):Bs:=if c<32∨c=127 then[92,120,zoB.getD (c/16) 0,zoB.getD (c%16) 0]else[UInt8.ofNat c]
theorem zxI:((List.range 256).all fun c=>(rqT c (rq0 c) 6==qtC c)&&zda (zbj .quo .u8 (c:Nat) 16) .u8&&decide (zf5 (zbj .quo .u8 (c:Nat) 16)=((c/16:Nat):Int))&&zda (zbj .rem .u8 (c:Nat) 16) .u8&&decide (zf5 (zbj .rem .u8 (c:Nat) 16)=((c%16:Nat):Int)))=true:=by kernel_rfl
theorem zvz (c:Nat)(h:c<256):rqT c (rq0 c) 6=qtC c∧zda (zbj .quo .u8 (c:Nat) 16) .u8=true∧zf5 (zbj .quo .u8 (c:Nat) 16)=((c/16:Nat):Int)∧zda (zbj .rem .u8 (c:Nat) 16) .u8=true∧zf5 (zbj .rem .u8 (c:Nat) 16)=((c%16:Nat):Int):=by
 have:=jBb.1 zxI c (jCc.2 h);simp only[jMa,jTa,jOa]at this;exact⟨this.1.1.1.1,this.1.1.1.2,this.1.1.2,this.1.2,this.2⟩
theorem zxk:∀k:Nat,k<6→(nmL.take (k+1)).drop k=[nmL.getD k 0]:=by decide
theorem zzH:∀k:Nat,k<6→atS byL (k:Nat)=(byL.getD k 0).toNat:=by
 intro k h;have:k=0∨k=1∨k=2∨k=3∨k=4∨k=5:=by omega
 rcases this with rfl|rfl|rfl|rfl|rfl|rfl<;>rfl
theorem zqA (c:Nat)(x:Bs)(hx:x.length≤4):∀k,(rqT c x k).length≤4
 |0=>hx
 |k+1=>by
  unfold rqT;split
  ·simp
  ·exact zqA c x hx k
theorem zvy (c:Nat):(rq0 c).length≤4:=by
 unfold rq0;split<;>simp
theorem zu2 {call:zad}(hC:call.Sound prog TT)(s out:Bs)(i:Nat)(c:UInt8)(hc:atS s (i:Nat)=c.toNat)(hi:i<s.length)(hs:s.length<1100000)(ho:out.length≤4*i+1)(R:OR→Prop)(H:zaa)
 (hout:∀t':Tm,t'.wid=f17.ntmps→t'.get 0=.s s→t'.get 4=.s nmL→t'.get 5=.s byL→t'.get 6=.s zoB→t'.get 7=.s (out++rqT c.toNat (rq0 c.toNat) 6)→t'.get 8=.i .i64 ((i+1:Nat):Int) →
  ctx prog TT [tt,tt,tt,tt,tt,tt,ff,tt,ff,ff] (zae f17) (zaF TT f17 R) (.norm t' H)) :
 ∀(n k:Nat)(t:Tm),6<n+k→k≤6→t.wid=f17.ntmps→t.get 0=.s s→t.get 4=.s nmL→t.get 5=.s byL→t.get 6=.s zoB→t.get 7=.s out→t.get 8=.i .i64 (i:Nat)→t.get 9=.s (rqT c.toNat (rq0 c.toNat) k)→t.get 10=.i .i64 (k:Nat) →
 ctx prog TT [tt,tt,tt,tt,tt,tt,ff,tt,ff,ff,tt,ff,ff,tt,tt,ff,tt,ff,ff] (zae f17) (zaF TT f17 R) (.norm t H):=by
 intro n;induction n with
 |zero=>intro k t h1 h2;omega
 |succ n ih=>
  intro k t hn hk hw t0 t4 t5 t6 t7 t8 t9 t10;refine zaM.symIn (p:=[tt,tt,tt,tt,tt,tt,ff,tt,ff,ff,tt,ff,ff,tt,tt,ff,tt,ff]) zaf hC rfl zy3 (by kernel_rfl) [.us s,.uh H,.us out,.ui (i:Nat),.us (rqT c.toNat (rq0 c.toNat) k),.ui (k:Nat)] rfl hw ⟨t0,t4,t5,t6,t7,t8,t9,t10,trivial⟩ rfl (zaC _ _) ?_;clear t0 t4 t5 t6 t7 t8 t9 t10 hw;simp -implicitDefEqProofs only[VC,isR,exU,Ask.den,E.den,O1.den,O2.den,O3.den,SH.den,zat,za9,bD,SB.den,zai,LQ,uu,uW,jOa,jUa,jDa,jSa,if_false,if_true];have w1:∀m:Nat,m<2000000→IntKind.i64.wrap ((m:Int)+1)=((m+1:Nat):Int):=fun m hm=>by rw[w64 (by omega) (by omega)];omega
  have hl:=zqA c.toNat (rq0 c.toNat) (zvy _) k;simp only[w1 i (by omega),w1 k (by omega),jCa];refine⟨fun h=>?_,fun h=>?_⟩
  ·have hk6:k<6:=by omega
   have hcut:List.drop k (List.take (k+1) [110,116,114,48,92,34])=[nmL.getD k 0]:=zxk k hk6;have hby:atS [10,9,13,0,92,34] (k:Nat)=(byL.getD k 0).toNat:=zzH k hk6;refine⟨by omega,by omega,by omega,fun h1=>?_,fun h1=>?_⟩
   ·refine⟨by omega,by omega,?_,?_⟩
    ·rw[hcut];simp
    ·intro t' hw' f0 f4 f5 f6 f7 f8 f9 f10;refine ih (k+1) t' (by omega) (by omega) hw' f0 f4 f5 f6 f7 f8 ?_ f10;rw[f9,hcut];have:rqT c.toNat (rq0 c.toNat) (k+1)=[92,nmL.getD k 0]:=by
      rw[rqT,if_pos];rw[hc,hby]at h1;exact jAd.1 h1
     rw[this]
   ·intro t' hw' f0 f4 f5 f6 f7 f8 f9 f10;refine ih (k+1) t' (by omega) (by omega) hw' f0 f4 f5 f6 f7 f8 ?_ f10;rw[f9];have:rqT c.toNat (rq0 c.toNat) (k+1)=rqT c.toNat (rq0 c.toNat) k:=by
     rw[rqT,if_neg];intro e;rw[hc,hby]at h1;exact h1 (by rw[e])
    rw[this]
  ·have e6:k=6:=by omega
   subst e6;refine⟨by omega,?_⟩;intro t' hw' f0 f4 f5 f6 f7 f8 f9 f10;exact hout t' hw' f0 f4 f5 f6 f7 f8
theorem zu4 {call:zad}(hC:call.Sound prog TT)(s:Bs)(hs:s.length<1100000)(H:zaa) :
 ∀(n i:Nat)(out:Bs)(t:Tm),s.length<n+i→i≤s.length→out.length≤4*i+1→t.wid=f17.ntmps→t.get 0=.s s→t.get 4=.s nmL→t.get 5=.s byL→t.get 6=.s zoB→t.get 7=.s out→t.get 8=.i .i64 (i:Nat) →
 ctx prog TT [tt,tt,tt,tt,tt,tt,ff,tt,ff,ff] (zae f17) (zaF TT f17 (isR (.val (.tup [.s (out++((s.drop i).map fun c=>qtC c.toNat).flatten++[34]),.i .i64 0])))) (.norm t H):=by
 intro n;induction n with
 |zero=>intro i out t h1 h2;omega
 |succ n ih=>
  intro i out t hn hi ho hw t0 t4 t5 t6 t7 t8;refine zaM.symIn (p:=[tt,tt,tt,tt,tt,tt,ff,tt,ff]) zaf hC rfl zy2 (by kernel_rfl) [.us s,.uh H,.us out,.ui (i:Nat)] rfl hw ⟨t0,t4,t5,t6,t7,t8,trivial⟩ rfl (zaC _ _) ?_;clear t0 t4 t5 t6 t7 t8 hw;simp -implicitDefEqProofs only[VC,isR,exU,Ask.den,E.den,O1.den,O2.den,O3.den,SH.den,zat,za9,bD,SB.den,zai,LQ,uu,uW,jOa,jUa,jDa,jSa,if_false,if_true];have w1:IntKind.i64.wrap ((i:Int)+1)=((i+1:Nat):Int):=by rw[w64 (by omega) (by omega)];omega
  simp only[w1,jCa];refine⟨fun h=>?_,fun h=>?_⟩
  ·have hlt:i<s.length:=by omega
   obtain⟨c,hc⟩:=zga s i hlt;have hcb:=c.toNat_lt;obtain⟨r1,r2,r3,r4,r5⟩:=zvz c.toNat hcb;have hcons:s.drop i=c::s.drop (i+1):=by
    have e:=jAb hlt;rw[e];congr 1;unfold atS at hc;rw[jCa,jKa hlt]at hc;exact jBd.1 (jAd.1 hc)
   have e:out++((s.drop i).map fun c=>qtC c.toNat).flatten++[34]=(out++qtC c.toNat)++((s.drop (i+1)).map fun c=>qtC c.toNat).flatten++[34]:=by
    rw[hcons];simp
   have hql:=zlO c.toNat
   have w2:∀m:Nat,m<16→IntKind.u8.wrap ((m:Int)+1)=((m+1:Nat):Int):=fun m hm=>w8 (m+1) (by omega);have h16:c.toNat/16<16:=by omega
   have l16:c.toNat%16<16:=by omega
   have k1:=zjb _ h16;have k2:=zjb _ l16;rw[e,hc];have go:=zu2 hC s out i c hc hlt hs ho (isR (.val (.tup [.s (out++qtC c.toNat++((s.drop (i+1)).map fun c=>qtC c.toNat).flatten++[34]),.i .i64 0]))) H (fun t' hw' f0 f4 f5 f6 f7 f8=>ih (i+1) (out++qtC c.toNat) t' (by omega) (by omega) (by rw[jLa];omega) hw' f0 f4 f5 f6 (by rw[f7,r1]) f8) 7 0;simp only[r3,r5,w2 _ h16,w2 _ l16,jCa,k1,k2];have q1:(c.toNat<32∨c.toNat=127)→rq0 c.toNat=[92,120,zoB.getD (c.toNat/16) 0,zoB.getD (c.toNat%16) 0]:=fun h=>by unfold rq0;rw[if_pos h]
   have q2:¬(c.toNat<32∨c.toNat=127)→rq0 c.toNat=[c]:=fun h=>by unfold rq0;rw[if_neg h,UInt8.ofNat_toNat]
   have one:List.drop i (List.take (i+1) s)=[c]:=by
    rw[jSc,show i+1-i=1 from by omega,hcons];rfl
   refine⟨by omega,by omega,by omega,fun h1=>?_,fun h1=>⟨fun h2=>?_,fun h2=>?_⟩⟩
   ·refine⟨r2,by omega,by omega,by omega,by simp,r4,by omega,by omega,by omega,by simp,fun t' hw' f0 f4 f5 f6 f7 f8 f9 f10=>?_⟩;exact Tri.symLoop rfl (go t' (by omega) (by omega) hw' f0 f4 f5 f6 f7 f8 (by rw[f9];show _=V.s (rq0 c.toNat);rw[q1 (.inl (by omega))];rfl) f10)
   ·refine⟨r2,by omega,by omega,by omega,by simp,r4,by omega,by omega,by omega,by simp,fun t' hw' f0 f4 f5 f6 f7 f8 f9 f10=>?_⟩;exact Tri.symLoop rfl (go t' (by omega) (by omega) hw' f0 f4 f5 f6 f7 f8 (by rw[f9];show _=V.s (rq0 c.toNat);rw[q1 (.inr (by omega))];rfl) f10)
   ·intro t' hw' f0 f4 f5 f6 f7 f8 f9 f10;exact Tri.symLoop rfl (go t' (by omega) (by omega) hw' f0 f4 f5 f6 f7 f8 (by rw[f9,one];show _=V.s (rq0 c.toNat);rw[q2 (by omega)]) f10)
  ·have hlt:s.length≤i:=by omega
   rw[jAc hlt];refine⟨by omega,?_⟩;simp
theorem zq1:∃g,zak prog TT 17 g∧∀s:Bs,s.length<1100000→∀H,g [.s s] H=(Res.val (qtR s)).at H:=by
 obtain⟨g1,k1,s1⟩:=zht;have hC:=ws n0 k1;have c1:∀x:Bs,x.length<20000000→∀H,(zad.none.with 36 g1) 36 [.s x] H=.val (.b (Lib.validD x)) H:=fun x hx H=>by
  rw[zan];exact s1 x (by omega) H
 generalize zad.none.with 36 g1=call at hC c1;refine zbC zaf zao 17 (fun s:Bs=>[.s s]) _ (fun s=>.val (qtR s)) (fun p _=>⟨rfl,by unfold qtR;split<;>rfl⟩)
  (fun a b _ _ h=>by
   simp only[jPa,V.s.injEq,jGb]at h;rw[h]) fun s hs=>?_
 refine zaA.sym zaf hC (fn:=f17) rfl rfl (by simp[f17]) zy1 (by kernel_rfl) [.us s,.uh []] rfl ⟨by rw[zag];rfl,trivial⟩ rfl (zaC _ _) ?_;simp -implicitDefEqProofs only[VC,isR,exU,Ask.den,E.den,O1.den,O2.den,O3.den,SH.den,zat,za9,bD,SB.den,zai,LQ,uu,uW,jOa,jUa,jDa,jSa,if_false,if_true];refine .inl ⟨_,fun K=>c1 s (by omega) K,fun h=>?_,fun h=>?_⟩
 ·intro t hw t0 t4 t5 t6 t7 t8;have e:qtR s=.tup [.s ([34]++((s.drop 0).map fun c=>qtC c.toNat).flatten++[34]),.i .i64 0]:=by unfold qtR;rw[if_pos h];rfl
  rw[e];exact Tri.symLoop rfl (zu4 hC s hs [] (s.length+1) 0 [34] t (by omega) (by omega) (by simp) hw t0 t4 t5 t6 t7 t8)
 ·have e:qtR s=.tup [.s [],.i .i64 2]:=by unfold qtR;rw[if_neg (by rw[h];exact jZb)]
  rw[e]
def shz:Nat→Option Shape:=fun f=>
 if f=25 then some ⟨[.s,.i],two (.f1 .vs (.va 0)) (.f1 (.vi .i64) (.va 1)),.pure,false⟩else
 if f=27 then some ⟨[.s,.i],two (.f1 .vs (.va 0)) (.f1 (.vi .i64) (.va 1)),.pure,false⟩else
 if f=26 then some ⟨[.l],zzm,.pure,false⟩else
 if f=17 then some ⟨[.s,.i],two (.f1 .vs (.va 0)) (.f1 (.vi .i64) (.va 1)),.pure,false⟩else
 if f=46 then some ⟨[.s,.b],two (.f1 .vs (.va 0)) (.f1 .vb (.va 1)),.pure,false⟩else
 if f=12 then some ⟨[.l,.i,.i],.f1 .tup (.f2 .cons zzm (.f2 .cons (.f1 (.vi .i64) (.va 1)) (.f2 .cons (.f1 (.vi .i64) (.va 2)) .nil))),.pure,false⟩else
 shx f
theorem zyR:zaQ TT shz f26.ntmps [] (zae f26) [] ⟨[(0,.f1 (.isl 4) (.va 0))],⟨.va 1,[],[]⟩,2,[]⟩ (KF TT f26 [3,6,7,8])=.leaf (.stop [tt,tt,ff,tt,ff]) [(3,.cv .nils),(6,.f1 (.isl 4) v0),(7,xi (xn v0)),(8,xi c0)] ⟨v1,[],[]⟩:=by kernel_rfl
theorem zwc:goT TT shz f26.ntmps [5] [tt,tt,ff,tt,ff,ff] (zae f26) [] ⟨[(3,.va 1),(6,.f1 (.isl 4) (.va 0)),(7,.f1 (.vi .i64) (.f1 .lenL (.va 0))),(8,.f1 (.vi .i64) (.va 2))],⟨.va 3,[],[]⟩,4,[]⟩ (KF TT f26 [3,5,6,7,8])=let qa:E:=x4 (xi v4) (xs v5) (xi v6) (xb v7);.ite (xL v2 (xn v0)) (.need (xE c0 v2) (.ask (.load 44 (.f3 (.ipt 4 0) v0 v2 .nil)) ⟨v3,[],[]⟩ [.i,.s,.i,.b] (xg qa) false (.leaf (.stop [tt,tt,ff,tt,ff,ff,tt,tt,ff,ff,tt]) [(3,v1),(5,xp (xN (xh v3) (.cn 0))),(6,.f1 (.isl 4) v0),(7,xi (xn v0)),(8,xi v2)] ⟨v3,[],[xk 44 qa]⟩) (.stuck 0))) (.fin v1 ⟨v3,[],[]⟩):=by kernel_rfl
theorem zwd:zhE TT shz f26.ntmps [] [tt,tt,ff,tt,ff,ff,tt,tt,ff,ff,tt] (zae f26) [] .norm ⟨[(3,.va 1),(6,.f1 (.isl 4) (.va 0)),(7,.f1 (.vi .i64) (.f1 .lenL (.va 0))),(8,.f1 (.vi .i64) (.va 2))],⟨.va 3,[],[]⟩,4,[]⟩ (KF TT f26 [3,6,7,8])=.leaf (.again [tt,tt,ff,tt,ff,ff]) [(3,v1),(6,.f1 (.isl 4) v0),(7,xi (xn v0)),(8,xi (xw (xa v2 c1)))] ⟨v3,[],[]⟩:=by kernel_rfl
theorem zy8:zaQ TT shz f46.ntmps [] (zae f46) [] ⟨[(0,zAB)],⟨.va 4,[],[]⟩,5,[]⟩ (KF TT f46 [1])=let qe:E:=xs v1;let qa:SH:=⟨v4,[],[xk 44 (x4 (xi v0) qe (xi v2) (xb v3))]⟩;let qd:Tree:=.stuck 0;let qb:Tree:=.fin (xt (x2 (xs (.cs [])) (xb (.cb false)))) qa;let qc:Tree:=.fin (xt (x2 qe (xb (.cb false)))) qa;.ite (xe v0 (xc 5)) (.asks (.call 17 (x1 qe)) [.s,.i] (xt (x2 (xs v5) (xi v6))) (.fin (xt (x2 (xs v5) (xb (xe v6 c0)))) qa) qd) (.ite (xQ v1 (.cs [])) qb (.ite (xL v0 c1) qb (.ite (xG v0 (xc 6)) qb (.ite (xG (xl v1) (xc 20000)) qb (.asks (.call 12 (x1 qe)) [.l,.i,.i] (xt (x3 (.f1 (.isl 4) v5) (xi v6) (xi v7))) (.ite (xe v7 c0) (.ite (xe (xn v5) c1) (.need (xL c0 (xn v5)) (.ask (.load 3 (.f3 (.ipt 4 2) v5 c0 .nil)) qa [.i] (xi v8) false (.ite (xe v8 c0) (.ask (.load 3 (.f3 (.ipt 4 0) v5 c0 .nil)) qa [.i] (xi v9) false (.ite (xe v9 v0) (.ask (.load 9 (.f3 (.ipt 4 1) v5 c0 .nil)) qa [.s] (xs v10) false (.fin (xt (x2 qe (xb (xQ v10 v1)))) qa) qd) qc) qd) qc) qd)) qc) qc) qd))))):=by kernel_rfl
theorem zAc:zaQ TT shz f27.ntmps [] (zae f27) [] ⟨[(0,.f1 (.isl 4) (.va 0))],⟨.va 1,[],[]⟩,2,[]⟩ (KF TT f27 [0,4,5])=.leaf (.stop [tt,tt,ff,tt,ff]) [(0,.f1 (.isl 4) v0),(4,xs (.cs [])),(5,xi c0)] ⟨v1,[],[]⟩:=by kernel_rfl
theorem zyx:goT TT shz f27.ntmps [8] [tt,tt,ff,tt,ff,ff] (zae f27) [] ⟨[(0,.f1 (.isl 4) (.va 0)),(4,.f1 .vs (.va 1)),(5,.f1 (.vi .i64) (.va 2))],⟨.va 3,[],[]⟩,4,[]⟩ (KF TT f27 [0,4,5,6])=let qb:SH:=⟨v3,[],[]⟩;let qc:E:=xg (x4 (xi v4) (xs v5) (xi v6) (xb v7));let qa:Tree:=.leaf (.stop [tt,tt,ff,tt,ff,ff,tt,ff,ff,tt,tt,ff,ff]) [(0,.f1 (.isl 4) v0),(4,xs v1),(5,xi v2),(6,xs v8)] qb;let qd:Tree:=.fin (xt (x2 (xs (.cs [])) (xi c2))) qb;.ite (xL v2 (xn v0)) (.need (xE c0 v2) (.ask (.load 44 (.f3 (.ipt 4 0) v0 v2 .nil)) qb [.i,.s,.i,.b] qc false (.asks (.call 46 (x1 qc)) [.s,.b] (xt (x2 (xs v8) (xb v9))) (.ite v9 (.ite (xe v2 c0) (.ask (.load 4 (.f3 (.ipt 4 3) v0 v2 .nil)) qb [.b] (xb v10) false (.ite v10 qa qd) (.stuck 0)) qa) qd) (.stuck 0)) (.stuck 0))) (.fin (xt (x2 (xs v1) (xi c0))) qb):=by kernel_rfl
theorem zyy:goT TT shz f27.ntmps [] [tt,tt,ff,tt,ff,ff,tt,ff,ff,tt,tt,ff,ff] (zae f27) [] ⟨[(0,.f1 (.isl 4) (.va 0)),(4,.f1 .vs (.va 1)),(5,.f1 (.vi .i64) (.va 2)),(6,.f1 .vs (.va 3))],⟨.va 4,[],[]⟩,5,[]⟩ (KF TT f27 [0,4,5])=let qc:SH:=⟨v4,[],[]⟩;let qb:E:=xc 9223372036854775807;let qh:E:=xE (xa (xl v1) c1) qb;let qe:E:=xP v1 (.cs [10]);let qi:E:=xc 20000;let qa:Tree:=.fin (xt (x2 (xs (.cs [])) (xi (xc 16)))) qc;let qg:E:=.f1 (.isl 4) v0;let qd:E:=xi (xw (xa v2 c1));let qf:E:=xP v1 (.cs [32]);.ite (xG v2 c0) (.need (xE c0 v2) (.need (xL v2 (xn v0)) (.ask (.load 4 (.f3 (.ipt 4 3) v0 v2 .nil)) qc [.b] (xb v5) false (.ite v5 (.need qh (.need (xE (xa (xl qe) (xl v3)) qb) (.ite (xG (xl (xP qe v3)) qi) qa (.leaf (.again [tt,tt,ff,tt,ff,ff]) [(0,qg),(4,xs (xP qe v3)),(5,qd)] qc)))) (.need qh (.need (xE (xa (xl qf) (xl v3)) qb) (.ite (xG (xl (xP qf v3)) qi) qa (.leaf (.again [tt,tt,ff,tt,ff,ff]) [(0,qg),(4,xs (xP qf v3)),(5,qd)] qc))))) (.stuck 0)))) (.need (xE (xa (xl v1) (xl v3)) qb) (.ite (xG (xl (xP v1 v3)) qi) qa (.leaf (.again [tt,tt,ff,tt,ff,ff]) [(0,qg),(4,xs (xP v1 v3)),(5,qd)] qc))):=by kernel_rfl
theorem zAf:zaQ TT shz f8.ntmps [] (zae f8) [] ⟨[(0,.f1 (.isl 4) (.va 0))],⟨.va 1,[],[]⟩,2,[]⟩ (KF TT f8 [0,13,14,15])=.ite (xG (xn v0) (xc 60)) (.asks (.call 10 .nil) [.b] (xb v2) (.fin (xb v2) ⟨v1,[],[]⟩) (.stuck 0)) (.leaf (.stop [tt,tt,ff,tt,ff]) [(0,.f1 (.isl 4) v0),(13,.f1 (.isl 4) v0),(14,xi (xn v0)),(15,xi c0)] ⟨v1,[],[]⟩):=by kernel_rfl
theorem zyS:goT TT shz f8.ntmps [] [tt,tt,ff,tt,ff,ff] (zae f8) [] ⟨[(0,.f1 (.isl 4) (.va 0)),(13,.f1 (.isl 4) (.va 0)),(14,.f1 (.vi .i64) (.f1 .lenL (.va 0))),(15,.f1 (.vi .i64) (.va 1))],⟨.va 2,[],[]⟩,3,[]⟩ (KF TT f8 [0,13,14,15])=let qd:SH:=⟨v2,[],[]⟩;let qa:E:=x4 (xi v3) (xs v4) (xi v5) (xb v6);let qf:SH:=⟨v2,[],[xk 44 qa]⟩;let qc:Tree:=.stuck 0;let qb:E:=.f1 (.isl 4) v0;let qe:Tree:=.fin (xb (.cb false)) qd;.ite (xL v1 (xn v0)) (.need (xE c0 v1) (.ask (.load 44 (.f3 (.ipt 4 0) v0 v1 .nil)) qd [.i,.s,.i,.b] (xg qa) false (.ite (xG (xl v4) (xc 300)) (.asks (.call 10 .nil) [.b] (xb v7) (.fin (xb v7) qf) qc) (.leaf (.again [tt,tt,ff,tt,ff,ff]) [(0,qb),(13,qb),(14,xi (xn v0)),(15,xi (xw (xa v1 c1)))] qf)) qc)) (.asks (.call 26 (x1 qb)) [.l] (.f1 (.isl 4) v3) (.asks (.call 25 (x1 (.f1 (.isl 4) v3))) [.s,.i] (xt (x2 (xs v4) (xi v5))) (.asks (.call 27 (x1 qb)) [.s,.i] (xt (x2 (xs v6) (xi v7))) (.ite (xQ v4 v6) (.ite (xe v5 v7) (.asks (.call 10 .nil) [.b] (xb v8) (.fin (xb v8) qd) qc) qe) qe) qc) qc) qc):=by kernel_rfl
/-! Blanks and comments, in another surrounding. -/
section
variable {s y:Bs}{c:Nat}
end
inductive Toks (s:Bs):Nat→Bool→List Tk→Prop
  |done {i:Nat} {b l':Bool} (h:skQ s i b=.inr (s.length,l')):Toks s i b []
  |step {i j m:Nat} {b l':Bool} {k:Int} {t:Bs} {L:List Tk} (h:skQ s i b=.inr (j,l')) (hj:j<s.length) (ht:zcQ kw zdv (s.drop j)=.inr (k,t,m)) (hr:Toks s (j+m) false L):Toks s i b ((k,t,(j:Int),l')::L)
theorem zkN {s:Bs}:∀(n i:Nat)(b:Bool)(acc L:List Tk),i≤s.length→s.length<n+i→zfo s n i b acc=.inl L→∃M,L=acc++M∧Toks s i b M
 |0,i,b,acc,L,hi,hn,h=>by omega
 |n+1,i,b,acc,L,hi,hn,h=>by
  simp only[zfo]at h;split at h
  ·cases h
  ·rename_i j l' hs;have hk:=zm9 hi hs;split at h
   ·rename_i he;cases h;exact⟨[],by simp,.done (by rw[hs,he])⟩
   ·rename_i he;split at h
    ·cases h
    ·rename_i k t m ht;have hm:=zjL ht;rw[jJa]at hm;simp only at hm;obtain⟨M,h1,h2⟩:=zkN n _ _ _ _ (by omega) (by omega) h;exact⟨_::M,by rw[h1,jEb];rfl,.step hs (by omega) ht h2⟩
theorem zrn {s:Bs}{i:Nat}{b:Bool}{M:List Tk}(h:Toks s i b M):∀(n:Nat)(acc:List Tk),i≤s.length→s.length<n+i→zfo s n i b acc=.inl (acc++M):=by
 induction h with
 | @done i b l' h=>
  intro n acc hi hn;obtain⟨n,rfl⟩:∃m,n=m+1:=⟨n-1,by omega⟩;simp only[zfo,h,if_true,jWb]
 | @step i j m b l' k t L h hj ht hr ih=>
  intro n acc hi hn;obtain⟨n,rfl⟩:∃m,n=m+1:=⟨n-1,by omega⟩;have hk:=zm9 hi h;have hm:=zjL ht;rw[jJa]at hm;simp only at hm;simp only[zfo,h,ht];rw[if_neg (by omega),ih n _ (by omega) (by omega),jEb];rfl
theorem zkP {s:Bs}{l:List Tk}{a:Nat}(hs:s.length≤20000)(h:zdf s=(l,a,0)):Toks s 0 true l:=by
 unfold zdf at h;rw[if_neg (by omega)]at h;cases hf:zfo s (s.length+1) 0 true []with
 |inl L=>
  rw[hf]at h;simp only[jZa]at h;obtain⟨M,h1,h2⟩:=zkN _ _ _ _ _ (by omega) (by omega) hf;rw[←h.1,h1];exact h2
 |inr p=>
  exfalso;rw[hf]at h;simp only[jZa]at h;have key:∀(n i:Nat)(b:Bool)(acc:List Tk),zfo s n i b acc=.inr p→p.2≠0:=fun n=>by
   induction n with
   |zero=>intro i b acc h;cases h
   |succ n ih=>
    intro i b acc h;simp only[zfo]at h;split at h
    ·cases h;exact(by decide:(32:Nat)≠0)
    ·split at h
     ·cases h
     ·split at h
      ·rename_i e he;cases h;exact zrm he
      ·exact ih _ _ _ h
  exact key _ _ _ _ hf h.2.2
theorem zro {s:Bs}{l:List Tk}(hs:s.length≤20000)(h:Toks s 0 true l):zdf s=(l,0,0):=by
 unfold zdf;rw[if_neg (by omega),zrn h _ [] (by omega) (by omega)];rfl
theorem zst {l:List Tk}{i:Nat}{x:Tk}(h:l[i]? = some x)(H:zaa):zah TT 3 H (.ipt 4 (zaO l) i 2)=some (.i .i64 x.2.2.1):=by
 have e:zbV (TT.und 3)=some false:=rfl;simp only[zah,zaO,jUb,h,jXa,zbq,e];rfl
/-! A text behind another one. -/
theorem zqa {l:List Tk}{i:Nat}{x:Tk}(h:l[i]? = some x)(H:zaa):zah TT 4 H (.ipt 4 (zaO l) i 3)=some (.b x.2.2.2):=by
 have e:zbV (TT.und 4)=some false:=rfl;simp only[zah,zaO,jUb,h,jXa,zbq,e];rfl
theorem zl5:∃g,zak prog TT 12 g∧∀s:Bs,s.length<100000000→∀H,g [.s s] H=.val (zom (zdf s)) H:=by
 obtain⟨g0,k0,s0⟩:=zxQ;obtain⟨g,k,s⟩:=zkV zao k0 (fun vs=>∃s:Bs,s.length<100000000∧vs=[.s s]) (fun vs u=>∃s:Bs,vs=[.s s]∧u=zom (zdf s)) (by
  rintro vs ⟨s,hs,rfl⟩;obtain⟨r,hr,h⟩:=s0 s hs;refine⟨rfl,ztB r,[],9,ztB r,zom (zdf s),h [],?_,?_,s,rfl,rfl⟩
  ·rcases r with l|p
   ·have:nl (V.isl 4 (l.map fun x=>V.agg (tkL x)))=true:=zhq l;simp[ztB,fz,Ev.fzL,this]
   ·simp[ztB,fz,Ev.fzL]
  ·rcases r with l|p
   ·rw[(ztb hr).1];exact ziI.refl _
   ·obtain⟨a,c,rfl,e⟩:=ztc hr;rw[e];exact zdP.tup (zdP.cons (zhz 4) (zdP.cons (ziI.refl _) (zdP.cons (ziI.refl _) zdP.nil))))
 refine⟨g,k,fun x hx H=>?_⟩;obtain⟨u,⟨y,he,rfl⟩,h⟩:=s [.s x] ⟨x,hx,rfl⟩;simp only[jPa,V.s.injEq,jGb]at he;subst he;exact h H
def zrz (k:Int)(x:Bs)(p:List Tk×Nat×Nat):Bool:=p.2.2==0&&match p.1 with
 | [y]=>y.2.2.1==0&&(y.1==k&&y.2.1==x)
 |_=>false
def zk3 (k:Int)(x:Bs):Bool:=x==[]||(decide (k<1)||(decide (6<k)||decide (20000<x.length)))
def zlB (k:Int)(x:Bs):Bool:=if k=5 then Lib.validD x else !zk3 k x&&zrz k x (zdf x)
def wtR (k:Int)(x:Bs):Bs:=if k=5 then(if Lib.validD x=true then qtL x else[])else if zk3 k x=true then[]else x
noncomputable def cfD:zad:=(zad.none.with 17 (ch zq1)).with 12 (ch zl5)
theorem zwT:cfD.Sound prog TT:=ws (ws n0 (zdJ zq1)) (zdJ zl5)
theorem zq8:∃g,zak prog TT 46 g∧∀p:Int×Bs×Int×Bool,p.2.1.length<1000000→∀H,g [.agg [.i .i64 p.1,.s p.2.1,.i .i64 p.2.2.1,.b p.2.2.2]] H=(Res.val (.tup [.s (wtR p.1 p.2.1),.b (zlB p.1 p.2.1)])).at H:=by
 refine zbC zaf zao 46 (fun p:Int×Bs×Int×Bool=>[.agg [.i .i64 p.1,.s p.2.1,.i .i64 p.2.2.1,.b p.2.2.2]]) _ (fun p=>.val (.tup [.s (wtR p.1 p.2.1),.b (zlB p.1 p.2.1)])) (fun _ _=>⟨rfl,rfl⟩) (fun a b _ _ h=>?_) fun p hp=>?_
 ·simp only[jPa,V.agg.injEq,V.i.injEq,V.s.injEq,jLb,jGb]at h;rw[h.1,h.2.1]
 obtain⟨k,x,a,l⟩:=p;simp only at hp ⊢;refine zaA.sym zaf zwT (fn:=f46) rfl rfl (by simp[f46]) zy8 (by kernel_rfl) [.ui k,.us x,.ui a,.ub l,.uh []] rfl ⟨by rw[zag];rfl,trivial⟩ rfl (zaC _ _) ?_;simp -implicitDefEqProofs only[VC,isR,exU,Ask.den,E.den,O1.den,O2.den,O3.den,SH.den,zat,za9,bD,SB.den,zai,LQ,uu,uW,jOa,jUa,jDa];unfold wtR zlB;refine⟨fun h5=>?_,fun h5=>?_⟩
 ·rw[if_pos h5,if_pos h5];have hq:=zc3 zq1 x (by omega);unfold qtR at hq;cases hv:Lib.validD x with
  |true=>
   rw[if_pos hv]at hq;exact .inl ⟨_,_,hq,rfl⟩
  |false=>
   rw[if_neg (by rw[hv];decide)]at hq;exact .inl ⟨_,_,hq,rfl⟩
 ·rw[if_neg h5,if_neg h5];have bad:zk3 k x=true→Res.val (V.tup [.s (if zk3 k x=true then[]else x),.b (!zk3 k x&&zrz k x (zdf x))])=.val (.tup [.s [],.b false]):=fun h=>by rw[h];rfl
  refine⟨fun h=>bad (by simp[zk3,h]),fun h1=>⟨fun h=>bad (by simp[zk3,h]),fun h2=>⟨fun h=>bad (by simp[zk3];omega),fun h3=>⟨fun h=>bad (by simp[zk3];omega),fun h4=>?_⟩⟩⟩⟩;have hb:zk3 k x=false:=by
   unfold zk3;simp only[Bool.or_eq_false_iff,jDa,jKc];exact⟨by simpa using h1,by omega,by omega,by omega⟩
  rw[hb];simp only[jSa,if_false,Bool.not_false,jSd];obtain⟨p,ps⟩:∃p,p=zdf x:=⟨_,rfl⟩;refine .inl ⟨zaO p.1,(p.2.1:Nat),(p.2.2:Nat),fun K=>by rw[ps];exact zc3 zl5 x (by omega) K,fun he=>?_,fun he=>?_⟩
  ·have he:p.2.2=0:=by omega
   have e:zrz k x (zdf x)=match p.1 with
    | [y]=>y.2.2.1==0&&(y.1==k&&y.2.1==x)
    |_=>false:=by rw[←ps];simp[zrz,he]
   rw[e,zb5];refine⟨fun h1=>?_,fun h1=>?_⟩
   ·have h1:p.1.length=1:=by omega
    obtain⟨z,hz⟩:=length_eq_one_iff.1 h1;rw[hz];refine⟨by simp,.inl ⟨z.2.2.1,congrArg (fun o=>lift o _) (zst (i:=0) rfl _),fun h0=>.inl ⟨z.1,congrArg (fun o=>lift o _) (zp9 (i:=0) rfl _),fun h2=>.inl ⟨z.2.1,congrArg (fun o=>lift o _) (zqb (i:=0) rfl _),?_⟩,fun h2=>?_⟩,fun h0=>?_⟩⟩
    ·simp[h0,h2]
    ·simp[h2]
    ·simp[h0]
   ·have h1:p.1.length≠1:=by omega
    rcases hpl:p.1 with _|⟨z,_|⟨z2,r⟩⟩
    ·rfl
    ·exact absurd (by rw[hpl];rfl) h1
    ·rfl
  ·have he:p.2.2≠0:=by omega
   rw[←ps];simp[zrz,he]
theorem zw8 {k:Int}{x:Bs}{a:Int}{l:Bool}(h:zlB k x=true):wtR k x=wrQ (k,x,a,l):=by
 unfold zlB at h;unfold wtR wrQ;by_cases h5:k=5
 ·rw[if_pos h5]at h;rw[if_pos h5,if_pos h,if_pos h5]
 ·rw[if_neg h5,jMa,jLc]at h;rw[if_neg h5,if_neg (by rw[h.1];decide),if_neg h5]
noncomputable def cfE:zad:=zad.none.with 46 (ch zq8)
theorem zpl:cfE.Sound prog TT:=ws n0 (zdJ zq8)
theorem zu5 (l:List Tk) (hl:l.length<1000000) (hx:∀x∈l,x.2.1.length<1000000):∀(n i:Nat) (out:Bs) (t:Tm) (H:zaa),l.length<n+i→i≤l.length→out.length≤20000→(i=0→out=[])→t.wid=f27.ntmps →
    t.get 0=.isl 4 (zaO l)→t.get 4=.s out→t.get 5=.i .i64 (i:Nat) →
    ctx prog TT [tt,tt,ff,tt,ff,ff] (zae f27) (zaF TT f27 (isR (.val (zmc (zev (fun x=>zlB x.1 x.2.1) (l.drop i) (i==0) out))))) (.norm t H):=by
  intro n
  induction n with
  |zero=>intro i out t H h1 h2;omega
  |succ n ih=>
    intro i out t H hn hi ho h0 hw t0 t4 t5
    have hlr:=zb5 l
    refine zaM.symIn (p:=[tt,tt,ff,tt,ff]) zaf zpl rfl zyx (by kernel_rfl) [.ul (zaO l),.us out,.ui (i:Nat),.uh H] rfl hw ⟨t0,t4,t5,trivial⟩ rfl (zaC _ _) ?_
    clear t0 t4 t5 hw
    simp -implicitDefEqProofs only[VC,isR,exU,Ask.den,E.den,O1.den,O2.den,O3.den,SH.den,zat,za9,bD,SB.den,zai,LQ,uu,uW,jOa,jUa,jDa,jSa,if_false,if_true]
    rw[hlr]
    refine⟨fun h=>⟨by omega,?_⟩,fun h=>?_⟩
    · have h1 : i<l.length:=by omega
      have hd:l.drop i=l[i]::l.drop (i+1):=jAb h1
      have hg:l[i]? = some l[i]:=jKa h1
      have hxl:=hx _ (getElem_mem h1)
      rw[hd]
      generalize l[i]=x at hd hg hxl
      refine .inl ⟨x.1,x.2.1,x.2.2.1,x.2.2.2,zmK hg H,.inl ⟨_,_,fun K=>zc3 zq8 x hxl K,fun hf=>?_,fun hf=>?_⟩⟩
      · have hwt : wtR x.1 x.2.1=wrQ x:=zw8 hf
        rw[hwt]
        have hwl:=zt9 x
        have rest:(i=0→x.2.2.2=true)→∀t:Tm,t.wid=f27.ntmps→t.get 0=.isl 4 (zaO l)→t.get 4=.s out→t.get 5=.i .i64 (i:Nat)→t.get 6=.s (wrQ x) →
            Tri prog TT (sub [tt,tt,ff,tt,ff,ff,tt,ff,ff,tt,tt,ff,ff] (zae f27)) t H (ctx prog TT [tt,tt,ff,tt,ff,ff,tt,ff,ff,tt,tt,ff,ff] (zae f27)
              (zaF TT f27 (isR (.val (zmc (zev (fun x=>zlB x.1 x.2.1) (x::l.drop (i+1)) (i==0) out)))))):=by
          intro hb t hw t0 t4 t5 t6
          have fin:∀sp:Bs,(if(i==0)=true then[]else if x.2.2.2=true then[10]else[32])=sp→sp.length≤1 →
              (((out++sp).length:Int)+(wrQ x).length≤9223372036854775807∧((20000<(((out++sp)++wrQ x).length:Int)→Res.val (zmc (zev (fun x=>zlB x.1 x.2.1) (x::l.drop (i+1)) (i==0) out))=.val (.tup [.s [],.i .i64 16])) ∧
              (¬ 20000<(((out++sp)++wrQ x).length:Int)→∀t:Tm,t.wid=f27.ntmps→t.get 0=.isl 4 (zaO l)→t.get 4=.s ((out++sp)++wrQ x)→t.get 5=.i .i64 (IntKind.i64.wrap ((i:Int)+1)) →
                ctx prog TT [tt,tt,ff,tt,ff,ff] (zae f27) (zaF TT f27 (isR (.val (zmc (zev (fun x=>zlB x.1 x.2.1) (x::l.drop (i+1)) (i==0) out))))) (.norm t H)))):=by
            intro sp hsp hl1
            have hc:zlB x.1 x.2.1=true∧((i==0)=true→x.2.2.2=true):=⟨hf,fun h=>hb (by simpa using h)⟩
            rw[zev,if_pos hc,hsp]
            refine⟨by rw[jLa];omega,fun h=>?_,fun h t hw t0 t4 t5=>?_⟩
            · rw[if_pos (by omega)];rfl
            · rw[if_neg (by omega)]
              have w1:IntKind.i64.wrap ((i:Int)+1)=((i+1:Nat):Int):=by rw[w64 (by omega) (by omega)];omega
              exact ih (i+1) _ t H (by omega) (by omega) (by omega) (by omega) hw t0 t4 (by rw[t5,w1])
          refine Tri.symIn zaf zpl zyy (by kernel_rfl) [.ul (zaO l),.us out,.ui (i:Nat),.us (wrQ x),.uh H] rfl hw ⟨t0,t4,t5,t6,trivial⟩ rfl (zaC _ _) ?_
          simp -implicitDefEqProofs only[VC,isR,exU,Ask.den,E.den,O1.den,O2.den,O3.den,SH.den,zat,za9,bD,SB.den,zai,LQ,uu,uW,jOa,jUa,jDa,jSa,if_false,if_true]
          rw[hlr]
          refine⟨fun h=>⟨by omega,by omega,.inl ⟨x.2.2.2,congrArg (fun o=>lift o H) (zqa hg H),fun hl=>⟨by omega,?_⟩,fun hl=>⟨by omega,?_⟩⟩⟩,fun h=>?_⟩
          · exact fin [10] (by rw[if_neg (by simp;omega),if_pos hl]) (by simp)
          · exact fin [32] (by rw[if_neg (by simp;omega),if_neg (by rw[hl];decide)]) (by simp)
          · have:=fin [] (if_pos (by simp;omega)) (by simp)
            rw[jWb]at this
            exact this
        refine⟨fun hi0=>.inl ⟨x.2.2.2,congrArg (fun o=>lift o H) (zqa hg H),fun hl=>rest fun _=>hl,fun hl=>?_⟩,fun hi0=>rest fun e=>absurd (by omega) hi0⟩
        rw[zev,if_neg (fun h=>by have:=h.2 (by simp;omega);rw[hl]at this;cases this)]
        rfl
      · rw[zev,if_neg (fun h=>by rw[hf]at h;exact absurd h.1 (by simp))]
        rfl
    · rw[jAc (by omega),zev]
      rfl
theorem zq4:∃g,zak prog TT 27 g∧∀l:List Tk,(l.length<1000000∧∀x∈l,x.2.1.length<1000000)→∀H,g [.isl 4 (zaO l)] H=(Res.val (zmc (zev (fun x=>zlB x.1 x.2.1) l true []))).at H:=by
 refine zbC zaf zao 27 (fun l:List Tk=>[.isl 4 (zaO l)]) _ (fun l=>.val (zmc (zev (fun x=>zlB x.1 x.2.1) l true []))) (fun l _=>⟨?_,rfl⟩) (fun a b _ _ h=>?_) fun l hl=>?_
 ·show(nl (.isl 4 (zaO l))&&true)=true;rw[zhq];rfl
 ·simp only[jPa,V.isl.injEq,jLb,jGb]at h;rw[zju h]
 ·refine zaA.sym zaf zpl (fn:=f27) rfl rfl (by simp[f27]) zAc (by kernel_rfl) [.ul (zaO l),.uh []] rfl ⟨by rw[zag];rfl,trivial⟩ rfl (zaC _ _) ?_;simp -implicitDefEqProofs only[VC,isR,exU,Ask.den,E.den,O1.den,O2.den,O3.den,SH.den,zat,za9,bD,SB.den,zai,LQ,uu,uW,jOa,jUa,jDa];intro t hw t0 t4 t5;exact Tri.symLoop rfl (zu5 l hl.1 hl.2 (l.length+1) 0 [] t _ (by omega) (by omega) (by simp) (fun _=>rfl) hw t0 t4 t5)
theorem zsI (l:List Tk)(hl:l.length<1100000):∀(n i:Nat)(v:V)(t:Tm)(H:zaa),l.length<n+i→i≤l.length→t.wid=f26.ntmps→t.get 3=v→t.get 6=.isl 4 (zaO l)→t.get 7=.i .i64 (l.length:Nat)→t.get 8=.i .i64 (i:Nat)→zwr H v (l.take i) →
 ctx prog TT [tt,tt,ff,tt,ff,ff] (zae f26) (zaF TT f26 fun r=>∃v J,r=.val v J∧zwr J v l) (.norm t H):=by
 intro n;induction n with
 |zero=>intro i v t H h1 h2;omega
 |succ n ih=>
  intro i v t H hn hi hw t3 t6 t7 t8 hO;have hlr:=zb5 l;refine zaM.symIn (p:=[tt,tt,ff,tt,ff]) zaf n0 rfl zwc (by kernel_rfl) [.ul (zaO l),.uv v,.ui (i:Nat),.uh H] rfl hw ⟨t3,t6,by rw[t7,←hlr];rfl,t8,trivial⟩ rfl (zaC _ _) ?_;clear t3 t6 t7 t8 hw;simp -implicitDefEqProofs only[VC,isR,exU,Ask.den,E.den,O1.den,O2.den,O3.den,SH.den,zat,za9,bD,SB.den,zai,LQ,uu,uW,jOa,jUa,jDa,jSa,if_false,if_true];rw[hlr];refine⟨fun h=>⟨by omega,?_⟩,fun h=>?_⟩
  ·have h1:i<l.length:=by omega
   have hg:l[i]? = some l[i]:=jKa h1;have htk:l.take (i+1)=l.take i++[l[i]]:=by rw[take_add_one,hg];rfl
   generalize l[i]=x at hg htk;refine .inl ⟨x.1,x.2.1,x.2.2.1,x.2.2.2,zmK hg H,fun t hw t3 t5 t6 t7 t8=>?_⟩;have hw1:t.wid=26:=hw;obtain⟨v2,H2,ha,hO2⟩:=zAG (H:=(H++[some ⟨44,tkL x,.all⟩])++[some ⟨34,tkL x,.all⟩]) (v:=v) (l:=l.take i) (by
    rcases hO with h|⟨n,h1,h2⟩
    ·exact .inl h
    ·refine .inr ⟨n,h1,?_⟩;have:=zaa.lt h2;rw[jQa (by simp;omega),jQa this];exact h2) (by rw[jSb];omega) x (b:=H.length+1) (by simp)
   have hb3:∀K:zaa,zaE TT 23 1 [(0,.agg [.i .i64 x.1,.s x.2.1,.i .i64 x.2.2.1,.b x.2.2.2])] K=.val (.sl K.length 4 0 1 (some 1)) (K++[some {ty:=34,cells:=tkL x,kind:=.all}]):=fun K=>ztD x K;simp only[jEb,jEa,jFa,tkL]at ha;refine Tri.regN (t':=?tk3) (H':=?Hk3) zaf n0 ?ek3 ?qk3;case ek3=>
    refine zar ?_;iterate 10 refine zab rfl (by simp[t3,t5,tkL]<;>rfl) (by rfl) (by simp[hw1]) ?_
    refine zab rfl (by simp[hb3,tkL]<;>rfl) (by rfl) (by simp[hw1]) ?_;refine zab rfl (by simp[ha]<;>rfl) (by rfl) (by simp[hw1]) ?_;refine zab rfl (by simp<;>rfl) (by rfl) (by simp[hw1]) ?_;exact zal
   refine zaF.sym zaf n0 (o:=.norm) zwd (by kernel_rfl) [.ul (zaO l),.uv v2,.ui (i:Nat),.uh H2] rfl ?_ ⟨?_,?_,?_,?_,trivial⟩ rfl (zaC _ _) ?_
   ·simp[hw1]
   ·simp
   ·simp[t6]
   ·simp[t7,hlr]
   ·simp[t8]
   simp -implicitDefEqProofs only[VC,isR,exU,Ask.den,E.den,O1.den,O2.den,O3.den,SH.den,zat,za9,bD,SB.den,zai,LQ,uu,uW,jOa,jUa,jDa,jSa,if_false,if_true];have w1:IntKind.i64.wrap ((i:Int)+1)=((i+1:Nat):Int):=by rw[w64 (by omega) (by omega)];omega
   rw[w1];exact fun t hw f3 f6 f7 f8=>ih (i+1) v2 t H2 (by omega) (by omega) hw f3 f6 (by rw[f7,hlr]) f8 (by rw[htk];exact hO2)
  ·rw[jTb (by omega)]at hO;exact⟨v,H,rfl,hO⟩
theorem zsQ {l:List Tk}{r:OR}(h:∃v J,r=.val v J∧zwr J v l):∃v J k v' u,r=.val v J∧fz J k v=some v'∧ziI v' u∧u=.isl 4 (zaO l):=by
 obtain⟨v,J,rfl,ho⟩:=h;rcases ho with⟨rfl,rfl⟩|⟨n,rfl,hn⟩
 ·exact⟨_,J,5,_,_,rfl,by simp[fz]<;>rfl,zhz 4,rfl⟩
 ·have hc:zap J n=some {ty:=34,cells:=tkC l,kind:=.more}:=by simp[zap,hn]
  have hlen:=zbI l;have hcut:cut (tkC l) (0*4) (l.length*4)=some (tkC l):=by
   simp only[cut];rw[if_pos (by omega),Nat.zero_mul,jFc,jTb (by omega)]
  have hf:=zmC (H:=J) l (4*l.length+7) (by omega);exact⟨_,J,4*l.length+8,_,_,rfl,by simp only[fz,hc,hcut,hf,zfh,jXa];rfl,ziI.refl _,rfl⟩
theorem zq3:∃g,zak prog TT 26 g∧∀l:List Tk,l.length<1100000→∀H,g [.isl 4 (zaO l)] H=.val (.isl 4 (zaO l)) H:=by
 refine zkW zaf zao 26 (fun l:List Tk=>[.isl 4 (zaO l)]) (fun l=>l.length<1100000) (fun l=>.isl 4 (zaO l)) (fun l _=>?_) (fun a b _ _ h=>?_)
  fun l hl=>(zaA.fact zaf (R:=fun r=>∃v J,r=.val v J∧zwr J v l) ?_).mono fun r hr=>zsQ hr
 ·show(nl (.isl 4 (zaO l))&&true)=true;rw[zhq];rfl
 ·simp only[jPa,V.isl.injEq,jLb,jGb]at h;rw[zju h]
 ·refine zaA.sym zaf n0 (fn:=f26) rfl rfl (by simp[f26]) zyR (by kernel_rfl) [.ul (zaO l),.uh []] rfl ⟨by rw[zag];rfl,trivial⟩ rfl (zaC _ _) ?_;simp -implicitDefEqProofs only[VC,isR,exU,Ask.den,E.den,O1.den,O2.den,O3.den,SH.den,zat,za9,bD,SB.den,zai,LQ,uu,uW,jOa,jUa,jDa];intro t hw t3 t6 t7 t8;exact Tri.symLoop rfl (zsI l hl (l.length+1) 0 .nils t [] (by omega) (by omega) hw t3 t6 (by rw[t7,zb5]) t8 (.inl ⟨rfl,by simp⟩))
/-! A number's text, scanned again. -/
/-! Tokens, written and scanned again. -/
def znn (w:Bs):Prop:=(∃c r,w=c::r∧zwx c=false)∧zbv w [47,47]=false∧zbv w [47,42]=false
theorem zne {c:UInt8}{r:Bs}(h1:zwx c=false)(h2:c≠47):znn (c::r):=
 ⟨⟨c,r,rfl,h1⟩,by simp[zbv,h2],by simp[zbv,h2]⟩
theorem zna {s:Bs}{i:Nat}{l:Bool}(h:znn (s.drop i)):∀n,0<n→skF s n i l=.inr (i,l)
 |n+1,_=>by
  obtain⟨⟨c,r,e,hc⟩,h1,h2⟩:=h;obtain⟨k1,k2,_⟩:=zuF s i c r e;have hb:¬(atS s i=32∨atS s i=9∨atS s i=13∨atS s i=10):=by
   rw[k2];intro h;simp only[zwx,Bool.or_eq_false_iff,jDa]at hc;have e:∀k:UInt8,(c.toNat:Int)=k.toNat→c=k:=fun k h=>jBd.1 (jAd.1 h);rcases h with h|h|h|h
   ·exact hc.1.1.1 (e 32 h)
   ·exact hc.1.1.2 (e 9 h)
   ·exact hc.1.2 (e 13 h)
   ·exact hc.2 (e 10 h)
  have hq:znM s i l=none:=by
   unfold znM;rw[if_neg (by rw[h1];decide),if_neg (by rw[h2];decide)]
  rw[skF,if_pos k1,if_neg hb,hq]
theorem zv2 {k:Int}{t:Bs}(hs:znn t)(h:zcQ kw zdv t=.inr (k,t,t.length))(hl:t.length≤20000):zdf t=([(k,t,0,true)],0,0):=by
 refine zro hl (.step (j:=0) (m:=t.length) (zna (i:=0) hs _ (by omega)) ?_ h (.done (l':=false) ?_))
 ·obtain⟨⟨c,r,rfl,_⟩,_⟩:=hs;simp
 ·rw[jKb];exact zxP t false
theorem ztd:∀y∈sgnL,(match y with|c::_=>!zwx c | []=>false)=true∧zbv y [47,47]=false∧zbv y [47,42]=false:=by decide
end Go.Ev
