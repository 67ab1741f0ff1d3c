/- What number comes to; its parts. number: the range over its two prefixes. skip. Trees of token. The first region of token. The whole body of token, its parts given. Bounds of characters, texts and symbols; the look-up among the keywords. Symbols. The set of keywords on the heap of Scan. The function that Scan defers, behind a return. The function that Scan defers, behind a panic. Bounds of tokens, and token. The loop of Scan. Trees of Quote. Quote. Scan. Two given texts scanned. -/
import Derived.Test.YtmjplflnlggbeaaGreatDoorBYK
import Derived.Test.YtmjplflnlggbeaaGreatDoorBYC
import Derived.Test.YtmjplflnlggbeaaGreatDoorBT15
import Derived.Test.YtmjplflnlggbeaaGreatDoorBEvPart2
namespace Go.Ev
open Go Go.Proofs
set_option linter.unusedSimpArgs false
set_option linter.unusedVariables false
set_option linter.unnecessarySimpa false
open Tryz List
set_option maxRecDepth 1000000
def zhN (s:List UInt8)(base:Nat):Option (Int×List UInt8×Nat):=match zbD base (s.drop 2) 0 with
 |none=>none
 |some n=>if 0<n then(match zdw base ((s.take (2+n)).drop 2) 0 with
  |none=>none
  |some a=>if zj0 s (2+n)=true then some (3,zfk a,2+n)else none)else none
def zb7 (s:List UInt8)(m:Nat)(r:Bool):Option (Nat×Bool):=match zem (s.drop m)with
 |none=>none
 |some k=>if 0<k then(if zj0 s (m+k)=true then some (m+k,true)else none)else if zj0 s m=true then some (m,r)else none
def zdO (s:List UInt8):Option (Nat×Bool):=match zbD 10 s 0 with
 |none=>none
 |some n=>if n+1<s.length∧atS s n=46∧(decide (48≤atS s (n+1:Nat))&&decide (atS s (n+1:Nat)≤57))=true then(match zbD 10 (s.drop (n+1)) 0 with
  |none=>none
  |some k=>zb7 s (n+(1+k)) true)else zb7 s n false
def zaQ (s:List UInt8):List UInt8:=(s.filter fun c=>c !=95).map fun c=>if c=69 then 101 else c
def zcm (s:List UInt8):Option (Int×List UInt8×Nat):=
 if za5 s [48,120]=true then zhN s 16 else if za5 s [48,98]=true then zhN s 2 else match zdO s with
  |none=>none
  |some (m,true)=>some (4,zaQ (s.take m),m)
  |some (m,false)=>match zdw 10 (s.take m) 0 with
   |none=>none
   |some a=>some (3,zfk a,m)
def zmo (o:Option (Int×List UInt8×Nat))(at_:Int):Res:=match o with
 |some r=>.val (.tup [.i .i64 r.1,.s r.2.1,.i .i64 (r.2.2:Nat)])
 |none=>.pan (zct 33 at_)
theorem zld (s:List UInt8)(k:Nat)(h:zem s=some k):k≤s.length:=by
 cases s with
 |nil=>simp[zem]at h;omega
 |cons c r=>
  simp only[zem]at h;split at h
  ·split at h
   ·rename_i k' hk;have:=zcZ 10 _ _ _ hk;rw[length_drop]at this;have h:=Option.some.inj h;have:zhz r≤(c::r).length∨(c::r).length<zhz r:=by omega
    simp only[length_cons]at *;omega
   ·cases h
  ·have h:=Option.some.inj h;omega
structure NumH (call:zad) (at_:Int):Prop where
  run:∀(s:List UInt8)(base:Nat),s.length<1100000→base=2∨base=10∨base=16→∀K,call 75 [.s s,.i .i64 base,.i .i64 at_] K=(match zbD base s 0 with|some n=>.val (.i .i64 n) K|none=>.pan (zct 33 at_) K)
  exp:∀(s:List UInt8),s.length<1100000→∀K,call 77 [.s s,.i .i64 at_] K=(match zem s with|some n=>.val (.i .i64 n) K|none=>.pan (zct 33 at_) K)
  who:∀(s:List UInt8)(base:Nat),base=2∨base=10∨base=16→s.length<1100000→∀K,call 76 [.s s,.i .i64 base,.i .i64 at_] K=(zuu base s at_).at K
  pre:∀x y:List UInt8,∀K,call 70 [.s x,.s y] K=.val (.b (za5 x y)) K
  dig:∀c:Int,∀K,call 50 [.i .u8 c] K=.val (.b (decide (48≤c)&&decide (c≤57))) K
  must:zdJ call
  ends:zyi call
theorem NumH.who' {call:zad} {at_:Int} (h:NumH call at_) (s:List UInt8) (base:Nat) (hb:base=2∨base=10∨base=16) (hs:s.length<1100000) {A:List UInt8→Prop} {B:V→Prop} (h1:∀n:Nat,zdw base s 0=some n→A (zfk n)) (h2:zdw base s 0=none→B (zct 33 at_)) :
    (∃x,(∀K,call 76 [.s s,.i .i64 base,.i .i64 at_] K=.val (.s x) K)∧A x)∨∃v,(∀K,call 76 [.s s,.i .i64 base,.i .i64 at_] K=.pan v K)∧B v:=
  zt2 (h.who s base hb hs) rfl h1 h2
abbrev zhM (s:List UInt8)(at_:Int):zaa:=[some ⟨9,[.s s],.all⟩,some ⟨3,[.i .i64 at_],.all⟩,none]
theorem zlT {t:Tm}{H:zaa}{k:Int}{x:List UInt8}{n:Nat}{o:Option (Int×List UInt8×Nat)}{at_:Int}(f4:t.get 4=.i .i64 k)(f5:t.get 5=.s x)(f6:t.get 6=.i .i64 (n:Nat))(ho:o=some (k,x,n)):zaV TT f51 (isR (zmo o at_)) (.ret t H):=by
 subst ho;refine⟨_,rfl,?_⟩;simp[f51,f4,f5,f6]
theorem zpx {call:zad}(hC:call.Sound prog TT)(s:List UInt8)(at_:Int)(hn:NumH call at_)(hs:s.length<1100000)(p:List UInt8)(base:Nat)(hb:base=2∨base=10∨base=16)(hp:p.length=2)(itv:V)(t:Tm){Q:Out→Prop}
 (hw:t.wid=f51.ntmps)(t2:t.get 2=.ptr 0 0)(t3:t.get 3=.ptr 1 0)(t7:t.get 7=.fn 74 [.ptr 0 0,.ptr 1 0])(t8:t.get 8=.s p)(t9:t.get 9=.i .i64 base)(t16:t.get 16=itv)(t4:t.get 4=.i .i64 0)(t5:t.get 5=.s [])(t6:t.get 6=.i .i64 0)
 (hY:za5 s p=true→∀o,zaV TT f51 (isR (zmo (zhN s base) at_)) o→(∃v t H,o=.pan v t H)∨(∃t H,o=.ret t H)→Q o)
 (hN:za5 s p=false→∀t':Tm,t'.wid=f51.ntmps→t'.get 2=.ptr 0 0→t'.get 3=.ptr 1 0→t'.get 4=.i .i64 0→t'.get 5=.s []→t'.get 6=.i .i64 0→t'.get 7=.fn 74 [.ptr 0 0,.ptr 1 0]→t'.get 16=itv→Q (.norm t' (zhM s at_))) :
 Tri prog TT (sub [true,true,false,true,false,false,true,true,false,true] (zah f51)) t (zhM s at_) Q:=by
 refine Tri.sym (R:=fun _=>False) zaf hC zul (by kernel_rfl) (σ:=[.uh (zhM s at_),.un 0,.un 1,.us s,.ui at_,.us p,.ui base,.uv itv]) hw rfl ⟨t2,t3,t7,t8,t9,t16,t4,t5,t6,trivial⟩ rfl ⟨by simp,by simp⟩ ?_;clear t2 t3 t7 t8 t9 t16 t4 t5 t6;simp -implicitDefEqProofs only[VC,isR,exU,Ask.den,forall_eq,E.den,O1.den,O2.den,O3.den,U.int_ui,U.boo_ub,U.val_uv,U.lst_ul,U.str_us,U.nat_un,U.heap_uh,SH.den,zaB,zbX,bD,SB.den,zaq,LQ,cons_append,nil_append,List.getElem?_cons_zero,List.getElem?_cons_succ,Option.getD_some,zam,zai,zan,zaj,beq_iff_eq,bne_iff_ne,beq_eq_false_iff_ne,Int.toNat_natCast,Bool.false_eq_true,if_false,if_true];have e2:((zhM s at_).set 1 (some ⟨3,[.i .i64 at_],.all⟩)).set 0 (some ⟨9,[.s s],.all⟩)=zhM s at_:=rfl;rw[e2];have d2:(s.take s.length).drop (2:Int).toNat=s.drop 2:=by rw[take_length];rfl
 rw[d2];refine .inl ⟨_,fun K=>hn.pre s p K,fun h=>?_,fun h=>?_⟩
 ·have hl:=zb5 h;refine⟨by omega,zha (hn.run (s.drop 2) base (by rw[length_drop];omega) hb) (fun n hr=>?_) (fun hr=>?_)⟩
  ·have hnl:=zcZ base _ _ _ hr;rw[length_drop]at hnl;have w2:IntKind.i64.wrap (2+(n:Int))=((2+n:Nat):Int):=by rw[w64 (by omega) (by omega)];omega
   rw[w2];simp only[Int.toNat_natCast];refine zaN hn.must _ _ _ (fun h1=>?_) (fun h1=>?_)
   ·have h0:0<n:=by simpa using h1
    refine⟨by omega,by omega,hn.who' _ base hb (by rw[length_drop,length_take];omega) (fun a ha=>?_) (fun ha=>?_)⟩
    ·refine zgL (hn.ends (2+n) s at_ 0 1 (zhM s at_) (by omega) (by omega) hs rfl rfl) (fun he=>?_) (fun he=>?_)
     ·intro t' hw' f2 f3 f4 f5 f6 f7 f16;refine hY h _ (zlT f4 f5 f6 ?_) (.inr ⟨_,_,rfl⟩);simp only[zhN,hr,if_pos h0];have ha':zdw base ((s.take (2+n)).drop 2) 0=some a:=ha;simp only[ha',if_pos he]
     ·intro t' hw' f2 f3 f7 f16;refine hY h _ ?_ (.inl ⟨_,_,_,rfl⟩);have ha':zdw base ((s.take (2+n)).drop 2) 0=some a:=ha;simp only[zhN,hr,if_pos h0,ha',he,Bool.false_eq_true,if_false];exact rfl
    ·intro t' hw' f2 f3 f7 f16;refine hY h _ ?_ (.inl ⟨_,_,_,rfl⟩);have ha':zdw base ((s.take (2+n)).drop 2) 0=none:=ha;simp only[zhN,hr,if_pos h0,ha'];exact rfl
   ·have h0:¬0<n:=by simpa using h1
    intro t' hw' f2 f3 f4 f5 f6 f7 f16;refine hY h _ ?_ (.inl ⟨_,_,_,rfl⟩);simp only[zhN,hr,if_neg h0];exact rfl
  ·intro t' hw' f2 f3 f4 f5 f6 f7 f16;refine hY h _ ?_ (.inl ⟨_,_,_,rfl⟩);simp only[zhN,hr];exact rfl
 ·intro t' hw' f2 f3 f4 f5 f6 f7 f16;exact hN h t' hw' f2 f3 f4 f5 f6 f7 f16
def zkR (s:List UInt8):Option (Nat×Bool)→Option (Int×List UInt8×Nat)
 |none=>none
 |some (m,true)=>some (4,zaQ (s.take m),m)
 |some (m,false)=>match zdw 10 (s.take m) 0 with
  |none=>none
  |some a=>some (3,zfk a,m)
theorem zg9 (s:List UInt8):zcm s=if za5 s [48,120]=true then zhN s 16 else if za5 s [48,98]=true then zhN s 2 else zkR s (zdO s):=by
 unfold zcm zkR;rfl
def zuw (s:List UInt8)(at_:Int):Prop:=∀(m:Nat)(t:Tm),zdO s=some (m,true)→m≤s.length→t.wid=f51.ntmps→t.get 2=.ptr 0 0→t.get 3=.ptr 1 0→t.get 6=.i .i64 (m:Nat) →
 Tri prog TT (sub [true,true,true,true,true,true,false] (sub [true,true,true] (zah f51))) t (zhM s at_) (ctx prog TT [true,true,true,true,true,true,false] (sub [true,true,true] (zah f51)) (zaV TT f51 (isR (zmo (zkR s (zdO s)) at_))))
theorem zrG {call:zad} (hC:call.Sound prog TT) (s:List UInt8) (at_:Int) (hn:NumH call at_) (hs:s.length<1100000) (hf:zuw s at_) (t:Tm)
    (hw:t.wid=f51.ntmps)(t2:t.get 2=.ptr 0 0)(t3:t.get 3=.ptr 1 0)(t7:t.get 7=.fn 74 [.ptr 0 0,.ptr 1 0])(t4:t.get 4=.i .i64 0)(t5:t.get 5=.s [])(t6:t.get 6=.i .i64 0) :
    Tri prog TT (sub [true,true,true] (zah f51)) t (zhM s at_) (zaV TT f51 (isR (zmo (zkR s (zdO s)) at_))):=by
  refine Tri.sym (R:=fun _=>False) zaf hC zwz (by kernel_rfl) (σ:=[.uh (zhM s at_),.un 0,.un 1,.us s,.ui at_]) hw rfl ⟨t2,t3,t7,t4,t5,t6,trivial⟩ rfl ⟨by simp,by simp⟩ ?_
  clear t2 t3 t7 t4 t5 t6
  simp -implicitDefEqProofs only[VC,isR,exU,Ask.den,forall_eq,E.den,O1.den,O2.den,O3.den,U.int_ui,U.boo_ub,U.val_uv,U.lst_ul,U.str_us,U.nat_un,U.heap_uh,SH.den,zaB,zbX,bD,SB.den,zaq,LQ,cons_append,nil_append,List.getElem?_cons_zero,List.getElem?_cons_succ,Option.getD_some,zam,zai,zan,zaj,beq_iff_eq,bne_iff_ne,beq_eq_false_iff_ne,Int.toNat_natCast,Bool.false_eq_true,if_false,if_true]
  have e2:((zhM s at_).set 1 (some ⟨3,[.i .i64 at_],.all⟩)).set 0 (some ⟨9,[.s s],.all⟩)=zhM s at_:=rfl
  rw[e2]
  simp only[take_length]
  have hends:=fun n (h:n≤s.length)=>hn.ends n s at_ 0 1 (zhM s at_) (by omega) h hs rfl rfl
  have whole:∀n:Nat,n≤s.length→zdO s=zb7 s n false→zem (s.drop n)=some 0→zj0 s n=true →
      (∃x,(∀K,call 76 [.s ((s.take n).drop 0),.i .i64 10,.i .i64 at_] K=.val (.s x) K)∧∀t':Tm,t'.wid=f51.ntmps→t'.get 2=.ptr 0 0→t'.get 3=.ptr 1 0→t'.get 4=.i .i64 3→t'.get 5=.s x→t'.get 6=.i .i64 (n:Nat)→zaV TT f51 (isR (zmo (zkR s (zdO s)) at_)) (.ret t' (zhM s at_))) ∨
      ∃v,(∀K,call 76 [.s ((s.take n).drop 0),.i .i64 10,.i .i64 at_] K=.pan v K)∧∀t':Tm,t'.wid=f51.ntmps→t'.get 2=.ptr 0 0→t'.get 3=.ptr 1 0→zaV TT f51 (isR (zmo (zkR s (zdO s)) at_)) (.pan v t' (zhM s at_)):=by
    intro n hnl hd he hq
    have hd':zdO s=some (n,false):=by rw[hd];simp only[zb7,he,hq,if_true];rfl
    refine hn.who' _ 10 (.inr (.inl rfl)) (by rw[length_drop,length_take];omega) (fun a ha=>?_) (fun ha=>?_)
    · intro t' hw' f2 f3 f4 f5 f6
      refine zlT f4 f5 f6 ?_
      have ha':zdw 10 (s.take n) 0=some a:=ha
      rw[hd']
      simp only[zkR,ha']
    · intro t' hw' f2 f3
      have ha':zdw 10 (s.take n) 0=none:=ha
      rw[hd']
      simp only[zkR,ha']
      exact rfl
  have pan:∀(t':Tm) (H:zaa),zdO s=none→zaV TT f51 (isR (zmo (zkR s (zdO s)) at_)) (.pan (zct 33 at_) t' H):=by
    intro t' H hd
    rw[hd]
    exact rfl
  refine zha (hn.run s 10 hs (.inr (.inl rfl))) (fun n hr=>?_) (fun hr t' hw' f2 f3 f4 f5 f6=>pan _ _ (by
    have hr:zbD 10 s 0=none:=hr
    simp only[zdO,hr]))
  have hr:zbD 10 s 0=some n:=hr
  have hnl:=zcZ 10 _ _ _ hr
  have w1:IntKind.i64.wrap ((n:Int)+1)=((n+1:Nat):Int):=by rw[w64 (by omega) (by omega)];omega
  rw[w1]
  simp only[Int.toNat_natCast]
  have noFrac:zdO s=zb7 s n false→∀(A:Int→Prop) (B:V→Prop),
      (zem (s.drop n)=some 0→A 0)→(∀k:Nat,0<k→zem (s.drop n)=some k→n+k≤s.length→A k)→(zdO s=none→B (zct 33 at_)) →
      (∃x,(∀K,call 77 [.s (s.drop n),.i .i64 at_] K=.val (.i .i64 x) K)∧A x)∨∃v,(∀K,call 77 [.s (s.drop n),.i .i64 at_] K=.pan v K)∧B v:=by
    intro hd A B h0 h1 h2
    refine zha (hn.exp (s.drop n) (by rw[length_drop];omega)) (fun k hk=>?_) (fun hk=>?_)
    · have hkl:=zld _ _ hk
      rw[length_drop]at hkl
      by_cases hk0:0<k
      · exact h1 k hk0 hk (by omega)
      · have:k=0:=by omega
        subst this
        exact h0 hk
    · exact h2 (by rw[hd];simp only[zb7,hk])
  refine⟨fun h1=>⟨by omega,by omega,fun h2=>⟨by omega,.inl ⟨_,fun K=>hn.dig _ K,fun h3=>⟨by omega,?frac⟩,fun h3=>⟨by omega,?tail1⟩⟩⟩,fun h2=>⟨by omega,?tail2⟩⟩,fun h1=>⟨by omega,by omega,?tail3⟩⟩
  case frac=>
    have hd:zdO s=match zbD 10 (s.drop (n+1)) 0 with|none=>none|some k=>zb7 s (n+(1+k)) true:=by
      simp only[zdO,hr]
      rw[if_pos ⟨by omega,h2,h3⟩]
    refine zha (hn.run (s.drop (n+1)) 10 (by rw[length_drop];omega) (.inr (.inl rfl))) (fun k hk=>?_) (fun hk t' hw' f2 f3 f4 f5=>pan _ _ (by
      have hk:zbD 10 (s.drop (n+1)) 0=none:=hk
      rw[hd,hk]))
    have hk:zbD 10 (s.drop (n+1)) 0=some k:=hk
    have hkl:=zcZ 10 _ _ _ hk
    rw[length_drop]at hkl
    rw[hk]at hd
    simp only at hd
    have w2:IntKind.i64.wrap (1+(k:Int))=((1+k:Nat):Int):=by rw[w64 (by omega) (by omega)];omega
    have w3:IntKind.i64.wrap ((n:Int)+((1+k:Nat):Int))=((n+(1+k):Nat):Int):=by rw[w64 (by omega) (by omega)];omega
    rw[w2,w3]
    simp only[Int.toNat_natCast]
    generalize hm:n+(1+k)=m at hd w3 ⊢
    have hml:m≤s.length:=by omega
    refine⟨by omega,by omega,zha (hn.exp (s.drop m) (by rw[length_drop];omega)) (fun j hj=>?_) (fun hj t' hw' f2 f3 f4 f5 f6=>pan _ _ (by rw[hd];simp only[zb7,hj]))⟩
    have hjl:=zld _ _ hj
    rw[length_drop]at hjl
    refine⟨fun h0=>?_,fun h0=>?_⟩
    · have w4:IntKind.i64.wrap ((m:Int)+(j:Nat))=((m+j:Nat):Int):=by rw[w64 (by omega) (by omega)];omega
      rw[w4]
      have hj0:0<j:=by omega
      refine zgL (hends (m+j) (by omega)) (fun hq t' hw' f2 f3 f4 f5 f6=>hf (m+j) t' (by rw[hd];simp only[zb7,hj,if_pos hj0,if_pos hq]) (by omega) hw' f2 f3 f6) (fun hq t' hw' f2 f3 f4 f5 f6=>pan _ _ (by rw[hd];simp only[zb7,hj,if_pos hj0,hq];rfl))
    · have hj0:¬0<j:=by omega
      refine zgL (hends m hml) (fun hq t' hw' f2 f3 f4 f5 f6=>hf m t' (by rw[hd];simp only[zb7,hj,if_neg hj0,if_pos hq]) hml hw' f2 f3 f6) (fun hq t' hw' f2 f3 f4 f5 f6=>pan _ _ (by rw[hd];simp only[zb7,hj,if_neg hj0,hq];rfl))
  all_goals
    have hd:zdO s=zb7 s n false:=by
      simp only[zdO,hr]
      rw[if_neg]
      rintro⟨k1,k2,k3⟩
      first
        |omega
        |exact h2 k2
        |(rw[h3]at k3;cases k3)
    refine noFrac hd _ _ (fun he=>⟨fun h=>absurd h (by omega),fun _=>?_⟩) (fun k hk he hkl=>⟨fun _=>?_,fun h=>absurd h (by omega)⟩) (fun hd' t' hw' f2 f3 f4 f5 f6=>pan _ _ hd')
    · exact zgL (hends n (by omega)) (fun hq=>whole n (by omega) hd he hq) (fun hq t' hw' f2 f3 f4 f5 f6=>pan _ _ (by rw[hd];simp only[zb7,he,hq];rfl))
    · have w4:IntKind.i64.wrap ((n:Int)+(k:Nat))=((n+k:Nat):Int):=by rw[w64 (by omega) (by omega)];omega
      rw[w4]
      exact zgL (hends (n+k) hkl) (fun hq t' hw' f2 f3 f4 f5 f6=>hf (n+k) t' (by rw[hd];simp only[zb7,he,if_pos hk,if_pos hq]) hkl hw' f2 f3 f6) (fun hq t' hw' f2 f3 f4 f5 f6=>pan _ _ (by rw[hd];simp only[zb7,he,if_pos hk,hq];rfl))
def kvN:List (V×V):=[(.s [48,120],.i .i64 16),(.s [48,98],.i .i64 2)]
def zyC (s:List UInt8)(at_:Int)(left:List (V×V))(t:Tm)(H:zaa):Prop:=
 H=zhM s at_∧t.wid=103∧t.get 2=.ptr 0 0∧t.get 3=.ptr 1 0∧t.get 4=.i .i64 0∧t.get 5=.s []∧t.get 6=.i .i64 0∧t.get 7=.fn 74 [.ptr 0 0,.ptr 1 0]∧(∀q∈left,q∈kvN)∧∀q∈kvN,q∈left∨∀p,q.1=.s p→za5 s p=false
theorem zrC {s:List UInt8}(h:za5 s [48,98]=true):za5 s [48,120]=false:=by
 match s,h with
 | [],h=>simp[za5]at h
 | [a],h=>simp[za5]at h
 |a::b::r,h=>
  simp[za5]at h ⊢;intro _;rw[h.2];decide
theorem zo4 {α:Type}{l:List α}{j:Nat}{q:α}(h:q∈l):l[j]? = some q∨q∈l.eraseIdx j:=by
 obtain⟨i,hi⟩:=mem_iff_getElem?.1 h;by_cases e:i=j
 ·subst e;exact .inl hi
 ·refine .inr ?_;by_cases hlt:i<j
  ·exact mem_of_getElem? (i:=i) (by rw[List.getElem?_eraseIdx,if_pos hlt];exact hi)
  ·exact mem_of_getElem? (i:=i-1) (by rw[List.getElem?_eraseIdx,if_neg (by omega),show i-1+1=i from by omega];exact hi)
theorem zqA {P:Program}{T:Tab}{fn:Func}{r:Res}{o:Out}(h:zaV T fn (isR r) o):zhA T fn r o:=by
 cases o with
 |norm t H=>obtain⟨v,h1,h2⟩:=h;have h1:r=.val v:=h1;subst h1;exact h2
 |ret t H=>obtain⟨v,h1,h2⟩:=h;have h1:r=.val v:=h1;subst h1;exact h2
 |pan v t H=>have h:r=.pan v:=h;subst h;rfl
 |exit i t H=>exact h.elim
 |no=>exact h.elim
theorem znW {call:zad}(hC:call.Sound prog TT)(s:List UInt8)(at_:Int)(hn:NumH call at_)(hs:s.length<1100000)(hf:zuw s at_):zsB prog TT 51 [.s s,.i .i64 at_] (zmo (zcm s) at_):=by
 refine⟨f51,_,rfl,rfl,by simp[f51],?_⟩;refine zfG.mono (Q:=zaV TT f51 (isR (zmo (zcm s) at_))) ?_ (fun o h=>zqA (P:=prog) h);have h0:(Tm.init f51.ntmps [.s s,.i .i64 at_]).get 0=.s s:=by rw[zag];rfl
 have h1:(Tm.init f51.ntmps [.s s,.i .i64 at_]).get 1=.i .i64 at_:=by rw[zag];rfl
 have hw:(Tm.init f51.ntmps [.s s,.i .i64 at_]).wid=103:=rfl;generalize Tm.init f51.ntmps [.s s,.i .i64 at_]=t at *;refine zfG.seq (Tri.n ?_);refine Tri.regN (t':=?t1) (H':=?H1) zaf hC ?e1 ?q1;case e1=>
  refine zas ?_;iterate 5 refine zab rfl (by simp[h0,h1]<;>rfl) (by rfl) (by simp[hw]) ?_
  exact zak
 refine zfG.seq (Tri.n ?_);refine Tri.regN (t':=?t2) (H':=?H2) zaf hC ?e2 ?q2;case e2=>
  refine zas ?_;iterate 2 refine zab rfl (by simp[h0,h1]<;>rfl) (by rfl) (by simp[hw]) ?_
  exact zak
 refine zfG.seq ?_;refine zfG.rangeMap zaf hC 4 (zyC s at_) kvN (t1:=?t3) (H1:=?H3) (blk:=?blk) (n:=2) (kt:=9) (et:=3) rfl rfl rfl rfl ?e3 ?f3 ?x3 ?m3 ?k3 ?a3 ?u3 ?i3 rfl rfl rfl rfl rfl rfl ?r3 ?z3;case e3=>
  iterate 4 refine zab rfl (by simp[h0,h1]<;>rfl) (by rfl) (by simp[hw]) ?_
  exact zak
 case f3=>simp[hw]
 case x3=>simp
 case m3=>rfl
 case k3=>rfl
 case a3=>rfl
 case u3=>rfl
 case i3=>
  intro l;refine⟨rfl,by simp[hw],by simp,by simp,by simp,by simp,by simp,by simp,fun q hq=>hq,fun q hq=>.inl hq⟩
 case r3=>
  rintro left t H j k v ⟨rfl,hw,g2,g3,g4,g5,g6,g7,hsub,hall⟩ hj;have hq:∃p base,k=.s p∧v=.i .i64 (base:Nat)∧(base=2∨base=10∨base=16)∧p.length=2∧(za5 s p=true→zcm s=zhN s base):=by
   have:=hsub _ (mem_of_getElem? hj);simp only[kvN,mem_cons,Prod.mk.injEq,not_mem_nil,or_false]at this;rcases this with⟨rfl,rfl⟩|⟨rfl,rfl⟩
   ·exact⟨_,16,rfl,rfl,by omega,rfl,fun h=>by rw[zg9,if_pos h]⟩
   ·exact⟨_,2,rfl,rfl,by omega,rfl,fun h=>by rw[zg9,if_neg (by rw[zrC h];exact Bool.false_ne_true),if_pos h]⟩
  obtain⟨p,base,rfl,rfl,hb,hpl,hpq⟩:=hq;refine⟨?ta,?Ha,?tb,?Hb,by simp[hw],?ec,?tc,?ic,?fc,?ef,?ig,?xx⟩;case ec=>
   refine oA ?_;exact zak
  case tc=>simp
  case ic=>simp
  case fc=>simp[hw]
  case ef=>
   iterate 4 refine zab rfl (by simp<;>rfl) (by rfl) (by simp[hw]) ?_
   exact zak
  case ig=>simp
  case xx=>
   refine Tri.n (zpx hC s at_ hn hs p base hb hpl (t.get 16) _ (by simp[hw]) ?_ ?_ ?_ ?_ ?_ ?_ ?_ ?_ ?_ ?_ ?_)
   ·simp[g2]
   ·simp[g3]
   ·simp[g7]
   ·simp
   ·simp
   ·simp
   ·simp[g4]
   ·simp[g5]
   ·simp[g6]
   ·intro hpre o ho hor;rw[hpq hpre];rcases hor with⟨v,t',H',rfl⟩|⟨t',H',rfl⟩
    ·exact ho
    ·exact ho
   ·intro hpre t' hw' f2 f3 f4 f5 f6 f7 f16;refine⟨f16,rfl,hw',f2,f3,f4,f5,f6,f7,fun q hq=>hsub q (mem_of_mem_eraseIdx hq),fun q hq=>?_⟩;rcases hall q hq with h|h
    ·rcases zo4 (j:=j) h with h|h
     ·rw[hj]at h;cases h;refine .inr fun p' hp'=>?_;cases hp';exact hpre
     ·exact .inl h
    ·exact .inr h
 case z3=>
  rintro t H ⟨rfl,hw,g2,g3,g4,g5,g6,g7,hsub,hall⟩;have n1:za5 s [48,120]=false:=(hall (.s [48,120],.i .i64 16) (by simp[kvN])).resolve_left (by simp) _ rfl;have n2:za5 s [48,98]=false:=(hall (.s [48,98],.i .i64 2) (by simp[kvN])).resolve_left (by simp) _ rfl;refine⟨?tq,?Hq,by simp[hw],?ez,?tz,?qz⟩;case ez=>
   refine oA ?_;exact zak
  case tz=>simp
  case qz=>
   have e:zcm s=zkR s (zdO s):=by
    rw[zg9,if_neg (by rw[n1];exact Bool.false_ne_true),if_neg (by rw[n2];exact Bool.false_ne_true)]
   show zfG prog TT (sub [true,true,true] (zah f51)) _ _ _;rw[e];refine Tri.n (zrG hC s at_ hn hs hf _ (by simp[hw]) ?_ ?_ ?_ ?_ ?_ ?_);all_goals simp[g2,g3,g4,g5,g6,g7]
theorem ztx (o:Option (Int×List UInt8×Nat))(at_:Int):(zmo o at_).nl=true:=by
 unfold zmo;cases o<;>rfl
theorem zp4 (D:List UInt8→Prop) (hf:∀s at_,D s→s.length<1100000→zuw s at_):∃g,zao prog TT 51 g∧∀(s:List UInt8) (at_:Int),D s→s.length<1100000→∀H,g [.s s,.i .i64 at_] H=(zmo (zcm s) at_).at H:=by
  obtain⟨g1,k1,s1⟩:=zst
  obtain⟨g2,k2,s2⟩:=zv0
  obtain⟨g3,k3,s3⟩:=zvZ
  obtain⟨g4,k4,s4⟩:=zmG
  obtain⟨g5,k5,s5⟩:=znx
  obtain⟨g6,k6,s6⟩:=zdV
  obtain⟨g7,k7,s7⟩:=zvY
  have hC:=ws (ws (ws (ws (ws (ws (ws n0 k1) k2) k3) k4) k5) k6) k7
  have hN:∀at_,NumH (((((((zad.none.with 75 g1).with 77 g2).with 76 g3).with 70 g4).with 50 g5).with 55 g6).with 74 g7) at_:=fun at_=>
    { run:=fun s base hs hb K=>by rw[zac _ _ _ _ rfl,zac _ _ _ _ rfl,zac _ _ _ _ rfl,zac _ _ _ _ rfl,zac _ _ _ _ rfl,zac _ _ _ _ rfl,zap];exact s1 s base at_ hs (by omega) K
      exp:=fun s hs K=>by
        rw[zac _ _ _ _ rfl,zac _ _ _ _ rfl,zac _ _ _ _ rfl,zac _ _ _ _ rfl,zac _ _ _ _ rfl,zap,s2 s at_ hs K]
        cases zem s<;>rfl
      who:=fun s base hb hs K=>by rw[zac _ _ _ _ rfl,zac _ _ _ _ rfl,zac _ _ _ _ rfl,zac _ _ _ _ rfl,zap];exact s3 s base at_ hb hs K
      pre:=fun x y K=>by rw[zac _ _ _ _ rfl,zac _ _ _ _ rfl,zac _ _ _ _ rfl,zap];exact s4 x y K
      dig:=fun c K=>by rw[zac _ _ _ _ rfl,zac _ _ _ _ rfl,zap];exact s5 c trivial K
      must:=fun b e k K=>by rw[zac _ _ _ _ rfl,zap];exact s6 b e k K
      ends:=fun n s a x y H h1 h2 h3 h4 h5=>by rw[zap];exact s7 n s a x y H h1 h2 h3 h4 h5}
  generalize((((((zad.none.with 75 g1).with 77 g2).with 76 g3).with 70 g4).with 50 g5).with 55 g6).with 74 g7=call at hC hN
  obtain ⟨g,k,h⟩:=zny (P:=prog) (T:=TT) zaf zaw 51 (fun vs r=>∃(s:List UInt8) (at_:Int),D s∧s.length<1100000∧vs=[.s s,.i .i64 at_]∧r=zmo (zcm s) at_) (by
    rintro vs r ⟨s,at_,hd,hs,rfl,rfl⟩
    exact⟨rfl,ztx _ _,znW hC s at_ (hN at_) hs (hf s at_ hd hs)⟩)
  refine⟨g,k,fun s at_ hd hs H=>?_⟩
  obtain⟨r,⟨s',a',_,_,he,rfl⟩,h2⟩:=h [.s s,.i .i64 at_] ⟨_,s,at_,hd,hs,rfl,rfl⟩
  simp only[List.cons.injEq,V.s.injEq,V.i.injEq,true_and,and_true]at he
  obtain⟨rfl,rfl⟩:=he
  exact h2 H
theorem ziL (s:List UInt8):∀(n i d e:Nat),i≤s.length→zdM s n i d=some e→i<e∧e≤s.length
 |0,_,_,_,_,h=>by simp[zdM]at h
 |n+1,i,d,e,hi,h=>by
  simp only[zdM]at h;by_cases h1:za5 (s.drop i) [47,42]=true
  ·rw[if_pos h1]at h;have hl:=zb5 h1;rw[length_drop]at hl;simp only[length_cons,length_nil]at hl;have:=ziL s n (i+2) (d+1) e (by omega) h;omega
  ·rw[if_neg h1]at h;by_cases h2:za5 (s.drop i) [42,47]=true
   ·rw[if_pos h2]at h;have hl:=zb5 h2;rw[length_drop]at hl;simp only[length_cons,length_nil]at hl;by_cases h3:d=1
    ·rw[if_pos h3]at h;have h:=Option.some.inj h;omega
    ·rw[if_neg h3]at h;have:=ziL s n (i+2) (d-1) e (by omega) h;omega
   ·rw[if_neg h2]at h;by_cases h3:i<s.length
    ·rw[if_pos h3]at h;have:=ziL s n (i+1) d e (by omega) h;omega
    ·rw[if_neg h3]at h;cases h
theorem zog {s:List UInt8}{i e:Nat}{l:Bool}{p:Nat×Bool}(h:zfY s i l (some e)=some p):p.1=e:=by
 simp only[zfY]at h;by_cases h1:Lib.validD ((s.take e).drop i)=true
 ·rw[if_pos h1]at h;have h:=Option.some.inj h;rw[←h]
 ·rw[if_neg h1]at h;cases h
theorem zhL (c x:UInt8)(r:List UInt8)(h:x≠c):¬Lib.indexByte (x::r) c=0:=by
 intro e;have h1:=Lib.index_spec (x::r) [c];rw[Lib.index_one]at h1;rcases h1 with⟨h1,_⟩|⟨k,h1,_,h2,_⟩
 ·omega
 ·have:k=0:=by omega
  subst this;simp[Lib.occAt]at h2;exact h h2.symm
theorem zfi {s:List UInt8}{i:Nat}{l:Bool}{p:Nat×Bool}(hi:i≤s.length)(h:zel s i l=some (some p)):i<p.1∧p.1≤s.length:=by
 unfold zel at h;by_cases h1:za5 (s.drop i) [47,47]=true
 ·rw[if_pos h1]at h;have h:=zog (Option.some.inj h);have hl:=zb5 h1;rw[length_drop]at hl;simp only[length_cons,length_nil]at hl;by_cases h2:Lib.indexByte (s.drop i) 10<0
  ·rw[if_pos h2]at h;omega
  ·rw [if_neg h2]at h;have hx:=Lib.index_room (s.drop i) [10] (by rw[Lib.index_one];omega);rw[Lib.index_one,length_drop,length_singleton]at hx;have hn:¬Lib.indexByte (s.drop i) 10=0:=by
    rcases hd:s.drop i with _|⟨x,r⟩
    ·rw[hd]at h1;simp[za5]at h1
    ·rw[hd]at h1;simp[za5]at h1;exact zhL 10 x r (by rw[h1.2.1];decide)
   omega
 ·rw[if_neg h1]at h;by_cases h2:za5 (s.drop i) [47,42]=true
  ·rw[if_pos h2]at h;rcases hc:zdM s (s.length+1) i 0 with _|e
   ·rw[hc]at h;simp[zfY]at h
   ·rw[hc]at h;have h:=zog (Option.some.inj h);have:=ziL s _ i 0 e hi hc;omega
  ·rw[if_neg h2]at h;cases h
def skF (s:List UInt8):Nat→Nat→Bool→Nat ⊕ (Nat×Bool)
 |0,i,l=>.inr (i,l)
 |n+1,i,l=>if i<s.length then(if atS s i=32∨atS s i=9∨atS s i=13∨atS s i=10 then skF s n (i+1) (l||decide (atS s i=10))
  else match zel s i l with
   |none=>.inr (i,l)
   |some none=>.inl i
   |some (some p)=>skF s n p.1 p.2)else .inr (i,l)
def skR (H:zaa)(n:Nat)(s:List UInt8)(m:Nat)(o:Nat ⊕ (Nat×Bool))(r:OR):Prop:=match o with
 | .inr p=>r=.val .un (H.set n (some (scB s p.1 p.2 m)))
 | .inl a=>∃b,r=.pan (zct 32 a) (H.set n b)
theorem zrd {call:zad} (hC:call.Sound prog TT) (hcom:∀(p:Nat×List UInt8×Nat×Bool×Nat) (H:zaa),(ScB H p.1 p.2.1 p.2.2.1 p.2.2.2.1 p.2.2.2.2∧p.2.2.1≤p.2.1.length∧p.2.1.length<1100000)→zqR H p (call 47 [.ptr p.1 0] H))
    (s:List UInt8)(m:Nat)(q:Nat)(H0:zaa)(hs:s.length<1100000)(hq:q<H0.length) :
    ∀(n i:Nat)(l:Bool)(t:Tm),s.length<n+i→i≤s.length→t.wid=f30.ntmps→t.get 0=.ptr q 0 →
    ctx prog TT [false,false] (zah f30) (zaV TT f30 (skR H0 q s m (skF s n i l))) (.norm t (H0.set q (some (scB s i l m)))):=by
  intro n
  induction n with
  |zero=>intro i l t h1 h2;omega
  | succ n ih=>
    intro i l t hn hi hw t0
    refine zbe.symIn (p:=[false]) zaf hC rfl zuo (by kernel_rfl) [.un q,.uh H0,.us s,.ui (i:Nat),.ub l,.un m] rfl hw ⟨t0,trivial⟩ rfl ⟨by simp;exact hq,by simp⟩ ?_
    clear t0 hw
    simp -implicitDefEqProofs only[VC,isR,exU,Ask.den,forall_eq,E.den,O1.den,O2.den,O3.den,U.int_ui,U.boo_ub,U.val_uv,U.lst_ul,U.str_us,U.nat_un,U.heap_uh,SH.den,zaB,zbX,bD,SB.den,zaq,LQ,cons_append,nil_append,List.getElem?_cons_zero,List.getElem?_cons_succ,Option.getD_some,zam,zai,zan,zaj,beq_iff_eq,bne_iff_ne,beq_eq_false_iff_ne,Int.toNat_natCast,zbC,Bool.false_eq_true,if_false,if_true]
    have w1:IntKind.i64.wrap ((i:Int)+1)=((i+1:Nat):Int):=by rw[w64 (by omega) (by omega)];omega
    simp only[w1,Int.toNat_natCast]
    have sp:(atS s i=32∨atS s i=9∨atS s i=13∨atS s i=10)→i<s.length→∀b:Bool,b=(l||decide (atS s i=10))→∀t':Tm,t'.wid=f30.ntmps→t'.get 0=.ptr q 0 →
        ctx prog TT [false,false] (zah f30) (zaV TT f30 (skR H0 q s m (skF s (n+1) i l))) (.norm t' (H0.set q (some ⟨55,[.s s,.i .i64 ((i+1:Nat):Int),.b b,.mp m],.all⟩))):=by
      intro h hlt b hb t' hw' f0
      have e:skF s (n+1) i l=skF s n (i+1) (l||decide (atS s i=10)):=by simp only[skF,if_pos hlt,if_pos h]
      rw[e,hb]
      exact ih (i+1) _ t' (by omega) (by omega) hw' f0
    have eb:(atS s i==10)=decide (atS s i=10):=rfl
    refine ⟨fun h=>⟨by omega,fun h1=>⟨fun hl=>sp (.inl h1) (by omega) _ (by rw[hl];rfl),fun hl=>sp (.inl h1) (by omega) _ (by rw[hl,eb];rfl)⟩,fun h1=>⟨fun h2=>⟨fun hl=>sp (.inr (.inl h2)) (by omega) _ (by rw[hl];rfl),fun hl=>sp (.inr (.inl h2)) (by omega) _ (by rw[hl,eb];rfl)⟩,
      fun h2=>⟨fun h3=>⟨fun hl=>sp (.inr (.inr (.inl h3))) (by omega) _ (by rw[hl];rfl),fun hl=>sp (.inr (.inr (.inl h3))) (by omega) _ (by rw[hl,eb];rfl)⟩,fun h3=>⟨fun h4=>⟨fun hl=>sp (.inr (.inr (.inr h4))) (by omega) _ (by rw[hl];rfl),fun hl=>sp (.inr (.inr (.inr h4))) (by omega) _ (by rw[hl,eb];rfl)⟩,fun h4=>?_⟩⟩⟩⟩,fun h=>?_⟩
    · have hlt:i<s.length:=by omega
      have hns:¬(atS s i=32∨atS s i=9∨atS s i=13∨atS s i=10):=by
        rintro(e|e|e|e)
        · exact h1 e
        · exact h2 e
        · exact h3 e
        · exact h4 e
      have hk:=hcom (q,s,i,l,m) (H0.set q (some (scB s i l m))) ⟨by unfold ScB;rw[List.getElem?_set_self hq],hi,hs⟩
      unfold zqR at hk
      simp only at hk
      rcases hc:zel s i l with _|_|p
      · rw[hc]at hk
        simp only at hk
        have e:skF s (n+1) i l=.inr (i,l):=by simp only[skF,if_pos hlt,if_neg hns,hc]
        refine .inl ⟨false,(i:Nat),l,_,hk,⟨by rw[List.getElem?_set_self hq],trivial⟩,fun h=>(by cases h),fun _=>?_⟩
        rw[e,set_set]
        rfl
      · rw[hc]at hk
        simp only[zqu]at hk
        obtain⟨b,hk⟩:=hk
        have e:skF s (n+1) i l=.inl i:=by simp only[skF,if_pos hlt,if_neg hns,hc]
        refine .inr ⟨_,_,hk,?_⟩
        rw[e,set_set]
        exact⟨b,rfl⟩
      · rw[hc]at hk
        simp only[zqu]at hk
        obtain⟨q1,q2⟩:=zfi hi hc
        have e:skF s (n+1) i l=skF s n p.1 p.2:=by simp only[skF,if_pos hlt,if_neg hns,hc]
        refine .inl ⟨true,(p.1:Nat),p.2,_,hk,⟨by rw[List.getElem?_set_self (by rw[length_set];exact hq)],trivial⟩,fun _ t' hw' f0=>?_,fun h=>(by cases h)⟩
        rw[e,set_set,set_set]
        exact ih p.1 p.2 t' (by omega) q2 hw' f0
    · have hlt:¬i<s.length:=by omega
      have e:skF s (n+1) i l=.inr (i,l):=by simp only[skF,if_neg hlt]
      rw[e]
      rfl
def skQ (s:List UInt8)(i:Nat)(l:Bool):Nat ⊕ (Nat×Bool):=skF s (s.length+1) i l
theorem zvS:∃g,zao prog TT 30 g∧∀(p:Nat×List UInt8×Nat×Bool×Nat)(H:zaa),(ScB H p.1 p.2.1 p.2.2.1 p.2.2.2.1 p.2.2.2.2∧p.2.2.1≤p.2.1.length∧p.2.1.length<1100000)→skR H p.1 p.2.1 p.2.2.2.2 (skQ p.2.1 p.2.2.1 p.2.2.2.1) (g [.ptr p.1 0] H):=by
 obtain⟨g1,k1,s1⟩:=zvU;have hC:=ws n0 k1;have c1:∀(p:Nat×List UInt8×Nat×Bool×Nat)(H:zaa),(ScB H p.1 p.2.1 p.2.2.1 p.2.2.2.1 p.2.2.2.2∧p.2.2.1≤p.2.1.length∧p.2.1.length<1100000)→zqR H p ((zad.none.with 47 g1) 47 [.ptr p.1 0] H):=fun p H h=>by
  rw[zap];exact s1 p H h
 generalize zad.none.with 47 g1=call at hC c1;refine zc1 zaf 30 (fun p:Nat×List UInt8×Nat×Bool×Nat=>[.ptr p.1 0]) (fun p H=>ScB H p.1 p.2.1 p.2.2.1 p.2.2.2.1 p.2.2.2.2∧p.2.2.1≤p.2.1.length∧p.2.1.length<1100000) (fun p H r=>skR H p.1 p.2.1 p.2.2.2.2 (skQ p.2.1 p.2.2.1 p.2.2.2.1) r) ?_ ?_
 ·rintro⟨n,s,i,l,m⟩ ⟨n',s',i',l',m'⟩ H r ⟨h1,_⟩ ⟨h2,_⟩ he hr;simp only[List.cons.injEq,V.ptr.injEq,and_true]at he;subst he;obtain⟨rfl,rfl,rfl,rfl⟩:=h1.inj h2;exact hr
 ·rintro⟨q,s,i,l,m⟩ H ⟨hb,hi,hs⟩;simp only at hb hi hs ⊢;have hq:q<H.length:=zaa.lt hb;refine zaH.sym zaf hC (fn:=f30) rfl rfl (by simp[f30]) zwF (by kernel_rfl) [.un q,.uh H,.us s,.ui (i:Nat),.ub l,.un m] rfl ⟨by rw[zag];rfl,trivial⟩ (zaa.set_self hb) ⟨by simp;exact hq,by simp⟩ ?_;simp -implicitDefEqProofs only[VC,isR,exU,Ask.den,forall_eq,E.den,O1.den,O2.den,O3.den,U.int_ui,U.boo_ub,U.val_uv,U.lst_ul,U.str_us,U.nat_un,U.heap_uh,SH.den,zaB,zbX,bD,SB.den,zaq,LQ,cons_append,nil_append,List.getElem?_cons_zero,List.getElem?_cons_succ,Option.getD_some,zam,zai,zan,zaj,beq_iff_eq,bne_iff_ne,beq_eq_false_iff_ne,Int.toNat_natCast,zbC,Bool.false_eq_true,if_false,if_true];intro t' hw' f0;exact Tri.symLoop rfl (zrd hC c1 s m q H hs hq (s.length+1) i l t' (by omega) hi hw' f0)
theorem zup:zaS TT shp f31.ntmps [1] (zah f31) [] ⟨[(0,.f1 (.ptr 0) (.va 0))],⟨.va 1,[(.va 0,some ⟨55,.f2 .cons (.f1 .vs (.va 2)) (.f2 .cons (.f1 (.vi .i64) (.va 3)) (.f2 .cons (.f1 .vb (.va 4)) (.f2 .cons (.f1 .mp (.va 5)) .nil))),.all⟩)],[]⟩,6,[]⟩ (KF TT f31 [0,2])=.leaf (.stop [true,false]) [(0,xp v0),(2,xp (xN (xh v1) (.cn 0)))] ⟨v1,[(v0,xk 55 (x4 (xs v2) (xi v3) (xb v4) (xm v5)))],[xk 34 (x4 (xi c0) (xs (.cs [])) (xi c0) (xb (.cb false)))]⟩:=by kernel_rfl
theorem zuq:goT TT shp f31.ntmps [] [true,true] (zah f31) [] ⟨[(0,.f1 (.ptr 0) (.va 0)),(2,.f1 (.ptr 0) (.va 6)),(3,.f1 (.ptr 0) (.va 7))],⟨.va 1,[(.va 0,some ⟨55,.f2 .cons (.f1 .vs (.va 2)) (.f2 .cons (.f1 (.vi .i64) (.va 3)) (.f2 .cons (.f1 .vb (.va 4)) (.f2 .cons (.f1 .mp (.va 5)) .nil))),.all⟩),(.va 6,some ⟨34,.f2 .cons (.f1 (.vi .i64) (.ci 0)) (.f2 .cons (.f1 .vs (.cs [])) (.f2 .cons (.f1 (.vi .i64) (.ci 0)) (.f2 .cons (.f1 .vb (.cb false)) .nil))),.all⟩),(.va 7,some ⟨34,.f2 .cons (.f1 (.vi .i64) (.ci 0)) (.f2 .cons (.f1 .vs (.cs [])) (.f2 .cons (.f1 (.vi .i64) (.va 3)) (.f2 .cons (.f1 .vb (.va 4)) .nil))),.all⟩)],[]⟩,8,[]⟩ (KF TT f31 [])=let qt:E:=xs v2;let qe:E:=xi v3;let qd:E:=xb v4;let qs:E:=xm v5;let qb:=xk 55 (x4 qt qe qd qs);let qo:E:=xs (.cs []);let qa:=xk 34 (x4 (xi c0) qo (xi c0) (xb (.cb false)));let qg:SH:=⟨v1,[(v0,qb),(v6,qa),(v7,xk 34 (x4 (xi c0) qo qe qd))],[]⟩;let qc:E:=xs (.f3 .sub v8 c0 v9);let qu:E:=x4 (xi c1) qc qe qd;let qi:=xk 34 qu;let qn:E:=x4 (xi c2) qc qe qd;let qk:=xk 55 (x4 qt (xi (xw (xa v3 v9))) qd qs);let qq:Tree:=.stuck 0;let qx:E:=xA v8 c0;let qr:E:=x2 (xs v8) qe;let ql:E:=x4 (xi v11) (xs v12) qe qd;let qp:E:=xs v11;let qv:E:=xt (x2 qp (xi v12));let qm:E:=x4 (xi c3) qp qe qd;let qj:=xk 55 (x4 qt (xi (xw (xa v3 v12))) qd qs);let qh:E:=x4 (xi (xc 5)) qp qe qd;let qf:E:=x4 (xi (xc 6)) qp qe qd;let qw:=xk 34 qf;.ask (.call 48 (x1 (xp v0))) qg [.s] (xs v8) false (.asks (.call 49 (x1 (xs v8))) [.i] (xi v9) (.need (xL c0 (xl v8)) (.ite (xG v9 c0) (.need (xE c0 v9) (.need (xE v9 (xl v8)) (.ask (.lookup 52 qs qc false) ⟨v1,[(v0,qb),(v6,qa),(v7,qi)],[]⟩ [.b] (xb v10) false (.ite v10 (.fin (xg qn) ⟨v1,[(v0,qk),(v6,xk 34 qn),(v7,xk 34 qn)],[]⟩) (.fin (xg qu) ⟨v1,[(v0,qk),(v6,qi),(v7,qi)],[]⟩)) qq))) (.asks (.call 50 (x1 (xu qx))) [.b] (xb v10) (.ite v10 (.asks (.call 51 qr) [.i,.s,.i] (xt (x3 (xi v11) (xs v12) (xi v13))) (.fin (xg ql) ⟨v1,[(v0,xk 55 (x4 qt (xi (xw (xa v3 v13))) qd qs)),(v6,xk 34 ql),(v7,xk 34 ql)],[]⟩) (.pnc v11 qg)) (.ite (xe qx (xc 39)) (.asks (.call 52 qr) [.s,.i] qv (.fin (xg qm) ⟨v1,[(v0,qj),(v6,xk 34 qm),(v7,xk 34 qm)],[]⟩) (.pnc v11 ⟨v1,[(v0,qb),(v6,qa),(v7,xk 34 (x4 (xi c3) qo qe qd))],[]⟩)) (.ite (xe qx (xc 34)) (.asks (.call 53 qr) [.s,.i] qv (.fin (xg qh) ⟨v1,[(v0,qj),(v6,xk 34 qh),(v7,xk 34 qh)],[]⟩) (.pnc v11 ⟨v1,[(v0,qb),(v6,qa),(v7,xk 34 (x4 (xi (xc 5)) qo qe qd))],[]⟩)) (.asks (.call 54 (x1 (xs v8))) [.s] qp (.asks (.call 55 (x3 (xb (xG (xl v11) c0)) (xi (xc 30)) qe)) [] (.cv (.tup [])) (.fin (xg qf) ⟨v1,[(v0,xk 55 (x4 qt (xi (xw (xa v3 (xl v11)))) qd qs)),(v6,qw),(v7,qw)],[]⟩) (.pnc v12 ⟨v1,[(v0,qb),(v6,qa),(v7,qw)],[]⟩)) qq)))) qq))) qq) qq:=by kernel_rfl
theorem ztG {call:zad}(hC:call.Sound prog TT)(t:Tm)(H:zaa)(q:Nat)(z:V)(s:List UInt8)(i:Nat)(l:Bool)(m:Nat)(hw:t.wid=104)(t0:t.get 0=.ptr q 0)(t2:t.get 2=z)(hb:H[q]? = some (some (scB s i l m))){Q:Out→Prop}
 (h:∀t',t'.wid=t.wid→t'.get 0=.ptr q 0→t'.get 2=z→t'.get 3=.ptr H.length 0→Q (.norm t' (H++[some ⟨34,[.i .i64 0,.s [],.i .i64 i,.b l],.all⟩]))):Tri prog TT (sub [true,false] (zah f31)) t H Q:=by
 have hq:q<H.length:=zaa.lt hb;have hF:=ai @t0 (ai @t2 @hb);show Tri prog TT (.region _ _ true) t H Q;refine Tri.regN (t':=?t1) (H':=?H1) zaf hC ?e1 ?q1;case e1=>
  refine zbG (t':=?t1) (H':=?H1) (ks:=[.q,.q,.q,.a,.q,.q,.q,.a,.q,.e,.e]) (fun K=>K[q]? = some (some (scB s i l m))) (by kernel_rfl) ?A1 ?_ ?r1;case A1=>exact hb
  iterate 3 refine DR.blind rfl rfl (by simp[hF]<;>rfl) (by rfl) (by simp[hw]) ?_
  refine DR.any rfl (by simp[hF]<;>rfl) (by rfl) (by simp[hw]) (by intro K hK;simp[hF,hK]<;>rfl) ?_;iterate 3 refine DR.blind rfl rfl (by simp[hF]<;>rfl) (by rfl) (by simp[hw]) ?_
  refine DR.any rfl (by simp[hF]<;>rfl) (by rfl) (by simp[hw]) (by intro K hK;simp[hF,hK]<;>rfl) ?_;refine DR.blind rfl rfl (by simp[hF]<;>rfl) (by rfl) (by simp[hw]) ?_;iterate 2 refine DR.eff rfl rfl (by simp[hF]<;>rfl) (by rfl) (by simp[hw]) ((List.getElem?_append_left hq).trans hb) ?_
  exact DR.nil;case r1=>exact rfl
 refine h _ ?_ ?_ ?_ ?_;all_goals simp[hF,hw]
def zcM (kwf:List UInt8→Bool)(nq:List UInt8→Option (Int×List UInt8×Nat))(x:List UInt8):Nat ⊕ (Int×List UInt8×Nat):=
 if 0<idR x 0 then .inr (if kwf (x.take (idR x 0))=true then 2 else 1,x.take (idR x 0),idR x 0)
 else if(decide (48≤atS x 0)&&decide (atS x 0≤57))=true then(match nq x with|some r=>.inr r|none=>.inl 33)
 else if atS x 0=39 then(match ziK x with|some p=>.inr (3,p.1,p.2)|none=>.inl 31)
 else if atS x 0=34 then(match zhw x with|some p=>.inr (5,p.1,p.2)|none=>.inl 31)
 else if 0<(sgF x sgnL []).length then .inr (6,sgF x sgnL [],(sgF x sgnL []).length)else .inl 30
def zwR (H H':zaa)(q:Nat):Prop:=H.length≤H'.length∧∀j,j<H.length→j≠q→H'[j]? = H[j]?
def zuJ (H:zaa)(q:Nat)(s:List UInt8)(i:Nat)(l:Bool)(m:Nat)(o:Nat ⊕ (Int×List UInt8×Nat))(r:OR):Prop:=match o with
 | .inr p=>∃H',r=.val (.agg [.i .i64 p.1,.s p.2.1,.i .i64 i,.b l]) H'∧ScB H' q s (i+p.2.2) l m∧zwR H H' q
 | .inl e=>∃H',r=.pan (zct e i) H'∧zwR H H' q
set_option maxHeartbeats 1000000 in
theorem zqN {call:zad}(hC:call.Sound prog TT)(hm:zdJ call)(hrest:∀(n:Nat)(s:List UInt8)(i:Nat)(l:Bool)(m:Nat)(H:zaa),ScB H n s i l m→i≤s.length→call 48 [.ptr n 0] H=.val (.s (s.drop i)) H)
 (q:Nat)(s:List UInt8)(hword:∀x:List UInt8,x.length≤s.length→∀H,call 49 [.s x] H=.val (.i .i64 (idR x 0:Nat)) H)(i:Nat)(l:Bool)(m:Nat)(H:zaa)(hb:ScB H q s i l m)(hi:i<s.length)(hs:s.length<1100000)(kwf:List UInt8→Bool)(nq:List UInt8→Option (Int×List UInt8×Nat))(hm0:m<H.length)(hmq:m≠q)(hlk:∀(y:List UInt8)(K:zaa),K[m]? = H[m]?→zbm TT 52 (.mp m) (.s y) false K=some (.b (kwf y)))
 (hdig:∀c:Int,∀H,call 50 [.i .u8 c] H=.val (.b (decide (48≤c)&&decide (c≤57))) H)(hsg:∀x:List UInt8,∀H,call 54 [.s x] H=.val (.s (sgF x sgnL [])) H)
 (hchr:∀(x:List UInt8)(a:Int),(0<x.length∧x.length<1100000)→∀H,call 52 [.s x,.i .i64 a] H=(zaE (ziK x) a).at H)(htxt:∀(x:List UInt8)(a:Int),(0<x.length∧x.length<1100000)→∀H,call 53 [.s x,.i .i64 a] H=(zaE (zhw x) a).at H)
 (hnum:(decide (48≤atS (s.drop i) 0)&&decide (atS (s.drop i) 0≤57))=true→∀(a:Int)(H:zaa),call 51 [.s (s.drop i),.i .i64 a] H=(match nq (s.drop i)with|some r=>.val (.tup [.i .i64 r.1,.s r.2.1,.i .i64 (r.2.2:Nat)]) H|none=>.pan (zct 33 a) H))(hnl:∀r,nq (s.drop i)=some r→r.2.2≤s.length)(hcl:∀p,ziK (s.drop i)=some p→p.2≤s.length)(htl:∀p,zhw (s.drop i)=some p→p.2≤s.length)(hsl:(sgF (s.drop i) sgnL []).length≤6) :
 zaH prog TT 31 [.ptr q 0] H (zuJ H q s i l m (zcM kwf nq (s.drop i))):=by
 have hq:q<H.length:=zaa.lt hb;refine zaH.sym zaf hC (fn:=f31) rfl rfl (by simp[f31]) zup (by kernel_rfl) [.un q,.uh H,.us s,.ui (i:Nat),.ub l,.un m] rfl ⟨by rw[zag];rfl,trivial⟩ (zaa.set_self hb) ⟨by simp;exact hq,by simp⟩ ?_;simp -implicitDefEqProofs only[VC,isR,exU,Ask.den,forall_eq,E.den,O1.den,O2.den,O3.den,U.int_ui,U.boo_ub,U.val_uv,U.lst_ul,U.str_us,U.nat_un,U.heap_uh,SH.den,zaB,zbX,bD,SB.den,zaq,LQ,cons_append,nil_append,List.getElem?_cons_zero,List.getElem?_cons_succ,Option.getD_some,zam,zai,zan,zaj,beq_iff_eq,bne_iff_ne,beq_eq_false_iff_ne,Int.toNat_natCast,zbC,Bool.false_eq_true,if_false,if_true];intro t hw t0 t2;refine ztG hC t _ q _ s i l m hw t0 t2 (by rw[List.getElem?_append_left (by rw[length_set];exact hq),List.getElem?_set_self hq]) fun t' hw' f0 f2 f3=>?_;show Tri prog TT (sub [true,true] (zah f31)) t' _ (ctx prog TT [true,true] (zah f31) _);have hb':ScB (H.set q (some (scB s i l m))++[some ⟨34,[.i .i64 0,.s [],.i .i64 0,.b false],.all⟩]++[some ⟨34,[.i .i64 0,.s [],.i .i64 i,.b l],.all⟩]) q s i l m:=by
  unfold ScB;rw[append_assoc,List.getElem?_append_left (by rw[length_set];exact hq),List.getElem?_set_self hq]
 generalize hG:H.set q (some (scB s i l m))++[some ⟨34,[.i .i64 0,.s [],.i .i64 0,.b false],.all⟩]++[some ⟨34,[.i .i64 0,.s [],.i .i64 i,.b l],.all⟩]=G at hb';have g1:G[H.length]? = some (some ⟨34,[.i .i64 0,.s [],.i .i64 0,.b false],.all⟩):=by rw[←hG];simp
 have g2:G[H.length+1]? = some (some ⟨34,[.i .i64 0,.s [],.i .i64 i,.b l],.all⟩):=by rw[←hG];simp
 have hl:G.length=H.length+2:=by rw[←hG];simp
 have fin:∀(A B:Option Blk)(k:Nat),ScB (((G.set (H.length+1) A).set H.length B).set q (some (scB s k l m))) q s k l m:=fun A B k=>by
  unfold ScB;rw[List.getElem?_set_self (by simp[hl];omega)]
 have kept:∀(A B C:Option Blk),zwR H (((G.set (H.length+1) A).set H.length B).set q C) q:=fun A B C=>⟨by simp[hl],fun j h1 h2=>by
  rw[List.getElem?_set_ne (fun e=>h2 e.symm),List.getElem?_set_ne (by omega),List.getElem?_set_ne (by omega),←hG,append_assoc,List.getElem?_append_left (by rw[length_set];exact h1),List.getElem?_set_ne (fun e=>h2 e.symm)]⟩
 have e0:((G.set (H.length+1) (some ⟨34,[.i .i64 0,.s [],.i .i64 (i:Nat),.b l],.all⟩)).set H.length (some ⟨34,[.i .i64 0,.s [],.i .i64 0,.b false],.all⟩)).set q (some (scB s i l m))=G:=by
  rw[←zaa.set_self g2,←zaa.set_self g1,←zaa.set_self hb']
 refine Tri.symIn zaf hC zuq (by kernel_rfl) [.un q,.uh G,.us s,.ui (i:Nat),.ub l,.un m,.un H.length,.un (H.length+1)] rfl (hw'.trans hw) ⟨f0,?_,?_,trivial⟩ ?_ ?_ ?_
 ·rw[f2];simp
 ·rw[f3];simp
 ·show G=((G.set (H.length+1) _).set H.length _).set q _;exact e0.symm
 ·have hl:G.length=H.length+2:=by rw[←hG];simp
  exact⟨by simp[hl];omega,by simp;omega⟩
 ·simp -implicitDefEqProofs only[VC,isR,exU,Ask.den,forall_eq,E.den,O1.den,O2.den,O3.den,U.int_ui,U.boo_ub,U.val_uv,U.lst_ul,U.str_us,U.nat_un,U.heap_uh,SH.den,zaB,zbX,bD,SB.den,zaq,LQ,cons_append,nil_append,List.getElem?_cons_zero,List.getElem?_cons_succ,Option.getD_some,zam,zai,zan,zaj,beq_iff_eq,bne_iff_ne,beq_eq_false_iff_ne,Int.toNat_natCast,zbC,Bool.false_eq_true,if_false,if_true,e0];refine .inl ⟨_,hrest q s i l m G hb' (by omega),.inl ⟨_,fun K=>hword _ (by rw[length_drop];omega) K,by rw[length_drop];omega,fun h1=>?_,fun h1=>?_⟩⟩
  ·have hil:idR (s.drop i) 0≤(s.drop i).length:=(zsg (Nat.zero_le _)).2;have hkm:∀A:Option Blk,(((G.set (H.length+1) A).set H.length (some ⟨34,[.i .i64 0,.s [],.i .i64 0,.b false],.all⟩)).set q (some (scB s i l m)))[m]? = H[m]?:=fun A=>(kept A _ _).2 m hm0 hmq;have ec:(((idR (s.drop i) 0:Nat):Int)).toNat=idR (s.drop i) 0:=Int.toNat_natCast _;have w1:IntKind.i64.wrap ((i:Int)+(idR (s.drop i) 0:Nat))=((i+idR (s.drop i) 0:Nat):Int):=by rw[length_drop]at hil;rw[w64 (by omega) (by omega)];omega
   have e1:zcM kwf nq (s.drop i)=.inr (if kwf ((s.drop i).take (idR (s.drop i) 0))=true then 2 else 1,(s.drop i).take (idR (s.drop i) 0),idR (s.drop i) 0):=by unfold zcM;rw[if_pos (by omega)]
   simp only[ec,w1,e1];refine⟨by omega,by omega,.inl ⟨kwf ((s.drop i).take (idR (s.drop i) 0)),?_,fun h2=>?_,fun h2=>?_⟩⟩
   ·rw[hlk _ _ (hkm _)];rfl
   ·rw[h2];exact⟨_,rfl,fin _ _ _,kept _ _ _⟩
   ·rw[h2];exact⟨_,rfl,fin _ _ _,kept _ _ _⟩
  ·have n1:¬0<idR (s.drop i) 0:=by omega
   have hxl:0<(s.drop i).length∧(s.drop i).length<1100000:=by rw[length_drop];omega
   have hKG:zwR H G q:=⟨by rw[hl];omega,fun j h1 h2=>by
    rw[←hG,append_assoc,List.getElem?_append_left (by rw[length_set];exact h1),List.getElem?_set_ne (fun e=>h2 e.symm)]⟩
   have wk:∀k:Nat,k≤s.length+6→IntKind.i64.wrap ((i:Int)+(k:Nat))=((i+k:Nat):Int):=fun k hk=>by rw[w64 (by omega) (by omega)];omega
   refine .inl ⟨_,fun K=>hdig _ K,fun h2=>?_,fun h2=>⟨fun h3=>?_,fun h3=>⟨fun h4=>?_,fun h4=>.inl ⟨_,fun K=>hsg _ K,?_⟩⟩⟩⟩
   ·rcases hn:nq (s.drop i)with _|r
    ·have e1:zcM kwf nq (s.drop i)=.inl 33:=by unfold zcM;rw[if_neg n1,if_pos h2,hn]
     rw[e1];exact .inr ⟨zct 33 i,fun K=>by rw[hnum h2 _ K,hn],_,rfl,hKG⟩
    ·have e1:zcM kwf nq (s.drop i)=.inr r:=by unfold zcM;rw[if_neg n1,if_pos h2,hn]
     rw[e1];refine .inl ⟨r.1,r.2.1,(r.2.2:Nat),fun K=>by rw[hnum h2 _ K,hn],?_⟩;rw[wk _ (by have:=hnl r hn;omega)];exact⟨_,rfl,fin _ _ _,kept _ _ _⟩
   ·have n2:¬(decide (48≤atS (s.drop i) 0)&&decide (atS (s.drop i) 0≤57))=true:=by rw[h2];exact Bool.false_ne_true
    rcases hn:ziK (s.drop i)with _|p
    ·have e1:zcM kwf nq (s.drop i)=.inl 31:=by unfold zcM;rw[if_neg n1,if_neg n2,if_pos h3,hn]
     rw[e1];exact .inr ⟨_,fun K=>by rw[hchr _ _ hxl K,hn];rfl,_,rfl,kept _ _ _⟩
    ·have e1:zcM kwf nq (s.drop i)=.inr (3,p.1,p.2):=by unfold zcM;rw[if_neg n1,if_neg n2,if_pos h3,hn]
     rw[e1];refine .inl ⟨p.1,(p.2:Nat),fun K=>by rw[hchr _ _ hxl K,hn];rfl,?_⟩;rw[wk _ (by have:=hcl p hn;omega)];exact⟨_,rfl,fin _ _ _,kept _ _ _⟩
   ·have n2:¬(decide (48≤atS (s.drop i) 0)&&decide (atS (s.drop i) 0≤57))=true:=by rw[h2];exact Bool.false_ne_true
    rcases hn:zhw (s.drop i)with _|p
    ·have e1:zcM kwf nq (s.drop i)=.inl 31:=by unfold zcM;rw[if_neg n1,if_neg n2,if_neg h3,if_pos h4,hn]
     rw[e1];exact .inr ⟨_,fun K=>by rw[htxt _ _ hxl K,hn];rfl,_,rfl,kept _ _ _⟩
    ·have e1:zcM kwf nq (s.drop i)=.inr (5,p.1,p.2):=by unfold zcM;rw[if_neg n1,if_neg n2,if_neg h3,if_pos h4,hn]
     rw[e1];refine .inl ⟨p.1,(p.2:Nat),fun K=>by rw[htxt _ _ hxl K,hn];rfl,?_⟩;rw[wk _ (by have:=htl p hn;omega)];exact⟨_,rfl,fin _ _ _,kept _ _ _⟩
   ·have n2:¬(decide (48≤atS (s.drop i) 0)&&decide (atS (s.drop i) 0≤57))=true:=by rw[h2];exact Bool.false_ne_true
    have e0:zcM kwf nq (s.drop i)=if 0<(sgF (s.drop i) sgnL []).length then .inr (6,sgF (s.drop i) sgnL [],(sgF (s.drop i) sgnL []).length)else .inl 30:=by
     unfold zcM;rw[if_neg n1,if_neg n2,if_neg h3,if_neg h4]
    generalize sgF (s.drop i) sgnL []=g at e0 hsl ⊢;rw[e0];refine zaN hm _ _ _ (fun h5=>?_) (fun h5=>?_)
    ·have h6:0<g.length:=by simpa using h5
     rw[if_pos h6,wk _ (by omega)];exact⟨_,rfl,fin _ _ _,kept _ _ _⟩
    ·have h6:¬0<g.length:=by intro e;simp[e]at h5
     rw[if_neg h6];exact⟨_,rfl,kept _ _ _⟩
theorem zod {x:List UInt8}{p:List UInt8×Nat}(h:ziK x=some p):0<p.2∧p.2≤x.length:=by
 unfold ziK at h;rcases hq:zcu x 39 with _|q
 ·rw[hq]at h;cases h
 ·rw[hq]at h;simp only at h;obtain⟨_,h2,h3⟩:=ze3 hq;by_cases h1:Lib.runeCount ⟨q.1.toArray⟩=1
  ·rw[if_pos h1]at h;have h:=Option.some.inj h;rw[←h];exact⟨by simp only;omega,h3⟩
  ·rw[if_neg h1]at h;cases h
theorem zqm {x:List UInt8}{p:List UInt8×Nat}(h:zhw x=some p):0<p.2∧p.2≤x.length:=by
 unfold zhw at h;by_cases h0:za5 x [34,34,34]=true
 ·rw[if_pos h0]at h;have hl:=zb5 h0;simp only[length_cons,length_nil]at hl;by_cases h1:0≤Lib.index (x.drop 3) [34,34,34]∧Lib.validD ((x.drop 3).take (Lib.index (x.drop 3) [34,34,34]).toNat)=true
  ·rw[if_pos h1]at h;have hr:=Lib.index_room (x.drop 3) [34,34,34] h1.1;rw[length_drop]at hr;simp only[length_cons,length_nil]at hr;have h:=Option.some.inj h;rw[←h];exact⟨by simp only;omega,by simp only;omega⟩
  ·rw[if_neg h1]at h;cases h
 ·rw[if_neg h0]at h;obtain⟨_,h2,h3⟩:=ze3 h;exact⟨by omega,h3⟩
theorem zlH (s:List UInt8):∀(L:List (List UInt8))(b:List UInt8),sgF s L b=b∨sgF s L b∈L
 | [],b=>.inl rfl
 |x::l,b=>by
  simp only[sgF];rcases zlH s l (if okP s b x=true then x else b)with h|h
  ·rw[h];by_cases hx:okP s b x=true
   ·rw[if_pos hx];exact .inr (mem_cons_self ..)
   ·rw[if_neg hx];exact .inl rfl
  ·exact .inr (mem_cons_of_mem _ h)
theorem zrO:(sgnL.all fun x=>decide (x.length≤6))=true:=by kernel_rfl
theorem ztU (s:List UInt8):(sgF s sgnL []).length≤6:=by
 rcases zlH s sgnL []with h|h
 ·rw[h];simp
 ·exact of_decide_eq_true (all_eq_true.1 zrO _ h)
theorem zoV {K:zaa}{m:Nat}(h:K[m]? = za7[0]?)(s:List UInt8):zbm TT 52 (.mp m) (.s s) false K=some (.b (kw s)):=by
 have e:zdG K m=zdG za7 0:=by unfold zdG;rw[h]
 have h1:zdG K m=some ⟨52,(zg6.map fun w=>[V.s w,V.b true]).flatten,.map⟩:=e.trans rfl;simp only[zbm,tU,Tryz.underlying52,h1,tU,Tryz.underlying9,zcG,if_true,zdT,kw];cases zg6.contains s<;>simp
def zlG:zaa:=[some {ty:=23,cells:=[.nils],kind:=.all},some {ty:=3,cells:=[.i .i64 0],kind:=.all},some {ty:=24,cells:=[.i .i64 0],kind:=.all}]
theorem zlm:zdE TT (zhJ Con.none) 3000 29 [] zlG=.val (.mp 3) (zlG++za7):=by kernel_rfl
def zlM:List V→zaa→OR:=fun vs H=>match vs with
 | []=>if zaa.beq H zlG=true then .val (.mp 3) (zlG++za7)else .no
 |_=>.no
theorem zxv:zao prog TT 29 zlM:=by
 intro vs H r h hne;unfold zlM at h;split at h
 ·split at h
  ·rename_i hb;have:=zaa.beq_eq _ _ hb;subst this;subst h;exact zga zaf Con.none_sound 3000 29 [] zlG _ zlm hne
  ·exact absurd h.symm hne
 ·exact absurd h.symm hne
theorem zsX {call:zad}(hC:call.Sound prog TT){t:Tm}{H:zaa}(hw:t.wid=16)(h6:t.get 6=.nili):Tri prog TT (sub [true] (zah f28)) t H (fun o=>∃tI v,(o=.norm tI H∨o=.ret tI H)∧zaR TT f28 tI.get H=.val v H):=by
 apply bK;apply rS hC
 ·refine oA ?_;rfl
 refine cT (by simp[h6]<;>rfl) ?_;apply rN hC
 ·refine oA ?_;rfl
 apply bN;exact⟨_,_,.inl rfl,rfl⟩
theorem zm0 (vs:List V)(hv:vs.length=3)(H:zaa):zeI prog TT 28 vs none H H:=by
 refine zgF (fn:=f28) (c:=zah f28) zaf rfl rfl (by rw[hv];simp[f28]) ?_;refine zkQ.seq ?_;refine zkQ.reg zaf n0 0 rfl rfl rfl rfl rfl rfl ?_;exact zsX n0 rfl ((get_put _ 6 6 .nili).trans (if_pos rfl))
def zmY (H:zaa)(e k:Int):zaa:=(((H++[some (⟨50,[.i .i64 e,.i .i64 k],.all⟩:Blk)]).set 0 (some ⟨23,[.nils],.all⟩)).set 1 (some ⟨3,[.i .i64 k],.all⟩)).set 2 (some ⟨24,[.i .i64 e],.all⟩)
theorem zsW {call:zad}(hC:call.Sound prog TT){t:Tm}{H:zaa}{v:V}{x y e k:Int}(hw:t.wid=16)(h6:t.get 6=zct e k)(h0:t.get 0=.ptr 0 0)(h1:t.get 1=.ptr 1 0)(h2:t.get 2=.ptr 2 0)
 (g0:H[0]? = some (some ⟨23,[v],.all⟩))(g1:H[1]? = some (some ⟨3,[.i .i64 x],.all⟩))(g2:H[2]? = some (some ⟨24,[.i .i64 y],.all⟩)) :
 Tri prog TT (sub [true] (zah f28)) t H (fun o=>∃tI v,(o=.norm tI (zmY H e k)∨o=.ret tI (zmY H e k))∧zaR TT f28 tI.get (zmY H e k)=.val v (zmY H e k)):=by
 have l2:2<H.length:=zaa.lt g2;obtain⟨K,hK⟩:∃K,H=some ⟨23,[v],.all⟩::some ⟨3,[.i .i64 x],.all⟩::some ⟨24,[.i .i64 y],.all⟩::K:=by
  match H,g0,g1,g2 with
  |a::b::c::K,g0,g1,g2=>
   simp at g0 g1 g2;subst g0 g1 g2;exact⟨K,rfl⟩
 subst hK;clear g0 g1 g2 l2;apply bK;apply rS hC
 ·refine gO (by simp[h6,zct]<;>rfl) ?_;rfl
 refine Tri.condG (o:=?o2) (b:=?b2) ?g2 ?r2 ?y2 ?n2;case g2=>simp[h6,zct]<;>rfl
 case r2=>rfl
 case y2=>intro h;simp at h
 case n2=>
  intro _;apply sQ;refine Tri.regN (t':=?t3) (H':=?H3) zaf hC ?e3 ?q3;case e3=>
   refine zas ?_;iterate 3 refine zab rfl (by simp[h6,zct]<;>rfl) (by rfl) (by simp[hw]) ?_
   exact zak
  apply sN;refine Tri.condG (o:=?o4) (b:=?b4) ?g4 ?r4 ?y4 ?n4;case g4=>simp<;>rfl
  case r4=>rfl
  case n4=>intro h;simp at h
  case y4=>
   intro _;apply sQ;refine Tri.regN (t':=?t5) (H':=?H5) zaf hC ?e5 ?q5;case e5=>
    refine zas ?_;iterate 2 refine zab rfl (by simp<;>rfl) (by rfl) (by simp[hw]) ?_
    exact zak
   apply sN;refine Tri.regN (t':=?t6) (H':=?H6) zaf hC ?e6 ?q6;case e6=>
    refine zbG (t':=?t6) (H':=?H6) (ks:=[.q,.a,.q,.a,.e,.e,.e]) (fun J=>J[K.length+3]? = some (some ⟨50,[.i .i64 e,.i .i64 k],.all⟩)) (by kernel_rfl) ?A6 ?_ ?r6;case A6=>simp
    refine DR.blind rfl rfl (by simp[h0,h1,h2]<;>rfl) (by rfl) (by simp[hw]) ?_;refine DR.any rfl (by simp[h0,h1,h2]<;>rfl) (by rfl) (by simp[hw]) (by intro J hJ;simp[hJ]<;>rfl) ?_;refine DR.blind rfl rfl (by simp[h0,h1,h2]<;>rfl) (by rfl) (by simp[hw]) ?_;refine DR.any rfl (by simp[h0,h1,h2]<;>rfl) (by rfl) (by simp[hw]) (by intro J hJ;simp[hJ]<;>rfl) ?_;iterate 3 refine DR.eff rfl rfl (by simp[h0,h1,h2]<;>rfl) (by rfl) (by simp[hw]) (by simp) ?_
    exact DR.nil;case r6=>exact rfl
   apply bN;exact⟨_,_,.inl rfl,rfl⟩
theorem zmZ {H:zaa}{v:V}{x y:Int}(e k:Int)(g0:H[0]? = some (some ⟨23,[v],.all⟩))(g1:H[1]? = some (some ⟨3,[.i .i64 x],.all⟩))(g2:H[2]? = some (some ⟨24,[.i .i64 y],.all⟩)):zeI prog TT 28 [.ptr 0 0,.ptr 1 0,.ptr 2 0] (some (zct e k)) H (zmY H e k):=by
 refine zgF (fn:=f28) (c:=zah f28) zaf rfl rfl (by simp[f28]) ?_;refine zkQ.seq ?_;refine zkQ.reg zaf n0 0 rfl rfl rfl rfl rfl rfl ?_;exact zsW n0 rfl ((get_put _ 6 6 _).trans (if_pos rfl)) rfl rfl rfl g0 g1 g2
theorem zjd {x:List UInt8}{base:Nat}{r:Int×List UInt8×Nat}(hl:2≤x.length)(h:zhN x base=some r):0<r.2.2∧r.2.2≤x.length:=by
 unfold zhN at h;split at h
 ·cases h
 ·rename_i n hn;have:=zcZ base _ _ _ hn;rw[length_drop]at this;split at h
  ·split at h
   ·cases h
   ·split at h
    ·have h:=Option.some.inj h;rw[←h];exact⟨by simp only;omega,by simp only;omega⟩
    ·cases h
  ·cases h
theorem zmK {x:List UInt8}{m:Nat}{r:Bool}{p:Nat×Bool}(hm:m≤x.length)(h:zb7 x m r=some p):m≤p.1∧p.1≤x.length:=by
 unfold zb7 at h;split at h
 ·cases h
 ·rename_i k hk;have:=zld _ _ hk;rw[length_drop]at this;split at h
  ·split at h
   ·have h:=Option.some.inj h;rw[←h];exact⟨by simp only;omega,by simp only;omega⟩
   ·cases h
  ·split at h
   ·have h:=Option.some.inj h;rw[←h];exact⟨Nat.le_refl _,hm⟩
   ·cases h
theorem zol {x:List UInt8}{p:Nat×Bool}(h:zdO x=some p):p.1≤x.length∧∀n,zbD 10 x 0=some n→n≤p.1:=by
 unfold zdO at h;split at h
 ·cases h
 ·rename_i n hn;have hnl:=zcZ 10 _ _ _ hn;split at h
  ·split at h
   ·cases h
   ·rename_i k hk;have hkl:=zcZ 10 _ _ _ hk;rw[length_drop]at hkl;obtain⟨h1,h2⟩:=zmK (by omega) h;exact⟨h2,fun n' hn'=>by rw[hn]at hn';cases hn';omega⟩
  ·obtain⟨h1,h2⟩:=zmK (by omega) h;exact⟨h2,fun n' hn'=>by rw[hn]at hn';cases hn';omega⟩
theorem zeB (base:Int):∀(L:List UInt8)(n m:Nat),zbD base L n=some m→n≤m
 | [],n,m,h=>by simp[zbD]at h;omega
 |c::r,n,m,h=>by
  simp only[zbD]at h;split at h
  ·have:=zeB base r (n+1) m h;omega
  ·split at h
   ·have:=Option.some.inj h;omega
   ·split at h
    ·split at h
     ·have:=zeB base _ (n+1) m h;omega
     ·cases h
    ·cases h
theorem zmz {x:List UInt8}{m:Nat}(hd:(decide (48≤atS x 0)&&decide (atS x 0≤57))=true)(h:zbD 10 x 0=some m):0<m:=by
 cases x with
 |nil=>simp[atS]at hd
 |cons c r=>
  simp only[Bool.and_eq_true,decide_eq_true_eq]at hd;have e:atS (c::r) 0=c.toNat:=by simp[atS]
  rw[e]at hd;simp only[zbD]at h;rw[if_pos (by unfold zbz zk3;rw[if_pos hd,if_neg (by omega)];omega)]at h;have:=zeB 10 r 1 m h;omega
theorem zpa {x:List UInt8}{r:Int×List UInt8×Nat}(h:zcm x=some r):r.2.2≤x.length∧((decide (48≤atS x 0)&&decide (atS x 0≤57))=true→0<r.2.2):=by
 rw[zg9]at h;split at h
 ·rename_i hp;have:=zb5 hp;simp only[length_cons,length_nil]at this;exact⟨(zjd (by omega) h).2,fun _=>(zjd (by omega) h).1⟩
 ·split at h
  ·rename_i hp;have:=zb5 hp;simp only[length_cons,length_nil]at this;exact⟨(zjd (by omega) h).2,fun _=>(zjd (by omega) h).1⟩
  ·cases hd:zdO x with
   |none=>rw[hd]at h;cases h
   |some p=>
    obtain⟨k1,k2⟩:=zol hd;have k3:(decide (48≤atS x 0)&&decide (atS x 0≤57))=true→0<p.1:=fun hg=>by
     cases hr:zbD 10 x 0 with
     |none=>simp[zdO,hr]at hd
     |some n=>have:=k2 n hr;have:=zmz hg hr;omega
    obtain⟨m,b⟩:=p;rw[hd]at h;cases b with
    |true=>simp only[zkR]at h;have h:=Option.some.inj h;rw[←h];exact⟨k1,k3⟩
    |false=>
     simp only[zkR]at h;split at h
     ·cases h
     ·have h:=Option.some.inj h;rw[←h];exact⟨k1,k3⟩
theorem zsp (x:List UInt8):∀(L:List (List UInt8))(b:List UInt8),b.length≤x.length→(sgF x L b).length≤x.length
 | [],b,h=>h
 |y::L,b,h=>by
  simp only[sgF];refine zsp x L _ ?_;split
  ·rename_i hy;unfold okP at hy;simp only[Bool.and_eq_true]at hy;exact zb5 hy.2.1
  ·exact h
theorem zfb (s:List UInt8):∀(n i:Nat)(l:Bool)(j:Nat)(l':Bool),i≤s.length→skF s n i l=.inr (j,l')→i≤j∧j≤s.length
 |0,i,l,j,l',hi,h=>by simp[skF]at h;omega
 |n+1,i,l,j,l',hi,h=>by
  simp only[skF]at h;split at h
  ·split at h
   ·have:=zfb s n (i+1) _ j l' (by omega) h;omega
   ·split at h
    ·simp at h;omega
    ·cases h
    ·rename_i p hp;obtain⟨q1,q2⟩:=zfi hi hp;have:=zfb s n p.1 p.2 j l' q2 h;omega
  ·simp at h;omega
theorem zfc {s:List UInt8}{i j:Nat}{l l':Bool}(hi:i≤s.length)(h:skQ s i l=.inr (j,l')):i≤j∧j≤s.length:=zfb s _ i l j l' hi h
theorem zcr {x:List UInt8}{p:Int×List UInt8×Nat}(h:zcM kw zcm x=.inr p):0<p.2.2∧p.2.2≤x.length:=by
 have hle:=zsp x sgnL [] (by simp);unfold zcM at h;generalize sgF x sgnL []=g at h hle;split at h
 ·rename_i h0;cases h;exact⟨h0,(zsg (Nat.zero_le _)).2⟩
 ·split at h
  ·rename_i hd;cases hn:zcm x with
   |none=>rw[hn]at h;cases h
   |some r=>
    rw[hn]at h;cases h;obtain⟨k1,k2⟩:=zpa hn;exact⟨k2 hd,k1⟩
  ·split at h
   ·cases hc:ziK x with
    |none=>rw[hc]at h;cases h
    |some r=>rw[hc]at h;cases h;exact zod hc
   ·split at h
    ·cases hc:zhw x with
     |none=>rw[hc]at h;cases h
     |some r=>rw[hc]at h;cases h;exact zqm hc
    ·split at h
     ·rename_i hs;cases h;exact⟨hs,hle⟩
     ·cases h
def zsE (D:List UInt8→Prop)(x:List UInt8):Prop:=(decide (48≤atS x 0)&&decide (atS x 0≤57))=true→D x
theorem zp1 (D:List UInt8→Prop)(hf:∀s at_,D s→s.length<1100000→zuw s at_):∃g,zao prog TT 31 g∧∀(q:Nat)(s:List UInt8)(i:Nat)(l:Bool)(m:Nat)(H:zaa),ScB H q s i l m→i<s.length→s.length<1090000→H[m]? = za7[0]?→m≠q→zsE D (s.drop i) →
 zuJ H q s i l m (zcM kw zcm (s.drop i)) (g [.ptr q 0] H):=by
 obtain⟨g1,k1,s1⟩:=zdV;obtain⟨g2,k2,s2⟩:=zss;obtain⟨g3,k3,s3⟩:=zwf;obtain⟨g4,k4,s4⟩:=znx;obtain⟨g5,k5,s5⟩:=zvX;obtain⟨g6,k6,s6⟩:=zvV;obtain⟨g7,k7,s7⟩:=zvW;obtain⟨g8,k8,s8⟩:=zp4 D hf;have hC:=ws (ws (ws (ws (ws (ws (ws (ws n0 k1) k2) k3) k4) k5) k6) k7) k8;have hm:zdJ ((((((((zad.none.with 55 g1).with 48 g2).with 49 g3).with 50 g4).with 54 g5).with 52 g6).with 53 g7).with 51 g8):=fun b e k H=>by
  rw[zac _ _ _ _ rfl,zac _ _ _ _ rfl,zac _ _ _ _ rfl,zac _ _ _ _ rfl,zac _ _ _ _ rfl,zac _ _ _ _ rfl,zac _ _ _ _ rfl,zap];exact s1 b e k H
 have c2:∀(n:Nat)(s:List UInt8)(i:Nat)(l:Bool)(m:Nat)(H:zaa),ScB H n s i l m→i≤s.length→((((((((zad.none.with 55 g1).with 48 g2).with 49 g3).with 50 g4).with 54 g5).with 52 g6).with 53 g7).with 51 g8) 48 [.ptr n 0] H=.val (.s (s.drop i)) H:=fun n s i l m H h1 h2=>by
  rw[zac _ _ _ _ rfl,zac _ _ _ _ rfl,zac _ _ _ _ rfl,zac _ _ _ _ rfl,zac _ _ _ _ rfl,zac _ _ _ _ rfl,zap];exact s2 n s i l m H h1 h2
 have c3:∀x:List UInt8,x.length<1090000→∀H,((((((((zad.none.with 55 g1).with 48 g2).with 49 g3).with 50 g4).with 54 g5).with 52 g6).with 53 g7).with 51 g8) 49 [.s x] H=.val (.i .i64 (idR x 0:Nat)) H:=fun x hx H=>by
  rw[zac _ _ _ _ rfl,zac _ _ _ _ rfl,zac _ _ _ _ rfl,zac _ _ _ _ rfl,zac _ _ _ _ rfl,zap];exact s3 x hx H
 have c4:∀c:Int,∀H,((((((((zad.none.with 55 g1).with 48 g2).with 49 g3).with 50 g4).with 54 g5).with 52 g6).with 53 g7).with 51 g8) 50 [.i .u8 c] H=.val (.b (decide (48≤c)&&decide (c≤57))) H:=fun c H=>by
  rw[zac _ _ _ _ rfl,zac _ _ _ _ rfl,zac _ _ _ _ rfl,zac _ _ _ _ rfl,zap];exact s4 c trivial H
 have c5:∀x:List UInt8,∀H,((((((((zad.none.with 55 g1).with 48 g2).with 49 g3).with 50 g4).with 54 g5).with 52 g6).with 53 g7).with 51 g8) 54 [.s x] H=.val (.s (sgF x sgnL [])) H:=fun x H=>by
  rw[zac _ _ _ _ rfl,zac _ _ _ _ rfl,zac _ _ _ _ rfl,zap];exact s5 x trivial H
 have c6:∀(x:List UInt8)(a:Int),(0<x.length∧x.length<1100000)→∀H,((((((((zad.none.with 55 g1).with 48 g2).with 49 g3).with 50 g4).with 54 g5).with 52 g6).with 53 g7).with 51 g8) 52 [.s x,.i .i64 a] H=(zaE (ziK x) a).at H:=fun x a hx H=>by
  rw[zac _ _ _ _ rfl,zac _ _ _ _ rfl,zap];exact s6 (x,a) hx H
 have c7:∀(x:List UInt8)(a:Int),(0<x.length∧x.length<1100000)→∀H,((((((((zad.none.with 55 g1).with 48 g2).with 49 g3).with 50 g4).with 54 g5).with 52 g6).with 53 g7).with 51 g8) 53 [.s x,.i .i64 a] H=(zaE (zhw x) a).at H:=fun x a hx H=>by
  rw[zac _ _ _ _ rfl,zap];exact s7 (x,a) hx H
 have c8:∀(x:List UInt8)(a:Int),D x→x.length<1100000→∀H,((((((((zad.none.with 55 g1).with 48 g2).with 49 g3).with 50 g4).with 54 g5).with 52 g6).with 53 g7).with 51 g8) 51 [.s x,.i .i64 a] H=(zmo (zcm x) a).at H:=fun x a hd hx H=>by
  rw[zap];exact s8 x a hd hx H
 generalize(((((((zad.none.with 55 g1).with 48 g2).with 49 g3).with 50 g4).with 54 g5).with 52 g6).with 53 g7).with 51 g8=call at hC hm c2 c3 c4 c5 c6 c7 c8;obtain⟨g,k,h⟩:=zc1 zaf 31 (fun p:Nat×List UInt8×Nat×Bool×Nat=>[.ptr p.1 0]) (fun p H=>ScB H p.1 p.2.1 p.2.2.1 p.2.2.2.1 p.2.2.2.2∧p.2.2.1<p.2.1.length∧p.2.1.length<1090000∧H[p.2.2.2.2]? = za7[0]?∧p.2.2.2.2≠p.1∧zsE D (p.2.1.drop p.2.2.1))
  (fun p H r=>zuJ H p.1 p.2.1 p.2.2.1 p.2.2.2.1 p.2.2.2.2 (zcM kw zcm (p.2.1.drop p.2.2.1)) r) (by
  rintro⟨n,s,i,l,m⟩ ⟨n',s',i',l',m'⟩ H r ⟨h1,_⟩ ⟨h2,_⟩ he hr;simp only[List.cons.injEq,V.ptr.injEq,and_true]at he;subst he;obtain⟨rfl,rfl,rfl,rfl⟩:=h1.inj h2;exact hr) (by
  rintro⟨q,s,i,l,m⟩ H ⟨hb,hi,hs,hkm,hmq,hd⟩;simp only at hb hi hs hkm hmq hd ⊢;have hm0:m<H.length:=by
   have:za7[0]?≠none:=by decide
   rw[←hkm]at this;exact Nat.lt_of_not_le fun h=>this (List.getElem?_eq_none h)
  have hlen:(s.drop i).length≤s.length:=by rw[length_drop];omega
  refine zqN hC hm c2 q s (fun x hx H=>c3 x (by omega) H) i l m H hb hi (by omega) kw zcm hm0 hmq (fun y K hK=>zoV (hK.trans hkm) y) c4 c5 c6 c7 (fun hg a K=>?_) (fun r hr=>?_) (fun p hp=>?_) (fun p hp=>?_) (ztU _)
  ·rw[c8 _ a (hd hg) (by omega) K];cases zcm (s.drop i)<;>rfl
  ·have:=(zpa hr).1;omega
  ·have:=(zod hp).2;omega
  ·have:=(zqm hp).2;omega)
 exact⟨g,k,fun q s i l m H h1 h2 h3 h4 h5 h6=>h (q,s,i,l,m) H ⟨h1,h2,h3,h4,h5,h6⟩⟩
def zjI (s:List UInt8):Nat→Nat→Bool→List Tk→List Tk ⊕ (Nat×Nat)
 |0,_,_,acc=>.inl acc
 |n+1,i,l,acc=>match skQ s i l with
  | .inl a=>.inr (a,32)
  | .inr (j,l')=>if j=s.length then .inl acc else match zcM kw zcm (s.drop j)with
   | .inl e=>.inr (j,e)
   | .inr (k,t,m)=>zjI s n (j+m) false (acc++[(k,t,(j:Int),l')])
def zmD (D:List UInt8→Prop)(s:List UInt8):Nat→Nat→Bool→Prop
 |0,_,_=>True
 |n+1,i,l=>match skQ s i l with
  | .inl a=>True
  | .inr (j,l')=>j=s.length∨(zsE D (s.drop j)∧match zcM kw zcm (s.drop j)with
   | .inl e=>True
   | .inr (k,t,m)=>zmD D s n (j+m) false)
theorem zkB (s:List UInt8):∀(n i:Nat)(l:Bool),zmD (fun _=>True) s n i l
 |0,_,_=>trivial
 |n+1,i,l=>by
  unfold zmD;split
  ·trivial
  ·refine .inr ⟨fun _=>trivial,?_⟩;split
   ·trivial
   ·exact zkB s n _ _
def zsC (H:zaa)(q m:Nat)(v:V)(l:List Tk):Prop:=(v=.nils∧l=[])∨∃n,v=.sl n 4 0 l.length none∧H[n]? = some (some {ty:=34,cells:=tkC l,kind:=.more})∧3≤n∧n≠q∧n≠m
theorem zr5 (v:Tk)(H:zaa):zaY TT 23 1 [(0,.agg (tkL v))] H=.val (.sl H.length 4 0 1 (some 1)) (H++[some {ty:=34,cells:=tkL v,kind:=.all}]):=by
 have e1:TT.und 23=some (.slice 34):=rfl;have e2:TT.size 34=some 4:=rfl;have e3:TT.zero 34=some (.agg [.i .i64 0,.s [],.i .i64 0,.b false]):=rfl;simp only[zaY,e1,e2,e3];simp[zhP,zfq,splice,za2,V.cells,tkL]
theorem zsI {H:zaa}{q m:Nat}{v:V}{l:List Tk}(h:zsC H q m v l)(hl:l.length<100000000)(x:Tk){b:Nat}(hb:H[b]? = some (some {ty:=34,cells:=tkL x,kind:=.all}))(hq:q<H.length)(hm:m<H.length)(h3:3≤H.length) :
 ∃v2 H2,zaM TT 23 v (.sl b 4 0 1 (some 1)) H=.val v2 H2∧zsC H2 q m v2 (l++[x])∧H.length≤H2.length∧(∀j,(j<3∨j=q∨j=m)→H2[j]? = H[j]?):=by
 have e1:TT.und 23=some (.slice 34):=rfl;have e2:TT.size 34=some 4:=rfl;have e3:TT.zero 34=some (.agg [.i .i64 0,.s [],.i .i64 0,.b false]):=rfl;have e4:TT.bytes 34=some 40:=rfl;have c1:zar H b=some {ty:=34,cells:=tkL x,kind:=.all}:=by simp[zar,hb]
 have c3:cut (tkL x) (0*4) (1*4)=some (tkL x):=by simp[cut,tkL]
 have f1:(tkL x).all zeF=true:=by simp[tkL,zeF]
 have f2:(V.agg [.i .i64 0,.s [],.i .i64 0,.b false]).cells.length=4:=rfl;have keep:∀(n:Nat)(K:zaa),3≤n→n≠q→n≠m→∀j,(j<3∨j=q∨j=m)→(H.set n none++K)[j]? = H[j]?:=by
  intro n K h1 h2 h3' j hj;have hjl:j<H.length:=by rcases hj with hj|rfl|rfl<;>omega
  rw[List.getElem?_append_left (by rw[length_set];exact hjl),List.getElem?_set_ne (by rcases hj with hj|rfl|rfl<;>omega)]
 rcases h with⟨rfl,rfl⟩|⟨n,rfl,hn,hn3,hnq,hnm⟩
 ·simp only[zaM,e1,e2,e3,e4,za9,c1,c3,Option.map_some,if_true];rw[if_pos ⟨by decide,f2,by decide,f1⟩];simp only[za2];rw[if_neg (by decide),if_pos ⟨by omega,by omega⟩];refine⟨_,_,rfl,.inr ⟨H.length,rfl,by simp[tkC],h3,by omega,by omega⟩,by simp,fun j hj=>?_⟩;rw[List.getElem?_append_left (by rcases hj with hj|rfl|rfl<;>omega)]
 ·have c2:zar H n=some {ty:=34,cells:=tkC l,kind:=.more}:=by simp[zar,hn]
  have c4:cut (tkC l) (0*4) (l.length*4)=some (tkC l):=by simp[cut,←zcB]
  have hlen:=zcB l;simp only[zaM,e1,e2,e3,e4,za9,c1,c2,c3,c4,Option.map_some,if_true];rw[if_pos ⟨by decide,f2,by decide,f1⟩,if_pos ⟨trivial,by omega,by omega⟩];simp only[za2,setK_eq];rw[if_neg (by decide),if_pos ⟨trivial,by omega,trivial⟩];refine⟨_,_,rfl,.inr ⟨H.length,by simp,?_,h3,by omega,by omega⟩,by simp,keep n _ hn3 hnq hnm⟩;rw[zmN];simp
structure SI (H:zaa) (q m:Nat) (s:List UInt8) (i:Nat) (l:Bool) (v:V) (acc:List Tk):Prop where
  c0:H[0]? = some (some ⟨23,[v],.all⟩)
  c1:H[1]? = some (some ⟨3,[.i .i64 0],.all⟩)
  c2:H[2]? = some (some ⟨24,[.i .i64 0],.all⟩)
  sc:ScB H q s i l m
  kw:H[m]? = za7[0]?
  out:zsC H q m v acc
  q3:3≤q
  m3:3≤m
  ne:m≠q
theorem SI.lt {H:zaa}{q m:Nat}{s:List UInt8}{i:Nat}{l:Bool}{v:V}{acc:List Tk}(h:SI H q m s i l v acc):q<H.length∧m<H.length:=by
 refine⟨zaa.lt h.sc,?_⟩;have:za7[0]?≠none:=by decide
 rw[←h.kw]at this;exact Nat.lt_of_not_le fun h=>this (List.getElem?_eq_none h)
theorem SI.keep {H H':zaa}{q m:Nat}{s:List UInt8}{i i':Nat}{l l':Bool}{v:V}{acc:List Tk}(h:SI H q m s i l v acc)(hs:ScB H' q s i' l' m)(hk:∀j,j<H.length→j≠q→H'[j]? = H[j]?):SI H' q m s i' l' v acc:=by
 obtain⟨hq,hm⟩:=h.lt;have q3:=h.q3;have m3:=h.m3;refine⟨by rw[hk 0 (by omega) (by omega)];exact h.c0,by rw[hk 1 (by omega) (by omega)];exact h.c1,by rw[hk 2 (by omega) (by omega)];exact h.c2,hs,by rw[hk m hm h.ne];exact h.kw,?_,q3,m3,h.ne⟩;rcases h.out with h|⟨n,h1,h2,h3,h4,h5⟩
 ·exact .inl h
 ·exact .inr ⟨n,h1,by rw[hk n (zaa.lt h2) h4];exact h2,h3,h4,h5⟩
theorem SI.set {H:zaa}{q m:Nat}{s:List UInt8}{i i':Nat}{l l':Bool}{v:V}{acc:List Tk}(h:SI H q m s i l v acc):SI (H.set q (some (scB s i' l' m))) q m s i' l' v acc:=by
 refine h.keep (by unfold ScB;rw[List.getElem?_set_self h.lt.1]) fun j _ hj=>?_;rw[List.getElem?_set_ne (fun e=>hj e.symm)]
theorem zsC.cell {H:zaa}{q m:Nat}{v:V}{l:List Tk}(h:zsC H q m v l):v.cells=[v]∧zeF v=true:=by
 rcases h with⟨rfl,_⟩|⟨n,rfl,_⟩<;>exact⟨rfl,rfl⟩
theorem zwj (j:Nat)(n:Nat)(h:¬j=n):(((j:Nat):Int)==(n:Nat))=false:=by
 simp;omega
set_option maxHeartbeats 1000000 in
theorem zrv {call:zad}(hC:call.Sound prog TT)(D:List UInt8→Prop)(s:List UInt8)(hs:s.length≤20000)(q m:Nat)
 (hskip:∀(i:Nat)(l:Bool)(H:zaa),ScB H q s i l m→i≤s.length→skR H q s m (skQ s i l) (call 30 [.ptr q 0] H))
 (htok:∀(i:Nat)(l:Bool)(H:zaa),ScB H q s i l m→i<s.length→H[m]? = za7[0]?→m≠q→zsE D (s.drop i)→zuJ H q s i l m (zcM kw zcm (s.drop i)) (call 31 [.ptr q 0] H)){Q:Out→Prop} :
 ∀(n i:Nat)(l:Bool)(v:V)(acc:List Tk)(t:Tm)(H:zaa),s.length<n+i→i≤s.length→acc.length≤i→SI H q m s i l v acc→zmD D s n i l→t.wid=32→t.get 0=.s s→t.get 2=.ptr 0 0→t.get 3=.ptr 1 0→t.get 4=.ptr 2 0→t.get 5=.ptr q 0 →
  (∀(t':Tm)(H':zaa)(toks:List Tk)(v:V),zjI s n i l acc=.inl toks→t'.get 2=.ptr 0 0→t'.get 3=.ptr 1 0→t'.get 4=.ptr 2 0→H'[0]? = some (some ⟨23,[v],.all⟩)→H'[1]? = some (some ⟨3,[.i .i64 0],.all⟩)→H'[2]? = some (some ⟨24,[.i .i64 0],.all⟩)→zsC H' q m v toks→Q (.ret t' H')) →
  (∀(t':Tm)(H':zaa)(a e:Nat)(v:V),zjI s n i l acc=.inr (a,e)→t'.get 2=.ptr 0 0→t'.get 3=.ptr 1 0→t'.get 4=.ptr 2 0→H'[0]? = some (some ⟨23,[v],.all⟩)→H'[1]? = some (some ⟨3,[.i .i64 0],.all⟩)→H'[2]? = some (some ⟨24,[.i .i64 0],.all⟩)→Q (.pan (zct e a) t' H')) →
  zbe prog TT (sub [true,true,true,true,false,false] (zah f11)) t H Q:=by
 have ex1:TT.ext 30=none:=rfl;have ex2:TT.ext 31=none:=rfl;have ci:∀(k:IntKind)(n:Int),(V.i k n).cells=[V.i k n]:=fun _ _=>rfl;have fi:∀(k:IntKind)(n:Int),zeF (V.i k n)=true:=fun _ _=>rfl;intro n;induction n with
 |zero=>intro i l v acc t H h1 h2;omega
 |succ n ih=>
  intro i l v acc t H hn hi hacc hI hD hw t0 t2 t3 t4 t5 hR hP;obtain⟨hql,hml⟩:=hI.lt;have q3:=hI.q3;have m3:=hI.m3;have hsk:=hskip i l H hI.sc hi;rcases hk:skQ s i l with a|⟨j,l'⟩
  ·rw [hk]at hsk;obtain⟨b,hsk⟩:=hsk;have hF:=ai @t5 (ai @hsk @ex1);refine zbe.round' ?_;apply bK;apply sQ;refine Tri.regP (v:=?v1) (t':=?t1) (H':=?H1) zaf hC ?e1 ?q1;case e1=>
    refine zas ?_;refine oA ?_;refine zh0 rfl (by simp[hF]<;>rfl) (by rfl) ?_;exact rfl
   refine zkh ?_;refine zg1 ?_;refine zh5 ?_;refine hP _ _ a 32 v (by simp only[zjI,hk]) (by simp[t2]) (by simp[t3]) (by simp[t4]) ?_ ?_ ?_
   ·rw[List.getElem?_set_ne (by omega)];exact hI.c0
   ·rw[List.getElem?_set_ne (by omega)];exact hI.c1
   ·rw[List.getElem?_set_ne (by omega)];exact hI.c2
  ·rw[hk]at hsk;have hsk:call 30 [.ptr q 0] H=.val .un (H.set q (some (scB s j l' m))):=hsk;have hI1:SI (H.set q (some (scB s j l' m))) q m s j l' v acc:=hI.set;obtain⟨hij,hjl⟩:i≤j∧j≤s.length:=zfc hi hk;generalize hH1:H.set q (some (scB s j l' m))=H1 at hsk hI1;have g0:=hI1.c0;have g1:=hI1.c1;have g2:=hI1.c2;have gq:H1[q]? = some (some (scB s j l' m)):=hI1.sc;obtain⟨hvc,hvf⟩:=hI1.out.cell;obtain⟨hql1,hml1⟩:=hI1.lt;have gl0:0<H1.length:=by omega
   have gl1:1<H1.length:=by omega
   have gl2:2<H1.length:=by omega
   refine zbe.round' ?_;apply bK;apply sQ;refine Tri.regN (t':=?t2) (H':=?H2) zaf hC ?e2 ?q2;case e2=>
    refine zas ?_;iterate 2 refine zab rfl (by simp[t5,hsk,ex1]<;>rfl) (by rfl) (by simp[hw]) ?_
    exact zak
   apply sN;iterate 2 apply sQ
   by_cases hend:j=s.length
   ·have hee:(((j:Nat):Int)==(s.length:Nat))=true:=by rw[hend];simp
    refine Tri.regN (t':=?t3) (H':=?H3) zaf hC ?e3 ?q3;case e3=>
     refine zas ?_;iterate 7 refine zab rfl (by simp[t5,t0,gq,hee]<;>rfl) (by rfl) (by simp[hw]) ?_
     exact zak
    apply sN;refine Tri.condG (o:=?o3) (b:=?b3) ?g3 ?r3 ?y3 ?n3;case g3=>simp[hee]<;>rfl
    case r3=>rfl
    case n3=>intro h;simp at h
    case y3=>
     intro _;apply sQ;refine Tri.regN (t':=?t4) (H':=?H4) zaf hC ?e4 ?q4;case e4=>
      refine zas ?_;iterate 4 refine zab rfl (by simp[t2,t3,t4,g0,g1,g2,hvc,hvf,ci,fi,-V.cells,-zeF]<;>rfl) (by rfl) (by simp[hw]) ?_
      exact zak
     apply sN;apply Tri.ret;apply sR;apply bR;refine znb ?_;refine hR _ _ acc v (by simp only[zjI,hk];rw[if_pos hend]) (by simp[t2]) (by simp[t3]) (by simp[t4]) ?_ ?_ ?_ ?_
     ·simp[gl0,gl1,gl2]
     ·simp[gl0,gl1,gl2]
     ·simp[gl0,gl1,gl2]
     ·rcases hI1.out with h|⟨nb,h1,h2,h3,h4,h5⟩
      ·exact .inl h
      ·refine .inr ⟨nb,h1,?_,h3,h4,h5⟩;rw[List.getElem?_set_ne (by omega),List.getElem?_set_ne (by omega),List.getElem?_set_ne (by omega)];exact h2
   ·have hlt:j<s.length:=by omega
    have hne:(((j:Nat):Int)==(s.length:Nat))=false:=zwj _ _ hend;refine Tri.regN (t':=?t5) (H':=?H5) zaf hC ?e5 ?q5;case e5=>
     refine zas ?_;iterate 7 refine zab rfl (by simp[t5,t0,gq,hne]<;>rfl) (by rfl) (by simp[hw]) ?_
     exact zak
    apply sN;refine Tri.condG (o:=?o5) (b:=?b5) ?g5 ?r5 ?y5 ?n5;case g5=>simp[hne]<;>rfl
    case r5=>rfl
    case y5=>intro h;simp at h
    case n5=>
     intro _;apply Tri.skip;apply sN;apply sQ;have hD':zsE D (s.drop j)∧match zcM kw zcm (s.drop j)with | .inl e=>True | .inr (k,t,m)=>zmD D s n (j+m) false:=by
      have:=hD;simp only[zmD,hk]at this;exact this.resolve_left hend
     have htk:=htok j l' H1 hI1.sc hlt hI1.kw hI1.ne hD'.1;have hlen:=hD'.2;rcases hq:zcM kw zcm (s.drop j)with e|p
     ·rw [hq]at htk;obtain⟨H3,htk,hkp,hke⟩:=htk;refine Tri.drawPan zaf hC 2 ?v6 ?H6 [false,false,true,true,true,true] (by kernel_rfl) ?e6 ?q6;case e6=>
       iterate 2 refine QP.val rfl (by simp[t2,t5,g0,htk,ex2]<;>rfl) (by rfl) (by simp[hw]) ?_
       refine QP.stop rfl rfl (by simp[t2,t5,g0,htk,ex2]<;>rfl) (by rfl) (by simp[hw]) ?_;iterate 3 refine QP.skip rfl (by simp[hw]) ?_
       exact QP.nil
      refine zkh ?_;refine zg1 ?_;refine zh5 ?_;refine hP _ _ j e v (by simp only[zjI,hk,hq];rw[if_neg hend]) (by simp[zcz,t2]) (by simp[zcz,t3]) (by simp[zcz,t4]) ?_ ?_ ?_
      ·rw[hke 0 (by omega) (by omega)];exact g0
      ·rw[hke 1 (by omega) (by omega)];exact g1
      ·rw[hke 2 (by omega) (by omega)];exact g2
     ·rw[hq]at htk;obtain⟨H3,htk,hsc3,hkp,hke⟩:=htk;have htk:call 31 [.ptr q 0] H1=.val (.agg (tkL (p.1,p.2.1,(j:Int),l'))) H3:=htk;have hI3:SI H3 q m s (j+p.2.2) l' v acc:=hI1.keep hsc3 hke;obtain⟨hp1,hp2⟩:=zcr hq;rw[length_drop]at hp2;obtain⟨hql3,hml3⟩:=hI3.lt;have b1:=zr5 (p.1,p.2.1,(j:Int),l') H3;have hI4:SI (H3++[some {ty:=34,cells:=tkL (p.1,p.2.1,(j:Int),l'),kind:=.all}]) q m s (j+p.2.2) l' v acc:=hI3.keep (by unfold ScB;rw[List.getElem?_append_left hql3];exact hI3.sc) fun i hi _=>List.getElem?_append_left hi;obtain⟨v2,H5,b2,hO5,hl5,hk5⟩:=zsI hI4.out (by omega) (p.1,p.2.1,(j:Int),l') (b:=H3.length) (by simp) hI4.lt.1 hI4.lt.2 (by simp;omega);generalize hH4:H3++[some {ty:=34,cells:=tkL (p.1,p.2.1,(j:Int),l'),kind:=.all}]=H4 at b1 b2 hI4 hk5 hl5;have g30:=hI3.c0;have g40:=hI4.c0;have g50:H5[0]? = some (some ⟨23,[v],.all⟩):=by rw[hk5 0 (by omega)];exact hI4.c0
      have g51:H5[1]? = some (some ⟨3,[.i .i64 0],.all⟩):=by rw[hk5 1 (by omega)];exact hI4.c1
      have g52:H5[2]? = some (some ⟨24,[.i .i64 0],.all⟩):=by rw[hk5 2 (by omega)];exact hI4.c2
      have g5q:H5[q]? = some (some (scB s (j+p.2.2) l' m)):=by rw[hk5 q (by omega)];exact hI4.sc
      have g5m:H5[m]? = za7[0]?:=by rw[hk5 m (by omega)];exact hI4.kw
      obtain⟨hvc2,hvf2⟩:=hO5.cell;refine Tri.regN (t':=?t7) (H':=?H7) zaf hC ?e7 ?q7;case e7=>
       refine zbG (t':=?t7) (H':=?H7) (ks:=[.a,.q,.e,.e,.e,.l]) (fun J=>J[0]? = some (some ⟨23,[v],.all⟩)) (by kernel_rfl) g0 ?_ ?r7;refine DR.any rfl (by simp[t2,g0]<;>rfl) (by rfl) (by simp[hw]) (by intro J hJ;simp[hJ,t2]<;>rfl) ?_;refine DR.blind rfl rfl (by simp[t5]<;>rfl) (by rfl) (by simp[hw]) ?_;refine DR.eff rfl rfl (by simp[htk,ex2]<;>rfl) (by rfl) (by simp[hw]) g30 ?_;refine DR.eff rfl rfl (by simp[b1]<;>rfl) (by rfl) (by simp[hw]) g40 ?_;refine DR.eff rfl rfl (by simp[b2]<;>rfl) (by rfl) (by simp[hw]) g50 ?_;refine DR.last (x:=?x7) (v:=?v7) ?h1 ?h2 ?h3 ?h4 ?h5;case h1=>exact rfl
       case h2=>exact rfl
       case h3=>simp[t2,g50,hvc2,hvf2,-V.cells,-zeF]<;>rfl
       case h4=>exact rfl
       case h5=>simp[hw]
       case r7=>exact rfl
      apply sN;have hl5q:q<H5.length:=zaa.lt g5q;have q0:¬0=q:=by omega
      refine Tri.regN (t':=?t8) (H':=?H8) zaf hC ?e8 ?q8;case e8=>
       refine zas ?_;iterate 4 refine zab rfl (by simp[t5,g5q,q0]<;>rfl) (by rfl) (by simp[hw]) ?_
       exact zak
      apply bN;refine zav ?_;have hI6:SI ((H5.set 0 (some ⟨23,[v2],.all⟩)).set q (some (scB s (j+p.2.2) false m))) q m s (j+p.2.2) false v2 (acc++[(p.1,p.2.1,(j:Int),l')]):=by
       have l0:0<H5.length:=zaa.lt g50;refine⟨?_,?_,?_,?_,?_,?_,q3,m3,hI1.ne⟩
       ·rw[List.getElem?_set_ne (by omega),List.getElem?_set_self l0]
       ·rw[List.getElem?_set_ne (by omega),List.getElem?_set_ne (by omega)];exact g51
       ·rw[List.getElem?_set_ne (by omega),List.getElem?_set_ne (by omega)];exact g52
       ·unfold ScB;rw[List.getElem?_set_self (by rw[length_set];exact hl5q)]
       ·rw[List.getElem?_set_ne (fun e=>hI1.ne e.symm),List.getElem?_set_ne (by omega)];exact g5m
       ·rcases hO5 with h|⟨nb,h1,h2,h3,h4,h5⟩
        ·exact .inl h
        ·refine .inr ⟨nb,h1,?_,h3,h4,h5⟩;rw[List.getElem?_set_ne (fun e=>h4 e.symm),List.getElem?_set_ne (by omega)];exact h2
      have hsn:zjI s (n+1) i l acc=zjI s n (j+p.2.2) false (acc++[(p.1,p.2.1,(j:Int),l')]):=by
       simp only[zjI,hk,hq];rw[if_neg hend]
      rw[hq]at hlen;refine ih (j+p.2.2) false v2 (acc++[(p.1,p.2.1,(j:Int),l')]) _ _ (by omega) (by omega) (by simp;omega) (by simpa[scB]using hI6) hlen (by simp[hw]) (by simp[t0]) (by simp[t2]) (by simp[t3]) (by simp[t4]) (by simp[t5]) ?_ ?_
      ·intro t' H' toks u k1;exact hR t' H' toks u (hsn.trans k1)
      ·intro t' H' a e u k1;exact hP t' H' a e u (hsn.trans k1)
theorem zwA:zaS TT shp f16.ntmps [] (zah f16) [] ⟨[(0,.f1 .vs (.va 0))],⟨.va 1,[],[]⟩,2,[]⟩ (KF TT f16 [0,4,12,13])=let qa:E:=xp (xN (xh v1) (.cn 0));.asks (.call 36 (x1 (xs v0))) [.b] (xb v2) (.ite v2 (.ask (.call 37 (x2 qa (xu (xc 34)))) ⟨v1,[],[xk 66 (x2 (.cv .nilp) (.cv .nils))]⟩ [] (.cv .nili) true (.leaf (.stop [true,true,true,true,false,true,false]) [(0,xs v0),(4,qa),(12,xi (xl v0)),(13,xi c0)] ⟨v3,[],[]⟩) (.stuck 0)) (.fin (xt (x2 (xs (.cs [])) (xi c2))) ⟨v1,[],[]⟩)) (.stuck 0):=by kernel_rfl
theorem zwB:goT TT shp f16.ntmps [] [true,true,true,true,false,true,false,false] (zah f16) [] ⟨[(0,.f1 .vs (.va 0)),(4,.f1 (.ptr 0) (.va 2)),(12,.f1 (.vi .i64) (.f1 .lenS (.va 0))),(13,.f1 (.vi .i64) (.va 3))],⟨.va 1,[],[]⟩,4,[]⟩ (KF TT f16 [0,4,12,13])=let qg:E:=xA v0 v3;let qo:E:=.f1 .enc (.f1 (.wrap .i32) qg);let ql:E:=xc 9223372036854775807;let qk:E:=xp v2;let qi:SH:=⟨v1,[],[]⟩;let qp:E:=.cv .nili;let qh:E:=xt (x2 (xi v5) qp);let qq:E:=xi (xw (xa v3 c1));let qb:Tree:=.leaf (.again [true,true,true,true,false,true,false,false]) [(0,xs v0),(4,qk),(12,xi (xl v0)),(13,qq)] ⟨v4,[],[]⟩;let qj:Tree:=.stuck 0;let qe:Tree:=.need (xE (xa c1 (xl qo)) ql) (.ask (.call 38 (x2 qk (xs (xP (.cs [92]) qo)))) qi [.i] qh true qb qj);let qc:E:=.f2 (.sh .shr .u8 .u64) qg (xc 4);let qm:E:=xx (xa qc c1);let qf:E:=.cs [48,49,50,51,52,53,54,55,56,57,65,66,67,68,69,70];let qr:E:=.f3 .sub qf qc qm;let qd:E:=.f2 (.opI .and .u8) qg (xc 15);let qn:E:=xx (xa qd c1);let qs:E:=.f3 .sub qf qd qn;let qa:Tree:=.need (.f2 (.okSh .shr .u8 .u64) qg (xc 4)) (.need (xE c0 qc) (.need (xE qc qm) (.need (xE qm (xc 16)) (.need (xE (xa c2 (xl qr)) ql) (.lets (xP (.cs [92,120]) qr) (.need (.f2 (.okI .and .u8) qg (xc 15)) (.need (xE c0 qd) (.need (xE qd qn) (.need (xE qn (xc 16)) (.need (xE (xa (xl v4) (xl qs)) ql) (.lets (xP v4 qs) (.ask (.call 38 (x2 qk (xs v5))) qi [.i] (xt (x2 (xi v7) qp)) true (.leaf (.again [true,true,true,true,false,true,false,false]) [(0,xs v0),(4,qk),(12,xi (xl v0)),(13,qq)] ⟨v6,[],[]⟩) qj))))))))))));.ite (xL v3 (xl v0)) (.need (xE c0 v3) (.ite (xe qg (xc 34)) qe (.ite (xe qg (xc 92)) qe (.ite (xe qg c10) (.ask (.call 38 (x2 qk (xs (.cs [92,110])))) qi [.i] qh true qb qj) (.ite (xe qg (xc 9)) (.ask (.call 38 (x2 qk (xs (.cs [92,116])))) qi [.i] qh true qb qj) (.ite (xe qg (xc 13)) (.ask (.call 38 (x2 qk (xs (.cs [92,114])))) qi [.i] qh true qb qj) (.ite (xe qg c0) (.ask (.call 38 (x2 qk (xs (.cs [92,48])))) qi [.i] qh true qb qj) (.ite (xL qg (xc 32)) qa (.ite (xe qg (xc 127)) qa (.ask (.call 37 (x2 qk (xu qg))) qi [] qp true qb qj)))))))))) (.ask (.call 37 (x2 qk (xu (xc 34)))) qi [] qp true (.ask (.call 39 (x1 qk)) ⟨v4,[],[]⟩ [.s] (xs v6) true (.fin (xt (x2 (xs v6) (xi c0))) ⟨v5,[],[]⟩) qj) qj):=by kernel_rfl
def zoS:List UInt8:=[48,49,50,51,52,53,54,55,56,57,65,66,67,68,69,70]
def qtC (c:Nat):List UInt8:=if c=34 then[92,34]else if c=92 then[92,92]else if c=10 then[92,110]else if c=9 then[92,116]else if c=13 then[92,114]else if c=0 then[92,48]
 else if c<32∨c=127 then[92,120,zoS.getD (c/16) 0,zoS.getD (c%16) 0]else[UInt8.ofNat c]
theorem zpo (c:Nat):(qtC c).length≤4:=by
 unfold qtC;repeat' split
 all_goals simp
theorem zvA:((List.range 256).all fun c=>zeZ (zbn .shr .u8 (c:Nat) .u64 4) .u8&&decide (zkj (zbn .shr .u8 (c:Nat) .u64 4)=((c/16:Nat):Int))&&zeZ (zbM .and .u8 (c:Nat) 15) .u8&&decide (zkj (zbM .and .u8 (c:Nat) 15)=((c%16:Nat):Int)))=true:=by kernel_rfl
theorem ztD (c:Nat)(h:c<256):zeZ (zbn .shr .u8 (c:Nat) .u64 4) .u8=true∧zkj (zbn .shr .u8 (c:Nat) .u64 4)=((c/16:Nat):Int)∧zeZ (zbM .and .u8 (c:Nat) 15) .u8=true∧zkj (zbM .and .u8 (c:Nat) 15)=((c%16:Nat):Int):=by
 have:=all_eq_true.1 zvA c (mem_range.2 h);simp only[Bool.and_eq_true,decide_eq_true_eq]at this;exact⟨this.1.1.1,this.1.1.2,this.1.2,this.2⟩
theorem w8 (n:Nat)(h:n<256):IntKind.u8.wrap (n:Int)=n:=by
 have e:(2:Int)^IntKind.u8.bits=256:=rfl;simp only[IntKind.wrap,e,IntKind.signed,Bool.false_and,Bool.false_eq_true,if_false];omega
theorem zoU:∀k:Nat,k<16→(([48,49,50,51,52,53,54,55,56,57,65,66,67,68,69,70]:List UInt8).take (k+1)).drop k=[zoS.getD k 0]:=by decide
theorem zu6:(Utf8.encode (IntKind.i32.wrap 34)).data.toList=[34]:=by kernel_rfl
theorem zu7:(Utf8.encode (IntKind.i32.wrap 92)).data.toList=[92]:=by kernel_rfl
theorem ztf {call:zad} (hC:call.Sound prog TT)
    (hwb:∀(n:Nat)(l:List UInt8)(c:UInt8)(H:zaa),Bld H n l→l.length<100000000→∃H',call 37 [.ptr n 0,.i .u8 c.toNat] H=.val .nili H'∧Bld H' n (l++[c]))
    (hws:∀(n:Nat)(l x:List UInt8)(H:zaa),Bld H n l→l.length+x.length<100000000→∃H',call 38 [.ptr n 0,.s x] H=.val (.tup [.i .i64 x.length,.nili]) H'∧Bld H' n (l++x))
    (hst:∀(n:Nat)(l:List UInt8)(H:zaa),zkP H n l→l.length<100000000→∃H',call 39 [.ptr n 0] H=.val (.s l) H'∧zkP H' n l)(s:List UInt8)(q:Nat)(hs:s.length<1100000) :
    ∀(n i:Nat)(out:List UInt8)(t:Tm)(H:zaa),s.length<n+i→i≤s.length→out.length≤4*i+1→t.wid=f16.ntmps→t.get 0=.s s→t.get 4=.ptr q 0→t.get 12=.i .i64 s.length→t.get 13=.i .i64 (i:Nat)→Bld H q out →
    ctx prog TT [true,true,true,true,false,true,false,false] (zah f16) (zaV TT f16 (isR (.val (.tup [.s (out++((s.drop i).map fun c=>qtC c.toNat).flatten++[34]),.i .i64 0])))) (.norm t H):=by
  intro n
  induction n with
  |zero=>intro i out t H h1 h2;omega
  | succ n ih=>
    intro i out t H hn hi ho hw t0 t4 t12 t13 hb
    refine zbe.symIn (p:=[true,true,true,true,false,true,false]) zaf hC rfl zwB (by kernel_rfl) [.us s,.uh H,.un q,.ui (i:Nat)] rfl hw ⟨t0,t4,t12,t13,trivial⟩ rfl (zbd _ _) ?_
    clear t0 t4 t12 t13 hw
    simp -implicitDefEqProofs only[VC,isR,exU,Ask.den,forall_eq,E.den,O1.den,O2.den,O3.den,U.int_ui,U.boo_ub,U.val_uv,U.lst_ul,U.str_us,U.nat_un,U.heap_uh,SH.den,zaB,zbX,bD,SB.den,zaq,LQ,cons_append,nil_append,List.getElem?_cons_zero,List.getElem?_cons_succ,Option.getD_some,zam,zai,zan,zaj,beq_iff_eq,bne_iff_ne,beq_eq_false_iff_ne,Int.toNat_natCast,Bool.false_eq_true,if_false,if_true]
    have w1:IntKind.i64.wrap ((i:Int)+1)=((i+1:Nat):Int):=by rw[w64 (by omega) (by omega)];omega
    simp only[w1,Int.toNat_natCast]
    refine⟨fun h=>?_,fun h=>?_⟩
    · have hlt:i<s.length:=by omega
      obtain⟨c,hc⟩:=zeL s i hlt
      have hcb:=c.toNat_lt
      have hcons:s.drop i=c::s.drop (i+1):=by
        have e:=drop_eq_getElem_cons hlt
        rw[e]
        congr 1
        unfold atS at hc
        rw[Int.toNat_natCast,List.getElem?_eq_getElem hlt]at hc
        exact UInt8.toNat_inj.1 (Int.ofNat_inj.1 hc)
      have e:out++((s.drop i).map fun c=>qtC c.toNat).flatten++[34]=(out++qtC c.toNat)++((s.drop (i+1)).map fun c=>qtC c.toNat).flatten++[34]:=by
        rw[hcons];simp
      have hql:=zpo c.toNat
      rw[e,hc]
      have go:∀(H':zaa),Bld H' q (out++qtC c.toNat)→∀t':Tm,t'.wid=f16.ntmps→t'.get 0=.s s→t'.get 4=.ptr q 0→t'.get 12=.i .i64 s.length→t'.get 13=.i .i64 ((i+1:Nat):Int) →
          ctx prog TT [true,true,true,true,false,true,false,false] (zah f16) (zaV TT f16 (isR (.val (.tup [.s ((out++qtC c.toNat)++((s.drop (i+1)).map fun c=>qtC c.toNat).flatten++[34]),.i .i64 0])))) (.norm t' H'):=
        fun H' hb' t' hw' f0 f4 f12 f13=>ih (i+1) (out++qtC c.toNat) t' H' (by omega) (by omega) (by rw[length_append];omega) hw' f0 f4 f12 f13 hb'
      have st:∀x:List UInt8,x=qtC c.toNat→(∃(k:Int) (H':zaa),call 38 [.ptr q 0,.s x] H=.val (.tup [.i .i64 k,.nili]) H'∧∀t':Tm,t'.wid=f16.ntmps→t'.get 0=.s s→t'.get 4=.ptr q 0→t'.get 12=.i .i64 s.length→t'.get 13=.i .i64 ((i+1:Nat):Int) →
          ctx prog TT [true,true,true,true,false,true,false,false] (zah f16) (zaV TT f16 (isR (.val (.tup [.s ((out++qtC c.toNat)++((s.drop (i+1)).map fun c=>qtC c.toNat).flatten++[34]),.i .i64 0])))) (.norm t' H'))∨∃v H',call 38 [.ptr q 0,.s x] H=.pan v H'∧False:=by
        rintro x rfl
        obtain⟨H1,q1,b1⟩:=hws q out (qtC c.toNat) H hb (by omega)
        exact .inl ⟨_,H1,q1,go H1 b1⟩
      obtain⟨b1,b2,b3,b4⟩:=ztD c.toNat hcb
      have k1:c.toNat/16<16:=by omega
      have k2:c.toNat%16<16:=by omega
      have u1:IntKind.u8.wrap (((c.toNat/16:Nat):Int)+1)=((c.toNat/16+1:Nat):Int):=w8 (c.toNat/16+1) (by omega)
      have u2:IntKind.u8.wrap (((c.toNat%16:Nat):Int)+1)=((c.toNat%16+1:Nat):Int):=w8 (c.toNat%16+1) (by omega)
      have x1:=zoU _ k1
      have x2:=zoU _ k2
      simp only[b1,b2,b3,b4,u1,u2,Int.toNat_natCast,x1,x2]
      have cN:∀k:Nat,(c.toNat:Int)=k→c.toNat=k:=fun k h=>by omega
      have hx:(c.toNat<32∨c.toNat=127)→c.toNat≠34→c.toNat≠92→c.toNat≠10→c.toNat≠9→c.toNat≠13→c.toNat≠0→[92,120,zoS.getD (c.toNat/16) 0,zoS.getD (c.toNat%16) 0]=qtC c.toNat:=by
        intro h a1 a2 a3 a4 a5 a6
        unfold qtC
        rw[if_neg a1,if_neg a2,if_neg a3,if_neg a4,if_neg a5,if_neg a6,if_pos h]
      refine⟨by omega,fun h1=>⟨?_,st _ ?_⟩,fun h1=>⟨fun h2=>⟨?_,st _ ?_⟩,fun h2=>⟨fun h3=>st _ ?_,fun h3=>⟨fun h4=>st _ ?_,fun h4=>⟨fun h5=>st _ ?_,fun h5=>⟨fun h6=>st _ ?_,fun h6=>⟨fun h7=>?_,fun h7=>⟨fun h8=>?_,fun h8=>?_⟩⟩⟩⟩⟩⟩⟩⟩
      · rw[h1,zu6];simp
      · rw[h1,zu6,cN 34 h1];rfl
      · rw[h2,zu7];simp
      · rw[h2,zu7,cN 92 h2];rfl
      · rw[cN 10 h3];rfl
      · rw[cN 9 h4];rfl
      · rw[cN 13 h5];rfl
      · rw[cN 0 h6];rfl
      · exact⟨trivial,by omega,by omega,by omega,by simp,trivial,by omega,by omega,by omega,by simp,st _ (hx (.inl (by omega)) (by omega) (by omega) (by omega) (by omega) (by omega) (by omega))⟩
      · exact⟨trivial,by omega,by omega,by omega,by simp,trivial,by omega,by omega,by omega,by simp,st _ (hx (.inr (by omega)) (by omega) (by omega) (by omega) (by omega) (by omega) (by omega))⟩
      · have e2:qtC c.toNat=[c]:=by
          unfold qtC
          rw[if_neg (by omega),if_neg (by omega),if_neg (by omega),if_neg (by omega),if_neg (by omega),if_neg (by omega),if_neg (by omega),zgf]
        obtain⟨H1,q1,b1⟩:=hwb q out c H hb (by omega)
        exact .inl ⟨H1,q1,go H1 (by rw[e2];exact b1)⟩
    · have hlt:s.length≤i:=by omega
      rw[drop_eq_nil_of_le hlt]
      obtain⟨H1,q1,b1⟩:=hwb q out 34 H hb (by omega)
      obtain⟨H2,q2,b2⟩:=hst q (out++[34]) H1 b1.read (by simp;omega)
      refine .inl ⟨H1,q1,.inl ⟨_,H2,q2,?_⟩⟩
      simp
def qtR (s:List UInt8):V:=if Lib.validD s=true then .tup [.s ([34]++(s.map fun c=>qtC c.toNat).flatten++[34]),.i .i64 0]else .tup [.s [],.i .i64 2]
theorem zxK:∃g,zao prog TT 16 g∧∀s:List UInt8,s.length<1100000→∀H,g [.s s] H=(Res.val (qtR s)).at H:=by
 obtain⟨g1,k1,s1⟩:=zlK;obtain⟨g3,k3,s3⟩:=zwg;obtain⟨g4,k4,s4⟩:=zwe;obtain⟨g5,k5,s5⟩:=zwd;have hC:=ws (ws (ws (ws n0 k1) k3) k4) k5;have c1:∀x:List UInt8,x.length<20000000→∀H,((((zad.none.with 36 g1).with 37 g3).with 38 g4).with 39 g5) 36 [.s x] H=.val (.b (Lib.validD x)) H:=fun x hx H=>by
  rw[zac _ _ _ _ rfl,zac _ _ _ _ rfl,zac _ _ _ _ rfl,zap];exact s1 x (by omega) H
 have c3:∀(n:Nat)(l:List UInt8)(c:UInt8)(H:zaa),Bld H n l→l.length<100000000→∃H',((((zad.none.with 36 g1).with 37 g3).with 38 g4).with 39 g5) 37 [.ptr n 0,.i .u8 c.toNat] H=.val .nili H'∧Bld H' n (l++[c]):=fun n l c H h1 h2=>by
  rw[zac _ _ _ _ rfl,zac _ _ _ _ rfl,zap];obtain⟨H',q,b,_⟩:=s3 (n,l,c) H ⟨h1,h2⟩;exact⟨H',q,b⟩
 have c4:∀(n:Nat)(l x:List UInt8)(H:zaa),Bld H n l→l.length+x.length<100000000→∃H',((((zad.none.with 36 g1).with 37 g3).with 38 g4).with 39 g5) 38 [.ptr n 0,.s x] H=.val (.tup [.i .i64 x.length,.nili]) H'∧Bld H' n (l++x):=fun n l x H h1 h2=>by
  rw[zac _ _ _ _ rfl,zap];obtain⟨H',q,b,_⟩:=s4 (n,l,x) H ⟨h1,h2⟩;exact⟨H',q,b⟩
 have c5:∀(n:Nat)(l:List UInt8)(H:zaa),zkP H n l→l.length<100000000→∃H',((((zad.none.with 36 g1).with 37 g3).with 38 g4).with 39 g5) 39 [.ptr n 0] H=.val (.s l) H'∧zkP H' n l:=fun n l H h1 h2=>by
  rw[zap];exact s5 (n,l) H ⟨h1,h2⟩
 generalize(((zad.none.with 36 g1).with 37 g3).with 38 g4).with 39 g5=call at hC c1 c3 c4 c5;refine zbV zaf zaw 16 (fun s:List UInt8=>[.s s]) _ (fun s=>.val (qtR s)) (fun p _=>⟨rfl,by unfold qtR;split<;>rfl⟩)
  (fun a b _ _ h=>by
   simp only[List.cons.injEq,V.s.injEq,and_true]at h;rw[h]) fun s hs=>?_
 refine zaH.sym zaf hC (fn:=f16) rfl rfl (by simp[f16]) zwA (by kernel_rfl) [.us s,.uh []] rfl ⟨by rw[zag];rfl,trivial⟩ rfl (zbd _ _) ?_;simp -implicitDefEqProofs only[VC,isR,exU,Ask.den,forall_eq,E.den,O1.den,O2.den,O3.den,U.int_ui,U.boo_ub,U.val_uv,U.lst_ul,U.str_us,U.nat_un,U.heap_uh,SH.den,zaB,zbX,bD,SB.den,zaq,LQ,cons_append,nil_append,List.getElem?_cons_zero,List.getElem?_cons_succ,Option.getD_some,zam,zai,zan,zaj,beq_iff_eq,bne_iff_ne,beq_eq_false_iff_ne,Int.toNat_natCast,Bool.false_eq_true,if_false,if_true];refine .inl ⟨_,fun K=>c1 s (by omega) K,fun h=>?_,fun h=>?_⟩
 ·have hb:Bld ([]++[some ⟨66,[.nilp,.nils],.all⟩]) 0 []:=⟨_,.inl rfl,.inl ⟨rfl,rfl⟩⟩;obtain⟨H1,q1,b1⟩:=c3 0 [] 34 _ hb (by simp);refine .inl ⟨H1,q1,fun t hw t0 t4 t12 t13=>?_⟩;have e:qtR s=.tup [.s (([]++[34])++((s.drop 0).map fun c=>qtC c.toNat).flatten++[34]),.i .i64 0]:=by unfold qtR;rw[if_pos h];rfl
  rw[e];exact Tri.symLoop rfl (ztf hC c3 c4 c5 s 0 hs (s.length+1) 0 ([]++[34]) t H1 (by omega) (by omega) (by simp) hw t0 t4 t12 t13 b1)
 ·have e:qtR s=.tup [.s [],.i .i64 2]:=by unfold qtR;rw[if_neg (by rw[h];exact Bool.false_ne_true)]
  rw[e]
def zf0 (s:List UInt8):List Tk×Nat×Nat:=if 20000<s.length then([],0,16)else match zjI s (s.length+1) 0 true []with
 | .inl l=>(l,0,0)
 | .inr (a,e)=>([],a,e)
def tkV (l:List Tk):V:=.isl 4 (l.map fun x=>.agg (tkL x))
def zqy (p:List Tk×Nat×Nat):V:=.tup [tkV p.1,.i .i64 (p.2.1:Nat),.i .i64 (p.2.2:Nat)]
def zxY (p:List Tk×Nat×Nat)(r:OR):Prop:=∃(v:V)(J:zaa)(q m:Nat),r=.val (.tup [v,.i .i64 (p.2.1:Nat),.i .i64 (p.2.2:Nat)]) J∧zsC J q m v p.1
theorem zqC {p:List Tk×Nat×Nat}{r:OR}(h:zxY p r):∃v J k v' u,r=.val v J∧fz J k v=some v'∧zjK v' u∧u=zqy p:=by
 obtain⟨v,J,q,m,rfl,ho⟩:=h;rcases ho with⟨rfl,hl⟩|⟨n,rfl,hn,_⟩
 ·refine⟨_,J,5,_,_,rfl,by simp[fz,Ev.fzL]<;>rfl,?_,rfl⟩;unfold zqy tkV;rw[hl];exact zeK.tup (zeK.cons (zkN 4) (zeK.cons (zjK.refl _) (zeK.cons (zjK.refl _) zeK.nil)))
 ·obtain⟨l,a,c⟩:=p;simp only at hn ⊢;have hc:zar J n=some {ty:=34,cells:=tkC l,kind:=.more}:=by simp[zar,hn]
  have hlen:=zcB l;have hcut:cut (tkC l) (0*4) (l.length*4)=some (tkC l):=by
   simp only[cut];rw[if_pos (by omega),Nat.zero_mul,drop_zero,take_of_length_le (by omega)]
  have hf:=zoN (H:=J) l (4*l.length+7) (by omega);have hf1:fz J (4*l.length+8) (.sl n 4 0 l.length none)=some (.isl 4 (l.map fun x=>V.agg (tkL x))):=by
   simp only[fz,hc,hcut,hf,zhn,Option.map_some]
  have e2:Ev.fzL J (4*l.length+8) [V.i .i64 (a:Nat),V.i .i64 (c:Nat)]=some [V.i .i64 (a:Nat),V.i .i64 (c:Nat)]:=by simp[Ev.fzL,fz]
  have e1:Ev.fzL J (4*l.length+9) (V.sl n 4 0 l.length none::[V.i .i64 (a:Nat),V.i .i64 (c:Nat)])=some (V.isl 4 (l.map fun x=>V.agg (tkL x))::[V.i .i64 (a:Nat),V.i .i64 (c:Nat)]):=by
   rw[Ev.fzL,hf1,e2]
  refine⟨_,J,4*l.length+10,zqy (l,a,c),zqy (l,a,c),rfl,?_,zjK.refl _,rfl⟩;rw[fz,e1];rfl
theorem znU {call:zad}(hC:call.Sound prog TT)(D:List UInt8→Prop)(s:List UInt8)
 (hkw:call 29 [] zlG=.val (.mp 3) (zlG++za7))
 (hskip:∀(q m:Nat)(i:Nat)(l:Bool)(H:zaa),ScB H q s i l m→i≤s.length→s.length≤20000→skR H q s m (skQ s i l) (call 30 [.ptr q 0] H))
 (htok:∀(q m:Nat)(i:Nat)(l:Bool)(H:zaa),ScB H q s i l m→i<s.length→s.length≤20000→H[m]? = za7[0]?→m≠q→zsE D (s.drop i)→zuJ H q s i l m (zcM kw zcm (s.drop i)) (call 31 [.ptr q 0] H))
 (hD:s.length≤20000→zmD D s (s.length+1) 0 true):zkT prog TT 11 [.s s] [] (zxY (zf0 s)):=by
 refine⟨f11,_,rfl,rfl,by simp[f11],?_⟩;have h0:(Tm.init f11.ntmps [.s s]).get 0=.s s:=by rw[zag];rfl
 have hw:(Tm.init f11.ntmps [.s s]).wid=32:=rfl;generalize Tm.init f11.ntmps [.s s]=t at *;refine zdx.seq (zdx.lift ?_);refine Tri.regN (t':=?t1) (H':=?H1) zaf hC ?e1 ?q1;case e1=>
  refine zas ?_;iterate 3 refine zab rfl (by simp<;>rfl) (by rfl) (by simp[hw]) ?_
  exact zak
 refine zdx.seq (zdx.lift ?_);by_cases hl:(s.length:Int)≤20000
 ·have hl':s.length≤20000:=by omega
  have hgt:¬(20000:Int)<s.length:=by omega
  apply sQ;refine Tri.regN (t':=?t2) (H':=?H2) zaf hC ?e2 ?q2;case e2=>
   refine zas ?_;iterate 3 refine zab rfl (by simp[h0,hgt,hl]<;>rfl) (by rfl) (by simp[hw]) ?_
   exact zak
  apply sN;refine Tri.condG (o:=?o2) (b:=?b2) ?g2 ?r2 ?y2 ?n2;case g2=>simp<;>rfl
  case r2=>rfl
  case y2=>intro h;simp at h
  case n2=>
   intro _;apply Tri.skip;refine zdx.seq ?_;refine zdx.reg (f:=28) (caps:=[.ptr 0 0,.ptr 1 0,.ptr 2 0]) (vs:=[]) (xv:=?xv) (yv:=?yv) (t1:=?t3) (t2:=?t4) (H1:=?H3) (H2:=?H4) zaf hC 1 rfl rfl rfl ?e3 ?x3 ?xx ?y3 ?yy ?f3 ?e4 ?q3;case e3=>
    refine oA ?_;exact zak
   case x3=>simp<;>rfl
   case xx=>rfl
   case y3=>rfl
   case yy=>rfl
   case f3=>simp[hw]
   case e4=>exact zak
   refine zdx.seq (zdx.lift ?_);have ex:TT.ext 29=none:=rfl;have hkw':call 29 [] [some ⟨23,[.nils],.all⟩,some ⟨3,[.i .i64 0],.all⟩,some ⟨24,[.i .i64 0],.all⟩]=.val (.mp 3) (zlG++za7):=hkw;refine Tri.regN (t':=?t5) (H':=?H5) zaf hC ?e5 ?q5;case e5=>
    refine zas ?_;iterate 5 refine zab rfl (by simp[h0,hkw',ex]<;>rfl) (by rfl) (by simp[hw]) ?_
    exact zak
   refine zdx.lift ?_;apply bK;refine Tri.loop ?_;have hI:SI (zlG++za7++[some (scB s 0 true 3)]) (zlG++za7).length 3 s 0 true .nils []:=by
    refine⟨rfl,rfl,rfl,?_,rfl,.inl ⟨rfl,rfl⟩,by simp[zlG],by omega,by simp[zlG,za7]⟩;unfold ScB;simp
   refine zrv hC D s hl' _ 3 (fun i l H h1 h2=>hskip _ 3 i l H h1 h2 hl') (fun i l H h1 h2 h3 h4 h5=>htok _ 3 i l H h1 h2 hl' h3 h4 h5) (s.length+1) 0 true .nils [] _ _ (by omega) (by omega) (by simp) hI (hD hl') (by simp[hw]) (by simp[h0]) (by simp) (by simp) (by simp) (by simp[zlG,za7]) ?_ ?_
   ·intro t' H' toks v hsc f2 f3 f4 g0 g1 g2 hO;apply bR;have hT:zf0 s=(toks,0,0):=by unfold zf0;rw[if_neg (by omega),hsc]
    refine⟨H',_,⟨H',zm0 _ rfl H',rfl⟩,?_,v,H',_,_,rfl,by rw[hT];exact hO⟩;rw[hT];simp[f11,f2,f3,f4,g0,g1,g2]
   ·intro t' H' a e v hsc f2 f3 f4 g0 g1 g2;refine zg1 ?_;have hT:zf0 s=([],a,e):=by unfold zf0;rw[if_neg (by omega),hsc]
    have hl2:2<H'.length:=zaa.lt g2;refine⟨rfl,zmY H' e a,_,zmZ e a g0 g1 g2,?_,.nils,zmY H' e a,0,0,rfl,by rw[hT];exact .inl ⟨rfl,rfl⟩⟩;rw[hT];have k0:(zmY H' e a)[0]? = some (some ⟨23,[.nils],.all⟩):=by
     unfold zmY;rw[List.getElem?_set_ne (by omega),List.getElem?_set_ne (by omega),List.getElem?_set_self (by simp)]
    have k1:(zmY H' e a)[1]? = some (some ⟨3,[.i .i64 (a:Nat)],.all⟩):=by
     unfold zmY;rw[List.getElem?_set_ne (by omega),List.getElem?_set_self (by simp;omega)]
    have k2:(zmY H' e a)[2]? = some (some ⟨24,[.i .i64 (e:Nat)],.all⟩):=by
     unfold zmY;rw[List.getElem?_set_self (by simp;omega)]
    simp[f11,f2,f3,f4,k0,k1,k2]
 ·have hgt:(20000:Int)<s.length:=by omega
  have hT:zf0 s=([],0,16):=by unfold zf0;rw[if_pos (by omega)]
  apply sQ;refine Tri.regN (t':=?t6) (H':=?H6) zaf hC ?e6 ?q6;case e6=>
   refine zas ?_;iterate 3 refine zab rfl (by simp[h0,hgt]<;>rfl) (by rfl) (by simp[hw]) ?_
   exact zak
  apply sN;refine Tri.condG (o:=?o6) (b:=?b6) ?g6 ?r6 ?y6 ?n6;case g6=>simp<;>rfl
  case r6=>rfl
  case n6=>intro h;simp at h
  case y6=>
   intro _;apply sQ;refine Tri.regN (t':=?t7) (H':=?H7) zaf hC ?e7 ?q7;case e7=>
    refine zas ?_;iterate 3 refine zab rfl (by simp<;>rfl) (by rfl) (by simp[hw]) ?_
    exact zak
   apply sN;apply Tri.ret;refine⟨_,_,rfl,?_,.nils,_,0,0,rfl,by rw[hT];exact .inl ⟨rfl,rfl⟩⟩;rw[hT];simp[f11]
theorem zkH {P:Program}{T:Tab}(hT:TOk P T)(hp:T.Plain)(F:FuncId){α:Type}(enc:α→List V)(D:α→Prop)(r:α→V)(hnl:∀a,D a→nlL (enc a)=true)(inj:∀a b,D a→D b→enc a=enc b→r a=r b)
 (h:∀a,D a→zbZ P T F (enc a) [] fun x=>∃v J k v' u,x=.val v J∧fz J k v=some v'∧zjK v' u∧u=r a):∃g,zao P T F g∧∀a,D a→∀H,g (enc a) H=.val (r a) H:=by
 obtain⟨g0,k0,s0⟩:=zbZ.spec (F:=F) hT (D:=fun vs H=>H=[]∧∃a,D a∧vs=enc a) (R:=fun vs _ x=>∃a,D a∧vs=enc a∧∃v J k v' u,x=.val v J∧fz J k v=some v'∧zjK v' u∧u=r a) (by
  rintro vs H ⟨rfl,a,ha,rfl⟩;exact(h a ha).mono fun x hx=>⟨a,ha,rfl,hx⟩)
 obtain⟨g,k,s⟩:=zp7 hp k0 (fun vs=>∃a,D a∧vs=enc a) (fun vs u=>∃a,D a∧vs=enc a∧u=r a) (by
  rintro vs ⟨a,ha,rfl⟩;refine⟨hnl a ha,?_⟩;obtain⟨x,⟨b,hb,he,v,J,n,v',u,rfl,h1,h2,h3⟩,h4⟩:=s0 (enc a) [] ⟨rfl,a,ha,rfl⟩;exact⟨v,J,n,v',u,h4,h1,h2,b,hb,he,h3⟩)
 refine⟨g,k,fun a ha H=>?_⟩;obtain⟨u,⟨b,hb,he,rfl⟩,h2⟩:=s (enc a) ⟨a,ha,rfl⟩;rw[h2 H,inj a b ha hb he]
theorem zkG (D:List UInt8→Prop)(hf:∀s at_,D s→s.length<1100000→zuw s at_):∃g,zao prog TT 11 g∧∀s:List UInt8,(s.length≤20000→zmD D s (s.length+1) 0 true)→∀H,g [.s s] H=.val (zqy (zf0 s)) H:=by
 obtain⟨g1,k1,s1⟩:=zvS;obtain⟨g2,k2,s2⟩:=zp1 D hf;have hC:=ws (ws (ws n0 k1) k2) zxv;have c1:∀(q m:Nat)(s:List UInt8)(i:Nat)(l:Bool)(H:zaa),ScB H q s i l m→i≤s.length→s.length≤20000→skR H q s m (skQ s i l) ((((zad.none.with 30 g1).with 31 g2).with 29 zlM) 30 [.ptr q 0] H):=fun q m s i l H h1 h2 h3=>by
  rw[zac _ _ _ _ rfl,zac _ _ _ _ rfl,zap];exact s1 (q,s,i,l,m) H ⟨h1,h2,by simp only;omega⟩
 have c2:∀(q m:Nat)(s:List UInt8)(i:Nat)(l:Bool)(H:zaa),ScB H q s i l m→i<s.length→s.length≤20000→H[m]? = za7[0]?→m≠q→zsE D (s.drop i)→zuJ H q s i l m (zcM kw zcm (s.drop i)) ((((zad.none.with 30 g1).with 31 g2).with 29 zlM) 31 [.ptr q 0] H):=fun q m s i l H h1 h2 h3 h4 h5 h6=>by
  rw[zac _ _ _ _ rfl,zap];exact s2 q s i l m H h1 h2 (by omega) h4 h5 h6
 have c3:(((zad.none.with 30 g1).with 31 g2).with 29 zlM) 29 [] zlG=.val (.mp 3) (zlG++za7):=by
  rw[zap];simp[zlM,zaa.beq_refl]
 generalize((zad.none.with 30 g1).with 31 g2).with 29 zlM=call at hC c1 c2 c3;exact zkH zaf zaw 11 (fun s=>[.s s]) (fun s:List UInt8=>s.length≤20000→zmD D s (s.length+1) 0 true) (fun s=>zqy (zf0 s)) (fun _ _=>rfl) (fun a b _ _ h=>by simp only[List.cons.injEq,V.s.injEq,and_true]at h;rw[h])
  fun s hs=>(zkT.fact zaf (znU hC D s c3 (fun q m i l H h1 h2 h3=>c1 q m s i l H h1 h2 h3) (fun q m i l H h1 h2 h3 h4 h5 h6=>c2 q m s i l H h1 h2 h3 h4 h5 h6) hs)).mono fun r hr=>zqC hr
def aw1:List UInt8:=[108,101,116,32,120,39,32,61,32,48,120,70,70,32,47,47,32,97]
def aw2:List UInt8:=[49,46,101,32,97,46,62,98,32,34,97,92,120,52,49,34]
theorem zsL:zf0 aw1=([(2,[108,101,116],0,true),(1,[120,39],4,false),(6,[61],7,false),(3,[50,53,53],9,false)],0,0):=by kernel_rfl
theorem zsM:zf0 aw2=([(3,[49],0,true),(6,[46],1,false),(1,[101],2,false),(1,[97],4,false),(6,[46,62],5,false),(1,[98],7,false),(5,[97,65],9,false)],0,0):=by kernel_rfl
end Go.Ev
