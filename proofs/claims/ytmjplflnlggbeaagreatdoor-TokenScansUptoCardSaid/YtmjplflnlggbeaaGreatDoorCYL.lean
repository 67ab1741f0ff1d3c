/- Walks and specification: a run of digits. Walks and specification: an exponent. What is left of the text at a place. Walks and specification: HasPrefix. Walks and specification: sign. What look-ups in small maps and must come to. strings.Builder: what stands in its block. strings.Builder: WriteByte, WriteString and String. ValidRune and escape. Trees of quoted. The loop of quoted. quoted. Contracts of the library laid at this program's numbers. -/
import Derived.Test.YtmjplflnlggbeaaGreatDoorCZA
import Derived.Test.YtmjplflnlggbeaaGreatDoorCWE
import Derived.Test.YtmjplflnlggbeaaGreatDoorCT38
import Derived.Shelf.Small.Strs
import Derived.Shelf.Utf8.RuneCount
import Derived.Shelf.Strings.Search3
import Derived.Shelf.Unicode.DecodeAny
namespace Go.Ev
open Go Go.Proofs
set_option linter.unusedSimpArgs false
set_option linter.unusedVariables false
set_option linter.unnecessarySimpa false
open Tryz List
set_option maxRecDepth 100000
abbrev zdS (call:zad):Prop:=∀(b:Bool)(e k:Int)(H:zaa),call 55 [.b b,.i .i64 e,.i .i64 k] H=if b=true then .val .un H else .pan (zcA e k) H
theorem zaV {call:zad}(hm:zdS call)(b:Bool)(e k:Int){A:Prop}{B:V→Prop}(h1:b=true→A)(h2:b=false→B (zcA e k)) :
 ((∀K,call 55 [.b b,.i .i64 e,.i .i64 k] K=.val (.tup []) K)∧A)∨∃v,(∀K,call 55 [.b b,.i .i64 e,.i .i64 k] K=.pan v K)∧B v:=by
 cases b with
 |true=>exact .inl ⟨fun K=>hm true e k K,h1 rfl⟩
 |false=>exact .inr ⟨_,fun K=>hm false e k K,h2 rfl⟩
def zb7 (base:Int):List UInt8→Nat→Option Nat
 | [],n=>some n
 |c::r,n=>if zbW c.toNat<base then zb7 base r (n+1)else if c.toNat≠95∨n=0 then some n else match r with
  |d::_=>if zbW d.toNat<base then zb7 base r (n+1)else none
  | []=>none
theorem zxv:za2 TT shp f75.ntmps [] (zae f75) [] ⟨[(0,.f1 .vs (.va 0)),(1,.f1 (.vi .i64) (.va 1)),(2,.f1 (.vi .i64) (.va 2))],⟨.va 3,[],[]⟩,4,[]⟩ (KF TT f75 [0,1,2,7])=.leaf (.stop [true,true,false,false]) [(0,xs v0),(1,xi v1),(2,xi v2),(7,xi c0)] ⟨v3,[],[]⟩:=by kernel_rfl
theorem zs9:goT TT shp f75.ntmps [] [true,true,false,false,false] (zae f75) [] ⟨[(0,.f1 .vs (.va 0)),(1,.f1 (.vi .i64) (.va 1)),(2,.f1 (.vi .i64) (.va 2)),(7,.f1 (.vi .i64) (.va 3))],⟨.va 4,[],[]⟩,5,[]⟩ (KF TT f75 [0,1,2,7])=let qc:E:=xw (xa v3 c1);let qb:SH:=⟨v4,[],[]⟩;let qa:Tree:=.leaf (.again [true,true,false,false,false]) [(0,xs v0),(1,xi v1),(2,xi v2),(7,xi qc)] qb;let qd:Tree:=.fin (xi v3) qb;.ite (xL v3 (xl v0)) (.need (xE c0 v3) (.asks (.call 94 (x2 (xu (xA v0 v3)) (xi v1))) [.i,.b] (xt (x2 (xv v5) (xb v6))) (.ite v6 qa (.ite (xM (xA v0 v3) (xc 95)) qd (.ite (xe v3 c0) qd (.ite (xL qc (xl v0)) (.need (xE c0 qc) (.asks (.call 94 (x2 (xu (xA v0 qc)) (xi v1))) [.i,.b] (xt (x2 (xv v7) (xb v8))) (.asks (.call 55 (x3 (xb v8) (xi (xc 33)) (xi v2))) [] (.cv (.tup [])) qa (.pnc v9 qb)) (.stuck 0))) (.asks (.call 55 (x3 (xb (xL qc (xl v0))) (xi (xc 33)) (xi v2))) [] (.cv (.tup [])) qa (.pnc v7 qb)))))) (.stuck 0))) qd:=by kernel_rfl
def rnV (o:Option Nat)(at_:Int):Res:=match o with
 |some n=>.val (.i .i64 n)
 |none=>.pan (zcA 33 at_)
theorem zt1 {call:zad} (hC:call.Sound prog TT) (hm:zdS call) (base at_:Int) (hval:∀c:UInt8,∀H,call 94 [.i .u8 c.toNat,.i .i64 base] H=.val (.tup [.i .u64 (zbW c.toNat),.b (decide (zbW c.toNat<base))]) H) :
    ∀(L pre:List UInt8)(t:Tm)(H:zaa),(pre++L).length<1100000→t.wid=f75.ntmps→t.get 0=.s (pre++L)→t.get 1=.i .i64 base→t.get 2=.i .i64 at_→t.get 7=.i .i64 pre.length →
    ctx prog TT [true,true,false,false,false] (zae f75) (za1 TT f75 (isR (rnV (zb7 base L pre.length) at_))) (.norm t H):=by
  intro L
  induction L with
  | nil=>
    intro pre t H hlen hw t0 t1 t2 t7
    refine zaP.symIn (p:=[true,true,false,false]) zah hC rfl zs9 (by kernel_rfl) [.us (pre++[]),.ui base,.ui at_,.ui (pre.length:Nat),.uh H] rfl hw ⟨t0,t1,t2,t7,trivial⟩ rfl (zaW _ _) ?_
    simp -implicitDefEqProofs only[VC,isR,exU,Ask.den,forall_eq,E.den,O1.den,O2.den,O3.den,U.int_ui,U.boo_ub,U.val_uv,U.lst_ul,U.str_us,U.nat_un,U.heap_uh,SH.den,zaF,zbH,bD,SB.den,zas,LQ,cons_append,nil_append,List.getElem?_cons_zero,List.getElem?_cons_succ,Option.getD_some,zam,zai,zan,zaj,beq_iff_eq,bne_iff_ne,beq_eq_false_iff_ne,Int.toNat_natCast]
    rw[append_nil]
    exact⟨fun h=>absurd h (by omega),fun _=>rfl⟩
  | cons b L ih=>
    intro pre t H hlen hw t0 t1 t2 t7
    refine zaP.symIn (p:=[true,true,false,false]) zah hC rfl zs9 (by kernel_rfl) [.us (pre++b::L),.ui base,.ui at_,.ui (pre.length:Nat),.uh H] rfl hw ⟨t0,t1,t2,t7,trivial⟩ rfl (zaW _ _) ?_
    clear t0 t1 t2 t7 hw
    simp -implicitDefEqProofs only[VC,isR,exU,Ask.den,forall_eq,E.den,O1.den,O2.den,O3.den,U.int_ui,U.boo_ub,U.val_uv,U.lst_ul,U.str_us,U.nat_un,U.heap_uh,SH.den,zaF,zbH,bD,SB.den,zas,LQ,cons_append,nil_append,List.getElem?_cons_zero,List.getElem?_cons_succ,Option.getD_some,zam,zai,zan,zaj,beq_iff_eq,bne_iff_ne,beq_eq_false_iff_ne,Int.toNat_natCast]
    have hl:(pre++b::L).length=pre.length+(L.length+1):=by simp
    rw[hl]at hlen
    have w1:IntKind.i64.wrap ((pre.length:Int)+1)=((pre.length+1:Nat):Int):=by rw[w64 (by omega) (by omega)];omega
    simp only[w1,Int.toNat_natCast,zjL pre L b _ rfl,hl]
    have e1:pre++b::L=(pre++[b])++L:=by simp
    have e2:((pre.length+1:Nat):Int)=((pre++[b]).length:Nat):=by simp
    have go:zb7 base (b::L) pre.length=zb7 base L (pre.length+1)→∀t:Tm,t.wid=f75.ntmps→t.get 0=.s (pre++b::L)→t.get 1=.i .i64 base→t.get 2=.i .i64 at_→t.get 7=.i .i64 ((pre.length+1:Nat):Int) →
        ctx prog TT [true,true,false,false,false] (zae f75) (za1 TT f75 (isR (rnV (zb7 base (b::L) pre.length) at_))) (.norm t H):=fun e t hw f0 f1 f2 f7=>by
      have:=ih (pre++[b]) t H (by simp;omega) hw (by rw[f0,e1]) f1 f2 (by rw[f7,e2])
      rw[e]
      simpa using this
    refine⟨fun _=>⟨by omega,.inl ⟨_,_,hval b,fun hv=>go (by simp only[zb7,if_pos (of_decide_eq_true hv)]),fun hv=>⟨fun h95=>?_,fun h95=>⟨fun h0=>?_,fun h0=>?_⟩⟩⟩⟩,fun h=>absurd h (by omega)⟩
    · simp only[zb7]
      rw[if_neg (of_decide_eq_false hv),if_pos (.inl (fun e=>by rw[e]at h95;exact absurd h95 (by decide)))]
      rfl
    · simp only[zb7]
      rw[if_neg (of_decide_eq_false hv),if_pos (.inr (by omega))]
      rfl
    · have hu:¬(b.toNat≠95∨pre.length=0):=by
        simp only[bne_eq_false_iff_eq]at h95
        omega
      cases L with
      | nil=>
        refine⟨fun h=>absurd h (by simp),fun h=>?_⟩
        refine zaV hm _ _ _ (fun hb=>by simp at hb) fun _=>?_
        simp only[zb7]
        rw[if_neg (of_decide_eq_false hv),if_neg hu]
        rfl
      | cons d r=>
        have hat:atS (pre++b::d::r) ((pre.length+1:Nat):Int)=d.toNat:=by
          rw[show pre++b::d::r=(pre++[b])++d::r from by simp]
          exact zjL (pre++[b]) r d _ (by simp)
        rw[hat]
        refine⟨fun h=>⟨by omega,.inl ⟨_,_,hval d,zaV hm _ _ _ (fun hb=>go ?_) fun hb=>?_⟩⟩,fun h=>absurd h (by simp only[length_cons];omega)⟩
        · simp only[zb7]
          rw[if_neg (of_decide_eq_false hv),if_neg hu]
          rw[if_pos (of_decide_eq_true hb)]
        · simp only[zb7]
          rw[if_neg (of_decide_eq_false hv),if_neg hu]
          rw[if_neg (of_decide_eq_false hb)]
          rfl
theorem zs3:∃g,zap prog TT 75 g∧∀(s:List UInt8)(base at_:Int),s.length<1100000→base=2∨base=10∨base=16→∀H,g [.s s,.i .i64 base,.i .i64 at_] H=(match zb7 base s 0 with|some n=>.val (.i .i64 n) H|none=>.pan (zcA 33 at_) H):=by
 obtain⟨g1,k1,s1⟩:=zqs;obtain⟨g2,k2,s2⟩:=zd3;obtain⟨g,k,s⟩:=zcx zah zat 75 (fun p:List UInt8×Int×Int=>[.s p.1,.i .i64 p.2.1,.i .i64 p.2.2]) (fun p=>p.1.length<1100000∧(p.2.1=2∨p.2.1=10∨p.2.1=16)) (fun p=>rnV (zb7 p.2.1 p.1 0) p.2.2) (fun p _=>⟨rfl,by unfold rnV;split<;>rfl⟩)
  (fun a b _ _ h=>by
   simp only[List.cons.injEq,V.s.injEq,V.i.injEq,true_and,and_true]at h;rw[h.1,h.2.1,h.2.2]) fun p hp=>by
  obtain⟨s,base,at_⟩:=p;simp only at hp ⊢;have hC:=ws (ws n0 k1) k2;have c1:zdS ((zad.none.with 94 g1).with 55 g2):=fun b e k H=>by rw[zao];exact s2 b e k H
  have c2:∀c:UInt8,∀H,((zad.none.with 94 g1).with 55 g2) 94 [.i .u8 c.toNat,.i .i64 base] H=.val (.tup [.i .u64 (zbW c.toNat),.b (decide (zbW c.toNat<base))]) H:=fun c H=>by
   rw[zac _ _ _ _ rfl,zao];exact s1 _ _ (by omega) (by have:=c.toNat_lt;omega) hp.2 H
  generalize(zad.none.with 94 g1).with 55 g2=call at hC c1 c2;refine zaO.sym zah hC (fn:=f75) rfl rfl (by simp[f75]) zxv (by kernel_rfl) [.us s,.ui base,.ui at_,.uh []] rfl ⟨by rw[zag];rfl,by rw[zag];rfl,by rw[zag];rfl,trivial⟩ rfl (zaW _ _) ?_;simp -implicitDefEqProofs only[VC,isR,exU,Ask.den,forall_eq,E.den,O1.den,O2.den,O3.den,U.int_ui,U.boo_ub,U.val_uv,U.lst_ul,U.str_us,U.nat_un,U.heap_uh,SH.den,zaF,zbH,bD,SB.den,zas,LQ,cons_append,nil_append,List.getElem?_cons_zero,List.getElem?_cons_succ,Option.getD_some,zam,zai,zan,zaj,beq_iff_eq,bne_iff_ne,beq_eq_false_iff_ne,Int.toNat_natCast];intro t hw t0 t1 t2 t7;exact Tri.symLoop rfl (zt1 hC c1 base at_ c2 s [] t _ (by simpa using hp.1) hw t0 t1 t2 t7)
 refine⟨g,k,fun x base at_ hx hb H=>?_⟩;have:=s (x,base,at_) ⟨hx,hb⟩ H;rw[this];unfold rnV;cases zb7 base x 0<;>rfl
def zfn:List UInt8→Nat
 |d::_=>if d=43∨d=45 then 2 else 1
 | []=>1
def zge:List UInt8→Option Nat
  | []=>some 0
  | c :: r=>if c=101∨c=69 then match zb7 10 ((c::r).drop (zfn r)) 0 with
      |some (k+1)=>some (zfn r+(k+1))
      |_=>none
    else some 0
def zug (o:Option Nat)(at_:Int):Res:=match o with
 |some n=>.val (.i .i64 n)
 |none=>.pan (zcA 33 at_)
theorem zcj (base:Int):∀(L:List UInt8)(n m:Nat),zb7 base L n=some m→m≤n+L.length
 | [],n,m,h=>by simp only[zb7,Option.some.injEq]at h;simp;omega
 | [c],n,m,h=>by
  simp only[zb7]at h;split at h
  ·simp only[Option.some.injEq]at h;simp;omega
  ·split at h
   ·simp only[Option.some.injEq]at h;simp;omega
   ·cases h
 |c::d::r,n,m,h=>by
  rw[zb7]at h;split at h
  ·have:=zcj base (d::r) (n+1) m h;simp only[length_cons]at this ⊢;omega
  ·split at h
   ·simp only[Option.some.injEq]at h;simp only[length_cons];omega
   ·split at h
    ·have:=zcj base (d::r) (n+1) m h;simp only[length_cons]at this ⊢;omega
    ·cases h
theorem zyy:za2 TT shp f77.ntmps [] (zae f77) [] ⟨[(0,.f1 .vs (.va 0)),(1,.f1 (.vi .i64) (.va 1))],⟨.va 2,[],[]⟩,3,[]⟩ (KF TT f77 [])=let qd:SH:=⟨v2,[],[]⟩;let qf:E:=xl v0;let qe:E:=x3 (xb (xG v3 c0)) (xi (xc 33)) (xi v1);let qb:Tree:=.need (xE c2 qf) (.asks (.call 75 (x3 (xs (.f3 .sub v0 c2 qf)) (xi c10) (xi v1))) [.i] (xi v3) (.asks (.call 55 qe) [] (.cv (.tup [])) (.fin (xi (xw (xa c2 v3))) qd) (.pnc v4 qd)) (.pnc v3 qd));let qc:Tree:=.need (xE c1 qf) (.asks (.call 75 (x3 (xs (.f3 .sub v0 c1 qf)) (xi c10) (xi v1))) [.i] (xi v3) (.asks (.call 55 qe) [] (.cv (.tup [])) (.fin (xi (xw (xa c1 v3))) qd) (.pnc v4 qd)) (.pnc v3 qd));let qa:Tree:=.ite (xL c1 qf) (.ite (xe (xA v0 c1) (xc 43)) qb (.ite (xe (xA v0 c1) (xc 45)) qb qc)) qc;.ite (xQ v0 (.cs [])) (.fin (xi c0) qd) (.need (xL c0 qf) (.ite (xM (xA v0 c0) (xc 101)) (.ite (xM (xA v0 c0) (xc 69)) (.fin (xi c0) qd) qa) qa)):=by kernel_rfl
theorem zwS:∃g,zap prog TT 77 g∧∀(s:List UInt8) (at_:Int),s.length<1100000→∀H,g [.s s,.i .i64 at_] H=(zug (zge s) at_).at H:=by
  obtain⟨g1,k1,s1⟩:=zs3
  obtain⟨g2,k2,s2⟩:=zd3
  obtain ⟨g, k,s⟩:=zcx zah zat 77 (fun p:List UInt8×Int=>[.s p.1,.i .i64 p.2]) (fun p=>p.1.length<1100000) (fun p=>zug (zge p.1) p.2) (fun p _=>⟨rfl,by unfold zug;split<;>rfl⟩)
    (fun a b _ _ h=>by
      simp only[List.cons.injEq,V.s.injEq,V.i.injEq,true_and,and_true]at h
      rw[h.1,h.2]) fun p hp=>by
    obtain⟨s,at_⟩:=p
    simp only at hp ⊢
    have hC:=ws (ws n0 k1) k2
    have c1:zdS ((zad.none.with 75 g1).with 55 g2):=fun b e k H=>by rw[zao];exact s2 b e k H
    have c2:∀(x:List UInt8),x.length<1100000→∀H,((zad.none.with 75 g1).with 55 g2) 75 [.s x,.i .i64 10,.i .i64 at_] H=(match zb7 10 x 0 with|some n=>.val (.i .i64 n) H|none=>.pan (zcA 33 at_) H):=fun x hx H=>by rw[zac _ _ _ _ rfl,zao];exact s1 x 10 at_ hx (by simp) H
    generalize(zad.none.with 75 g1).with 55 g2=call at hC c1 c2
    refine zaO.sym zah hC (fn:=f77) rfl rfl (by simp[f77]) zyy (by kernel_rfl) [.us s,.ui at_,.uh []] rfl ⟨by rw[zag];rfl,by rw[zag];rfl,trivial⟩ rfl (zaW _ _) ?_
    simp -implicitDefEqProofs only[VC,isR,exU,Ask.den,forall_eq,E.den,O1.den,O2.den,O3.den,U.int_ui,U.boo_ub,U.val_uv,U.lst_ul,U.str_us,U.nat_un,U.heap_uh,SH.den,zaF,zbH,bD,SB.den,zas,LQ,cons_append,nil_append,List.getElem?_cons_zero,List.getElem?_cons_succ,Option.getD_some,zam,zai,zan,zaj,beq_iff_eq,bne_iff_ne,beq_eq_false_iff_ne,Int.toNat_natCast]
    have wq:∀q k:Nat,q<1200000→k<1200000→IntKind.i64.wrap ((q:Int)+k)=((q+k:Nat):Int):=fun q k h1 h2=>by rw[w64 (by omega) (by omega)];omega
    have tail:∀q:Nat,q≤2→q≤s.length→(zge s=match zb7 10 (s.drop q) 0 with|some (k+1)=>some (q+(k+1))|_=>none) →
        ((q:Int)≤s.length∧((∃x:Int,(∀K,call 75 [.s ((s.take s.length).drop q),.i .i64 10,.i .i64 at_] K=.val (.i .i64 x) K)∧(((∀K,call 55 [.b (ltB 0 x),.i .i64 33,.i .i64 at_] K=.val (.tup []) K)∧zug (zge s) at_=.val (.i .i64 (IntKind.i64.wrap ((q:Int)+x))))∨∃v,(∀K,call 55 [.b (ltB 0 x),.i .i64 33,.i .i64 at_] K=.pan v K)∧zug (zge s) at_=.pan v))∨∃v,(∀K,call 75 [.s ((s.take s.length).drop q),.i .i64 10,.i .i64 at_] K=.pan v K)∧zug (zge s) at_=.pan v)):=by
      intro q hq hql he
      refine⟨by omega,?_⟩
      rw[take_length]
      have hrun:=c2 (s.drop q) (by rw[length_drop];omega)
      cases hr:zb7 10 (s.drop q) 0 with
      | none=>
        rw[hr]at hrun he
        exact .inr ⟨_,hrun,by rw[he];rfl⟩
      | some k=>
        rw[hr]at hrun he
        have hle:=zcj 10 _ _ _ hr
        rw[length_drop]at hle
        refine .inl ⟨_,hrun,zaV c1 _ _ _ (fun hb=>?_) fun hb=>?_⟩
        · cases k with
          |zero=>exact absurd hb (by decide)
          | succ k=>
            rw[he,wq q (k+1) (by omega) (by omega)]
            rfl
        · cases k with
          |zero=>rw[he];rfl
          |succ k=>rw[zai]at hb;omega
    cases s with
    |nil=>exact⟨fun _=>rfl,fun h=>absurd rfl h⟩
    | cons c r=>
      have u8:∀(a:UInt8)(n:Nat),a.toNat=n→∀x:UInt8,((x.toNat:Nat):Int)=(n:Int)→x=a:=fun a n h x hx=>UInt8.toNat.inj (by omega)
      have h0:atS (c::r) 0=c.toNat:=rfl
      have ex:∀q,zfn r=q→(c=101∨c=69)→zge (c::r)=match zb7 10 ((c::r).drop q) 0 with|some (k+1)=>some (q+(k+1))|_=>none:=by
        rintro q rfl hc
        simp only[zge,if_pos hc]
      have sg2:(1:Int)<(c::r).length→(atS (c::r) 1=43∨atS (c::r) 1=45)→zfn r=2:=fun hl h=>by
        cases r with
        |nil=>exact absurd hl (by simp only[length_cons,length_nil];omega)
        | cons d r=>
          have h1:atS (c::d::r) 1=d.toNat:=rfl
          rw[h1]at h
          simp only[zfn]
          rw[if_pos (by rcases h with h|h;exact .inl (u8 43 43 rfl d h);exact .inr (u8 45 45 rfl d h))]
      have sg1:¬((1:Int)<(c::r).length∧(atS (c::r) 1=43∨atS (c::r) 1=45))→zfn r=1:=fun h=>by
        cases r with
        |nil=>rfl
        | cons d r=>
          have h1:atS (c::d::r) 1=d.toNat:=rfl
          rw[h1]at h
          simp only[zfn]
          rw[if_neg (by rintro(rfl|rfl)<;>exact h ⟨by simp only[length_cons];omega,by decide⟩)]
      have hlen:(1:Int)≤(c::r).length:=by simp only[length_cons];omega
      have t1:(c=101∨c=69)→¬((1:Int)<(c::r).length∧(atS (c::r) 1=43∨atS (c::r) 1=45))→_:=fun hc h=>tail 1 (by omega) (by omega) (ex 1 (sg1 h) hc)
      have t2:(c=101∨c=69)→(1:Int)<(c::r).length→(atS (c::r) 1=43∨atS (c::r) 1=45)→_:=fun hc hl h=>tail 2 (by omega) (by omega) (ex 2 (sg2 hl h) hc)
      have no:c≠101→c≠69→zug (zge (c::r)) at_=.val (.i .i64 0):=fun a b=>by
        simp only[zge]
        rw[if_neg (by rintro(h|h);exact a h;exact b h)]
        rfl
      refine⟨fun h=>(by cases h),fun _=>⟨by omega,fun a=>⟨fun b=>no (fun e=>a (by rw[e];rfl)) (fun e=>b (by rw[e];rfl)),fun b=>?_⟩,fun a=>?_⟩⟩
      · have hc:c=101∨c=69:=.inr (u8 69 69 rfl c (by simpa[h0]using b))
        exact⟨fun hl=>⟨fun h=>t2 hc hl (.inl h),fun h=>⟨fun h'=>t2 hc hl (.inr h'),fun h'=>t1 hc (fun x=>by rcases x.2 with x|x;exact h x;exact h' x)⟩⟩,fun hl=>t1 hc (fun x=>hl x.1)⟩
      · have hc:c=101∨c=69:=.inl (u8 101 101 rfl c (by simpa[h0]using a))
        exact⟨fun hl=>⟨fun h=>t2 hc hl (.inl h),fun h=>⟨fun h'=>t2 hc hl (.inr h'),fun h'=>t1 hc (fun x=>by rcases x.2 with x|x;exact h x;exact h' x)⟩⟩,fun hl=>t1 hc (fun x=>hl x.1)⟩
  exact⟨g,k,fun x at_ hx H=>s (x,at_) hx H⟩
def ScB (H:zaa)(n:Nat)(s:List UInt8)(i:Nat)(l:Bool)(m:Nat):Prop:=H[n]? = some (some {ty:=55,cells:=[.s s,.i .i64 i,.b l,.mp m],kind:=.all})
theorem zoz {call:zad}(hC:call.Sound prog TT)(H:zaa)(n:Nat)(s:List UInt8)(i:Nat)(l:Bool)(m:Nat)(hb:H[n]? = some (some {ty:=55,cells:=[.s s,.i .i64 i,.b l,.mp m],kind:=.all}))(hi:(i:Int)≤s.length)  : zir prog TT 48 [.ptr n 0] H (fun v H2=>v=.s (s.drop i)∧H2=H):=by
 refine en f48 rfl rfl (by simp[f48]) 12 rfl fun t hw hg=>?_;have h0:=hg 0 _ rfl;clear hg;try simp only[Nd.enc_eq]at *
 have hF:=ai @h0 (ai @hb @hi);apply rS hC
 ·refine oA ?_;rfl
 apply sQ;refine Tri.regN (t':=?t2) (H':=?H2) zah hC ?e2 ?q2;case e2=>
  refine zbT (t':=?t2) (by kernel_rfl) ?_ ?r902;iterate 10 refine QR.val rfl (by simp[hF]<;>rfl) (by rfl) (by simp[hw]) ?_
  exact QR.nil;case r902=>exact rfl
 apply sN;apply Tri.ret;refine ztJ (by simp[f48,hF]<;>rfl) (by rfl) ?_;exact⟨rfl,rfl⟩
theorem zs2:∃g,zap prog TT 48 g∧∀(n:Nat)(s:List UInt8)(i:Nat)(l:Bool)(m:Nat)(H:zaa),ScB H n s i l m→i≤s.length→g [.ptr n 0] H=.val (.s (s.drop i)) H:=by
 obtain⟨g,h,k⟩:=zhu.spec (F:=48) zah (D:=fun vs H=>∃(n:Nat)(s:List UInt8)(i:Nat)(l:Bool)(m:Nat),ScB H n s i l m∧i≤s.length∧vs=[.ptr n 0]) (R:=fun vs H v H2=>∀(n:Nat)(s:List UInt8)(i:Nat)(l:Bool)(m:Nat),ScB H n s i l m→vs=[.ptr n 0]→v=.s (s.drop i)∧H2=H) (by
  rintro vs H ⟨n,s,i,l,m,hb,hi,rfl⟩;refine(zir.fact zah (zoz n0 H n s i l m hb (by omega))).mono fun v H2 ⟨h1,h2⟩=>?_;intro n' s' i' l' m' hb' e;cases e;unfold ScB at hb hb';rw[hb]at hb';simp only[Option.some.injEq,Blk.mk.injEq,List.cons.injEq,V.s.injEq,V.i.injEq,true_and,Int.ofNat_inj]at hb';obtain⟨⟨rfl,rfl,_⟩,_⟩:=hb';exact⟨h1,h2⟩)
 refine⟨g,h,fun n s i l m H hb hi=>?_⟩;obtain⟨v,H2,h1,h2⟩:=k _ H ⟨n,s,i,l,m,hb,hi,rfl⟩;obtain⟨rfl,rfl⟩:=h1 n s i l m hb rfl;exact h2
def zbF (s p:List UInt8):Bool:=decide (p.length≤s.length)&&(s.take p.length==p)
theorem zpP (s p:List UInt8):zbF s p=zdh s 0 p:=by simp[zbF,zdh]
theorem znl {call:zad}(hC:call.Sound prog TT)(s p:List UInt8)(hl:(p.length:Int)≤s.length)  : zaI prog TT 93 [.s s,.s p] (fun r=>r=.val (.b (s.take p.length==p))):=by
 refine en f93 rfl rfl (by simp[f93]) 18 rfl fun t hw hg=>?_;have h0:=hg 0 _ rfl;have h1:=hg 1 _ rfl;clear hg;try simp only[Nd.enc_eq]at *
 have hF:=ai @h0 (ai @h1 @hl);apply rS hC
 ·refine oA ?_;rfl
 apply rS hC
 ·iterate 6 refine oA ?_
  iterate 6 refine oB ?_
  iterate 2 refine oA ?_
  rfl
 apply Tri.ret;refine zbo (by simp[f93,hF]<;>rfl) (by rfl) ?_;rfl
theorem znk {call:zad}(hC:call.Sound prog TT)(s p:List UInt8)(hl:¬(p.length:Int)≤s.length)  : zaI prog TT 93 [.s s,.s p] (fun r=>r=.val (.b false)):=by
 refine en f93 rfl rfl (by simp[f93]) 18 rfl fun t hw hg=>?_;have h0:=hg 0 _ rfl;have h1:=hg 1 _ rfl;clear hg;try simp only[Nd.enc_eq]at *
 have hF:=ai @h0 (ai @h1 @hl);apply rS hC
 ·refine oA ?_;rfl
 apply rS hC
 ·iterate 6 refine oA ?_
  iterate 6 refine oC ?_
  iterate 2 refine oA ?_
  rfl
 apply Tri.ret;refine zbo (by simp[f93,hF]<;>rfl) (by rfl) ?_;rfl
theorem zoC {call:zad}(hC:call.Sound prog TT)(s p:List UInt8)(x:Bool)(hq:∀H,call 93 [.s s,.s p] H=.val (.b x) H)  : zaI prog TT 70 [.s s,.s p] (fun r=>r=.val (.b x)):=by
 refine en f70 rfl rfl (by simp[f70]) 8 rfl fun t hw hg=>?_;have h0:=hg 0 _ rfl;have h1:=hg 1 _ rfl;clear hg;try simp only[Nd.enc_eq]at *
 have hF:=ai @h0 (ai @h1 @hq);apply rS hC
 ·refine oA ?_;rfl
 apply rS hC
 ·iterate 4 refine oA ?_
  rfl
 apply Tri.ret;refine zbo (by simp[f70,hF]<;>rfl) (by rfl) ?_;rfl
theorem zwV:∃g,zap prog TT 93 g∧∀p:List UInt8×List UInt8,True→∀H,g [.s p.1,.s p.2] H=.val (.b (zbF p.1 p.2)) H:=by
 refine zbh zah zat 93 (fun p:List UInt8×List UInt8=>[.s p.1,.s p.2]) (fun _=>True) (fun p=>.b (zbF p.1 p.2)) (fun _ _=>rfl) (fun _=>rfl) (fun a b h=>by simp only[List.cons.injEq,V.s.injEq,and_true]at h;rw[h.1,h.2]) fun p _=>zaI.of2 ?_;by_cases h:p.2.length≤p.1.length
 ·have e:zbF p.1 p.2=(p.1.take p.2.length==p.2):=by simp[zbF,h]
  rw[e];exact znl n0 p.1 p.2 (by omega)
 ·have e:zbF p.1 p.2=false:=by simp[zbF,h]
  rw[e];exact znk n0 p.1 p.2 (by omega)
theorem zmN:∃g,zap prog TT 70 g∧∀(s p:List UInt8)(H:zaa),g [.s s,.s p] H=.val (.b (zbF s p)) H:=by
 obtain⟨g1,k1,s1⟩:=zwV;obtain⟨g,h,s⟩:=zbh zah zat 70 (fun p:List UInt8×List UInt8=>[.s p.1,.s p.2]) (fun _=>True) (fun p=>.b (zbF p.1 p.2)) (fun _ _=>rfl) (fun _=>rfl) (fun a b h=>by simp only[List.cons.injEq,V.s.injEq,and_true]at h;rw[h.1,h.2]) fun p _=>zaI.of2 (zoC (ws n0 k1) p.1 p.2 _ fun H=>by rw[zao];exact s1 p trivial H);exact⟨g,h,fun x p H=>s (x,p) trivial H⟩
def okP (s best x:List UInt8):Bool:=decide (best.length<x.length)&&(zbF s x && !((zgi (zg4 x)||(zg4 x==95))&&(decide (x.length<s.length)&&zcy (atR s x.length))))
def sgF (s:List UInt8):List (List UInt8)→List UInt8→List UInt8
 | [],best=>best
 |x::l,best=>sgF s l (if okP s best x=true then x else best)
theorem zrQ {call:zad}(hC:call.Sound prog TT){Q:Out→Prop}{H:zaa}(s:List UInt8)(hpre:∀p H,call 70 [.s s,.s p] H=.val (.b (zbF s p)) H)(hlet:∀c:Int,∀H,call 72 [.i .u8 c] H=.val (.b (zgi c||(c==95))) H)(hwor:∀c:UInt8,∀H,call 73 [.i .u8 c.toNat] H=.val (.b (zcy c.toNat)) H) :
 ∀(L pre:List (List UInt8))(best:List UInt8)(t:Tm),sgnL=pre++L→t.wid=44→t.get 0=.s s→t.get 3=.s best→t.get 6=.agg (sgnL.map .s)→t.get 7=.i .i64 pre.length →
 (∀t':Tm,t'.wid=44→t'.get 3=.s (sgF s L best)→Q (.exit 0 t' H)) →
 zaP prog TT (sub [true,true,false,true,false,false] (zae f54)) t H Q:=by
 intro L;induction L with
 |nil=>
  intro pre best t hS hw h0 h3 h6 h7 hE;have hlast:pre.length=43:=by have:=congrArg List.length hS;simpa[sgnL]using this.symm
  have hF:=ai @h0 (ai @h3 (ai @h6 (ai @h7 @hlast)));refine zaP.round' ?_;apply rS hC
  ·refine zab rfl (by simp[hF]<;>rfl) (by rfl) (by simp[hw]) ?_;rfl
  apply sQ;refine cF (by simp[hF]<;>rfl) ?_;refine Tri.exit ?_;refine zaA ?_;refine zaz ?_;exact hE _ (by simp[hw]) (by simp[h3,sgF])
 |cons x L ih=>
  intro pre best t hS hw h0 h3 h6 h7 hE;have hlen:=congrArg List.length hS;have h43:sgnL.length=43:=rfl;rw[h43]at hlen;simp only[length_append,length_cons]at hlen;have hlt:(pre.length:Int)<43:=by omega
  have hx:sgnL[pre.length]? = some x:=by rw[hS];simp
  have hwp:IntKind.i64.wrap ((pre.length:Int)+1)=pre.length+1:=zak (by omega) (by omega);have hmem:x∈sgnL:=by rw[hS];simp
  have hall:sgnL.all (fun x=>decide (0<x.length)&&decide (x.length<10))=true:=by decide
  have hx1:=all_eq_true.1 hall x hmem;rw[Bool.and_eq_true,decide_eq_true_eq,decide_eq_true_eq]at hx1;obtain⟨y,b,rfl⟩:∃y b,x=y++[b]:=⟨x.dropLast,x.getLast (by intro e;rw[e]at hx1;simp at hx1),(dropLast_concat_getLast _).symm⟩;have hxl:(y++[b]).length=y.length+1:=by simp
  rw[hxl]at hx1;have hlb:zg4 (y++[b])=b.toNat:=by simp[zg4]
  have hwy:IntKind.i64.wrap (y.length:Int)=y.length:=zak (by omega) (by omega);have hp1:=hpre (y++[b]);have hl1:=hlet b.toNat
  cases hb:decide ((y.length:Int)+1≤best.length)with
  |true=>
   have hok:okP s best (y++[b])=false:=by
    have:¬best.length<(y++[b]).length:=by rw[decide_eq_true_eq]at hb;rw[hxl];omega
    simp only[okP,decide_eq_false this,Bool.false_and]
   have hF:=ai @h0 (ai @h3 (ai @h6 (ai @h7 (ai @hlt (ai @hx (ai @hwp @hb))))));refine zaP.round' ?_;apply rS hC
   ·refine zab rfl (by simp[hF]<;>rfl) (by rfl) (by simp[hw]) ?_;rfl
   apply sQ;refine cT (by simp[hF]<;>rfl) ?_;apply Tri.skip;apply sN;apply sQ;apply bK;apply rS hC
   ·iterate 2 refine zab rfl (by simp[hF]<;>rfl) (by rfl) (by simp[hw]) ?_
    rfl
   apply sQ;apply rS hC
   ·iterate 6 refine zab rfl (by simp[hF]<;>rfl) (by rfl) (by simp[hw]) ?_
    iterate 4 refine zcp (by simp[zaH,hF]) (by simp[hw]) ?_
    refine zab rfl (by simp[hF]<;>rfl) (by rfl) (by simp[hw]) ?_;rfl
   refine cT (by simp[hF]<;>rfl) ?_;refine Tri.exit ?_;refine zaA ?_;refine zaw ?_;apply sN;apply rN hC
   ·iterate 2 refine zab rfl (by simp[hF]<;>rfl) (by rfl) (by simp[hw]) ?_
    rfl
   refine zar ?_;refine ih (pre++[y++[b]]) best _ (by simpa using hS) (by simp[hw]) (by simp[h0]) (by simp[h3]) (by simp[h6]) (by simp<;>exact hwp) ?_;intro t' k1 k2;exact hE t' k1 (by rw[k2];simp only[sgF];rw[hok];simp)
  |false=>
   have hbt:best.length<(y++[b]).length:=by rw[decide_eq_false_iff_not]at hb;rw[hxl];omega
   cases hpv:zbF s (y++[b])with
   |false=>
    have hok:okP s best (y++[b])=false:=by simp only[okP,hpv,Bool.false_and,Bool.and_false]
    have hp:∀H,call 70 [.s s,.s (y++[b])] H=.val (.b false) H:=fun H=>by rw[hp1,hpv]
    have hF:=ai @h0 (ai @h3 (ai @h6 (ai @h7 (ai @hlt (ai @hx (ai @hwp (ai @hb @hp)))))));refine zaP.round' ?_;apply rS hC
    ·refine zab rfl (by simp[hF]<;>rfl) (by rfl) (by simp[hw]) ?_;rfl
    apply sQ;refine cT (by simp[hF]<;>rfl) ?_;apply Tri.skip;apply sN;apply sQ;apply bK;apply rS hC
    ·iterate 2 refine zab rfl (by simp[hF]<;>rfl) (by rfl) (by simp[hw]) ?_
     rfl
    apply sQ;apply rS hC
    ·iterate 6 refine zab rfl (by simp[hF]<;>rfl) (by rfl) (by simp[hw]) ?_
     iterate 4 refine zab (by simp[zaH,hF]) (by simp[hF]<;>rfl) (by rfl) (by simp[hw]) ?_
     refine zab rfl (by simp[hF]<;>rfl) (by rfl) (by simp[hw]) ?_;rfl
    refine cT (by simp[hF]<;>rfl) ?_;refine Tri.exit ?_;refine zaA ?_;refine zaw ?_;apply sN;apply rN hC
    ·iterate 2 refine zab rfl (by simp[hF]<;>rfl) (by rfl) (by simp[hw]) ?_
     rfl
    refine zar ?_;refine ih (pre++[y++[b]]) best _ (by simpa using hS) (by simp[hw]) (by simp[h0]) (by simp[h3]) (by simp[h6]) (by simp<;>exact hwp) ?_;intro t' k1 k2;exact hE t' k1 (by rw[k2];simp only[sgF];rw[hok];simp)
   |true=>
    have hp:∀H,call 70 [.s s,.s (y++[b])] H=.val (.b true) H:=fun H=>by rw[hp1,hpv]
    cases hlv:(zgi b.toNat||((b.toNat:Int)==95))with
    |false=>
     have hok:okP s best (y++[b])=true:=by simp only[okP,hpv,hlb,hlv,decide_eq_true hbt,Bool.false_and,Bool.not_false,Bool.and_true]
     have hl:∀H,call 72 [.i .u8 b.toNat] H=.val (.b false) H:=fun H=>by rw[hl1,hlv]
     have hF:=ai @h0 (ai @h3 (ai @h6 (ai @h7 (ai @hlt (ai @hx (ai @hwp (ai @hb (ai @hp (ai @hwy @hl)))))))));refine zaP.round' ?_;apply rS hC
     ·refine zab rfl (by simp[hF]<;>rfl) (by rfl) (by simp[hw]) ?_;rfl
     apply sQ;refine cT (by simp[hF]<;>rfl) ?_;apply Tri.skip;apply sN;apply sQ;apply bK;apply rS hC
     ·iterate 2 refine zab rfl (by simp[hF]<;>rfl) (by rfl) (by simp[hw]) ?_
      rfl
     apply sQ;apply rS hC
     ·iterate 6 refine zab rfl (by simp[hF]<;>rfl) (by rfl) (by simp[hw]) ?_
      iterate 4 refine zab (by simp[zaH,hF]) (by simp[hF]<;>rfl) (by rfl) (by simp[hw]) ?_
      refine zab rfl (by simp[hF]<;>rfl) (by rfl) (by simp[hw]) ?_;rfl
     refine cF (by simp[hF]<;>rfl) ?_;apply Tri.skip;apply sN;apply sQ;apply rS hC
     ·iterate 7 refine zab rfl (by simp[hF]<;>rfl) (by rfl) (by simp[hw]) ?_
      iterate 5 refine zcp (by simp[zaH,hF]) (by simp[hw]) ?_
      iterate 2 refine zab rfl (by simp[hF]<;>rfl) (by rfl) (by simp[hw]) ?_
      iterate 5 refine zcp (by simp[zaH,hF]) (by simp[hw]) ?_
      refine zab rfl (by simp[hF]<;>rfl) (by rfl) (by simp[hw]) ?_;rfl
     refine cF (by simp[hF]<;>rfl) ?_;apply Tri.skip;apply sN;apply rN hC
     ·iterate 2 refine zab rfl (by simp[hF]<;>rfl) (by rfl) (by simp[hw]) ?_
      rfl
     apply bN;apply sN;apply rN hC
     ·iterate 2 refine zab rfl (by simp[hF]<;>rfl) (by rfl) (by simp[hw]) ?_
      rfl
     refine zar ?_;refine ih (pre++[y++[b]]) (y++[b]) _ (by simpa using hS) (by simp[hw]) (by simp[h0]) (by simp[h3]) (by simp[h6]) (by simp<;>exact hwp) ?_;intro t' k1 k2;exact hE t' k1 (by rw[k2];simp only[sgF];rw[hok];simp)
    |true=>
     have hl:∀H,call 72 [.i .u8 b.toNat] H=.val (.b true) H:=fun H=>by rw[hl1,hlv]
     cases hg:decide ((y.length:Int)+1<s.length)with
     |false=>
      have hgn:¬(y++[b]).length<s.length:=by rw[decide_eq_false_iff_not]at hg;rw[hxl];omega
      have hok:okP s best (y++[b])=true:=by simp only[okP,hpv,hlb,hlv,decide_eq_true hbt,decide_eq_false hgn,Bool.false_and,Bool.and_false,Bool.not_false,Bool.and_true]
      have hF:=ai @h0 (ai @h3 (ai @h6 (ai @h7 (ai @hlt (ai @hx (ai @hwp (ai @hb (ai @hp (ai @hwy (ai @hl @hg))))))))));refine zaP.round' ?_;apply rS hC
      ·refine zab rfl (by simp[hF]<;>rfl) (by rfl) (by simp[hw]) ?_;rfl
      apply sQ;refine cT (by simp[hF]<;>rfl) ?_;apply Tri.skip;apply sN;apply sQ;apply bK;apply rS hC
      ·iterate 2 refine zab rfl (by simp[hF]<;>rfl) (by rfl) (by simp[hw]) ?_
       rfl
      apply sQ;apply rS hC
      ·iterate 6 refine zab rfl (by simp[hF]<;>rfl) (by rfl) (by simp[hw]) ?_
       iterate 4 refine zab (by simp[zaH,hF]) (by simp[hF]<;>rfl) (by rfl) (by simp[hw]) ?_
       refine zab rfl (by simp[hF]<;>rfl) (by rfl) (by simp[hw]) ?_;rfl
      refine cF (by simp[hF]<;>rfl) ?_;apply Tri.skip;apply sN;apply sQ;apply rS hC
      ·iterate 7 refine zab rfl (by simp[hF]<;>rfl) (by rfl) (by simp[hw]) ?_
       iterate 5 refine zab (by simp[zaH,hF]) (by simp[hF]<;>rfl) (by rfl) (by simp[hw]) ?_
       iterate 2 refine zab rfl (by simp[hF]<;>rfl) (by rfl) (by simp[hw]) ?_
       iterate 5 refine zcp (by simp[zaH,hF]) (by simp[hw]) ?_
       refine zab rfl (by simp[hF]<;>rfl) (by rfl) (by simp[hw]) ?_;rfl
      refine cF (by simp[hF]<;>rfl) ?_;apply Tri.skip;apply sN;apply rN hC
      ·iterate 2 refine zab rfl (by simp[hF]<;>rfl) (by rfl) (by simp[hw]) ?_
       rfl
      apply bN;apply sN;apply rN hC
      ·iterate 2 refine zab rfl (by simp[hF]<;>rfl) (by rfl) (by simp[hw]) ?_
       rfl
      refine zar ?_;refine ih (pre++[y++[b]]) (y++[b]) _ (by simpa using hS) (by simp[hw]) (by simp[h0]) (by simp[h3]) (by simp[h6]) (by simp<;>exact hwp) ?_;intro t' k1 k2;exact hE t' k1 (by rw[k2];simp only[sgF];rw[hok];simp)
     |true=>
      have hgn:(y++[b]).length<s.length:=by rw[decide_eq_true_eq]at hg;rw[hxl];omega
      obtain⟨d,hd⟩:∃d,s[y.length+1]? = some d:=⟨_,List.getElem?_eq_getElem (by rw[←hxl];exact hgn)⟩;have hd2:∀h,s[y.length+1]'h=d:=fun h=>by rw[List.getElem?_eq_getElem h]at hd;exact Option.some.inj hd
      have hat:atR s (y++[b]).length=d.toNat:=by rw[hxl];simp[atR,hd]
      have hq1:=hwor d;cases hqv:zcy d.toNat with
      |true=>
       have hok:okP s best (y++[b])=false:=by simp only[okP,hpv,hlb,hlv,hat,hqv,decide_eq_true hbt,decide_eq_true hgn,Bool.and_true,Bool.not_true,Bool.and_false]
       have hq:∀H,call 73 [.i .u8 d.toNat] H=.val (.b true) H:=fun H=>by rw[hq1,hqv]
       have hF:=ai @h0 (ai @h3 (ai @h6 (ai @h7 (ai @hlt (ai @hx (ai @hwp (ai @hb (ai @hp (ai @hwy (ai @hl (ai @hg (ai @hd (ai @hd2 @hq)))))))))))));refine zaP.round' ?_;apply rS hC
       ·refine zab rfl (by simp[hF]<;>rfl) (by rfl) (by simp[hw]) ?_;rfl
       apply sQ;refine cT (by simp[hF]<;>rfl) ?_;apply Tri.skip;apply sN;apply sQ;apply bK;apply rS hC
       ·iterate 2 refine zab rfl (by simp[hF]<;>rfl) (by rfl) (by simp[hw]) ?_
        rfl
       apply sQ;apply rS hC
       ·iterate 6 refine zab rfl (by simp[hF]<;>rfl) (by rfl) (by simp[hw]) ?_
        iterate 4 refine zab (by simp[zaH,hF]) (by simp[hF]<;>rfl) (by rfl) (by simp[hw]) ?_
        refine zab rfl (by simp[hF]<;>rfl) (by rfl) (by simp[hw]) ?_;rfl
       refine cF (by simp[hF]<;>rfl) ?_;apply Tri.skip;apply sN;apply sQ;apply rS hC
       ·iterate 7 refine zab rfl (by simp[hF]<;>rfl) (by rfl) (by simp[hw]) ?_
        iterate 5 refine zab (by simp[zaH,hF]) (by simp[hF]<;>rfl) (by rfl) (by simp[hw]) ?_
        iterate 2 refine zab rfl (by simp[hF]<;>rfl) (by rfl) (by simp[hw]) ?_
        iterate 5 refine zab (by simp[zaH,hF]) (by simp[hF]<;>rfl) (by rfl) (by simp[hw]) ?_
        refine zab rfl (by simp[hF]<;>rfl) (by rfl) (by simp[hw]) ?_;rfl
       refine cT (by simp[hF]<;>rfl) ?_;refine Tri.exit ?_;refine zaA ?_;refine zaw ?_;apply sN;apply rN hC
       ·iterate 2 refine zab rfl (by simp[hF]<;>rfl) (by rfl) (by simp[hw]) ?_
        rfl
       refine zar ?_;refine ih (pre++[y++[b]]) best _ (by simpa using hS) (by simp[hw]) (by simp[h0]) (by simp[h3]) (by simp[h6]) (by simp<;>exact hwp) ?_;intro t' k1 k2;exact hE t' k1 (by rw[k2];simp only[sgF];rw[hok];simp)
      |false=>
       have hok:okP s best (y++[b])=true:=by simp only[okP,hpv,hlb,hlv,hat,hqv,decide_eq_true hbt,decide_eq_true hgn,Bool.and_false,Bool.not_false,Bool.and_true]
       have hq:∀H,call 73 [.i .u8 d.toNat] H=.val (.b false) H:=fun H=>by rw[hq1,hqv]
       have hF:=ai @h0 (ai @h3 (ai @h6 (ai @h7 (ai @hlt (ai @hx (ai @hwp (ai @hb (ai @hp (ai @hwy (ai @hl (ai @hg (ai @hd (ai @hd2 @hq)))))))))))));refine zaP.round' ?_;apply rS hC
       ·refine zab rfl (by simp[hF]<;>rfl) (by rfl) (by simp[hw]) ?_;rfl
       apply sQ;refine Tri.condG (o:=?of2) (b:=?bf2) ?gf2 ?rf2 ?yf2 ?nf2;case gf2=>simp[hF]<;>rfl
       case rf2=>rfl
       case yf2=>
        intro hy2;apply Tri.skip;apply sN;apply sQ;apply bK;apply rS hC
        ·iterate 2 refine zab rfl (by simp[hF]<;>rfl) (by rfl) (by simp[hw]) ?_
         rfl
        apply sQ;apply rS hC
        ·iterate 6 refine zab rfl (by simp[hF]<;>rfl) (by rfl) (by simp[hw]) ?_
         iterate 4 refine zab (by simp[zaH,hF]) (by simp[hF]<;>rfl) (by rfl) (by simp[hw]) ?_
         refine zab rfl (by simp[hF]<;>rfl) (by rfl) (by simp[hw]) ?_;rfl
        refine cF (by simp[hF]<;>rfl) ?_;apply Tri.skip;apply sN;apply sQ;apply rS hC
        ·iterate 7 refine zab rfl (by simp[hF]<;>rfl) (by rfl) (by simp[hw]) ?_
         iterate 5 refine zab (by simp[zaH,hF]) (by simp[hF]<;>rfl) (by rfl) (by simp[hw]) ?_
         iterate 2 refine zab rfl (by simp[hF]<;>rfl) (by rfl) (by simp[hw]) ?_
         iterate 5 refine zab (by simp[zaH,hF]) (by simp[hF]<;>rfl) (by rfl) (by simp[hw]) ?_
         refine zab rfl (by simp[hF]<;>rfl) (by rfl) (by simp[hw]) ?_;rfl
        refine cF (by simp[hF]<;>rfl) ?_;apply Tri.skip;apply sN;apply rN hC
        ·iterate 2 refine zab rfl (by simp[hF]<;>rfl) (by rfl) (by simp[hw]) ?_
         rfl
        apply bN;apply sN;apply rN hC
        ·iterate 2 refine zab rfl (by simp[hF]<;>rfl) (by rfl) (by simp[hw]) ?_
         rfl
        refine zar ?_;refine ih (pre++[y++[b]]) (y++[b]) _ (by simpa using hS) (by simp[hw]) (by simp[h0]) (by simp[h3]) (by simp[h6]) (by simp<;>exact hwp) ?_;intro t' k1 k2;exact hE t' k1 (by rw[k2];simp only[sgF];rw[hok];simp)
       case nf2=>
        intro hn2;exact absurd hn2 (by simp[hF])
theorem zrH (H:zaa):zaf TT 77 H (.gp 0 0)=some (.agg (sgnL.map .s)):=rfl
theorem zoB {call:zad}(hC:call.Sound prog TT)(s:List UInt8)(hpre:∀p H,call 70 [.s s,.s p] H=.val (.b (zbF s p)) H)(hlet:∀c:Int,∀H,call 72 [.i .u8 c] H=.val (.b (zgi c||(c==95))) H)(hwor:∀c:UInt8,∀H,call 73 [.i .u8 c.toNat] H=.val (.b (zcy c.toNat)) H)  : zaI prog TT 54 [.s s] (fun r=>r=.val (.s (sgF s sgnL []))):=by
 refine en f54 rfl rfl (by simp[f54]) 44 rfl fun t hw hg=>?_;have h0:=hg 0 _ rfl;clear hg;try simp only[Nd.enc_eq]at *
 apply rS hC
 ·refine zab rfl (by simp[h0]<;>rfl) (by rfl) (by simp[hw]) ?_;rfl
 apply rS hC
 ·refine zab rfl (by simp[h0]<;>rfl) (by rfl) (by simp[hw]) ?_;rfl
 apply sQ;apply rS hC
 ·iterate 2 refine zab rfl (by simp[h0,zrH,-zaf]<;>rfl) (by rfl) (by simp[hw]) ?_
  rfl
 apply bK;refine Tri.loop ?_;refine zrQ hC s hpre hlet hwor sgnL [] [] _ rfl (by simp[hw]) (by simp[h0]) (by simp) (by simp) (by simp) ?exit;case exit=>
  intro t2 hw h3;refine zaw ?_;apply sN;apply rS hC
  ·iterate 2 refine zab rfl (by simp[h0,h3]<;>rfl) (by rfl) (by simp[hw]) ?_
   rfl
  apply Tri.ret;refine zbo (by simp[f54,h3]<;>rfl) (by rfl) ?_;rfl
theorem zwP:∃g,zap prog TT 54 g∧∀s:List UInt8,True→∀H,g [.s s] H=.val (.s (sgF s sgnL [])) H:=by
 obtain⟨g1,k1,s1⟩:=zmN;obtain⟨g2,k2,s2⟩:=zuF;obtain⟨g3,k3,s3⟩:=zuG;refine spT 54 (fun s=>.s (sgF s sgnL [])) (fun _=>True) (fun _=>rfl) fun s _=>?_;exact zoB (ws (ws (ws n0 k1) k2) k3) s (fun p H=>by rw[zac _ _ _ _ rfl,zac _ _ _ _ rfl,zao];exact s1 s p H) (fun c H=>by rw[zac _ _ _ _ rfl,zao];exact s2 c trivial H) fun c H=>by rw[zao];exact s3 c trivial H
def plC:List V:=[.i .u8 110,.s [10],.i .u8 116,.s [9],.i .u8 114,.s [13],.i .u8 48,.s [0],.i .u8 92,.s [92],.i .u8 34,.s [34],.i .u8 39,.s [39]]
def loC:List V:=[.i .u8 120,.i .i64 2,.i .u8 117,.i .i64 4,.i .u8 85,.i .i64 6]
def plT (c:Int):Option (List UInt8):=if c=110 then some [10]else if c=116 then some [9]else if c=114 then some [13]else if c=48 then some [0]else if c=92 then some [92]else if c=34 then some [34]else if c=39 then some [39]else none
def loT (c:Int):Nat:=if c=120 then 2 else if c=117 then 4 else if c=85 then 6 else 0
theorem zvY (c:Int):zc1 (some (.int .u8)) (.i .u8 c) plC=some ((plT c).map .s):=by
 unfold plC plT;simp only[zc1,zd2,if_true];by_cases h1:c=110
 ·subst h1;rfl
 by_cases h2:c=116
 ·subst h2;rfl
 by_cases h3:c=114
 ·subst h3;rfl
 by_cases h4:c=48
 ·subst h4;rfl
 by_cases h5:c=92
 ·subst h5;rfl
 by_cases h6:c=34
 ·subst h6;rfl
 by_cases h7:c=39
 ·subst h7;rfl
 simp only[beq_eq_false_iff_ne.2 h1,beq_eq_false_iff_ne.2 h2,beq_eq_false_iff_ne.2 h3,beq_eq_false_iff_ne.2 h4,beq_eq_false_iff_ne.2 h5,beq_eq_false_iff_ne.2 h6,beq_eq_false_iff_ne.2 h7,if_neg h1,if_neg h2,if_neg h3,if_neg h4,if_neg h5,if_neg h6,if_neg h7,Option.map_none]
theorem zvX (c:Int):zc1 (some (.int .u8)) (.i .u8 c) loC=some (if loT c=0 then none else some (.i .i64 (loT c:Nat))):=by
 unfold loC loT;simp only[zc1,zd2,if_true];by_cases h1:c=120
 ·subst h1;rfl
 by_cases h2:c=117
 ·subst h2;rfl
 by_cases h3:c=85
 ·subst h3;rfl
 simp only[beq_eq_false_iff_ne.2 h1,beq_eq_false_iff_ne.2 h2,beq_eq_false_iff_ne.2 h3,if_neg h1,if_neg h2,if_neg h3,if_true]
theorem zt8 {K:zaa} {n:Nat} (h:K[n]? = some (some ⟨172,plC,.map⟩)) (c:Int):zb4 TT 172 (.mp n) (.i .u8 c) true K=some (.tup [.s ((plT c).getD []),.b (plT c).isSome]):=by
  have e:zb4 TT 172 (.mp n) (.i .u8 c) true K=(match zd1 K n with
    | some blk=>(match zc1 (some (.int .u8)) (.i .u8 c) blk.cells with
      |some (some v)=>some (.tup [v,.b true])
      |some none=>some (.tup [.s [],.b false])
      |none=>none)
    |none=>none):=rfl
  rw[e]
  simp only[zd1,h,show(zgU plC).isNone=true from rfl,and_self,if_true,zvY]
  cases plT c<;>rfl
theorem zt7 {K:zaa} {n:Nat} (h:K[n]? = some (some ⟨173,loC,.map⟩)) (c:Int):zb4 TT 173 (.mp n) (.i .u8 c) false K=some (.i .i64 (loT c:Nat)):=by
  have e:zb4 TT 173 (.mp n) (.i .u8 c) false K=(match zd1 K n with
    | some blk=>(match zc1 (some (.int .u8)) (.i .u8 c) blk.cells with
      |some (some v)=>some v
      |some none=>some (.i .i64 0)
      |none=>none)
    |none=>none):=rfl
  rw[e]
  simp only[zd1,h,show(zgU loC).isNone=true from rfl,and_self,if_true,zvX]
  by_cases h0:loT c=0
  · rw[if_pos h0,h0];rfl
  · rw[if_neg h0]
def Bld (H:zaa)(n:Nat)(l:List UInt8):Prop:=
 ∃a,(a=.nilp∨a=.ptr n 0)∧((H[n]? = some (some ⟨66,[a,.nils],.all⟩)∧l=[])∨∃m,m≠n∧l≠[]∧H[n]? = some (some ⟨66,[a,.sl m 1 0 l.length none],.all⟩)∧H[m]? = some (some ⟨5,zca l,.more⟩))
theorem zgb:∀{l l':List UInt8},zca l=zca l'→l=l'
 | [],[],_=>rfl
 | [],_::_,h=>by cases h
 |_::_,[],h=>by cases h
 |c::l,d::l',h=>by
  simp only[zca,map_cons,List.cons.injEq,V.i.injEq,true_and,Int.ofNat_inj]at h;rw[UInt8.toNat_inj.1 h.1,zgb (l:=l) (l':=l') h.2]
theorem Bld.inj {H:zaa}{n:Nat}{l l':List UInt8}(h:Bld H n l)(h':Bld H n l'):l=l':=by
 obtain⟨a,_,⟨h1,rfl⟩|⟨m,h1,h2,h3,h4⟩⟩:=h
 ·obtain⟨a',_,⟨_,rfl⟩|⟨m',_,_,h3',_⟩⟩:=h'
  ·rfl
  ·rw[h1]at h3';simp at h3'
 ·obtain⟨a',_,⟨h1',rfl⟩|⟨m',_,_,h3',h4'⟩⟩:=h'
  ·rw[h3]at h1';simp at h1'
  ·rw[h3]at h3';simp only[Option.some.injEq,Blk.mk.injEq,List.cons.injEq,V.sl.injEq,true_and,and_true]at h3';obtain⟨_,rfl,_⟩:=h3';rw[h4]at h4';simp only[Option.some.injEq,Blk.mk.injEq,true_and,and_true]at h4';exact zgb h4'
theorem zxj:za2 TT shp 20 [] (zae f67) [] ⟨[(0,.f1 (.ptr 0) (.va 0))],⟨.va 1,[(.va 0,some ⟨66,.f2 .cons (.cv .nilp) (.f2 .cons (.va 2) .nil),.all⟩)],[]⟩,3,[]⟩ (KF TT f67 [])=.asks (.ext 91 (x1 (xp v0))) [] (xp v0) (.fin (xt .nil) ⟨v1,[(v0,xk 66 (x2 (xp v0) v2))],[]⟩) (.stuck 0):=by kernel_rfl
theorem zxk:za2 TT shp 20 [] (zae f67) [] ⟨[(0,.f1 (.ptr 0) (.va 0))],⟨.va 1,[(.va 0,some ⟨66,.f2 .cons (.f1 (.ptr 0) (.va 0)) (.f2 .cons (.va 2) .nil),.all⟩)],[]⟩,3,[]⟩ (KF TT f67 [])=.fin (xt .nil) ⟨v1,[(v0,xk 66 (x2 (xp v0) v2))],[]⟩:=by kernel_rfl
theorem zxy:za2 TT shp 17 [] (zae f37) [] ⟨[(0,.f1 (.ptr 0) (.va 0)),(1,.f1 (.vi .u8) (.va 3))],⟨.va 1,[(.va 0,some ⟨66,.f2 .cons (.va 2) (.f2 .cons (.cv .nils) .nil),.all⟩)],[]⟩,4,[]⟩ (KF TT f37 [])=.askk (.call 67 (x1 (xp v0))) ⟨v1,[(v0,xk 66 (x2 v2 (.cv .nils)))],[]⟩ [] (.cv (.tup [])) [(v0,xR 66 (x2 (xp v0) (.cv .nils)))] (.need (xE c0 v3) (.need (xL v3 (xc 256)) (.fin (.cv .nili) ⟨v4,[(v0,xk 66 (x2 (xp v0) (.f2 (.sl 1) (xN (xh v4) (.cn 1)) (xl (xB (.cs []) v3)))))],[xk 5 (x1 (xu v3)),some ⟨5,xy (xB (.cs []) v3),.more⟩]⟩))) (.stuck 0):=by kernel_rfl
theorem zxz:za2 TT shp 17 [] (zae f37) [] ⟨[(0,.f1 (.ptr 0) (.va 0)),(1,.f1 (.vi .u8) (.va 3))],⟨.va 1,[(.va 0,some ⟨66,.f2 .cons (.va 2) (.f2 .cons (.f2 (.sl 1) (.va 4) (.f1 .lenS (.va 5))) .nil),.all⟩),(.va 4,some ⟨5,.f1 .bys (.va 5),.more⟩)],[]⟩,6,[]⟩ (KF TT f37 [])=let qa:E:=.f2 (.sl 1) v4 (xl v5);let qb:E:=xc 1099511627776;.askk (.call 67 (x1 (xp v0))) ⟨v1,[(v0,xk 66 (x2 v2 qa)),(v4,some ⟨5,xy v5,.more⟩)],[]⟩ [] (.cv (.tup [])) [(v0,xR 66 (x2 (xp v0) qa)),(v4,⟨5,xy v5,.more⟩)] (.need (xE c0 v3) (.need (xL v3 (xc 256)) (.need (xE (.f2 .mul (xa (xl v5) c1) c1) qb) (.need (xE (xa (xl v5) c1) qb) (.fin (.cv .nili) ⟨v6,[(v0,xk 66 (x2 (xp v0) (.f2 (.sl 1) (xN (xh v6) (.cn 1)) (xl (xB v5 v3))))),(v4,none)],[xk 5 (x1 (xu v3)),some ⟨5,xy (xB v5 v3),.more⟩]⟩))))) (.stuck 0):=by kernel_rfl
theorem zxA:za2 TT shp 19 [] (zae f38) [] ⟨[(0,.f1 (.ptr 0) (.va 0)),(1,.f1 .vs (.va 3))],⟨.va 1,[(.va 0,some ⟨66,.f2 .cons (.va 2) (.f2 .cons (.cv .nils) .nil),.all⟩)],[]⟩,4,[]⟩ (KF TT f38 [])=let qb:E:=x2 (xp v0) (.cv .nils);let qc:E:=xl v3;let qa:E:=xt (x2 (xi qc) (.cv .nili));let qd:E:=xc 1099511627776;.askk (.call 67 (x1 (xp v0))) ⟨v1,[(v0,xk 66 (x2 v2 (.cv .nils)))],[]⟩ [] (.cv (.tup [])) [(v0,xR 66 qb)] (.ite (xe qc c0) (.fin qa ⟨v4,[(v0,xk 66 qb)],[]⟩) (.need (xE (.f2 .mul qc c1) qd) (.need (xE qc qd) (.fin qa ⟨v4,[(v0,xk 66 (x2 (xp v0) (.f2 (.sl 1) (xN (xh v4) (.cn 0)) qc)))],[some ⟨5,xy v3,.more⟩]⟩)))) (.stuck 0):=by kernel_rfl
theorem zxB:za2 TT shp 19 [] (zae f38) [] ⟨[(0,.f1 (.ptr 0) (.va 0)),(1,.f1 .vs (.va 3))],⟨.va 1,[(.va 0,some ⟨66,.f2 .cons (.va 2) (.f2 .cons (.f2 (.sl 1) (.va 4) (.f1 .lenS (.va 5))) .nil),.all⟩),(.va 4,some ⟨5,.f1 .bys (.va 5),.more⟩)],[]⟩,6,[]⟩ (KF TT f38 [])=let qa:E:=.f2 (.sl 1) v4 (xl v5);let qc:E:=xa (xl v5) (xl v3);let qd:E:=xc 1099511627776;let qb:E:=xt (x2 (xi (xl v3)) (.cv .nili));.askk (.call 67 (x1 (xp v0))) ⟨v1,[(v0,xk 66 (x2 v2 qa)),(v4,some ⟨5,xy v5,.more⟩)],[]⟩ [] (.cv (.tup [])) [(v0,xR 66 (x2 (xp v0) qa)),(v4,⟨5,xy v5,.more⟩)] (.need (xE (.f2 .mul qc c1) qd) (.need (xE qc qd) (.ite (xe (xl v3) c0) (.fin qb ⟨v6,[(v0,xk 66 (x2 (xp v0) qa)),(v4,some ⟨5,xy v5,.more⟩)],[]⟩) (.fin qb ⟨v6,[(v0,xk 66 (x2 (xp v0) (.f2 (.sl 1) (xN (xh v6) (.cn 0)) (xl (xP v5 v3))))),(v4,none)],[some ⟨5,xy (xP v5 v3),.more⟩]⟩)))) (.stuck 0):=by kernel_rfl
theorem zxg:za2 TT shp 14 [] (zae f39) [] ⟨[(0,.f1 (.ptr 0) (.va 0))],⟨.va 1,[(.va 0,some ⟨66,.f2 .cons (.va 2) (.f2 .cons (.cv .nils) .nil),.all⟩)],[]⟩,3,[]⟩ (KF TT f39 [])=.fin (xs (.cs [])) ⟨v1,[(v0,xk 66 (x2 v2 (.cv .nils)))],[]⟩:=by kernel_rfl
theorem zxh:za2 TT shp 14 [] (zae f39) [] ⟨[(0,.f1 (.ptr 0) (.va 0))],⟨.va 1,[(.va 0,some ⟨66,.f2 .cons (.va 2) (.f2 .cons (.f2 (.sl 1) (.va 3) (.f1 .lenS (.va 4))) .nil),.all⟩),(.va 3,some ⟨5,.f1 .bys (.va 4),.more⟩)],[]⟩,5,[]⟩ (KF TT f39 [])=.need (xL c0 (xl v4)) (.need (xE (xl v4) (xc 1099511627776)) (.fin (xs v4) ⟨v1,[(v0,xk 66 (x2 v2 (.f2 (.sl 1) v3 (xl v4)))),(v3,some ⟨5,.f2 .cons (.cv (.tup [])) (xy v4),.map⟩)],[]⟩)):=by kernel_rfl
theorem zpl:TT.ext 91=some zli:=rfl
theorem zyM:∃g,zap prog TT 67 g∧∀(p:Nat×V×V)(H:zaa),(H[p.1]? = some (some ⟨66,[p.2.1,p.2.2],.all⟩)∧(p.2.1=.nilp∨p.2.1=.ptr p.1 0))→g [.ptr p.1 0] H=.val (.tup []) (H.set p.1 (some ⟨66,[.ptr p.1 0,p.2.2],.all⟩)):=by
 refine zdG zah 67 (fun p:Nat×V×V=>[.ptr p.1 0]) (fun p H=>H[p.1]? = some (some ⟨66,[p.2.1,p.2.2],.all⟩)∧(p.2.1=.nilp∨p.2.1=.ptr p.1 0)) (fun p H r=>r=.val (.tup []) (H.set p.1 (some ⟨66,[.ptr p.1 0,p.2.2],.all⟩))) ?_ ?_
 ·rintro⟨n,a,b⟩ ⟨n',a',b'⟩ H r ⟨h1,_⟩ ⟨h2,_⟩ he hr;simp only[List.cons.injEq,V.ptr.injEq,and_true]at he;subst he;simp only at h1 h2 hr ⊢;rw[h1]at h2;simp only[Option.some.injEq,Blk.mk.injEq,List.cons.injEq,true_and,and_true]at h2;rw[←h2.2];exact hr
 ·rintro⟨n,a,b⟩ H ⟨h1,h2⟩;simp only at h1 h2 ⊢;rcases h2 with rfl|rfl
  ·refine zaO.sym zah n0 (fn:=f67) rfl rfl (by simp[f67]) zxj (by kernel_rfl) [.un n,.uh H,.uv b] rfl ⟨by rw[zag];rfl,trivial⟩ (zaa.set_self h1) ⟨by simp;exact zaa.lt h1,by simp⟩ ?_;simp -implicitDefEqProofs only[VC,isR,exU,Ask.den,forall_eq,E.den,O1.den,O2.den,O3.den,U.int_ui,U.boo_ub,U.val_uv,U.lst_ul,U.str_us,U.nat_un,U.heap_uh,SH.den,zaF,zbH,bD,SB.den,zas,LQ,cons_append,nil_append,List.getElem?_cons_zero,List.getElem?_cons_succ,Option.getD_some,zam,zai,zan,zaj,beq_iff_eq,bne_iff_ne,beq_eq_false_iff_ne,Int.toNat_natCast,zpl];exact .inl ⟨fun K=>rfl,trivial⟩
  ·refine zaO.sym zah n0 (fn:=f67) rfl rfl (by simp[f67]) zxk (by kernel_rfl) [.un n,.uh H,.uv b] rfl ⟨by rw[zag];rfl,trivial⟩ (zaa.set_self h1) ⟨by simp;exact zaa.lt h1,by simp⟩ ?_;simp -implicitDefEqProofs only[VC,isR,exU,Ask.den,forall_eq,E.den,O1.den,O2.den,O3.den,U.int_ui,U.boo_ub,U.val_uv,U.lst_ul,U.str_us,U.nat_un,U.heap_uh,SH.den,zaF,zbH,bD,SB.den,zas,LQ,cons_append,nil_append,List.getElem?_cons_zero,List.getElem?_cons_succ,Option.getD_some,zam,zai,zan,zaj,beq_iff_eq,bne_iff_ne,beq_eq_false_iff_ne,Int.toNat_natCast]
theorem zkb (K:zaa)(a b:Option Blk)(n:Nat)(h:n=K.length+1):(K++[a]++[b])[n]? = some b:=by
 subst h;rw[append_assoc,List.getElem?_append_right (by omega),Nat.add_sub_cancel_left];rfl
theorem zkc (K:zaa)(a b:Option Blk)(n:Nat)(h:n<K.length):(K++[a]++[b])[n]? = K[n]?:=by
 rw[append_assoc,List.getElem?_append_left h]
theorem zmi (K:zaa)(b:Option Blk)(n:Nat)(h:n=K.length):(K++[b])[n]? = some b:=by
 subst h;simp
theorem zmk (K:zaa)(b:Option Blk)(n:Nat)(h:n<K.length):(K++[b])[n]? = K[n]?:=List.getElem?_append_left h
abbrev CcH (call:zad):Prop:=∀(n:Nat)(a b:V)(H:zaa),H[n]? = some (some ⟨66,[a,b],.all⟩)→(a=.nilp∨a=.ptr n 0)→call 67 [.ptr n 0] H=.val (.tup []) (H.set n (some ⟨66,[.ptr n 0,b],.all⟩))
theorem zzd:∃g,zap prog TT 37 g∧∀(p:Nat×List UInt8×UInt8)(H:zaa),(Bld H p.1 p.2.1∧p.2.1.length<100000000)→∃H',g [.ptr p.1 0,.i .u8 p.2.2.toNat] H=.val .nili H'∧Bld H' p.1 (p.2.1++[p.2.2]):=by
 obtain⟨g1,k1,s1⟩:=zyM;have hC:=ws n0 k1;have hcc:CcH (zad.none.with 67 g1):=fun n a b H h1 h2=>by rw[zao];exact s1 (n,a,b) H ⟨h1,h2⟩
 generalize zad.none.with 67 g1=call at hC hcc;refine zdG zah 37 (fun p:Nat×List UInt8×UInt8=>[.ptr p.1 0,.i .u8 p.2.2.toNat]) (fun p H=>Bld H p.1 p.2.1∧p.2.1.length<100000000) (fun p H r=>∃H',r=.val .nili H'∧Bld H' p.1 (p.2.1++[p.2.2])) ?_ ?_
 ·rintro⟨n,l,c⟩ ⟨n',l',c'⟩ H r ⟨h1,_⟩ ⟨h2,_⟩ he hr;simp only[List.cons.injEq,V.ptr.injEq,V.i.injEq,true_and,and_true,Int.ofNat_inj]at he;obtain⟨rfl,hc⟩:=he;have hc:=UInt8.toNat_inj.1 hc;subst hc;have:=h1.inj h2;simp only at this;subst this;exact hr
 ·rintro⟨n,l,c⟩ H ⟨hb,hl⟩;simp only at hb hl ⊢;have hc:=zkG c;obtain⟨a,ha,⟨h1,rfl⟩|⟨m,hm,hne,h1,h2⟩⟩:=hb
  ·refine zaO.sym zah hC (fn:=f37) rfl rfl (by simp[f37]) zxy (by kernel_rfl) [.un n,.uh H,.uv a,.ui c.toNat] rfl ⟨by rw[zag];rfl,by rw[zag];rfl,trivial⟩ (zaa.set_self h1) ⟨by simp;exact zaa.lt h1,by simp⟩ ?_;have e1:H.set n (some ⟨66,[a,.nils],.all⟩)=H:=(zaa.set_self h1).symm;simp -implicitDefEqProofs only[VC,isR,exU,Ask.den,forall_eq,E.den,O1.den,O2.den,O3.den,U.int_ui,U.boo_ub,U.val_uv,U.lst_ul,U.str_us,U.nat_un,U.heap_uh,SH.den,zaF,zbH,bD,SB.den,zas,LQ,cons_append,nil_append,List.getElem?_cons_zero,List.getElem?_cons_succ,Option.getD_some,zam,zai,zan,zaj,beq_iff_eq,bne_iff_ne,beq_eq_false_iff_ne,Int.toNat_natCast,zbV,e1];refine .inl ⟨_,hcc n a _ H h1 ha,⟨zaa.get_self h1,trivial⟩,by omega,by omega,_,rfl,.ptr n 0,.inr rfl,.inr ⟨(H.set n (some ⟨66,[.ptr n 0,.nils],.all⟩)).length+1,?_,by simp,?_,?_⟩⟩
   ·have:=zaa.lt h1;simp;omega
   ·refine(zkc _ _ _ _ (by simp;exact zaa.lt h1)).trans ((zaa.get_self (zaa.get_self h1)).trans ?_);simp
   ·refine(zkb _ _ _ _ (by simp)).trans ?_;simp[zca]
  ·refine zaO.sym zah hC (fn:=f37) rfl rfl (by simp[f37]) zxz (by kernel_rfl) [.un n,.uh H,.uv a,.ui c.toNat,.un m,.us l] rfl ⟨by rw[zag];rfl,by rw[zag];rfl,trivial⟩ ?_ ⟨by simp;exact⟨zaa.lt h1,zaa.lt h2⟩,by simp;exact fun e=>hm e.symm⟩ ?_
   ·show H=(H.set m (some ⟨5,zca l,.more⟩)).set n (some ⟨66,[a,.sl m 1 0 l.length none],.all⟩);rw[←zaa.set_self h2,←zaa.set_self h1]
   have e1:H.set n (some ⟨66,[a,.sl m 1 0 l.length none],.all⟩)=H:=(zaa.set_self h1).symm;have e2:H.set m (some ⟨5,l.map fun c=>.i .u8 c.toNat,.more⟩)=H:=(zaa.set_self h2).symm;simp -implicitDefEqProofs only[VC,isR,exU,Ask.den,forall_eq,E.den,O1.den,O2.den,O3.den,U.int_ui,U.boo_ub,U.val_uv,U.lst_ul,U.str_us,U.nat_un,U.heap_uh,SH.den,zaF,zbH,bD,SB.den,zas,LQ,cons_append,nil_append,List.getElem?_cons_zero,List.getElem?_cons_succ,Option.getD_some,zam,zai,zan,zaj,beq_iff_eq,bne_iff_ne,beq_eq_false_iff_ne,Int.toNat_natCast,zbV,e2,e1];have hml:m<(H.set n (some (⟨66,[.ptr n 0,.sl m 1 0 l.length none],.all⟩:Blk))).length:=by simp;exact zaa.lt h2
   refine .inl ⟨_,hcc n a _ H h1 ha,⟨zaa.get_self h1,?_,trivial⟩,by omega,by omega,by omega,by omega,_,rfl,.ptr n 0,.inr rfl,.inr ⟨(H.set n (some ⟨66,[.ptr n 0,.sl m 1 0 l.length none],.all⟩)).length+1,?_,by simp,?_,?_⟩⟩
   ·rw[List.getElem?_set_ne (fun e=>hm e.symm)];exact h2
   ·have:=zaa.lt h1;simp;omega
   ·refine(zkc _ _ _ _ (by simp;exact zaa.lt h1)).trans (zaa.get_self (c:=some ⟨66,[.ptr n 0,.sl m 1 0 l.length none],.all⟩) ?_ |>.trans ?_)
    ·rw[List.getElem?_set_ne hm];exact zaa.get_self h1
    ·simp
   ·refine(zkb _ _ _ _ (by simp)).trans ?_;simp[zca]
theorem zxi:za2 TT shp 14 [] (zae f39) [] ⟨[(0,.f1 (.ptr 0) (.va 0))],⟨.va 1,[(.va 0,some ⟨66,.f2 .cons (.va 2) (.f2 .cons (.f2 (.sl 1) (.va 3) (.f1 .lenS (.va 4))) .nil),.all⟩),(.va 3,some ⟨5,.f2 .cons (.cv (.tup [])) (.f1 .bys (.va 4)),.map⟩)],[]⟩,5,[]⟩ (KF TT f39 [])=.need (xL c0 (xl v4)) (.need (xE (xl v4) (xc 1099511627776)) (.fin (xs v4) ⟨v1,[(v0,xk 66 (x2 v2 (.f2 (.sl 1) v3 (xl v4)))),(v3,some ⟨5,.f2 .cons (.cv (.tup [])) (xy v4),.map⟩)],[]⟩)):=by kernel_rfl
def zn6 (H:zaa)(n:Nat)(l:List UInt8):Prop:=
 ∃a,(H[n]? = some (some ⟨66,[a,.nils],.all⟩)∧l=[])∨∃m,m≠n∧l≠[]∧H[n]? = some (some ⟨66,[a,.sl m 1 0 l.length none],.all⟩)∧(H[m]? = some (some ⟨5,zca l,.more⟩)∨H[m]? = some (some ⟨5,.tup []::zca l,.map⟩))
theorem Bld.read {H:zaa}{n:Nat}{l:List UInt8}(h:Bld H n l):zn6 H n l:=by
 obtain⟨a,_,h|⟨m,h1,h2,h3,h4⟩⟩:=h
 ·exact⟨a,.inl h⟩
 ·exact⟨a,.inr ⟨m,h1,h2,h3,.inl h4⟩⟩
theorem zn6.inj {H:zaa}{n:Nat}{l l':List UInt8}(h:zn6 H n l)(h':zn6 H n l'):l=l':=by
 obtain⟨a,⟨h1,rfl⟩|⟨m,h1,h2,h3,h4⟩⟩:=h
 ·obtain⟨a',⟨_,rfl⟩|⟨m',_,_,h3',_⟩⟩:=h'
  ·rfl
  ·rw[h1]at h3';simp at h3'
 ·obtain⟨a',⟨h1',rfl⟩|⟨m',_,_,h3',h4'⟩⟩:=h'
  ·rw[h3]at h1';simp at h1'
  ·rw[h3]at h3';simp only[Option.some.injEq,Blk.mk.injEq,List.cons.injEq,V.sl.injEq,true_and,and_true]at h3';obtain⟨_,rfl,_⟩:=h3';rcases h4 with h4|h4<;>rcases h4' with h4'|h4'<;>rw[h4]at h4'
   ·simp only[Option.some.injEq,Blk.mk.injEq,true_and,and_true]at h4';exact zgb h4'
   ·simp at h4'
   ·simp at h4'
   ·simp only[Option.some.injEq,Blk.mk.injEq,List.cons.injEq,true_and,and_true]at h4';exact zgb h4'
theorem zzb:∃g,zap prog TT 39 g∧∀(p:Nat×List UInt8)(H:zaa),(zn6 H p.1 p.2∧p.2.length<100000000)→∃H',g [.ptr p.1 0] H=.val (.s p.2) H'∧zn6 H' p.1 p.2:=by
 refine zdG zah 39 (fun p:Nat×List UInt8=>[.ptr p.1 0]) (fun p H=>zn6 H p.1 p.2∧p.2.length<100000000) (fun p H r=>∃H',r=.val (.s p.2) H'∧zn6 H' p.1 p.2) ?_ ?_
 ·rintro⟨n,l⟩ ⟨n',l'⟩ H r ⟨h1,_⟩ ⟨h2,_⟩ he hr;simp only[List.cons.injEq,V.ptr.injEq,and_true]at he;subst he;have:=h1.inj h2;simp only at this;subst this;exact hr
 ·rintro⟨n,l⟩ H ⟨hb,hl⟩;simp only at hb hl ⊢;obtain⟨a,⟨h1,rfl⟩|⟨m,hm,hne,h1,h2⟩⟩:=hb
  ·refine zaO.sym zah n0 (fn:=f39) rfl rfl (by simp[f39]) zxg (by kernel_rfl) [.un n,.uh H,.uv a] rfl ⟨by rw[zag];rfl,trivial⟩ (zaa.set_self h1) ⟨by simp;exact zaa.lt h1,by simp⟩ ?_;have e1:H.set n (some ⟨66,[a,.nils],.all⟩)=H:=(zaa.set_self h1).symm;simp -implicitDefEqProofs only[VC,isR,exU,Ask.den,forall_eq,E.den,O1.den,O2.den,O3.den,U.int_ui,U.boo_ub,U.val_uv,U.lst_ul,U.str_us,U.nat_un,U.heap_uh,SH.den,zaF,zbH,bD,SB.den,zas,LQ,cons_append,nil_append,List.getElem?_cons_zero,List.getElem?_cons_succ,Option.getD_some,zam,zai,zan,zaj,beq_iff_eq,bne_iff_ne,beq_eq_false_iff_ne,Int.toNat_natCast,e1];exact⟨H,rfl,a,.inl ⟨h1,rfl⟩⟩
  ·have hl0:0<l.length:=length_pos_iff.2 hne;rcases h2 with h2|h2
   ·refine zaO.sym zah n0 (fn:=f39) rfl rfl (by simp[f39]) zxh (by kernel_rfl) [.un n,.uh H,.uv a,.un m,.us l] rfl ⟨by rw[zag];rfl,trivial⟩ ?_ ⟨by simp;exact⟨zaa.lt h1,zaa.lt h2⟩,by simp;exact fun e=>hm e.symm⟩ ?_
    ·show H=(H.set m (some ⟨5,zca l,.more⟩)).set n (some ⟨66,[a,.sl m 1 0 l.length none],.all⟩);rw[←zaa.set_self h2,←zaa.set_self h1]
    simp -implicitDefEqProofs only[VC,isR,exU,Ask.den,forall_eq,E.den,O1.den,O2.den,O3.den,U.int_ui,U.boo_ub,U.val_uv,U.lst_ul,U.str_us,U.nat_un,U.heap_uh,SH.den,zaF,zbH,bD,SB.den,zas,LQ,cons_append,nil_append,List.getElem?_cons_zero,List.getElem?_cons_succ,Option.getD_some,zam,zai,zan,zaj,beq_iff_eq,bne_iff_ne,beq_eq_false_iff_ne,Int.toNat_natCast];refine⟨by omega,by omega,_,rfl,a,.inr ⟨m,hm,hne,?_,.inr ?_⟩⟩
    ·exact zaa.get_self (c:=some ⟨66,[a,.sl m 1 0 l.length none],.all⟩) (by rw[List.getElem?_set_ne hm];exact h1)
    ·rw[List.getElem?_set_ne (fun e=>hm e.symm),zaa.get_self h2];rfl
   ·refine zaO.sym zah n0 (fn:=f39) rfl rfl (by simp[f39]) zxi (by kernel_rfl) [.un n,.uh H,.uv a,.un m,.us l] rfl ⟨by rw[zag];rfl,trivial⟩ ?_ ⟨by simp;exact⟨zaa.lt h1,zaa.lt h2⟩,by simp;exact fun e=>hm e.symm⟩ ?_
    ·show H=(H.set m (some ⟨5,.tup []::zca l,.map⟩)).set n (some ⟨66,[a,.sl m 1 0 l.length none],.all⟩);rw[←zaa.set_self h2,←zaa.set_self h1]
    have e1:H.set n (some ⟨66,[a,.sl m 1 0 l.length none],.all⟩)=H:=(zaa.set_self h1).symm;have e2:H.set m (some ⟨5,.tup []::l.map fun c=>.i .u8 c.toNat,.map⟩)=H:=(zaa.set_self h2).symm;simp -implicitDefEqProofs only[VC,isR,exU,Ask.den,forall_eq,E.den,O1.den,O2.den,O3.den,U.int_ui,U.boo_ub,U.val_uv,U.lst_ul,U.str_us,U.nat_un,U.heap_uh,SH.den,zaF,zbH,bD,SB.den,zas,LQ,cons_append,nil_append,List.getElem?_cons_zero,List.getElem?_cons_succ,Option.getD_some,zam,zai,zan,zaj,beq_iff_eq,bne_iff_ne,beq_eq_false_iff_ne,Int.toNat_natCast,e2,e1];exact⟨by omega,by omega,H,rfl,a,.inr ⟨m,hm,hne,h1,.inr h2⟩⟩
theorem zzc:∃g,zap prog TT 38 g∧∀(p:Nat×List UInt8×List UInt8)(H:zaa),(Bld H p.1 p.2.1∧p.2.1.length+p.2.2.length<100000000)→∃H',g [.ptr p.1 0,.s p.2.2] H=.val (.tup [.i .i64 p.2.2.length,.nili]) H'∧Bld H' p.1 (p.2.1++p.2.2):=by
 obtain⟨g1,k1,s1⟩:=zyM;have hC:=ws n0 k1;have hcc:CcH (zad.none.with 67 g1):=fun n a b H h1 h2=>by rw[zao];exact s1 (n,a,b) H ⟨h1,h2⟩
 generalize zad.none.with 67 g1=call at hC hcc;refine zdG zah 38 (fun p:Nat×List UInt8×List UInt8=>[.ptr p.1 0,.s p.2.2]) (fun p H=>Bld H p.1 p.2.1∧p.2.1.length+p.2.2.length<100000000) (fun p H r=>∃H',r=.val (.tup [.i .i64 p.2.2.length,.nili]) H'∧Bld H' p.1 (p.2.1++p.2.2)) ?_ ?_
 ·rintro⟨n,l,c⟩ ⟨n',l',c'⟩ H r ⟨h1,_⟩ ⟨h2,_⟩ he hr;simp only[List.cons.injEq,V.ptr.injEq,V.s.injEq,true_and,and_true]at he;obtain⟨rfl,rfl⟩:=he;have:=h1.inj h2;simp only at this;subst this;exact hr
 ·rintro⟨n,l,s⟩ H ⟨hb,hl⟩;simp only at hb hl ⊢;obtain⟨a,ha,⟨h1,rfl⟩|⟨m,hm,hne,h1,h2⟩⟩:=hb
  ·refine zaO.sym zah hC (fn:=f38) rfl rfl (by simp[f38]) zxA (by kernel_rfl) [.un n,.uh H,.uv a,.us s] rfl ⟨by rw[zag];rfl,by rw[zag];rfl,trivial⟩ (zaa.set_self h1) ⟨by simp;exact zaa.lt h1,by simp⟩ ?_;have e1:H.set n (some ⟨66,[a,.nils],.all⟩)=H:=(zaa.set_self h1).symm;simp -implicitDefEqProofs only[VC,isR,exU,Ask.den,forall_eq,E.den,O1.den,O2.den,O3.den,U.int_ui,U.boo_ub,U.val_uv,U.lst_ul,U.str_us,U.nat_un,U.heap_uh,SH.den,zaF,zbH,bD,SB.den,zas,LQ,cons_append,nil_append,List.getElem?_cons_zero,List.getElem?_cons_succ,Option.getD_some,zam,zai,zan,zaj,beq_iff_eq,bne_iff_ne,beq_eq_false_iff_ne,Int.toNat_natCast,zbV,e1];have hl:s.length<100000000:=by simpa using hl
   refine .inl ⟨_,hcc n a _ H h1 ha,⟨zaa.get_self h1,trivial⟩,fun h0=>?_,fun h0=>⟨by omega,by omega,_,rfl,.ptr n 0,.inr rfl,.inr ⟨(H.set n (some ⟨66,[.ptr n 0,.nils],.all⟩)).length,?_,?_,?_,?_⟩⟩⟩
   ·have hs:s=[]:=eq_nil_of_length_eq_zero (by omega);exact⟨_,rfl,.ptr n 0,.inr rfl,.inl ⟨zaa.get_self (zaa.get_self h1),by simp[hs]⟩⟩
   ·have:=zaa.lt h1;simp;omega
   ·intro e;exact h0 (by rw[show s=[]from e];rfl)
   ·refine(zmk _ _ _ (by simp;exact zaa.lt h1)).trans ((zaa.get_self (zaa.get_self h1)).trans ?_);simp
   ·refine(zmi _ _ _ (by simp)).trans ?_;simp[zca]
  ·refine zaO.sym zah hC (fn:=f38) rfl rfl (by simp[f38]) zxB (by kernel_rfl) [.un n,.uh H,.uv a,.us s,.un m,.us l] rfl ⟨by rw[zag];rfl,by rw[zag];rfl,trivial⟩ ?_ ⟨by simp;exact⟨zaa.lt h1,zaa.lt h2⟩,by simp;exact fun e=>hm e.symm⟩ ?_
   ·show H=(H.set m (some ⟨5,zca l,.more⟩)).set n (some ⟨66,[a,.sl m 1 0 l.length none],.all⟩);rw[←zaa.set_self h2,←zaa.set_self h1]
   have e1:H.set n (some ⟨66,[a,.sl m 1 0 l.length none],.all⟩)=H:=(zaa.set_self h1).symm;have e2:H.set m (some ⟨5,l.map fun c=>.i .u8 c.toNat,.more⟩)=H:=(zaa.set_self h2).symm;simp -implicitDefEqProofs only[VC,isR,exU,Ask.den,forall_eq,E.den,O1.den,O2.den,O3.den,U.int_ui,U.boo_ub,U.val_uv,U.lst_ul,U.str_us,U.nat_un,U.heap_uh,SH.den,zaF,zbH,bD,SB.den,zas,LQ,cons_append,nil_append,List.getElem?_cons_zero,List.getElem?_cons_succ,Option.getD_some,zam,zai,zan,zaj,beq_iff_eq,bne_iff_ne,beq_eq_false_iff_ne,Int.toNat_natCast,zbV,e2,e1];have hmm:(H.set n (some (⟨66,[.ptr n 0,.sl m 1 0 l.length none],.all⟩:Blk)))[m]? = some (some ⟨5,zca l,.more⟩):=by rw[List.getElem?_set_ne (fun e=>hm e.symm)];exact h2
   refine .inl ⟨_,hcc n a _ H h1 ha,⟨zaa.get_self h1,hmm,trivial⟩,by omega,by omega,fun h0=>?_,fun h0=>⟨_,rfl,.ptr n 0,.inr rfl,.inr ⟨(H.set n (some ⟨66,[.ptr n 0,.sl m 1 0 l.length none],.all⟩)).length,?_,?_,?_,?_⟩⟩⟩
   ·have hs:s=[]:=eq_nil_of_length_eq_zero (by omega);subst hs;refine⟨_,rfl,.ptr n 0,.inr rfl,.inr ⟨m,hm,by simpa using hne,?_,?_⟩⟩
    ·refine(zaa.get_self (c:=some ⟨66,[.ptr n 0,.sl m 1 0 l.length none],.all⟩) ?_).trans ?_
     ·rw[List.getElem?_set_ne hm];exact zaa.get_self h1
     ·simp
    ·rw[List.getElem?_set_ne (fun e=>hm e.symm),zaa.get_self hmm];simp[zca]
   ·have:=zaa.lt h1;simp;omega
   ·simp[hne]
   ·refine(zmk _ _ _ (by simp;exact zaa.lt h1)).trans ((zaa.get_self (c:=some ⟨66,[.ptr n 0,.sl m 1 0 l.length none],.all⟩) ?_).trans ?_)
    ·rw[List.getElem?_set_ne hm];exact zaa.get_self h1
    ·simp
   ·refine(zmi _ _ _ (by simp)).trans ?_;simp[zca]
def vrR (c:Int):Bool:=(decide (0≤c)&&decide (c<55296))||(decide (57343<c)&&decide (c≤1114111))
theorem zyA:za2 TT shp 17 [] (zae f116) [] ⟨[(0,.f1 (.vi .i32) (.va 0))],⟨.va 1,[],[]⟩,2,[]⟩ (KF TT f116 [])=let qb:SH:=⟨v1,[],[]⟩;let qd:Tree:=.fin (xb (.cb true)) qb;let qc:Tree:=.fin (xb (.cb false)) qb;let qa:Tree:=.ite (xL (xc 57343) v0) (.ite (xE v0 (xc 1114111)) qd qc) qc;.ite (xE c0 v0) (.ite (xL v0 (xc 55296)) qd qa) qa:=by kernel_rfl
theorem zyv:∃g,zap prog TT 116 g∧∀c:Int,True→∀H,g [.i .i32 c] H=(Res.val (.b (vrR c))).at H:=by
 refine zcx zah zat 116 (fun c:Int=>[.i .i32 c]) (fun _=>True) (fun c=>.val (.b (vrR c))) (fun _ _=>⟨rfl,rfl⟩)
  (fun a b _ _ h=>by
   simp only[List.cons.injEq,V.i.injEq,true_and,and_true]at h;rw[h]) fun c _=>?_
 refine zaO.sym zah n0 (fn:=f116) rfl rfl (by simp[f116]) zyA (by kernel_rfl) [.ui c,.uh []] rfl ⟨by rw[zag];rfl,trivial⟩ rfl (zaW _ _) ?_;simp -implicitDefEqProofs only[VC,isR,exU,Ask.den,forall_eq,E.den,O1.den,O2.den,O3.den,U.int_ui,U.boo_ub,U.val_uv,U.lst_ul,U.str_us,U.nat_un,U.heap_uh,SH.den,zaF,zbH,bD,SB.den,zas,LQ,cons_append,nil_append,List.getElem?_cons_zero,List.getElem?_cons_succ,Option.getD_some,zam,zai,zan,zaj,beq_iff_eq,bne_iff_ne,beq_eq_false_iff_ne,Int.toNat_natCast];repeat' (first|refine And.intro ?_ ?_|intro _)
 all_goals first
  |(exfalso;omega)
  |rw[show vrR c=true from by simp[vrR];omega]
  |rw[show vrR c=false from by simp[vrR];omega]
def zob (s:List UInt8):Nat→Nat→Nat→Option Nat
 |0,_,c=>some c
 |n+1,i,c=>if zbW (atS s i)<16 then zob s n (i+1) (16*c+(zbW (atS s i)).toNat)else none
def zqQ (l c:Nat):Option (List UInt8×Nat):=if c≤1114111∧vrR c=true∧(2<l∨c<128)then some ((Utf8.encode c).data.toList,1+l)else none
theorem ziQ (l c:Nat)(h1:c≤1114111)(h2:vrR c=true)(h3:2<l∨c<128):zqQ l c=some ((Utf8.encode c).data.toList,1+l):=by
 unfold zqQ;rw[if_pos ⟨h1,h2,h3⟩]
theorem zgh (l c:Nat)(h:¬(c≤1114111∧vrR c=true∧(2<l∨c<128))):zqQ l c=none:=by
 unfold zqQ;rw[if_neg h]
def ziJ (s:List UInt8):Option (List UInt8×Nat):=if s=[]then none else match plT (atS s 0)with
 |some x=>some (x,1)
 |none=>if 0<loT (atS s 0)∧loT (atS s 0)<s.length then(match zob s (loT (atS s 0)) 1 0 with
  |some c=>zqQ (loT (atS s 0)) c
  |none=>none)else none
def zaM (o:Option (List UInt8×Nat))(at_:Int):Res:=match o with
 |some p=>.val (.tup [.s p.1,.i .i64 (p.2:Nat)])
 |none=>.pan (zcA 31 at_)
theorem zva (c:Int)(h0:0≤c)(h1:c<256):0≤zbW c∧zbW c<100:=by
 unfold zbW zk8;repeat' split
 all_goals omega
theorem w32 (c:Nat)(h:c≤1114111):IntKind.i32.wrap (c:Int)=(c:Int):=by
 have e:(2:Int)^IntKind.i32.bits=4294967296:=rfl;have e2:(2:Int)^(IntKind.i32.bits-1)=2147483648:=rfl;simp only[IntKind.wrap,e,e2,IntKind.signed,Bool.true_and,decide_eq_true_eq];split<;>omega
theorem zvA (s:List UInt8)(i:Int):0≤atS s i∧atS s i<256:=by
 unfold atS;split
 ·have:=UInt8.toNat_lt ‹UInt8›;omega
 ·omega
theorem zu2:za2 TT shp 85 [] (zae f100) [] ⟨[(0,.f1 .vs (.va 0)),(1,.f1 (.vi .i64) (.va 1))],⟨.va 2,[],[]⟩,3,[]⟩ (KF TT f100 [0,1,9,10,11])=let qf:E:=xi (xc 31);let qe:E:=.cv (.tup []);let qa:E:=.f2 .cons (xu (xc 110)) (.f2 .cons (xs (.cs [10])) (.f2 .cons (xu (xc 116)) (.f2 .cons (xs (.cs [9])) (.f2 .cons (xu (xc 114)) (.f2 .cons (xs (.cs [13])) (.f2 .cons (xu (xc 48)) (.f2 .cons (xs (.cs [0])) (.f2 .cons (xu (xc 92)) (.f2 .cons (xs (.cs [92])) (x4 (xu (xc 34)) (xs (.cs [34])) (xu (xc 39)) (xs (.cs [39]))))))))))));let qd:SH:=⟨v2,[],[some ⟨172,qa,.map⟩]⟩;let qb:SH:=⟨v2,[],[some ⟨172,qa,.map⟩,some ⟨173,.f2 .cons (xu (xc 120)) (.f2 .cons (xi c2) (x4 (xu (xc 117)) (xi (xc 4)) (xu (xc 85)) (xi (xc 6)))),.map⟩]⟩;let qc:Tree:=.leaf (.stop [true,true,true,true,true,true,true,false,true,false]) [(0,xs v0),(1,xi v1),(9,xi v5),(10,xv c0),(11,xi c1)] qb;.asks (.call 55 (x3 (xb (.f2 .neS v0 (.cs []))) qf (xi v1))) [] qe (.need (xL c0 (xl v0)) (.ask (.lookup 172 (xm (xN (xh v2) (.cn 0))) (xu (xA v0 c0)) true) qd [.s,.b] (xt (x2 (xs v3) (xb v4))) false (.ite v4 (.fin (xt (x2 (xs v3) (xi c1))) qd) (.ask (.lookup 173 (xm (xN (xh v2) (.cn 1))) (xu (xA v0 c0)) false) qb [.i] (xi v5) false (.ite (xG v5 c0) (.asks (.call 55 (x3 (xb (xG (xl v0) v5)) qf (xi v1))) [] qe qc (.pnc v6 qb)) (.asks (.call 55 (x3 (xb (.cb false)) qf (xi v1))) [] qe qc (.pnc v6 qb))) (.stuck 0))) (.stuck 0))) (.pnc v3 ⟨v2,[],[]⟩):=by kernel_rfl
theorem zqH:goT TT shp 85 [] [true,true,true,true,true,true,true,false,true,false,false] (zae f100) [] ⟨[(0,.f1 .vs (.va 0)),(1,.f1 (.vi .i64) (.va 1)),(9,.f1 (.vi .i64) (.va 3)),(10,.f1 (.vi .u64) (.va 4)),(11,.f1 (.vi .i64) (.va 5))],⟨.va 2,[],[]⟩,6,[]⟩ (KF TT f100 [0,1,9,10,11])=let qd:E:=xi (xc 31);let qf:E:=xi v1;let qc:E:=.cv (.tup []);let qb:SH:=⟨v2,[],[]⟩;let qg:E:=.f1 (.wrap .i32) v4;let qa:Tree:=.fin (xt (x2 (xs (.f1 .enc qg)) (xi (xw (xa c1 v3))))) qb;let qh:Tree:=.pnc v7 qb;let qe:E:=x3 (xb (.cb false)) qd qf;.ite (xE v5 v3) (.need (xE c0 v5) (.need (xL v5 (xl v0)) (.asks (.call 94 (x2 (xu (xA v0 v5)) (xi (xc 16)))) [.i,.b] (xt (x2 (xv v6) (xb v7))) (.asks (.call 55 (x3 (xb v7) qd qf)) [] qc (.leaf (.again [true,true,true,true,true,true,true,false,true,false,false]) [(0,xs v0),(1,qf),(9,xi v3),(10,xv (xz (xa (xz (.f2 .mul (xc 16) v4)) v6))),(11,xi (xw (xa v5 c1)))] qb) (.pnc v8 qb)) (.stuck 0)))) (.ite (xE v4 (xc 1114111)) (.asks (.call 116 (x1 (xj qg))) [.b] (xb v6) (.ite v6 (.ite (xG v3 c2) (.asks (.call 55 (x3 (xb (.cb true)) qd qf)) [] qc qa qh) (.asks (.call 55 (x3 (xb (xL v4 (xc 128))) qd qf)) [] qc qa qh)) (.asks (.call 55 qe) [] qc qa qh)) (.stuck 0)) (.asks (.call 55 qe) [] qc qa (.pnc v6 qb))):=by kernel_rfl
theorem zrz {call:zad}(hC:call.Sound prog TT)(hm:zdS call)(hval:∀c:Int,0≤c→c<256→∀H,call 94 [.i .u8 c,.i .i64 16] H=.val (.tup [.i .u64 (zbW c),.b (decide (zbW c<16))]) H)(hvr:∀c:Int,∀H,call 116 [.i .i32 c] H=.val (.b (vrR c)) H)
 (s:List UInt8)(at_:Int)(l:Nat)(hl:l=2∨l=4∨l=6)(hs:l<s.length)(hs2:s.length<1100000):∀(n i c:Nat)(t:Tm)(H:zaa),i+n=l+1→1≤i→c<16^(i-1)→t.wid=85→t.get 0=.s s→t.get 1=.i .i64 at_→t.get 9=.i .i64 (l:Nat)→t.get 10=.i .u64 (c:Nat)→t.get 11=.i .i64 (i:Nat) →
 ctx prog TT [true,true,true,true,true,true,true,false,true,false,false] (zae f100) (za1 TT f100 (isR (zaM (match zob s n i c with|some c=>zqQ l c|none=>none) at_))) (.norm t H):=by
 intro n;induction n with
 |zero=>
  intro i c t H hi h1 hc hw t0 t1 t9 t10 t11;refine zaP.symIn (p:=[true,true,true,true,true,true,true,false,true,false]) zah hC rfl zqH (by kernel_rfl) [.us s,.ui at_,.uh H,.ui (l:Nat),.ui (c:Nat),.ui (i:Nat)] rfl hw ⟨t0,t1,t9,t10,t11,trivial⟩ rfl (zaW _ _) ?_;clear t0 t1 t9 t10 t11 hw;simp -implicitDefEqProofs only[VC,isR,exU,Ask.den,forall_eq,E.den,O1.den,O2.den,O3.den,U.int_ui,U.boo_ub,U.val_uv,U.lst_ul,U.str_us,U.nat_un,U.heap_uh,SH.den,zaF,zbH,bD,SB.den,zas,LQ,cons_append,nil_append,List.getElem?_cons_zero,List.getElem?_cons_succ,Option.getD_some,zam,zai,zan,zaj,beq_iff_eq,bne_iff_ne,beq_eq_false_iff_ne,Int.toNat_natCast];simp only[zob];refine⟨fun h=>absurd h (by omega),fun _=>⟨fun h2=>?_,fun h2=>?_⟩⟩
  ·have hc2:c≤1114111:=by omega
   simp only[w32 c hc2];have hw1:IntKind.i64.wrap (1+(l:Int))=((1+l:Nat):Int):=by rw[w64 (by omega) (by omega)];omega
   rw[hw1];refine .inl ⟨_,fun K=>hvr _ K,fun h3=>⟨fun h4=>?_,fun h4=>?_⟩,fun h3=>?_⟩
   ·refine zaV hm _ _ _ (fun _=>?_) (fun h=>by cases h);have:=ziQ l c hc2 h3 (.inl (by omega));rw[this];simp only[zaM]
   ·refine zaV hm _ _ _ (fun h=>?_) (fun h=>?_)
    ·have h:(c:Int)<128:=by simpa using h
     have:=ziQ l c hc2 h3 (.inr (by omega));rw[this];simp only[zaM]
    ·have h:¬(c:Int)<128:=by simpa using h
     have:=zgh l c (fun e=>by have:=e.2.2;omega);rw[this];simp only[zaM]
   ·refine zaV hm _ _ _ (fun h=>by cases h) (fun _=>?_);have:=zgh l c (fun e=>by rw[e.2.1]at h3;cases h3);rw[this];simp only[zaM]
  ·refine zaV hm _ _ _ (fun h=>by cases h) (fun _=>?_);have:=zgh l c (fun e=>by have:=e.1;omega);rw[this];simp only[zaM]
 |succ n ih=>
  intro i c t H hi h1 hc hw t0 t1 t9 t10 t11;refine zaP.symIn (p:=[true,true,true,true,true,true,true,false,true,false]) zah hC rfl zqH (by kernel_rfl) [.us s,.ui at_,.uh H,.ui (l:Nat),.ui (c:Nat),.ui (i:Nat)] rfl hw ⟨t0,t1,t9,t10,t11,trivial⟩ rfl (zaW _ _) ?_;clear t0 t1 t9 t10 t11 hw;have hu:=zvA s i;have hv:=zva _ hu.1 hu.2;simp -implicitDefEqProofs only[VC,isR,exU,Ask.den,forall_eq,E.den,O1.den,O2.den,O3.den,U.int_ui,U.boo_ub,U.val_uv,U.lst_ul,U.str_us,U.nat_un,U.heap_uh,SH.den,zaF,zbH,bD,SB.den,zas,LQ,cons_append,nil_append,List.getElem?_cons_zero,List.getElem?_cons_succ,Option.getD_some,zam,zai,zan,zaj,beq_iff_eq,bne_iff_ne,beq_eq_false_iff_ne,Int.toNat_natCast];refine⟨fun _=>⟨by omega,by omega,.inl ⟨_,_,fun K=>hval _ hu.1 hu.2 K,?_⟩⟩,fun h=>absurd (show(i:Int)≤l by omega) h⟩;refine zaV hm _ _ _ (fun h=>?_) (fun h=>?_)
  ·intro t' hw' f0 f1 f9 f10 f11;have h16:zbW (atS s i)<16:=of_decide_eq_true h;simp only[zob,if_pos h16];obtain⟨v,hv'⟩:∃v:Nat,zbW (atS s i)=v:=⟨(zbW (atS s i)).toNat,by omega⟩;rw[hv']at f10 h16 ⊢;have hlt:16*c+v<16^i:=by
    have e:(16:Nat)^i=16^(i-1)*16:=by rw[←Nat.pow_succ,show(i-1).succ=i from by omega]
    omega
   have hbig:(16:Nat)^i≤16^6:=Nat.pow_le_pow_right (by omega) (by omega);have h6:(16:Nat)^6=16777216:=rfl;refine ih (i+1) (16*c+v) t' H (by omega) (by omega) (by rw[Nat.add_sub_cancel];exact hlt) hw' f0 f1 f9 ?_ ?_
   ·rw[f10,IntKind.wrap_u64,IntKind.wrap_u64];congr 1;omega
   ·rw[f11,w64 (by omega) (by omega)];congr 1
  ·have h16:¬zbW (atS s i)<16:=of_decide_eq_false h;simp only[zob,if_neg h16,zaM]
theorem zoH {call:zad}(hC:call.Sound prog TT)(hm:zdS call)(hval:∀c:Int,0≤c→c<256→∀H,call 94 [.i .u8 c,.i .i64 16] H=.val (.tup [.i .u64 (zbW c),.b (decide (zbW c<16))]) H)(hvr:∀c:Int,∀H,call 116 [.i .i32 c] H=.val (.b (vrR c)) H)
 (s:List UInt8)(at_:Int)(hs2:s.length<1100000):zaO prog TT 100 [.s s,.i .i64 at_] [] (isR (zaM (ziJ s) at_)):=by
 refine zaO.sym zah hC (fn:=f100) rfl rfl (by simp[f100]) zu2 (by kernel_rfl) [.us s,.ui at_,.uh []] rfl ⟨by rw[zag];rfl,by rw[zag];rfl,trivial⟩ rfl (zaW _ _) ?_;simp -implicitDefEqProofs only[VC,isR,exU,Ask.den,forall_eq,E.den,O1.den,O2.den,O3.den,U.int_ui,U.boo_ub,U.val_uv,U.lst_ul,U.str_us,U.nat_un,U.heap_uh,SH.den,zaF,zbH,bD,SB.den,zas,LQ,cons_append,nil_append,List.getElem?_cons_zero,List.getElem?_cons_succ,Option.getD_some,zam,zai,zan,zaj,beq_iff_eq,bne_iff_ne,beq_eq_false_iff_ne,Int.toNat_natCast];refine zaV hm _ _ _ (fun h=>?_) (fun h=>?_)
 ·have hne:s≠[]:=by simpa using h
  have hl0:0<s.length:=length_pos_iff.2 hne;refine⟨by omega,.inl ⟨_,_,by rw[zt8 (K:=_) rfl];rfl,?_⟩⟩;cases hp:plT (atS s 0)with
  |some x=>
   refine⟨fun _=>?_,fun h=>by cases h⟩;simp only[ziJ,if_neg hne,hp,zaM];rfl
  |none=>
   refine⟨fun h=>(by cases h),fun _=>.inl ⟨_,by rw[zt7 (K:=_) rfl];rfl,fun h0=>?_,fun h0=>?_⟩⟩
   ·refine zaV hm _ _ _ (fun h1=>?_) (fun h1=>?_)
    ·intro t' hw' f0 f1 f9 f10 f11;have h1:loT (atS s 0)<s.length:=by simp only[zam]at h1;omega
     have h0:0<loT (atS s 0):=by omega
     have hl:loT (atS s 0)=2∨loT (atS s 0)=4∨loT (atS s 0)=6:=by
      unfold loT at h0 ⊢;repeat' split
      all_goals simp_all
     have e:ziJ s=(match zob s (loT (atS s 0)) 1 0 with|some c=>zqQ (loT (atS s 0)) c|none=>none):=by
      simp only[ziJ,if_neg hne,hp];rw[if_pos ⟨h0,h1⟩]
     rw[e];exact Tri.symLoop rfl (zrz hC hm hval hvr s at_ (loT (atS s 0)) hl h1 hs2 (loT (atS s 0)) 1 0 t' _ (by omega) (by omega) (by simp) hw' f0 f1 f9 f10 f11)
    ·have h1:¬loT (atS s 0)<s.length:=by simp only[zai]at h1;omega
     simp only[ziJ,if_neg hne,hp];rw[if_neg fun e=>h1 e.2];simp only[zaM]
   ·refine zaV hm _ _ _ (fun h1=>by cases h1) (fun _=>?_);simp only[ziJ,if_neg hne,hp];rw[if_neg fun e=>h0 (by have:=e.1;omega)];simp only[zaM]
 ·have hne:s=[]:=by simpa using h
  subst hne;simp only[ziJ,if_true,zaM]
theorem zw0:∃g,zap prog TT 100 g∧∀p:List UInt8×Int,p.1.length<1100000→∀H,g [.s p.1,.i .i64 p.2] H=(zaM (ziJ p.1) p.2).at H:=by
 obtain⟨g1,k1,s1⟩:=zqs;obtain⟨g2,k2,s2⟩:=zd3;obtain⟨g3,k3,s3⟩:=zyv;refine zcx zah zat 100 (fun p:List UInt8×Int=>[.s p.1,.i .i64 p.2]) _ (fun p=>zaM (ziJ p.1) p.2) (fun p _=>⟨rfl,by unfold zaM;split<;>rfl⟩)
  (fun a b _ _ h=>by
   simp only[List.cons.injEq,V.s.injEq,V.i.injEq,true_and,and_true]at h;rw[h.1,h.2]) fun p hp=>?_
 exact zoH (ws (ws (ws n0 k1) k2) k3) (fun b e k H=>by rw[zac _ _ _ _ rfl,zao];exact s2 b e k H) (fun c h0 h1 H=>by rw[zac _ _ _ _ rfl,zac _ _ _ _ rfl,zao];exact s1 c 16 h0 h1 (by simp) H) (fun c H=>by rw[zao];exact s3 c trivial H) p.1 p.2 hp
theorem zu4:za2 TT shp 60 [] (zae f80) [] ⟨[(0,.f1 .vs (.va 0)),(1,.f1 (.vi .u8) (.va 1)),(2,.f1 (.vi .i64) (.va 2))],⟨.va 3,[],[]⟩,4,[]⟩ (KF TT f80 [0,1,2,8,9])=.leaf (.stop [true,true,true,false]) [(0,xs v0),(1,xu v1),(2,xi v2),(8,xp (xN (xh v3) (.cn 0))),(9,xi c1)] ⟨v3,[],[xk 66 (x2 (.cv .nilp) (.cv .nils))]⟩:=by kernel_rfl
theorem zu5:goT TT shp 60 [] [true,true,true,false,false] (zae f80) [] ⟨[(0,.f1 .vs (.va 0)),(1,.f1 (.vi .u8) (.va 1)),(2,.f1 (.vi .i64) (.va 2)),(8,.f1 (.ptr 0) (.cn 0)),(9,.f1 (.vi .i64) (.va 4))],⟨.va 3,[],[]⟩,5,[]⟩ (KF TT f80 [0,1,2,8,9])=let qh:E:=xA v0 v4;let qj:E:=xi (xc 31);let qg:E:=xi v2;let qf:E:=.cv (.tup []);let qd:E:=xp (.cn 0);let qb:SH:=⟨v3,[],[]⟩;let qi:SH:=⟨v5,[],[]⟩;let qc:E:=xw (xa v4 c1);let qe:Tree:=.stuck 0;let qk:Tree:=.pnc v5 qb;let qa:Tree:=.ite (xe qh v1) (.ask (.call 39 (x1 qd)) qb [.s] (xs v6) true (.asks (.call 36 (x1 (xs v6))) [.b] (xb v7) (.asks (.call 55 (x3 (xb v7) qj qg)) [] qf (.ask (.call 39 (x1 qd)) qi [.s] (xs v9) true (.fin (xt (x2 (xs v9) (xi qc))) ⟨v8,[],[]⟩) qe) (.pnc v8 qi)) qe) qe) (.ite (xe qh (xc 92)) (.need (xE c0 qc) (.need (xE qc (xl v0)) (.asks (.call 100 (x2 (xs (.f3 .sub v0 qc (xl v0))) qg)) [.s,.i] (xt (x2 (xs v5) (xi v6))) (.ask (.call 38 (x2 qd (xs v5))) qb [.i] (xt (x2 (xi v8) (.cv .nili))) true (.leaf (.again [true,true,true,false,false]) [(0,xs v0),(1,xu v1),(2,qg),(8,qd),(9,xi (xw (xa v4 (xw (xa c1 v6)))))] ⟨v7,[],[]⟩) qe) qk))) (.ask (.call 37 (x2 qd (xu qh))) qb [] (.cv .nili) true (.leaf (.again [true,true,true,false,false]) [(0,xs v0),(1,xu v1),(2,qg),(8,qd),(9,xi qc)] qi) qe));.ite (xL v4 (xl v0)) (.need (xE c0 v4) (.asks (.call 55 (x3 (xb (xM qh c10)) qj qg)) [] qf qa qk)) (.asks (.call 55 (x3 (xb (.cb false)) qj qg)) [] qf (.need (xE c0 v4) (.need (xL v4 (xl v0)) qa)) qk):=by kernel_rfl
theorem ztI (c:Int):(Utf8.encode c).data.toList.length≤4:=by
 have h:=zky c;have e:zdN [c]=(ByteArray.empty++Utf8.encode c).data.toList:=rfl;rw[e,ByteArray.empty_append]at h;exact h
theorem zsr {x:List UInt8}{k:Nat}{p:List UInt8×Nat}(hx:x.length≤4)(h:some (x,k)=some p):p.2=k∧p.1.length≤4:=by
 have h:=Option.some.inj h;subst h;exact⟨rfl,hx⟩
theorem ztS {l c:Nat}{p:List UInt8×Nat}(h:zqQ l c=some p):p.2=1+l∧p.1.length≤4:=by
 by_cases hf:c≤1114111∧vrR c=true∧(2<l∨c<128)
 ·rw[ziQ _ _ hf.1 hf.2.1 hf.2.2]at h;exact zsr (ztI _) h
 ·rw[zgh _ _ hf]at h;cases h
theorem zo9 (s:List UInt8)(p:List UInt8×Nat)(h:ziJ s=some p):p.2≤s.length∧p.1.length≤4∧1≤p.2:=by
 unfold ziJ at h;split at h
 ·cases h
 ·rename_i hne;have hl0:0<s.length:=length_pos_iff.2 hne;split at h
  ·rename_i x hx;cases h;refine⟨by simp only;omega,?_,Nat.le_refl _⟩;unfold plT at hx;repeat' (split at hx)
   all_goals first
    |(cases hx;simp)
    |cases hx
  ·by_cases hl:0<loT (atS s 0)∧loT (atS s 0)<s.length
   ·rw[if_pos hl]at h;split at h
    ·rename_i c hc;obtain⟨q1,q2⟩:=ztS h;exact⟨by omega,q2,by omega⟩
    ·cases h
   ·rw[if_neg hl]at h;cases h
def zht (s:List UInt8)(mk:Int):Nat→Nat→List UInt8→Option (List UInt8×Nat)
 |0,_,_=>none
 |n+1,i,out=>if s.length≤i then none else if atS s i=10 then none else if atS s i=mk then(if Lib.validD out=true then some (out,i+1)else none)
  else if atS s i=92 then(match ziJ (s.drop (i+1))with
   |some p=>zht s mk n (i+1+p.2) (out++p.1)
   |none=>none)
  else zht s mk n (i+1) (out++[UInt8.ofNat (atS s i).toNat])
theorem zq3 (s:List UInt8)(i:Nat)(h:i<s.length):∃c:UInt8,atS s i=c.toNat:=by
 unfold atS;rw[Int.toNat_natCast,List.getElem?_eq_getElem h];exact⟨_,rfl⟩
theorem zrA {call:zad}(hC:call.Sound prog TT)(hm:zdS call)(hesc:∀(x:List UInt8)(a:Int),x.length<1100000→∀H,call 100 [.s x,.i .i64 a] H=(zaM (ziJ x) a).at H)
 (hwb:∀(n:Nat)(l:List UInt8)(c:UInt8)(H:zaa),Bld H n l→l.length<100000000→∃H',call 37 [.ptr n 0,.i .u8 c.toNat] H=.val .nili H'∧Bld H' n (l++[c]))
 (hws:∀(n:Nat)(l x:List UInt8)(H:zaa),Bld H n l→l.length+x.length<100000000→∃H',call 38 [.ptr n 0,.s x] H=.val (.tup [.i .i64 x.length,.nili]) H'∧Bld H' n (l++x))
 (hst:∀(n:Nat)(l:List UInt8)(H:zaa),zn6 H n l→l.length<100000000→∃H',call 39 [.ptr n 0] H=.val (.s l) H'∧zn6 H' n l)
 (hvs:∀x:List UInt8,x.length<20000000→∀H,call 36 [.s x] H=.val (.b (Lib.validD x)) H)(s:List UInt8)(mk at_:Int)(hs:s.length<1100000) :
 ∀(n i:Nat)(out:List UInt8)(t:Tm)(H:zaa),s.length<n+i→i≤s.length→out.length≤4*i→t.wid=60→t.get 0=.s s→t.get 1=.i .u8 mk→t.get 2=.i .i64 at_→t.get 8=.ptr 0 0→t.get 9=.i .i64 (i:Nat)→Bld H 0 out →
 ctx prog TT [true,true,true,false,false] (zae f80) (za1 TT f80 (isR (zaM (zht s mk n i out) at_))) (.norm t H):=by
 intro n;induction n with
 |zero=>intro i out t H h1 h2;omega
 |succ n ih=>
  intro i out t H hn hi ho hw t0 t1 t2 t8 t9 hb;refine zaP.symIn (p:=[true,true,true,false]) zah hC rfl zu5 (by kernel_rfl) [.us s,.ui mk,.ui at_,.uh H,.ui (i:Nat)] rfl hw ⟨t0,t1,t2,t8,t9,trivial⟩ rfl (zaW _ _) ?_;clear t0 t1 t2 t8 t9 hw;simp -implicitDefEqProofs only[VC,isR,exU,Ask.den,forall_eq,E.den,O1.den,O2.den,O3.den,U.int_ui,U.boo_ub,U.val_uv,U.lst_ul,U.str_us,U.nat_un,U.heap_uh,SH.den,zaF,zbH,bD,SB.den,zas,LQ,cons_append,nil_append,List.getElem?_cons_zero,List.getElem?_cons_succ,Option.getD_some,zam,zai,zan,zaj,beq_iff_eq,bne_iff_ne,beq_eq_false_iff_ne,Int.toNat_natCast];have hw1:IntKind.i64.wrap ((i:Int)+1)=((i+1:Nat):Int):=by rw[w64 (by omega) (by omega)];omega
  simp only[hw1];refine⟨fun h=>⟨by omega,?_⟩,fun h=>?_⟩
  ·have hlt:i<s.length:=by omega
   have hnl:¬s.length≤i:=by omega
   obtain⟨c,hc⟩:=zq3 s i hlt;refine zaV hm _ _ _ (fun h1=>?_) (fun h1=>?_)
   ·have h10:¬atS s i=10:=by simpa using h1
    refine⟨fun h2=>?_,fun h2=>⟨fun h3=>?_,fun h3=>?_⟩⟩
    ·obtain⟨H1,q1,b1⟩:=hst 0 out H hb.read (by omega);refine .inl ⟨out,H1,q1,.inl ⟨_,fun K=>hvs out (by omega) K,?_⟩⟩;refine zaV hm _ _ _ (fun h4=>?_) (fun h4=>?_)
     ·obtain⟨H2,q2,b2⟩:=hst 0 out H1 b1 (by omega);refine .inl ⟨out,H2,q2,?_⟩;simp only[zht,if_neg hnl,if_neg h10,if_pos h2,h4,if_true,zaM]
     ·simp only[zht,if_neg hnl,if_neg h10,if_pos h2,h4,Bool.false_eq_true,if_false,zaM]
    ·refine⟨by omega,by omega,?_⟩;rw[take_length,Int.toNat_natCast];rcases hq:ziJ (s.drop (i+1))with _|p
     ·refine .inr ⟨zcA 31 at_,fun K=>?_,?_⟩
      ·rw[hesc _ _ (by rw[length_drop];omega),hq];rfl
      ·simp only[zht,if_neg hnl,if_neg h10,if_neg h2,if_pos h3,hq,zaM]
     ·obtain⟨p1,p2,p3⟩:=zo9 _ p hq;rw[length_drop]at p1;obtain⟨H1,q1,b1⟩:=hws 0 out p.1 H hb (by omega);refine .inl ⟨p.1,p.2,fun K=>?_,.inl ⟨(p.1.length:Int),?_⟩⟩
      ·rw[hesc _ _ (by rw[length_drop];omega),hq];rfl
      ·rw [if_pos trivial];refine⟨H1,q1,?_⟩;intro t' hw' f0 f1 f2 f8 f9;have e:zht s mk (n+1) i out=zht s mk n (i+1+p.2) (out++p.1):=by
        simp only[zht,if_neg hnl,if_neg h10,if_neg h2,if_pos h3,hq]
       have ew:IntKind.i64.wrap ((i:Int)+IntKind.i64.wrap (1+(p.2:Int)))=((i+1+p.2:Nat):Int):=by
        rw[w64 (by rw[w64 (by omega) (by omega)];omega) (by rw[w64 (by omega) (by omega)];omega),w64 (by omega) (by omega)];omega
       rw[ew]at f9;rw[e];exact ih (i+1+p.2) (out++p.1) t' H1 (by omega) (by omega) (by rw[length_append];omega) hw' f0 f1 f2 f8 f9 b1
    ·rw [hc]at h10 h2 h3 ⊢;obtain⟨H1,q1,b1⟩:=hwb 0 out c H hb (by omega);refine .inl ⟨H1,q1,?_⟩;intro t' hw' f0 f1 f2 f8 f9;have e:zht s mk (n+1) i out=zht s mk n (i+1) (out++[c]):=by
      simp only[zht,if_neg hnl,hc,if_neg h10,if_neg h2,if_neg h3,Int.toNat_natCast,zi7]
     rw[e];exact ih (i+1) (out++[c]) t' H1 (by omega) (by omega) (by simp;omega) hw' f0 f1 f2 f8 f9 b1
   ·have h10:atS s i=10:=by simpa using h1
    simp only[zht,if_neg hnl,if_pos h10,zaM]
  ·have hnl:s.length≤i:=by omega
   refine zaV hm _ _ _ (fun h1=>by cases h1) (fun h1=>?_);simp only[zht,if_pos hnl,zaM]
def zb0 (s:List UInt8)(mk:Int):Option (List UInt8×Nat):=zht s mk s.length 1 []
theorem zs4:∃g,zap prog TT 80 g∧∀p:List UInt8×Int×Int,(0<p.1.length∧p.1.length<1100000)→∀H,g [.s p.1,.i .u8 p.2.1,.i .i64 p.2.2] H=(zaM (zb0 p.1 p.2.1) p.2.2).at H:=by
 obtain⟨g1,k1,s1⟩:=zd3;obtain⟨g2,k2,s2⟩:=zw0;obtain⟨g3,k3,s3⟩:=zzd;obtain⟨g4,k4,s4⟩:=zzc;obtain⟨g5,k5,s5⟩:=zzb;obtain⟨g6,k6,s6⟩:=znX;have hC:=ws (ws (ws (ws (ws (ws n0 k1) k2) k3) k4) k5) k6;have c1:zdS ((((((zad.none.with 55 g1).with 100 g2).with 37 g3).with 38 g4).with 39 g5).with 36 g6):=fun b e k H=>by
  rw[zac _ _ _ _ rfl,zac _ _ _ _ rfl,zac _ _ _ _ rfl,zac _ _ _ _ rfl,zac _ _ _ _ rfl,zao];exact s1 b e k H
 have c2:∀(x:List UInt8)(a:Int),x.length<1100000→∀H,((((((zad.none.with 55 g1).with 100 g2).with 37 g3).with 38 g4).with 39 g5).with 36 g6) 100 [.s x,.i .i64 a] H=(zaM (ziJ x) a).at H:=fun x a hx H=>by
  rw[zac _ _ _ _ rfl,zac _ _ _ _ rfl,zac _ _ _ _ rfl,zac _ _ _ _ rfl,zao];exact s2 (x,a) hx H
 have c3:∀(n:Nat)(l:List UInt8)(c:UInt8)(H:zaa),Bld H n l→l.length<100000000→∃H',((((((zad.none.with 55 g1).with 100 g2).with 37 g3).with 38 g4).with 39 g5).with 36 g6) 37 [.ptr n 0,.i .u8 c.toNat] H=.val .nili H'∧Bld H' n (l++[c]):=fun n l c H h1 h2=>by
  rw[zac _ _ _ _ rfl,zac _ _ _ _ rfl,zac _ _ _ _ rfl,zao];exact s3 (n,l,c) H ⟨h1,h2⟩
 have c4:∀(n:Nat)(l x:List UInt8)(H:zaa),Bld H n l→l.length+x.length<100000000→∃H',((((((zad.none.with 55 g1).with 100 g2).with 37 g3).with 38 g4).with 39 g5).with 36 g6) 38 [.ptr n 0,.s x] H=.val (.tup [.i .i64 x.length,.nili]) H'∧Bld H' n (l++x):=fun n l x H h1 h2=>by
  rw[zac _ _ _ _ rfl,zac _ _ _ _ rfl,zao];exact s4 (n,l,x) H ⟨h1,h2⟩
 have c5:∀(n:Nat)(l:List UInt8)(H:zaa),zn6 H n l→l.length<100000000→∃H',((((((zad.none.with 55 g1).with 100 g2).with 37 g3).with 38 g4).with 39 g5).with 36 g6) 39 [.ptr n 0] H=.val (.s l) H'∧zn6 H' n l:=fun n l H h1 h2=>by
  rw[zac _ _ _ _ rfl,zao];exact s5 (n,l) H ⟨h1,h2⟩
 have c6:∀x:List UInt8,x.length<20000000→∀H,((((((zad.none.with 55 g1).with 100 g2).with 37 g3).with 38 g4).with 39 g5).with 36 g6) 36 [.s x] H=.val (.b (Lib.validD x)) H:=fun x hx H=>by
  rw[zao];exact s6 x (by omega) H
 generalize(((((zad.none.with 55 g1).with 100 g2).with 37 g3).with 38 g4).with 39 g5).with 36 g6=call at hC c1 c2 c3 c4 c5 c6;refine zcx zah zat 80 (fun p:List UInt8×Int×Int=>[.s p.1,.i .u8 p.2.1,.i .i64 p.2.2]) _ (fun p=>zaM (zb0 p.1 p.2.1) p.2.2) (fun p _=>⟨rfl,by unfold zaM;split<;>rfl⟩)
  (fun a b _ _ h=>by
   simp only[List.cons.injEq,V.s.injEq,V.i.injEq,true_and,and_true]at h;rw[h.1,h.2.1,h.2.2]) fun p hp=>?_
 obtain⟨s,mk,at_⟩:=p;simp only at hp ⊢;refine zaO.sym zah hC (fn:=f80) rfl rfl (by simp[f80]) zu4 (by kernel_rfl) [.us s,.ui mk,.ui at_,.uh []] rfl ⟨by rw[zag];rfl,by rw[zag];rfl,by rw[zag];rfl,trivial⟩ rfl (zaW _ _) ?_;simp -implicitDefEqProofs only[VC,isR,exU,Ask.den,forall_eq,E.den,O1.den,O2.den,O3.den,U.int_ui,U.boo_ub,U.val_uv,U.lst_ul,U.str_us,U.nat_un,U.heap_uh,SH.den,zaF,zbH,bD,SB.den,zas,LQ,cons_append,nil_append,List.getElem?_cons_zero,List.getElem?_cons_succ,Option.getD_some,zam,zai,zan,zaj,beq_iff_eq,bne_iff_ne,beq_eq_false_iff_ne,Int.toNat_natCast];intro t hw t0 t1 t2 t8 t9;exact Tri.symLoop rfl (zrA hC c1 c2 c3 c4 c5 c6 s mk at_ hp.2 s.length 1 [] t _ (by omega) (by omega) (by simp) hw t0 t1 t2 t8 t9 ⟨_,.inl rfl,.inl ⟨rfl,rfl⟩⟩)
end Go.Ev
namespace Go.Proofs
open Go.Shelf
set_option maxRecDepth 100000
def Tryz.lays137_ren:Go.Shelf.Ren:=⟨fun|137=>71|217=>87|266=>105|n=>n,fun|9=>9|5=>5|3=>3|n=>n,fun|n=>n⟩
theorem Tryz.lays137:Go.Proofs.Lays.n137 Tryz.prog Tryz.lays137_ren:={
 mixed:=by kernel_rfl
 f137:=Tryz.func71.trans (congrArg some (by kernel_rfl))
 f217:=Tryz.func87.trans (congrArg some (by kernel_rfl))
 f266:=Tryz.func105.trans (congrArg some (by kernel_rfl))
 t3:=Tryz.underlying3
 a3:=Tryz.isAgg3
 z3:=Tryz.sizeOf3
 v3:=Tryz.zeroValue3
 t5:=Tryz.underlying5
 a5:=Tryz.isAgg5
 z5:=Tryz.sizeOf5
 v5:=Tryz.zeroValue5
 t9:=Tryz.underlying9
 a9:=Tryz.isAgg9
 z9:=Tryz.sizeOf9
 v9:=Tryz.zeroValue9}
open Go.RowKit in
theorem Tryz.strings_IndexByte (s:ByteArray)(c:Int)(w:World) :
 Calls Tryz.prog 71 #[.string s,.int .u8 c] w fun e w'=>e=.returned (.int .i64 (Lib.indexByte s.data.toList c.toNat.toUInt8))∧w'=w:=Any.strings_IndexByte Tryz.lays137 s c w
def Tryz.lays195_ren:Go.Shelf.Ren:=⟨fun|195=>81|n=>n,fun|9=>9|3=>3|0=>0|4=>4|n=>n,fun|n=>n⟩
theorem Tryz.lays195:Go.Proofs.Lays.n195 Tryz.prog Tryz.lays195_ren:={
 mixed:=by kernel_rfl
 f195:=Tryz.func81.trans (congrArg some (by kernel_rfl))
 t0:=Tryz.underlying0
 a0:=Tryz.isAgg0
 z0:=Tryz.sizeOf0
 v0:=Tryz.zeroValue0
 t3:=Tryz.underlying3
 a3:=Tryz.isAgg3
 z3:=Tryz.sizeOf3
 v3:=Tryz.zeroValue3
 t4:=Tryz.underlying4
 a4:=Tryz.isAgg4
 z4:=Tryz.sizeOf4
 v4:=Tryz.zeroValue4
 t9:=Tryz.underlying9
 a9:=Tryz.isAgg9
 z9:=Tryz.sizeOf9
 v9:=Tryz.zeroValue9}
open Go.RowKit in
theorem Tryz.utf8_RuneCountInString (s:ByteArray)(w:World)(hs:s.size<9223372036854775807) :
 Calls Tryz.prog 81 #[.string s] w fun e w'=>e=.returned (.int .i64 (Lib.runeCount s))∧∃pos,w'=w.iter s pos:=Any.utf8_RuneCountInString Tryz.lays195 s w hs
open Go.RowKit Go.Lib in
open Go.RowKit Go.Lib in
theorem Tryz.strings_Index (s sub:ByteArray)(m:Int)(w:World)(hs:s.size<4294967281)(hm:w.cell? ⟨4,0,none⟩=some (.int .i64 m)) :
 Calls Tryz.prog 35 #[.string s,.string sub] w fun e w'=>e=.returned (.int .i64 (Lib.index s.data.toList sub.data.toList))∧w'=w:=Any.strings_Index Tryz.lays143 s sub m w hs hm
open Go.RowKit Go.Lib in
open Go.RowKit Go.Lib in
theorem Tryz.strings_Contains (s sub:ByteArray)(m:Int)(w:World)(hs:s.size<4294967281)(hm:w.cell? ⟨4,0,none⟩=some (.int .i64 m)) :
 Calls Tryz.prog 15 #[.string s,.string sub] w fun e w'=>e=.returned (.bool (Lib.contains s.data.toList sub.data.toList))∧w'=w:=Any.strings_Contains Tryz.lays144 s sub m w hs hm
def Tryz.lays197_ren:Go.Shelf.Ren:=⟨fun|197=>82|260=>101|n=>n,fun|9=>9|21=>21|3=>3|4=>4|5=>5|105=>114|119=>99|0=>0|46=>72|139=>102|138=>101|n=>n,fun|3=>1|4=>2|n=>n⟩
theorem Tryz.lays197:Go.Proofs.Lays.n197 Tryz.prog Tryz.lays197_ren:={
 mixed:=by kernel_rfl
 f197:=Tryz.func82.trans (congrArg some (by kernel_rfl))
 f260:=Tryz.func101.trans (congrArg some (by kernel_rfl))
 t0:=Tryz.underlying0
 a0:=Tryz.isAgg0
 z0:=Tryz.sizeOf0
 v0:=Tryz.zeroValue0
 t3:=Tryz.underlying3
 a3:=Tryz.isAgg3
 z3:=Tryz.sizeOf3
 v3:=Tryz.zeroValue3
 t4:=Tryz.underlying4
 a4:=Tryz.isAgg4
 z4:=Tryz.sizeOf4
 v4:=Tryz.zeroValue4
 t5:=Tryz.underlying5
 a5:=Tryz.isAgg5
 z5:=Tryz.sizeOf5
 v5:=Tryz.zeroValue5
 t9:=Tryz.underlying9
 a9:=Tryz.isAgg9
 z9:=Tryz.sizeOf9
 v9:=Tryz.zeroValue9
 t21:=Tryz.underlying21
 a21:=Tryz.isAgg21
 z21:=Tryz.sizeOf21
 v21:=Tryz.zeroValue21
 t46:=Tryz.underlying72
 a46:=Tryz.isAgg72
 z46:=Tryz.sizeOf72
 v46:=Tryz.zeroValue72
 t105:=Tryz.underlying114
 a105:=Tryz.isAgg114
 z105:=Tryz.sizeOf114
 v105:=Tryz.zeroValue114
 t119:=Tryz.underlying99
 a119:=Tryz.isAgg99
 z119:=Tryz.sizeOf99
 t138:=Tryz.underlying101
 a138:=Tryz.isAgg101
 z138:=Tryz.sizeOf101
 v138:=Tryz.zeroValue101
 t139:=Tryz.underlying102
 a139:=Tryz.isAgg102
 z139:=Tryz.sizeOf102
 v139:=Tryz.zeroValue102
 g3:=by kernel_rfl
 g4:=by kernel_rfl}
open Go.RowKit Go.Lib in
theorem Tryz.utf8_DecodeRuneInString (s:ByteArray)(w:World)(hT:Lib.Utf8Tabs 1 2 w) :
 Calls Tryz.prog 82 #[.string s] w fun e w'=>e=.returned (.tuple #[.int .i32 (Lib.decodeGo s).1,.int .i64 (Lib.decodeGo s).2])∧Below w.heap.size w w':=Any.utf8_DecodeRuneInString Tryz.lays197 s w hT
end Go.Proofs
namespace Go.Ev
open Go Go.Proofs Go.RowKit
set_option maxRecDepth 100000
theorem zsU {M:Mem}{ρ:Ren}{H:zaa}{w:World}(hS:SR TT M ρ H w):∃m:Int,w.cell? ⟨4,0,none⟩=some (.int .i64 m):=by
 obtain⟨m,ty,fr,hM⟩:=hS.gint 4 rfl;have hw:=hS.frozen _ _ hM;exact⟨m,by simp[World.cell?,hw]⟩
def zcG:List V→zaa→OR
 | [.s s,.i .u8 c],H=>.val (.i .i64 (Lib.indexByte s c.toNat.toUInt8)) H
 |_,_=>.no
def zd4:List V→zaa→OR
 | [.s s,.s p],H=>if s.length<4294967281 then .val (.i .i64 (Lib.index s p)) H else .no
 |_,_=>.no
def zbE:List V→zaa→OR
 | [.s s,.s p],H=>if s.length<4294967281 then .val (.b (Lib.contains s p)) H else .no
 |_,_=>.no
def zd5:List V→zaa→OR
 | [.s s],H=>if s.length<4294967281 then .val (.i .i64 (Lib.runeCount ⟨s.toArray⟩)) H else .no
 |_,_=>.no
def zc4:List V→zaa→OR
 | [.s s],H=>.val (.tup [.i .i32 (Lib.decodeGo ⟨s.toArray⟩).1,.i .i64 (Lib.decodeGo ⟨s.toArray⟩).2]) H
 |_,_=>.no
theorem zy7:zap Tryz.prog TT 71 zcG:=by
 intro vs H r h hne;unfold zcG at h;split at h
 ·rename_i H s c;subst h;refine⟨zco (f:=71) rfl rfl,fun M ρ w args hS hr=>?_⟩;have ha:args=[.string ⟨s.toArray⟩,.int .u8 c]:=by
   simp only[relL,rel]at hr;obtain⟨x,r,rfl,rfl,x,r,rfl,rfl,rfl⟩:=hr;rfl
  rw[ha];refine zbl (x:=.int .i64 (Lib.indexByte s c.toNat.toUInt8)) hS ?_ (by simp only[rel]);exact(Tryz.strings_IndexByte ⟨s.toArray⟩ c w).mono fun e w' ⟨h1,h2⟩=>⟨h1,h2▸Below.refl _ _⟩
 ·exact absurd h.symm hne
theorem zy6:zap Tryz.prog TT 35 zd4:=by
 intro vs H r h hne;unfold zd4 at h;split at h
 ·rename_i H s p;split at h
  ·rename_i hc;subst h;refine⟨zco (f:=35) rfl rfl,fun M ρ w args hS hr=>?_⟩;rw[zwl hr];obtain⟨m,hm⟩:=zsU hS;refine zbl (x:=.int .i64 (Lib.index s p)) hS ?_ (by simp only[rel]);exact(Tryz.strings_Index ⟨s.toArray⟩ ⟨p.toArray⟩ m w (by show s.toArray.size<_;simpa using hc) hm).mono fun e w' ⟨h1,h2⟩=>⟨h1,h2▸Below.refl _ _⟩
  ·exact absurd h.symm hne
 ·exact absurd h.symm hne
theorem zy4:zap Tryz.prog TT 15 zbE:=by
 intro vs H r h hne;unfold zbE at h;split at h
 ·rename_i H s p;split at h
  ·rename_i hc;subst h;refine⟨zco (f:=15) rfl rfl,fun M ρ w args hS hr=>?_⟩;rw[zwl hr];obtain⟨m,hm⟩:=zsU hS;refine zbl (x:=.bool (Lib.contains s p)) hS ?_ (by simp only[rel]);exact(Tryz.strings_Contains ⟨s.toArray⟩ ⟨p.toArray⟩ m w (by show s.toArray.size<_;simpa using hc) hm).mono fun e w' ⟨h1,h2⟩=>⟨h1,h2▸Below.refl _ _⟩
  ·exact absurd h.symm hne
 ·exact absurd h.symm hne
theorem zy8:zap Tryz.prog TT 81 zd5:=by
 intro vs H r h hne;unfold zd5 at h;split at h
 ·rename_i H s;split at h
  ·rename_i hc;subst h;refine⟨zco (f:=81) rfl rfl,fun M ρ w args hS hr=>?_⟩;rw[zuo hr];refine zbl (x:=.int .i64 (Lib.runeCount ⟨s.toArray⟩)) hS ?_ (by simp only[rel]);refine(Tryz.utf8_RuneCountInString ⟨s.toArray⟩ w (by show s.toArray.size<_;simp;omega)).mono ?_;rintro e w' ⟨rfl,pos,rfl⟩;exact⟨rfl,rfl,rfl,rfl,by show w.heap.size≤(w.heap.push _).size;rw[Array.size_push];omega,fun k hk=>RowKit.Below.heap_alloc w _ k hk⟩
  ·exact absurd h.symm hne
 ·exact absurd h.symm hne
theorem zy9:zap Tryz.prog TT 82 zc4:=by
 intro vs H r h hne;unfold zc4 at h;split at h
 ·rename_i H s;subst h;refine⟨zco (f:=82) rfl rfl,fun M ρ w args hS hr=>?_⟩;rw[zuo hr];refine zbl (x:=.tuple #[.int .i32 (Lib.decodeGo ⟨s.toArray⟩).1,.int .i64 (Lib.decodeGo ⟨s.toArray⟩).2]) hS ?_ (by simp[rel,relL]);exact Tryz.utf8_DecodeRuneInString ⟨s.toArray⟩ w (zim hS)
 ·exact absurd h.symm hne
end Go.Ev
