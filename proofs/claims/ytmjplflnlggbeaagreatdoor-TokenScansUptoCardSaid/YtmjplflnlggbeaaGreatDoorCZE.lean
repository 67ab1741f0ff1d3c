/- character and text. The functions that number chooses an end by. comment. What number comes to; its parts. number: the range over its two prefixes. skip. Trees of token. The first region of token. The whole body of token, its parts given. Bounds of characters, texts and symbols; the look-up among the keywords. Symbols. The set of keywords on the heap of Scan. The function that Scan defers, behind a return. The function that Scan defers, behind a panic. -/
import Derived.Test.YtmjplflnlggbeaaGreatDoorCYL
import Derived.Test.YtmjplflnlggbeaaGreatDoorCT38
import Derived.Test.YtmjplflnlggbeaaGreatDoorCZA
import Derived.Test.YtmjplflnlggbeaaGreatDoorCEvPart2
import Derived.Test.YtmjplflnlggbeaaGreatDoorCT20
import Derived.Test.YtmjplflnlggbeaaGreatDoorCWE
namespace Go.Ev
open Go Go.Proofs
set_option linter.unusedSimpArgs false
set_option linter.unusedVariables false
set_option linter.unnecessarySimpa false
open Tryz List
set_option maxRecDepth 1000000
theorem zxl:za2 TT shp f52.ntmps [] (zae f52) [] ⟨[(0,.f1 .vs (.va 0)),(1,.f1 (.vi .i64) (.va 1))],⟨.va 2,[],[]⟩,3,[]⟩ (KF TT f52 [])=let qa:SH:=⟨v2,[],[]⟩;.asks (.call 80 (x3 (xs v0) (xu (xc 39)) (xi v1))) [.s,.i] (xt (x2 (xs v3) (xi v4))) (.asks (.call 81 (x1 (xs v3))) [.i] (xi v5) (.asks (.call 55 (x3 (xb (xe v5 c1)) (xi (xc 31)) (xi v1))) [] (.cv (.tup [])) (.asks (.call 82 (x1 (xs v3))) [.i,.i] (xt (x2 (xj v6) (xi v7))) (.asks (.call 61 (x1 (xi (xw v6)))) [.s] (xs v8) (.fin (xt (x2 (xs v8) (xi v4))) qa) (.stuck 0)) (.stuck 0)) (.pnc v6 qa)) (.stuck 0)) (.pnc v3 qa):=by kernel_rfl
theorem zxx:za2 TT shp f53.ntmps [] (zae f53) [] ⟨[(0,.f1 .vs (.va 0)),(1,.f1 (.vi .i64) (.va 1))],⟨.va 2,[],[]⟩,3,[]⟩ (KF TT f53 [])=let qf:E:=xs (.cs [34,34,34]);let qb:E:=xw (xa c3 v4);let qe:E:=xs (.f3 .sub v0 c3 qb);let qc:SH:=⟨v2,[],[]⟩;let qa:Tree:=.fin (xt (x2 qe (xi (xw (xa v4 (xc 6)))))) qc;let qd:E:=xt (x2 (xs v4) (xi v5));.asks (.call 70 (x2 (xs v0) qf)) [.b] (xb v3) (.ite v3 (.need (xE c3 (xl v0)) (.asks (.call 35 (x2 (xs (.f3 .sub v0 c3 (xl v0))) qf)) [.i] (xi v4) (.ite (xH v4 c0) (.need (xE c3 qb) (.need (xE qb (xl v0)) (.asks (.call 36 (x1 qe)) [.b] (xb v5) (.asks (.call 55 (x3 (xb v5) (xi (xc 31)) (xi v1))) [] (.cv (.tup [])) qa (.pnc v6 qc)) (.stuck 0)))) (.asks (.call 55 (x3 (xb (.cb false)) (xi (xc 31)) (xi v1))) [] (.cv (.tup [])) (.need (xE c3 qb) (.need (xE qb (xl v0)) qa)) (.pnc v5 qc))) (.stuck 0))) (.asks (.call 80 (x3 (xs v0) (xu (xc 34)) (xi v1))) [.s,.i] qd (.fin qd qc) (.pnc v4 qc))) (.stuck 0):=by kernel_rfl
theorem zlB (s:List UInt8)(mk:Int):∀(n i:Nat)(out:List UInt8)(p:List UInt8×Nat),out.length≤4*i→zht s mk n i out=some p→p.1.length≤4*s.length∧i<p.2∧p.2≤s.length
 |0,_,_,_,_,h=>by simp[zht]at h
 |n+1,i,out,p,ho,h=>by
  simp only[zht]at h;by_cases h1:s.length≤i
  ·rw[if_pos h1]at h;cases h
  ·rw[if_neg h1]at h;by_cases h2:atS s i=10
   ·rw[if_pos h2]at h;cases h
   ·rw[if_neg h2]at h;by_cases h3:atS s i=mk
    ·rw[if_pos h3]at h;by_cases h4:Lib.validD out=true
     ·rw[if_pos h4]at h;have h:=Option.some.inj h;subst h;exact⟨by simp only;omega,by simp only;omega,by simp only;omega⟩
     ·rw[if_neg h4]at h;cases h
    ·rw[if_neg h3]at h;by_cases h5:atS s i=92
     ·rw[if_pos h5]at h;rcases hq:ziJ (s.drop (i+1))with _|q
      ·rw[hq]at h;cases h
      ·rw[hq]at h;obtain⟨p1,p2,p3⟩:=zo9 _ q hq;have:=zlB s mk n (i+1+q.2) (out++q.1) p (by rw[length_append];omega) h;omega
     ·rw[if_neg h5]at h;have:=zlB s mk n (i+1) _ p (by rw[length_append,length_singleton];omega) h;omega
theorem zhe {s:List UInt8}{mk:Int}{p:List UInt8×Nat}(h:zb0 s mk=some p):p.1.length≤4*s.length∧1<p.2∧p.2≤s.length:=zlB s mk _ 1 [] p (by simp) h
def zkK (s:List UInt8):Option (List UInt8×Nat):=match zb0 s 39 with
 |some p=>if Lib.runeCount ⟨p.1.toArray⟩=1 then some (Lib.itoa (IntKind.i64.wrap (Lib.decodeGo ⟨p.1.toArray⟩).1),p.2)else none
 |none=>none
def zjA (s:List UInt8):Option (List UInt8×Nat):=if zbF s [34,34,34]=true then
    (if 0≤Lib.index (s.drop 3) [34,34,34]∧Lib.validD ((s.drop 3).take (Lib.index (s.drop 3) [34,34,34]).toNat)=true then some ((s.drop 3).take (Lib.index (s.drop 3) [34,34,34]).toNat,(Lib.index (s.drop 3) [34,34,34]).toNat+6)else none)
  else zb0 s 34
theorem zqN (n:Int):-9223372036854775808≤IntKind.i64.wrap n∧IntKind.i64.wrap n≤9223372036854775807:=by
 have e:(2:Int)^IntKind.i64.bits=18446744073709551616:=rfl;have e2:(2:Int)^(IntKind.i64.bits-1)=9223372036854775808:=rfl;simp only[IntKind.wrap,e,e2,IntKind.signed,Bool.true_and,decide_eq_true_eq];split<;>omega
theorem zwN:∃g,zap prog TT 52 g∧∀p:List UInt8×Int,(0<p.1.length∧p.1.length<1100000)→∀H,g [.s p.1,.i .i64 p.2] H=(zaM (zkK p.1) p.2).at H:=by
 obtain⟨g1,k1,s1⟩:=zd3;obtain⟨g2,k2,s2⟩:=zs4;have hC:=ws (ws (ws (ws (ws n0 k1) k2) zy8) zy9) zv6;have c1:zdS (((((zad.none.with 55 g1).with 80 g2).with 81 zd5).with 82 zc4).with 61 zev):=fun b e k H=>by
  rw[zac _ _ _ _ rfl,zac _ _ _ _ rfl,zac _ _ _ _ rfl,zac _ _ _ _ rfl,zao];exact s1 b e k H
 have c2:∀(x:List UInt8)(a:Int),(0<x.length∧x.length<1100000)→∀H,(((((zad.none.with 55 g1).with 80 g2).with 81 zd5).with 82 zc4).with 61 zev) 80 [.s x,.i .u8 39,.i .i64 a] H=(zaM (zb0 x 39) a).at H:=fun x a hx H=>by
  rw[zac _ _ _ _ rfl,zac _ _ _ _ rfl,zac _ _ _ _ rfl,zao];exact s2 (x,39,a) hx H
 have c3:∀x:List UInt8,x.length<4294967281→∀H,(((((zad.none.with 55 g1).with 80 g2).with 81 zd5).with 82 zc4).with 61 zev) 81 [.s x] H=.val (.i .i64 (Lib.runeCount ⟨x.toArray⟩)) H:=fun x hx H=>by
  rw[zac _ _ _ _ rfl,zac _ _ _ _ rfl,zao];exact if_pos hx
 have c4:∀x:List UInt8,∀H,(((((zad.none.with 55 g1).with 80 g2).with 81 zd5).with 82 zc4).with 61 zev) 82 [.s x] H=.val (.tup [.i .i32 (Lib.decodeGo ⟨x.toArray⟩).1,.i .i64 (Lib.decodeGo ⟨x.toArray⟩).2]) H:=fun x H=>by
  rw[zac _ _ _ _ rfl,zao];rfl
 have c5:∀n:Int,∀H,(((((zad.none.with 55 g1).with 80 g2).with 81 zd5).with 82 zc4).with 61 zev) 61 [.i .i64 (IntKind.i64.wrap n)] H=.val (.s (Lib.itoa (IntKind.i64.wrap n))) H:=fun n H=>by
  rw[zao];exact if_pos (zqN n)
 generalize((((zad.none.with 55 g1).with 80 g2).with 81 zd5).with 82 zc4).with 61 zev=call at hC c1 c2 c3 c4 c5;refine zcx zah zat 52 (fun p:List UInt8×Int=>[.s p.1,.i .i64 p.2]) _ (fun p=>zaM (zkK p.1) p.2) (fun p _=>⟨rfl,by unfold zaM;split<;>rfl⟩)
  (fun a b _ _ h=>by
   simp only[List.cons.injEq,V.s.injEq,V.i.injEq,true_and,and_true]at h;rw[h.1,h.2]) fun p hp=>?_
 obtain⟨s,at_⟩:=p;simp only at hp ⊢;refine zaO.sym zah hC (fn:=f52) rfl rfl (by simp[f52]) zxl (by kernel_rfl) [.us s,.ui at_,.uh []] rfl ⟨by rw[zag];rfl,by rw[zag];rfl,trivial⟩ rfl (zaW _ _) ?_;simp -implicitDefEqProofs only[VC,isR,exU,Ask.den,forall_eq,E.den,O1.den,O2.den,O3.den,U.int_ui,U.boo_ub,U.val_uv,U.lst_ul,U.str_us,U.nat_un,U.heap_uh,SH.den,zaF,zbH,bD,SB.den,zas,LQ,cons_append,nil_append,List.getElem?_cons_zero,List.getElem?_cons_succ,Option.getD_some,zam,zai,zan,zaj,beq_iff_eq,bne_iff_ne,beq_eq_false_iff_ne,Int.toNat_natCast];rcases hq:zb0 s 39 with _|p
 ·refine .inr ⟨zcA 31 at_,fun K=>?_,?_⟩
  ·rw[c2 s at_ hp,hq];rfl
  ·simp only[zkK,hq,zaM]
 ·obtain⟨p1,p2,p3⟩:=zhe hq;refine .inl ⟨p.1,p.2,fun K=>by rw[c2 s at_ hp,hq];rfl,.inl ⟨_,fun K=>c3 p.1 (by omega) K,?_⟩⟩;refine zaV c1 _ _ _ (fun h=>.inl ⟨_,_,fun K=>c4 p.1 K,.inl ⟨_,fun K=>c5 _ K,?_⟩⟩) (fun h=>?_)
  ·have h:Lib.runeCount ⟨p.1.toArray⟩=1:=by simp at h;omega
   simp only[zkK,hq,if_pos h,zaM]
  ·have h:¬Lib.runeCount ⟨p.1.toArray⟩=1:=by simp at h;omega
   simp only[zkK,hq,if_neg h,zaM]
theorem zwO:∃g,zap prog TT 53 g∧∀p:List UInt8×Int,(0<p.1.length∧p.1.length<1100000)→∀H,g [.s p.1,.i .i64 p.2] H=(zaM (zjA p.1) p.2).at H:=by
 obtain⟨g1,k1,s1⟩:=zd3;obtain⟨g2,k2,s2⟩:=zs4;obtain⟨g3,k3,s3⟩:=zmN;obtain⟨g5,k5,s5⟩:=znX;have hC:=ws (ws (ws (ws (ws n0 k1) k2) k3) zy6) k5;have c1:zdS (((((zad.none.with 55 g1).with 80 g2).with 70 g3).with 35 zd4).with 36 g5):=fun b e k H=>by
  rw[zac _ _ _ _ rfl,zac _ _ _ _ rfl,zac _ _ _ _ rfl,zac _ _ _ _ rfl,zao];exact s1 b e k H
 have c2:∀(x:List UInt8)(a:Int),(0<x.length∧x.length<1100000)→∀H,(((((zad.none.with 55 g1).with 80 g2).with 70 g3).with 35 zd4).with 36 g5) 80 [.s x,.i .u8 34,.i .i64 a] H=(zaM (zb0 x 34) a).at H:=fun x a hx H=>by
  rw[zac _ _ _ _ rfl,zac _ _ _ _ rfl,zac _ _ _ _ rfl,zao];exact s2 (x,34,a) hx H
 have c3:∀x y:List UInt8,∀H,(((((zad.none.with 55 g1).with 80 g2).with 70 g3).with 35 zd4).with 36 g5) 70 [.s x,.s y] H=.val (.b (zbF x y)) H:=fun x y H=>by
  rw[zac _ _ _ _ rfl,zac _ _ _ _ rfl,zao];exact s3 x y H
 have c4:∀x y:List UInt8,x.length<4294967281→∀H,(((((zad.none.with 55 g1).with 80 g2).with 70 g3).with 35 zd4).with 36 g5) 35 [.s x,.s y] H=.val (.i .i64 (Lib.index x y)) H:=fun x y hx H=>by
  rw[zac _ _ _ _ rfl,zao];exact if_pos hx
 have c5:∀x:List UInt8,x.length<20000000→∀H,(((((zad.none.with 55 g1).with 80 g2).with 70 g3).with 35 zd4).with 36 g5) 36 [.s x] H=.val (.b (Lib.validD x)) H:=fun x hx H=>by
  rw[zao];exact s5 x (by omega) H
 generalize((((zad.none.with 55 g1).with 80 g2).with 70 g3).with 35 zd4).with 36 g5=call at hC c1 c2 c3 c4 c5;refine zcx zah zat 53 (fun p:List UInt8×Int=>[.s p.1,.i .i64 p.2]) _ (fun p=>zaM (zjA p.1) p.2) (fun p _=>⟨rfl,by unfold zaM;split<;>rfl⟩)
  (fun a b _ _ h=>by
   simp only[List.cons.injEq,V.s.injEq,V.i.injEq,true_and,and_true]at h;rw[h.1,h.2]) fun p hp=>?_
 obtain⟨s,at_⟩:=p;simp only at hp ⊢;refine zaO.sym zah hC (fn:=f53) rfl rfl (by simp[f53]) zxx (by kernel_rfl) [.us s,.ui at_,.uh []] rfl ⟨by rw[zag];rfl,by rw[zag];rfl,trivial⟩ rfl (zaW _ _) ?_;simp -implicitDefEqProofs only[VC,isR,exU,Ask.den,forall_eq,E.den,O1.den,O2.den,O3.den,U.int_ui,U.boo_ub,U.val_uv,U.lst_ul,U.str_us,U.nat_un,U.heap_uh,SH.den,zaF,zbH,bD,SB.den,zas,LQ,cons_append,nil_append,List.getElem?_cons_zero,List.getElem?_cons_succ,Option.getD_some,zam,zai,zan,zaj,beq_iff_eq,bne_iff_ne,beq_eq_false_iff_ne,Int.toNat_natCast];refine .inl ⟨_,fun K=>c3 s [34,34,34] K,fun h=>?_,fun h=>?_⟩
 ·have hl:3≤s.length:=by
   simp only[zbF,Bool.and_eq_true,decide_eq_true_eq]at h;have:=h.1;simpa using this
  have e0:(s.take (s.length:Int).toNat).drop 3=s.drop 3:=by rw[Int.toNat_natCast,take_length]
  have hi:=Lib.index_ge (s.drop 3) [34,34,34];refine⟨by omega,.inl ⟨Lib.index (s.drop 3) [34,34,34],fun K=>?_,fun h4=>?_,fun h4=>?_⟩⟩
  ·simp only[Int.toNat_natCast,take_length];exact c4 _ _ (by rw[length_drop];omega) K
  ·have hr:=Lib.index_room (s.drop 3) [34,34,34] (by omega);rw[length_drop]at hr;simp only[length_cons,length_nil]at hr;obtain⟨k,hk⟩:∃k:Nat,Lib.index (s.drop 3) [34,34,34]=k:=⟨(Lib.index (s.drop 3) [34,34,34]).toNat,by omega⟩;rw[hk]at hr h4 ⊢;have hw:IntKind.i64.wrap (3+(k:Int))=((3+k:Nat):Int):=by rw[w64 (by omega) (by omega)];omega
   have hw2:IntKind.i64.wrap ((k:Int)+6)=((k+6:Nat):Int):=by rw[w64 (by omega) (by omega)];omega
   have e1:(s.take (3+k)).drop 3=(s.drop 3).take k:=by rw[drop_take,Nat.add_sub_cancel_left]
   simp only[hw,hw2,Int.toNat_natCast];have e2:(s.take (3+k)).drop (Int.toNat 3)=(s.drop 3).take k:=e1;rw[e2];refine⟨by omega,by omega,.inl ⟨_,fun K=>c5 _ (by rw[length_take,length_drop];omega) K,?_⟩⟩
   ·refine zaV c1 _ _ _ (fun h6=>?_) (fun h6=>?_)
    ·simp only[zjA,if_pos h,hk,Int.toNat_natCast];rw[if_pos ⟨by omega,h6⟩];simp only[zaM]
    ·simp only[zjA,if_pos h,hk,Int.toNat_natCast];rw[if_neg fun e=>by rw[e.2]at h6;cases h6];simp only[zaM]
  ·refine zaV c1 _ _ _ (fun h5=>by cases h5) (fun h5=>?_);simp only[zjA,if_pos h];rw[if_neg fun e=>h4 (by have:=e.1;omega)];simp only[zaM]
 ·have e:zjA s=zb0 s 34:=by simp only[zjA];rw[if_neg (by rw[h];exact Bool.false_ne_true)]
  rw[e];rcases hq:zb0 s 34 with _|p
  ·refine .inr ⟨zcA 31 at_,fun K=>?_,?_⟩
   ·rw[c2 s at_ hp,hq];rfl
   ·simp only[zaM]
  ·exact .inl ⟨p.1,p.2,fun K=>by rw[c2 s at_ hp,hq];rfl,by simp only[zaM]⟩
theorem zxp:za2 TT shp f74.ntmps [] (zae f74) [] ⟨[(0,.f1 (.vi .i64) (.va 1)),(1,.f1 (.ptr 0) (.va 2)),(2,.f1 (.ptr 0) (.va 3))],⟨.va 0,[(.va 2,some ⟨9,.f2 .cons (.f1 .vs (.va 4)) .nil,.all⟩),(.va 3,some ⟨3,.f2 .cons (.f1 (.vi .i64) (.va 5)) .nil,.all⟩)],[]⟩,6,[]⟩ (KF TT f74 [])=let qa:SH:=⟨v0,[(v2,xk 9 (x1 (xs v4))),(v3,xk 3 (x1 (xi v5)))],[]⟩;.ite (xe v1 (xl v4)) (.asks (.call 55 (x3 (xb (.cb true)) (xi (xc 33)) (xi v5))) [] (.cv (.tup [])) (.fin (xi v1) qa) (.pnc v6 qa)) (.need (xE c0 v1) (.need (xL v1 (xl v4)) (.asks (.call 73 (x1 (xu (xA v4 v1)))) [.b] (xb v6) (.asks (.call 55 (x3 (xb (xo v6)) (xi (xc 33)) (xi v5))) [] (.cv (.tup [])) (.fin (xi v1) qa) (.pnc v7 qa)) (.stuck 0)))):=by kernel_rfl
theorem zu3:za2 TT shp f51.ntmps [] (sub [true,true,false,true,false,false,true,true,false,true] (zae f51)) [] ⟨[(2,.f1 (.ptr 0) (.va 1)),(3,.f1 (.ptr 0) (.va 2)),(7,.f1 (.fn 74) (.f2 .cons (.f1 (.ptr 0) (.va 1)) (.f2 .cons (.f1 (.ptr 0) (.va 2)) .nil))),(8,.f1 .vs (.va 5)),(9,.f1 (.vi .i64) (.va 6)),(16,.va 7),(4,.f1 (.vi .i64) (.ci 0)),(5,.f1 .vs (.cs [])),(6,.f1 (.vi .i64) (.ci 0))],⟨.va 0,[(.va 1,some ⟨9,.f2 .cons (.f1 .vs (.va 3)) .nil,.all⟩),(.va 2,some ⟨3,.f2 .cons (.f1 (.vi .i64) (.va 4)) .nil,.all⟩)],[]⟩,8,[]⟩ (K0 [2,3,4,5,6,7,16])=let qc:E:=xw (xa c2 v9);let qd:E:=xp v1;let qe:E:=xp v2;let qa:SH:=⟨v0,[(v1,xk 9 (x1 (xs v3))),(v2,xk 3 (x1 (xi v4)))],[]⟩;let qb:E:=.f1 (.fn 74) (x2 qd qe);let qf:E:=xi c0;let qg:E:=xs (.cs []);.asks (.call 70 (x2 (xs v3) (xs v5))) [.b] (xb v8) (.ite v8 (.need (xE c2 (xl v3)) (.asks (.call 75 (x3 (xs (.f3 .sub v3 c2 (xl v3))) (xi v6) (xi v4))) [.i] (xi v9) (.asks (.call 55 (x3 (xb (xG v9 c0)) (xi (xc 33)) (xi v4))) [] (.cv (.tup [])) (.need (xE c2 qc) (.need (xE qc (xl v3)) (.asks (.call 76 (x3 (xs (.f3 .sub v3 c2 qc)) (xi v6) (xi v4))) [.s] (xs v10) (.ask (.call 74 (x3 (xi qc) qd qe)) qa [.i] (xi v11) false (.leaf .ret [(2,qd),(3,qe),(4,xi c3),(5,xs v10),(6,xi v11),(7,qb),(16,v7)] qa) (.leaf (.pan v11) [(2,qd),(3,qe),(7,qb),(16,v7)] ⟨v12,[],[]⟩)) (.leaf (.pan v10) [(2,qd),(3,qe),(7,qb),(16,v7)] qa)))) (.leaf (.pan v10) [(2,qd),(3,qe),(4,qf),(5,qg),(6,qf),(7,qb),(16,v7)] qa)) (.leaf (.pan v9) [(2,qd),(3,qe),(4,qf),(5,qg),(6,qf),(7,qb),(16,v7)] qa))) (.leaf .norm [(2,qd),(3,qe),(4,qf),(5,qg),(6,qf),(7,qb),(16,v7)] qa)) (.stuck 0):=by kernel_rfl
theorem zxs:za2 TT shp f51.ntmps [21] (sub [true,true,true] (zae f51)) [] ⟨[(2,.f1 (.ptr 0) (.va 1)),(3,.f1 (.ptr 0) (.va 2)),(7,.f1 (.fn 74) (.f2 .cons (.f1 (.ptr 0) (.va 1)) (.f2 .cons (.f1 (.ptr 0) (.va 2)) .nil))),(4,.f1 (.vi .i64) (.ci 0)),(5,.f1 .vs (.cs [])),(6,.f1 (.vi .i64) (.ci 0))],⟨.va 0,[(.va 1,some ⟨9,.f2 .cons (.f1 .vs (.va 3)) .nil,.all⟩),(.va 2,some ⟨3,.f2 .cons (.f1 (.vi .i64) (.va 4)) .nil,.all⟩)],[]⟩,5,[]⟩ (K0 [2,3,4,5,6])=let qp:E:=xi v4;let qk:E:=xi v5;let qh:E:=xw (xa v5 c1);let qi:E:=xl v3;let qc:E:=xw (xa v5 (xw (xa c1 v7)));let ql:E:=xi (xw (xa qc v8));let qe:E:=xp v1;let qf:E:=xp v2;let qa:SH:=⟨v0,[(v1,xk 9 (x1 (xs v3))),(v2,xk 3 (x1 qp))],[]⟩;let qg:E:=xi c0;let qd:E:=xs (.cs []);let qo:E:=x2 (xs (.f3 .sub v3 v5 qi)) qp;let qm:E:=xi (xw (xa v5 v7));let qj:E:=x3 (xs (.f3 .sub v3 c0 v5)) (xi c10) qp;let qn:E:=xi (xw (xa v5 v6));let qb:Tree:=.need (xE v5 qi) (.asks (.call 77 qo) [.i] (xi v6) (.ite (xG v6 c0) (.ask (.call 74 (x3 qn qe qf)) qa [.i] (xi v7) false (.leaf (.stop [true,true,true,true,true,true,false]) [(2,qe),(3,qf),(4,qg),(5,qd),(6,qn)] qa) (.leaf (.pan v7) [(2,qe),(3,qf),(4,qg),(5,qd),(6,qn)] ⟨v8,[],[]⟩)) (.ask (.call 74 (x3 qk qe qf)) qa [.i] (xi v7) false (.asks (.call 76 qj) [.s] (xs v8) (.leaf .ret [(2,qe),(3,qf),(4,xi c3),(5,xs v8),(6,qk)] qa) (.leaf (.pan v8) [(2,qe),(3,qf)] qa)) (.leaf (.pan v7) [(2,qe),(3,qf),(4,qg),(5,qd),(6,qk)] ⟨v8,[],[]⟩))) (.leaf (.pan v6) [(2,qe),(3,qf),(4,qg),(5,qd),(6,qk)] qa));.asks (.call 75 (x3 (xs v3) (xi c10) qp)) [.i] qk (.ite (xL qh qi) (.need (xE c0 v5) (.need (xL v5 qi) (.ite (xe (xA v3 v5) (xc 46)) (.need (xE c0 qh) (.asks (.call 50 (x1 (xu (xA v3 qh)))) [.b] (xb v6) (.ite v6 (.need (xE qh qi) (.asks (.call 75 (x3 (xs (.f3 .sub v3 qh qi)) (xi c10) qp)) [.i] (xi v7) (.need (xE c0 qc) (.need (xE qc qi) (.asks (.call 77 (x2 (xs (.f3 .sub v3 qc qi)) qp)) [.i] (xi v8) (.ite (xG v8 c0) (.ask (.call 74 (x3 ql qe qf)) qa [.i] (xi v9) false (.leaf (.stop [true,true,true,true,true,true,false]) [(2,qe),(3,qf),(4,qg),(5,qd),(6,ql)] qa) (.leaf (.pan v9) [(2,qe),(3,qf),(4,qg),(5,qd),(6,ql)] ⟨v10,[],[]⟩)) (.ask (.call 74 (x3 (xi qc) qe qf)) qa [.i] (xi v9) false (.leaf (.stop [true,true,true,true,true,true,false]) [(2,qe),(3,qf),(4,qg),(5,qd),(6,xi qc)] qa) (.leaf (.pan v9) [(2,qe),(3,qf),(4,qg),(5,qd),(6,xi qc)] ⟨v10,[],[]⟩))) (.leaf (.pan v8) [(2,qe),(3,qf),(4,qg),(5,qd),(6,xi qc)] qa)))) (.leaf (.pan v7) [(2,qe),(3,qf),(4,qg),(5,qd)] qa))) (.need (xE v5 qi) (.asks (.call 77 qo) [.i] (xi v7) (.ite (xG v7 c0) (.ask (.call 74 (x3 qm qe qf)) qa [.i] (xi v8) false (.leaf (.stop [true,true,true,true,true,true,false]) [(2,qe),(3,qf),(4,qg),(5,qd),(6,qm)] qa) (.leaf (.pan v8) [(2,qe),(3,qf),(4,qg),(5,qd),(6,qm)] ⟨v9,[],[]⟩)) (.ask (.call 74 (x3 qk qe qf)) qa [.i] (xi v8) false (.asks (.call 76 qj) [.s] (xs v9) (.leaf .ret [(2,qe),(3,qf),(4,xi c3),(5,xs v9),(6,qk)] qa) (.leaf (.pan v9) [(2,qe),(3,qf)] qa)) (.leaf (.pan v8) [(2,qe),(3,qf),(4,qg),(5,qd),(6,qk)] ⟨v9,[],[]⟩))) (.leaf (.pan v7) [(2,qe),(3,qf),(4,qg),(5,qd),(6,qk)] qa)))) (.stuck 0))) qb))) (.need (xE c0 v5) qb)) (.leaf (.pan v5) [(2,qe),(3,qf),(4,qg),(5,qd),(6,qg)] qa):=by kernel_rfl
theorem ztp {s:List UInt8}{n:Nat}(h:n<s.length):∃b:UInt8,s[n]? = some b∧atS s (n:Nat)=b.toNat:=by
 refine⟨s[n],List.getElem?_eq_getElem h,?_⟩;simp[atS,List.getElem?_eq_getElem h]
def zmd (s:List UInt8)(n:Nat):Bool:=decide (n=s.length) || !(zcy (atS s n))
theorem zg9 {call:zad}{f:Nat}{args:List V}{o:Option Nat}{at_:Int}{A:Int→Prop}{B:V→Prop}(h:∀K,call f args K=(match o with|some n=>.val (.i .i64 n) K|none=>.pan (zcA 33 at_) K))(h1:∀n:Nat,o=some n→A n)(h2:o=none→B (zcA 33 at_)) :
 (∃x,(∀K,call f args K=.val (.i .i64 x) K)∧A x)∨∃v,(∀K,call f args K=.pan v K)∧B v:=by
 cases o with
 |some n=>exact .inl ⟨n,h,h1 n rfl⟩
 |none=>exact .inr ⟨_,h,h2 rfl⟩
theorem zuJ {call:zad}{f:Nat}{args:List V}{r:Res}{o:Option Nat}{at_:Int}{A:List UInt8→Prop}{B:V→Prop}(h:∀K,call f args K=r.at K)(hr:r=(match o with|some n=>.val (.s (zk4 n))|none=>.pan (zcA 33 at_)))(h1:∀n:Nat,o=some n→A (zk4 n))(h2:o=none→B (zcA 33 at_)) :
 (∃x,(∀K,call f args K=.val (.s x) K)∧A x)∨∃v,(∀K,call f args K=.pan v K)∧B v:=by
 subst hr;cases o with
 |some n=>exact .inl ⟨_,h,h1 n rfl⟩
 |none=>exact .inr ⟨_,h,h2 rfl⟩
theorem zgJ {call:zad}{f:Nat}{args:List V}{b:Bool}{n:Int}{at_:Int}{K:zaa}{A:Int→Prop}{B:V→zaa→Prop}(h:call f args K=if b=true then .val (.i .i64 n) K else .pan (zcA 33 at_) K)(h1:b=true→A n)(h2:b=false→B (zcA 33 at_) K) :
 (∃x,call f args K=.val (.i .i64 x) K∧A x)∨∃v H',call f args K=.pan v H'∧B v H':=by
 cases b with
 |true=>exact .inl ⟨n,h,h1 rfl⟩
 |false=>exact .inr ⟨_,K,h,h2 rfl⟩
def zyP (call:zad):Prop:=∀(n:Nat)(s:List UInt8)(at_:Int)(a b:Nat)(H:zaa),a≠b→n≤s.length→s.length<1100000→H[a]? = some (some ⟨9,[.s s],.all⟩)→H[b]? = some (some ⟨3,[.i .i64 at_],.all⟩)→call 74 [.i .i64 n,.ptr a 0,.ptr b 0] H=if zmd s n=true then .val (.i .i64 n) H else .pan (zcA 33 at_) H
theorem zuA {H:zaa}{a b:Nat}{x y:Option Blk}(h1:H[a]? = some x)(h2:H[b]? = some y):(H.set b y).set a x=H:=by
 rw[←zaa.set_self h2,←zaa.set_self h1]
theorem zwQ:∃g,zap prog TT 74 g∧∀(n:Nat)(s:List UInt8)(at_:Int)(a b:Nat)(H:zaa),a≠b→n≤s.length→s.length<1100000→H[a]? = some (some ⟨9,[.s s],.all⟩)→H[b]? = some (some ⟨3,[.i .i64 at_],.all⟩)→g [.i .i64 n,.ptr a 0,.ptr b 0] H=if zmd s n=true then .val (.i .i64 n) H else .pan (zcA 33 at_) H:=by
 obtain⟨g1,k1,s1⟩:=zd3;obtain⟨g2,k2,s2⟩:=zuG;have hC:=ws (ws n0 k1) k2;have hm:zdS ((zad.none.with 55 g1).with 73 g2):=fun b e k H=>by rw[zac _ _ _ _ rfl,zao];exact s1 b e k H
 have hp:∀b:UInt8,∀H,((zad.none.with 55 g1).with 73 g2) 73 [.i .u8 b.toNat] H=.val (.b (zcy b.toNat)) H:=fun b H=>by rw[zao];exact s2 b trivial H
 generalize(zad.none.with 55 g1).with 73 g2=call at hC hm hp;obtain⟨g,k,h⟩:=zdG zah 74 (fun p:Nat×List UInt8×Int×Nat×Nat=>[.i .i64 p.1,.ptr p.2.2.2.1 0,.ptr p.2.2.2.2 0]) (fun p H=>p.2.2.2.1≠p.2.2.2.2∧p.1≤p.2.1.length∧p.2.1.length<1100000∧H[p.2.2.2.1]? = some (some ⟨9,[.s p.2.1],.all⟩)∧H[p.2.2.2.2]? = some (some ⟨3,[.i .i64 p.2.2.1],.all⟩))
  (fun p H r=>r=if zmd p.2.1 p.1=true then .val (.i .i64 p.1) H else .pan (zcA 33 p.2.2.1) H) (by
  rintro⟨n,s,at_,a,b⟩ ⟨n',s',at',a',b'⟩ H r ⟨_,_,_,h1,h2⟩ ⟨_,_,_,h3,h4⟩ he hr;simp only at h1 h2 h3 h4 hr ⊢;simp only[List.cons.injEq,V.i.injEq,V.ptr.injEq,true_and,and_true,Int.ofNat_inj]at he;obtain⟨rfl,rfl,rfl⟩:=he;rw[h1]at h3;rw[h2]at h4;simp only[Option.some.injEq,Blk.mk.injEq,List.cons.injEq,V.s.injEq,V.i.injEq,true_and,and_true]at h3 h4;obtain rfl:=h3;obtain rfl:=h4;exact hr) (by
  rintro⟨n,s,at_,a,b⟩ H ⟨hab,hn,hs,ha,hb⟩;simp only at hab hn hs ha hb ⊢;have e1:=zuA ha hb;refine zaO.sym zah hC (fn:=f74) rfl rfl (by simp[f74]) zxp (by kernel_rfl) [.uh H,.ui (n:Nat),.un a,.un b,.us s,.ui at_] rfl ⟨by rw[zag];rfl,by rw[zag];rfl,by rw[zag];rfl,trivial⟩ e1.symm ⟨by simp;exact⟨zaa.lt ha,zaa.lt hb⟩,by simp;exact hab⟩ ?_;simp -implicitDefEqProofs only[VC,isR,exU,Ask.den,forall_eq,E.den,O1.den,O2.den,O3.den,U.int_ui,U.boo_ub,U.val_uv,U.lst_ul,U.str_us,U.nat_un,U.heap_uh,SH.den,zaF,zbH,bD,SB.den,zas,LQ,cons_append,nil_append,List.getElem?_cons_zero,List.getElem?_cons_succ,Option.getD_some,zam,zai,zan,zaj,beq_iff_eq,bne_iff_ne,beq_eq_false_iff_ne,Int.toNat_natCast,zbV,Bool.false_eq_true,if_false,if_true,e1];refine⟨fun h=>?_,fun h=>?_⟩
  ·have hq:zmd s n=true:=by unfold zmd;rw[decide_eq_true (by omega)];rfl
   refine zaV hm _ _ _ (fun _=>?_) (fun h=>by cases h);rw[if_pos hq]
  ·have hlt:n<s.length:=by omega
   obtain⟨c,hc,hat⟩:=ztp hlt;have hq:zmd s n = !(zcy c.toNat):=by unfold zmd;rw[decide_eq_false (by omega),hat];rfl
   rw[hat,hq];refine⟨by omega,by omega,.inl ⟨_,fun K=>hp c K,zaV hm _ _ _ (fun h=>?_) (fun h=>?_)⟩⟩
   ·rw[if_pos h]
   ·rw[if_neg (by rw[h];exact Bool.false_ne_true)])
 exact⟨g,k,fun n s at_ a b H h1 h2 h3 h4 h5=>h (n,s,at_,a,b) H ⟨h1,h2,h3,h4,h5⟩⟩
theorem zxm:za2 TT shp f47.ntmps [] (zae f47) [] ⟨[(0,.f1 (.ptr 0) (.va 0))],⟨.va 1,[(.va 0,some ⟨55,.f2 .cons (.f1 .vs (.va 2)) (.f2 .cons (.f1 (.vi .i64) (.va 3)) (.f2 .cons (.f1 .vb (.va 4)) (.f2 .cons (.f1 .mp (.va 5)) .nil))),.all⟩)],[]⟩,6,[]⟩ (KF TT f47 [0,3,5])=let qf:E:=x1 (xp v0);let qg:E:=xs v2;let qh:E:=xm v5;let qa:SH:=⟨v1,[(v0,xk 55 (x4 qg (xi v3) (xb v4) qh))],[]⟩;let qb:E:=xw (xa v3 (xl v10));let qi:E:=xs (.f3 .sub v2 v3 qb);let qk:E:=xb v11;let qe:E:=xb (.cb true);let qd:Tree:=.stuck 0;let qc:E:=xw (xa v3 v9);let qj:E:=xs (.f3 .sub v2 v3 qc);.ask (.call 48 qf) qa [.s] (xs v6) false (.asks (.call 70 (x2 (xs v6) (xs (.cs [47,47])))) [.b] (xb v7) (.ite v7 (.ask (.call 48 qf) qa [.s] (xs v8) false (.asks (.call 71 (x2 (xs v8) (xu c10))) [.i] (xi v9) (.ite (xL v9 c0) (.ask (.call 48 qf) qa [.s] (xs v10) false (.need (xE c0 v3) (.need (xE v3 qb) (.need (xE qb (xl v2)) (.asks (.call 36 (x1 qi)) [.b] qk (.asks (.call 55 (x3 qk (xi (xc 32)) (xi v3))) [] (.cv (.tup [])) (.ite v4 (.fin qe ⟨v1,[(v0,xk 55 (x4 qg (xi qb) qe qh))],[]⟩) (.asks (.call 15 (x2 qi (xs (.cs [10])))) [.b] (xb v12) (.fin qe ⟨v1,[(v0,xk 55 (x4 qg (xi qb) (xb v12) qh))],[]⟩) qd)) (.pnc v12 ⟨v1,[(v0,xk 55 (x4 qg (xi qb) (xb v4) qh))],[]⟩)) qd)))) qd) (.need (xE c0 v3) (.need (xE v3 qc) (.need (xE qc (xl v2)) (.asks (.call 36 (x1 qj)) [.b] (xb v10) (.asks (.call 55 (x3 (xb v10) (xi (xc 32)) (xi v3))) [] (.cv (.tup [])) (.ite v4 (.fin qe ⟨v1,[(v0,xk 55 (x4 qg (xi qc) qe qh))],[]⟩) (.asks (.call 15 (x2 qj (xs (.cs [10])))) [.b] qk (.fin qe ⟨v1,[(v0,xk 55 (x4 qg (xi qc) qk qh))],[]⟩) qd)) (.pnc v11 ⟨v1,[(v0,xk 55 (x4 qg (xi qc) (xb v4) qh))],[]⟩)) qd))))) qd) qd) (.ask (.call 48 qf) qa [.s] (xs v8) false (.asks (.call 70 (x2 (xs v8) (xs (.cs [47,42])))) [.b] (xb v9) (.ite v9 (.leaf (.stop [true,true,false,false,true,true,true,false,true,false]) [(0,xp v0),(3,xi v3),(5,xi c0)] qa) (.fin (xb (.cb false)) qa)) qd) qd)) qd) qd:=by kernel_rfl
theorem zuX:goT TT shp f47.ntmps [] [true,true,false,false,true,true,true,false,true,false,false] (zae f47) [] ⟨[(0,.f1 (.ptr 0) (.va 0)),(3,.f1 (.vi .i64) (.va 6)),(5,.f1 (.vi .i64) (.va 7))],⟨.va 1,[(.va 0,some ⟨55,.f2 .cons (.f1 .vs (.va 2)) (.f2 .cons (.f1 (.vi .i64) (.va 3)) (.f2 .cons (.f1 .vb (.va 4)) (.f2 .cons (.f1 .mp (.va 5)) .nil))),.all⟩)],[]⟩,8,[]⟩ (KF TT f47 [0,3,5])=let qq:E:=xp v0;let qk:E:=xs v2;let ql:E:=xm v5;let qc:SH:=⟨v1,[(v0,xk 55 (x4 qk (xi v3) (xb v4) ql))],[]⟩;let qt:E:=xE c0 v6;let qb:E:=xw (xa v3 c2);let qg:E:=xs (.f3 .sub v2 v6 qb);let qr:E:=xi (xc 32);let qo:E:=xi v6;let qj:E:=.cv (.tup []);let qd:E:=xb (.cb true);let qh:Tree:=.fin qd ⟨v1,[(v0,xk 55 (x4 qk (xi qb) qd ql))],[]⟩;let qn:E:=xs (.cs [10]);let qf:Tree:=.stuck 0;let qa:SH:=⟨v1,[(v0,xk 55 (x4 qk (xi qb) (xb v4) ql))],[]⟩;let qm:E:=x3 (xb v12) qr qo;let qs:E:=xb v13;let qe:E:=xw (xa v3 c1);let qp:E:=xs (.f3 .sub v2 v6 qe);let qi:SH:=⟨v1,[(v0,xk 55 (x4 qk (xi qe) (xb v4) ql))],[]⟩;.ask (.call 48 (x1 qq)) qc [.s] (xs v8) false (.asks (.call 70 (x2 (xs v8) (xs (.cs [47,42])))) [.b] (xb v9) (.ite v9 (.ite (xe (xw (xa v7 c1)) c0) (.need qt (.need (xE v6 qb) (.need (xE qb (xl v2)) (.asks (.call 36 (x1 qg)) [.b] (xb v10) (.asks (.call 55 (x3 (xb v10) qr qo)) [] qj (.ite v4 qh (.asks (.call 15 (x2 qg qn)) [.b] (xb v11) (.fin qd ⟨v1,[(v0,xk 55 (x4 qk (xi qb) (xb v11) ql))],[]⟩) qf)) (.pnc v11 qa)) qf)))) (.leaf (.again [true,true,false,false,true,true,true,false,true,false,false]) [(0,qq),(3,qo),(5,xi (xw (xa v7 c1)))] qa)) (.ask (.call 48 (x1 qq)) qc [.s] (xs v10) false (.asks (.call 70 (x2 (xs v10) (xs (.cs [42,47])))) [.b] (xb v11) (.ite v11 (.ite (xe (xw (xS v7 c1)) c0) (.need qt (.need (xE v6 qb) (.need (xE qb (xl v2)) (.asks (.call 36 (x1 qg)) [.b] (xb v12) (.asks (.call 55 qm) [] qj (.ite v4 qh (.asks (.call 15 (x2 qg qn)) [.b] qs (.fin qd ⟨v1,[(v0,xk 55 (x4 qk (xi qb) qs ql))],[]⟩) qf)) (.pnc v13 qa)) qf)))) (.leaf (.again [true,true,false,false,true,true,true,false,true,false,false]) [(0,qq),(3,qo),(5,xi (xw (xS v7 c1)))] qa)) (.asks (.call 55 (x3 (xb (xL v3 (xl v2))) qr qo)) [] qj (.ite (xe v7 c0) (.need qt (.need (xE v6 qe) (.need (xE qe (xl v2)) (.asks (.call 36 (x1 qp)) [.b] (xb v12) (.asks (.call 55 qm) [] qj (.ite v4 (.fin qd ⟨v1,[(v0,xk 55 (x4 qk (xi qe) qd ql))],[]⟩) (.asks (.call 15 (x2 qp qn)) [.b] qs (.fin qd ⟨v1,[(v0,xk 55 (x4 qk (xi qe) qs ql))],[]⟩) qf)) (.pnc v13 qi)) qf)))) (.leaf (.again [true,true,false,false,true,true,true,false,true,false,false]) [(0,qq),(3,qo),(5,xi v7)] qi)) (.pnc v12 qc))) qf) qf)) qf) qf:=by kernel_rfl
theorem zxw:za2 TT shp f30.ntmps [] (zae f30) [] ⟨[(0,.f1 (.ptr 0) (.va 0))],⟨.va 1,[(.va 0,some ⟨55,.f2 .cons (.f1 .vs (.va 2)) (.f2 .cons (.f1 (.vi .i64) (.va 3)) (.f2 .cons (.f1 .vb (.va 4)) (.f2 .cons (.f1 .mp (.va 5)) .nil))),.all⟩)],[]⟩,6,[]⟩ (KF TT f30 [0])=.leaf (.stop [false]) [(0,xp v0)] ⟨v1,[(v0,xk 55 (x4 (xs v2) (xi v3) (xb v4) (xm v5)))],[]⟩:=by kernel_rfl
theorem zu6:goT TT shp f30.ntmps [] [false,false] (zae f30) [] ⟨[(0,.f1 (.ptr 0) (.va 0))],⟨.va 1,[(.va 0,some ⟨55,.f2 .cons (.f1 .vs (.va 2)) (.f2 .cons (.f1 (.vi .i64) (.va 3)) (.f2 .cons (.f1 .vb (.va 4)) (.f2 .cons (.f1 .mp (.va 5)) .nil))),.all⟩)],[]⟩,6,[]⟩ (KF TT f30 [0])=let qd:E:=xA v2 v3;let qf:E:=xi (xw (xa v3 c1));let qa:Tree:=.ite v4 (.leaf (.again [false,false]) [(0,xp v0)] ⟨v1,[(v0,xk 55 (x4 (xs v2) qf (xb (.cb true)) (xm v5)))],[]⟩) (.leaf (.again [false,false]) [(0,xp v0)] ⟨v1,[(v0,xk 55 (x4 (xs v2) qf (xb (xe qd c10)) (xm v5)))],[]⟩);let qc:SH:=⟨v1,[(v0,xk 55 (x4 (xs v2) (xi v3) (xb v4) (xm v5)))],[]⟩;let qb:E:=x4 (xs v2) (xi v8) (xb v9) (xm v5);let qe:SH:=⟨v6,[(v0,xk 55 qb)],[]⟩;.ite (xL v3 (xl v2)) (.need (xE c0 v3) (.ite (xe qd (xc 32)) qa (.ite (xe qd (xc 9)) qa (.ite (xe qd (xc 13)) qa (.ite (xe qd c10) qa (.askk (.call 47 (x1 (xp v0))) qc [.b,.i,.b] (xb v7) [(v0,xR 55 qb)] (.ite v7 (.leaf (.again [false,false]) [(0,xp v0)] qe) (.fin (xt .nil) qe)) (.pnc v6 ⟨v7,[],[]⟩))))))) (.fin (xt .nil) qc):=by kernel_rfl
abbrev scB (s:List UInt8)(i:Nat)(l:Bool)(m:Nat):Blk:={ty:=55,cells:=[.s s,.i .i64 i,.b l,.mp m],kind:=.all}
def zeU (s:List UInt8):Nat→Nat→Nat→Option Nat
 |0,_,_=>none
 |n+1,i,d=>if zbF (s.drop i) [47,42]=true then zeU s n (i+2) (d+1)
  else if zbF (s.drop i) [42,47]=true then(if d=1 then some (i+2)else zeU s n (i+2) (d-1))
  else if i<s.length then zeU s n (i+1) d else none
def zkL (s:List UInt8)(i:Nat)(l:Bool)(o:Option Nat):Option (Nat×Bool):=match o with
 |some e=>if Lib.validD ((s.take e).drop i)=true then some (e,l||Lib.contains ((s.take e).drop i) [10])else none
 |none=>none
def zqP (H:zaa)(n:Nat)(s:List UInt8)(m:Nat)(i:Nat)(o:Option (Nat×Bool))(r:OR):Prop:=match o with
 |some p=>r=.val (.b true) (H.set n (some (scB s p.1 p.2 m)))
 |none=>∃b,r=.pan (zcA 32 i) (H.set n b)
theorem zbv {s p:List UInt8}(h:zbF s p=true):p.length≤s.length:=by
 simp only[zbF,Bool.and_eq_true,decide_eq_true_eq]at h;exact h.1
theorem zlk {call:zad}(hm:zdS call)(hvs:∀x:List UInt8,x.length<20000000→∀H,call 36 [.s x] H=.val (.b (Lib.validD x)) H)
 (hct:∀x y:List UInt8,x.length<4294967281→∀H,call 15 [.s x,.s y] H=.val (.b (Lib.contains x y)) H)(s:List UInt8)(m a e:Nat)(l:Bool)(q:Nat)(H0:zaa)(hs:s.length<1100000) :
 (∃x,(∀K,call 36 [.s ((s.take e).drop a)] K=.val (.b x) K) ∧
  (((∀K,call 55 [.b x,.i .i64 32,.i .i64 (a:Nat)] K=.val (.tup []) K)∧(l=true→zqP H0 q s m a (zkL s a l (some e)) (.val (.b true) (H0.set q (some ⟨55,[.s s,.i .i64 (e:Nat),.b true,.mp m],.all⟩)))) ∧
   (l=false→(∃y,(∀K,call 15 [.s ((s.take e).drop a),.s [10]] K=.val (.b y) K)∧zqP H0 q s m a (zkL s a l (some e)) (.val (.b true) (H0.set q (some ⟨55,[.s s,.i .i64 (e:Nat),.b y,.mp m],.all⟩))))∨∃v,(∀K,call 15 [.s ((s.take e).drop a),.s [10]] K=.pan v K)∧False)) ∨
  ∃v,(∀K,call 55 [.b x,.i .i64 32,.i .i64 (a:Nat)] K=.pan v K)∧zqP H0 q s m a (zkL s a l (some e)) (.pan v (H0.set q (some ⟨55,[.s s,.i .i64 (e:Nat),.b l,.mp m],.all⟩))))) ∨
 ∃v,(∀K,call 36 [.s ((s.take e).drop a)] K=.pan v K)∧False:=by
 have hl:((s.take e).drop a).length<20000000:=by rw[length_drop,length_take];omega
 refine .inl ⟨_,fun K=>hvs _ hl K,zaV hm _ _ _ (fun h=>⟨fun h1=>?_,fun h1=>.inl ⟨_,fun K=>hct _ _ (by omega) K,?_⟩⟩) (fun h=>?_)⟩
 ·simp only[zkL,if_pos h,zqP,h1,Bool.true_or]
 ·simp only[zkL,if_pos h,zqP,h1,Bool.false_or]
 ·have h':¬Lib.validD ((s.take e).drop a)=true:=by rw[h];exact Bool.false_ne_true
  simp only[zkL,if_neg h',zqP];exact⟨_,rfl⟩
theorem zrw {call:zad}(hC:call.Sound prog TT)(hm:zdS call)(hrest:∀(n:Nat)(s:List UInt8)(i:Nat)(l:Bool)(m:Nat)(H:zaa),ScB H n s i l m→i≤s.length→call 48 [.ptr n 0] H=.val (.s (s.drop i)) H)
 (hpre:∀x y:List UInt8,∀H,call 70 [.s x,.s y] H=.val (.b (zbF x y)) H)(hvs:∀x:List UInt8,x.length<20000000→∀H,call 36 [.s x] H=.val (.b (Lib.validD x)) H)
 (hct:∀x y:List UInt8,x.length<4294967281→∀H,call 15 [.s x,.s y] H=.val (.b (Lib.contains x y)) H)(s:List UInt8)(m a:Nat)(l:Bool)(q:Nat)(H0:zaa)(hs:s.length<1100000)(ha:a≤s.length)(hq:q<H0.length) :
 ∀(n i d:Nat)(t:Tm),s.length<n+i→a≤i→i≤s.length→d≤i→(0<d∨zbF (s.drop i) [47,42]=true)→t.wid=f47.ntmps→t.get 0=.ptr q 0→t.get 3=.i .i64 (a:Nat)→t.get 5=.i .i64 (d:Nat) →
 ctx prog TT [true,true,false,false,true,true,true,false,true,false,false] (zae f47) (za1 TT f47 (zqP H0 q s m a (zkL s a l (zeU s n i d)))) (.norm t (H0.set q (some (scB s i l m)))):=by
 intro n;induction n with
 |zero=>intro i d t h1 h2;omega
 |succ n ih=>
  intro i d t hn hai hi hd hd0 hw t0 t3 t5;refine zaP.symIn (p:=[true,true,false,false,true,true,true,false,true,false]) zah hC rfl zuX (by kernel_rfl) [.un q,.uh H0,.us s,.ui (i:Nat),.ub l,.un m,.ui (a:Nat),.ui (d:Nat)] rfl hw ⟨t0,t3,t5,trivial⟩ rfl ⟨by simp;exact hq,by simp⟩ ?_;clear t0 t3 t5 hw;simp -implicitDefEqProofs only[VC,isR,exU,Ask.den,forall_eq,E.den,O1.den,O2.den,O3.den,U.int_ui,U.boo_ub,U.val_uv,U.lst_ul,U.str_us,U.nat_un,U.heap_uh,SH.den,zaF,zbH,bD,SB.den,zas,LQ,cons_append,nil_append,List.getElem?_cons_zero,List.getElem?_cons_succ,Option.getD_some,zam,zai,zan,zaj,beq_iff_eq,bne_iff_ne,beq_eq_false_iff_ne,Int.toNat_natCast,zbV,Bool.false_eq_true,if_false,if_true];have w2:IntKind.i64.wrap ((i:Int)+2)=((i+2:Nat):Int):=by rw[w64 (by omega) (by omega)];omega
  have w1:IntKind.i64.wrap ((i:Int)+1)=((i+1:Nat):Int):=by rw[w64 (by omega) (by omega)];omega
  have wd:IntKind.i64.wrap ((d:Int)+1)=((d+1:Nat):Int):=by rw[w64 (by omega) (by omega)];omega
  simp only[w2,w1,wd,Int.toNat_natCast];have hr:=hrest q s i l m (H0.set q (some (scB s i l m))) (by unfold ScB;rw[List.getElem?_set_self hq]) hi;refine .inl ⟨_,hr,.inl ⟨_,fun K=>hpre _ _ K,fun h1=>⟨fun h2=>by omega,fun _ t' hw' f0 f3 f5=>?_⟩,fun h1=>.inl ⟨_,hr,.inl ⟨_,fun K=>hpre _ _ K,fun h2=>?_,fun h2=>?_⟩⟩⟩⟩
  ·have hl:=zbv h1;rw[length_drop]at hl;simp only[length_cons,length_nil]at hl;have e:zeU s (n+1) i d=zeU s n (i+2) (d+1):=by simp only[zeU,if_pos h1]
   rw[e];exact ih (i+2) (d+1) t' (by omega) (by omega) (by omega) (by omega) (.inl (by omega)) hw' f0 f3 f5
  ·have hl:=zbv h2;rw[length_drop]at hl;simp only[length_cons,length_nil]at hl;have h1':¬zbF (s.drop i) [47,42]=true:=by rw[h1];exact Bool.false_ne_true
   have hd1:0<d:=hd0.resolve_right h1';have wm:IntKind.i64.wrap ((d:Int)-1)=((d-1:Nat):Int):=by rw[w64 (by omega) (by omega)];omega
   simp only[wm];refine⟨fun h3=>⟨by omega,by omega,by omega,?_⟩,fun h3 t' hw' f0 f3 f5=>?_⟩
   ·have e:zeU s (n+1) i d=some (i+2):=by simp only[zeU,if_neg h1',if_pos h2];rw[if_pos (by omega)]
    rw[e];exact zlk hm hvs hct s m a (i+2) l q H0 hs
   ·have e:zeU s (n+1) i d=zeU s n (i+2) (d-1):=by simp only[zeU,if_neg h1',if_pos h2];rw[if_neg (by omega)]
    rw[e];exact ih (i+2) (d-1) t' (by omega) (by omega) (by omega) (by omega) (.inl (by omega)) hw' f0 f3 f5
  ·have h1':¬zbF (s.drop i) [47,42]=true:=by rw[h1];exact Bool.false_ne_true
   have h2':¬zbF (s.drop i) [42,47]=true:=by rw[h2];exact Bool.false_ne_true
   have hd1:0<d:=hd0.resolve_right h1';refine zaV hm _ _ _ (fun h3=>⟨fun h4=>by omega,fun h4 t' hw' f0 f3 f5=>?_⟩) (fun h3=>?_)
   ·have hlt:i<s.length:=by simp only[zam]at h3;omega
    have e:zeU s (n+1) i d=zeU s n (i+1) d:=by simp only[zeU,if_neg h1',if_neg h2',if_pos hlt]
    rw[e];exact ih (i+1) d t' (by omega) (by omega) (by omega) (by omega) (.inl hd1) hw' f0 f3 f5
   ·have hlt:¬i<s.length:=by simp only[zai]at h3;omega
    have e:zeU s (n+1) i d=none:=by simp only[zeU,if_neg h1',if_neg h2',if_neg hlt]
    rw[e];exact⟨_,rfl⟩
def zoU (s:List UInt8)(i:Nat)(l:Bool):Option (Option (Nat×Bool)):=
 if zbF (s.drop i) [47,47]=true then some (zkL s i l (some (if Lib.indexByte (s.drop i) 10<0 then s.length else i+(Lib.indexByte (s.drop i) 10).toNat)))
 else if zbF (s.drop i) [47,42]=true then some (zkL s i l (zeU s (s.length+1) i 0))else none
def zrb (H:zaa)(p:Nat×List UInt8×Nat×Bool×Nat)(r:OR):Prop:=match zoU p.2.1 p.2.2.1 p.2.2.2.1 with
 |none=>r=.val (.b false) H
 |some o=>zqP H p.1 p.2.1 p.2.2.2.2 p.2.2.1 o r
theorem ScB.inj {H:zaa}{n i i' m m':Nat}{s s':List UInt8}{l l':Bool}(h:ScB H n s i l m)(h':ScB H n s' i' l' m'):s=s'∧i=i'∧l=l'∧m=m':=by
 unfold ScB at h h';rw[h]at h';simp only[Option.some.injEq,Blk.mk.injEq,List.cons.injEq,V.s.injEq,V.i.injEq,V.b.injEq,V.mp.injEq,true_and,and_true,Int.ofNat_inj]at h';exact h'
theorem zwM:∃g,zap prog TT 47 g∧∀(p:Nat×List UInt8×Nat×Bool×Nat)(H:zaa),(ScB H p.1 p.2.1 p.2.2.1 p.2.2.2.1 p.2.2.2.2∧p.2.2.1≤p.2.1.length∧p.2.1.length<1100000)→zrb H p (g [.ptr p.1 0] H):=by
 obtain⟨g1,k1,s1⟩:=zd3;obtain⟨g2,k2,s2⟩:=zs2;obtain⟨g3,k3,s3⟩:=zmN;obtain⟨g4,k4,s4⟩:=znX;have hC:=ws (ws (ws (ws (ws (ws n0 k1) k2) k3) k4) zy4) zy7;have c1:zdS ((((((zad.none.with 55 g1).with 48 g2).with 70 g3).with 36 g4).with 15 zbE).with 71 zcG):=fun b e k H=>by
  rw[zac _ _ _ _ rfl,zac _ _ _ _ rfl,zac _ _ _ _ rfl,zac _ _ _ _ rfl,zac _ _ _ _ rfl,zao];exact s1 b e k H
 have c2:∀(n:Nat)(s:List UInt8)(i:Nat)(l:Bool)(m:Nat)(H:zaa),ScB H n s i l m→i≤s.length→((((((zad.none.with 55 g1).with 48 g2).with 70 g3).with 36 g4).with 15 zbE).with 71 zcG) 48 [.ptr n 0] H=.val (.s (s.drop i)) H:=fun n s i l m H h1 h2=>by
  rw[zac _ _ _ _ rfl,zac _ _ _ _ rfl,zac _ _ _ _ rfl,zac _ _ _ _ rfl,zao];exact s2 n s i l m H h1 h2
 have c3:∀x y:List UInt8,∀H,((((((zad.none.with 55 g1).with 48 g2).with 70 g3).with 36 g4).with 15 zbE).with 71 zcG) 70 [.s x,.s y] H=.val (.b (zbF x y)) H:=fun x y H=>by
  rw[zac _ _ _ _ rfl,zac _ _ _ _ rfl,zac _ _ _ _ rfl,zao];exact s3 x y H
 have c4:∀x:List UInt8,x.length<20000000→∀H,((((((zad.none.with 55 g1).with 48 g2).with 70 g3).with 36 g4).with 15 zbE).with 71 zcG) 36 [.s x] H=.val (.b (Lib.validD x)) H:=fun x hx H=>by
  rw[zac _ _ _ _ rfl,zac _ _ _ _ rfl,zao];exact s4 x (by omega) H
 have c5:∀x y:List UInt8,x.length<4294967281→∀H,((((((zad.none.with 55 g1).with 48 g2).with 70 g3).with 36 g4).with 15 zbE).with 71 zcG) 15 [.s x,.s y] H=.val (.b (Lib.contains x y)) H:=fun x y hx H=>by
  rw[zac _ _ _ _ rfl,zao];exact if_pos hx
 have c6:∀x:List UInt8,∀H,((((((zad.none.with 55 g1).with 48 g2).with 70 g3).with 36 g4).with 15 zbE).with 71 zcG) 71 [.s x,.i .u8 10] H=.val (.i .i64 (Lib.indexByte x 10)) H:=fun x H=>by
  rw[zao];rfl
 generalize(((((zad.none.with 55 g1).with 48 g2).with 70 g3).with 36 g4).with 15 zbE).with 71 zcG=call at hC c1 c2 c3 c4 c5 c6;refine zdG zah 47 (fun p:Nat×List UInt8×Nat×Bool×Nat=>[.ptr p.1 0]) (fun p H=>ScB H p.1 p.2.1 p.2.2.1 p.2.2.2.1 p.2.2.2.2∧p.2.2.1≤p.2.1.length∧p.2.1.length<1100000) (fun p H r=>zrb H p r) ?_ ?_
 ·rintro⟨n,s,i,l,m⟩ ⟨n',s',i',l',m'⟩ H r ⟨h1,_⟩ ⟨h2,_⟩ he hr;simp only[List.cons.injEq,V.ptr.injEq,and_true]at he;subst he;obtain⟨rfl,rfl,rfl,rfl⟩:=h1.inj h2;exact hr
 ·rintro⟨q,s,i,l,m⟩ H ⟨hb,hi,hs⟩;simp only at hb hi hs ⊢;have hq:q<H.length:=zaa.lt hb;have e1:H.set q (some (scB s i l m))=H:=(zaa.set_self hb).symm;refine zaO.sym zah hC (fn:=f47) rfl rfl (by simp[f47]) zxm (by kernel_rfl) [.un q,.uh H,.us s,.ui (i:Nat),.ub l,.un m] rfl ⟨by rw[zag];rfl,trivial⟩ (zaa.set_self hb) ⟨by simp;exact hq,by simp⟩ ?_;simp -implicitDefEqProofs only[VC,isR,exU,Ask.den,forall_eq,E.den,O1.den,O2.den,O3.den,U.int_ui,U.boo_ub,U.val_uv,U.lst_ul,U.str_us,U.nat_un,U.heap_uh,SH.den,zaF,zbH,bD,SB.den,zas,LQ,cons_append,nil_append,List.getElem?_cons_zero,List.getElem?_cons_succ,Option.getD_some,zam,zai,zan,zaj,beq_iff_eq,bne_iff_ne,beq_eq_false_iff_ne,Int.toNat_natCast,zbV,Bool.false_eq_true,if_false,if_true];have hr:=c2 q s i l m _ (show ScB (H.set q (some (scB s i l m))) q s i l m by unfold ScB;rw[List.getElem?_set_self hq]) hi;refine .inl ⟨_,hr,.inl ⟨_,fun K=>c3 _ _ K,fun h1=>.inl ⟨_,hr,.inl ⟨_,fun K=>c6 _ K,fun h2=>.inl ⟨_,hr,?_⟩,fun h2=>?_⟩⟩,fun h1=>.inl ⟨_,hr,.inl ⟨_,fun K=>c3 _ _ K,fun h2 t' hw' f0 f3 f5=>?_,fun h2=>?_⟩⟩⟩⟩
  ·have w1:IntKind.i64.wrap ((i:Int)+((s.drop i).length:Nat))=(s.length:Nat):=by rw[length_drop,w64 (by omega) (by omega)];omega
   simp only[w1,Int.toNat_natCast,zrb,zoU,if_pos h1];rw[if_pos h2];exact⟨by omega,by omega,by omega,zlk c1 c4 c5 s m i s.length l q H hs⟩
  ·have hx:=Lib.index_room (s.drop i) [10] (by rw[Lib.index_one];omega);rw[Lib.index_one,length_drop,length_singleton]at hx;obtain⟨k,hk⟩:∃k:Nat,Lib.indexByte (s.drop i) 10=k:=⟨(Lib.indexByte (s.drop i) 10).toNat,by omega⟩;rw[hk]at hx h2 ⊢;have w1:IntKind.i64.wrap ((i:Int)+(k:Nat))=((i+k:Nat):Int):=by rw[w64 (by omega) (by omega)];omega
   have ec:zoU s i l=some (zkL s i l (some (i+k))):=by simp only[zoU,if_pos h1,hk,Int.toNat_natCast];rw[if_neg h2]
   simp only[w1,Int.toNat_natCast,zrb,ec];exact⟨by omega,by omega,by omega,zlk c1 c4 c5 s m i (i+k) l q H hs⟩
  ·have h1':¬zbF (s.drop i) [47,47]=true:=by rw[h1];exact Bool.false_ne_true
   simp only[zrb,zoU,if_neg h1',if_pos h2];exact Tri.symLoop rfl (zrw hC c1 c2 c3 c4 c5 s m i l q H hs hi hq (s.length+1) i 0 t' (by omega) (by omega) (by omega) (by omega) (.inr h2) hw' f0 f3 f5)
  ·have h1':¬zbF (s.drop i) [47,47]=true:=by rw[h1];exact Bool.false_ne_true
   have h2':¬zbF (s.drop i) [47,42]=true:=by rw[h2];exact Bool.false_ne_true
   simp only[zrb,zoU,if_neg h1',if_neg h2',e1]
def zlx (s:List UInt8)(base:Nat):Option (Int×List UInt8×Nat):=match zb7 base (s.drop 2) 0 with
 |none=>none
 |some n=>if 0<n then(match zdP base ((s.take (2+n)).drop 2) 0 with
  |none=>none
  |some a=>if zmd s (2+n)=true then some (3,zk4 a,2+n)else none)else none
def zdg (s:List UInt8)(m:Nat)(r:Bool):Option (Nat×Bool):=match zge (s.drop m)with
 |none=>none
 |some k=>if 0<k then(if zmd s (m+k)=true then some (m+k,true)else none)else if zmd s m=true then some (m,r)else none
def zfR (s:List UInt8):Option (Nat×Bool):=match zb7 10 s 0 with
 |none=>none
 |some n=>if n+1<s.length∧atS s n=46∧(decide (48≤atS s (n+1:Nat))&&decide (atS s (n+1:Nat)≤57))=true then(match zb7 10 (s.drop (n+1)) 0 with
  |none=>none
  |some k=>zdg s (n+(1+k)) true)else zdg s n false
def za4 (s:List UInt8):List UInt8:=(s.filter fun c=>c !=95).map fun c=>if c=69 then 101 else c
def zeO (s:List UInt8):Option (Int×List UInt8×Nat):=
 if zbF s [48,120]=true then zlx s 16 else if zbF s [48,98]=true then zlx s 2 else match zfR s with
  |none=>none
  |some (m,true)=>some (4,za4 (s.take m),m)
  |some (m,false)=>match zdP 10 (s.take m) 0 with
   |none=>none
   |some a=>some (3,zk4 a,m)
def zmv (o:Option (Int×List UInt8×Nat))(at_:Int):Res:=match o with
 |some r=>.val (.tup [.i .i64 r.1,.s r.2.1,.i .i64 (r.2.2:Nat)])
 |none=>.pan (zcA 33 at_)
theorem ziP (s:List UInt8)(k:Nat)(h:zge s=some k):k≤s.length:=by
 cases s with
 |nil=>simp[zge]at h;omega
 |cons c r=>
  simp only[zge]at h;split at h
  ·split at h
   ·rename_i k' hk;have:=zcj 10 _ _ _ hk;rw[length_drop]at this;have h:=Option.some.inj h;have:zfn r≤(c::r).length∨(c::r).length<zfn r:=by omega
    simp only[length_cons]at *;omega
   ·cases h
  ·have h:=Option.some.inj h;omega
structure NumH (call:zad) (at_:Int):Prop where
  run:∀(s:List UInt8)(base:Nat),s.length<1100000→base=2∨base=10∨base=16→∀K,call 75 [.s s,.i .i64 base,.i .i64 at_] K=(match zb7 base s 0 with|some n=>.val (.i .i64 n) K|none=>.pan (zcA 33 at_) K)
  exp:∀(s:List UInt8),s.length<1100000→∀K,call 77 [.s s,.i .i64 at_] K=(match zge s with|some n=>.val (.i .i64 n) K|none=>.pan (zcA 33 at_) K)
  who:∀(s:List UInt8)(base:Nat),base=2∨base=10∨base=16→s.length<1100000→∀K,call 76 [.s s,.i .i64 base,.i .i64 at_] K=(zvb base s at_).at K
  pre:∀x y:List UInt8,∀K,call 70 [.s x,.s y] K=.val (.b (zbF x y)) K
  dig:∀c:Int,∀K,call 50 [.i .u8 c] K=.val (.b (decide (48≤c)&&decide (c≤57))) K
  must:zdS call
  ends:zyP call
theorem NumH.who' {call:zad} {at_:Int} (h:NumH call at_) (s:List UInt8) (base:Nat) (hb:base=2∨base=10∨base=16) (hs:s.length<1100000) {A:List UInt8→Prop} {B:V→Prop} (h1:∀n:Nat,zdP base s 0=some n→A (zk4 n)) (h2:zdP base s 0=none→B (zcA 33 at_)) :
    (∃x,(∀K,call 76 [.s s,.i .i64 base,.i .i64 at_] K=.val (.s x) K)∧A x)∨∃v,(∀K,call 76 [.s s,.i .i64 base,.i .i64 at_] K=.pan v K)∧B v:=
  zuJ (h.who s base hb hs) rfl h1 h2
abbrev zhD (s:List UInt8)(at_:Int):zaa:=[some ⟨9,[.s s],.all⟩,some ⟨3,[.i .i64 at_],.all⟩,none]
theorem zlV {t:Tm}{H:zaa}{k:Int}{x:List UInt8}{n:Nat}{o:Option (Int×List UInt8×Nat)}{at_:Int}(f4:t.get 4=.i .i64 k)(f5:t.get 5=.s x)(f6:t.get 6=.i .i64 (n:Nat))(ho:o=some (k,x,n)):za1 TT f51 (isR (zmv o at_)) (.ret t H):=by
 subst ho;refine⟨_,rfl,?_⟩;simp[f51,f4,f5,f6]
theorem zpX {call:zad}(hC:call.Sound prog TT)(s:List UInt8)(at_:Int)(hn:NumH call at_)(hs:s.length<1100000)(p:List UInt8)(base:Nat)(hb:base=2∨base=10∨base=16)(hp:p.length=2)(itv:V)(t:Tm){Q:Out→Prop}
 (hw:t.wid=f51.ntmps)(t2:t.get 2=.ptr 0 0)(t3:t.get 3=.ptr 1 0)(t7:t.get 7=.fn 74 [.ptr 0 0,.ptr 1 0])(t8:t.get 8=.s p)(t9:t.get 9=.i .i64 base)(t16:t.get 16=itv)(t4:t.get 4=.i .i64 0)(t5:t.get 5=.s [])(t6:t.get 6=.i .i64 0)
 (hY:zbF s p=true→∀o,za1 TT f51 (isR (zmv (zlx s base) at_)) o→(∃v t H,o=.pan v t H)∨(∃t H,o=.ret t H)→Q o)
 (hN:zbF s p=false→∀t':Tm,t'.wid=f51.ntmps→t'.get 2=.ptr 0 0→t'.get 3=.ptr 1 0→t'.get 4=.i .i64 0→t'.get 5=.s []→t'.get 6=.i .i64 0→t'.get 7=.fn 74 [.ptr 0 0,.ptr 1 0]→t'.get 16=itv→Q (.norm t' (zhD s at_))) :
 Tri prog TT (sub [true,true,false,true,false,false,true,true,false,true] (zae f51)) t (zhD s at_) Q:=by
 refine Tri.sym (R:=fun _=>False) zah hC zu3 (by kernel_rfl) (σ:=[.uh (zhD s at_),.un 0,.un 1,.us s,.ui at_,.us p,.ui base,.uv itv]) hw rfl ⟨t2,t3,t7,t8,t9,t16,t4,t5,t6,trivial⟩ rfl ⟨by simp,by simp⟩ ?_;clear t2 t3 t7 t8 t9 t16 t4 t5 t6;simp -implicitDefEqProofs only[VC,isR,exU,Ask.den,forall_eq,E.den,O1.den,O2.den,O3.den,U.int_ui,U.boo_ub,U.val_uv,U.lst_ul,U.str_us,U.nat_un,U.heap_uh,SH.den,zaF,zbH,bD,SB.den,zas,LQ,cons_append,nil_append,List.getElem?_cons_zero,List.getElem?_cons_succ,Option.getD_some,zam,zai,zan,zaj,beq_iff_eq,bne_iff_ne,beq_eq_false_iff_ne,Int.toNat_natCast,Bool.false_eq_true,if_false,if_true];have e2:((zhD s at_).set 1 (some ⟨3,[.i .i64 at_],.all⟩)).set 0 (some ⟨9,[.s s],.all⟩)=zhD s at_:=rfl;rw[e2];have d2:(s.take s.length).drop (2:Int).toNat=s.drop 2:=by rw[take_length];rfl
 rw[d2];refine .inl ⟨_,fun K=>hn.pre s p K,fun h=>?_,fun h=>?_⟩
 ·have hl:=zbv h;refine⟨by omega,zg9 (hn.run (s.drop 2) base (by rw[length_drop];omega) hb) (fun n hr=>?_) (fun hr=>?_)⟩
  ·have hnl:=zcj base _ _ _ hr;rw[length_drop]at hnl;have w2:IntKind.i64.wrap (2+(n:Int))=((2+n:Nat):Int):=by rw[w64 (by omega) (by omega)];omega
   rw[w2];simp only[Int.toNat_natCast];refine zaV hn.must _ _ _ (fun h1=>?_) (fun h1=>?_)
   ·have h0:0<n:=by simpa using h1
    refine⟨by omega,by omega,hn.who' _ base hb (by rw[length_drop,length_take];omega) (fun a ha=>?_) (fun ha=>?_)⟩
    ·refine zgJ (hn.ends (2+n) s at_ 0 1 (zhD s at_) (by omega) (by omega) hs rfl rfl) (fun he=>?_) (fun he=>?_)
     ·intro t' hw' f2 f3 f4 f5 f6 f7 f16;refine hY h _ (zlV f4 f5 f6 ?_) (.inr ⟨_,_,rfl⟩);simp only[zlx,hr,if_pos h0];have ha':zdP base ((s.take (2+n)).drop 2) 0=some a:=ha;simp only[ha',if_pos he]
     ·intro t' hw' f2 f3 f7 f16;refine hY h _ ?_ (.inl ⟨_,_,_,rfl⟩);have ha':zdP base ((s.take (2+n)).drop 2) 0=some a:=ha;simp only[zlx,hr,if_pos h0,ha',he,Bool.false_eq_true,if_false];exact rfl
    ·intro t' hw' f2 f3 f7 f16;refine hY h _ ?_ (.inl ⟨_,_,_,rfl⟩);have ha':zdP base ((s.take (2+n)).drop 2) 0=none:=ha;simp only[zlx,hr,if_pos h0,ha'];exact rfl
   ·have h0:¬0<n:=by simpa using h1
    intro t' hw' f2 f3 f4 f5 f6 f7 f16;refine hY h _ ?_ (.inl ⟨_,_,_,rfl⟩);simp only[zlx,hr,if_neg h0];exact rfl
  ·intro t' hw' f2 f3 f4 f5 f6 f7 f16;refine hY h _ ?_ (.inl ⟨_,_,_,rfl⟩);simp only[zlx,hr];exact rfl
 ·intro t' hw' f2 f3 f4 f5 f6 f7 f16;exact hN h t' hw' f2 f3 f4 f5 f6 f7 f16
def zjV (s:List UInt8):Option (Nat×Bool)→Option (Int×List UInt8×Nat)
 |none=>none
 |some (m,true)=>some (4,za4 (s.take m),m)
 |some (m,false)=>match zdP 10 (s.take m) 0 with
  |none=>none
  |some a=>some (3,zk4 a,m)
theorem zg8 (s:List UInt8):zeO s=if zbF s [48,120]=true then zlx s 16 else if zbF s [48,98]=true then zlx s 2 else zjV s (zfR s):=by
 unfold zeO zjV;rfl
def zvd (s:List UInt8)(at_:Int):Prop:=∀(m:Nat)(t:Tm),zfR s=some (m,true)→m≤s.length→t.wid=f51.ntmps→t.get 2=.ptr 0 0→t.get 3=.ptr 1 0→t.get 6=.i .i64 (m:Nat) →
 Tri prog TT (sub [true,true,true,true,true,true,false] (sub [true,true,true] (zae f51))) t (zhD s at_) (ctx prog TT [true,true,true,true,true,true,false] (sub [true,true,true] (zae f51)) (za1 TT f51 (isR (zmv (zjV s (zfR s)) at_))))
theorem zsd {call:zad} (hC:call.Sound prog TT) (s:List UInt8) (at_:Int) (hn:NumH call at_) (hs:s.length<1100000) (hf:zvd s at_) (t:Tm)
    (hw:t.wid=f51.ntmps)(t2:t.get 2=.ptr 0 0)(t3:t.get 3=.ptr 1 0)(t7:t.get 7=.fn 74 [.ptr 0 0,.ptr 1 0])(t4:t.get 4=.i .i64 0)(t5:t.get 5=.s [])(t6:t.get 6=.i .i64 0) :
    Tri prog TT (sub [true,true,true] (zae f51)) t (zhD s at_) (za1 TT f51 (isR (zmv (zjV s (zfR s)) at_))):=by
  refine Tri.sym (R:=fun _=>False) zah hC zxs (by kernel_rfl) (σ:=[.uh (zhD s at_),.un 0,.un 1,.us s,.ui at_]) hw rfl ⟨t2,t3,t7,t4,t5,t6,trivial⟩ rfl ⟨by simp,by simp⟩ ?_
  clear t2 t3 t7 t4 t5 t6
  simp -implicitDefEqProofs only[VC,isR,exU,Ask.den,forall_eq,E.den,O1.den,O2.den,O3.den,U.int_ui,U.boo_ub,U.val_uv,U.lst_ul,U.str_us,U.nat_un,U.heap_uh,SH.den,zaF,zbH,bD,SB.den,zas,LQ,cons_append,nil_append,List.getElem?_cons_zero,List.getElem?_cons_succ,Option.getD_some,zam,zai,zan,zaj,beq_iff_eq,bne_iff_ne,beq_eq_false_iff_ne,Int.toNat_natCast,Bool.false_eq_true,if_false,if_true]
  have e2:((zhD s at_).set 1 (some ⟨3,[.i .i64 at_],.all⟩)).set 0 (some ⟨9,[.s s],.all⟩)=zhD s at_:=rfl
  rw[e2]
  simp only[take_length]
  have hends:=fun n (h:n≤s.length)=>hn.ends n s at_ 0 1 (zhD s at_) (by omega) h hs rfl rfl
  have whole:∀n:Nat,n≤s.length→zfR s=zdg s n false→zge (s.drop n)=some 0→zmd s n=true →
      (∃x,(∀K,call 76 [.s ((s.take n).drop 0),.i .i64 10,.i .i64 at_] K=.val (.s x) K)∧∀t':Tm,t'.wid=f51.ntmps→t'.get 2=.ptr 0 0→t'.get 3=.ptr 1 0→t'.get 4=.i .i64 3→t'.get 5=.s x→t'.get 6=.i .i64 (n:Nat)→za1 TT f51 (isR (zmv (zjV s (zfR s)) at_)) (.ret t' (zhD s at_))) ∨
      ∃v,(∀K,call 76 [.s ((s.take n).drop 0),.i .i64 10,.i .i64 at_] K=.pan v K)∧∀t':Tm,t'.wid=f51.ntmps→t'.get 2=.ptr 0 0→t'.get 3=.ptr 1 0→za1 TT f51 (isR (zmv (zjV s (zfR s)) at_)) (.pan v t' (zhD s at_)):=by
    intro n hnl hd he hq
    have hd':zfR s=some (n,false):=by rw[hd];simp only[zdg,he,hq,if_true];rfl
    refine hn.who' _ 10 (.inr (.inl rfl)) (by rw[length_drop,length_take];omega) (fun a ha=>?_) (fun ha=>?_)
    · intro t' hw' f2 f3 f4 f5 f6
      refine zlV f4 f5 f6 ?_
      have ha':zdP 10 (s.take n) 0=some a:=ha
      rw[hd']
      simp only[zjV,ha']
    · intro t' hw' f2 f3
      have ha':zdP 10 (s.take n) 0=none:=ha
      rw[hd']
      simp only[zjV,ha']
      exact rfl
  have pan:∀(t':Tm) (H:zaa),zfR s=none→za1 TT f51 (isR (zmv (zjV s (zfR s)) at_)) (.pan (zcA 33 at_) t' H):=by
    intro t' H hd
    rw[hd]
    exact rfl
  refine zg9 (hn.run s 10 hs (.inr (.inl rfl))) (fun n hr=>?_) (fun hr t' hw' f2 f3 f4 f5 f6=>pan _ _ (by
    have hr:zb7 10 s 0=none:=hr
    simp only[zfR,hr]))
  have hr:zb7 10 s 0=some n:=hr
  have hnl:=zcj 10 _ _ _ hr
  have w1:IntKind.i64.wrap ((n:Int)+1)=((n+1:Nat):Int):=by rw[w64 (by omega) (by omega)];omega
  rw[w1]
  simp only[Int.toNat_natCast]
  have noFrac:zfR s=zdg s n false→∀(A:Int→Prop) (B:V→Prop),
      (zge (s.drop n)=some 0→A 0)→(∀k:Nat,0<k→zge (s.drop n)=some k→n+k≤s.length→A k)→(zfR s=none→B (zcA 33 at_)) →
      (∃x,(∀K,call 77 [.s (s.drop n),.i .i64 at_] K=.val (.i .i64 x) K)∧A x)∨∃v,(∀K,call 77 [.s (s.drop n),.i .i64 at_] K=.pan v K)∧B v:=by
    intro hd A B h0 h1 h2
    refine zg9 (hn.exp (s.drop n) (by rw[length_drop];omega)) (fun k hk=>?_) (fun hk=>?_)
    · have hkl:=ziP _ _ hk
      rw[length_drop]at hkl
      by_cases hk0:0<k
      · exact h1 k hk0 hk (by omega)
      · have:k=0:=by omega
        subst this
        exact h0 hk
    · exact h2 (by rw[hd];simp only[zdg,hk])
  refine⟨fun h1=>⟨by omega,by omega,fun h2=>⟨by omega,.inl ⟨_,fun K=>hn.dig _ K,fun h3=>⟨by omega,?frac⟩,fun h3=>⟨by omega,?tail1⟩⟩⟩,fun h2=>⟨by omega,?tail2⟩⟩,fun h1=>⟨by omega,by omega,?tail3⟩⟩
  case frac=>
    have hd:zfR s=match zb7 10 (s.drop (n+1)) 0 with|none=>none|some k=>zdg s (n+(1+k)) true:=by
      simp only[zfR,hr]
      rw[if_pos ⟨by omega,h2,h3⟩]
    refine zg9 (hn.run (s.drop (n+1)) 10 (by rw[length_drop];omega) (.inr (.inl rfl))) (fun k hk=>?_) (fun hk t' hw' f2 f3 f4 f5=>pan _ _ (by
      have hk:zb7 10 (s.drop (n+1)) 0=none:=hk
      rw[hd,hk]))
    have hk:zb7 10 (s.drop (n+1)) 0=some k:=hk
    have hkl:=zcj 10 _ _ _ hk
    rw[length_drop]at hkl
    rw[hk]at hd
    simp only at hd
    have w2:IntKind.i64.wrap (1+(k:Int))=((1+k:Nat):Int):=by rw[w64 (by omega) (by omega)];omega
    have w3:IntKind.i64.wrap ((n:Int)+((1+k:Nat):Int))=((n+(1+k):Nat):Int):=by rw[w64 (by omega) (by omega)];omega
    rw[w2,w3]
    simp only[Int.toNat_natCast]
    generalize hm:n+(1+k)=m at hd w3 ⊢
    have hml:m≤s.length:=by omega
    refine⟨by omega,by omega,zg9 (hn.exp (s.drop m) (by rw[length_drop];omega)) (fun j hj=>?_) (fun hj t' hw' f2 f3 f4 f5 f6=>pan _ _ (by rw[hd];simp only[zdg,hj]))⟩
    have hjl:=ziP _ _ hj
    rw[length_drop]at hjl
    refine⟨fun h0=>?_,fun h0=>?_⟩
    · have w4:IntKind.i64.wrap ((m:Int)+(j:Nat))=((m+j:Nat):Int):=by rw[w64 (by omega) (by omega)];omega
      rw[w4]
      have hj0:0<j:=by omega
      refine zgJ (hends (m+j) (by omega)) (fun hq t' hw' f2 f3 f4 f5 f6=>hf (m+j) t' (by rw[hd];simp only[zdg,hj,if_pos hj0,if_pos hq]) (by omega) hw' f2 f3 f6) (fun hq t' hw' f2 f3 f4 f5 f6=>pan _ _ (by rw[hd];simp only[zdg,hj,if_pos hj0,hq];rfl))
    · have hj0:¬0<j:=by omega
      refine zgJ (hends m hml) (fun hq t' hw' f2 f3 f4 f5 f6=>hf m t' (by rw[hd];simp only[zdg,hj,if_neg hj0,if_pos hq]) hml hw' f2 f3 f6) (fun hq t' hw' f2 f3 f4 f5 f6=>pan _ _ (by rw[hd];simp only[zdg,hj,if_neg hj0,hq];rfl))
  all_goals
    have hd:zfR s=zdg s n false:=by
      simp only[zfR,hr]
      rw[if_neg]
      rintro⟨k1,k2,k3⟩
      first
        |omega
        |exact h2 k2
        |(rw[h3]at k3;cases k3)
    refine noFrac hd _ _ (fun he=>⟨fun h=>absurd h (by omega),fun _=>?_⟩) (fun k hk he hkl=>⟨fun _=>?_,fun h=>absurd h (by omega)⟩) (fun hd' t' hw' f2 f3 f4 f5 f6=>pan _ _ hd')
    · exact zgJ (hends n (by omega)) (fun hq=>whole n (by omega) hd he hq) (fun hq t' hw' f2 f3 f4 f5 f6=>pan _ _ (by rw[hd];simp only[zdg,he,hq];rfl))
    · have w4:IntKind.i64.wrap ((n:Int)+(k:Nat))=((n+k:Nat):Int):=by rw[w64 (by omega) (by omega)];omega
      rw[w4]
      exact zgJ (hends (n+k) hkl) (fun hq t' hw' f2 f3 f4 f5 f6=>hf (n+k) t' (by rw[hd];simp only[zdg,he,if_pos hk,if_pos hq]) hkl hw' f2 f3 f6) (fun hq t' hw' f2 f3 f4 f5 f6=>pan _ _ (by rw[hd];simp only[zdg,he,if_pos hk,hq];rfl))
def kvN:List (V×V):=[(.s [48,120],.i .i64 16),(.s [48,98],.i .i64 2)]
def zy3 (s:List UInt8)(at_:Int)(left:List (V×V))(t:Tm)(H:zaa):Prop:=
 H=zhD s at_∧t.wid=103∧t.get 2=.ptr 0 0∧t.get 3=.ptr 1 0∧t.get 4=.i .i64 0∧t.get 5=.s []∧t.get 6=.i .i64 0∧t.get 7=.fn 74 [.ptr 0 0,.ptr 1 0]∧(∀q∈left,q∈kvN)∧∀q∈kvN,q∈left∨∀p,q.1=.s p→zbF s p=false
theorem zr3 {s:List UInt8}(h:zbF s [48,98]=true):zbF s [48,120]=false:=by
 match s,h with
 | [],h=>simp[zbF]at h
 | [a],h=>simp[zbF]at h
 |a::b::r,h=>
  simp[zbF]at h ⊢;intro _;rw[h.2];decide
theorem zpF {α:Type}{l:List α}{j:Nat}{q:α}(h:q∈l):l[j]? = some q∨q∈l.eraseIdx j:=by
 obtain⟨i,hi⟩:=mem_iff_getElem?.1 h;by_cases e:i=j
 ·subst e;exact .inl hi
 ·refine .inr ?_;by_cases hlt:i<j
  ·exact mem_of_getElem? (i:=i) (by rw[List.getElem?_eraseIdx,if_pos hlt];exact hi)
  ·exact mem_of_getElem? (i:=i-1) (by rw[List.getElem?_eraseIdx,if_neg (by omega),show i-1+1=i from by omega];exact hi)
theorem zqU {P:Program}{T:Tab}{fn:Func}{r:Res}{o:Out}(h:za1 T fn (isR r) o):zhs T fn r o:=by
 cases o with
 |norm t H=>obtain⟨v,h1,h2⟩:=h;have h1:r=.val v:=h1;subst h1;exact h2
 |ret t H=>obtain⟨v,h1,h2⟩:=h;have h1:r=.val v:=h1;subst h1;exact h2
 |pan v t H=>have h:r=.pan v:=h;subst h;rfl
 |exit i t H=>exact h.elim
 |no=>exact h.elim
theorem zoA {call:zad}(hC:call.Sound prog TT)(s:List UInt8)(at_:Int)(hn:NumH call at_)(hs:s.length<1100000)(hf:zvd s at_):zte prog TT 51 [.s s,.i .i64 at_] (zmv (zeO s) at_):=by
 refine⟨f51,_,rfl,rfl,by simp[f51],?_⟩;refine zfL.mono (Q:=za1 TT f51 (isR (zmv (zeO s) at_))) ?_ (fun o h=>zqU (P:=prog) h);have h0:(Tm.init f51.ntmps [.s s,.i .i64 at_]).get 0=.s s:=by rw[zag];rfl
 have h1:(Tm.init f51.ntmps [.s s,.i .i64 at_]).get 1=.i .i64 at_:=by rw[zag];rfl
 have hw:(Tm.init f51.ntmps [.s s,.i .i64 at_]).wid=103:=rfl;generalize Tm.init f51.ntmps [.s s,.i .i64 at_]=t at *;refine zfL.seq (Tri.n ?_);refine Tri.regN (t':=?t1) (H':=?H1) zah hC ?e1 ?q1;case e1=>
  refine zax ?_;iterate 5 refine zab rfl (by simp[h0,h1]<;>rfl) (by rfl) (by simp[hw]) ?_
  exact zaq
 refine zfL.seq (Tri.n ?_);refine Tri.regN (t':=?t2) (H':=?H2) zah hC ?e2 ?q2;case e2=>
  refine zax ?_;iterate 2 refine zab rfl (by simp[h0,h1]<;>rfl) (by rfl) (by simp[hw]) ?_
  exact zaq
 refine zfL.seq ?_;refine zfL.rangeMap zah hC 4 (zy3 s at_) kvN (t1:=?t3) (H1:=?H3) (blk:=?blk) (n:=2) (kt:=9) (et:=3) rfl rfl rfl rfl ?e3 ?f3 ?x3 ?m3 ?k3 ?a3 ?u3 ?i3 rfl rfl rfl rfl rfl rfl ?r3 ?z3;case e3=>
  iterate 4 refine zab rfl (by simp[h0,h1]<;>rfl) (by rfl) (by simp[hw]) ?_
  exact zaq
 case f3=>simp[hw]
 case x3=>simp
 case m3=>rfl
 case k3=>rfl
 case a3=>rfl
 case u3=>rfl
 case i3=>
  intro l;refine⟨rfl,by simp[hw],by simp,by simp,by simp,by simp,by simp,by simp,fun q hq=>hq,fun q hq=>.inl hq⟩
 case r3=>
  rintro left t H j k v ⟨rfl,hw,g2,g3,g4,g5,g6,g7,hsub,hall⟩ hj;have hq:∃p base,k=.s p∧v=.i .i64 (base:Nat)∧(base=2∨base=10∨base=16)∧p.length=2∧(zbF s p=true→zeO s=zlx s base):=by
   have:=hsub _ (mem_of_getElem? hj);simp only[kvN,mem_cons,Prod.mk.injEq,not_mem_nil,or_false]at this;rcases this with⟨rfl,rfl⟩|⟨rfl,rfl⟩
   ·exact⟨_,16,rfl,rfl,by omega,rfl,fun h=>by rw[zg8,if_pos h]⟩
   ·exact⟨_,2,rfl,rfl,by omega,rfl,fun h=>by rw[zg8,if_neg (by rw[zr3 h];exact Bool.false_ne_true),if_pos h]⟩
  obtain⟨p,base,rfl,rfl,hb,hpl,hpq⟩:=hq;refine⟨?ta,?Ha,?tb,?Hb,by simp[hw],?ec,?tc,?ic,?fc,?ef,?ig,?xx⟩;case ec=>
   refine oA ?_;exact zaq
  case tc=>simp
  case ic=>simp
  case fc=>simp[hw]
  case ef=>
   iterate 4 refine zab rfl (by simp<;>rfl) (by rfl) (by simp[hw]) ?_
   exact zaq
  case ig=>simp
  case xx=>
   refine Tri.n (zpX hC s at_ hn hs p base hb hpl (t.get 16) _ (by simp[hw]) ?_ ?_ ?_ ?_ ?_ ?_ ?_ ?_ ?_ ?_ ?_)
   ·simp[g2]
   ·simp[g3]
   ·simp[g7]
   ·simp
   ·simp
   ·simp
   ·simp[g4]
   ·simp[g5]
   ·simp[g6]
   ·intro hpre o ho hor;rw[hpq hpre];rcases hor with⟨v,t',H',rfl⟩|⟨t',H',rfl⟩
    ·exact ho
    ·exact ho
   ·intro hpre t' hw' f2 f3 f4 f5 f6 f7 f16;refine⟨f16,rfl,hw',f2,f3,f4,f5,f6,f7,fun q hq=>hsub q (mem_of_mem_eraseIdx hq),fun q hq=>?_⟩;rcases hall q hq with h|h
    ·rcases zpF (j:=j) h with h|h
     ·rw[hj]at h;cases h;refine .inr fun p' hp'=>?_;cases hp';exact hpre
     ·exact .inl h
    ·exact .inr h
 case z3=>
  rintro t H ⟨rfl,hw,g2,g3,g4,g5,g6,g7,hsub,hall⟩;have n1:zbF s [48,120]=false:=(hall (.s [48,120],.i .i64 16) (by simp[kvN])).resolve_left (by simp) _ rfl;have n2:zbF s [48,98]=false:=(hall (.s [48,98],.i .i64 2) (by simp[kvN])).resolve_left (by simp) _ rfl;refine⟨?tq,?Hq,by simp[hw],?ez,?tz,?qz⟩;case ez=>
   refine oA ?_;exact zaq
  case tz=>simp
  case qz=>
   have e:zeO s=zjV s (zfR s):=by
    rw[zg8,if_neg (by rw[n1];exact Bool.false_ne_true),if_neg (by rw[n2];exact Bool.false_ne_true)]
   show zfL prog TT (sub [true,true,true] (zae f51)) _ _ _;rw[e];refine Tri.n (zsd hC s at_ hn hs hf _ (by simp[hw]) ?_ ?_ ?_ ?_ ?_ ?_);all_goals simp[g2,g3,g4,g5,g6,g7]
theorem zue (o:Option (Int×List UInt8×Nat))(at_:Int):(zmv o at_).nl=true:=by
 unfold zmv;cases o<;>rfl
theorem zqr (D:List UInt8→Prop) (hf:∀s at_,D s→s.length<1100000→zvd s at_):∃g,zap prog TT 51 g∧∀(s:List UInt8) (at_:Int),D s→s.length<1100000→∀H,g [.s s,.i .i64 at_] H=(zmv (zeO s) at_).at H:=by
  obtain⟨g1,k1,s1⟩:=zs3
  obtain⟨g2,k2,s2⟩:=zwS
  obtain⟨g3,k3,s3⟩:=zwR
  obtain⟨g4,k4,s4⟩:=zmN
  obtain⟨g5,k5,s5⟩:=zuH
  obtain⟨g6,k6,s6⟩:=zd3
  obtain⟨g7,k7,s7⟩:=zwQ
  have hC:=ws (ws (ws (ws (ws (ws (ws n0 k1) k2) k3) k4) k5) k6) k7
  have hN:∀at_,NumH (((((((zad.none.with 75 g1).with 77 g2).with 76 g3).with 70 g4).with 50 g5).with 55 g6).with 74 g7) at_:=fun at_=>
    { run:=fun s base hs hb K=>by rw[zac _ _ _ _ rfl,zac _ _ _ _ rfl,zac _ _ _ _ rfl,zac _ _ _ _ rfl,zac _ _ _ _ rfl,zac _ _ _ _ rfl,zao];exact s1 s base at_ hs (by omega) K
      exp:=fun s hs K=>by
        rw[zac _ _ _ _ rfl,zac _ _ _ _ rfl,zac _ _ _ _ rfl,zac _ _ _ _ rfl,zac _ _ _ _ rfl,zao,s2 s at_ hs K]
        cases zge s<;>rfl
      who:=fun s base hb hs K=>by rw[zac _ _ _ _ rfl,zac _ _ _ _ rfl,zac _ _ _ _ rfl,zac _ _ _ _ rfl,zao];exact s3 s base at_ hb hs K
      pre:=fun x y K=>by rw[zac _ _ _ _ rfl,zac _ _ _ _ rfl,zac _ _ _ _ rfl,zao];exact s4 x y K
      dig:=fun c K=>by rw[zac _ _ _ _ rfl,zac _ _ _ _ rfl,zao];exact s5 c trivial K
      must:=fun b e k K=>by rw[zac _ _ _ _ rfl,zao];exact s6 b e k K
      ends:=fun n s a x y H h1 h2 h3 h4 h5=>by rw[zao];exact s7 n s a x y H h1 h2 h3 h4 h5}
  generalize((((((zad.none.with 75 g1).with 77 g2).with 76 g3).with 70 g4).with 50 g5).with 55 g6).with 74 g7=call at hC hN
  obtain ⟨g,k,h⟩:=znY (P:=prog) (T:=TT) zah zat 51 (fun vs r=>∃(s:List UInt8) (at_:Int),D s∧s.length<1100000∧vs=[.s s,.i .i64 at_]∧r=zmv (zeO s) at_) (by
    rintro vs r ⟨s,at_,hd,hs,rfl,rfl⟩
    exact⟨rfl,zue _ _,zoA hC s at_ (hN at_) hs (hf s at_ hd hs)⟩)
  refine⟨g,k,fun s at_ hd hs H=>?_⟩
  obtain⟨r,⟨s',a',_,_,he,rfl⟩,h2⟩:=h [.s s,.i .i64 at_] ⟨_,s,at_,hd,hs,rfl,rfl⟩
  simp only[List.cons.injEq,V.s.injEq,V.i.injEq,true_and,and_true]at he
  obtain⟨rfl,rfl⟩:=he
  exact h2 H
theorem ziA (s:List UInt8):∀(n i d e:Nat),i≤s.length→zeU s n i d=some e→i<e∧e≤s.length
 |0,_,_,_,_,h=>by simp[zeU]at h
 |n+1,i,d,e,hi,h=>by
  simp only[zeU]at h;by_cases h1:zbF (s.drop i) [47,42]=true
  ·rw[if_pos h1]at h;have hl:=zbv h1;rw[length_drop]at hl;simp only[length_cons,length_nil]at hl;have:=ziA s n (i+2) (d+1) e (by omega) h;omega
  ·rw[if_neg h1]at h;by_cases h2:zbF (s.drop i) [42,47]=true
   ·rw[if_pos h2]at h;have hl:=zbv h2;rw[length_drop]at hl;simp only[length_cons,length_nil]at hl;by_cases h3:d=1
    ·rw[if_pos h3]at h;have h:=Option.some.inj h;omega
    ·rw[if_neg h3]at h;have:=ziA s n (i+2) (d-1) e (by omega) h;omega
   ·rw[if_neg h2]at h;by_cases h3:i<s.length
    ·rw[if_pos h3]at h;have:=ziA s n (i+1) d e (by omega) h;omega
    ·rw[if_neg h3]at h;cases h
theorem zoS {s:List UInt8}{i e:Nat}{l:Bool}{p:Nat×Bool}(h:zkL s i l (some e)=some p):p.1=e:=by
 simp only[zkL]at h;by_cases h1:Lib.validD ((s.take e).drop i)=true
 ·rw[if_pos h1]at h;have h:=Option.some.inj h;rw[←h]
 ·rw[if_neg h1]at h;cases h
theorem zhC (c x:UInt8)(r:List UInt8)(h:x≠c):¬Lib.indexByte (x::r) c=0:=by
 intro e;have h1:=Lib.index_spec (x::r) [c];rw[Lib.index_one]at h1;rcases h1 with⟨h1,_⟩|⟨k,h1,_,h2,_⟩
 ·omega
 ·have:k=0:=by omega
  subst this;simp[Lib.occAt]at h2;exact h h2.symm
theorem zoV {s:List UInt8}{i:Nat}{l:Bool}{p:Nat×Bool}(hi:i≤s.length)(h:zoU s i l=some (some p)):i<p.1∧p.1≤s.length:=by
 unfold zoU at h;by_cases h1:zbF (s.drop i) [47,47]=true
 ·rw[if_pos h1]at h;have h:=zoS (Option.some.inj h);have hl:=zbv h1;rw[length_drop]at hl;simp only[length_cons,length_nil]at hl;by_cases h2:Lib.indexByte (s.drop i) 10<0
  ·rw[if_pos h2]at h;omega
  ·rw [if_neg h2]at h;have hx:=Lib.index_room (s.drop i) [10] (by rw[Lib.index_one];omega);rw[Lib.index_one,length_drop,length_singleton]at hx;have hn:¬Lib.indexByte (s.drop i) 10=0:=by
    rcases hd:s.drop i with _|⟨x,r⟩
    ·rw[hd]at h1;simp[zbF]at h1
    ·rw[hd]at h1;simp[zbF]at h1;exact zhC 10 x r (by rw[h1.2.1];decide)
   omega
 ·rw[if_neg h1]at h;by_cases h2:zbF (s.drop i) [47,42]=true
  ·rw[if_pos h2]at h;rcases hc:zeU s (s.length+1) i 0 with _|e
   ·rw[hc]at h;simp[zkL]at h
   ·rw[hc]at h;have h:=zoS (Option.some.inj h);have:=ziA s _ i 0 e hi hc;omega
  ·rw[if_neg h2]at h;cases h
def skF (s:List UInt8):Nat→Nat→Bool→Nat ⊕ (Nat×Bool)
 |0,i,l=>.inr (i,l)
 |n+1,i,l=>if i<s.length then(if atS s i=32∨atS s i=9∨atS s i=13∨atS s i=10 then skF s n (i+1) (l||decide (atS s i=10))
  else match zoU s i l with
   |none=>.inr (i,l)
   |some none=>.inl i
   |some (some p)=>skF s n p.1 p.2)else .inr (i,l)
def skR (H:zaa)(n:Nat)(s:List UInt8)(m:Nat)(o:Nat ⊕ (Nat×Bool))(r:OR):Prop:=match o with
 | .inr p=>r=.val .un (H.set n (some (scB s p.1 p.2 m)))
 | .inl a=>∃b,r=.pan (zcA 32 a) (H.set n b)
theorem zrC {call:zad} (hC:call.Sound prog TT) (hcom:∀(p:Nat×List UInt8×Nat×Bool×Nat) (H:zaa),(ScB H p.1 p.2.1 p.2.2.1 p.2.2.2.1 p.2.2.2.2∧p.2.2.1≤p.2.1.length∧p.2.1.length<1100000)→zrb H p (call 47 [.ptr p.1 0] H))
    (s:List UInt8)(m:Nat)(q:Nat)(H0:zaa)(hs:s.length<1100000)(hq:q<H0.length) :
    ∀(n i:Nat)(l:Bool)(t:Tm),s.length<n+i→i≤s.length→t.wid=f30.ntmps→t.get 0=.ptr q 0 →
    ctx prog TT [false,false] (zae f30) (za1 TT f30 (skR H0 q s m (skF s n i l))) (.norm t (H0.set q (some (scB s i l m)))):=by
  intro n
  induction n with
  |zero=>intro i l t h1 h2;omega
  | succ n ih=>
    intro i l t hn hi hw t0
    refine zaP.symIn (p:=[false]) zah hC rfl zu6 (by kernel_rfl) [.un q,.uh H0,.us s,.ui (i:Nat),.ub l,.un m] rfl hw ⟨t0,trivial⟩ rfl ⟨by simp;exact hq,by simp⟩ ?_
    clear t0 hw
    simp -implicitDefEqProofs only[VC,isR,exU,Ask.den,forall_eq,E.den,O1.den,O2.den,O3.den,U.int_ui,U.boo_ub,U.val_uv,U.lst_ul,U.str_us,U.nat_un,U.heap_uh,SH.den,zaF,zbH,bD,SB.den,zas,LQ,cons_append,nil_append,List.getElem?_cons_zero,List.getElem?_cons_succ,Option.getD_some,zam,zai,zan,zaj,beq_iff_eq,bne_iff_ne,beq_eq_false_iff_ne,Int.toNat_natCast,zbV,Bool.false_eq_true,if_false,if_true]
    have w1:IntKind.i64.wrap ((i:Int)+1)=((i+1:Nat):Int):=by rw[w64 (by omega) (by omega)];omega
    simp only[w1,Int.toNat_natCast]
    have sp:(atS s i=32∨atS s i=9∨atS s i=13∨atS s i=10)→i<s.length→∀b:Bool,b=(l||decide (atS s i=10))→∀t':Tm,t'.wid=f30.ntmps→t'.get 0=.ptr q 0 →
        ctx prog TT [false,false] (zae f30) (za1 TT f30 (skR H0 q s m (skF s (n+1) i l))) (.norm t' (H0.set q (some ⟨55,[.s s,.i .i64 ((i+1:Nat):Int),.b b,.mp m],.all⟩))):=by
      intro h hlt b hb t' hw' f0
      have e:skF s (n+1) i l=skF s n (i+1) (l||decide (atS s i=10)):=by simp only[skF,if_pos hlt,if_pos h]
      rw[e,hb]
      exact ih (i+1) _ t' (by omega) (by omega) hw' f0
    have eb:(atS s i==10)=decide (atS s i=10):=rfl
    refine ⟨fun h=>⟨by omega,fun h1=>⟨fun hl=>sp (.inl h1) (by omega) _ (by rw[hl];rfl),fun hl=>sp (.inl h1) (by omega) _ (by rw[hl,eb];rfl)⟩,fun h1=>⟨fun h2=>⟨fun hl=>sp (.inr (.inl h2)) (by omega) _ (by rw[hl];rfl),fun hl=>sp (.inr (.inl h2)) (by omega) _ (by rw[hl,eb];rfl)⟩,
      fun h2=>⟨fun h3=>⟨fun hl=>sp (.inr (.inr (.inl h3))) (by omega) _ (by rw[hl];rfl),fun hl=>sp (.inr (.inr (.inl h3))) (by omega) _ (by rw[hl,eb];rfl)⟩,fun h3=>⟨fun h4=>⟨fun hl=>sp (.inr (.inr (.inr h4))) (by omega) _ (by rw[hl];rfl),fun hl=>sp (.inr (.inr (.inr h4))) (by omega) _ (by rw[hl,eb];rfl)⟩,fun h4=>?_⟩⟩⟩⟩,fun h=>?_⟩
    · have hlt:i<s.length:=by omega
      have hns:¬(atS s i=32∨atS s i=9∨atS s i=13∨atS s i=10):=by
        rintro(e|e|e|e)
        · exact h1 e
        · exact h2 e
        · exact h3 e
        · exact h4 e
      have hk:=hcom (q,s,i,l,m) (H0.set q (some (scB s i l m))) ⟨by unfold ScB;rw[List.getElem?_set_self hq],hi,hs⟩
      unfold zrb at hk
      simp only at hk
      rcases hc:zoU s i l with _|_|p
      · rw[hc]at hk
        simp only at hk
        have e:skF s (n+1) i l=.inr (i,l):=by simp only[skF,if_pos hlt,if_neg hns,hc]
        refine .inl ⟨false,(i:Nat),l,_,hk,⟨by rw[List.getElem?_set_self hq],trivial⟩,fun h=>(by cases h),fun _=>?_⟩
        rw[e,set_set]
        rfl
      · rw[hc]at hk
        simp only[zqP]at hk
        obtain⟨b,hk⟩:=hk
        have e:skF s (n+1) i l=.inl i:=by simp only[skF,if_pos hlt,if_neg hns,hc]
        refine .inr ⟨_,_,hk,?_⟩
        rw[e,set_set]
        exact⟨b,rfl⟩
      · rw[hc]at hk
        simp only[zqP]at hk
        obtain⟨q1,q2⟩:=zoV hi hc
        have e:skF s (n+1) i l=skF s n p.1 p.2:=by simp only[skF,if_pos hlt,if_neg hns,hc]
        refine .inl ⟨true,(p.1:Nat),p.2,_,hk,⟨by rw[List.getElem?_set_self (by rw[length_set];exact hq)],trivial⟩,fun _ t' hw' f0=>?_,fun h=>(by cases h)⟩
        rw[e,set_set,set_set]
        exact ih p.1 p.2 t' (by omega) q2 hw' f0
    · have hlt:¬i<s.length:=by omega
      have e:skF s (n+1) i l=.inr (i,l):=by simp only[skF,if_neg hlt]
      rw[e]
      rfl
def skQ (s:List UInt8)(i:Nat)(l:Bool):Nat ⊕ (Nat×Bool):=skF s (s.length+1) i l
theorem zwL:∃g,zap prog TT 30 g∧∀(p:Nat×List UInt8×Nat×Bool×Nat)(H:zaa),(ScB H p.1 p.2.1 p.2.2.1 p.2.2.2.1 p.2.2.2.2∧p.2.2.1≤p.2.1.length∧p.2.1.length<1100000)→skR H p.1 p.2.1 p.2.2.2.2 (skQ p.2.1 p.2.2.1 p.2.2.2.1) (g [.ptr p.1 0] H):=by
 obtain⟨g1,k1,s1⟩:=zwM;have hC:=ws n0 k1;have c1:∀(p:Nat×List UInt8×Nat×Bool×Nat)(H:zaa),(ScB H p.1 p.2.1 p.2.2.1 p.2.2.2.1 p.2.2.2.2∧p.2.2.1≤p.2.1.length∧p.2.1.length<1100000)→zrb H p ((zad.none.with 47 g1) 47 [.ptr p.1 0] H):=fun p H h=>by
  rw[zao];exact s1 p H h
 generalize zad.none.with 47 g1=call at hC c1;refine zdG zah 30 (fun p:Nat×List UInt8×Nat×Bool×Nat=>[.ptr p.1 0]) (fun p H=>ScB H p.1 p.2.1 p.2.2.1 p.2.2.2.1 p.2.2.2.2∧p.2.2.1≤p.2.1.length∧p.2.1.length<1100000) (fun p H r=>skR H p.1 p.2.1 p.2.2.2.2 (skQ p.2.1 p.2.2.1 p.2.2.2.1) r) ?_ ?_
 ·rintro⟨n,s,i,l,m⟩ ⟨n',s',i',l',m'⟩ H r ⟨h1,_⟩ ⟨h2,_⟩ he hr;simp only[List.cons.injEq,V.ptr.injEq,and_true]at he;subst he;obtain⟨rfl,rfl,rfl,rfl⟩:=h1.inj h2;exact hr
 ·rintro⟨q,s,i,l,m⟩ H ⟨hb,hi,hs⟩;simp only at hb hi hs ⊢;have hq:q<H.length:=zaa.lt hb;refine zaO.sym zah hC (fn:=f30) rfl rfl (by simp[f30]) zxw (by kernel_rfl) [.un q,.uh H,.us s,.ui (i:Nat),.ub l,.un m] rfl ⟨by rw[zag];rfl,trivial⟩ (zaa.set_self hb) ⟨by simp;exact hq,by simp⟩ ?_;simp -implicitDefEqProofs only[VC,isR,exU,Ask.den,forall_eq,E.den,O1.den,O2.den,O3.den,U.int_ui,U.boo_ub,U.val_uv,U.lst_ul,U.str_us,U.nat_un,U.heap_uh,SH.den,zaF,zbH,bD,SB.den,zas,LQ,cons_append,nil_append,List.getElem?_cons_zero,List.getElem?_cons_succ,Option.getD_some,zam,zai,zan,zaj,beq_iff_eq,bne_iff_ne,beq_eq_false_iff_ne,Int.toNat_natCast,zbV,Bool.false_eq_true,if_false,if_true];intro t' hw' f0;exact Tri.symLoop rfl (zrC hC c1 s m q H hs hq (s.length+1) i l t' (by omega) hi hw' f0)
theorem zu7:za2 TT shp f31.ntmps [1] (zae f31) [] ⟨[(0,.f1 (.ptr 0) (.va 0))],⟨.va 1,[(.va 0,some ⟨55,.f2 .cons (.f1 .vs (.va 2)) (.f2 .cons (.f1 (.vi .i64) (.va 3)) (.f2 .cons (.f1 .vb (.va 4)) (.f2 .cons (.f1 .mp (.va 5)) .nil))),.all⟩)],[]⟩,6,[]⟩ (KF TT f31 [0,2])=.leaf (.stop [true,false]) [(0,xp v0),(2,xp (xN (xh v1) (.cn 0)))] ⟨v1,[(v0,xk 55 (x4 (xs v2) (xi v3) (xb v4) (xm v5)))],[xk 34 (x4 (xi c0) (xs (.cs [])) (xi c0) (xb (.cb false)))]⟩:=by kernel_rfl
theorem zu8:goT TT shp f31.ntmps [] [true,true] (zae f31) [] ⟨[(0,.f1 (.ptr 0) (.va 0)),(2,.f1 (.ptr 0) (.va 6)),(3,.f1 (.ptr 0) (.va 7))],⟨.va 1,[(.va 0,some ⟨55,.f2 .cons (.f1 .vs (.va 2)) (.f2 .cons (.f1 (.vi .i64) (.va 3)) (.f2 .cons (.f1 .vb (.va 4)) (.f2 .cons (.f1 .mp (.va 5)) .nil))),.all⟩),(.va 6,some ⟨34,.f2 .cons (.f1 (.vi .i64) (.ci 0)) (.f2 .cons (.f1 .vs (.cs [])) (.f2 .cons (.f1 (.vi .i64) (.ci 0)) (.f2 .cons (.f1 .vb (.cb false)) .nil))),.all⟩),(.va 7,some ⟨34,.f2 .cons (.f1 (.vi .i64) (.ci 0)) (.f2 .cons (.f1 .vs (.cs [])) (.f2 .cons (.f1 (.vi .i64) (.va 3)) (.f2 .cons (.f1 .vb (.va 4)) .nil))),.all⟩)],[]⟩,8,[]⟩ (KF TT f31 [])=let qt:E:=xs v2;let qe:E:=xi v3;let qd:E:=xb v4;let qs:E:=xm v5;let qb:=xk 55 (x4 qt qe qd qs);let qo:E:=xs (.cs []);let qa:=xk 34 (x4 (xi c0) qo (xi c0) (xb (.cb false)));let qg:SH:=⟨v1,[(v0,qb),(v6,qa),(v7,xk 34 (x4 (xi c0) qo qe qd))],[]⟩;let qc:E:=xs (.f3 .sub v8 c0 v9);let qu:E:=x4 (xi c1) qc qe qd;let qi:=xk 34 qu;let qn:E:=x4 (xi c2) qc qe qd;let qk:=xk 55 (x4 qt (xi (xw (xa v3 v9))) qd qs);let qq:Tree:=.stuck 0;let qx:E:=xA v8 c0;let qr:E:=x2 (xs v8) qe;let ql:E:=x4 (xi v11) (xs v12) qe qd;let qp:E:=xs v11;let qv:E:=xt (x2 qp (xi v12));let qm:E:=x4 (xi c3) qp qe qd;let qj:=xk 55 (x4 qt (xi (xw (xa v3 v12))) qd qs);let qh:E:=x4 (xi (xc 5)) qp qe qd;let qf:E:=x4 (xi (xc 6)) qp qe qd;let qw:=xk 34 qf;.ask (.call 48 (x1 (xp v0))) qg [.s] (xs v8) false (.asks (.call 49 (x1 (xs v8))) [.i] (xi v9) (.need (xL c0 (xl v8)) (.ite (xG v9 c0) (.need (xE c0 v9) (.need (xE v9 (xl v8)) (.ask (.lookup 52 qs qc false) ⟨v1,[(v0,qb),(v6,qa),(v7,qi)],[]⟩ [.b] (xb v10) false (.ite v10 (.fin (xg qn) ⟨v1,[(v0,qk),(v6,xk 34 qn),(v7,xk 34 qn)],[]⟩) (.fin (xg qu) ⟨v1,[(v0,qk),(v6,qi),(v7,qi)],[]⟩)) qq))) (.asks (.call 50 (x1 (xu qx))) [.b] (xb v10) (.ite v10 (.asks (.call 51 qr) [.i,.s,.i] (xt (x3 (xi v11) (xs v12) (xi v13))) (.fin (xg ql) ⟨v1,[(v0,xk 55 (x4 qt (xi (xw (xa v3 v13))) qd qs)),(v6,xk 34 ql),(v7,xk 34 ql)],[]⟩) (.pnc v11 qg)) (.ite (xe qx (xc 39)) (.asks (.call 52 qr) [.s,.i] qv (.fin (xg qm) ⟨v1,[(v0,qj),(v6,xk 34 qm),(v7,xk 34 qm)],[]⟩) (.pnc v11 ⟨v1,[(v0,qb),(v6,qa),(v7,xk 34 (x4 (xi c3) qo qe qd))],[]⟩)) (.ite (xe qx (xc 34)) (.asks (.call 53 qr) [.s,.i] qv (.fin (xg qh) ⟨v1,[(v0,qj),(v6,xk 34 qh),(v7,xk 34 qh)],[]⟩) (.pnc v11 ⟨v1,[(v0,qb),(v6,qa),(v7,xk 34 (x4 (xi (xc 5)) qo qe qd))],[]⟩)) (.asks (.call 54 (x1 (xs v8))) [.s] qp (.asks (.call 55 (x3 (xb (xG (xl v11) c0)) (xi (xc 30)) qe)) [] (.cv (.tup [])) (.fin (xg qf) ⟨v1,[(v0,xk 55 (x4 qt (xi (xw (xa v3 (xl v11)))) qd qs)),(v6,qw),(v7,qw)],[]⟩) (.pnc v12 ⟨v1,[(v0,qb),(v6,qa),(v7,qw)],[]⟩)) qq)))) qq))) qq) qq:=by kernel_rfl
theorem zun {call:zad}(hC:call.Sound prog TT)(t:Tm)(H:zaa)(q:Nat)(z:V)(s:List UInt8)(i:Nat)(l:Bool)(m:Nat)(hw:t.wid=104)(t0:t.get 0=.ptr q 0)(t2:t.get 2=z)(hb:H[q]? = some (some (scB s i l m))){Q:Out→Prop}
 (h:∀t',t'.wid=t.wid→t'.get 0=.ptr q 0→t'.get 2=z→t'.get 3=.ptr H.length 0→Q (.norm t' (H++[some ⟨34,[.i .i64 0,.s [],.i .i64 i,.b l],.all⟩]))):Tri prog TT (sub [true,false] (zae f31)) t H Q:=by
 have hq:q<H.length:=zaa.lt hb;have hF:=ai @t0 (ai @t2 @hb);show Tri prog TT (.region _ _ true) t H Q;refine Tri.regN (t':=?t1) (H':=?H1) zah hC ?e1 ?q1;case e1=>
  refine zbY (t':=?t1) (H':=?H1) (ks:=[.q,.q,.q,.a,.q,.q,.q,.a,.q,.e,.e]) (fun K=>K[q]? = some (some (scB s i l m))) (by kernel_rfl) ?A1 ?_ ?r1;case A1=>exact hb
  iterate 3 refine DR.blind rfl rfl (by simp[hF]<;>rfl) (by rfl) (by simp[hw]) ?_
  refine DR.any rfl (by simp[hF]<;>rfl) (by rfl) (by simp[hw]) (by intro K hK;simp[hF,hK]<;>rfl) ?_;iterate 3 refine DR.blind rfl rfl (by simp[hF]<;>rfl) (by rfl) (by simp[hw]) ?_
  refine DR.any rfl (by simp[hF]<;>rfl) (by rfl) (by simp[hw]) (by intro K hK;simp[hF,hK]<;>rfl) ?_;refine DR.blind rfl rfl (by simp[hF]<;>rfl) (by rfl) (by simp[hw]) ?_;iterate 2 refine DR.eff rfl rfl (by simp[hF]<;>rfl) (by rfl) (by simp[hw]) ((List.getElem?_append_left hq).trans hb) ?_
  exact DR.nil;case r1=>exact rfl
 refine h _ ?_ ?_ ?_ ?_;all_goals simp[hF,hw]
def zd6 (kwf:List UInt8→Bool)(nq:List UInt8→Option (Int×List UInt8×Nat))(x:List UInt8):Nat ⊕ (Int×List UInt8×Nat):=
 if 0<idR x 0 then .inr (if kwf (x.take (idR x 0))=true then 2 else 1,x.take (idR x 0),idR x 0)
 else if(decide (48≤atS x 0)&&decide (atS x 0≤57))=true then(match nq x with|some r=>.inr r|none=>.inl 33)
 else if atS x 0=39 then(match zkK x with|some p=>.inr (3,p.1,p.2)|none=>.inl 31)
 else if atS x 0=34 then(match zjA x with|some p=>.inr (5,p.1,p.2)|none=>.inl 31)
 else if 0<(sgF x sgnL []).length then .inr (6,sgF x sgnL [],(sgF x sgnL []).length)else .inl 30
def zxH (H H':zaa)(q:Nat):Prop:=H.length≤H'.length∧∀j,j<H.length→j≠q→H'[j]? = H[j]?
def zvp (H:zaa)(q:Nat)(s:List UInt8)(i:Nat)(l:Bool)(m:Nat)(o:Nat ⊕ (Int×List UInt8×Nat))(r:OR):Prop:=match o with
 | .inr p=>∃H',r=.val (.agg [.i .i64 p.1,.s p.2.1,.i .i64 i,.b l]) H'∧ScB H' q s (i+p.2.2) l m∧zxH H H' q
 | .inl e=>∃H',r=.pan (zcA e i) H'∧zxH H H' q
set_option maxHeartbeats 1000000 in
theorem zq6 {call:zad}(hC:call.Sound prog TT)(hm:zdS call)(hrest:∀(n:Nat)(s:List UInt8)(i:Nat)(l:Bool)(m:Nat)(H:zaa),ScB H n s i l m→i≤s.length→call 48 [.ptr n 0] H=.val (.s (s.drop i)) H)
 (q:Nat)(s:List UInt8)(hword:∀x:List UInt8,x.length≤s.length→∀H,call 49 [.s x] H=.val (.i .i64 (idR x 0:Nat)) H)(i:Nat)(l:Bool)(m:Nat)(H:zaa)(hb:ScB H q s i l m)(hi:i<s.length)(hs:s.length<1100000)(kwf:List UInt8→Bool)(nq:List UInt8→Option (Int×List UInt8×Nat))(hm0:m<H.length)(hmq:m≠q)(hlk:∀(y:List UInt8)(K:zaa),K[m]? = H[m]?→zb4 TT 52 (.mp m) (.s y) false K=some (.b (kwf y)))
 (hdig:∀c:Int,∀H,call 50 [.i .u8 c] H=.val (.b (decide (48≤c)&&decide (c≤57))) H)(hsg:∀x:List UInt8,∀H,call 54 [.s x] H=.val (.s (sgF x sgnL [])) H)
 (hchr:∀(x:List UInt8)(a:Int),(0<x.length∧x.length<1100000)→∀H,call 52 [.s x,.i .i64 a] H=(zaM (zkK x) a).at H)(htxt:∀(x:List UInt8)(a:Int),(0<x.length∧x.length<1100000)→∀H,call 53 [.s x,.i .i64 a] H=(zaM (zjA x) a).at H)
 (hnum:(decide (48≤atS (s.drop i) 0)&&decide (atS (s.drop i) 0≤57))=true→∀(a:Int)(H:zaa),call 51 [.s (s.drop i),.i .i64 a] H=(match nq (s.drop i)with|some r=>.val (.tup [.i .i64 r.1,.s r.2.1,.i .i64 (r.2.2:Nat)]) H|none=>.pan (zcA 33 a) H))(hnl:∀r,nq (s.drop i)=some r→r.2.2≤s.length)(hcl:∀p,zkK (s.drop i)=some p→p.2≤s.length)(htl:∀p,zjA (s.drop i)=some p→p.2≤s.length)(hsl:(sgF (s.drop i) sgnL []).length≤6) :
 zaO prog TT 31 [.ptr q 0] H (zvp H q s i l m (zd6 kwf nq (s.drop i))):=by
 have hq:q<H.length:=zaa.lt hb;refine zaO.sym zah hC (fn:=f31) rfl rfl (by simp[f31]) zu7 (by kernel_rfl) [.un q,.uh H,.us s,.ui (i:Nat),.ub l,.un m] rfl ⟨by rw[zag];rfl,trivial⟩ (zaa.set_self hb) ⟨by simp;exact hq,by simp⟩ ?_;simp -implicitDefEqProofs only[VC,isR,exU,Ask.den,forall_eq,E.den,O1.den,O2.den,O3.den,U.int_ui,U.boo_ub,U.val_uv,U.lst_ul,U.str_us,U.nat_un,U.heap_uh,SH.den,zaF,zbH,bD,SB.den,zas,LQ,cons_append,nil_append,List.getElem?_cons_zero,List.getElem?_cons_succ,Option.getD_some,zam,zai,zan,zaj,beq_iff_eq,bne_iff_ne,beq_eq_false_iff_ne,Int.toNat_natCast,zbV,Bool.false_eq_true,if_false,if_true];intro t hw t0 t2;refine zun hC t _ q _ s i l m hw t0 t2 (by rw[List.getElem?_append_left (by rw[length_set];exact hq),List.getElem?_set_self hq]) fun t' hw' f0 f2 f3=>?_;show Tri prog TT (sub [true,true] (zae f31)) t' _ (ctx prog TT [true,true] (zae f31) _);have hb':ScB (H.set q (some (scB s i l m))++[some ⟨34,[.i .i64 0,.s [],.i .i64 0,.b false],.all⟩]++[some ⟨34,[.i .i64 0,.s [],.i .i64 i,.b l],.all⟩]) q s i l m:=by
  unfold ScB;rw[append_assoc,List.getElem?_append_left (by rw[length_set];exact hq),List.getElem?_set_self hq]
 generalize hG:H.set q (some (scB s i l m))++[some ⟨34,[.i .i64 0,.s [],.i .i64 0,.b false],.all⟩]++[some ⟨34,[.i .i64 0,.s [],.i .i64 i,.b l],.all⟩]=G at hb';have g1:G[H.length]? = some (some ⟨34,[.i .i64 0,.s [],.i .i64 0,.b false],.all⟩):=by rw[←hG];simp
 have g2:G[H.length+1]? = some (some ⟨34,[.i .i64 0,.s [],.i .i64 i,.b l],.all⟩):=by rw[←hG];simp
 have hl:G.length=H.length+2:=by rw[←hG];simp
 have fin:∀(A B:Option Blk)(k:Nat),ScB (((G.set (H.length+1) A).set H.length B).set q (some (scB s k l m))) q s k l m:=fun A B k=>by
  unfold ScB;rw[List.getElem?_set_self (by simp[hl];omega)]
 have kept:∀(A B C:Option Blk),zxH H (((G.set (H.length+1) A).set H.length B).set q C) q:=fun A B C=>⟨by simp[hl],fun j h1 h2=>by
  rw[List.getElem?_set_ne (fun e=>h2 e.symm),List.getElem?_set_ne (by omega),List.getElem?_set_ne (by omega),←hG,append_assoc,List.getElem?_append_left (by rw[length_set];exact h1),List.getElem?_set_ne (fun e=>h2 e.symm)]⟩
 have e0:((G.set (H.length+1) (some ⟨34,[.i .i64 0,.s [],.i .i64 (i:Nat),.b l],.all⟩)).set H.length (some ⟨34,[.i .i64 0,.s [],.i .i64 0,.b false],.all⟩)).set q (some (scB s i l m))=G:=by
  rw[←zaa.set_self g2,←zaa.set_self g1,←zaa.set_self hb']
 refine Tri.symIn zah hC zu8 (by kernel_rfl) [.un q,.uh G,.us s,.ui (i:Nat),.ub l,.un m,.un H.length,.un (H.length+1)] rfl (hw'.trans hw) ⟨f0,?_,?_,trivial⟩ ?_ ?_ ?_
 ·rw[f2];simp
 ·rw[f3];simp
 ·show G=((G.set (H.length+1) _).set H.length _).set q _;exact e0.symm
 ·have hl:G.length=H.length+2:=by rw[←hG];simp
  exact⟨by simp[hl];omega,by simp;omega⟩
 ·simp -implicitDefEqProofs only[VC,isR,exU,Ask.den,forall_eq,E.den,O1.den,O2.den,O3.den,U.int_ui,U.boo_ub,U.val_uv,U.lst_ul,U.str_us,U.nat_un,U.heap_uh,SH.den,zaF,zbH,bD,SB.den,zas,LQ,cons_append,nil_append,List.getElem?_cons_zero,List.getElem?_cons_succ,Option.getD_some,zam,zai,zan,zaj,beq_iff_eq,bne_iff_ne,beq_eq_false_iff_ne,Int.toNat_natCast,zbV,Bool.false_eq_true,if_false,if_true,e0];refine .inl ⟨_,hrest q s i l m G hb' (by omega),.inl ⟨_,fun K=>hword _ (by rw[length_drop];omega) K,by rw[length_drop];omega,fun h1=>?_,fun h1=>?_⟩⟩
  ·have hil:idR (s.drop i) 0≤(s.drop i).length:=(zmo (Nat.zero_le _)).2;have hkm:∀A:Option Blk,(((G.set (H.length+1) A).set H.length (some ⟨34,[.i .i64 0,.s [],.i .i64 0,.b false],.all⟩)).set q (some (scB s i l m)))[m]? = H[m]?:=fun A=>(kept A _ _).2 m hm0 hmq;have ec:(((idR (s.drop i) 0:Nat):Int)).toNat=idR (s.drop i) 0:=Int.toNat_natCast _;have w1:IntKind.i64.wrap ((i:Int)+(idR (s.drop i) 0:Nat))=((i+idR (s.drop i) 0:Nat):Int):=by rw[length_drop]at hil;rw[w64 (by omega) (by omega)];omega
   have e1:zd6 kwf nq (s.drop i)=.inr (if kwf ((s.drop i).take (idR (s.drop i) 0))=true then 2 else 1,(s.drop i).take (idR (s.drop i) 0),idR (s.drop i) 0):=by unfold zd6;rw[if_pos (by omega)]
   simp only[ec,w1,e1];refine⟨by omega,by omega,.inl ⟨kwf ((s.drop i).take (idR (s.drop i) 0)),?_,fun h2=>?_,fun h2=>?_⟩⟩
   ·rw[hlk _ _ (hkm _)];rfl
   ·rw[h2];exact⟨_,rfl,fin _ _ _,kept _ _ _⟩
   ·rw[h2];exact⟨_,rfl,fin _ _ _,kept _ _ _⟩
  ·have n1:¬0<idR (s.drop i) 0:=by omega
   have hxl:0<(s.drop i).length∧(s.drop i).length<1100000:=by rw[length_drop];omega
   have hKG:zxH H G q:=⟨by rw[hl];omega,fun j h1 h2=>by
    rw[←hG,append_assoc,List.getElem?_append_left (by rw[length_set];exact h1),List.getElem?_set_ne (fun e=>h2 e.symm)]⟩
   have wk:∀k:Nat,k≤s.length+6→IntKind.i64.wrap ((i:Int)+(k:Nat))=((i+k:Nat):Int):=fun k hk=>by rw[w64 (by omega) (by omega)];omega
   refine .inl ⟨_,fun K=>hdig _ K,fun h2=>?_,fun h2=>⟨fun h3=>?_,fun h3=>⟨fun h4=>?_,fun h4=>.inl ⟨_,fun K=>hsg _ K,?_⟩⟩⟩⟩
   ·rcases hn:nq (s.drop i)with _|r
    ·have e1:zd6 kwf nq (s.drop i)=.inl 33:=by unfold zd6;rw[if_neg n1,if_pos h2,hn]
     rw[e1];exact .inr ⟨zcA 33 i,fun K=>by rw[hnum h2 _ K,hn],_,rfl,hKG⟩
    ·have e1:zd6 kwf nq (s.drop i)=.inr r:=by unfold zd6;rw[if_neg n1,if_pos h2,hn]
     rw[e1];refine .inl ⟨r.1,r.2.1,(r.2.2:Nat),fun K=>by rw[hnum h2 _ K,hn],?_⟩;rw[wk _ (by have:=hnl r hn;omega)];exact⟨_,rfl,fin _ _ _,kept _ _ _⟩
   ·have n2:¬(decide (48≤atS (s.drop i) 0)&&decide (atS (s.drop i) 0≤57))=true:=by rw[h2];exact Bool.false_ne_true
    rcases hn:zkK (s.drop i)with _|p
    ·have e1:zd6 kwf nq (s.drop i)=.inl 31:=by unfold zd6;rw[if_neg n1,if_neg n2,if_pos h3,hn]
     rw[e1];exact .inr ⟨_,fun K=>by rw[hchr _ _ hxl K,hn];rfl,_,rfl,kept _ _ _⟩
    ·have e1:zd6 kwf nq (s.drop i)=.inr (3,p.1,p.2):=by unfold zd6;rw[if_neg n1,if_neg n2,if_pos h3,hn]
     rw[e1];refine .inl ⟨p.1,(p.2:Nat),fun K=>by rw[hchr _ _ hxl K,hn];rfl,?_⟩;rw[wk _ (by have:=hcl p hn;omega)];exact⟨_,rfl,fin _ _ _,kept _ _ _⟩
   ·have n2:¬(decide (48≤atS (s.drop i) 0)&&decide (atS (s.drop i) 0≤57))=true:=by rw[h2];exact Bool.false_ne_true
    rcases hn:zjA (s.drop i)with _|p
    ·have e1:zd6 kwf nq (s.drop i)=.inl 31:=by unfold zd6;rw[if_neg n1,if_neg n2,if_neg h3,if_pos h4,hn]
     rw[e1];exact .inr ⟨_,fun K=>by rw[htxt _ _ hxl K,hn];rfl,_,rfl,kept _ _ _⟩
    ·have e1:zd6 kwf nq (s.drop i)=.inr (5,p.1,p.2):=by unfold zd6;rw[if_neg n1,if_neg n2,if_neg h3,if_pos h4,hn]
     rw[e1];refine .inl ⟨p.1,(p.2:Nat),fun K=>by rw[htxt _ _ hxl K,hn];rfl,?_⟩;rw[wk _ (by have:=htl p hn;omega)];exact⟨_,rfl,fin _ _ _,kept _ _ _⟩
   ·have n2:¬(decide (48≤atS (s.drop i) 0)&&decide (atS (s.drop i) 0≤57))=true:=by rw[h2];exact Bool.false_ne_true
    have e0:zd6 kwf nq (s.drop i)=if 0<(sgF (s.drop i) sgnL []).length then .inr (6,sgF (s.drop i) sgnL [],(sgF (s.drop i) sgnL []).length)else .inl 30:=by
     unfold zd6;rw[if_neg n1,if_neg n2,if_neg h3,if_neg h4]
    generalize sgF (s.drop i) sgnL []=g at e0 hsl ⊢;rw[e0];refine zaV hm _ _ _ (fun h5=>?_) (fun h5=>?_)
    ·have h6:0<g.length:=by simpa using h5
     rw[if_pos h6,wk _ (by omega)];exact⟨_,rfl,fin _ _ _,kept _ _ _⟩
    ·have h6:¬0<g.length:=by intro e;simp[e]at h5
     rw[if_neg h6];exact⟨_,rfl,kept _ _ _⟩
theorem zoQ {x:List UInt8}{p:List UInt8×Nat}(h:zkK x=some p):0<p.2∧p.2≤x.length:=by
 unfold zkK at h;rcases hq:zb0 x 39 with _|q
 ·rw[hq]at h;cases h
 ·rw[hq]at h;simp only at h;obtain⟨_,h2,h3⟩:=zhe hq;by_cases h1:Lib.runeCount ⟨q.1.toArray⟩=1
  ·rw[if_pos h1]at h;have h:=Option.some.inj h;rw[←h];exact⟨by simp only;omega,h3⟩
  ·rw[if_neg h1]at h;cases h
theorem zqI {x:List UInt8}{p:List UInt8×Nat}(h:zjA x=some p):0<p.2∧p.2≤x.length:=by
 unfold zjA at h;by_cases h0:zbF x [34,34,34]=true
 ·rw[if_pos h0]at h;have hl:=zbv h0;simp only[length_cons,length_nil]at hl;by_cases h1:0≤Lib.index (x.drop 3) [34,34,34]∧Lib.validD ((x.drop 3).take (Lib.index (x.drop 3) [34,34,34]).toNat)=true
  ·rw[if_pos h1]at h;have hr:=Lib.index_room (x.drop 3) [34,34,34] h1.1;rw[length_drop]at hr;simp only[length_cons,length_nil]at hr;have h:=Option.some.inj h;rw[←h];exact⟨by simp only;omega,by simp only;omega⟩
  ·rw[if_neg h1]at h;cases h
 ·rw[if_neg h0]at h;obtain⟨_,h2,h3⟩:=zhe h;exact⟨by omega,h3⟩
theorem zqn (s:List UInt8):∀(L:List (List UInt8))(b:List UInt8),sgF s L b=b∨sgF s L b∈L
 | [],b=>.inl rfl
 |x::l,b=>by
  simp only[sgF];rcases zqn s l (if okP s b x=true then x else b)with h|h
  ·rw[h];by_cases hx:okP s b x=true
   ·rw[if_pos hx];exact .inr (mem_cons_self ..)
   ·rw[if_neg hx];exact .inl rfl
  ·exact .inr (mem_cons_of_mem _ h)
theorem zso:(sgnL.all fun x=>decide (x.length≤6))=true:=by kernel_rfl
theorem zuB (s:List UInt8):(sgF s sgnL []).length≤6:=by
 rcases zqn s sgnL []with h|h
 ·rw[h];simp
 ·exact of_decide_eq_true (all_eq_true.1 zso _ h)
theorem zt3 {K:zaa}{m:Nat}(h:K[m]? = zbZ[0]?)(s:List UInt8):zb4 TT 52 (.mp m) (.s s) false K=some (.b (kw s)):=by
 have e:zd1 K m=zd1 zbZ 0:=by unfold zd1;rw[h]
 have h1:zd1 K m=some ⟨52,(zi0.map fun w=>[V.s w,V.b true]).flatten,.map⟩:=e.trans rfl;simp only[zb4,tU,Tryz.underlying52,h1,tU,Tryz.underlying9,zc7,if_true,zf1,kw];cases zi0.contains s<;>simp
def zlK:zaa:=[some {ty:=23,cells:=[.nils],kind:=.all},some {ty:=3,cells:=[.i .i64 0],kind:=.all},some {ty:=24,cells:=[.i .i64 0],kind:=.all}]
theorem zlq:zcK TT (zeD Con.none) 3000 29 [] zlK=.val (.mp 3) (zlK++zbZ):=by kernel_rfl
def zlN:List V→zaa→OR:=fun vs H=>match vs with
 | []=>if zaa.beq H zlK=true then .val (.mp 3) (zlK++zbZ)else .no
 |_=>.no
theorem zyj:zap prog TT 29 zlN:=by
 intro vs H r h hne;unfold zlN at h;split at h
 ·split at h
  ·rename_i hb;have:=zaa.beq_eq _ _ hb;subst this;subst h;exact ziN zah Con.none_sound 3000 29 [] zlK _ zlq hne
  ·exact absurd h.symm hne
 ·exact absurd h.symm hne
theorem ztA {call:zad}(hC:call.Sound prog TT){t:Tm}{H:zaa}(hw:t.wid=16)(h6:t.get 6=.nili):Tri prog TT (sub [true] (zae f28)) t H (fun o=>∃tI v,(o=.norm tI H∨o=.ret tI H)∧zaZ TT f28 tI.get H=.val v H):=by
 apply bK;apply rS hC
 ·refine oA ?_;rfl
 refine cT (by simp[h6]<;>rfl) ?_;apply rN hC
 ·refine oA ?_;rfl
 apply bN;exact⟨_,_,.inl rfl,rfl⟩
theorem zno (vs:List V)(hv:vs.length=3)(H:zaa):zeR prog TT 28 vs none H H:=by
 refine zgC (fn:=f28) (c:=zae f28) zah rfl rfl (by rw[hv];simp[f28]) ?_;refine zkJ.seq ?_;refine zkJ.reg zah n0 0 rfl rfl rfl rfl rfl rfl ?_;exact ztA n0 rfl ((get_put _ 6 6 .nili).trans (if_pos rfl))
def znm (H:zaa)(e k:Int):zaa:=(((H++[some (⟨50,[.i .i64 e,.i .i64 k],.all⟩:Blk)]).set 0 (some ⟨23,[.nils],.all⟩)).set 1 (some ⟨3,[.i .i64 k],.all⟩)).set 2 (some ⟨24,[.i .i64 e],.all⟩)
theorem ztz {call:zad}(hC:call.Sound prog TT){t:Tm}{H:zaa}{v:V}{x y e k:Int}(hw:t.wid=16)(h6:t.get 6=zcA e k)(h0:t.get 0=.ptr 0 0)(h1:t.get 1=.ptr 1 0)(h2:t.get 2=.ptr 2 0)
 (g0:H[0]? = some (some ⟨23,[v],.all⟩))(g1:H[1]? = some (some ⟨3,[.i .i64 x],.all⟩))(g2:H[2]? = some (some ⟨24,[.i .i64 y],.all⟩)) :
 Tri prog TT (sub [true] (zae f28)) t H (fun o=>∃tI v,(o=.norm tI (znm H e k)∨o=.ret tI (znm H e k))∧zaZ TT f28 tI.get (znm H e k)=.val v (znm H e k)):=by
 have l2:2<H.length:=zaa.lt g2;obtain⟨K,hK⟩:∃K,H=some ⟨23,[v],.all⟩::some ⟨3,[.i .i64 x],.all⟩::some ⟨24,[.i .i64 y],.all⟩::K:=by
  match H,g0,g1,g2 with
  |a::b::c::K,g0,g1,g2=>
   simp at g0 g1 g2;subst g0 g1 g2;exact⟨K,rfl⟩
 subst hK;clear g0 g1 g2 l2;apply bK;apply rS hC
 ·refine gO (by simp[h6,zcA]<;>rfl) ?_;rfl
 refine Tri.condG (o:=?o2) (b:=?b2) ?g2 ?r2 ?y2 ?n2;case g2=>simp[h6,zcA]<;>rfl
 case r2=>rfl
 case y2=>intro h;simp at h
 case n2=>
  intro _;apply sQ;refine Tri.regN (t':=?t3) (H':=?H3) zah hC ?e3 ?q3;case e3=>
   refine zax ?_;iterate 3 refine zab rfl (by simp[h6,zcA]<;>rfl) (by rfl) (by simp[hw]) ?_
   exact zaq
  apply sN;refine Tri.condG (o:=?o4) (b:=?b4) ?g4 ?r4 ?y4 ?n4;case g4=>simp<;>rfl
  case r4=>rfl
  case n4=>intro h;simp at h
  case y4=>
   intro _;apply sQ;refine Tri.regN (t':=?t5) (H':=?H5) zah hC ?e5 ?q5;case e5=>
    refine zax ?_;iterate 2 refine zab rfl (by simp<;>rfl) (by rfl) (by simp[hw]) ?_
    exact zaq
   apply sN;refine Tri.regN (t':=?t6) (H':=?H6) zah hC ?e6 ?q6;case e6=>
    refine zbY (t':=?t6) (H':=?H6) (ks:=[.q,.a,.q,.a,.e,.e,.e]) (fun J=>J[K.length+3]? = some (some ⟨50,[.i .i64 e,.i .i64 k],.all⟩)) (by kernel_rfl) ?A6 ?_ ?r6;case A6=>simp
    refine DR.blind rfl rfl (by simp[h0,h1,h2]<;>rfl) (by rfl) (by simp[hw]) ?_;refine DR.any rfl (by simp[h0,h1,h2]<;>rfl) (by rfl) (by simp[hw]) (by intro J hJ;simp[hJ]<;>rfl) ?_;refine DR.blind rfl rfl (by simp[h0,h1,h2]<;>rfl) (by rfl) (by simp[hw]) ?_;refine DR.any rfl (by simp[h0,h1,h2]<;>rfl) (by rfl) (by simp[hw]) (by intro J hJ;simp[hJ]<;>rfl) ?_;iterate 3 refine DR.eff rfl rfl (by simp[h0,h1,h2]<;>rfl) (by rfl) (by simp[hw]) (by simp) ?_
    exact DR.nil;case r6=>exact rfl
   apply bN;exact⟨_,_,.inl rfl,rfl⟩
theorem znn {H:zaa}{v:V}{x y:Int}(e k:Int)(g0:H[0]? = some (some ⟨23,[v],.all⟩))(g1:H[1]? = some (some ⟨3,[.i .i64 x],.all⟩))(g2:H[2]? = some (some ⟨24,[.i .i64 y],.all⟩)):zeR prog TT 28 [.ptr 0 0,.ptr 1 0,.ptr 2 0] (some (zcA e k)) H (znm H e k):=by
 refine zgC (fn:=f28) (c:=zae f28) zah rfl rfl (by simp[f28]) ?_;refine zkJ.seq ?_;refine zkJ.reg zah n0 0 rfl rfl rfl rfl rfl rfl ?_;exact ztz n0 rfl ((get_put _ 6 6 _).trans (if_pos rfl)) rfl rfl rfl g0 g1 g2
end Go.Ev
