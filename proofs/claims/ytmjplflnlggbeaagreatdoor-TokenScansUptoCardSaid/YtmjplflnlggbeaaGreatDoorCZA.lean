/- Walks over a token at a place. Where a token at a place ends. The token at a place. Walks over the tokens of a text. The tokens of a text: the walk. The tokens of a text. A text that is a number is one token. Bytes and names: letter, digit, part, word, ident, IsIdent. The scanner's faults, as values. Walks: must. What must and value return. digits and whole. -/
import Derived.Test.YtmjplflnlggbeaaGreatDoorCT38
import Derived.Test.YtmjplflnlggbeaaGreatDoorCEvPart2
import Derived.Test.YtmjplflnlggbeaaGreatDoorCWE
import Derived.Test.YtmjplflnlggbeaaGreatDoorCT20
import Derived.Test.YtmjplflnlggbeaaGreatDoorCSy3
namespace Go.Ev
open Go Go.Proofs
set_option linter.unusedSimpArgs false
set_option linter.unusedVariables false
set_option linter.unnecessarySimpa false
open Tryz List
set_option maxRecDepth 1000000
def zdz (k:Int)(t:List UInt8)(e:Int):V:=.tup [zeQ k t,.i .i64 e,.i .i64 0]
def zdi (c:Int):V:=.tup [zeQ 0 [],.i .i64 0,.i .i64 c]
theorem zm6 {call:zad}(hC:call.Sound prog TT)(s:List UInt8)(i:Nat)(e:Nat)(hid:∀H,call 41 [.s s,.i .i64 i] H=.val (.i .i64 e) H)(hlt:i<e)(hle:(e:Int)≤s.length)(hle2:e≤s.length)(hlt2:(i:Int)≤e)(hlt3:(i:Int)<e)(hlt4:i≤e)(hkw:∀H,call 22 [] H=.val (.isl 1 (zex kwL)) H)(hh:∀H,call 42 [.isl 1 (zex kwL),.s ((s.take e).drop i)] H=.val (.b true) H)  : zaI prog TT 33 [.s s,.i .i64 i] (fun r=>r=.val (zdz 2 ((s.take e).drop i) e)):=by
 refine en f33 rfl rfl (by simp[f33]) 164 rfl fun t hw hg=>?_;have h0:=hg 0 _ rfl;have h1:=hg 1 _ rfl;clear hg;try simp only[Nd.enc_eq]at *
 have hF:=ai @h0 (ai @h1 (ai @hid (ai @hlt (ai @hle (ai @hle2 (ai @hlt2 (ai @hlt3 (ai @hlt4 (ai @hkw @hh)))))))));apply rS hC
 ·iterate 3 refine oA ?_
  rfl
 apply sQ;apply rS hC
 ·iterate 4 refine oA ?_
  rfl
 apply rS hC
 ·iterate 3 refine oA ?_
  rfl
 refine cT (by simp[hF]<;>rfl) ?_;iterate 2 apply sQ
 refine Tri.regN (t':=?t5) (H':=?H5) zah hC ?e5 ?q5;case e5=>
  refine zbT (t':=?t5) (by kernel_rfl) ?_ ?r905;iterate 6 refine QR.val rfl (by simp[hF]<;>rfl) (by rfl) (by simp[hw]) ?_
  exact QR.nil;case r905=>exact rfl
 apply sN;refine cT (by simp[hF]<;>rfl) ?_;apply rS hC
 ·iterate 9 refine oA ?_
  rfl
 apply Tri.ret;iterate 2 apply sR
 refine zbo (by simp[f33]<;>rfl) (by rfl) ?_;first
  |rfl
  |simp[zdz,zdi,zeQ]
theorem zm5 {call:zad}(hC:call.Sound prog TT)(s:List UInt8)(i:Nat)(e:Nat)(hid:∀H,call 41 [.s s,.i .i64 i] H=.val (.i .i64 e) H)(hlt:i<e)(hle:(e:Int)≤s.length)(hle2:e≤s.length)(hlt2:(i:Int)≤e)(hlt3:(i:Int)<e)(hlt4:i≤e)(hkw:∀H,call 22 [] H=.val (.isl 1 (zex kwL)) H)(hh:∀H,call 42 [.isl 1 (zex kwL),.s ((s.take e).drop i)] H=.val (.b false) H)  : zaI prog TT 33 [.s s,.i .i64 i] (fun r=>r=.val (zdz 1 ((s.take e).drop i) e)):=by
 refine en f33 rfl rfl (by simp[f33]) 164 rfl fun t hw hg=>?_;have h0:=hg 0 _ rfl;have h1:=hg 1 _ rfl;clear hg;try simp only[Nd.enc_eq]at *
 have hF:=ai @h0 (ai @h1 (ai @hid (ai @hlt (ai @hle (ai @hle2 (ai @hlt2 (ai @hlt3 (ai @hlt4 (ai @hkw @hh)))))))));apply rS hC
 ·iterate 3 refine oA ?_
  rfl
 apply sQ;apply rS hC
 ·iterate 4 refine oA ?_
  rfl
 apply rS hC
 ·iterate 3 refine oA ?_
  rfl
 refine cT (by simp[hF]<;>rfl) ?_;iterate 2 apply sQ
 refine Tri.regN (t':=?t5) (H':=?H5) zah hC ?e5 ?q5;case e5=>
  refine zbT (t':=?t5) (by kernel_rfl) ?_ ?r905;iterate 6 refine QR.val rfl (by simp[hF]<;>rfl) (by rfl) (by simp[hw]) ?_
  exact QR.nil;case r905=>exact rfl
 apply sN;refine cF (by simp[hF]<;>rfl) ?_;apply Tri.skip;apply sN;apply rS hC
 ·iterate 9 refine oA ?_
  rfl
 apply Tri.ret;apply sR;refine zbo (by simp[f33]<;>rfl) (by rfl) ?_;first
  |rfl
  |simp[zdz,zdi,zeQ]
theorem zhI {call:zad}(hC:call.Sound prog TT)(s:List UInt8)(i:Nat)(e:Nat)(hid:∀H,call 41 [.s s,.i .i64 i] H=.val (.i .i64 e) H)(hnl:¬i<e)(b:UInt8)(hil:(i:Int)<s.length)(hil2:i<s.length)(hat:s[i]? = some b)(hat2:∀h,s[i]'h=b)(d:Int)(hdg:∀H,call 57 [.i .u8 b.toNat,.i .i64 10] H=.val (.i .i64 d) H)(hd:0≤d)(k:Int)(t:List UInt8)(e2 c:Int)(hn:∀H,call 58 [.s s,.i .i64 i] H=.val (.tup [.agg [.i .i64 k,.s t,.i .i64 0,.b false],.i .i64 e2,.i .i64 c]) H)  : zaI prog TT 33 [.s s,.i .i64 i] (fun r=>r=.val (.tup [.agg [.i .i64 k,.s t,.i .i64 0,.b false],.i .i64 e2,.i .i64 c])):=by
 refine en f33 rfl rfl (by simp[f33]) 164 rfl fun t hw hg=>?_;have h0:=hg 0 _ rfl;have h1:=hg 1 _ rfl;clear hg;try simp only[Nd.enc_eq]at *
 have hF:=ai @h0 (ai @h1 (ai @hid (ai @hnl (ai @hil (ai @hil2 (ai @hat (ai @hat2 (ai @hdg (ai @hd @hn)))))))));apply rS hC
 ·iterate 3 refine oA ?_
  rfl
 apply sQ;apply rS hC
 ·iterate 4 refine oA ?_
  rfl
 apply rS hC
 ·iterate 3 refine oA ?_
  rfl
 refine cF (by simp[hF]<;>rfl) ?_;apply Tri.skip;apply sN;apply sQ;apply rS hC
 ·iterate 5 refine oA ?_
  rfl
 refine cT (by simp[hF]<;>rfl) ?_;apply rS hC
 ·iterate 9 refine oA ?_
  rfl
 apply Tri.ret;apply sR;refine zbo (by simp[f33]<;>rfl) (by rfl) ?_;first
  |rfl
  |simp[zdz,zdi,zeQ]
theorem zkU {call:zad}(hC:call.Sound prog TT)(s:List UInt8)(i:Nat)(e:Nat)(hid:∀H,call 41 [.s s,.i .i64 i] H=.val (.i .i64 e) H)(hnl:¬i<e)(b:UInt8)(hil:(i:Int)<s.length)(hil2:i<s.length)(hat:s[i]? = some b)(hat2:∀h,s[i]'h=b)(d:Int)(hdg:∀H,call 57 [.i .u8 b.toNat,.i .i64 10] H=.val (.i .i64 d) H)(hd:¬0≤d)(hbg:∀H,call 56 [.s s,.i .i64 i,.s [34,34,34]] H=.val (.b true) H)(tx:List UInt8)(e2:Int)(ok:Bool)(hrw:∀H,call 59 [.s s,.i .i64 i] H=.val (.tup [.s tx,.i .i64 e2,.b ok]) H)(hok:ok=true)  : zaI prog TT 33 [.s s,.i .i64 i] (fun r=>r=.val (zdz 5 tx e2)):=by
 refine en f33 rfl rfl (by simp[f33]) 164 rfl fun t hw hg=>?_;have h0:=hg 0 _ rfl;have h1:=hg 1 _ rfl;clear hg;try simp only[Nd.enc_eq]at *
 have hF:=ai @h0 (ai @h1 (ai @hid (ai @hnl (ai @hil (ai @hil2 (ai @hat (ai @hat2 (ai @hdg (ai @hd (ai @hbg (ai @hrw @hok)))))))))));apply rS hC
 ·iterate 3 refine oA ?_
  rfl
 apply sQ;apply rS hC
 ·iterate 4 refine oA ?_
  rfl
 apply rS hC
 ·iterate 3 refine oA ?_
  rfl
 refine cF (by simp[hF]<;>rfl) ?_;apply Tri.skip;apply sN;apply sQ;apply rS hC
 ·iterate 5 refine oA ?_
  rfl
 refine cF (by simp[hF]<;>rfl) ?_;apply Tri.skip;apply sN;apply sQ;apply rS hC
 ·iterate 4 refine oA ?_
  iterate 4 refine oC ?_
  refine oA ?_;rfl
 refine cT (by simp[hF]<;>rfl) ?_;apply rS hC
 ·iterate 10 refine oA ?_
  rfl
 apply sQ;apply rS hC
 ·iterate 4 refine oA ?_
  rfl
 refine cF (by simp[hF]<;>rfl) ?_;apply Tri.skip;apply sN;apply sQ;apply rS hC
 ·iterate 2 refine oA ?_
  rfl
 refine cF (by simp[hF]<;>rfl) ?_;apply Tri.skip;apply sN;apply rS hC
 ·iterate 6 refine oA ?_
  rfl
 apply Tri.ret;apply sR;refine zbo (by simp[f33]<;>rfl) (by rfl) ?_;first
  |rfl
  |simp[zdz,zdi,zeQ]
theorem zkS {call:zad}(hC:call.Sound prog TT)(s:List UInt8)(i:Nat)(e:Nat)(hid:∀H,call 41 [.s s,.i .i64 i] H=.val (.i .i64 e) H)(hnl:¬i<e)(b:UInt8)(hil:(i:Int)<s.length)(hil2:i<s.length)(hat:s[i]? = some b)(hat2:∀h,s[i]'h=b)(d:Int)(hdg:∀H,call 57 [.i .u8 b.toNat,.i .i64 10] H=.val (.i .i64 d) H)(hd:¬0≤d)(hbg:∀H,call 56 [.s s,.i .i64 i,.s [34,34,34]] H=.val (.b false) H)(tx:List UInt8)(e2:Int)(ok:Bool)(hrw:∀H,call 59 [.s s,.i .i64 i] H=.val (.tup [.s tx,.i .i64 e2,.b ok]) H)(hb34:((b.toNat:Int)==34)=true)(ty:List UInt8)(e3:Int)(ok2:Bool)(hqu:∀H,call 60 [.s s,.i .i64 i,.i .u8 34] H=.val (.tup [.s ty,.i .i64 e3,.b ok2]) H)(hok:ok2=true)  : zaI prog TT 33 [.s s,.i .i64 i] (fun r=>r=.val (zdz 5 ty e3)):=by
 refine en f33 rfl rfl (by simp[f33]) 164 rfl fun t hw hg=>?_;have h0:=hg 0 _ rfl;have h1:=hg 1 _ rfl;clear hg;try simp only[Nd.enc_eq]at *
 have hF:=ai @h0 (ai @h1 (ai @hid (ai @hnl (ai @hil (ai @hil2 (ai @hat (ai @hat2 (ai @hdg (ai @hd (ai @hbg (ai @hrw (ai @hb34 (ai @hqu @hok)))))))))))));apply rS hC
 ·iterate 3 refine oA ?_
  rfl
 apply sQ;apply rS hC
 ·iterate 4 refine oA ?_
  rfl
 apply rS hC
 ·iterate 3 refine oA ?_
  rfl
 refine cF (by simp[hF]<;>rfl) ?_;apply Tri.skip;apply sN;apply sQ;apply rS hC
 ·iterate 5 refine oA ?_
  rfl
 refine cF (by simp[hF]<;>rfl) ?_;apply Tri.skip;apply sN;apply sQ;apply rS hC
 ·iterate 4 refine oA ?_
  iterate 4 refine oB ?_
  refine oA ?_;rfl
 refine cT (by simp[hF]<;>rfl) ?_;apply rS hC
 ·iterate 10 refine oA ?_
  rfl
 apply sQ;apply rS hC
 ·iterate 4 refine oA ?_
  rfl
 refine cT (by simp[hF]<;>rfl) ?_;apply rN hC
 ·iterate 10 refine oA ?_
  rfl
 apply sN;apply sQ;apply rS hC
 ·iterate 2 refine oA ?_
  rfl
 refine cF (by simp[hF]<;>rfl) ?_;apply Tri.skip;apply sN;apply rS hC
 ·iterate 6 refine oA ?_
  rfl
 apply Tri.ret;apply sR;refine zbo (by simp[f33]<;>rfl) (by rfl) ?_;first
  |rfl
  |simp[zdz,zdi,zeQ]
theorem zkT {call:zad}(hC:call.Sound prog TT)(s:List UInt8)(i:Nat)(e:Nat)(hid:∀H,call 41 [.s s,.i .i64 i] H=.val (.i .i64 e) H)(hnl:¬i<e)(b:UInt8)(hil:(i:Int)<s.length)(hil2:i<s.length)(hat:s[i]? = some b)(hat2:∀h,s[i]'h=b)(d:Int)(hdg:∀H,call 57 [.i .u8 b.toNat,.i .i64 10] H=.val (.i .i64 d) H)(hd:¬0≤d)(hbg:∀H,call 56 [.s s,.i .i64 i,.s [34,34,34]] H=.val (.b true) H)(tx:List UInt8)(e2:Int)(ok:Bool)(hrw:∀H,call 59 [.s s,.i .i64 i] H=.val (.tup [.s tx,.i .i64 e2,.b ok]) H)(hok:ok=false)  : zaI prog TT 33 [.s s,.i .i64 i] (fun r=>r=.val (zdi 31)):=by
 refine en f33 rfl rfl (by simp[f33]) 164 rfl fun t hw hg=>?_;have h0:=hg 0 _ rfl;have h1:=hg 1 _ rfl;clear hg;try simp only[Nd.enc_eq]at *
 have hF:=ai @h0 (ai @h1 (ai @hid (ai @hnl (ai @hil (ai @hil2 (ai @hat (ai @hat2 (ai @hdg (ai @hd (ai @hbg (ai @hrw @hok)))))))))));apply rS hC
 ·iterate 3 refine oA ?_
  rfl
 apply sQ;apply rS hC
 ·iterate 4 refine oA ?_
  rfl
 apply rS hC
 ·iterate 3 refine oA ?_
  rfl
 refine cF (by simp[hF]<;>rfl) ?_;apply Tri.skip;apply sN;apply sQ;apply rS hC
 ·iterate 5 refine oA ?_
  rfl
 refine cF (by simp[hF]<;>rfl) ?_;apply Tri.skip;apply sN;apply sQ;apply rS hC
 ·iterate 4 refine oA ?_
  iterate 4 refine oC ?_
  refine oA ?_;rfl
 refine cT (by simp[hF]<;>rfl) ?_;apply rS hC
 ·iterate 10 refine oA ?_
  rfl
 apply sQ;apply rS hC
 ·iterate 4 refine oA ?_
  rfl
 refine cF (by simp[hF]<;>rfl) ?_;apply Tri.skip;apply sN;apply sQ;apply rS hC
 ·iterate 2 refine oA ?_
  rfl
 refine cT (by simp[hF]<;>rfl) ?_;apply rS hC
 ·iterate 4 refine oA ?_
  rfl
 apply Tri.ret;iterate 2 apply sR
 refine zbo (by simp[f33]<;>rfl) (by rfl) ?_;first
  |rfl
  |simp[zdz,zdi,zeQ]
theorem zkR {call:zad}(hC:call.Sound prog TT)(s:List UInt8)(i:Nat)(e:Nat)(hid:∀H,call 41 [.s s,.i .i64 i] H=.val (.i .i64 e) H)(hnl:¬i<e)(b:UInt8)(hil:(i:Int)<s.length)(hil2:i<s.length)(hat:s[i]? = some b)(hat2:∀h,s[i]'h=b)(d:Int)(hdg:∀H,call 57 [.i .u8 b.toNat,.i .i64 10] H=.val (.i .i64 d) H)(hd:¬0≤d)(hbg:∀H,call 56 [.s s,.i .i64 i,.s [34,34,34]] H=.val (.b false) H)(tx:List UInt8)(e2:Int)(ok:Bool)(hrw:∀H,call 59 [.s s,.i .i64 i] H=.val (.tup [.s tx,.i .i64 e2,.b ok]) H)(hb34:((b.toNat:Int)==34)=true)(ty:List UInt8)(e3:Int)(ok2:Bool)(hqu:∀H,call 60 [.s s,.i .i64 i,.i .u8 34] H=.val (.tup [.s ty,.i .i64 e3,.b ok2]) H)(hok:ok2=false)  : zaI prog TT 33 [.s s,.i .i64 i] (fun r=>r=.val (zdi 31)):=by
 refine en f33 rfl rfl (by simp[f33]) 164 rfl fun t hw hg=>?_;have h0:=hg 0 _ rfl;have h1:=hg 1 _ rfl;clear hg;try simp only[Nd.enc_eq]at *
 have hF:=ai @h0 (ai @h1 (ai @hid (ai @hnl (ai @hil (ai @hil2 (ai @hat (ai @hat2 (ai @hdg (ai @hd (ai @hbg (ai @hrw (ai @hb34 (ai @hqu @hok)))))))))))));apply rS hC
 ·iterate 3 refine oA ?_
  rfl
 apply sQ;apply rS hC
 ·iterate 4 refine oA ?_
  rfl
 apply rS hC
 ·iterate 3 refine oA ?_
  rfl
 refine cF (by simp[hF]<;>rfl) ?_;apply Tri.skip;apply sN;apply sQ;apply rS hC
 ·iterate 5 refine oA ?_
  rfl
 refine cF (by simp[hF]<;>rfl) ?_;apply Tri.skip;apply sN;apply sQ;apply rS hC
 ·iterate 4 refine oA ?_
  iterate 4 refine oB ?_
  refine oA ?_;rfl
 refine cT (by simp[hF]<;>rfl) ?_;apply rS hC
 ·iterate 10 refine oA ?_
  rfl
 apply sQ;apply rS hC
 ·iterate 4 refine oA ?_
  rfl
 refine cT (by simp[hF]<;>rfl) ?_;apply rN hC
 ·iterate 10 refine oA ?_
  rfl
 apply sN;apply sQ;apply rS hC
 ·iterate 2 refine oA ?_
  rfl
 refine cT (by simp[hF]<;>rfl) ?_;apply rS hC
 ·iterate 4 refine oA ?_
  rfl
 apply Tri.ret;iterate 2 apply sR
 refine zbo (by simp[f33]<;>rfl) (by rfl) ?_;first
  |rfl
  |simp[zdz,zdi,zeQ]
theorem zkP {call:zad}(hC:call.Sound prog TT)(s:List UInt8)(i:Nat)(e:Nat)(hid:∀H,call 41 [.s s,.i .i64 i] H=.val (.i .i64 e) H)(hnl:¬i<e)(b:UInt8)(hil:(i:Int)<s.length)(hil2:i<s.length)(hat:s[i]? = some b)(hat2:∀h,s[i]'h=b)(d:Int)(hdg:∀H,call 57 [.i .u8 b.toNat,.i .i64 10] H=.val (.i .i64 d) H)(hd:¬0≤d)(hbg:∀H,call 56 [.s s,.i .i64 i,.s [34,34,34]] H=.val (.b false) H)(hb34:((b.toNat:Int)==34)=false)(hb39:((b.toNat:Int)==39)=true)(tx:List UInt8)(e3:Int)(ok2:Bool)(hqu:∀H,call 60 [.s s,.i .i64 i,.i .u8 39] H=.val (.tup [.s tx,.i .i64 e3,.b ok2]) H)(m:Nat)(l:List V)(hcv:∀H,zaN TT 9 95 (.s tx) H=.val (.sl H.length 1 0 m none) (H++[some {ty:=21,cells:=l,kind:=.more}]))(hok:ok2=false)  : zaI prog TT 33 [.s s,.i .i64 i] (fun r=>r=.val (zdi 31)):=by
 refine en f33 rfl rfl (by simp[f33]) 164 rfl fun t hw hg=>?_;have h0:=hg 0 _ rfl;have h1:=hg 1 _ rfl;clear hg;try simp only[Nd.enc_eq]at *
 have hF:=ai @h0 (ai @h1 (ai @hid (ai @hnl (ai @hil (ai @hil2 (ai @hat (ai @hat2 (ai @hdg (ai @hd (ai @hbg (ai @hb34 (ai @hb39 (ai @hqu @hok)))))))))))));apply rS hC
 ·iterate 3 refine oA ?_
  rfl
 apply sQ;apply rS hC
 ·iterate 4 refine oA ?_
  rfl
 apply rS hC
 ·iterate 3 refine oA ?_
  rfl
 refine cF (by simp[hF]<;>rfl) ?_;apply Tri.skip;apply sN;apply sQ;apply rS hC
 ·iterate 5 refine oA ?_
  rfl
 refine cF (by simp[hF]<;>rfl) ?_;apply Tri.skip;apply sN;apply sQ;apply rS hC
 ·iterate 4 refine oA ?_
  iterate 4 refine oB ?_
  refine oA ?_;rfl
 refine cF (by simp[hF]<;>rfl) ?_;apply Tri.skip;apply sN;apply sQ;apply rS hC
 ·iterate 4 refine oA ?_
  rfl
 refine cT (by simp[hF]<;>rfl) ?_;apply rS hC
 ·iterate 10 refine oA ?_
  rfl
 apply rS hC
 ·iterate 3 refine gO (by simp[hF,hcv,-zaN]<;>rfl) ?_
  rfl
 apply sQ;apply rS hC
 ·iterate 3 refine oA ?_
  iterate 3 refine oC ?_
  refine oA ?_;rfl
 refine cT (by simp[hF]<;>rfl) ?_;apply rS hC
 ·iterate 4 refine oA ?_
  rfl
 apply Tri.ret;iterate 2 apply sR
 refine zbo (by simp[f33]<;>rfl) (by rfl) ?_;first
  |rfl
  |simp[zdz,zdi,zeQ]
theorem zgv {call:zad}(hC:call.Sound prog TT)(s:List UInt8)(i:Nat)(e:Nat)(hid:∀H,call 41 [.s s,.i .i64 i] H=.val (.i .i64 e) H)(hnl:¬i<e)(b:UInt8)(hil:(i:Int)<s.length)(hil2:i<s.length)(hat:s[i]? = some b)(hat2:∀h,s[i]'h=b)(d:Int)(hdg:∀H,call 57 [.i .u8 b.toNat,.i .i64 10] H=.val (.i .i64 d) H)(hd:¬0≤d)(hbg:∀H,call 56 [.s s,.i .i64 i,.s [34,34,34]] H=.val (.b false) H)(hb34:((b.toNat:Int)==34)=false)(hb39:((b.toNat:Int)==39)=true)(tx:List UInt8)(e3:Int)(ok2:Bool)(hqu:∀H,call 60 [.s s,.i .i64 i,.i .u8 39] H=.val (.tup [.s tx,.i .i64 e3,.b ok2]) H)(m:Nat)(l:List V)(hcv:∀H,zaN TT 9 95 (.s tx) H=.val (.sl H.length 1 0 m none) (H++[some {ty:=21,cells:=l,kind:=.more}]))(hok:ok2=true)(hm:((m:Int) !=1)=true)  : zaI prog TT 33 [.s s,.i .i64 i] (fun r=>r=.val (zdi 31)):=by
 refine en f33 rfl rfl (by simp[f33]) 164 rfl fun t hw hg=>?_;have h0:=hg 0 _ rfl;have h1:=hg 1 _ rfl;clear hg;try simp only[Nd.enc_eq]at *
 have hF:=ai @h0 (ai @h1 (ai @hid (ai @hnl (ai @hil (ai @hil2 (ai @hat (ai @hat2 (ai @hdg (ai @hd (ai @hbg (ai @hb34 (ai @hb39 (ai @hqu (ai @hok @hm))))))))))))));apply rS hC
 ·iterate 3 refine oA ?_
  rfl
 apply sQ;apply rS hC
 ·iterate 4 refine oA ?_
  rfl
 apply rS hC
 ·iterate 3 refine oA ?_
  rfl
 refine cF (by simp[hF]<;>rfl) ?_;apply Tri.skip;apply sN;apply sQ;apply rS hC
 ·iterate 5 refine oA ?_
  rfl
 refine cF (by simp[hF]<;>rfl) ?_;apply Tri.skip;apply sN;apply sQ;apply rS hC
 ·iterate 4 refine oA ?_
  iterate 4 refine oB ?_
  refine oA ?_;rfl
 refine cF (by simp[hF]<;>rfl) ?_;apply Tri.skip;apply sN;apply sQ;apply rS hC
 ·iterate 4 refine oA ?_
  rfl
 refine cT (by simp[hF]<;>rfl) ?_;apply rS hC
 ·iterate 10 refine oA ?_
  rfl
 apply rS hC
 ·iterate 3 refine gO (by simp[hF,hcv,-zaN]<;>rfl) ?_
  rfl
 apply sQ;apply rS hC
 ·iterate 3 refine oA ?_
  iterate 3 refine oB ?_
  refine oA ?_;rfl
 refine cT (by simp[hF]<;>rfl) ?_;apply rS hC
 ·iterate 4 refine oA ?_
  rfl
 apply Tri.ret;iterate 2 apply sR
 refine zbo (by simp[f33]<;>rfl) (by rfl) ?_;first
  |rfl
  |simp[zdz,zdi,zeQ]
theorem zkQ {call:zad}(hC:call.Sound prog TT)(s:List UInt8)(i:Nat)(e:Nat)(hid:∀H,call 41 [.s s,.i .i64 i] H=.val (.i .i64 e) H)(hnl:¬i<e)(b:UInt8)(hil:(i:Int)<s.length)(hil2:i<s.length)(hat:s[i]? = some b)(hat2:∀h,s[i]'h=b)(d:Int)(hdg:∀H,call 57 [.i .u8 b.toNat,.i .i64 10] H=.val (.i .i64 d) H)(hd:¬0≤d)(hbg:∀H,call 56 [.s s,.i .i64 i,.s [34,34,34]] H=.val (.b false) H)(hb34:((b.toNat:Int)==34)=false)(hb39:((b.toNat:Int)==39)=true)(tx:List UInt8)(e3:Int)(ok2:Bool)(hqu:∀H,call 60 [.s s,.i .i64 i,.i .u8 39] H=.val (.tup [.s tx,.i .i64 e3,.b ok2]) H)(rn:Int)(hcv:∀H,zaN TT 9 95 (.s tx) H=.val (.sl H.length 1 0 1 none) (H++[some {ty:=21,cells:=[.i .i32 rn],kind:=.more}]))(hok:ok2=true)(r2:Int)(hwr:IntKind.i64.wrap rn=r2)(hit:∀H,call 61 [.i .i64 r2] H=.val (.s (Lib.itoa r2)) H)  : zaI prog TT 33 [.s s,.i .i64 i] (fun r=>r=.val (zdz 3 (Lib.itoa r2) e3)):=by
 refine en f33 rfl rfl (by simp[f33]) 164 rfl fun t hw hg=>?_;have h0:=hg 0 _ rfl;have h1:=hg 1 _ rfl;clear hg;try simp only[Nd.enc_eq]at *
 have hF:=ai @h0 (ai @h1 (ai @hid (ai @hnl (ai @hil (ai @hil2 (ai @hat (ai @hat2 (ai @hdg (ai @hd (ai @hbg (ai @hb34 (ai @hb39 (ai @hqu (ai @hok (ai @hwr @hit)))))))))))))));apply rS hC
 ·iterate 3 refine oA ?_
  rfl
 apply sQ;apply rS hC
 ·iterate 4 refine oA ?_
  rfl
 apply rS hC
 ·iterate 3 refine oA ?_
  rfl
 refine cF (by simp[hF]<;>rfl) ?_;apply Tri.skip;apply sN;apply sQ;apply rS hC
 ·iterate 5 refine oA ?_
  rfl
 refine cF (by simp[hF]<;>rfl) ?_;apply Tri.skip;apply sN;apply sQ;apply rS hC
 ·iterate 4 refine oA ?_
  iterate 4 refine oB ?_
  refine oA ?_;rfl
 refine cF (by simp[hF]<;>rfl) ?_;apply Tri.skip;apply sN;apply sQ;apply rS hC
 ·iterate 4 refine oA ?_
  rfl
 refine cT (by simp[hF]<;>rfl) ?_;apply rS hC
 ·iterate 10 refine oA ?_
  rfl
 apply rS hC
 ·iterate 3 refine gO (by simp[hF,hcv,-zaN]<;>rfl) ?_
  rfl
 apply sQ;apply rS hC
 ·iterate 3 refine oA ?_
  iterate 3 refine oB ?_
  refine oA ?_;rfl
 refine cF (by simp[hF]<;>rfl) ?_;apply Tri.skip;apply sN;apply rS hC
 ·iterate 10 refine oA ?_
  rfl
 apply Tri.ret;apply sR;refine zbo (by simp[f33]<;>rfl) (by rfl) ?_;first
  |rfl
  |simp[zdz,zdi,zeQ]
theorem zkV {call:zad}(hC:call.Sound prog TT)(s:List UInt8)(i:Nat)(e:Nat)(hid:∀H,call 41 [.s s,.i .i64 i] H=.val (.i .i64 e) H)(hnl:¬i<e)(b:UInt8)(hil:(i:Int)<s.length)(hil2:i<s.length)(hat:s[i]? = some b)(hat2:∀h,s[i]'h=b)(d:Int)(hdg:∀H,call 57 [.i .u8 b.toNat,.i .i64 10] H=.val (.i .i64 d) H)(hd:¬0≤d)(hbg:∀H,call 56 [.s s,.i .i64 i,.s [34,34,34]] H=.val (.b false) H)(hb34:((b.toNat:Int)==34)=false)(hb39:((b.toNat:Int)==39)=false)(hi:i<100000000)(hsy:∀H,call 24 [] H=.val (.isl 1 (zex syL)) H)(hbt:∀t:List UInt8,t.length<1000→∀H,call 56 [.s s,.i .i64 i,.s t] H=.val (.b (zdh s i t)) H)(hlt:∀b:UInt8,∀H,call 62 [.i .u8 b.toNat] H=.val (.b (zgi b.toNat)) H)(hatc:∀(j:Nat) H,call 64 [.s s,.i .i64 j] H=.val (.i .u8 (atR s j)) H)(hwc:∀(j:Nat) H,call 63 [.i .u8 (atR s j)] H=.val (.b (zcy (atR s j))) H)(sy:List UInt8)(hsl:zfK s i syL []=sy)(hw5:IntKind.i64.wrap ((i:Int)+sy.length)=(i:Int)+sy.length)(hse:(sy==[])=true)  : zaI prog TT 33 [.s s,.i .i64 i] (fun r=>r=.val (zdi 30)):=by
 refine en f33 rfl rfl (by simp[f33]) 164 rfl fun t hw hg=>?_;have h0:=hg 0 _ rfl;have h1:=hg 1 _ rfl;clear hg;try simp only[Nd.enc_eq]at *
 have hF:=ai @h0 (ai @h1 (ai @hid (ai @hnl (ai @hil (ai @hil2 (ai @hat (ai @hat2 (ai @hdg (ai @hd (ai @hbg (ai @hb34 (ai @hb39 (ai @hw5 @hse)))))))))))));apply rS hC
 ·iterate 3 refine oA ?_
  rfl
 apply sQ;apply rS hC
 ·iterate 4 refine oA ?_
  rfl
 apply rS hC
 ·iterate 3 refine oA ?_
  rfl
 refine cF (by simp[hF]<;>rfl) ?_;apply Tri.skip;apply sN;apply sQ;apply rS hC
 ·iterate 5 refine oA ?_
  rfl
 refine cF (by simp[hF]<;>rfl) ?_;apply Tri.skip;apply sN;apply sQ;apply rS hC
 ·iterate 4 refine oA ?_
  iterate 4 refine oB ?_
  refine oA ?_;rfl
 refine cF (by simp[hF]<;>rfl) ?_;apply Tri.skip;apply sN;apply sQ;apply rS hC
 ·iterate 4 refine oA ?_
  rfl
 refine cF (by simp[hF]<;>rfl) ?_;apply Tri.skip;apply sN;apply rS hC
 ·refine oA ?_;rfl
 apply sQ;apply rS hC
 ·refine oA ?_;rfl
 apply bK;refine Tri.loop ?_;refine zmt hC s i hi syL hsy hbt hlt hatc hwc _ syL [] [] _ rfl (by decide) (by decide) (by simp[hw]) (by simp[h0]) (by simp[h1]) (by simp) (by simp) (by simp) ?exit;case exit=>
  clear hw;intro t2 hw q0 q1 q4 q15;rw[hsl]at q15;refine zaw ?_;apply sN;apply sQ;apply rS hC
  ·iterate 2 refine oA ?_
   rfl
  refine cT (by simp[hF]<;>rfl) ?_;apply rS hC
  ·iterate 4 refine oA ?_
   rfl
  apply Tri.ret;apply sR;refine zbo (by simp[f33,q4,q0,q1,q15,hw5]<;>rfl) (by rfl) ?_;first
   |rfl
   |simp[zdz,zdi,zeQ]
theorem zkW {call:zad}(hC:call.Sound prog TT)(s:List UInt8)(i:Nat)(e:Nat)(hid:∀H,call 41 [.s s,.i .i64 i] H=.val (.i .i64 e) H)(hnl:¬i<e)(b:UInt8)(hil:(i:Int)<s.length)(hil2:i<s.length)(hat:s[i]? = some b)(hat2:∀h,s[i]'h=b)(d:Int)(hdg:∀H,call 57 [.i .u8 b.toNat,.i .i64 10] H=.val (.i .i64 d) H)(hd:¬0≤d)(hbg:∀H,call 56 [.s s,.i .i64 i,.s [34,34,34]] H=.val (.b false) H)(hb34:((b.toNat:Int)==34)=false)(hb39:((b.toNat:Int)==39)=false)(hi:i<100000000)(hsy:∀H,call 24 [] H=.val (.isl 1 (zex syL)) H)(hbt:∀t:List UInt8,t.length<1000→∀H,call 56 [.s s,.i .i64 i,.s t] H=.val (.b (zdh s i t)) H)(hlt:∀b:UInt8,∀H,call 62 [.i .u8 b.toNat] H=.val (.b (zgi b.toNat)) H)(hatc:∀(j:Nat) H,call 64 [.s s,.i .i64 j] H=.val (.i .u8 (atR s j)) H)(hwc:∀(j:Nat) H,call 63 [.i .u8 (atR s j)] H=.val (.b (zcy (atR s j))) H)(sy:List UInt8)(hsl:zfK s i syL []=sy)(hw5:IntKind.i64.wrap ((i:Int)+sy.length)=(i:Int)+sy.length)(hse:(sy==[])=false)(hs0:¬sy=[])  : zaI prog TT 33 [.s s,.i .i64 i] (fun r=>r=.val (zdz 6 sy ((i:Int)+sy.length))):=by
 refine en f33 rfl rfl (by simp[f33]) 164 rfl fun t hw hg=>?_;have h0:=hg 0 _ rfl;have h1:=hg 1 _ rfl;clear hg;try simp only[Nd.enc_eq]at *
 have hF:=ai @h0 (ai @h1 (ai @hid (ai @hnl (ai @hil (ai @hil2 (ai @hat (ai @hat2 (ai @hdg (ai @hd (ai @hbg (ai @hb34 (ai @hb39 (ai @hw5 (ai @hse @hs0))))))))))))));apply rS hC
 ·iterate 3 refine oA ?_
  rfl
 apply sQ;apply rS hC
 ·iterate 4 refine oA ?_
  rfl
 apply rS hC
 ·iterate 3 refine oA ?_
  rfl
 refine cF (by simp[hF]<;>rfl) ?_;apply Tri.skip;apply sN;apply sQ;apply rS hC
 ·iterate 5 refine oA ?_
  rfl
 refine cF (by simp[hF]<;>rfl) ?_;apply Tri.skip;apply sN;apply sQ;apply rS hC
 ·iterate 4 refine oA ?_
  iterate 4 refine oB ?_
  refine oA ?_;rfl
 refine cF (by simp[hF]<;>rfl) ?_;apply Tri.skip;apply sN;apply sQ;apply rS hC
 ·iterate 4 refine oA ?_
  rfl
 refine cF (by simp[hF]<;>rfl) ?_;apply Tri.skip;apply sN;apply rS hC
 ·refine oA ?_;rfl
 apply sQ;apply rS hC
 ·refine oA ?_;rfl
 apply bK;refine Tri.loop ?_;refine zmt hC s i hi syL hsy hbt hlt hatc hwc _ syL [] [] _ rfl (by decide) (by decide) (by simp[hw]) (by simp[h0]) (by simp[h1]) (by simp) (by simp) (by simp) ?exit;case exit=>
  clear hw;intro t2 hw q0 q1 q4 q15;rw[hsl]at q15;refine zaw ?_;apply sN;apply sQ;apply rS hC
  ·iterate 2 refine oA ?_
   rfl
  refine cF (by simp[hF]<;>rfl) ?_;apply Tri.skip;apply sN;apply rS hC
  ·iterate 9 refine oA ?_
   rfl
  apply Tri.ret;refine zbo (by simp[f33,q4,q0,q1,q15,hw5]<;>rfl) (by rfl) ?_;first
   |rfl
   |simp[zdz,zdi,zeQ]
theorem zrd (base:Int)(L:List UInt8)(h:(zaC base L [] false).2≠[]):0<(zaC base L [] false).1:=by
 cases L with
 |nil=>exact absurd rfl h
 |cons b L=>
  simp only[zaC]at h ⊢;split
  ·omega
  ·rename_i h1;rw[if_neg h1]at h;split
   ·rename_i h2;exact absurd rfl h2.2.1
   ·rename_i h2;rw[if_neg h2]at h;exact absurd rfl h
theorem zsp {s:List UInt8}{k:Nat}(h:k≤s.length):k≤(zdF s k).1∧(zdF s k).1≤s.length:=by
 unfold zdF;split
 ·rename_i hc;have hl:k<s.length:=zfN (by
   intro h0;rw[h0]at hc;exact absurd hc (by decide))
  simp only;omega
 ·exact⟨Nat.le_refl _,h⟩
theorem zpi {s t t':List UInt8}{e e':Nat}{k k':Int}(hx:ze4 s e t k=some (e',t',k'))(he:e≤s.length):e≤e'∧e'≤s.length:=by
 unfold ze4 at hx;split at hx
 ·rename_i hc;split at hx
  ·cases hx
  ·have hl:e<s.length:=zfN (by
    intro h0;rw[h0]at hc;exact absurd hc (by decide))
   have h1:=zsp (s:=s) (k:=e+1) (by omega);have h2:=zdn 10 (s.drop (zdF s (e+1)).1) [] false;rw[length_drop]at h2;simp only[Option.some.injEq,Prod.mk.injEq]at hx;omega
 ·simp only[Option.some.injEq,Prod.mk.injEq]at hx;omega
theorem zsb {s d t':List UInt8}{e e':Nat}{k':Int}(h:zcF s e d=some (e',t',k'))(he:e≤s.length):e≤e'∧e'≤s.length:=by
 unfold zcF zdu at h;split at h
 ·rename_i hc;simp only[Bool.and_eq_true,beq_iff_eq,decide_eq_true_eq]at hc;have hl:e<s.length:=zfN (by rw[hc.1];decide);have h2:=zdn 10 (s.drop (e+1)) [] false;rw[length_drop]at h2;have:=zpi h (by omega);omega
 ·exact zpi h he
theorem zg7 {s d text:List UInt8}{base e:Nat}{k:Int}{v:V}(h:zbw s d base e text k v):v=zkM∨(d≠[]∧∃(k:Int)(t:List UInt8),(k=3∨k=4)∧v=okV k t e):=by
 rcases h with⟨_,h⟩|⟨h0,h⟩
 ·exact .inl h
 ·have hd:d≠[]:=by
   intro hd;subst hd;exact absurd h0 (by simp)
  rcases h with⟨_,rfl⟩|⟨_,⟨o,_,_,_,rfl⟩|⟨_,rfl⟩⟩
  ·exact .inr ⟨hd,4,_,.inr rfl,rfl⟩
  ·exact .inr ⟨hd,3,_,.inl rfl,rfl⟩
  ·exact .inl rfl
theorem zof {s:List UInt8}{i:Nat}{v:V}(h:zn7 s i v)(hi:i≤s.length):v=zkM∨∃(k:Int)(t:List UInt8)(e:Nat),(k=3∨k=4)∧v=okV k t e∧i<e∧e≤s.length:=by
 unfold zn7 at h;split at h
 ·rename_i hx;have hl:=zbB hx;simp only[length_cons,length_nil]at hl;have h2:=zdn 16 (s.drop (i+2)) [] false;rw[length_drop]at h2;rcases zg7 h with h|⟨_,k,t,hk,hv⟩
  ·exact .inl h
  ·exact .inr ⟨k,t,_,hk,hv,by omega,by omega⟩
 ·split at h
  ·rename_i hx;have hl:=zbB hx;simp only[length_cons,length_nil]at hl;have h2:=zdn 2 (s.drop (i+2)) [] false;rw[length_drop]at h2;rcases zg7 h with h|⟨_,k,t,hk,hv⟩
   ·exact .inl h
   ·exact .inr ⟨k,t,_,hk,hv,by omega,by omega⟩
  ·rcases h with⟨_,h⟩|⟨e',t',k',hr,h⟩
   ·exact .inl h
   ·have h2:=zdn 10 (s.drop i) [] false;rw[length_drop]at h2;rcases zg7 h with h|⟨hd,k,t,hk,hv⟩
    ·exact .inl h
    ·have h3:=zsb hr (by omega);have h4:=zrd _ _ hd;exact .inr ⟨k,t,_,hk,hv,by omega,by omega⟩
theorem zmo {s:List UInt8}{i:Nat}(h:i≤s.length):i≤idR s i∧idR s i≤s.length:=by
 unfold idR;split
 ·exact⟨Nat.le_refl _,h⟩
 ·have h1:=zhl (s.drop i);have h2:=zpY (s.drop (i+zcQ (s.drop i)));simp only[length_drop]at h1 h2;omega
theorem zlz {s:List UInt8} {esc:Nat→Option (List UInt8×Nat)} {mk:Int} (hej:∀(i:Nat) (tx:List UInt8) (j:Nat),i<s.length→esc i=some (tx,j)→i<j∧j≤s.length∧tx.length≤4) :
    ∀(n i:Nat)(out t:List UInt8)(e:Nat),out.length≤4*i→zoc s esc mk n i out=some (t,e)→i<e∧e≤s.length∧t.length≤4*s.length
  |0,i,out,t,e,hl,h=>by cases h
  | n + 1, i, out,t,e,hl,h=>by
    simp only[zoc]at h
    split at h
    · cases h
    · rename_i hi
      split at h
      · cases h
      · split at h
        · cases h
          omega
        · split at h
          · split at h
            · rename_i p hp
              obtain⟨tx,j⟩:=p
              obtain⟨h1,h2,h3⟩:=hej i tx j (by omega) hp
              have:=zlz hej n j (out++tx) t e (by simp;omega) h
              omega
            · cases h
          · have:=zlz hej n (i+1) _ t e (by simp;omega) h
            omega
def zh5 (s:List UInt8)(i:Nat):List UInt8×Nat×Bool:=match zhF s (s.length+1) (i+3)with
 |none=>([],0,false)
 |some k=>(zfQ s (i+3) k,k+3,Lib.validD (zfQ s (i+3) k))
theorem zuk (s:List UInt8)(i:Nat):zr8 s i=.tup [.s (zh5 s i).1,.i .i64 ((zh5 s i).2.1:Nat),.b (zh5 s i).2.2]:=by
 unfold zr8 zh5;cases zhF s (s.length+1) (i+3)<;>rfl
theorem zuj {s:List UInt8}{i:Nat}(h:(zh5 s i).2.2=true):i<(zh5 s i).2.1∧(zh5 s i).2.1≤s.length:=by
 unfold zh5 at h ⊢;cases hr:zhF s (s.length+1) (i+3)with
 |none=>rw[hr]at h;cases h
 |some k=>
  have:=zje s _ _ _ hr;simp only;omega
theorem zlA {s:List UInt8}{mk:Int}{i:Nat}:((zei (zes s mk i)).2.2=true→i<(zei (zes s mk i)).2.1∧(zei (zes s mk i)).2.1≤s.length)∧(zei (zes s mk i)).1.length≤4*s.length:=by
 cases h:zes s mk i with
 |none=>simp[zei]
 |some p=>
  obtain⟨t,e⟩:=p;have:=zlz (fun i tx j h1 h2=>zpa h1 h2) _ _ _ _ _ (by simp) h;simp only[zei];omega
def zmP (p:List UInt8×Nat×Bool):V:=if p.2.2=true then zdz 5 p.1 p.2.1 else zdi 31
def zn9 (p:List UInt8×Nat×Bool):V:=if p.2.2=true then(match zc3 p.1 with
 | [.i .i32 r]=>zdz 3 (Lib.itoa (IntKind.i64.wrap r)) p.2.1
 |_=>zdi 31)else zdi 31
def zvo (s:List UInt8)(i:Nat):V:=if(zfK s i syL []==[])=true then zdi 30 else zdz 6 (zfK s i syL []) ((i:Int)+(zfK s i syL []).length)
def zf6 (s:List UInt8)(i:Nat)(v:V):Prop:=
 if i<idR s i then v=zdz (if(kwL.any fun x=>x==(s.take (idR s i)).drop i)=true then 2 else 1) ((s.take (idR s i)).drop i) (idR s i)
 else if 0≤zbA (atR s i) 10 then zn7 s i v
 else if zdh s i [34,34,34]=true then v=zmP (zh5 s i)
 else if((atR s i==34):Bool)=true then v=zmP (zei (zes s 34 i))
 else if((atR s i==39):Bool)=true then v=zn9 (zei (zes s 39 i))
 else v=zvo s i
theorem zjx {s:List UInt8}{i:Nat}:∀(L:List (List UInt8))(best:List UInt8),(best=[]∨zdh s i best=true)→zfK s i L best=[]∨zdh s i (zfK s i L best)=true
 | [],best,h=>h
 |x::L,best,h=>by
  simp only[zfK];refine zjx L _ ?_;split
  ·rename_i hok;simp only[okS,Bool.and_eq_true]at hok;exact .inr hok.2.1
  ·exact h
theorem ztf {s:List UInt8}{i:Nat}{v:V}(h:zf6 s i v)(hi:i<s.length):(∃c:Int,c≠0∧v=zdi c)∨∃(k:Int)(t:List UInt8)(e:Nat),v=zdz k t e∧i<e∧e≤s.length:=by
 unfold zf6 at h;split at h
 ·rename_i h1;have:=zmo (s:=s) (i:=i) (by omega);exact .inr ⟨_,_,_,h,h1,this.2⟩
 ·split at h
  ·rcases zof h (by omega)with h|⟨k,t,e,hk,hv,h1,h2⟩
   ·exact .inl ⟨33,by decide,h⟩
   ·exact .inr ⟨k,t,e,hv,h1,h2⟩
  ·split at h
   ·unfold zmP at h;split at h
    ·rename_i hp;have:=zuj hp;exact .inr ⟨_,_,_,h,this.1,this.2⟩
    ·exact .inl ⟨31,by decide,h⟩
   ·split at h
    ·unfold zmP at h;split at h
     ·rename_i hp;have:=zlA.1 hp;exact .inr ⟨_,_,_,h,this.1,this.2⟩
     ·exact .inl ⟨31,by decide,h⟩
    ·split at h
     ·unfold zn9 at h;split at h
      ·rename_i hp;have:=zlA.1 hp;split at h
       ·exact .inr ⟨_,_,_,h,this.1,this.2⟩
       ·exact .inl ⟨31,by decide,h⟩
      ·exact .inl ⟨31,by decide,h⟩
     ·unfold zvo at h;split at h
      ·exact .inl ⟨30,by decide,h⟩
      ·rename_i hne;rcases zjx (s:=s) (i:=i) syL [] (.inl rfl)with h0|h0
       ·exact absurd (by rw[h0];rfl) hne
       ·have h1:=zbB h0;have h2:0<(zfK s i syL []).length:=by
         rcases Nat.eq_zero_or_pos (zfK s i syL []).length with h|h
         ·exact absurd (by rw[length_eq_zero_iff.1 h];rfl) hne
         ·exact h
        refine .inr ⟨6,_,i+(zfK s i syL []).length,h,by omega,h1⟩
theorem zn5 (n:Int):-9223372036854775808≤IntKind.i64.wrap n∧IntKind.i64.wrap n≤9223372036854775807:=by
 have e:(2:Int)^IntKind.i64.bits=18446744073709551616:=rfl;have e2:(2:Int)^(IntKind.i64.bits-1)=9223372036854775808:=rfl;simp only[IntKind.wrap,e,e2,IntKind.signed,Bool.true_and,decide_eq_true_eq];split<;>omega
theorem cv9 {tx:List UInt8}(h:tx.length<100000000)(H:zaa):zaN TT 9 95 (.s tx) H=.val (.sl H.length 1 0 (zc3 tx).length none) (H++[some {ty:=21,cells:=zc3 tx,kind:=.more}]):=by
 have e1:TT.und 95=some (.slice 21):=rfl;have e2:TT.und 9=some .string:=rfl;have e3:TT.und 21=some (.int .i32):=rfl;simp only[zaN,e1,e2,e3];rw[if_pos ⟨rfl,by omega⟩,za0]
theorem zfC (k:Int)(t:List UInt8)(e:Int):nl (zdz k t e)=true:=by simp[zdz,zeQ,nl,nlL]
theorem zfB (c:Int):nl (zdi c)=true:=by simp[zdi,zeQ,nl,nlL]
theorem zp0 (l:List UInt8):∀v∈zc3 l,∃n,v=.i .i32 n:=by
 intro v hv;unfold zc3 at hv;obtain⟨x,hx,rfl⟩:=mem_map.1 hv;obtain⟨n,rfl⟩:=zdE ⟨l.toArray⟩ l.length 0 #[] (by simp) x hx;exact⟨n,rfl⟩
theorem zwy:∃g,zap prog TT 33 g∧∀(s:List UInt8)(i:Nat),s.length<20000000→i<s.length→∃v,zf6 s i v∧∀H,g [.s s,.i .i64 i] H=.val v H:=by
 obtain⟨g1,k1,s1⟩:=zwu;obtain⟨g2,k2,s2⟩:=zww;obtain⟨g3,k3,s3⟩:=zwv;obtain⟨g4,k4,s4⟩:=zkD;obtain⟨g5,k5,s5⟩:=zwz;obtain⟨g6,k6,s6⟩:=zqp;obtain⟨g7,k7,s7⟩:=zwA;obtain⟨g8,k8,s8⟩:=zwB;obtain⟨g9,k9,s9⟩:=zwD;obtain⟨g10,k10,s10⟩:=zs0;obtain⟨g11,k11,s11⟩:=zkC;obtain⟨g12,k12,s12⟩:=zqo;obtain⟨g,hg,hs⟩:=zcS zah zat 33 (fun vs=>∃(s:List UInt8)(i:Nat),s.length<20000000∧i<s.length∧vs=[.s s,.i .i64 i]) (fun vs r=>∃(s:List UInt8)(i:Nat)(v:V),vs=[.s s,.i .i64 i]∧r=.val v∧nl v=true∧zf6 s i v) (by
  rintro vs ⟨s,i,hl,hi,rfl⟩;refine⟨by simp[nlL,nl],by rintro r ⟨_,_,v,_,rfl,h,_⟩;exact h,?_⟩;have hC:=ws (ws (ws (ws (ws (ws (ws (ws (ws (ws (ws (ws (ws n0 k1) k2) k3) k4) k5) k6) k7) k8) k9) k10) k11) k12) zv6;generalize hc:(((((((((((zad.none.with 41 g1).with 22 g2).with 42 g3).with 57 g4).with 58 g5).with 56 g6).with 59 g7).with 60 g8).with 24 g9).with 62 g10).with 64 g11).with 63 g12=cc at hC;generalize hd:cc.with 61 zev=call at hC;have c13:∀vs H,call 61 (vs) H=zev vs H:=fun vs H=>by rw[←hd];simp[zad.with]
  have c1:∀vs H,call 41 (vs) H=g1 vs H:=fun vs H=>by rw[←hd,←hc];simp[zad.with]
  have c2:∀vs H,call 22 (vs) H=g2 vs H:=fun vs H=>by rw[←hd,←hc];simp[zad.with]
  have c3:∀vs H,call 42 (vs) H=g3 vs H:=fun vs H=>by rw[←hd,←hc];simp[zad.with]
  have c4:∀vs H,call 57 (vs) H=g4 vs H:=fun vs H=>by rw[←hd,←hc];simp[zad.with]
  have c5:∀vs H,call 58 (vs) H=g5 vs H:=fun vs H=>by rw[←hd,←hc];simp[zad.with]
  have c6:∀vs H,call 56 (vs) H=g6 vs H:=fun vs H=>by rw[←hd,←hc];simp[zad.with]
  have c7:∀vs H,call 59 (vs) H=g7 vs H:=fun vs H=>by rw[←hd,←hc];simp[zad.with]
  have c8:∀vs H,call 60 (vs) H=g8 vs H:=fun vs H=>by rw[←hd,←hc];simp[zad.with]
  have c9:∀vs H,call 24 (vs) H=g9 vs H:=fun vs H=>by rw[←hd,←hc];simp[zad.with]
  have c10:∀vs H,call 62 (vs) H=g10 vs H:=fun vs H=>by rw[←hd,←hc];simp[zad.with]
  have c11:∀vs H,call 64 (vs) H=g11 vs H:=fun vs H=>by rw[←hd,←hc];simp[zad.with]
  have c12:∀vs H,call 63 (vs) H=g12 vs H:=fun vs H=>by rw[←hd,←hc];simp[zad.with]
  clear hc hd;have fin:∀{v:V},zf6 s i v→nl v=true→zaI prog TT 33 [.s s,.i .i64 i] (fun r=>r=.val v)→zaI prog TT 33 [.s s,.i .i64 i] (fun r=>∃(s':List UInt8)(i':Nat)(v:V),[V.s s,.i .i64 i]=[.s s',.i .i64 i']∧r=.val v∧nl v=true∧zf6 s' i' v):=fun h1 h2 h3=>h3.mono (by
   rintro r rfl;exact⟨s,i,_,rfl,rfl,h2,h1⟩)
  have hid:∀H,call 41 [.s s,.i .i64 i] H=.val (.i .i64 (idR s i)) H:=fun H=>(c1 _ H).trans (s1 s i (by omega) (by omega) H);have hio:=zmo (s:=s) (i:=i) (by omega);obtain⟨b,hat⟩:∃b,s[i]? = some b:=⟨_,List.getElem?_eq_getElem hi⟩;have hat2:∀h,s[i]'h=b:=fun h=>Option.some.inj ((List.getElem?_eq_getElem h).symm.trans hat);have hab:=zom hat
  have hil:(i:Int)<s.length:=by omega
  have hbr:∀t:List UInt8,t.length<1000→∀H,call 56 [.s s,.i .i64 i,.s t] H=.val (.b (zdh s i t)) H:=fun t ht H=>(c6 _ H).trans (s6 s i t (by omega) (by omega) H);by_cases hlt:i<idR s i
  ·have hh:∀H,call 42 [.isl 1 (zex kwL),.s ((s.take (idR s i)).drop i)] H=.val (.b (kwL.any fun x=>x==(s.take (idR s i)).drop i)) H:=fun H=>(c3 _ H).trans (s3 _ _ zt2 H);have hkw:∀H,call 22 [] H=.val (.isl 1 (zex kwL)) H:=fun H=>(c2 _ H).trans (s2 H);cases hq:kwL.any fun x=>x==(s.take (idR s i)).drop i with
   |true=>
    rw[hq]at hh;exact fin (by unfold zf6;rw[if_pos hlt,if_pos hq]) (zfC _ _ _) (zm6 hC s i _ hid hlt (by omega) hio.2 (by omega) (by omega) (by omega) hkw hh)
   |false=>
    rw[hq]at hh;exact fin (by unfold zf6;rw[if_pos hlt,if_neg (by rw[hq];simp)]) (zfC _ _ _) (zm5 hC s i _ hid hlt (by omega) hio.2 (by omega) (by omega) (by omega) hkw hh)
  ·have hdg:∀H,call 57 [.i .u8 b.toNat,.i .i64 10] H=.val (.i .i64 (zbA b.toNat 10)) H:=fun H=>(c4 _ H).trans (s4 _ 10 (by omega) (zn3 b) (by simp) H);by_cases hdp:0≤zbA (b.toNat:Int) 10
   ·obtain⟨v,hv,hn⟩:=s5 s i (by omega) (by omega);have hO:zf6 s i v:=by unfold zf6;rw[if_neg hlt,hab,if_pos hdp];exact hv
    rcases zof hv (by omega)with rfl|⟨k,t,e,_,rfl,_,_⟩
    ·exact fin hO (by simp[zkM,zeQ,nl,nlL]) (zhI hC s i _ hid hlt b hil hi hat hat2 _ hdg hdp 0 [] 0 33 (fun H=>(c5 _ H).trans (hn H)))
    ·exact fin hO (by simp[okV,zeQ,nl,nlL]) (zhI hC s i _ hid hlt b hil hi hat hat2 _ hdg hdp k t e 0 (fun H=>(c5 _ H).trans (hn H)))
   ·have hrw:∀H,call 59 [.s s,.i .i64 i] H=.val (.tup [.s (zh5 s i).1,.i .i64 ((zh5 s i).2.1:Nat),.b (zh5 s i).2.2]) H:=fun H=>(c7 _ H).trans ((s7 s i hl hi H).trans (by rw[zuk]));have hqu:∀mk:Int,∀H,call 60 [.s s,.i .i64 i,.i .u8 mk] H=.val (.tup [.s (zei (zes s mk i)).1,.i .i64 ((zei (zes s mk i)).2.1:Nat),.b (zei (zes s mk i)).2.2]) H:=fun mk H=>(c8 _ H).trans ((s8 s i mk hl hi H).trans (by rw[zpR]));have hb3:=hbr [34,34,34] (by simp);cases hb:zdh s i [34,34,34]with
    |true=>
     rw[hb]at hb3;have hO:zf6 s i (zmP (zh5 s i)):=by unfold zf6;rw[if_neg hlt,hab,if_neg hdp,if_pos hb]
     cases hok:(zh5 s i).2.2 with
     |true=>
      have e:zmP (zh5 s i)=zdz 5 (zh5 s i).1 (zh5 s i).2.1:=if_pos hok;rw[e]at hO;exact fin hO (zfC _ _ _) (zkU hC s i _ hid hlt b hil hi hat hat2 _ hdg hdp hb3 _ _ _ hrw hok)
     |false=>
      have e:zmP (zh5 s i)=zdi 31:=if_neg (by rw[hok];simp);rw[e]at hO;exact fin hO (zfB _) (zkT hC s i _ hid hlt b hil hi hat hat2 _ hdg hdp hb3 _ _ _ hrw hok)
    |false=>
     rw[hb]at hb3;cases h34:((b.toNat:Int)==34)with
     |true=>
      have hO:zf6 s i (zmP (zei (zes s 34 i))):=by unfold zf6;rw[if_neg hlt,hab,if_neg hdp,if_neg (by rw[hb];simp),if_pos h34]
      cases hok:(zei (zes s 34 i)).2.2 with
      |true=>
       have e:zmP (zei (zes s 34 i))=zdz 5 (zei (zes s 34 i)).1 (zei (zes s 34 i)).2.1:=if_pos hok;rw[e]at hO;exact fin hO (zfC _ _ _) (zkS hC s i _ hid hlt b hil hi hat hat2 _ hdg hdp hb3 _ _ _ hrw h34 _ _ _ (hqu 34) hok)
      |false=>
       have e:zmP (zei (zes s 34 i))=zdi 31:=if_neg (by rw[hok];simp);rw[e]at hO;exact fin hO (zfB _) (zkR hC s i _ hid hlt b hil hi hat hat2 _ hdg hdp hb3 _ _ _ hrw h34 _ _ _ (hqu 34) hok)
     |false=>
      cases h39:((b.toNat:Int)==39)with
      |true=>
       have hO:zf6 s i (zn9 (zei (zes s 39 i))):=by unfold zf6;rw[if_neg hlt,hab,if_neg hdp,if_neg (by rw[hb];simp),if_neg (by rw[h34];simp),if_pos h39]
       have hlen:(zei (zes s 39 i)).1.length<100000000:=by have:=(zlA (s:=s) (mk:=39) (i:=i)).2;omega
       have hcv:=cv9 hlen;have hri:=zp0 (zei (zes s 39 i)).1;cases hok:(zei (zes s 39 i)).2.2 with
       |false=>
        have e:zn9 (zei (zes s 39 i))=zdi 31:=if_neg (by rw[hok];simp);rw[e]at hO;exact fin hO (zfB _) (zkP hC s i _ hid hlt b hil hi hat hat2 _ hdg hdp hb3 h34 h39 _ _ _ (hqu 39) _ _ hcv hok)
       |true=>
        generalize hR:zc3 (zei (zes s 39 i)).1=R at hcv hri;match R,hcv,hri,hR with
        | [],hcv,hri,hR=>
         have e:zn9 (zei (zes s 39 i))=zdi 31:=by unfold zn9;rw[if_pos hok,hR];first|done|rfl
         rw[e]at hO;exact fin hO (zfB _) (zgv hC s i _ hid hlt b hil hi hat hat2 _ hdg hdp hb3 h34 h39 _ _ _ (hqu 39) _ _ hcv hok (by rfl))
        | [x],hcv,hri,hR=>
         obtain⟨n,rfl⟩:=hri x (by simp);have e:zn9 (zei (zes s 39 i))=zdz 3 (Lib.itoa (IntKind.i64.wrap n)) (zei (zes s 39 i)).2.1:=by unfold zn9;rw[if_pos hok,hR]
         rw[e]at hO;have hwr:=zn5 n;exact fin hO (zfC _ _ _) (zkQ hC s i _ hid hlt b hil hi hat hat2 _ hdg hdp hb3 h34 h39 _ _ _ (hqu 39) _ hcv hok _ rfl (fun H=>(c13 _ H).trans (if_pos hwr)))
        |x::y::r,hcv,hri,hR=>
         obtain⟨n,rfl⟩:=hri x (by simp);have e:zn9 (zei (zes s 39 i))=zdi 31:=by unfold zn9;rw[if_pos hok,hR];first|done|rfl
         rw[e]at hO;exact fin hO (zfB _) (zgv hC s i _ hid hlt b hil hi hat hat2 _ hdg hdp hb3 h34 h39 _ _ _ (hqu 39) _ _ hcv hok (by simp;omega))
      |false=>
       have hO:zf6 s i (zvo s i):=by unfold zf6;rw[if_neg hlt,hab,if_neg hdp,if_neg (by rw[hb];simp),if_neg (by rw[h34];simp),if_neg (by rw[h39];simp)]
       have hsy:∀H,call 24 [] H=.val (.isl 1 (zex syL)) H:=fun H=>(c9 _ H).trans (s9 H);have hlc:∀b:UInt8,∀H,call 62 [.i .u8 b.toNat] H=.val (.b (zgi b.toNat)) H:=fun b H=>(c10 _ H).trans (s10 _ (by omega) (zn3 b) H);have hac:∀(j:Nat) H,call 64 [.s s,.i .i64 j] H=.val (.i .u8 (atR s j)) H:=fun j H=>(c11 _ H).trans (s11 s j H);have hwc:∀(j:Nat) H,call 63 [.i .u8 (atR s j)] H=.val (.b (zcy (atR s j))) H:=fun j H=>(c12 _ H).trans (s12 _ (zb1 s j).1 (zb1 s j).2 H);have hlen:(zfK s i syL []).length≤s.length:=by
        rcases zjx (s:=s) (i:=i) syL [] (.inl rfl)with h0|h0
        ·rw[h0];simp
        ·have:=zbB h0;omega
       have hw5:IntKind.i64.wrap ((i:Int)+(zfK s i syL []).length)=(i:Int)+(zfK s i syL []).length:=zak (by omega) (by omega);cases hse:(zfK s i syL []==[])with
       |true=>
        have e:zvo s i=zdi 30:=if_pos hse;rw[e]at hO;exact fin hO (zfB _) (zkV hC s i _ hid hlt b hil hi hat hat2 _ hdg hdp hb3 h34 h39 (by omega) hsy hbr hlc hac hwc _ rfl hw5 hse)
       |false=>
        have e:zvo s i=zdz 6 (zfK s i syL []) ((i:Int)+(zfK s i syL []).length):=if_neg (by rw[hse];simp);rw[e]at hO;exact fin hO (zfC _ _ _) (zkW hC s i _ hid hlt b hil hi hat hat2 _ hdg hdp hb3 h34 h39 (by omega) hsy hbr hlc hac hwc _ rfl hw5 hse (by simpa using hse)))
 refine⟨g,hg,fun s i h1 h2=>?_⟩;obtain⟨r,⟨s',i',v,e,rfl,_,hv⟩,hr⟩:=hs _ ⟨s,i,h1,h2,rfl⟩;simp only[List.cons.injEq,V.s.injEq,V.i.injEq,true_and,and_true]at e;obtain⟨rfl,e⟩:=e;have:i=i':=by omega
 subst this;exact⟨v,hv,hr⟩
abbrev Tk:=Int×List UInt8×Int×Bool
def tkL (x:Tk):List V:=[.i .i64 x.1,.s x.2.1,.i .i64 x.2.2.1,.b x.2.2.2]
def tkC (l:List Tk):List V:=l.flatMap tkL
theorem zcI (l:List Tk):(tkC l).length=l.length*4:=by
 induction l with
 |nil=>rfl
 |cons x l ih=>simp only[tkC,flatMap_cons,length_append,length_cons]at ih ⊢;rw[ih];simp[tkL];omega
theorem zmV (l:List Tk)(x:Tk):tkC (l++[x])=tkC l++tkL x:=by simp[tkC]
def zis (H:zaa)(v:V)(l:List Tk):Prop:=∃(n:Nat)(cap:Option Nat)(kd:BK),v=.sl n 4 0 l.length cap∧H[n]? = some (some {ty:=44,cells:=tkC l,kind:=kd})∧kd≠.map∧((cap=some 0∧l=[])∨cap=none)
inductive ScanS (s:List UInt8):Nat→List Tk→(List Tk ⊕ (Int×Int))→Prop
  |opn {i:Nat} {l:List Tk} (h:0≤(zbC s (s.length+1) i false).2.2):ScanS s i l (.inr ((zbC s (s.length+1) i false).2.2,32))
  |done {i:Nat} {l:List Tk} (h:¬0≤(zbC s (s.length+1) i false).2.2) (h2:(zbC s (s.length+1) i false).1=s.length):ScanS s i l (.inl l)
  |bad {i:Nat} {l:List Tk} {c:Int} (h:¬0≤(zbC s (s.length+1) i false).2.2) (h2:(zbC s (s.length+1) i false).1<s.length) (hc:c≠0) (hv:zf6 s (zbC s (s.length+1) i false).1 (zdi c)):ScanS s i l (.inr (((zbC s (s.length+1) i false).1:Nat),c))
  |step {i e:Nat} {l:List Tk} {k:Int} {t:List UInt8} {r:List Tk ⊕ (Int×Int)} (h:¬0≤(zbC s (s.length+1) i false).2.2) (h2:(zbC s (s.length+1) i false).1<s.length) (hv:zf6 s (zbC s (s.length+1) i false).1 (zdz k t e)) (h3:(zbC s (s.length+1) i false).1<e) (h4:e≤s.length) (hr:ScanS s e (l++[(k,t,(((zbC s (s.length+1) i false).1:Nat):Int),(zbC s (s.length+1) i false).2.1||((l.length:Int)==0))]) r):ScanS s i l r
def zoh (H:zaa):List Tk ⊕ (Int×Int)→V→Int→Int→Prop
 | .inl l,v,a,c=>zis H v l∧a=0∧c=0
 | .inr p,v,a,c=>v=.nils∧a=p.1∧c=p.2
theorem zvC (v:Tk)(H:zaa):zaK TT 27 1 [(0,.agg (tkL v))] H=.val (.sl H.length 4 0 1 (some 1)) (H++[some {ty:=44,cells:=tkL v,kind:=.all}]):=by
 have e1:TT.und 27=some (.slice 44):=rfl;have e2:TT.size 44=some 4:=rfl;have e3:TT.zero 44=some (.agg [.i .i64 0,.s [],.i .i64 0,.b false]):=rfl;simp only[zaK,e1,e2,e3];simp[zgk,zer,splice,za0,V.cells,tkL]
theorem zsJ {H:zaa}{v:V}{l:List Tk}(h:zis H v l)(hl:l.length<100000000)(x:Tk){q:Nat}(hq:H[q]? = some (some {ty:=44,cells:=tkL x,kind:=.all})) :
 ∃v2 H2,zaY TT 27 v (.sl q 4 0 1 (some 1)) H=.val v2 H2∧zis H2 v2 (l++[x]):=by
 obtain⟨n,cap,kd,rfl,hn,hk,hcap⟩:=h;have e1:TT.und 27=some (.slice 44):=rfl;have e2:TT.size 44=some 4:=rfl;have e3:TT.zero 44=some (.agg [.i .i64 0,.s [],.i .i64 0,.b false]):=rfl;have e4:TT.bytes 44=some 40:=rfl;have c1:zau H q=some {ty:=44,cells:=tkL x,kind:=.all}:=by simp[zau,hq]
 have c2:zau H n=some {ty:=44,cells:=tkC l,kind:=kd}:=by simp[zau,hn,hk]
 have c3:cut (tkL x) (0*4) (1*4)=some (tkL x):=by simp[cut,tkL]
 have c4:cut (tkC l) (0*4) (l.length*4)=some (tkC l):=by simp[cut,←zcI]
 have hlen:=zcI l;have f1:(tkL x).all zeN=true:=by simp[tkL,zeN]
 have f2:(V.agg [.i .i64 0,.s [],.i .i64 0,.b false]).cells.length=4:=rfl;simp only[zaY,e1,e2,e3,e4,zbg,c1,c2,c3,c4,Option.map_some,if_true];rw[if_pos ⟨by decide,f2,by decide,f1⟩,if_pos ⟨trivial,by omega,by omega⟩];simp only[za0,setK_eq];rw[if_neg (by decide)];rcases hcap with⟨rfl,rfl⟩|rfl
 ·simp only;rw[if_neg (by simp)];exact⟨_,_,rfl,H.length,none,.more,by simp,by simp[tkC],by simp,.inr rfl⟩
 ·simp only;rw[if_pos ⟨trivial,by omega,trivial⟩];refine⟨_,_,rfl,H.length,none,.more,by simp,?_,by simp,.inr rfl⟩;rw[zmV];simp
theorem zis.ext {H:zaa}{v:V}{l:List Tk}(h:zis H v l)(K:zaa):zis (H++K) v l:=by
 obtain⟨n,cap,kd,rfl,hn,hk,hcap⟩:=h;exact⟨n,cap,kd,rfl,by rw[List.getElem?_append_left (List.getElem?_eq_some_iff.1 hn).1];exact hn,hk,hcap⟩
theorem zis.len {H:zaa}{v:V}{l:List Tk}(h:zis H v l):zf5 TT 27 v=some (.i .i64 l.length):=by
 obtain⟨n,cap,kd,rfl,hn,hk,hcap⟩:=h;have e1:TT.und 27=some (.slice 44):=rfl;simp only[zf5,e1]
theorem zrM {call:zad}(hC:call.Sound prog TT)(s:List UInt8)(hsl:s.length<20000000)(hbk:∀i:Nat,i≤s.length→∀H,call 32 [.s s,.i .i64 i] H=.val (.tup [.i .i64 (zbC s (s.length+1) i false).1,.b (zbC s (s.length+1) i false).2.1,.i .i64 (zbC s (s.length+1) i false).2.2]) H)
 (hon:∀i:Nat,i<s.length→∃v,zf6 s i v∧∀H,call 33 [.s s,.i .i64 i] H=.val v H){Q:Out→Prop}:∀(n i:Nat)(l:List Tk)(v:V)(t:Tm)(H:zaa),s.length-i<n→i≤s.length→zis H v l→l.length≤i →
 t.wid=57→t.get 0=.s s→t.get 5=v→t.get 6=.i .i64 i →
 (∀(t':Tm)(H':zaa)(r:List Tk ⊕ (Int×Int)),ScanS s i l r→∀(u:V)(a c:Int),t'.get 2=u→t'.get 3=.i .i64 a→t'.get 4=.i .i64 c→zoh H' r u a c→Q (.ret t' H')) →
 zaP prog TT (sub [true,true,true,true,false,false] (zae f12)) t H Q:=by
 intro n;induction n with
 |zero=>intro i l v t H h;omega
 |succ n ih=>
  intro i l v t H hn hil hO hli hw h0 h5 h6 hR;have hblk:=hbk i hil;have hbl:=zgu s (s.length+1) i false hil;by_cases hop:0≤(zbC s (s.length+1) i false).2.2
  ·have hbo:True:=trivial;have hF:=ai @h0 (ai @h5 (ai @h6 (ai @hblk @hop)));refine zaP.round' ?_;apply bK;apply rS hC
   ·iterate 10 refine oA ?_
    rfl
   apply sQ;apply rS hC
   ·iterate 2 refine oA ?_
    rfl
   refine cT (by simp[hF]<;>rfl) ?_;apply rS hC
   ·iterate 4 refine oA ?_
    rfl
   apply Tri.ret;apply sR;apply bR;refine zcf ?_;exact hR _ _ (.inr _) (.opn hop) _ _ _ (by simp) (by simp) (by simp) ⟨rfl,rfl,rfl⟩
  ·by_cases hnx0:(zbC s (s.length+1) i false).1=s.length
   ·have hnx:(((zbC s (s.length+1) i false).1:Int)==s.length)=true:=by rw[hnx0];simp
    have hF:=ai @h0 (ai @h5 (ai @h6 (ai @hblk (ai @hop @hnx))));refine zaP.round' ?_;apply bK;apply rS hC
    ·iterate 10 refine oA ?_
     rfl
    apply sQ;apply rS hC
    ·iterate 2 refine oA ?_
     rfl
    refine cF (by simp[hF]<;>rfl) ?_;apply Tri.skip;apply sN;apply sQ;apply rS hC
    ·iterate 4 refine oA ?_
     rfl
    refine cT (by simp[hF]<;>rfl) ?_;apply rS hC
    ·iterate 4 refine oA ?_
     rfl
    apply Tri.ret;apply sR;apply bR;refine zcf ?_;exact hR _ _ (.inl l) (.done hop hnx0) _ _ _ (by simp[h5]) (by simp) (by simp) ⟨hO,rfl,rfl⟩
   ·have hnl:(zbC s (s.length+1) i false).1<s.length:=by omega
    have hnx:(((zbC s (s.length+1) i false).1:Int)==s.length)=false:=by simp;omega
    obtain⟨w,hv,hone⟩:=hon _ hnl;rcases ztf hv hnl with⟨c,hc0,rfl⟩|⟨k,tx,e,rfl,h3,hel⟩
    ·have hc:(c !=0)=true:=by simpa using hc0
     simp only[zdi,zeQ]at hone;have hF:=ai @h0 (ai @h5 (ai @h6 (ai @hblk (ai @hop (ai @hnx (ai @hone @hc))))));refine zaP.round' ?_;apply bK;apply rS hC
     ·iterate 10 refine oA ?_
      rfl
     apply sQ;apply rS hC
     ·iterate 2 refine oA ?_
      rfl
     refine cF (by simp[hF]<;>rfl) ?_;apply Tri.skip;apply sN;apply sQ;apply rS hC
     ·iterate 4 refine oA ?_
      rfl
     refine cF (by simp[hF]<;>rfl) ?_;apply Tri.skip;apply sN;apply rS hC
     ·iterate 11 refine oA ?_
      rfl
     apply sQ;apply rS hC
     ·iterate 2 refine oA ?_
      rfl
     refine cT (by simp[hF]<;>rfl) ?_;apply rS hC
     ·iterate 5 refine oA ?_
      rfl
     apply Tri.ret;apply sR;apply bR;refine zcf ?_;exact hR _ _ (.inr _) (.bad hop hnl hc0 hv) _ _ _ (by simp) (by simp) (by simp) ⟨rfl,rfl,rfl⟩
    ·simp only[zdz,zeQ]at hone;have hv2:True:=trivial;cases hln:(zbC s (s.length+1) i false).2.1 with
     |true=>
      rw[hln]at hblk;obtain⟨v2,H2,hap,hO2⟩:=zsJ (hO.ext [some {ty:=44,cells:=tkL (k,tx,(((zbC s (s.length+1) i false).1:Nat):Int),true),kind:=.all},some {ty:=44,cells:=tkL (k,tx,(((zbC s (s.length+1) i false).1:Nat):Int),true),kind:=.all}]) (by omega) (k,tx,(((zbC s (s.length+1) i false).1:Nat):Int),true) (q:=H.length+1) (by simp);have bsTok4:=zvC (k,tx,(((zbC s (s.length+1) i false).1:Nat):Int),true) (H++[some {ty:=44,cells:=tkL (k,tx,(((zbC s (s.length+1) i false).1:Nat):Int),true),kind:=.all}]);simp only[tkL,length_append,length_cons,length_nil,Nat.zero_add,append_assoc,cons_append,nil_append]at hap bsTok4;have hlv:=hO.len;have hF:=ai @h0 (ai @h5 (ai @h6 (ai @hblk (ai @hop (ai @hnx (ai @hone (ai @hln (ai @hv2 (ai @bsTok4 @hap)))))))));refine zaP.round' ?_;apply bK;apply rS hC
      ·iterate 10 refine oA ?_
       rfl
      apply sQ;apply rS hC
      ·iterate 2 refine oA ?_
       rfl
      refine cF (by simp[hF]<;>rfl) ?_;apply Tri.skip;apply sN;apply sQ;apply rS hC
      ·iterate 4 refine oA ?_
       rfl
      refine cF (by simp[hF]<;>rfl) ?_;apply Tri.skip;apply sN;apply rS hC
      ·iterate 11 refine oA ?_
       rfl
      apply sQ;apply rS hC
      ·iterate 2 refine oA ?_
       rfl
      refine cF (by simp[hF]<;>rfl) ?_;apply Tri.skip;apply sN;apply rS hC
      ·iterate 3 refine oA ?_
       rfl
      apply rS hC
      ·iterate 2 refine oA ?_
       iterate 3 refine oC ?_
       iterate 3 refine oA ?_
       rfl
      apply rS hC
      ·iterate 5 refine oA ?_
       rfl
      apply rN hC
      ·iterate 2 refine oA ?_
       rfl
      apply bN;refine zar ?_;refine ih e (l++[(k,tx,(((zbC s (s.length+1) i false).1:Nat):Int),true)]) v2 _ H2 (by omega) hel hO2 (by simp;omega) (by simp[hw]) (by simp[h0]) (by simp) (by simp) (fun t' H' r k1=>hR t' H' r (.step hop hnl hv h3 hel (by rw[hln];exact k1)))
     |false=>
      rw[hln]at hblk;obtain⟨v2,H2,hap,hO2⟩:=zsJ (hO.ext [some {ty:=44,cells:=tkL (k,tx,(((zbC s (s.length+1) i false).1:Nat):Int),((l.length:Int)==0)),kind:=.all},some {ty:=44,cells:=tkL (k,tx,(((zbC s (s.length+1) i false).1:Nat):Int),((l.length:Int)==0)),kind:=.all}]) (by omega) (k,tx,(((zbC s (s.length+1) i false).1:Nat):Int),((l.length:Int)==0)) (q:=H.length+1) (by simp);have bsTok4:=zvC (k,tx,(((zbC s (s.length+1) i false).1:Nat):Int),((l.length:Int)==0)) (H++[some {ty:=44,cells:=tkL (k,tx,(((zbC s (s.length+1) i false).1:Nat):Int),((l.length:Int)==0)),kind:=.all}]);simp only[tkL,length_append,length_cons,length_nil,Nat.zero_add,append_assoc,cons_append,nil_append]at hap bsTok4;have hlv:=hO.len;have hF:=ai @h0 (ai @h5 (ai @h6 (ai @hblk (ai @hop (ai @hnx (ai @hone (ai @hln (ai @hv2 (ai @bsTok4 (ai @hap @hlv))))))))));refine zaP.round' ?_;apply bK;apply rS hC
      ·iterate 10 refine oA ?_
       rfl
      apply sQ;apply rS hC
      ·iterate 2 refine oA ?_
       rfl
      refine cF (by simp[hF]<;>rfl) ?_;apply Tri.skip;apply sN;apply sQ;apply rS hC
      ·iterate 4 refine oA ?_
       rfl
      refine cF (by simp[hF]<;>rfl) ?_;apply Tri.skip;apply sN;apply rS hC
      ·iterate 11 refine oA ?_
       rfl
      apply sQ;apply rS hC
      ·iterate 2 refine oA ?_
       rfl
      refine cF (by simp[hF]<;>rfl) ?_;apply Tri.skip;apply sN;apply rS hC
      ·iterate 3 refine oA ?_
       rfl
      apply rS hC
      ·iterate 2 refine gO (by simp[hF,-zf5]<;>rfl) ?_
       iterate 3 refine gW (by simp[zaH,hF,-zf5]) (by simp[hF,-zf5]<;>rfl) ?_
       iterate 3 refine gO (by simp[hF,-zf5]<;>rfl) ?_
       rfl
      apply rS hC
      ·iterate 5 refine oA ?_
       rfl
      apply rN hC
      ·iterate 2 refine oA ?_
       rfl
      apply bN;refine zar ?_;refine ih e (l++[(k,tx,(((zbC s (s.length+1) i false).1:Nat):Int),((l.length:Int)==0))]) v2 _ H2 (by omega) hel hO2 (by simp;omega) (by simp[hw]) (by simp[h0]) (by simp) (by simp) (fun t' H' r k1=>hR t' H' r (.step hop hnl hv h3 hel (by rw[hln];exact k1)))
def zoi (s:List UInt8)(r:List Tk ⊕ (Int×Int)):Prop:=if 20000<s.length then r=.inr (0,16)else ScanS s 0 [] r
theorem zvD:zaK TT 27 0 [] []=.val (.sl 0 4 0 0 (some 0)) [some {ty:=44,cells:=[],kind:=.all}]:=by
 have e1:TT.und 27=some (.slice 44):=rfl;have e2:TT.size 44=some 4:=rfl;have e3:TT.zero 44=some (.agg [.i .i64 0,.s [],.i .i64 0,.b false]):=rfl;simp only[zaK,e1,e2,e3];simp[zgk,zer,splice,za0,V.cells]
theorem zm0 {call:zad}(hC:call.Sound prog TT)(s:List UInt8)(hl:¬(s.length:Int)≤20000)  : zir prog TT 12 [.s s] [] (fun v K=>∃r u a c,zoi s r∧zoh K r u a c∧v=.tup [u,.i .i64 a,.i .i64 c]):=by
 refine en f12 rfl rfl (by simp[f12]) 57 rfl fun t hw hg=>?_;have h0:=hg 0 _ rfl;clear hg;try simp only[Nd.enc_eq]at *
 apply rS hC
 ·iterate 3 refine oA ?_
  rfl
 apply sQ;apply rS hC
 ·iterate 3 refine oA ?_
  rfl
 refine Tri.condG (o:=?o3) (b:=?b3) ?g3 ?r3 ?y3 ?n3;case g3=>simp[h0,hl]<;>rfl
 case r3=>rfl
 case y3=>
  intro hy3;apply rS hC
  ·iterate 3 refine oA ?_
   rfl
  apply Tri.ret;apply sR;exact ztJ (by simp[f12]<;>rfl) (by rfl) ⟨.inr (0,16),.nils,0,16,by unfold zoi;rw[if_pos (by omega)],⟨rfl,rfl,rfl⟩,rfl⟩
 case n3=>
  intro hn3;exact absurd hn3 (by simp[h0,hl])
theorem zm1 {call:zad}(hC:call.Sound prog TT)(s:List UInt8)(hl:(s.length:Int)≤20000)(hbk:∀i:Nat,i≤s.length→∀H,call 32 [.s s,.i .i64 i] H=.val (.tup [.i .i64 (zbC s (s.length+1) i false).1,.b (zbC s (s.length+1) i false).2.1,.i .i64 (zbC s (s.length+1) i false).2.2]) H)
 (hon:∀i:Nat,i<s.length→∃v,zf6 s i v∧∀H,call 33 [.s s,.i .i64 i] H=.val v H)  : zir prog TT 12 [.s s] [] (fun v K=>∃r u a c,zoi s r∧zoh K r u a c∧v=.tup [u,.i .i64 a,.i .i64 c]):=by
 refine en f12 rfl rfl (by simp[f12]) 57 rfl fun t hw hg=>?_;have h0:=hg 0 _ rfl;clear hg;try simp only[Nd.enc_eq]at *
 have hF:=ai @h0 (ai @hl @zvD);apply rS hC
 ·iterate 3 refine oA ?_
  rfl
 apply sQ;apply rS hC
 ·iterate 3 refine oA ?_
  rfl
 refine Tri.condG (o:=?o3) (b:=?b3) ?g3 ?r3 ?y3 ?n3;case g3=>simp[hF]<;>rfl
 case r3=>rfl
 case y3=>
  intro hy3;exact absurd hy3 (by simp[hF])
 case n3=>
  intro hn3;apply Tri.skip;apply sN;apply rS hC
  ·iterate 2 refine oA ?_
   rfl
  apply rS hC
  ·refine oA ?_;rfl
  apply bK;refine Tri.loop ?_;refine zrM hC s (by omega) hbk hon (s.length+1) 0 [] (.sl 0 4 0 0 (some 0)) _ _ (by omega) (by omega) ⟨0,some 0,.all,rfl,rfl,by simp,.inl ⟨rfl,rfl⟩⟩ (by simp) (by simp[hw]) (by simp[h0]) (by simp) (by simp) ?ret;case ret=>
   intro t2 H2 r hr u a c q2 q3 q4 ho;apply bR;exact ztJ (by simp[f12,q2,q3,q4]<;>rfl) (by rfl) ⟨r,u,a,c,by unfold zoi;rw[if_neg (by omega)];exact hr,ho,rfl⟩
def zvw:List Tk ⊕ (Int×Int)→V
 | .inl l=>.tup [.isl 4 (l.map fun x=>.agg (tkL x)),.i .i64 0,.i .i64 0]
 | .inr p=>.tup [.nils,.i .i64 p.1,.i .i64 p.2]
theorem zhk:∀l:List Tk,zc2 4 l.length (tkC l)=some (l.map fun x=>V.agg (tkL x))
 | []=>rfl
 |x::l=>by
  have ih:=zhk l;simp only[tkC]at ih;simp[zc2,tkC,tkL,ih]
theorem zps {H:zaa}:∀(l:List Tk)(n:Nat),4*l.length+5≤n→fzL H n (tkC l)=some (tkC l)
 | [],n,h=>by cases n<;>simp[tkC,Ev.fzL]
 |x::l,n,h=>by
  obtain⟨m,rfl⟩:∃m,n=m+5:=⟨n-5,by simp only[length_cons]at h;omega⟩;have ih:=zps (H:=H) l (m+1) (by simp only[length_cons]at h;omega);have e:tkC (x::l)=.i .i64 x.1::.s x.2.1::.i .i64 x.2.2.1::.b x.2.2.2::tkC l:=by simp[tkC,tkL]
  rw[e];simp[Ev.fzL,fz,ih]
theorem ztU {J:zaa}{r:List Tk ⊕ (Int×Int)}{u:V}{a c:Int}(h:zoh J r u a c):∃k,fz J k (.tup [u,.i .i64 a,.i .i64 c])=some (zvw r):=by
 cases r with
 |inr p=>
  obtain⟨rfl,rfl,rfl⟩:=h;exact⟨5,by simp[fz,Ev.fzL,zvw]⟩
 |inl l=>
  obtain⟨⟨n,cap,kd,rfl,hn,hk,_⟩,rfl,rfl⟩:=h;refine⟨4*l.length+10,?_⟩;have hc:zau J n=some {ty:=44,cells:=tkC l,kind:=kd}:=by simp[zau,hn,hk]
  have hlen:=zcI l;have hcut:cut (tkC l) (0*4) (l.length*4)=some (tkC l):=by
   simp only[cut];rw[if_pos (by omega),Nat.zero_mul,drop_zero,take_of_length_le (by omega)]
  have hf:=zps (H:=J) l (4*l.length+7) (by omega);have hf1:fz J (4*l.length+8) (.sl n 4 0 l.length cap)=some (.isl 4 (l.map fun x=>V.agg (tkL x))):=by
   simp only[fz,hc,hcut,hf,zhk,Option.map_some]
  have e2:Ev.fzL J (4*l.length+8) [V.i .i64 0,V.i .i64 0]=some [V.i .i64 0,V.i .i64 0]:=by simp[Ev.fzL,fz]
  have e1:Ev.fzL J (4*l.length+9) (V.sl n 4 0 l.length cap::[V.i .i64 0,V.i .i64 0])=some (V.isl 4 (l.map fun x=>V.agg (tkL x))::[V.i .i64 0,V.i .i64 0]):=by
   rw[Ev.fzL,hf1,e2]
  rw[fz,e1];rfl
theorem zwt:∃g,zap prog TT 12 g∧∀s:List UInt8,s.length<100000000→∃r,zoi s r∧∀H,g [.s s] H=.val (zvw r) H:=by
 obtain⟨g1,k1,s1⟩:=zwx;obtain⟨g2,k2,s2⟩:=zwy;obtain⟨g0,k0,s0⟩:=zhu.spec (F:=12) zah (D:=fun vs K=>K=[]∧∃s:List UInt8,s.length<100000000∧vs=[.s s]) (R:=fun vs _ v K=>∃(s:List UInt8)(r:List Tk ⊕ (Int×Int))(u:V)(a c:Int),vs=[.s s]∧zoi s r∧zoh K r u a c∧v=.tup [u,.i .i64 a,.i .i64 c]) (by
  rintro vs K ⟨rfl,s,hs,rfl⟩;have hC:=ws (ws n0 k1) k2;generalize hd:(zad.none.with 32 g1).with 33 g2=call at hC;have c1:∀vs H,call 32 (vs) H=g1 vs H:=fun vs H=>by rw[←hd];simp[zad.with]
  have c2:∀vs H,call 33 (vs) H=g2 vs H:=fun vs H=>by rw[←hd];simp[zad.with]
  clear hd;by_cases hl:(s.length:Int)≤20000
  ·refine(zir.fact zah (zm1 hC s hl (fun i hi H=>(c1 _ H).trans (s1 s i hs hi H)) fun i hi=>?_)).mono fun v H' ⟨r,u,a,c,h⟩=>⟨s,r,u,a,c,rfl,h⟩;obtain⟨v,hv,h⟩:=s2 s i (by omega) hi;exact⟨v,hv,fun H=>(c2 _ H).trans (h H)⟩
  ·exact(zir.fact zah (zm0 hC s hl)).mono fun v H' ⟨r,u,a,c,h⟩=>⟨s,r,u,a,c,rfl,h⟩)
 obtain⟨g,hg,hs⟩:=zst zat k0 (fun vs=>∃s:List UInt8,s.length<100000000∧vs=[.s s]) (fun vs v=>∃(s:List UInt8)(r:List Tk ⊕ (Int×Int)),vs=[.s s]∧zoi s r∧v=zvw r) (by
  rintro vs ⟨s,h,rfl⟩;refine⟨rfl,?_⟩;obtain⟨v,J,⟨s',r,u,a,c,e,hr,ho,rfl⟩,h2⟩:=s0 [.s s] [] ⟨rfl,s,h,rfl⟩;obtain⟨k,hk⟩:=ztU ho;exact⟨_,J,k,_,h2,hk,s',r,e,hr,rfl⟩)
 refine⟨g,hg,fun s h=>?_⟩;obtain⟨v,⟨s',r,e,hr,rfl⟩,h2⟩:=hs _ ⟨s,h,rfl⟩;simp only[List.cons.injEq,V.s.injEq,and_true]at e;subst e;exact⟨r,hr,h2⟩
theorem znp (c:Int):(48≤c∧c≤57∧zk8 c=c-48)∨(¬(48≤c∧c≤57)∧(10≤zk8 c∨zk8 c= -1)):=by
 unfold zk8;by_cases h:48≤c∧c≤57
 ·rw[if_pos h];exact .inl ⟨h.1,h.2,rfl⟩
 ·rw[if_neg h];refine .inr ⟨h,?_⟩;by_cases h2:97≤c∧c≤102
  ·rw[if_pos h2];omega
  ·rw[if_neg h2];by_cases h3:65≤c∧c≤70
   ·rw[if_pos h3];omega
   ·rw[if_neg h3];omega
theorem zvI (b:UInt8):0≤zbA b.toNat 10↔zf4 b:=by
 unfold zbA zf4;rcases znp b.toNat with⟨h1,h2,h3⟩|⟨h1,h2⟩
 ·rw[h3,if_neg (by omega)];omega
 ·rcases h2 with h2|h2
  ·rw[if_pos h2];omega
  ·rw[h2,if_neg (by omega)];omega
def Stop (l:List UInt8):Prop:=∀b,l.head? = some b→¬zf4 b∧b≠95
theorem ziF (base:Int):∀(L out:List UInt8)(pd:Bool),∃m,(zaC base L out pd).2=out++m
 | [],out,pd=>⟨[],by simp[zaC]⟩
 |b::L,out,pd=>by
  simp only[zaC];split
  ·obtain⟨m,hm⟩:=ziF base L (out++[b]) true;exact⟨b::m,by rw[hm];simp⟩
  ·split
   ·obtain⟨m,hm⟩:=ziF base L out false;exact⟨m,hm⟩
   ·exact⟨[],by simp⟩
theorem zo2 {s:List UInt8}{i:Nat}{b:UInt8}(h:s[i]? = some b):s.drop i=b::s.drop (i+1):=by
 obtain⟨h1,rfl⟩:=List.getElem?_eq_some_iff.1 h;exact drop_eq_getElem_cons h1
theorem zto {s:List UInt8}{i:Nat}(h:atR s i≠0):∃b,s[i]? = some b∧atR s i=b.toNat:=by
 have:=zfN h;exact⟨s[i],List.getElem?_eq_getElem this,zom (List.getElem?_eq_getElem this)⟩
theorem ztF {s:List UInt8}{i:Nat}(h:0≤zbA (atR s i) 10):(zaC 10 (s.drop i) [] false).2≠[]:=by
 have h0:atR s i≠0:=fun e=>by rw[e]at h;exact absurd h (by decide)
 obtain⟨b,hb,hb2⟩:=zto h0;rw[zo2 hb];rw[hb2]at h;simp only[zaC];rw[if_pos h];obtain⟨m,hm⟩:=ziF 10 (s.drop (i+1)) ([]++[b]) true;simp only[hm];simp
theorem zaI.of2 {F:FuncId}{vs:List V}{r:Res}(h:zaI prog TT F vs (fun x=>x=r)):zjD prog TT F vs r:=by
 obtain⟨fn,c,h1,h2,h3,o,⟨r',rfl,k2⟩,hx⟩:=h;exact⟨fn,c,h1,h2,h3,o,k2,hx⟩
theorem spT (F:FuncId)(val:List UInt8→V)(D:List UInt8→Prop)(hv:∀x,nl (val x)=true)(h:∀x,D x→zaI prog TT F [.s x] (fun r=>r=.val (val x))):∃g,zap prog TT F g∧∀x,D x→∀H,g [.s x] H=.val (val x) H:=
 zbh zah zat F (fun x:List UInt8=>[.s x]) D val (fun x _=>by simp[nlL,nl]) hv (fun a b h=>by
 simp only[List.cons.injEq,V.s.injEq,and_true]at h;rw[h]) fun x hx=>zaI.of2 (h x hx)
theorem zuF:∃g,zap prog TT 72 g∧∀c:Int,True→∀H,g [.i .u8 c] H=.val (.b (zgi c||(c==95))) H:=
 zbh zah zat 72 (fun c:Int=>[.i .u8 c]) (fun _=>True) (fun c=>.b (zgi c||(c==95))) (fun x _=>by simp[nlL,nl]) (fun _=>rfl) (fun a b h=>by simp only[List.cons.injEq,V.i.injEq,true_and,and_true]at h;rw[h]) fun c _=>ztu n0 c
theorem zuH:∃g,zap prog TT 50 g∧∀c:Int,True→∀H,g [.i .u8 c] H=.val (.b (decide (48≤c)&&decide (c≤57))) H:=
 zbh zah zat 50 (fun c:Int=>[.i .u8 c]) (fun _=>True) (fun c=>.b (decide (48≤c)&&decide (c≤57))) (fun x _=>by simp[nlL,nl]) (fun _=>rfl) (fun a b h=>by simp only[List.cons.injEq,V.i.injEq,true_and,and_true]at h;rw[h]) fun c _=>ztw n0 c
theorem zqM (b:UInt8):zcy b.toNat=((zgi b.toNat||((b.toNat:Int)==95))||(decide (48≤(b.toNat:Int))&&decide ((b.toNat:Int)≤57))):=by
 have e:decide (0≤zbA b.toNat 10)=(decide (48≤(b.toNat:Int))&&decide ((b.toNat:Int)≤57)):=by
  rw[Bool.eq_iff_iff];simp only[Bool.and_eq_true,decide_eq_true_eq];rw[zvI];unfold zf4;omega
 unfold zcy;rw[e];cases zgi b.toNat<;>cases((b.toNat:Int)==95)<;>simp
theorem zuG:∃g,zap prog TT 73 g∧∀b:UInt8,True→∀H,g [.i .u8 b.toNat] H=.val (.b (zcy b.toNat)) H:=by
 obtain⟨g3,hg3,hs3⟩:=zuF;obtain⟨g9,hg9,hs9⟩:=zuH;refine zbh zah zat 73 (fun b:UInt8=>[.i .u8 b.toNat]) (fun _=>True) (fun b=>.b (zcy b.toNat)) (fun x _=>by simp[nlL,nl]) (fun _=>rfl) (fun a b h=>by
  simp only[List.cons.injEq,V.i.injEq,true_and,and_true]at h;rw[h]) fun c _=>?_
 rw[zqM];exact ztv (ws (ws n0 hg3) hg9) c.toNat _ _ (fun H=>by rw[zac _ _ _ _ rfl,zao];exact hs3 _ trivial H) (fun H=>by rw[zao];exact hs9 _ trivial H)
theorem zyw:∃g,zap prog TT 49 g∧∀s:List UInt8,s.length<NT→∀H,g [.s s] H=.val (.i .i64 (idR s 0:Nat)) H:=by
 obtain⟨g3,hg3,hs3⟩:=zuF;obtain⟨g4,hg4,hs4⟩:=zuG;refine spT 49 (fun s=>.i .i64 (idR s 0:Nat)) (fun s=>s.length<NT) (fun _=>rfl) fun s hs=>?_;have hN:NT=1090000:=rfl;have hC:=ws (ws n0 hg3) hg4;cases s with
 |nil=>exact zoM hC
 |cons c r=>
  have h83:∀H,((zad.none.with 72 g3).with 73 g4) 72 [.i .u8 c.toNat] H=.val (.b (zgi c.toNat||((c.toNat:Int)==95))) H:=fun H=>by rw[zac _ _ _ _ rfl,zao];exact hs3 _ trivial H
  have hat:atR (c::r) 0=c.toNat:=rfl;cases hl:(zgi c.toNat||((c.toNat:Int)==95))with
  |false=>
   have e:idR (c::r) 0=0:=by
    unfold idR;rw[hat,if_pos];rw[Bool.or_eq_false_iff]at hl;simp only[Bool.and_eq_true,Bool.not_eq_true',bne_iff_ne];exact⟨hl.1,by have:=hl.2;rw[beq_eq_false_iff_ne]at this;exact this⟩
   rw[e];exact zoL hC c r fun H=>by rw[h83,hl]
  |true=>
   have hw:zcy c.toNat=true:=by rw[zqM,hl];rfl
   have e:idR (c::r) 0=1+zcQ r+zkw (r.drop (zcQ r)):=by
    unfold idR;rw[hat,if_neg]
    ·simp only[drop_zero,Nat.zero_add];have e2:zcQ (c::r)=zcQ r+1:=by simp only[zcQ,hw,if_true]
     rw[e2,drop_succ_cons];omega
    ·intro h;simp only[Bool.and_eq_true,Bool.not_eq_true',bne_iff_ne]at h;rw[h.1,Bool.false_or,beq_iff_eq]at hl;exact h.2 hl
   rw[e];exact zoN hC c r (by simp at hs ⊢;omega) (fun b H=>by rw[zao];exact hs4 b trivial H) fun H=>by rw[h83,hl]
def zcA (e at_:Int):V:=.ifc 50 (.agg [.i .i64 e,.i .i64 at_])
section
variable {P:Program}{T:Tab}{t t':Tm}{H H':zaa}{Q:Out→Prop}{v:V}
theorem Tri.regP (hT:TOk P T){call:zad}(hC:call.Sound P T){id:Nat}{ops:Array Oper}{d:Bool}(he:zcM T call ops d t H=.pan v t' H')(h:Q (.pan v t' H')):Tri P T (.region id ops d) t H Q:=Tri.reg hT hC he h
theorem zhP {step:Oper→Env→zaa→OR}{ops:Array Oper}{o:Oper}{r:List Oper}{x:OR}{out:Out}(hw:zaH ops o t.get=some true)(hs:step o t.get H=x)(hx:x=.pan v H')(ho:Out.pan v t H'=out):zaQ step ops (o::r) t H=out:=(zpg hw (hs.trans hx)).trans ho
theorem zyd {T:Tab}{fn:Func}{R:Res→Prop}(hr:R (.pan v)):∃r,R r∧zhs T fn r (.pan v t H):=⟨_,hr,rfl⟩
theorem zvL {fn:Func}{x:OR}{R:Res→Prop}(hf:zaZ TT fn t.get H=x)(hx:x=.val v H)(hr:R (.val v)):∃r,R r∧zhs TT fn r (.norm t H):=⟨_,hr,hf.trans hx⟩
end
attribute [simp] zcA zdo eq1 zo7
theorem znj {call:zad}(hC:call.Sound prog TT)(e k:Int)  : zaI prog TT 55 [.b true,.i .i64 e,.i .i64 k] (fun r=>r=.val .un):=by
 refine en f55 rfl rfl (by simp[f55]) 12 rfl fun t hw hg=>?_;have h0:=hg 0 _ rfl;have h1:=hg 1 _ rfl;have h2:=hg 2 _ rfl;clear hg;try simp only[Nd.enc_eq]at *
 have hF:=ai @h0 (ai @h1 @h2);apply rS hC
 ·iterate 2 refine oA ?_
  rfl
 refine cF (by simp[hF]<;>rfl) ?_;apply Tri.skip;refine zvL (by simp[f55]<;>rfl) (by rfl) ?_;rfl
theorem zni {call:zad}(hC:call.Sound prog TT)(e k:Int)  : zaI prog TT 55 [.b false,.i .i64 e,.i .i64 k] (fun r=>r=.pan (zcA e k)):=by
 refine en f55 rfl rfl (by simp[f55]) 12 rfl fun t hw hg=>?_;have h0:=hg 0 _ rfl;have h1:=hg 1 _ rfl;have h2:=hg 2 _ rfl;clear hg;try simp only[Nd.enc_eq]at *
 have hF:=ai @h0 (ai @h1 @h2);apply rS hC
 ·iterate 2 refine oA ?_
  rfl
 refine cT (by simp[hF]<;>rfl) ?_;refine Tri.regP (v:=?v3) (t':=?t3) (H':=?H3) zah hC ?e3 ?q3;case e3=>
  refine zax ?_;iterate 4 refine oA ?_
  refine zhP rfl (by simp[hF]<;>rfl) (by rfl) ?_;exact rfl
 refine zyd ?_;rfl
def zbW (c:Int):Int:=if zk8 c= -1 then 99 else zk8 c
theorem zuQ:([2,10,16].all fun base=>(List.range 256).all fun c=>match zcK TT (zeD Con.none) 3000 94 [.i .u8 c,.i .i64 base] []with | .val (.tup [.i .u64 n,.b b]) _=>n==zbW c&&b==decide (zbW c<base)|_=>false)=true:=by kernel_rfl
theorem zqs:∃g,zap prog TT 94 g∧∀c base:Int,0≤c→c<256→base=2∨base=10∨base=16→∀H,g [.i .u8 c,.i .i64 base] H=.val (.tup [.i .u64 (zbW c),.b (decide (zbW c<base))]) H:=by
 obtain⟨g,k,s⟩:=zfj zah zat 94 (fun vs=>∃c base:Int,0≤c∧c<256∧(base=2∨base=10∨base=16)∧vs=[.i .u8 c,.i .i64 base]) (fun vs=>match vs with | [.i .u8 c,.i .i64 base]=>.val (.tup [.i .u64 (zbW c),.b (decide (zbW c<base))])|_=>.val .un) (by
  rintro vs ⟨c,base,h0,h1,hb,rfl⟩;refine⟨rfl,rfl,3000,?_⟩;have hm:base∈[2,10,16]:=by rcases hb with rfl|rfl|rfl<;>simp
  obtain⟨k,rfl,hk⟩:=zej (all_eq_true.1 zuQ base hm) h0 h1;split at hk
  ·rename_i n b J he;rw[Bool.and_eq_true]at hk;exact⟨J,by rw[he,eq_of_beq hk.1,eq_of_beq hk.2];rfl⟩
  ·cases hk)
 exact⟨g,k,fun c base h0 h1 hb H=>s _ ⟨c,base,h0,h1,hb,rfl⟩ H⟩
theorem zd3:∃g,zap prog TT 55 g∧∀(b:Bool)(e k:Int)(H:zaa),g [.b b,.i .i64 e,.i .i64 k] H=if b=true then .val .un H else .pan (zcA e k) H:=by
 obtain⟨g,h,s⟩:=zcS (P:=prog) (T:=TT) zah zat 55 (fun vs=>∃(b:Bool)(e k:Int),vs=[.b b,.i .i64 e,.i .i64 k]) (fun vs r=>∃(b:Bool)(e k:Int),vs=[.b b,.i .i64 e,.i .i64 k]∧r=if b=true then .val .un else .pan (zcA e k)) (by
  rintro vs ⟨b,e,k,rfl⟩;refine⟨rfl,?_,?_⟩
  ·rintro r ⟨b',e',k',_,rfl⟩;cases b'<;>rfl
  ·cases b with
   |true=>
    obtain⟨fn,c,h1,h2,h3,h4⟩:=znj n0 e k;exact⟨fn,c,h1,h2,h3,h4.mono fun o ⟨r,hr,ho⟩=>⟨r,⟨true,e,k,rfl,by simpa using hr⟩,ho⟩⟩
   |false=>
    obtain⟨fn,c,h1,h2,h3,h4⟩:=zni n0 e k;exact⟨fn,c,h1,h2,h3,h4.mono fun o ⟨r,hr,ho⟩=>⟨r,⟨false,e,k,rfl,by simpa using hr⟩,ho⟩⟩)
 refine⟨g,h,fun b e k H=>?_⟩;obtain⟨r,⟨b',e',k',he,rfl⟩,h2⟩:=s _ ⟨b,e,k,rfl⟩;simp only[List.cons.injEq,V.b.injEq,V.i.injEq,true_and,and_true]at he;obtain⟨rfl,rfl,rfl⟩:=he;rw[h2];cases b<;>rfl
theorem zxo:za2 TT shp f95.ntmps [] (zae f95) [] ⟨[(0,.f1 .vs (.va 1)),(1,.f1 (.vi .i64) (.va 2))],⟨.va 0,[],[]⟩,3,[]⟩ (KF TT f95 [])=.fin (.f1 (.fn 109) (x2 (xp (xN (xh v0) (.cn 0))) (xp (xN (xh v0) (.cn 1))))) ⟨v0,[],[xk 9 (x1 (xs v1)),xk 3 (x1 (xi v2))]⟩:=by kernel_rfl
theorem zuY:za2 TT shp f109.ntmps [] (sub [true,false,false,true,true,false,false,true,false] (zae f109)) [] ⟨[(0,.va 1),(1,.f1 (.ptr 0) (.va 2)),(2,.f1 (.ptr 0) (.va 3)),(4,.f1 (.vi .i64) (.va 4)),(8,.f1 (.vi .i64) (.va 5)),(9,.f1 (.vi .i64) (.va 4))],⟨.va 0,[(.va 2,some ⟨9,.f2 .cons (.f1 .vs (.va 6)) .nil,.all⟩),(.va 3,some ⟨3,.f2 .cons (.f1 (.vi .i64) (.va 7)) .nil,.all⟩)],[]⟩,8,[]⟩ (K0 [0,1,2,5,6,8,9])=.need (xE c0 v4) (.need (xL v4 (xl v6)) (.asks (.call 94 (x2 (xu (xA v6 v4)) (xi v7))) [.i,.b] (xt (x2 (xv v8) (xb v9))) (.leaf .norm [(0,v1),(1,xp v2),(2,xp v3),(5,xv v8),(6,xb v9),(8,xi v5),(9,xi v4)] ⟨v0,[(v2,xk 9 (x1 (xs v6))),(v3,xk 3 (x1 (xi v7)))],[]⟩) (.stuck 0))):=by kernel_rfl
def zoZ (s:List UInt8)(base:Int):zaa:=[some ⟨9,[.s s],.all⟩,some ⟨3,[.i .i64 base],.all⟩]
theorem zwW:∃g,zap prog TT 95 g∧∀(s:List UInt8)(base:Int)(H:zaa),g [.s s,.i .i64 base] H=.val (.fn 109 [.ptr H.length 0,.ptr (H.length+1) 0]) (H++zoZ s base):=by
 obtain⟨g,k,h⟩:=zdG zah 95 (fun p:List UInt8×Int=>[.s p.1,.i .i64 p.2]) (fun _ _=>True) (fun p H r=>r=.val (.fn 109 [.ptr H.length 0,.ptr (H.length+1) 0]) (H++zoZ p.1 p.2)) (by
  rintro⟨s,b⟩ ⟨s',b'⟩ H r _ _ he hr;simp only[List.cons.injEq,V.s.injEq,V.i.injEq,true_and,and_true]at he;obtain⟨rfl,rfl⟩:=he;exact hr) (by
  rintro⟨s,b⟩ H _;refine zaO.sym zah n0 (fn:=f95) rfl rfl (by simp[f95]) zxo (by kernel_rfl) [.uh H,.us s,.ui b] rfl ⟨by rw[zag];rfl,by rw[zag];rfl,trivial⟩ rfl (zaW _ _) ?_;simp -implicitDefEqProofs only[VC,isR,exU,Ask.den,forall_eq,E.den,O1.den,O2.den,O3.den,U.int_ui,U.boo_ub,U.val_uv,U.lst_ul,U.str_us,U.nat_un,U.heap_uh,SH.den,zaF,zbH,bD,SB.den,zas,LQ,cons_append,nil_append,List.getElem?_cons_zero,List.getElem?_cons_succ,Option.getD_some,zam,zai,zan,zaj,beq_iff_eq,bne_iff_ne,beq_eq_false_iff_ne,Int.toNat_natCast];simp[zoZ])
 exact⟨g,k,fun s b H=>h (s,b) H trivial⟩
def zdP (base:Nat):List UInt8→Nat→Option Nat
 | [],a=>some a
 |c::r,a=>if zbW c.toNat<base then(if a*base+(zbW c.toNat).toNat<340282366920938463463374607431768211456 then zdP base r (a*base+(zbW c.toNat).toNat)else none)else zdP base r a
noncomputable def zyK:Code→Code×Code
 | .rangeFunc _ _ a b=>(a,b)
 |_=>(.skip,.skip)
noncomputable def zyB:Code:=(zyK (sub [true,true,false,true,false] (zae f76))).1
noncomputable def zyC:Code:=(zyK (sub [true,true,false,true,false] (zae f76))).2
abbrev whH (s:List UInt8)(base at_:Int)(lo hi:Nat):zaa:=[some ⟨3,[.i .i64 base],.all⟩,some ⟨3,[.i .i64 at_],.all⟩,some ⟨131,[.i .u64 lo,.i .u64 hi],.all⟩,some ⟨9,[.s s],.all⟩,some ⟨3,[.i .i64 base],.all⟩]
theorem zxE {call:zad}(hC:call.Sound prog TT){r:Option Nat}{hs:List HE}{t:Tm}{K:zaa}{v:V}(hw:t.wid=27)(h13:t.get 13=v){Q:Out→List HE→Prop}
 (hQ:∀tA:Tm,tA.wid=27→tA.get 8=v→(∀j,j≤7→tA.get j=t.get j)→Q (.norm tA K) hs):za7 prog TT r hs zyB t K Q:=by
 refine za7.reg (t':=?t1) (H':=?H1) zah hC (by kernel_rfl) ?e1 ?q1;case e1=>
  refine zax ?_;refine zab rfl (by simp[h13]<;>rfl) (by rfl) (by simp[hw]) ?_;exact zaq
 refine hQ _ (by simp[hw]) (by simp) ?_;intro j hj;have:¬j=8:=by omega
 simp[this]
theorem zxF {call:zad}(hC:call.Sound prog TT){r:Option Nat}{hs:List HE}{t:Tm}(s:List UInt8)(base:Nat)(at_:Int)(hb:base=2∨base=10∨base=16)(a v:Nat)(ha:a<340282366920938463463374607431768211456)(hv:v<16)
 (htim:∀p:Nat×Nat×Nat×Nat,p.1<18446744073709551616∧p.2.1<18446744073709551616∧p.2.2.1<18446744073709551616∧p.2.2.2<18446744073709551616→∀H,call 96 [zd7 p.1 p.2.1,.i .u64 p.2.2.1,.i .u64 p.2.2.2] H=.val (zsy (zqT p.1 p.2.1 p.2.2.1 p.2.2.2)) H)
 (hmust:∀(b:Bool)(e k:Int)(H:zaa),call 55 [.b b,.i .i64 e,.i .i64 k] H=if b=true then .val .un H else .pan (zcA e k) H)
 (hw:t.wid=27)(h8:t.get 8=.i .u64 v)(h4:t.get 4=.ptr 0 0)(h5:t.get 5=.ptr 1 0)(h7:t.get 7=.ptr 2 0){Q:Out→List HE→Prop}
 (hG:∀tA:Tm,a*base+v<340282366920938463463374607431768211456→Q (.norm tA (whH s base at_ ((a*base+v)%18446744073709551616) ((a*base+v)/18446744073709551616))) hs)
 (hP:∀(tA:Tm)(HA:zaa),HA.length=5→¬a*base+v<340282366920938463463374607431768211456→Q (.pan (zcA 33 at_) tA HA) hs):za7 prog TT r hs zyC t (whH s base at_ (a%18446744073709551616) (a/18446744073709551616)) Q:=by
 have ht:=htim (a%18446744073709551616,a/18446744073709551616,base,v) ⟨by simp only;omega,by simp only;omega,by simp only;omega,by simp only;omega⟩;have en:zqT (a%18446744073709551616) (a/18446744073709551616) base v=a*base+v:=by
  unfold zqT;rcases hb with rfl|rfl|rfl<;>omega
 rw[en]at ht;simp only[zsy,zd7]at ht;have ex:TT.ext 96=none:=rfl;have ex2:TT.ext 55=none:=rfl;have hwr:IntKind.u64.wrap (base:Int)=base:=by rcases hb with rfl|rfl|rfl<;>rfl
 generalize a*base+v=n at ht hG hP;generalize a%18446744073709551616=lo at ht;generalize a/18446744073709551616=hi at ht;have eN:n<340282366920938463463374607431768211456→n/18446744073709551616%18446744073709551616=n/18446744073709551616:=fun h=>by omega
 generalize n%18446744073709551616=lo' at ht hG;generalize n/18446744073709551616%18446744073709551616=hi' at ht eN;clear en ha htim;refine za7.block ?_;apply za7.seq;refine za7.reg (t':=?t1) (H':=?H1) zah hC (by kernel_rfl) ?e1 ?q1;case e1=>
  refine zax ?_;refine zab rfl (by simp<;>rfl) (by rfl) (by simp[hw]) ?_;exact zaq
 apply zaL;apply za7.seq;refine za7.reg (t':=?t2) (H':=?H2) zah hC (by kernel_rfl) ?e2 ?q2;case e2=>
  refine zax ?_;iterate 10 refine zab rfl (by simp[h8,h4,h5,h7,ht,hwr,ex]<;>rfl) (by rfl) (by simp[hw]) ?_
  exact zaq
 apply zaL;cases hd:decide (n<340282366920938463463374607431768211456)with
 |true=>
  have hm:∀H,call 55 [.b true,.i .i64 33,.i .i64 at_] H=.val .un H:=fun H=>by rw[hmust];rfl
  refine za7.reg (t':=?t3) (H':=?H3) zah hC (by kernel_rfl) ?e3 ?q3;case e3=>
   refine zax ?_;iterate 3 refine zab rfl (by simp[h8,h4,h5,h7,hd,hm,ex2]<;>rfl) (by rfl) (by simp[hw]) ?_
   exact zaq
  refine zdv ?_;rw[decide_eq_true_eq]at hd;rw[←eN hd]at hG;exact hG _ hd
 |false=>
  have hm:∀H,call 55 [.b false,.i .i64 33,.i .i64 at_] H=.pan (zcA 33 at_) H:=fun H=>by rw[hmust];rfl
  refine za7.regP (t1:=?t4) (H1:=?H4) (v:=zcA 33 at_) (H':=?H5) zah hC 2 (by kernel_rfl) rfl ?e4 rfl ?o4 ?q4;case e4=>
   iterate 2 refine zab rfl (by simp[h8,h4,h5,h7,hd,hm,ex2]<;>rfl) (by rfl) (by simp[hw]) ?_
   exact zaq
  case o4=>
   simp[h8,h4,h5,h7,hd,hm,ex2]<;>rfl
  exact hP _ _ rfl (of_decide_eq_false hd)
theorem zsD (c:UInt8):0≤zbW c.toNat:=by
 have:=zkG c;unfold zbW zk8;split<;>(try split)<;>(try split)<;>omega
theorem zrT {call:zad} (hC:call.Sound prog TT) (s:List UInt8) (base:Nat) (at_:Int) (hb:base=2∨base=10∨base=16) (hlen:s.length<1100000)
    (hval:∀c:UInt8,∀H,call 94 [.i .u8 c.toNat,.i .i64 base] H=.val (.tup [.i .u64 (zbW c.toNat),.b (decide (zbW c.toNat<base))]) H)
    (htim:∀p:Nat×Nat×Nat×Nat,p.1<18446744073709551616∧p.2.1<18446744073709551616∧p.2.2.1<18446744073709551616∧p.2.2.2<18446744073709551616→∀H,call 96 [zd7 p.1 p.2.1,.i .u64 p.2.2.1,.i .u64 p.2.2.2] H=.val (zsy (zqT p.1 p.2.1 p.2.2.1 p.2.2.2)) H)
    (hmust:∀(b:Bool)(e k:Int)(H:zaa),call 55 [.b b,.i .i64 e,.i .i64 k] H=if b=true then .val .un H else .pan (zcA e k) H)
    {l:Nat}{rec:Loop}{t0:Tm}(hfn:∃f,prog.funcs[rec.fn]? = some f)(hst:rec.state=.ready)(hpd:rec.pending=none)(hps:rec.params=#[13])(hasg:rec.assign=zyB)(hbdy:rec.body=zyC)(hw0:t0.wid=27)(e4:t0.get 4=.ptr 0 0)(e5:t0.get 5=.ptr 1 0)(e7:t0.get 7=.ptr 2 0){Q:Out→List HE→Prop}
    (hP:∀(t':Tm)(H':zaa)(rec':Loop),H'.length=5→zdP base s 0=none→Q (.pan (zcA 33 at_) t' H') [⟨l,.loop rec',t0,rec.tmps⟩])
    (hE:∀(t':Tm)(a:Nat),zdP base s 0=some a→a<340282366920938463463374607431768211456→t'.wid=28→Q (.exit 0 t' (whH s base at_ (a%18446744073709551616) (a/18446744073709551616))) [⟨l,.loop rec,t0,rec.tmps⟩]) :
    ∀(L pre:List UInt8)(a:Nat)(t:Tm),s=pre++L→a<340282366920938463463374607431768211456→zdP base s 0=zdP base L a→t.wid=28→t.get 0=.yld l→t.get 1=.ptr 3 0→t.get 2=.ptr 4 0→t.get 8=.i .i64 (s.length:Nat)→t.get 9=.i .i64 (pre.length:Nat) →
    zgr prog TT none [⟨l,.loop rec,t0,rec.tmps⟩] (sub [true,false,false] (zae f109)) t (whH s base at_ (a%18446744073709551616) (a/18446744073709551616)) Q:=by
  have hrecE:(⟨l,.loop {rec with state:=if(none:Option Code).isNone then .ready else .done,pending:=none},t0,rec.tmps⟩:HE)=⟨l,.loop rec,t0,rec.tmps⟩:=by
    cases rec
    simp only at hst hpd
    subst hst hpd
    rfl
  intro L
  induction L with
  | nil=>
    intro pre a t hs ha hwh hw t0 t1 t2 t8 t9
    have hF:=ai @t0 (ai @t1 (ai @t2 (ai @t8 @t9)))
    have hnl:¬((pre.length:Int)<s.length):=by rw[hs];simp
    refine zgr.round ?_
    apply za7.seq
    refine za7.reg (t':=?t1) (H':=?H1) zah hC (by kernel_rfl) ?e1 ?q1
    case e1=>
      refine zax ?_
      refine zab rfl (by simp[hF,hnl]<;>rfl) (by rfl) (by simp[hw]) ?_
      exact zaq
    apply zaL
    apply za7.seq
    refine za7.cond (o:=?o2) (b:=?b2) ?g2 ?r2 ?y2 ?n2
    case g2=>simp[hF,hnl]<;>rfl
    case r2=>rfl
    case y2=>intro h;simp at h
    case n2=>
      intro _
      refine za7.exit ?_
      exact hE _ a (by rw[hwh];rfl) ha (by simp[hw])
  | cons c L ih=>
    intro pre a t hs ha hwh hw t0 t1 t2 t8 t9
    have hF:=ai @t0 (ai @t1 (ai @t2 (ai @t8 @t9)))
    have hlt:(pre.length:Int)<s.length:=by rw[hs];simp;omega
    refine zgr.round ?_
    apply za7.seq
    refine za7.reg (t':=?t1c) (H':=?H1c) zah hC (by kernel_rfl) ?e1c ?q1c
    case e1c=>
      refine zax ?_
      refine zab rfl (by simp[hF,hlt]<;>rfl) (by rfl) (by simp[hw]) ?_
      exact zaq
    apply zaL
    apply za7.seq
    refine za7.cond (o:=?o2c) (b:=?b2c) ?g2c ?r2c ?y2c ?n2c
    case g2c=>simp[hF,hlt]<;>rfl
    case r2c=>rfl
    case n2c=>intro h;simp at h
    case y2c =>
      intro _
      refine za7.skip ?_
      apply zaL
      apply za7.seq
      refine za7.block ?_
      apply za7.seq
      refine za7.reg (t':=?t3c) (H':=?H3c) zah hC (by kernel_rfl) ?e3c ?q3c
      case e3c=>
        refine zax ?_
        iterate 2 refine zab rfl (by simp[hF,hlt]<;>rfl) (by rfl) (by simp[hw]) ?_
        exact zaq
      apply zaL
      apply za7.seq
      have hat:atS s pre.length=c.toNat:=by rw[hs];exact zjL pre L c _ rfl
      have hin:((pre.length:Nat):Int).toNat=pre.length:=by omega
      have hv0:=zsD c
      obtain⟨v,hv⟩:∃v:Nat,zbW c.toNat=v:=⟨(zbW c.toNat).toNat,by omega⟩
      have hvl:=hval c
      rw[hv]at hvl
      refine za7.lift (Q2:=fun o=>∃t':Tm,o=.norm t' (whH s base at_ (a%18446744073709551616) (a/18446744073709551616))∧t'.wid=28∧t'.get 0=.yld l∧t'.get 1=.ptr 3 0∧t'.get 2=.ptr 4 0∧t'.get 5=.i .u64 v∧t'.get 6=.b (decide ((v:Int)<base))∧t'.get 8=.i .i64 (s.length:Nat)∧t'.get 9=.i .i64 (pre.length:Nat)) ?tri ?_
      case tri=>
        refine Tri.sym (R:=fun _=>False) zah hC zuY (by kernel_rfl) (σ:=[.uh (whH s base at_ (a%18446744073709551616) (a/18446744073709551616)),.uv (.yld l),.un 3,.un 4,.ui (pre.length:Nat),.ui (s.length:Nat),.us s,.ui base]) (by simp[hw]<;>rfl) rfl ⟨by simp[hF],by simp[hF],by simp[hF],by simp,by simp[hF],by simp[hF],trivial⟩ rfl ⟨by simp,by simp⟩ ?_
        simp -implicitDefEqProofs only[VC,isR,exU,Ask.den,forall_eq,E.den,O1.den,O2.den,O3.den,U.int_ui,U.boo_ub,U.val_uv,U.lst_ul,U.str_us,U.nat_un,U.heap_uh,SH.den,zaF,zbH,bD,SB.den,zas,LQ,cons_append,nil_append,List.getElem?_cons_zero,List.getElem?_cons_succ,Option.getD_some,zam,zai,zan,zaj,beq_iff_eq,bne_iff_ne,beq_eq_false_iff_ne,Int.toNat_natCast,hat]
        refine⟨by omega,hlt,.inl ⟨_,_,fun K=>hvl K,?_⟩⟩
        intro t' hw' f0 f1 f2 f5 f6 f8 f9
        exact⟨t',rfl,hw',f0,f1,f2,f5,f6,f8,f9⟩
      rintro _ ⟨t',rfl,hw',f0,f1,f2,f5,f6,f8,f9⟩
      refine⟨trivial,?_⟩
      apply zaL
      clear t0 t1 t2 t8 t9 hF
      have wr1:IntKind.i64.wrap ((pre.length:Int)+1)=(pre.length:Int)+1:=w64 (by omega) (by omega)
      have again:∀(a':Nat) (t3:Tm),a'<340282366920938463463374607431768211456→zdP base s 0=zdP base L a'→t3.wid=28→t3.get 0=.yld l→t3.get 1=.ptr 3 0→t3.get 2=.ptr 4 0→t3.get 8=.i .i64 (s.length:Nat)→t3.get 9=.i .i64 (pre.length:Nat) →
          za7 prog TT none [⟨l,.loop rec,t0,rec.tmps⟩] (sub [true,false,false,true,true,true] (zae f109)) t3 (whH s base at_ (a'%18446744073709551616) (a'/18446744073709551616)) (zlp prog TT none (sub [true,false,false] (zae f109)) Q):=by
        intro a' t3 ha' hwa' hw3 g0 g1 g2 g8 g9
        refine za7.reg (t':=?t9) (H':=?H9) zah hC (by kernel_rfl) ?e9 ?q9
        case e9=>
          refine zax ?_
          iterate 2 refine zab rfl (by simp[g0,g1,g2,g8,g9,wr1]<;>rfl) (by rfl) (by simp[zbj,zby,hw3,Nat.blt_eq]) ?_
          exact zaq
        refine zkf ?_
        refine ih (pre++[c]) a' _ ?_ ha' hwa' ?_ ?_ ?_ ?_ ?_ ?_
        · rw[hs];simp
        all_goals simp[hw3,g0,g1,g2,g8]
      apply za7.seq
      by_cases hvb:(v:Int)<base
      · rw [decide_eq_true hvb]at f6
        have hv16:v<16:=by rcases hb with rfl|rfl|rfl<;>omega
        have hwc:zdP base (c::L) a=if a*base+v<340282366920938463463374607431768211456 then zdP base L (a*base+v)else none:=by
          simp only[zdP]
          rw[hv,if_pos hvb,Int.toNat_natCast]
        by_cases hbig:a*base+v<340282366920938463463374607431768211456
        · refine za7.yield (vs:=[.i .u64 v]) (t1:=?ty) (H1:=?Hy) zah hC (by kernel_rfl) 4 hps hasg hbdy rfl ?ey ?gy rfl ?jy ?vy hfn rfl hst ?fy (by simp[hw0]) ?_
          case ey=>
            iterate 2 refine zab rfl (by simp[f0,f1,f2,f5,f6,f8,f9]<;>rfl) (by rfl) (by simp[zbj,zby,hw',Nat.blt_eq]) ?_
            iterate 2 refine zab (by simp[zaH]) (by simp[f0,f1,f2,f5,f6,f8,f9]<;>rfl) (by rfl) (by simp[zbj,zby,hw',Nat.blt_eq]) ?_
            exact zaq
          case gy=>simp[zaH]
          case jy=>simp[f0]
          case vy=>simp[f5]
          case fy=>simp[zbj,hw',Nat.blt_eq]
          refine zxE hC (v:=.i .u64 v) (by simp[zhE,hw0]) (by simp[zhE]) ?_
          intro tA hwA h8A hkA
          refine⟨_,_,_,rfl,rfl,?_⟩
          refine zxF hC s base at_ hb a v ha hv16 htim hmust hwA h8A (by rw[hkA 4 (by omega)];simp[zhE,e4]) (by rw[hkA 5 (by omega)];simp[zhE,e5]) (by rw[hkA 7 (by omega)];simp[zhE,e7]) (fun tB _=>?_) (fun _ _ _ h=>absurd hbig h)
          refine⟨_,rfl,none,_,⟨rfl,rfl⟩,?t26,?H26,?er6,?_⟩
          case er6=>
            refine zab (by simp[zaH]) (by simp[f0,f1,f2,f5,f6,f8,f9]<;>rfl) (by rfl) (by simp[zbj,zby,hw',Nat.blt_eq]) ?_
            refine zab rfl (by simp[f0,f1,f2,f5,f6,f8,f9]<;>rfl) (by rfl) (by simp[zbj,zby,hw',Nat.blt_eq]) ?_
            exact zaq
          rw[hrecE]
          apply zaL
          refine za7.cond (o:=?o8) (b:=?b8) ?g8 ?r8 ?y8 ?n8
          case g8=>simp[f6]<;>rfl
          case r8=>rfl
          case y8=>intro h;simp at h
          case n8=>
            intro _
            refine za7.skip ?_
            refine zdv ?_
            apply zaL
            refine again _ _ hbig (by rw[hwh,hwc,if_pos hbig]) ?_ ?_ ?_ ?_ ?_ ?_
            all_goals simp[hw',f0,f1,f2,f8,f9]
        · refine za7.yieldP (vs:=[.i .u64 v]) (t1:=?tz) (H1:=?Hz) zah hC (by kernel_rfl) 4 hps hasg hbdy rfl ?ez ?gz rfl ?jz ?vz hfn rfl hst (by simp[hw0]) ?_
          case ez=>
            iterate 2 refine zab rfl (by simp[f0,f1,f2,f5,f6,f8,f9]<;>rfl) (by rfl) (by simp[zbj,zby,hw',Nat.blt_eq]) ?_
            iterate 2 refine zab (by simp[zaH]) (by simp[f0,f1,f2,f5,f6,f8,f9]<;>rfl) (by rfl) (by simp[zbj,zby,hw',Nat.blt_eq]) ?_
            exact zaq
          case gz=>simp[zaH]
          case jz=>simp[f0]
          case vz=>simp[f5]
          refine zxE hC (v:=.i .u64 v) (by simp[zhE,hw0]) (by simp[zhE]) ?_
          intro tA hwA h8A hkA
          refine⟨_,_,_,rfl,rfl,?_⟩
          refine zxF hC s base at_ hb a v ha hv16 htim hmust hwA h8A (by rw[hkA 4 (by omega)];simp[zhE,e4]) (by rw[hkA 5 (by omega)];simp[zhE,e5]) (by rw[hkA 7 (by omega)];simp[zhE,e7]) (fun tB h=>absurd h hbig) (fun tB HB hl5 _=>?_)
          exact⟨_,_,_,_,rfl,rfl,hP _ _ _ hl5 (by rw[hwh,hwc,if_neg hbig])⟩
      · rw [decide_eq_false hvb]at f6
        have hwc:zdP base (c::L) a=zdP base L a:=by
          simp only[zdP]
          rw[hv,if_neg hvb]
        refine za7.reg (t':=?t7) (H':=?H7) zah hC (by kernel_rfl) ?e7 ?q7
        case e7=>
          refine zax ?_
          iterate 2 refine zab rfl (by simp[f0,f1,f2,f5,f6,f8,f9]<;>rfl) (by rfl) (by simp[zbj,zby,hw',Nat.blt_eq]) ?_
          iterate 4 refine zcp (by simp[zaH]) (by simp[zbj,zby,hw',Nat.blt_eq]) ?_
          refine zab rfl (by simp[f0,f1,f2,f5,f6,f8,f9]<;>rfl) (by rfl) (by simp[zbj,zby,hw',Nat.blt_eq]) ?_
          exact zaq
        apply zaL
        refine za7.cond (o:=?o6) (b:=?b6) ?g6 ?r6 ?y6 ?n6
        case g6=>simp[f6]<;>rfl
        case r6=>rfl
        case y6=>intro h;simp at h
        case n6=>
          intro _
          refine za7.skip ?_
          refine zdv ?_
          apply zaL
          refine again a _ ha (by rw[hwh,hwc]) ?_ ?_ ?_ ?_ ?_ ?_
          all_goals simp[hw',f0,f1,f2,f8,f9]
def zyD (s:List UInt8)(base at_:Int)(t:Tm):Option Nat→Out
 |some a=>.norm t (whH s base at_ (a%18446744073709551616) (a/18446744073709551616))
 |none=>.pan (zcA 33 at_) t [none,none,none,none,none]
theorem zrD {H:zaa}(h:H.length=5):HLe [none,none,none,none,none] H:=by
 refine⟨h.symm,fun i b hi=>?_⟩;match i,hi with
 |0,hi=>cases hi
 |1,hi=>cases hi
 |2,hi=>cases hi
 |3,hi=>cases hi
 |4,hi=>cases hi
 |n+5,hi=>simp at hi
theorem zrF {call:zad}(hC:call.Sound prog TT)(s:List UInt8)(base:Nat)(at_:Int)(hb:base=2∨base=10∨base=16)(hlen:s.length<1100000)
 (hval:∀c:UInt8,∀H,call 94 [.i .u8 c.toNat,.i .i64 base] H=.val (.tup [.i .u64 (zbW c.toNat),.b (decide (zbW c.toNat<base))]) H)
 (htim:∀p:Nat×Nat×Nat×Nat,p.1<18446744073709551616∧p.2.1<18446744073709551616∧p.2.2.1<18446744073709551616∧p.2.2.2<18446744073709551616→∀H,call 96 [zd7 p.1 p.2.1,.i .u64 p.2.2.1,.i .u64 p.2.2.2] H=.val (zsy (zqT p.1 p.2.1 p.2.2.1 p.2.2.2)) H)
 (hmust:∀(b:Bool)(e k:Int)(H:zaa),call 55 [.b b,.i .i64 e,.i .i64 k] H=if b=true then .val .un H else .pan (zcA e k) H)
 {l:Nat}{rec:Loop}{t0:Tm}(hfn:∃f,prog.funcs[rec.fn]? = some f)(hst:rec.state=.ready)(hpd:rec.pending=none)(hps:rec.params=#[13])(hasg:rec.assign=zyB)(hbdy:rec.body=zyC)(hw0:t0.wid=27)(e4:t0.get 4=.ptr 0 0)(e5:t0.get 5=.ptr 1 0)(e7:t0.get 7=.ptr 2 0) :
 za7 prog TT none [⟨l,.loop rec,t0,rec.tmps⟩] (zae f109) (Tm.init f109.ntmps [.yld l,.ptr 3 0,.ptr 4 0]) (whH s base at_ 0 0) (zog TT f109 l rec.tmps t0 (zyD s base at_ t0 (zdP base s 0)) []):=by
 have h0:(Tm.init f109.ntmps [.yld l,.ptr 3 0,.ptr 4 0]).get 0=.yld l:=by rw[zag];rfl
 have h1:(Tm.init f109.ntmps [.yld l,.ptr 3 0,.ptr 4 0]).get 1=.ptr 3 0:=by rw[zag];rfl
 have h2:(Tm.init f109.ntmps [.yld l,.ptr 3 0,.ptr 4 0]).get 2=.ptr 4 0:=by rw[zag];rfl
 have hw:(Tm.init f109.ntmps [.yld l,.ptr 3 0,.ptr 4 0]).wid=28:=rfl;generalize Tm.init f109.ntmps [.yld l,.ptr 3 0,.ptr 4 0]=t at *;apply za7.seq;refine za7.reg (t':=?t1) (H':=?H1) zah hC (by kernel_rfl) ?e1 ?q1;case e1=>
  refine zax ?_;iterate 3 refine zab rfl (by simp[h0,h1,h2]<;>rfl) (by rfl) (by simp[hw]) ?_
  exact zaq
 apply zaL;refine za7.block ?_;refine za7.loop ?_;refine zrT hC s base at_ hb hlen hval htim hmust hfn hst hpd hps hasg hbdy hw0 e4 e5 e7 ?_ ?_ s [] 0 _ rfl (by omega) rfl ?_ ?_ ?_ ?_ ?_ ?_
 ·intro t' H' rec' hl hn;rw[hn];exact .inr ⟨rec',_,t',H',[none,none,none,none,none],zrD hl,rfl,rfl,rfl⟩
 ·intro t' a ha _ hw';rw[ha];refine zlo ?_;exact .inl ⟨rec,_,_,.tup [],HLe.refl _,⟨_,.inl rfl,rfl⟩,rfl,by rw[hst];simp,.inl ⟨hpd,rfl⟩⟩
 all_goals simp[hw,h0,h1,h2]
theorem zlS (base:Nat):∀(L:List UInt8)(a b:Nat),zdP base L a=some b→a<340282366920938463463374607431768211456→b<340282366920938463463374607431768211456
 | [],a,b,h,ha=>by
  have h:=Option.some.inj h;rw[←h];exact ha
 |c::r,a,b,h,ha=>by
  simp only[zdP]at h;by_cases h1:zbW c.toNat<base
  ·rw[if_pos h1]at h;by_cases h2:a*base+(zbW c.toNat).toNat<340282366920938463463374607431768211456
   ·rw[if_pos h2]at h;exact zlS base r _ b h h2
   ·rw[if_neg h2]at h;cases h
  ·rw[if_neg h1]at h;exact zlS base r a b h ha
def zvb (base:Nat)(s:List UInt8)(at_:Int):Res:=match zdP base s 0 with
 |some a=>.val (.s (zk4 a))
 |none=>.pan (zcA 33 at_)
theorem zoD {call:zad}(hC:call.Sound prog TT)(s:List UInt8)(base:Nat)(at_:Int)(hb:base=2∨base=10∨base=16)(hlen:s.length<1100000)
 (hval:∀c:UInt8,∀H,call 94 [.i .u8 c.toNat,.i .i64 base] H=.val (.tup [.i .u64 (zbW c.toNat),.b (decide (zbW c.toNat<base))]) H)
 (htim:∀p:Nat×Nat×Nat×Nat,p.1<18446744073709551616∧p.2.1<18446744073709551616∧p.2.2.1<18446744073709551616∧p.2.2.2<18446744073709551616→∀H,call 96 [zd7 p.1 p.2.1,.i .u64 p.2.2.1,.i .u64 p.2.2.2] H=.val (zsy (zqT p.1 p.2.1 p.2.2.1 p.2.2.2)) H)
 (hmust:∀(b:Bool)(e k:Int)(H:zaa),call 55 [.b b,.i .i64 e,.i .i64 k] H=if b=true then .val .un H else .pan (zcA e k) H)
 (hdig:∀(s:List UInt8)(base:Int)(H:zaa),call 95 [.s s,.i .i64 base] H=.val (.fn 109 [.ptr H.length 0,.ptr (H.length+1) 0]) (H++zoZ s base))
 (htxt:∀p:Nat×Nat,p.1<18446744073709551616∧p.2<18446744073709551616→∀H,call 97 [zd7 p.1 p.2] H=.val (.s (zk4 (p.1+p.2*18446744073709551616))) H) :
 zlW prog TT 76 [.s s,.i .i64 base,.i .i64 at_] [] (isR (zvb base s at_)):=by
 have ex1:TT.ext 95=none:=rfl;have ex2:TT.ext 97=none:=rfl;refine⟨f76,_,rfl,rfl,by simp[f76],?_⟩;have h0:(Tm.init f76.ntmps [.s s,.i .i64 base,.i .i64 at_]).get 0=.s s:=by rw[zag];rfl
 have h1:(Tm.init f76.ntmps [.s s,.i .i64 base,.i .i64 at_]).get 1=.i .i64 base:=by rw[zag];rfl
 have h2:(Tm.init f76.ntmps [.s s,.i .i64 base,.i .i64 at_]).get 2=.i .i64 at_:=by rw[zag];rfl
 have hw:(Tm.init f76.ntmps [.s s,.i .i64 base,.i .i64 at_]).wid=27:=rfl;generalize Tm.init f76.ntmps [.s s,.i .i64 base,.i .i64 at_]=t at *;apply za7.seq;refine za7.reg (t':=?t1) (H':=?H1) zah hC (by kernel_rfl) ?e1 ?q1;case e1=>
  refine zax ?_;iterate 3 refine zab rfl (by simp[h0,h1,h2]<;>rfl) (by rfl) (by simp[hw]) ?_
  exact zaq
 apply zaL;apply za7.seq;refine za7.reg (t':=?t2) (H':=?H2) zah hC (by kernel_rfl) ?e2 ?q2;case e2=>
  refine zax ?_;refine zab rfl (by simp[h0,h1,h2]<;>rfl) (by rfl) (by simp[hw]) ?_;exact zaq
 apply zaL;iterate 2 apply za7.seq
 refine za7.reg (t':=?t3) (H':=?H3) zah hC (by kernel_rfl) ?e3 ?q3;case e3=>
  refine zax ?_;iterate 3 refine zab rfl (by simp[h0,h1,h2,hdig,zoZ,ex1]<;>rfl) (by rfl) (by simp[hw]) ?_
  exact zaq
 apply zaL;refine za7.block ?_;refine za7.range (gv:=some (.fn 109 [.ptr 3 0,.ptr 4 0])) (oz:=?oz) (hsz:=[]) zah (by simp) rfl Tryz.func109 rfl (zah.func 109 _ _ rfl rfl).2 (by decide) (by simp) ?hQ ?hI;case hI=>
  intro l rec hfn hst hpd hps hasg hbdy;refine zrF hC s base at_ hb hlen hval htim hmust hfn hst hpd hps hasg hbdy ?_ ?_ ?_ ?_;all_goals simp[hw]
 case hQ=>
  cases hF:zdP base s 0 with
  |none=>
   simp only[zyD,zvb,hF];exact rfl
  |some a=>
   have hlt:=zlS base s 0 a hF (by omega);have ht:=htxt (a%18446744073709551616,a/18446744073709551616) ⟨by simp only;omega,by simp only;omega⟩;rw[show a%18446744073709551616+a/18446744073709551616*18446744073709551616=a from by omega]at ht;simp only[zd7]at ht;simp only[zyD,zvb,hF];generalize a%18446744073709551616=lo at ht ⊢;generalize a/18446744073709551616=hi at ht ⊢;clear hlt;refine zdv ?_;apply zaL;apply za7.seq;refine za7.reg (t':=?t5) (H':=?H5) zah hC (by kernel_rfl) ?e5 ?q5;case e5=>
    refine zax ?_;iterate 3 refine zab rfl (by simp[h0,h1,h2,ht,ex2]<;>rfl) (by rfl) (by simp[hw]) ?_
    exact zaq
   apply zaL;refine za7.ret ?_;refine⟨.s (zk4 a),rfl,?_⟩;simp[f76]
theorem zuI {P:Program} {T:Tab} (hp:T.Plain) (F:FuncId) {α:Type} (enc:α→List V) (D:α→Prop) (r:α→Res) (hnl:∀a,D a→nlL (enc a)=true∧(r a).nl=true) (inj:∀a b,D a→D b→enc a=enc b→r a=r b)
    (h:∀a,D a→zcm P T F (enc a) [] (isR (r a))):∃g,zap P T F g∧∀a,D a→∀H,g (enc a) H=(r a).at H:=by
  classical
  refine⟨fun vs H=>if hd:∃a,D a∧vs=enc a then(r hd.choose).at H else .no,?_,?_⟩
  · intro vs H q hq hne
    simp only at hq
    split at hq
    · rename_i hd
      obtain⟨ha,he⟩:=hd.choose_spec
      generalize hd.choose=a at ha he hq
      subst he
      obtain⟨x,hx,_,hent,hw⟩:=h a ha
      refine⟨hent,fun M ρ w args hS hr=>?_⟩
      have k:=hw M [] w args (hS.forget hp) (nlL_rel (σ:=[]) _ args (hnl a ha).1 hr)
      subst hq
      have hn:=(hnl a ha).2
      cases hra:r a with
      | val v=>
        rw[hra]at hx hn
        cases x with
        | val v' J=>
          have hx:Res.val v=.val v':=hx
          cases hx
          refine Calls.mono k ?_
          rintro e w' ⟨y,M',σ,rfl,he,hy,hk⟩
          exact⟨y,M',ρ,rfl,he.recall,zdM v y hn hy,hS.recall hk he⟩
        |pan v' J=>cases(show Res.val v=.pan v' from hx)
        |no=>exact hx.elim
      | pan v=>
        rw[hra]at hx hn
        cases x with
        | pan v' J=>
          have hx:Res.pan v=.pan v':=hx
          cases hx
          refine Calls.mono k ?_
          rintro e w' ⟨y,M',σ,rfl,he,hy,hk⟩
          exact⟨y,M',ρ,rfl,he.recall,zdM v y hn hy,hS.recall hk he⟩
        |val v' J=>cases(show Res.pan v=.val v' from hx)
        |no=>exact hx.elim
    · exact absurd hq.symm hne
  · intro a ha H
    have hd:∃b,D b∧enc a=enc b:=⟨a,ha,rfl⟩
    obtain⟨h1,h2⟩:=hd.choose_spec
    show(if hd:∃b,D b∧enc a=enc b then(r hd.choose).at H else .no)=_
    rw[dif_pos hd,inj a _ ha h1 h2]
theorem zwR:∃g,zap prog TT 76 g∧∀(s:List UInt8) (base:Nat) (at_:Int),base=2∨base=10∨base=16→s.length<1100000→∀H,g [.s s,.i .i64 base,.i .i64 at_] H=(zvb base s at_).at H:=by
  obtain⟨g1,k1,s1⟩:=zqs
  obtain⟨g2,k2,s2⟩:=zd3
  obtain⟨g3,k3,s3⟩:=zwX
  obtain⟨g4,k4,s4⟩:=zwW
  obtain⟨g5,k5,s5⟩:=zwY
  have hC:=ws (ws (ws (ws (ws n0 k1) k2) k3) k4) k5
  obtain⟨g,k,h⟩:=zuI (P:=prog) (T:=TT) zat 76 (fun p:List UInt8×Nat×Int=>[.s p.1,.i .i64 p.2.1,.i .i64 p.2.2]) (fun p=>(p.2.1=2∨p.2.1=10∨p.2.1=16)∧p.1.length<1100000) (fun p=>zvb p.2.1 p.1 p.2.2)
    (fun p _=>⟨rfl,by unfold zvb;cases zdP p.2.1 p.1 0<;>rfl⟩)
    (fun p q _ _ he=>by
      simp only[List.cons.injEq,V.s.injEq,V.i.injEq,true_and,and_true,Int.ofNat_inj]at he
      obtain⟨h1,h2,h3⟩:=he
      rw[h1,h2,h3])
    (fun p hp=>zlW.fact zah (zoD hC p.1 p.2.1 p.2.2 hp.1 hp.2
      (fun c H=>by rw[zac _ _ _ _ rfl,zac _ _ _ _ rfl,zac _ _ _ _ rfl,zac _ _ _ _ rfl,zao];exact s1 _ _ (by omega) (by have:=c.toNat_lt;omega) (by have:=hp.1;omega) H)
      (fun q hq H=>by rw[zac _ _ _ _ rfl,zac _ _ _ _ rfl,zao];exact s3 q hq H)
      (fun b e k H=>by rw[zac _ _ _ _ rfl,zac _ _ _ _ rfl,zac _ _ _ _ rfl,zao];exact s2 b e k H)
      (fun s b H=>by rw[zac _ _ _ _ rfl,zao];exact s4 s b H)
      (fun q hq H=>by rw[zao];exact s5 q hq H)))
  exact⟨g,k,fun s base at_ hb hs H=>h (s,base,at_) ⟨hb,hs⟩ H⟩
end Go.Ev
