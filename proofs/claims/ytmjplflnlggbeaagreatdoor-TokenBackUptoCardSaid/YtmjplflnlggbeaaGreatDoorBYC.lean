/- Walks over parts of a number. A number at a place. Walks over a comment of a line. Walks over blanks and comments. Blanks and comments at a place. A string of the second kind. Walks over a literal with marks. Walks over an escape. Escapes, literals and names of the reference. The decimal digits of a number, as an answer for the evaluator. Walks over the symbols. Where a token at a place ends. The token at a place. Walks over the tokens of a text. The tokens of a text: the walk. The tokens of a text. A text that is a number is one token. Bytes and names: letter, digit, part, word, ident, IsIdent. The scanner's faults, as values. Walks: must. What must and value return. digits and whole. Walks and specification: a run of digits. Walks and specification: an exponent. What is left of the text at a place. Walks and specification: HasPrefix. Walks and specification: sign. What look-ups in small maps and must come to. -/
import Derived.Test.YtmjplflnlggbeaaGreatDoorBT15
import Derived.Shelf.LaysM
import Derived.Shelf.Strconv.Itoa3
import Derived.Test.YtmjplflnlggbeaaGreatDoorBEvPart2
import Derived.Test.YtmjplflnlggbeaaGreatDoorBSy3
namespace Go.Ev
open Go Go.Proofs
set_option linter.unusedSimpArgs false
set_option linter.unusedVariables false
set_option linter.unnecessarySimpa false
open Tryz List
set_option maxRecDepth 100000
def zpW (s:List UInt8)(k:Nat):Nat×List UInt8:=if((atR s k==43)||(atR s k==45))=true then(k+1,(s.take (k+1)).drop k)else(k,[])
def zyB (s:List UInt8) (e:Nat) (text:List UInt8) (k:Int):Option (Nat×List UInt8×Int):=if((atR s e==101)||(atR s e==69))=true then
    if(zdD 10 (s.drop (zpW s (e+1)).1) [] false).2=[]then none else some ((zpW s (e+1)).1+(zdD 10 (s.drop (zpW s (e+1)).1) [] false).1,text++101::((zpW s (e+1)).2++(zdD 10 (s.drop (zpW s (e+1)).1) [] false).2),4)
  else some (e,text,k)
theorem zuU {s:List UInt8}{i:Nat}(h:atR s i≠0):i<s.length:=by
 unfold atR at h;by_cases hi:i<s.length
 ·exact hi
 ·rw[List.getElem?_eq_none (by omega)]at h;exact absurd rfl h
def ztd (s:List UInt8)(e:Nat)(d:List UInt8):Nat×List UInt8×Int:=if((atR s e==46)&&decide (0≤zdP (atR s (e+1)) 10))=true then(e+1+(zdD 10 (s.drop (e+1)) [] false).1,d++46::(zdD 10 (s.drop (e+1)) [] false).2,4)else(e,d,3)
def zvF (s:List UInt8)(e:Nat)(d:List UInt8):Option (Nat×List UInt8×Int):=zyB s (ztd s e d).1 (ztd s e d).2.1 (ztd s e d).2.2
def zw1 (k:Int)(t:List UInt8):V:=.agg [.i .i64 k,.s t,.i .i64 0,.b false]
def zxo:V:=.tup [zw1 0 [],.i .i64 0,.i .i64 33]
def okV (k:Int)(t:List UInt8)(e:Nat):V:=.tup [zw1 k t,.i .i64 e,.i .i64 0]
def znK (s d:List UInt8)(base e:Nat)(text:List UInt8)(k:Int)(v:V):Prop:=
 (((d==[])||zeE (atR s e))=true∧v=zxo)∨(((d==[])||zeE (atR s e))=false∧((k=4∧v=okV 4 text e)∨(k=3∧((∃o,ziz o∧zdv o=zni base d 0∧zni base d 0≤zdv zo3∧v=okV 3 o e)∨(zdv zo3<zni base d 0∧v=zxo)))))
def zyj (s:List UInt8)(i:Nat)(v:V):Prop:=
 if ziH s i [48,120]=true then znK s (zdD 16 (s.drop (i+2)) [] false).2 16 (i+2+(zdD 16 (s.drop (i+2)) [] false).1) (zdD 16 (s.drop (i+2)) [] false).2 3 v
 else if ziH s i [48,98]=true then znK s (zdD 2 (s.drop (i+2)) [] false).2 2 (i+2+(zdD 2 (s.drop (i+2)) [] false).1) (zdD 2 (s.drop (i+2)) [] false).2 3 v
 else(zvF s (i+(zdD 10 (s.drop i) [] false).1) (zdD 10 (s.drop i) [] false).2=none∧v=zxo)∨∃e' t' k',zvF s (i+(zdD 10 (s.drop i) [] false).1) (zdD 10 (s.drop i) [] false).2=some (e',t',k')∧znK s (zdD 10 (s.drop i) [] false).2 10 e' t' k' v
def vaR (S:V→Prop):OR→Prop
 | .val v _=>S v
 |_=>False
theorem zaH.va {F:FuncId}{vs:List V}{S:V→Prop}(h:zaH prog TT F vs [] (vaR S)):zbY prog TT F vs (fun x=>∃v,x=.val v∧S v):=by
 obtain⟨fn,c,h1,h2,h3,h4⟩:=h;refine⟨fn,c,h1,h2,h3,h4.mono fun o ho=>?_⟩;cases o with
 |norm t H=>obtain⟨v,k1,k2⟩:=ho;exact⟨_,⟨v,rfl,k1⟩,k2⟩
 |ret t H=>obtain⟨v,k1,k2⟩:=ho;exact⟨_,⟨v,rfl,k1⟩,k2⟩
 |pan v t H=>exact ho.elim
 |exit j t H=>exact ho.elim
 |no=>exact ho.elim
section
variable {call:zad} (hC:call.Sound prog TT) (s:List UInt8) (hsl:s.length<100000000) (S:V→Prop)
  (ha:∀(j:Nat) H,call 64 [.s s,.i .i64 j] H=.val (.i .u8 (atR s j)) H) (hwd:∀(j:Nat) H,call 63 [.i .u8 (atR s j)] H=.val (.b (zeE (atR s j))) H) (hd1:∀(j:Nat) H,call 57 [.i .u8 (atR s j),.i .i64 10] H=.val (.i .i64 (zdP (atR s j) 10)) H)
  (hdg:∀(b:Int)(j:Nat),b=2∨b=10∨b=16→j≤s.length→∀H,call 83 [.s s,.i .i64 j,.i .i64 b] H=.val (.tup [.i .i64 ((j+(zdD b (s.drop j) [] false).1:Nat):Int),.s (zdD b (s.drop j) [] false).2]) H)
include hC ha hwd in
include hC hsl ha hwd hdg in
include hC hsl ha hwd hdg in
include hC hsl ha hwd hdg in
include hC hsl ha hwd hdg hd1 in
end
theorem zqL {s:List UInt8}{i:Nat}{t:List UInt8}(h:ziH s i t=true):i+t.length≤s.length:=by
 simp only[ziH,Bool.and_eq_true,decide_eq_true_eq]at h;exact h.1
def lnL:List UInt8→Nat
 | []=>0
 |b::l=>if(b==10)=true then 0 else lnL l+1
def cmF (s:List UInt8):Nat→Nat→Nat→Bool→Bool×Nat×Bool
 |0,i,_,l=>(false,i,l)
 |n+1,i,d,l=>if d=0 then(true,i,l)else if s.length≤i then(false,i,l)
  else if ziH s i [47,42]=true then cmF s n (i+2) (d+1) l
  else if ziH s i [42,47]=true then cmF s n (i+2) (d-1) l
  else cmF s n (i+1) d (l||(atR s i==10))
theorem zsJ {s:List UInt8}{i:Nat}{b:UInt8}(h:s[i]? = some b):atR s i=b.toNat:=by unfold atR;rw[h]
def zwT (s : List UInt8) (i j : Nat) : List UInt8 := (s.take j).drop i
def zjF (s : List UInt8) : Nat → Nat → Bool → Nat × Bool × Int
  | 0, i, l => (i, l, -1)
  | n + 1, i, l => if s.length ≤ i then (i, l, -1)
    else if ((atR s i == 10) : Bool) = true then zjF s n (i + 1) true
    else if (((atR s i == 32) || (atR s i == 9)) || (atR s i == 13)) = true then zjF s n (i + 1) l
    else if ziH s i [47, 47] = true then (if Lib.validD (zwT s i (i + lnL (s.drop i))) = true then zjF s n (i + lnL (s.drop i)) l else (i, l, i))
    else if ziH s i [47, 42] = true then (if (cmF s (s.length + 1) (i + 2) 1 l).1 = true then
        (if Lib.validD (zwT s i (cmF s (s.length + 1) (i + 2) 1 l).2.1) = true then zjF s n (cmF s (s.length + 1) (i + 2) 1 l).2.1 (cmF s (s.length + 1) (i + 2) 1 l).2.2 else (i, (cmF s (s.length + 1) (i + 2) 1 l).2.2, i))
      else (i, (cmF s (s.length + 1) (i + 2) 1 l).2.2, i))
    else (i, l, -1)
theorem ztn {s : List UInt8} {i : Nat} (h : ziH s i [47, 47] = true) : 0 < lnL (s.drop i) := by
 have h1 := zqL h;simp only [ziH, Bool.and_eq_true, beq_iff_eq, List.length_cons, List.length_nil] at h h1;have h2 := h.2;have h3 : i < s.length := by omega
 have h4 : ((s.take (i + 2)).drop i)[0]? = some 47 := by rw [h2]; rfl
 rw [List.getElem?_drop, List.getElem?_take_of_lt (by omega)] at h4;rw [List.drop_eq_getElem_cons h3];have h5 : s[i] = 47 := by
  have := List.getElem?_eq_getElem h3;simp only [Nat.add_zero] at h4;rw [this] at h4;exact Option.some.inj h4
 simp [lnL, h5]
section
variable {call : zad} (hC : call.Sound Tryz.prog TT) (s : List UInt8) (hsl : s.length < 100000000) (hbg : ∀ (i : Nat) (a b : UInt8), i < 100000000 → ∀ H, call 56 [.s s, .i .i64 i, .s [a, b]] H = .val (.b (ziH s i [a, b])) H) (hvd : ∀ x : List UInt8, x.length < 100000000 → ∀ H, call 36 [.s x] H = .val (.b (Lib.validD x)) H)
include hC hsl hvd in
include hC hsl hbg hvd in
include hC hsl hbg hvd in
include hC hsl hbg hvd in
end
theorem zlK:∃g,zao prog TT 36 g∧∀s:List UInt8,s.length<100000000→∀H,g [.s s] H=.val (.b (Lib.validD s)) H:=⟨zjv,zyE,fun s hs H=>by
 have:s.length<4294967281:=by omega
 simp only[zjv];rw[if_pos this]⟩
def zya (s:List UInt8):Nat→Nat→Option Nat
 |0,_=>none
 |n+1,k=>if k+3≤s.length then(if((s.take (k+3)).drop k==[34,34,34])=true then some k else zya s n (k+1))else none
def zxz (s:List UInt8)(esc:Nat→Option (List UInt8×Nat))(mk:Int):Nat→Nat→List UInt8→Option (List UInt8×Nat)
 |0,_,_=>none
 |n+1,i,out=>if s.length≤i then none else if((atR s i==10):Bool)=true then none
  else if((atR s i==mk):Bool)=true then some (out,i+1)
  else if((atR s i==92):Bool)=true then(match esc i with|some p=>zxz s esc mk n p.2 (out++p.1)|none=>none)
  else zxz s esc mk n (i+1) (out++(s.take (i+1)).drop i)
def zx8:Option (List UInt8×Nat)→List UInt8×Nat×Bool
 |some p=>(p.1,p.2,Lib.validD p.1)
 |none=>([],0,false)
def zx2 (c:Int)(ok:Bool):List UInt8→List UInt8→Option (List UInt8)
 |x::xs,y::ys=>if((c==(x.toNat:Int))&&ok)=true then some [y]else zx2 c ok xs ys
 |_,_=>none
def zx3 (s:List UInt8)(i:Nat):Nat→Nat→Int→Option Int
 |0,_,n=>some n
 |m+1,k,n=>if zdP (atR s (i+2+k)) 16<0 then none else zx3 s i m (k+1) (n*16+zdP (atR s (i+2+k)) 16)
def zyA (i m:Nat)(v:Int):Option (List UInt8×Nat):=
 if((((((m:Int)==0)||(((m:Int)==2)&&decide (127<v)))||decide (1114111<v)))||(decide (55296≤v)&&decide (v<57344)))=true then none else some (zho [v],i+2+m)
def zvl (c:Int):Nat:=if(c==120)=true then 2 else if(c==117)=true then 4 else if(c==85)=true then 6 else 0
def zyy:List UInt8:=[110,116,114,48,92,34,39]
def zyx:List UInt8:=[10,9,13,0,92,34,39]
def zyz (s:List UInt8)(i:Nat):Option (List UInt8×Nat):=
 match zx2 (atR s (i+1)) (decide ((i:Int)+1<s.length)) zyy zyx with
 |some t=>some (t,i+2)
 |none=>match zx3 s i (zvl (atR s (i+1))) 0 0 with
  |none=>none
  |some v=>zyA i (zvl (atR s (i+1))) v
section
variable {call:zad}(hC:call.Sound prog TT)(s:List UInt8)(i:Nat)(hi:i<1000000000)(c2:∀(j:Nat) H,call 64 [.s s,.i .i64 j] H=.val (.i .u8 (atR s j)) H)(c3:∀c:Int,0≤c→c<256→∀H,call 57 [.i .u8 c,.i .i64 16] H=.val (.i .i64 (zdP c 16)) H)
include hC hi c2 c3 in
include hC hi c2 c3 in
include hC hi c2 c3 in
end
end Go.Ev
-- no T33
namespace Go.Ev
open Go Go.Proofs
set_option maxRecDepth 1000000
set_option linter.unusedVariables false
theorem zpB (v:Int):(zho [v]).length≤4:=by
 have h:=foldl_size_le [v] ByteArray.empty;have e:(zho [v]).length=(([v]:List Int).foldl (fun r n=>r++Utf8.encode n) ByteArray.empty).size:=by
  unfold zho;rw[Array.length_toList];rfl
 rw[e];exact h
def zx9 (s:List UInt8)(mk:Int)(i:Nat):Option (List UInt8×Nat):=zxz s (zyz s) mk (s.length+1) (i+1) []
end Go.Ev
namespace Go.Proofs
def Tryz.laysM171_ren:Go.Shelf.Ren:=⟨fun|171=>61|243=>86|246=>104|283=>117|284=>118|285=>119|286=>120|129=>129|317=>128|318=>130|319=>131|320=>132|337=>139|338=>140|n=>n,fun|3=>3|9=>9|2=>2|4=>4|171=>174|0=>0|53=>119|37=>64|5=>5|173=>177|212=>196|51=>125|20=>20|213=>197|46=>72|232=>225|233=>226|n=>n,fun|17=>8|18=>9|19=>10|n=>n⟩
theorem Tryz.laysM171:Go.Proofs.LaysM.n171 Tryz.prog Tryz.laysM171_ren:={
 mixed:=by kernel_rfl
 f129:=Tryz.func129.trans (congrArg some (by kernel_rfl))
 f171:=Tryz.func61.trans (congrArg some (by kernel_rfl))
 f243:=Tryz.func86.trans (congrArg some (by kernel_rfl))
 f246:=Tryz.func104.trans (congrArg some (by kernel_rfl))
 f283:=Tryz.func117.trans (congrArg some (by kernel_rfl))
 f284:=Tryz.func118.trans (congrArg some (by kernel_rfl))
 f285:=Tryz.func119.trans (congrArg some (by kernel_rfl))
 f286:=Tryz.func120.trans (congrArg some (by kernel_rfl))
 f317:=Tryz.func128.trans (congrArg some (by kernel_rfl))
 f318:=Tryz.func130.trans (congrArg some (by kernel_rfl))
 f319:=Tryz.func131.trans (congrArg some (by kernel_rfl))
 f320:=Tryz.func132.trans (congrArg some (by kernel_rfl))
 f337:=Tryz.func139.trans (congrArg some (by kernel_rfl))
 f338:=Tryz.func140.trans (congrArg some (by kernel_rfl))
 t0:=Tryz.underlying0
 a0:=Tryz.isAgg0
 z0:=Tryz.sizeOf0
 v0:=Tryz.zeroValue0
 t2:=Tryz.underlying2
 a2:=Tryz.isAgg2
 z2:=Tryz.sizeOf2
 v2:=Tryz.zeroValue2
 t3:=Tryz.underlying3
 a3:=Tryz.isAgg3
 z3:=Tryz.sizeOf3
 v3:=Tryz.zeroValue3
 t4:=Tryz.underlying4
 a4:=Tryz.isAgg4
 z4:=Tryz.sizeOf4
 v4:=Tryz.zeroValue4
 t5:=Tryz.underlying5
 a5:=Tryz.isAgg5
 z5:=Tryz.sizeOf5
 v5:=Tryz.zeroValue5
 t9:=Tryz.underlying9
 a9:=Tryz.isAgg9
 z9:=Tryz.sizeOf9
 v9:=Tryz.zeroValue9
 t20:=Tryz.underlying20
 a20:=Tryz.isAgg20
 z20:=Tryz.sizeOf20
 v20:=Tryz.zeroValue20
 t37:=Tryz.underlying64
 a37:=Tryz.isAgg64
 z37:=Tryz.sizeOf64
 v37:=Tryz.zeroValue64
 t46:=Tryz.underlying72
 a46:=Tryz.isAgg72
 z46:=Tryz.sizeOf72
 v46:=Tryz.zeroValue72
 t51:=Tryz.underlying125
 a51:=Tryz.isAgg125
 z51:=Tryz.sizeOf125
 v51:=Tryz.zeroValue125
 t53:=Tryz.underlying119
 a53:=Tryz.isAgg119
 z53:=Tryz.sizeOf119
 v53:=Tryz.zeroValue119
 t171:=Tryz.underlying174
 a171:=Tryz.isAgg174
 z171:=Tryz.sizeOf174
 v171:=Tryz.zeroValue174
 t173:=Tryz.underlying177
 a173:=Tryz.isAgg177
 z173:=Tryz.sizeOf177
 v173:=Tryz.zeroValue177
 t212:=Tryz.underlying196
 a212:=Tryz.isAgg196
 z212:=Tryz.sizeOf196
 v212:=Tryz.zeroValue196
 t213:=Tryz.underlying197
 a213:=Tryz.isAgg197
 z213:=Tryz.sizeOf197
 t232:=Tryz.underlying225
 a232:=Tryz.isAgg225
 z232:=Tryz.sizeOf225
 v232:=Tryz.zeroValue225
 t233:=Tryz.underlying226
 a233:=Tryz.isAgg226
 z233:=Tryz.sizeOf226
 v233:=Tryz.zeroValue226
 g17:=by kernel_rfl
 g18:=by kernel_rfl
 g19:=by kernel_rfl
 i0:=by kernel_rfl
 i2:=by kernel_rfl
 i3:=by kernel_rfl
 i4:=by kernel_rfl
 i5:=by kernel_rfl
 i9:=by kernel_rfl
 i20:=by kernel_rfl
 i37:=by kernel_rfl
 i46:=by kernel_rfl
 i51:=by kernel_rfl
 i53:=by kernel_rfl
 i171:=by kernel_rfl
 i173:=by kernel_rfl
 i212:=by kernel_rfl
 i232:=by kernel_rfl
 i233:=by kernel_rfl
 m17:=by kernel_rfl
 m18:=by kernel_rfl
 m19:=by kernel_rfl}
end Go.Proofs
namespace Go.Ev
open Go Go.Proofs
open Go.RowKit (Below)
set_option maxRecDepth 100000
def zfW:List V→zaa→OR
 | [.i .i64 n],H=>if -9223372036854775808≤n∧n≤9223372036854775807 then .val (.s (Lib.itoa n)) H else .no
 |_,_=>.no
theorem zlP {M:Mem} {ρ:Ren} {H:zaa} {w:World} (hS:SR TT M ρ H w):Lib.TabIs Tryz.prog w "internal/strconv.uint64pow10" .u64 Lib.pow10Tab:=by
  obtain⟨cs,ty,fr,hM,hr⟩:=hS.glob 8 _ rfl
  have hw:=hS.frozen _ _ hM
  have hg:Tryz.prog.globalNamed "internal/strconv.uint64pow10" = some 8:=by kernel_rfl
  unfold Lib.TabIs World.var?
  rw[hg]
  simp only[Option.bind_some,hw]
  congr 2
  have key:∀(l:List Int) (cs:List Value),relL M ρ (l.map fun z=>V.i .u64 z) cs→cs=l.map fun z=>Value.int .u64 z:=by
    intro l
    induction l with
    |nil=>intro cs h;simpa[relL]using h
    | cons z l ih=>
      intro cs h
      simp only[List.map_cons,relL,rel]at h
      obtain⟨x,r,rfl,rfl,hr⟩:=h
      rw[ih r hr]
      rfl
  refine key Lib.pow10Tab cs ?_
  have e:(Lib.pow10Tab.map fun z=>V.i .u64 z)=((List.range 20).map fun i=>V.i .u64 ((10^i:Nat):Int)):=by
    simp only[Lib.pow10Tab,List.map_map]
    rfl
  rw[e]
  exact hr
theorem zxu:zao Tryz.prog TT 61 zfW:=by
 intro vs H r h hne;unfold zfW at h;split at h
 ·rename_i H n;split at h
  ·rename_i hc;subst h;refine⟨zcj (f:=61) rfl rfl,fun M ρ w args hS hr=>?_⟩;have ha:args=[.int .i64 n]:=by
    simp only[relL,rel]at hr;obtain⟨x,r,rfl,rfl,rfl⟩:=hr;rfl
   rw[ha];refine zbj (x:=.string ⟨(Lib.itoa n).toArray⟩) hS ?_ (by simp only[rel]);refine(Any.strconv_Itoa Tryz.laysM171 n hc.1 hc.2 w (zlP hS)).mono ?_;rintro e w' ⟨rfl,k,os,rfl⟩;exact⟨rfl,rfl,rfl,rfl,by simp[Sort.grow,World.drewN],fun j hj=>by simp only[Sort.grow,World.drewN];rw[Array.getElem?_append_left hj]⟩
  ·exact absurd h.symm hne
 ·exact absurd h.symm hne
end Go.Ev
namespace Go.Ev
open Go Go.Proofs
set_option linter.unusedSimpArgs false
set_option linter.unusedVariables false
set_option linter.unnecessarySimpa false
open Tryz List
set_option maxRecDepth 1000000
def zft (x:List UInt8):Int:=match x.getLast? with|some b=>b.toNat|none=>0
def okS (s:List UInt8)(i:Nat)(best x:List UInt8):Bool:=decide (best.length<x.length)&&(ziH s i x&&(!(zhy (zft x)) || !(zeE (atR s (i+x.length)))))
def zyg (s:List UInt8)(i:Nat):List (List UInt8)→List UInt8→List UInt8
 | [],best=>best
 |x::l,best=>zyg s i l (if okS s i best x=true then x else best)
def zvy (k:Int)(t:List UInt8)(e:Int):V:=.tup [zw1 k t,.i .i64 e,.i .i64 0]
def zvx (c:Int):V:=.tup [zw1 0 [],.i .i64 0,.i .i64 c]
def zyO (i:Nat)(b:List UInt8):V:=if b=[]then zvx 30 else zvy 6 b ((i:Int)+b.length)
theorem zsg {s:List UInt8}{i:Nat}(h:i≤s.length):i≤idR s i∧idR s i≤s.length:=by
 unfold idR;split
 ·exact⟨Nat.le_refl _,h⟩
 ·have h1:=zlA (s.drop i);have h2:=zpy (s.drop (i+zdH (s.drop i)));simp only[length_drop]at h1 h2;omega
def zyL (s:List UInt8)(i:Nat):List UInt8×Nat×Bool:=match zya s (s.length+1) (i+3)with
 |none=>([],0,false)
 |some k=>(zwT s (i+3) k,k+3,Lib.validD (zwT s (i+3) k))
def zyf (p:List UInt8×Nat×Bool):V:=if p.2.2=true then zvy 5 p.1 p.2.1 else zvx 31
def zyo (p:List UInt8×Nat×Bool):V:=if p.2.2=true then(match zim p.1 with
 | [.i .i32 r]=>zvy 3 (Lib.itoa (IntKind.i64.wrap r)) p.2.1
 |_=>zvx 31)else zvx 31
def zyN (s:List UInt8)(i:Nat):V:=zyO i (zyg s i syL [])
def zxX (s:List UInt8)(i:Nat)(v:V):Prop:=
 if i<idR s i then v=zvy (if(kwL.any fun x=>x==(s.take (idR s i)).drop i)=true then 2 else 1) ((s.take (idR s i)).drop i) (idR s i)
 else if 0≤zdP (atR s i) 10 then zyj s i v
 else if ziH s i [34,34,34]=true then v=zyf (zyL s i)
 else if((atR s i==34):Bool)=true then v=zyf (zx8 (zx9 s 34 i))
 else if((atR s i==39):Bool)=true then v=zyo (zx8 (zx9 s 39 i))
 else v=zyN s i
abbrev Tk:=Int×List UInt8×Int×Bool
def tkL (x:Tk):List V:=[.i .i64 x.1,.s x.2.1,.i .i64 x.2.2.1,.b x.2.2.2]
def tkC (l:List Tk):List V:=l.flatMap tkL
theorem zcB (l:List Tk):(tkC l).length=l.length*4:=by
 induction l with
 |nil=>rfl
 |cons x l ih=>simp only[tkC,flatMap_cons,length_append,length_cons]at ih ⊢;rw[ih];simp[tkL];omega
theorem zmN (l:List Tk)(x:Tk):tkC (l++[x])=tkC l++tkL x:=by simp[tkC]
def znL (H:zaa)(v:V)(l:List Tk):Prop:=∃(n:Nat)(cap:Option Nat)(kd:BK),v=.sl n 4 0 l.length cap∧H[n]? = some (some {ty:=44,cells:=tkC l,kind:=kd})∧kd≠.map∧((cap=some 0∧l=[])∨cap=none)
inductive ScanS (s:List UInt8):Nat→List Tk→(List Tk ⊕ (Int×Int))→Prop
  |opn {i:Nat} {l:List Tk} (h:0≤(zjF s (s.length+1) i false).2.2):ScanS s i l (.inr ((zjF s (s.length+1) i false).2.2,32))
  |done {i:Nat} {l:List Tk} (h:¬0≤(zjF s (s.length+1) i false).2.2) (h2:(zjF s (s.length+1) i false).1=s.length):ScanS s i l (.inl l)
  |bad {i:Nat} {l:List Tk} {c:Int} (h:¬0≤(zjF s (s.length+1) i false).2.2) (h2:(zjF s (s.length+1) i false).1<s.length) (hc:c≠0) (hv:zxX s (zjF s (s.length+1) i false).1 (zvx c)):ScanS s i l (.inr (((zjF s (s.length+1) i false).1:Nat),c))
  |step {i e:Nat} {l:List Tk} {k:Int} {t:List UInt8} {r:List Tk ⊕ (Int×Int)} (h:¬0≤(zjF s (s.length+1) i false).2.2) (h2:(zjF s (s.length+1) i false).1<s.length) (hv:zxX s (zjF s (s.length+1) i false).1 (zvy k t e)) (h3:(zjF s (s.length+1) i false).1<e) (h4:e≤s.length) (hr:ScanS s e (l++[(k,t,(((zjF s (s.length+1) i false).1:Nat):Int),(zjF s (s.length+1) i false).2.1||((l.length:Int)==0))]) r):ScanS s i l r
theorem znL.ext {H:zaa}{v:V}{l:List Tk}(h:znL H v l)(K:zaa):znL (H++K) v l:=by
 obtain⟨n,cap,kd,rfl,hn,hk,hcap⟩:=h;exact⟨n,cap,kd,rfl,by rw[List.getElem?_append_left (List.getElem?_eq_some_iff.1 hn).1];exact hn,hk,hcap⟩
theorem znL.len {H:zaa}{v:V}{l:List Tk}(h:znL H v l):zj5 TT 27 v=some (.i .i64 l.length):=by
 obtain⟨n,cap,kd,rfl,hn,hk,hcap⟩:=h;have e1:TT.und 27=some (.slice 44):=rfl;simp only[zj5,e1]
theorem zhn:∀l:List Tk,zcV 4 l.length (tkC l)=some (l.map fun x=>V.agg (tkL x))
 | []=>rfl
 |x::l=>by
  have ih:=zhn l;simp only[tkC]at ih;simp[zcV,tkC,tkL,ih]
theorem zoN {H:zaa}:∀(l:List Tk)(n:Nat),4*l.length+5≤n→fzL H n (tkC l)=some (tkC l)
 | [],n,h=>by cases n<;>simp[tkC,Ev.fzL]
 |x::l,n,h=>by
  obtain⟨m,rfl⟩:∃m,n=m+5:=⟨n-5,by simp only[length_cons]at h;omega⟩;have ih:=zoN (H:=H) l (m+1) (by simp only[length_cons]at h;omega);have e:tkC (x::l)=.i .i64 x.1::.s x.2.1::.i .i64 x.2.2.1::.b x.2.2.2::tkC l:=by simp[tkC,tkL]
  rw[e];simp[Ev.fzL,fz,ih]
def zsz (d:List UInt8):Prop:=(∀b∈d,zcL b)∧d≠[]
theorem zhW (c:Int):(48≤c∧c≤57∧zk3 c=c-48)∨(¬(48≤c∧c≤57)∧(10≤zk3 c∨zk3 c= -1)):=by
 unfold zk3;by_cases h:48≤c∧c≤57
 ·rw[if_pos h];exact .inl ⟨h.1,h.2,rfl⟩
 ·rw[if_neg h];refine .inr ⟨h,?_⟩;by_cases h2:97≤c∧c≤102
  ·rw[if_pos h2];omega
  ·rw[if_neg h2];by_cases h3:65≤c∧c≤70
   ·rw[if_pos h3];omega
   ·rw[if_neg h3];omega
theorem zr9 (b:UInt8):0≤zdP b.toNat 10↔zcL b:=by
 unfold zdP zcL;rcases zhW b.toNat with⟨h1,h2,h3⟩|⟨h1,h2⟩
 ·rw[h3,if_neg (by omega)];omega
 ·rcases h2 with h2|h2
  ·rw[if_pos h2];omega
  ·rw[h2,if_neg (by omega)];omega
def Stop (l:List UInt8):Prop:=∀b,l.head? = some b→¬zcL b∧b≠95
theorem zoo {b:UInt8}(h:zcL b):∀x∈[10,32,9,13,47],b≠x:=by
 rintro x hx rfl;unfold zcL at h;simp only[mem_cons,not_mem_nil,or_false]at hx;rcases hx with rfl|rfl|rfl|rfl|rfl<;>revert h<;>decide
theorem ztj {s:List UInt8}{i:Nat}{b:UInt8}(h:s[i]? = some b)(hb:zcL b):idR s i=i:=by
 unfold zcL at hb;rw[idR,if_pos];rw[zsJ h];simp only[zhy,Bool.and_eq_true,Bool.not_eq_true',Bool.or_eq_false_iff,Bool.and_eq_false_iff,decide_eq_false_iff_not,bne_iff_ne];omega
theorem zbY.of2 {F:FuncId}{vs:List V}{r:Res}(h:zbY prog TT F vs (fun x=>x=r)):zkS prog TT F vs r:=by
 obtain⟨fn,c,h1,h2,h3,o,⟨r',rfl,k2⟩,hx⟩:=h;exact⟨fn,c,h1,h2,h3,o,k2,hx⟩
theorem spT (F:FuncId)(val:List UInt8→V)(D:List UInt8→Prop)(hv:∀x,nl (val x)=true)(h:∀x,D x→zbY prog TT F [.s x] (fun r=>r=.val (val x))):∃g,zao prog TT F g∧∀x,D x→∀H,g [.s x] H=.val (val x) H:=
 zdu zaf zaw F (fun x:List UInt8=>[.s x]) D val (fun x _=>by simp[nlL,nl]) hv (fun a b h=>by
 simp only[List.cons.injEq,V.s.injEq,and_true]at h;rw[h]) fun x hx=>zbY.of2 (h x hx)
theorem ztZ:∃g,zao prog TT 72 g∧∀c:Int,True→∀H,g [.i .u8 c] H=.val (.b (zhy c||(c==95))) H:=
 zdu zaf zaw 72 (fun c:Int=>[.i .u8 c]) (fun _=>True) (fun c=>.b (zhy c||(c==95))) (fun x _=>by simp[nlL,nl]) (fun _=>rfl) (fun a b h=>by simp only[List.cons.injEq,V.i.injEq,true_and,and_true]at h;rw[h]) fun c _=>zsQ n0 c
theorem znx:∃g,zao prog TT 50 g∧∀c:Int,True→∀H,g [.i .u8 c] H=.val (.b (decide (48≤c)&&decide (c≤57))) H:=
 zdu zaf zaw 50 (fun c:Int=>[.i .u8 c]) (fun _=>True) (fun c=>.b (decide (48≤c)&&decide (c≤57))) (fun x _=>by simp[nlL,nl]) (fun _=>rfl) (fun a b h=>by simp only[List.cons.injEq,V.i.injEq,true_and,and_true]at h;rw[h]) fun c _=>zsS n0 c
theorem zqq (b:UInt8):zeE b.toNat=((zhy b.toNat||((b.toNat:Int)==95))||(decide (48≤(b.toNat:Int))&&decide ((b.toNat:Int)≤57))):=by
 have e:decide (0≤zdP b.toNat 10)=(decide (48≤(b.toNat:Int))&&decide ((b.toNat:Int)≤57)):=by
  rw[Bool.eq_iff_iff];simp only[Bool.and_eq_true,decide_eq_true_eq];rw[zr9];unfold zcL;omega
 unfold zeE;rw[e];cases zhy b.toNat<;>cases((b.toNat:Int)==95)<;>simp
theorem zt0:∃g,zao prog TT 73 g∧∀b:UInt8,True→∀H,g [.i .u8 b.toNat] H=.val (.b (zeE b.toNat)) H:=by
 obtain⟨g3,hg3,hs3⟩:=ztZ;obtain⟨g9,hg9,hs9⟩:=znx;refine zdu zaf zaw 73 (fun b:UInt8=>[.i .u8 b.toNat]) (fun _=>True) (fun b=>.b (zeE b.toNat)) (fun x _=>by simp[nlL,nl]) (fun _=>rfl) (fun a b h=>by
  simp only[List.cons.injEq,V.i.injEq,true_and,and_true]at h;rw[h]) fun c _=>?_
 rw[zqq];exact zsR (ws (ws n0 hg3) hg9) c.toNat _ _ (fun H=>by rw[zac _ _ _ _ rfl,zap];exact hs3 _ trivial H) (fun H=>by rw[zap];exact hs9 _ trivial H)
theorem zwf:∃g,zao prog TT 49 g∧∀s:List UInt8,s.length<NT→∀H,g [.s s] H=.val (.i .i64 (idR s 0:Nat)) H:=by
 obtain⟨g3,hg3,hs3⟩:=ztZ;obtain⟨g4,hg4,hs4⟩:=zt0;refine spT 49 (fun s=>.i .i64 (idR s 0:Nat)) (fun s=>s.length<NT) (fun _=>rfl) fun s hs=>?_;have hN:NT=1090000:=rfl;have hC:=ws (ws n0 hg3) hg4;cases s with
 |nil=>exact zn8 hC
 |cons c r=>
  have h83:∀H,((zad.none.with 72 g3).with 73 g4) 72 [.i .u8 c.toNat] H=.val (.b (zhy c.toNat||((c.toNat:Int)==95))) H:=fun H=>by rw[zac _ _ _ _ rfl,zap];exact hs3 _ trivial H
  have hat:atR (c::r) 0=c.toNat:=rfl;cases hl:(zhy c.toNat||((c.toNat:Int)==95))with
  |false=>
   have e:idR (c::r) 0=0:=by
    unfold idR;rw[hat,if_pos];rw[Bool.or_eq_false_iff]at hl;simp only[Bool.and_eq_true,Bool.not_eq_true',bne_iff_ne];exact⟨hl.1,by have:=hl.2;rw[beq_eq_false_iff_ne]at this;exact this⟩
   rw[e];exact zn7 hC c r fun H=>by rw[h83,hl]
  |true=>
   have hw:zeE c.toNat=true:=by rw[zqq,hl];rfl
   have e:idR (c::r) 0=1+zdH r+zhQ (r.drop (zdH r)):=by
    unfold idR;rw[hat,if_neg]
    ·simp only[drop_zero,Nat.zero_add];have e2:zdH (c::r)=zdH r+1:=by simp only[zdH,hw,if_true]
     rw[e2,drop_succ_cons];omega
    ·intro h;simp only[Bool.and_eq_true,Bool.not_eq_true',bne_iff_ne]at h;rw[h.1,Bool.false_or,beq_iff_eq]at hl;exact h.2 hl
   rw[e];exact zn9 hC c r (by simp at hs ⊢;omega) (fun b H=>by rw[zap];exact hs4 b trivial H) fun H=>by rw[h83,hl]
theorem ztY:∃g,zao prog TT 40 g∧∀s:List UInt8,s.length<NT→∀H,g [.s s] H=.val (.b ((!s.isEmpty)&&(((idR s 0:Nat):Int)==s.length) && !kw s)) H:=by
 obtain⟨g1,hg1,hs1⟩:=zwf;refine zdu zaf zaw 40 (fun x:List UInt8=>[.s x]) (fun s=>s.length<NT) (fun s=>.b ((!s.isEmpty)&&(((idR s 0:Nat):Int)==s.length) && !kw s)) (fun x _=>by simp[nlL,nl]) (fun _=>rfl) (fun a b h=>by
  simp only[List.cons.injEq,V.s.injEq,and_true]at h;rw[h]) fun s hs=>?_
 exact zsP (ws (ws n0 hg1) zyH) s _ (fun H=>by rw[zac _ _ _ _ rfl,zap];exact hs1 s hs H) (by rw[zap];rfl) (zoW s)
def zct (e at_:Int):V:=.ifc 50 (.agg [.i .i64 e,.i .i64 at_])
section
variable {P:Program}{T:Tab}{t t':Tm}{H H':zaa}{Q:Out→Prop}{v:V}
theorem Tri.regP (hT:TOk P T){call:zad}(hC:call.Sound P T){id:Nat}{ops:Array Oper}{d:Bool}(he:zcE T call ops d t H=.pan v t' H')(h:Q (.pan v t' H')):Tri P T (.region id ops d) t H Q:=Tri.reg hT hC he h
theorem zh0 {step:Oper→Env→zaa→OR}{ops:Array Oper}{o:Oper}{r:List Oper}{x:OR}{out:Out}(hw:zaF ops o t.get=some true)(hs:step o t.get H=x)(hx:x=.pan v H')(ho:Out.pan v t H'=out):zaI step ops (o::r) t H=out:=(zoA hw (hs.trans hx)).trans ho
theorem zxn {T:Tab}{fn:Func}{R:Res→Prop}(hr:R (.pan v)):∃r,R r∧zhA T fn r (.pan v t H):=⟨_,hr,rfl⟩
theorem zu8 {fn:Func}{x:OR}{R:Res→Prop}(hf:zaR TT fn t.get H=x)(hx:x=.val v H)(hr:R (.val v)):∃r,R r∧zhA TT fn r (.norm t H):=⟨_,hr,hf.trans hx⟩
end
attribute [simp] zct zdg eq1 zos
theorem zmV {call:zad}(hC:call.Sound prog TT)(e k:Int)  : zbY prog TT 55 [.b true,.i .i64 e,.i .i64 k] (fun r=>r=.val .un):=by
 refine en f55 rfl rfl (by simp[f55]) 12 rfl fun t hw hg=>?_;have h0:=hg 0 _ rfl;have h1:=hg 1 _ rfl;have h2:=hg 2 _ rfl;clear hg;try simp only[Nd.enc_eq]at *
 have hF:=ai @h0 (ai @h1 @h2);apply rS hC
 ·iterate 2 refine oA ?_
  rfl
 refine cF (by simp[hF]<;>rfl) ?_;apply Tri.skip;refine zu8 (by simp[f55]<;>rfl) (by rfl) ?_;rfl
theorem zmU {call:zad}(hC:call.Sound prog TT)(e k:Int)  : zbY prog TT 55 [.b false,.i .i64 e,.i .i64 k] (fun r=>r=.pan (zct e k)):=by
 refine en f55 rfl rfl (by simp[f55]) 12 rfl fun t hw hg=>?_;have h0:=hg 0 _ rfl;have h1:=hg 1 _ rfl;have h2:=hg 2 _ rfl;clear hg;try simp only[Nd.enc_eq]at *
 have hF:=ai @h0 (ai @h1 @h2);apply rS hC
 ·iterate 2 refine oA ?_
  rfl
 refine cT (by simp[hF]<;>rfl) ?_;refine Tri.regP (v:=?v3) (t':=?t3) (H':=?H3) zaf hC ?e3 ?q3;case e3=>
  refine zas ?_;iterate 4 refine oA ?_
  refine zh0 rfl (by simp[hF]<;>rfl) (by rfl) ?_;exact rfl
 refine zxn ?_;rfl
def zbz (c:Int):Int:=if zk3 c= -1 then 99 else zk3 c
theorem zt3:([2,10,16].all fun base=>(List.range 256).all fun c=>match zdE TT (zhJ Con.none) 3000 94 [.i .u8 c,.i .i64 base] []with | .val (.tup [.i .u64 n,.b b]) _=>n==zbz c&&b==decide (zbz c<base)|_=>false)=true:=by kernel_rfl
theorem zp5:∃g,zao prog TT 94 g∧∀c base:Int,0≤c→c<256→base=2∨base=10∨base=16→∀H,g [.i .u8 c,.i .i64 base] H=.val (.tup [.i .u64 (zbz c),.b (decide (zbz c<base))]) H:=by
 obtain⟨g,k,s⟩:=zmH zaf zaw 94 (fun vs=>∃c base:Int,0≤c∧c<256∧(base=2∨base=10∨base=16)∧vs=[.i .u8 c,.i .i64 base]) (fun vs=>match vs with | [.i .u8 c,.i .i64 base]=>.val (.tup [.i .u64 (zbz c),.b (decide (zbz c<base))])|_=>.val .un) (by
  rintro vs ⟨c,base,h0,h1,hb,rfl⟩;refine⟨rfl,rfl,3000,?_⟩;have hm:base∈[2,10,16]:=by rcases hb with rfl|rfl|rfl<;>simp
  obtain⟨k,rfl,hk⟩:=zrE (all_eq_true.1 zt3 base hm) h0 h1;split at hk
  ·rename_i n b J he;rw[Bool.and_eq_true]at hk;exact⟨J,by rw[he,eq_of_beq hk.1,eq_of_beq hk.2];rfl⟩
  ·cases hk)
 exact⟨g,k,fun c base h0 h1 hb H=>s _ ⟨c,base,h0,h1,hb,rfl⟩ H⟩
theorem zdV:∃g,zao prog TT 55 g∧∀(b:Bool)(e k:Int)(H:zaa),g [.b b,.i .i64 e,.i .i64 k] H=if b=true then .val .un H else .pan (zct e k) H:=by
 obtain⟨g,h,s⟩:=zhs (P:=prog) (T:=TT) zaf zaw 55 (fun vs=>∃(b:Bool)(e k:Int),vs=[.b b,.i .i64 e,.i .i64 k]) (fun vs r=>∃(b:Bool)(e k:Int),vs=[.b b,.i .i64 e,.i .i64 k]∧r=if b=true then .val .un else .pan (zct e k)) (by
  rintro vs ⟨b,e,k,rfl⟩;refine⟨rfl,?_,?_⟩
  ·rintro r ⟨b',e',k',_,rfl⟩;cases b'<;>rfl
  ·cases b with
   |true=>
    obtain⟨fn,c,h1,h2,h3,h4⟩:=zmV n0 e k;exact⟨fn,c,h1,h2,h3,h4.mono fun o ⟨r,hr,ho⟩=>⟨r,⟨true,e,k,rfl,by simpa using hr⟩,ho⟩⟩
   |false=>
    obtain⟨fn,c,h1,h2,h3,h4⟩:=zmU n0 e k;exact⟨fn,c,h1,h2,h3,h4.mono fun o ⟨r,hr,ho⟩=>⟨r,⟨false,e,k,rfl,by simpa using hr⟩,ho⟩⟩)
 refine⟨g,h,fun b e k H=>?_⟩;obtain⟨r,⟨b',e',k',he,rfl⟩,h2⟩:=s _ ⟨b,e,k,rfl⟩;simp only[List.cons.injEq,V.b.injEq,V.i.injEq,true_and,and_true]at he;obtain⟨rfl,rfl,rfl⟩:=he;rw[h2];cases b<;>rfl
theorem zwu:zaS TT shp f95.ntmps [] (zah f95) [] ⟨[(0,.f1 .vs (.va 1)),(1,.f1 (.vi .i64) (.va 2))],⟨.va 0,[],[]⟩,3,[]⟩ (KF TT f95 [])=.fin (.f1 (.fn 109) (x2 (xp (xN (xh v0) (.cn 0))) (xp (xN (xh v0) (.cn 1))))) ⟨v0,[],[xk 9 (x1 (xs v1)),xk 3 (x1 (xi v2))]⟩:=by kernel_rfl
theorem zub:zaS TT shp f109.ntmps [] (sub [true,false,false,true,true,false,false,true,false] (zah f109)) [] ⟨[(0,.va 1),(1,.f1 (.ptr 0) (.va 2)),(2,.f1 (.ptr 0) (.va 3)),(4,.f1 (.vi .i64) (.va 4)),(8,.f1 (.vi .i64) (.va 5)),(9,.f1 (.vi .i64) (.va 4))],⟨.va 0,[(.va 2,some ⟨9,.f2 .cons (.f1 .vs (.va 6)) .nil,.all⟩),(.va 3,some ⟨3,.f2 .cons (.f1 (.vi .i64) (.va 7)) .nil,.all⟩)],[]⟩,8,[]⟩ (K0 [0,1,2,5,6,8,9])=.need (xE c0 v4) (.need (xL v4 (xl v6)) (.asks (.call 94 (x2 (xu (xA v6 v4)) (xi v7))) [.i,.b] (xt (x2 (xv v8) (xb v9))) (.leaf .norm [(0,v1),(1,xp v2),(2,xp v3),(5,xv v8),(6,xb v9),(8,xi v5),(9,xi v4)] ⟨v0,[(v2,xk 9 (x1 (xs v6))),(v3,xk 3 (x1 (xi v7)))],[]⟩) (.stuck 0))):=by kernel_rfl
def zon (s:List UInt8)(base:Int):zaa:=[some ⟨9,[.s s],.all⟩,some ⟨3,[.i .i64 base],.all⟩]
theorem zv4:∃g,zao prog TT 95 g∧∀(s:List UInt8)(base:Int)(H:zaa),g [.s s,.i .i64 base] H=.val (.fn 109 [.ptr H.length 0,.ptr (H.length+1) 0]) (H++zon s base):=by
 obtain⟨g,k,h⟩:=zc1 zaf 95 (fun p:List UInt8×Int=>[.s p.1,.i .i64 p.2]) (fun _ _=>True) (fun p H r=>r=.val (.fn 109 [.ptr H.length 0,.ptr (H.length+1) 0]) (H++zon p.1 p.2)) (by
  rintro⟨s,b⟩ ⟨s',b'⟩ H r _ _ he hr;simp only[List.cons.injEq,V.s.injEq,V.i.injEq,true_and,and_true]at he;obtain⟨rfl,rfl⟩:=he;exact hr) (by
  rintro⟨s,b⟩ H _;refine zaH.sym zaf n0 (fn:=f95) rfl rfl (by simp[f95]) zwu (by kernel_rfl) [.uh H,.us s,.ui b] rfl ⟨by rw[zag];rfl,by rw[zag];rfl,trivial⟩ rfl (zbd _ _) ?_;simp -implicitDefEqProofs only[VC,isR,exU,Ask.den,forall_eq,E.den,O1.den,O2.den,O3.den,U.int_ui,U.boo_ub,U.val_uv,U.lst_ul,U.str_us,U.nat_un,U.heap_uh,SH.den,zaB,zbX,bD,SB.den,zaq,LQ,cons_append,nil_append,List.getElem?_cons_zero,List.getElem?_cons_succ,Option.getD_some,zam,zai,zan,zaj,beq_iff_eq,bne_iff_ne,beq_eq_false_iff_ne,Int.toNat_natCast];simp[zon])
 exact⟨g,k,fun s b H=>h (s,b) H trivial⟩
def zdw (base:Nat):List UInt8→Nat→Option Nat
 | [],a=>some a
 |c::r,a=>if zbz c.toNat<base then(if a*base+(zbz c.toNat).toNat<340282366920938463463374607431768211456 then zdw base r (a*base+(zbz c.toNat).toNat)else none)else zdw base r a
noncomputable def zyb:Code→Code×Code
 | .rangeFunc _ _ a b=>(a,b)
 |_=>(.skip,.skip)
noncomputable def zxT:Code:=(zyb (sub [true,true,false,true,false] (zah f76))).1
noncomputable def zxU:Code:=(zyb (sub [true,true,false,true,false] (zah f76))).2
abbrev whH (s:List UInt8)(base at_:Int)(lo hi:Nat):zaa:=[some ⟨3,[.i .i64 base],.all⟩,some ⟨3,[.i .i64 at_],.all⟩,some ⟨131,[.i .u64 lo,.i .u64 hi],.all⟩,some ⟨9,[.s s],.all⟩,some ⟨3,[.i .i64 base],.all⟩]
theorem zwO {call:zad}(hC:call.Sound prog TT){r:Option Nat}{hs:List HE}{t:Tm}{K:zaa}{v:V}(hw:t.wid=27)(h13:t.get 13=v){Q:Out→List HE→Prop}
 (hQ:∀tA:Tm,tA.wid=27→tA.get 8=v→(∀j,j≤7→tA.get j=t.get j)→Q (.norm tA K) hs):za0 prog TT r hs zxT t K Q:=by
 refine za0.reg (t':=?t1) (H':=?H1) zaf hC (by kernel_rfl) ?e1 ?q1;case e1=>
  refine zas ?_;refine zab rfl (by simp[h13]<;>rfl) (by rfl) (by simp[hw]) ?_;exact zak
 refine hQ _ (by simp[hw]) (by simp) ?_;intro j hj;have:¬j=8:=by omega
 simp[this]
theorem zwP {call:zad}(hC:call.Sound prog TT){r:Option Nat}{hs:List HE}{t:Tm}(s:List UInt8)(base:Nat)(at_:Int)(hb:base=2∨base=10∨base=16)(a v:Nat)(ha:a<340282366920938463463374607431768211456)(hv:v<16)
 (htim:∀p:Nat×Nat×Nat×Nat,p.1<18446744073709551616∧p.2.1<18446744073709551616∧p.2.2.1<18446744073709551616∧p.2.2.2<18446744073709551616→∀H,call 96 [zdY p.1 p.2.1,.i .u64 p.2.2.1,.i .u64 p.2.2.2] H=.val (zrX (zqz p.1 p.2.1 p.2.2.1 p.2.2.2)) H)
 (hmust:∀(b:Bool)(e k:Int)(H:zaa),call 55 [.b b,.i .i64 e,.i .i64 k] H=if b=true then .val .un H else .pan (zct e k) H)
 (hw:t.wid=27)(h8:t.get 8=.i .u64 v)(h4:t.get 4=.ptr 0 0)(h5:t.get 5=.ptr 1 0)(h7:t.get 7=.ptr 2 0){Q:Out→List HE→Prop}
 (hG:∀tA:Tm,a*base+v<340282366920938463463374607431768211456→Q (.norm tA (whH s base at_ ((a*base+v)%18446744073709551616) ((a*base+v)/18446744073709551616))) hs)
 (hP:∀(tA:Tm)(HA:zaa),HA.length=5→¬a*base+v<340282366920938463463374607431768211456→Q (.pan (zct 33 at_) tA HA) hs):za0 prog TT r hs zxU t (whH s base at_ (a%18446744073709551616) (a/18446744073709551616)) Q:=by
 have ht:=htim (a%18446744073709551616,a/18446744073709551616,base,v) ⟨by simp only;omega,by simp only;omega,by simp only;omega,by simp only;omega⟩;have en:zqz (a%18446744073709551616) (a/18446744073709551616) base v=a*base+v:=by
  unfold zqz;rcases hb with rfl|rfl|rfl<;>omega
 rw[en]at ht;simp only[zrX,zdY]at ht;have ex:TT.ext 96=none:=rfl;have ex2:TT.ext 55=none:=rfl;have hwr:IntKind.u64.wrap (base:Int)=base:=by rcases hb with rfl|rfl|rfl<;>rfl
 generalize a*base+v=n at ht hG hP;generalize a%18446744073709551616=lo at ht;generalize a/18446744073709551616=hi at ht;have eN:n<340282366920938463463374607431768211456→n/18446744073709551616%18446744073709551616=n/18446744073709551616:=fun h=>by omega
 generalize n%18446744073709551616=lo' at ht hG;generalize n/18446744073709551616%18446744073709551616=hi' at ht eN;clear en ha htim;refine za0.block ?_;apply za0.seq;refine za0.reg (t':=?t1) (H':=?H1) zaf hC (by kernel_rfl) ?e1 ?q1;case e1=>
  refine zas ?_;refine zab rfl (by simp<;>rfl) (by rfl) (by simp[hw]) ?_;exact zak
 apply zaD;apply za0.seq;refine za0.reg (t':=?t2) (H':=?H2) zaf hC (by kernel_rfl) ?e2 ?q2;case e2=>
  refine zas ?_;iterate 10 refine zab rfl (by simp[h8,h4,h5,h7,ht,hwr,ex]<;>rfl) (by rfl) (by simp[hw]) ?_
  exact zak
 apply zaD;cases hd:decide (n<340282366920938463463374607431768211456)with
 |true=>
  have hm:∀H,call 55 [.b true,.i .i64 33,.i .i64 at_] H=.val .un H:=fun H=>by rw[hmust];rfl
  refine za0.reg (t':=?t3) (H':=?H3) zaf hC (by kernel_rfl) ?e3 ?q3;case e3=>
   refine zas ?_;iterate 3 refine zab rfl (by simp[h8,h4,h5,h7,hd,hm,ex2]<;>rfl) (by rfl) (by simp[hw]) ?_
   exact zak
  refine zdm ?_;rw[decide_eq_true_eq]at hd;rw[←eN hd]at hG;exact hG _ hd
 |false=>
  have hm:∀H,call 55 [.b false,.i .i64 33,.i .i64 at_] H=.pan (zct 33 at_) H:=fun H=>by rw[hmust];rfl
  refine za0.regP (t1:=?t4) (H1:=?H4) (v:=zct 33 at_) (H':=?H5) zaf hC 2 (by kernel_rfl) rfl ?e4 rfl ?o4 ?q4;case e4=>
   iterate 2 refine zab rfl (by simp[h8,h4,h5,h7,hd,hm,ex2]<;>rfl) (by rfl) (by simp[hw]) ?_
   exact zak
  case o4=>
   simp[h8,h4,h5,h7,hd,hm,ex2]<;>rfl
  exact hP _ _ rfl (of_decide_eq_false hd)
theorem zr3 (c:UInt8):0≤zbz c.toNat:=by
 have:=zkL c;unfold zbz zk3;split<;>(try split)<;>(try split)<;>omega
theorem zru {call:zad} (hC:call.Sound prog TT) (s:List UInt8) (base:Nat) (at_:Int) (hb:base=2∨base=10∨base=16) (hlen:s.length<1100000)
    (hval:∀c:UInt8,∀H,call 94 [.i .u8 c.toNat,.i .i64 base] H=.val (.tup [.i .u64 (zbz c.toNat),.b (decide (zbz c.toNat<base))]) H)
    (htim:∀p:Nat×Nat×Nat×Nat,p.1<18446744073709551616∧p.2.1<18446744073709551616∧p.2.2.1<18446744073709551616∧p.2.2.2<18446744073709551616→∀H,call 96 [zdY p.1 p.2.1,.i .u64 p.2.2.1,.i .u64 p.2.2.2] H=.val (zrX (zqz p.1 p.2.1 p.2.2.1 p.2.2.2)) H)
    (hmust:∀(b:Bool)(e k:Int)(H:zaa),call 55 [.b b,.i .i64 e,.i .i64 k] H=if b=true then .val .un H else .pan (zct e k) H)
    {l:Nat}{rec:Loop}{t0:Tm}(hfn:∃f,prog.funcs[rec.fn]? = some f)(hst:rec.state=.ready)(hpd:rec.pending=none)(hps:rec.params=#[13])(hasg:rec.assign=zxT)(hbdy:rec.body=zxU)(hw0:t0.wid=27)(e4:t0.get 4=.ptr 0 0)(e5:t0.get 5=.ptr 1 0)(e7:t0.get 7=.ptr 2 0){Q:Out→List HE→Prop}
    (hP:∀(t':Tm)(H':zaa)(rec':Loop),H'.length=5→zdw base s 0=none→Q (.pan (zct 33 at_) t' H') [⟨l,.loop rec',t0,rec.tmps⟩])
    (hE:∀(t':Tm)(a:Nat),zdw base s 0=some a→a<340282366920938463463374607431768211456→t'.wid=28→Q (.exit 0 t' (whH s base at_ (a%18446744073709551616) (a/18446744073709551616))) [⟨l,.loop rec,t0,rec.tmps⟩]) :
    ∀(L pre:List UInt8)(a:Nat)(t:Tm),s=pre++L→a<340282366920938463463374607431768211456→zdw base s 0=zdw base L a→t.wid=28→t.get 0=.yld l→t.get 1=.ptr 3 0→t.get 2=.ptr 4 0→t.get 8=.i .i64 (s.length:Nat)→t.get 9=.i .i64 (pre.length:Nat) →
    zgs prog TT none [⟨l,.loop rec,t0,rec.tmps⟩] (sub [true,false,false] (zah f109)) t (whH s base at_ (a%18446744073709551616) (a/18446744073709551616)) Q:=by
  have hrecE:(⟨l,.loop {rec with state:=if(none:Option Code).isNone then .ready else .done,pending:=none},t0,rec.tmps⟩:HE)=⟨l,.loop rec,t0,rec.tmps⟩:=by
    cases rec
    simp only at hst hpd
    subst hst hpd
    rfl
  intro L
  induction L with
  | nil=>
    intro pre a t hs ha hwh hw t0 t1 t2 t8 t9
    have hF:=ai @t0 (ai @t1 (ai @t2 (ai @t8 @t9)))
    have hnl:¬((pre.length:Int)<s.length):=by rw[hs];simp
    refine zgs.round ?_
    apply za0.seq
    refine za0.reg (t':=?t1) (H':=?H1) zaf hC (by kernel_rfl) ?e1 ?q1
    case e1=>
      refine zas ?_
      refine zab rfl (by simp[hF,hnl]<;>rfl) (by rfl) (by simp[hw]) ?_
      exact zak
    apply zaD
    apply za0.seq
    refine za0.cond (o:=?o2) (b:=?b2) ?g2 ?r2 ?y2 ?n2
    case g2=>simp[hF,hnl]<;>rfl
    case r2=>rfl
    case y2=>intro h;simp at h
    case n2=>
      intro _
      refine za0.exit ?_
      exact hE _ a (by rw[hwh];rfl) ha (by simp[hw])
  | cons c L ih=>
    intro pre a t hs ha hwh hw t0 t1 t2 t8 t9
    have hF:=ai @t0 (ai @t1 (ai @t2 (ai @t8 @t9)))
    have hlt:(pre.length:Int)<s.length:=by rw[hs];simp;omega
    refine zgs.round ?_
    apply za0.seq
    refine za0.reg (t':=?t1c) (H':=?H1c) zaf hC (by kernel_rfl) ?e1c ?q1c
    case e1c=>
      refine zas ?_
      refine zab rfl (by simp[hF,hlt]<;>rfl) (by rfl) (by simp[hw]) ?_
      exact zak
    apply zaD
    apply za0.seq
    refine za0.cond (o:=?o2c) (b:=?b2c) ?g2c ?r2c ?y2c ?n2c
    case g2c=>simp[hF,hlt]<;>rfl
    case r2c=>rfl
    case n2c=>intro h;simp at h
    case y2c =>
      intro _
      refine za0.skip ?_
      apply zaD
      apply za0.seq
      refine za0.block ?_
      apply za0.seq
      refine za0.reg (t':=?t3c) (H':=?H3c) zaf hC (by kernel_rfl) ?e3c ?q3c
      case e3c=>
        refine zas ?_
        iterate 2 refine zab rfl (by simp[hF,hlt]<;>rfl) (by rfl) (by simp[hw]) ?_
        exact zak
      apply zaD
      apply za0.seq
      have hat:atS s pre.length=c.toNat:=by rw[hs];exact zjO pre L c _ rfl
      have hin:((pre.length:Nat):Int).toNat=pre.length:=by omega
      have hv0:=zr3 c
      obtain⟨v,hv⟩:∃v:Nat,zbz c.toNat=v:=⟨(zbz c.toNat).toNat,by omega⟩
      have hvl:=hval c
      rw[hv]at hvl
      refine za0.lift (Q2:=fun o=>∃t':Tm,o=.norm t' (whH s base at_ (a%18446744073709551616) (a/18446744073709551616))∧t'.wid=28∧t'.get 0=.yld l∧t'.get 1=.ptr 3 0∧t'.get 2=.ptr 4 0∧t'.get 5=.i .u64 v∧t'.get 6=.b (decide ((v:Int)<base))∧t'.get 8=.i .i64 (s.length:Nat)∧t'.get 9=.i .i64 (pre.length:Nat)) ?tri ?_
      case tri=>
        refine Tri.sym (R:=fun _=>False) zaf hC zub (by kernel_rfl) (σ:=[.uh (whH s base at_ (a%18446744073709551616) (a/18446744073709551616)),.uv (.yld l),.un 3,.un 4,.ui (pre.length:Nat),.ui (s.length:Nat),.us s,.ui base]) (by simp[hw]<;>rfl) rfl ⟨by simp[hF],by simp[hF],by simp[hF],by simp,by simp[hF],by simp[hF],trivial⟩ rfl ⟨by simp,by simp⟩ ?_
        simp -implicitDefEqProofs only[VC,isR,exU,Ask.den,forall_eq,E.den,O1.den,O2.den,O3.den,U.int_ui,U.boo_ub,U.val_uv,U.lst_ul,U.str_us,U.nat_un,U.heap_uh,SH.den,zaB,zbX,bD,SB.den,zaq,LQ,cons_append,nil_append,List.getElem?_cons_zero,List.getElem?_cons_succ,Option.getD_some,zam,zai,zan,zaj,beq_iff_eq,bne_iff_ne,beq_eq_false_iff_ne,Int.toNat_natCast,hat]
        refine⟨by omega,hlt,.inl ⟨_,_,fun K=>hvl K,?_⟩⟩
        intro t' hw' f0 f1 f2 f5 f6 f8 f9
        exact⟨t',rfl,hw',f0,f1,f2,f5,f6,f8,f9⟩
      rintro _ ⟨t',rfl,hw',f0,f1,f2,f5,f6,f8,f9⟩
      refine⟨trivial,?_⟩
      apply zaD
      clear t0 t1 t2 t8 t9 hF
      have wr1:IntKind.i64.wrap ((pre.length:Int)+1)=(pre.length:Int)+1:=w64 (by omega) (by omega)
      have again:∀(a':Nat) (t3:Tm),a'<340282366920938463463374607431768211456→zdw base s 0=zdw base L a'→t3.wid=28→t3.get 0=.yld l→t3.get 1=.ptr 3 0→t3.get 2=.ptr 4 0→t3.get 8=.i .i64 (s.length:Nat)→t3.get 9=.i .i64 (pre.length:Nat) →
          za0 prog TT none [⟨l,.loop rec,t0,rec.tmps⟩] (sub [true,false,false,true,true,true] (zah f109)) t3 (whH s base at_ (a'%18446744073709551616) (a'/18446744073709551616)) (zll prog TT none (sub [true,false,false] (zah f109)) Q):=by
        intro a' t3 ha' hwa' hw3 g0 g1 g2 g8 g9
        refine za0.reg (t':=?t9) (H':=?H9) zaf hC (by kernel_rfl) ?e9 ?q9
        case e9=>
          refine zas ?_
          iterate 2 refine zab rfl (by simp[g0,g1,g2,g8,g9,wr1]<;>rfl) (by rfl) (by simp[zbg,zbB,hw3,Nat.blt_eq]) ?_
          exact zak
        refine zkg ?_
        refine ih (pre++[c]) a' _ ?_ ha' hwa' ?_ ?_ ?_ ?_ ?_ ?_
        · rw[hs];simp
        all_goals simp[hw3,g0,g1,g2,g8]
      apply za0.seq
      by_cases hvb:(v:Int)<base
      · rw [decide_eq_true hvb]at f6
        have hv16:v<16:=by rcases hb with rfl|rfl|rfl<;>omega
        have hwc:zdw base (c::L) a=if a*base+v<340282366920938463463374607431768211456 then zdw base L (a*base+v)else none:=by
          simp only[zdw]
          rw[hv,if_pos hvb,Int.toNat_natCast]
        by_cases hbig:a*base+v<340282366920938463463374607431768211456
        · refine za0.yield (vs:=[.i .u64 v]) (t1:=?ty) (H1:=?Hy) zaf hC (by kernel_rfl) 4 hps hasg hbdy rfl ?ey ?gy rfl ?jy ?vy hfn rfl hst ?fy (by simp[hw0]) ?_
          case ey=>
            iterate 2 refine zab rfl (by simp[f0,f1,f2,f5,f6,f8,f9]<;>rfl) (by rfl) (by simp[zbg,zbB,hw',Nat.blt_eq]) ?_
            iterate 2 refine zab (by simp[zaF]) (by simp[f0,f1,f2,f5,f6,f8,f9]<;>rfl) (by rfl) (by simp[zbg,zbB,hw',Nat.blt_eq]) ?_
            exact zak
          case gy=>simp[zaF]
          case jy=>simp[f0]
          case vy=>simp[f5]
          case fy=>simp[zbg,hw',Nat.blt_eq]
          refine zwO hC (v:=.i .u64 v) (by simp[zhO,hw0]) (by simp[zhO]) ?_
          intro tA hwA h8A hkA
          refine⟨_,_,_,rfl,rfl,?_⟩
          refine zwP hC s base at_ hb a v ha hv16 htim hmust hwA h8A (by rw[hkA 4 (by omega)];simp[zhO,e4]) (by rw[hkA 5 (by omega)];simp[zhO,e5]) (by rw[hkA 7 (by omega)];simp[zhO,e7]) (fun tB _=>?_) (fun _ _ _ h=>absurd hbig h)
          refine⟨_,rfl,none,_,⟨rfl,rfl⟩,?t26,?H26,?er6,?_⟩
          case er6=>
            refine zab (by simp[zaF]) (by simp[f0,f1,f2,f5,f6,f8,f9]<;>rfl) (by rfl) (by simp[zbg,zbB,hw',Nat.blt_eq]) ?_
            refine zab rfl (by simp[f0,f1,f2,f5,f6,f8,f9]<;>rfl) (by rfl) (by simp[zbg,zbB,hw',Nat.blt_eq]) ?_
            exact zak
          rw[hrecE]
          apply zaD
          refine za0.cond (o:=?o8) (b:=?b8) ?g8 ?r8 ?y8 ?n8
          case g8=>simp[f6]<;>rfl
          case r8=>rfl
          case y8=>intro h;simp at h
          case n8=>
            intro _
            refine za0.skip ?_
            refine zdm ?_
            apply zaD
            refine again _ _ hbig (by rw[hwh,hwc,if_pos hbig]) ?_ ?_ ?_ ?_ ?_ ?_
            all_goals simp[hw',f0,f1,f2,f8,f9]
        · refine za0.yieldP (vs:=[.i .u64 v]) (t1:=?tz) (H1:=?Hz) zaf hC (by kernel_rfl) 4 hps hasg hbdy rfl ?ez ?gz rfl ?jz ?vz hfn rfl hst (by simp[hw0]) ?_
          case ez=>
            iterate 2 refine zab rfl (by simp[f0,f1,f2,f5,f6,f8,f9]<;>rfl) (by rfl) (by simp[zbg,zbB,hw',Nat.blt_eq]) ?_
            iterate 2 refine zab (by simp[zaF]) (by simp[f0,f1,f2,f5,f6,f8,f9]<;>rfl) (by rfl) (by simp[zbg,zbB,hw',Nat.blt_eq]) ?_
            exact zak
          case gz=>simp[zaF]
          case jz=>simp[f0]
          case vz=>simp[f5]
          refine zwO hC (v:=.i .u64 v) (by simp[zhO,hw0]) (by simp[zhO]) ?_
          intro tA hwA h8A hkA
          refine⟨_,_,_,rfl,rfl,?_⟩
          refine zwP hC s base at_ hb a v ha hv16 htim hmust hwA h8A (by rw[hkA 4 (by omega)];simp[zhO,e4]) (by rw[hkA 5 (by omega)];simp[zhO,e5]) (by rw[hkA 7 (by omega)];simp[zhO,e7]) (fun tB h=>absurd h hbig) (fun tB HB hl5 _=>?_)
          exact⟨_,_,_,_,rfl,rfl,hP _ _ _ hl5 (by rw[hwh,hwc,if_neg hbig])⟩
      · rw [decide_eq_false hvb]at f6
        have hwc:zdw base (c::L) a=zdw base L a:=by
          simp only[zdw]
          rw[hv,if_neg hvb]
        refine za0.reg (t':=?t7) (H':=?H7) zaf hC (by kernel_rfl) ?e7 ?q7
        case e7=>
          refine zas ?_
          iterate 2 refine zab rfl (by simp[f0,f1,f2,f5,f6,f8,f9]<;>rfl) (by rfl) (by simp[zbg,zbB,hw',Nat.blt_eq]) ?_
          iterate 4 refine zcF (by simp[zaF]) (by simp[zbg,zbB,hw',Nat.blt_eq]) ?_
          refine zab rfl (by simp[f0,f1,f2,f5,f6,f8,f9]<;>rfl) (by rfl) (by simp[zbg,zbB,hw',Nat.blt_eq]) ?_
          exact zak
        apply zaD
        refine za0.cond (o:=?o6) (b:=?b6) ?g6 ?r6 ?y6 ?n6
        case g6=>simp[f6]<;>rfl
        case r6=>rfl
        case y6=>intro h;simp at h
        case n6=>
          intro _
          refine za0.skip ?_
          refine zdm ?_
          apply zaD
          refine again a _ ha (by rw[hwh,hwc]) ?_ ?_ ?_ ?_ ?_ ?_
          all_goals simp[hw',f0,f1,f2,f8,f9]
def zxV (s:List UInt8)(base at_:Int)(t:Tm):Option Nat→Out
 |some a=>.norm t (whH s base at_ (a%18446744073709551616) (a/18446744073709551616))
 |none=>.pan (zct 33 at_) t [none,none,none,none,none]
theorem zrg {H:zaa}(h:H.length=5):HLe [none,none,none,none,none] H:=by
 refine⟨h.symm,fun i b hi=>?_⟩;match i,hi with
 |0,hi=>cases hi
 |1,hi=>cases hi
 |2,hi=>cases hi
 |3,hi=>cases hi
 |4,hi=>cases hi
 |n+5,hi=>simp at hi
theorem zrj {call:zad}(hC:call.Sound prog TT)(s:List UInt8)(base:Nat)(at_:Int)(hb:base=2∨base=10∨base=16)(hlen:s.length<1100000)
 (hval:∀c:UInt8,∀H,call 94 [.i .u8 c.toNat,.i .i64 base] H=.val (.tup [.i .u64 (zbz c.toNat),.b (decide (zbz c.toNat<base))]) H)
 (htim:∀p:Nat×Nat×Nat×Nat,p.1<18446744073709551616∧p.2.1<18446744073709551616∧p.2.2.1<18446744073709551616∧p.2.2.2<18446744073709551616→∀H,call 96 [zdY p.1 p.2.1,.i .u64 p.2.2.1,.i .u64 p.2.2.2] H=.val (zrX (zqz p.1 p.2.1 p.2.2.1 p.2.2.2)) H)
 (hmust:∀(b:Bool)(e k:Int)(H:zaa),call 55 [.b b,.i .i64 e,.i .i64 k] H=if b=true then .val .un H else .pan (zct e k) H)
 {l:Nat}{rec:Loop}{t0:Tm}(hfn:∃f,prog.funcs[rec.fn]? = some f)(hst:rec.state=.ready)(hpd:rec.pending=none)(hps:rec.params=#[13])(hasg:rec.assign=zxT)(hbdy:rec.body=zxU)(hw0:t0.wid=27)(e4:t0.get 4=.ptr 0 0)(e5:t0.get 5=.ptr 1 0)(e7:t0.get 7=.ptr 2 0) :
 za0 prog TT none [⟨l,.loop rec,t0,rec.tmps⟩] (zah f109) (Tm.init f109.ntmps [.yld l,.ptr 3 0,.ptr 4 0]) (whH s base at_ 0 0) (znM TT f109 l rec.tmps t0 (zxV s base at_ t0 (zdw base s 0)) []):=by
 have h0:(Tm.init f109.ntmps [.yld l,.ptr 3 0,.ptr 4 0]).get 0=.yld l:=by rw[zag];rfl
 have h1:(Tm.init f109.ntmps [.yld l,.ptr 3 0,.ptr 4 0]).get 1=.ptr 3 0:=by rw[zag];rfl
 have h2:(Tm.init f109.ntmps [.yld l,.ptr 3 0,.ptr 4 0]).get 2=.ptr 4 0:=by rw[zag];rfl
 have hw:(Tm.init f109.ntmps [.yld l,.ptr 3 0,.ptr 4 0]).wid=28:=rfl;generalize Tm.init f109.ntmps [.yld l,.ptr 3 0,.ptr 4 0]=t at *;apply za0.seq;refine za0.reg (t':=?t1) (H':=?H1) zaf hC (by kernel_rfl) ?e1 ?q1;case e1=>
  refine zas ?_;iterate 3 refine zab rfl (by simp[h0,h1,h2]<;>rfl) (by rfl) (by simp[hw]) ?_
  exact zak
 apply zaD;refine za0.block ?_;refine za0.loop ?_;refine zru hC s base at_ hb hlen hval htim hmust hfn hst hpd hps hasg hbdy hw0 e4 e5 e7 ?_ ?_ s [] 0 _ rfl (by omega) rfl ?_ ?_ ?_ ?_ ?_ ?_
 ·intro t' H' rec' hl hn;rw[hn];exact .inr ⟨rec',_,t',H',[none,none,none,none,none],zrg hl,rfl,rfl,rfl⟩
 ·intro t' a ha _ hw';rw[ha];refine zlk ?_;exact .inl ⟨rec,_,_,.tup [],HLe.refl _,⟨_,.inl rfl,rfl⟩,rfl,by rw[hst];simp,.inl ⟨hpd,rfl⟩⟩
 all_goals simp[hw,h0,h1,h2]
theorem zlQ (base:Nat):∀(L:List UInt8)(a b:Nat),zdw base L a=some b→a<340282366920938463463374607431768211456→b<340282366920938463463374607431768211456
 | [],a,b,h,ha=>by
  have h:=Option.some.inj h;rw[←h];exact ha
 |c::r,a,b,h,ha=>by
  simp only[zdw]at h;by_cases h1:zbz c.toNat<base
  ·rw[if_pos h1]at h;by_cases h2:a*base+(zbz c.toNat).toNat<340282366920938463463374607431768211456
   ·rw[if_pos h2]at h;exact zlQ base r _ b h h2
   ·rw[if_neg h2]at h;cases h
  ·rw[if_neg h1]at h;exact zlQ base r a b h ha
def zuu (base:Nat)(s:List UInt8)(at_:Int):Res:=match zdw base s 0 with
 |some a=>.val (.s (zfk a))
 |none=>.pan (zct 33 at_)
theorem znZ {call:zad}(hC:call.Sound prog TT)(s:List UInt8)(base:Nat)(at_:Int)(hb:base=2∨base=10∨base=16)(hlen:s.length<1100000)
 (hval:∀c:UInt8,∀H,call 94 [.i .u8 c.toNat,.i .i64 base] H=.val (.tup [.i .u64 (zbz c.toNat),.b (decide (zbz c.toNat<base))]) H)
 (htim:∀p:Nat×Nat×Nat×Nat,p.1<18446744073709551616∧p.2.1<18446744073709551616∧p.2.2.1<18446744073709551616∧p.2.2.2<18446744073709551616→∀H,call 96 [zdY p.1 p.2.1,.i .u64 p.2.2.1,.i .u64 p.2.2.2] H=.val (zrX (zqz p.1 p.2.1 p.2.2.1 p.2.2.2)) H)
 (hmust:∀(b:Bool)(e k:Int)(H:zaa),call 55 [.b b,.i .i64 e,.i .i64 k] H=if b=true then .val .un H else .pan (zct e k) H)
 (hdig:∀(s:List UInt8)(base:Int)(H:zaa),call 95 [.s s,.i .i64 base] H=.val (.fn 109 [.ptr H.length 0,.ptr (H.length+1) 0]) (H++zon s base))
 (htxt:∀p:Nat×Nat,p.1<18446744073709551616∧p.2<18446744073709551616→∀H,call 97 [zdY p.1 p.2] H=.val (.s (zfk (p.1+p.2*18446744073709551616))) H) :
 zlU prog TT 76 [.s s,.i .i64 base,.i .i64 at_] [] (isR (zuu base s at_)):=by
 have ex1:TT.ext 95=none:=rfl;have ex2:TT.ext 97=none:=rfl;refine⟨f76,_,rfl,rfl,by simp[f76],?_⟩;have h0:(Tm.init f76.ntmps [.s s,.i .i64 base,.i .i64 at_]).get 0=.s s:=by rw[zag];rfl
 have h1:(Tm.init f76.ntmps [.s s,.i .i64 base,.i .i64 at_]).get 1=.i .i64 base:=by rw[zag];rfl
 have h2:(Tm.init f76.ntmps [.s s,.i .i64 base,.i .i64 at_]).get 2=.i .i64 at_:=by rw[zag];rfl
 have hw:(Tm.init f76.ntmps [.s s,.i .i64 base,.i .i64 at_]).wid=27:=rfl;generalize Tm.init f76.ntmps [.s s,.i .i64 base,.i .i64 at_]=t at *;apply za0.seq;refine za0.reg (t':=?t1) (H':=?H1) zaf hC (by kernel_rfl) ?e1 ?q1;case e1=>
  refine zas ?_;iterate 3 refine zab rfl (by simp[h0,h1,h2]<;>rfl) (by rfl) (by simp[hw]) ?_
  exact zak
 apply zaD;apply za0.seq;refine za0.reg (t':=?t2) (H':=?H2) zaf hC (by kernel_rfl) ?e2 ?q2;case e2=>
  refine zas ?_;refine zab rfl (by simp[h0,h1,h2]<;>rfl) (by rfl) (by simp[hw]) ?_;exact zak
 apply zaD;iterate 2 apply za0.seq
 refine za0.reg (t':=?t3) (H':=?H3) zaf hC (by kernel_rfl) ?e3 ?q3;case e3=>
  refine zas ?_;iterate 3 refine zab rfl (by simp[h0,h1,h2,hdig,zon,ex1]<;>rfl) (by rfl) (by simp[hw]) ?_
  exact zak
 apply zaD;refine za0.block ?_;refine za0.range (gv:=some (.fn 109 [.ptr 3 0,.ptr 4 0])) (oz:=?oz) (hsz:=[]) zaf (by simp) rfl Tryz.func109 rfl (zaf.func 109 _ _ rfl rfl).2 (by decide) (by simp) ?hQ ?hI;case hI=>
  intro l rec hfn hst hpd hps hasg hbdy;refine zrj hC s base at_ hb hlen hval htim hmust hfn hst hpd hps hasg hbdy ?_ ?_ ?_ ?_;all_goals simp[hw]
 case hQ=>
  cases hF:zdw base s 0 with
  |none=>
   simp only[zxV,zuu,hF];exact rfl
  |some a=>
   have hlt:=zlQ base s 0 a hF (by omega);have ht:=htxt (a%18446744073709551616,a/18446744073709551616) ⟨by simp only;omega,by simp only;omega⟩;rw[show a%18446744073709551616+a/18446744073709551616*18446744073709551616=a from by omega]at ht;simp only[zdY]at ht;simp only[zxV,zuu,hF];generalize a%18446744073709551616=lo at ht ⊢;generalize a/18446744073709551616=hi at ht ⊢;clear hlt;refine zdm ?_;apply zaD;apply za0.seq;refine za0.reg (t':=?t5) (H':=?H5) zaf hC (by kernel_rfl) ?e5 ?q5;case e5=>
    refine zas ?_;iterate 3 refine zab rfl (by simp[h0,h1,h2,ht,ex2]<;>rfl) (by rfl) (by simp[hw]) ?_
    exact zak
   apply zaD;refine za0.ret ?_;refine⟨.s (zfk a),rfl,?_⟩;simp[f76]
theorem zt1 {P:Program} {T:Tab} (hp:T.Plain) (F:FuncId) {α:Type} (enc:α→List V) (D:α→Prop) (r:α→Res) (hnl:∀a,D a→nlL (enc a)=true∧(r a).nl=true) (inj:∀a b,D a→D b→enc a=enc b→r a=r b)
    (h:∀a,D a→zbZ P T F (enc a) [] (isR (r a))):∃g,zao P T F g∧∀a,D a→∀H,g (enc a) H=(r a).at H:=by
  classical
  refine⟨fun vs H=>if hd:∃a,D a∧vs=enc a then(r hd.choose).at H else .no,?_,?_⟩
  · intro vs H q hq hne
    simp only at hq
    split at hq
    · rename_i hd
      obtain⟨ha,he⟩:=hd.choose_spec
      generalize hd.choose=a at ha he hq
      subst he
      obtain⟨x,hx,_,hent,hw⟩:=h a ha
      refine⟨hent,fun M ρ w args hS hr=>?_⟩
      have k:=hw M [] w args (hS.forget hp) (nlL_rel (σ:=[]) _ args (hnl a ha).1 hr)
      subst hq
      have hn:=(hnl a ha).2
      cases hra:r a with
      | val v=>
        rw[hra]at hx hn
        cases x with
        | val v' J=>
          have hx:Res.val v=.val v':=hx
          cases hx
          refine Calls.mono k ?_
          rintro e w' ⟨y,M',σ,rfl,he,hy,hk⟩
          exact⟨y,M',ρ,rfl,he.recall,zdB v y hn hy,hS.recall hk he⟩
        |pan v' J=>cases(show Res.val v=.pan v' from hx)
        |no=>exact hx.elim
      | pan v=>
        rw[hra]at hx hn
        cases x with
        | pan v' J=>
          have hx:Res.pan v=.pan v':=hx
          cases hx
          refine Calls.mono k ?_
          rintro e w' ⟨y,M',σ,rfl,he,hy,hk⟩
          exact⟨y,M',ρ,rfl,he.recall,zdB v y hn hy,hS.recall hk he⟩
        |val v' J=>cases(show Res.pan v=.val v' from hx)
        |no=>exact hx.elim
    · exact absurd hq.symm hne
  · intro a ha H
    have hd:∃b,D b∧enc a=enc b:=⟨a,ha,rfl⟩
    obtain⟨h1,h2⟩:=hd.choose_spec
    show(if hd:∃b,D b∧enc a=enc b then(r hd.choose).at H else .no)=_
    rw[dif_pos hd,inj a _ ha h1 h2]
theorem zvZ:∃g,zao prog TT 76 g∧∀(s:List UInt8) (base:Nat) (at_:Int),base=2∨base=10∨base=16→s.length<1100000→∀H,g [.s s,.i .i64 base,.i .i64 at_] H=(zuu base s at_).at H:=by
  obtain⟨g1,k1,s1⟩:=zp5
  obtain⟨g2,k2,s2⟩:=zdV
  obtain⟨g3,k3,s3⟩:=zv5
  obtain⟨g4,k4,s4⟩:=zv4
  obtain⟨g5,k5,s5⟩:=zv6
  have hC:=ws (ws (ws (ws (ws n0 k1) k2) k3) k4) k5
  obtain⟨g,k,h⟩:=zt1 (P:=prog) (T:=TT) zaw 76 (fun p:List UInt8×Nat×Int=>[.s p.1,.i .i64 p.2.1,.i .i64 p.2.2]) (fun p=>(p.2.1=2∨p.2.1=10∨p.2.1=16)∧p.1.length<1100000) (fun p=>zuu p.2.1 p.1 p.2.2)
    (fun p _=>⟨rfl,by unfold zuu;cases zdw p.2.1 p.1 0<;>rfl⟩)
    (fun p q _ _ he=>by
      simp only[List.cons.injEq,V.s.injEq,V.i.injEq,true_and,and_true,Int.ofNat_inj]at he
      obtain⟨h1,h2,h3⟩:=he
      rw[h1,h2,h3])
    (fun p hp=>zlU.fact zaf (znZ hC p.1 p.2.1 p.2.2 hp.1 hp.2
      (fun c H=>by rw[zac _ _ _ _ rfl,zac _ _ _ _ rfl,zac _ _ _ _ rfl,zac _ _ _ _ rfl,zap];exact s1 _ _ (by omega) (by have:=c.toNat_lt;omega) (by have:=hp.1;omega) H)
      (fun q hq H=>by rw[zac _ _ _ _ rfl,zac _ _ _ _ rfl,zap];exact s3 q hq H)
      (fun b e k H=>by rw[zac _ _ _ _ rfl,zac _ _ _ _ rfl,zac _ _ _ _ rfl,zap];exact s2 b e k H)
      (fun s b H=>by rw[zac _ _ _ _ rfl,zap];exact s4 s b H)
      (fun q hq H=>by rw[zap];exact s5 q hq H)))
  exact⟨g,k,fun s base at_ hb hs H=>h (s,base,at_) ⟨hb,hs⟩ H⟩
abbrev zdJ (call:zad):Prop:=∀(b:Bool)(e k:Int)(H:zaa),call 55 [.b b,.i .i64 e,.i .i64 k] H=if b=true then .val .un H else .pan (zct e k) H
theorem zaN {call:zad}(hm:zdJ call)(b:Bool)(e k:Int){A:Prop}{B:V→Prop}(h1:b=true→A)(h2:b=false→B (zct e k)) :
 ((∀K,call 55 [.b b,.i .i64 e,.i .i64 k] K=.val (.tup []) K)∧A)∨∃v,(∀K,call 55 [.b b,.i .i64 e,.i .i64 k] K=.pan v K)∧B v:=by
 cases b with
 |true=>exact .inl ⟨fun K=>hm true e k K,h1 rfl⟩
 |false=>exact .inr ⟨_,fun K=>hm false e k K,h2 rfl⟩
def zbD (base:Int):List UInt8→Nat→Option Nat
 | [],n=>some n
 |c::r,n=>if zbz c.toNat<base then zbD base r (n+1)else if c.toNat≠95∨n=0 then some n else match r with
  |d::_=>if zbz d.toNat<base then zbD base r (n+1)else none
  | []=>none
theorem zwC:zaS TT shp f75.ntmps [] (zah f75) [] ⟨[(0,.f1 .vs (.va 0)),(1,.f1 (.vi .i64) (.va 1)),(2,.f1 (.vi .i64) (.va 2))],⟨.va 3,[],[]⟩,4,[]⟩ (KF TT f75 [0,1,2,7])=.leaf (.stop [true,true,false,false]) [(0,xs v0),(1,xi v1),(2,xi v2),(7,xi c0)] ⟨v3,[],[]⟩:=by kernel_rfl
theorem zsw:goT TT shp f75.ntmps [] [true,true,false,false,false] (zah f75) [] ⟨[(0,.f1 .vs (.va 0)),(1,.f1 (.vi .i64) (.va 1)),(2,.f1 (.vi .i64) (.va 2)),(7,.f1 (.vi .i64) (.va 3))],⟨.va 4,[],[]⟩,5,[]⟩ (KF TT f75 [0,1,2,7])=let qc:E:=xw (xa v3 c1);let qb:SH:=⟨v4,[],[]⟩;let qa:Tree:=.leaf (.again [true,true,false,false,false]) [(0,xs v0),(1,xi v1),(2,xi v2),(7,xi qc)] qb;let qd:Tree:=.fin (xi v3) qb;.ite (xL v3 (xl v0)) (.need (xE c0 v3) (.asks (.call 94 (x2 (xu (xA v0 v3)) (xi v1))) [.i,.b] (xt (x2 (xv v5) (xb v6))) (.ite v6 qa (.ite (xM (xA v0 v3) (xc 95)) qd (.ite (xe v3 c0) qd (.ite (xL qc (xl v0)) (.need (xE c0 qc) (.asks (.call 94 (x2 (xu (xA v0 qc)) (xi v1))) [.i,.b] (xt (x2 (xv v7) (xb v8))) (.asks (.call 55 (x3 (xb v8) (xi (xc 33)) (xi v2))) [] (.cv (.tup [])) qa (.pnc v9 qb)) (.stuck 0))) (.asks (.call 55 (x3 (xb (xL qc (xl v0))) (xi (xc 33)) (xi v2))) [] (.cv (.tup [])) qa (.pnc v7 qb)))))) (.stuck 0))) qd:=by kernel_rfl
def rnV (o:Option Nat)(at_:Int):Res:=match o with
 |some n=>.val (.i .i64 n)
 |none=>.pan (zct 33 at_)
theorem ztg {call:zad} (hC:call.Sound prog TT) (hm:zdJ call) (base at_:Int) (hval:∀c:UInt8,∀H,call 94 [.i .u8 c.toNat,.i .i64 base] H=.val (.tup [.i .u64 (zbz c.toNat),.b (decide (zbz c.toNat<base))]) H) :
    ∀(L pre:List UInt8)(t:Tm)(H:zaa),(pre++L).length<1100000→t.wid=f75.ntmps→t.get 0=.s (pre++L)→t.get 1=.i .i64 base→t.get 2=.i .i64 at_→t.get 7=.i .i64 pre.length →
    ctx prog TT [true,true,false,false,false] (zah f75) (zaV TT f75 (isR (rnV (zbD base L pre.length) at_))) (.norm t H):=by
  intro L
  induction L with
  | nil=>
    intro pre t H hlen hw t0 t1 t2 t7
    refine zbe.symIn (p:=[true,true,false,false]) zaf hC rfl zsw (by kernel_rfl) [.us (pre++[]),.ui base,.ui at_,.ui (pre.length:Nat),.uh H] rfl hw ⟨t0,t1,t2,t7,trivial⟩ rfl (zbd _ _) ?_
    simp -implicitDefEqProofs only[VC,isR,exU,Ask.den,forall_eq,E.den,O1.den,O2.den,O3.den,U.int_ui,U.boo_ub,U.val_uv,U.lst_ul,U.str_us,U.nat_un,U.heap_uh,SH.den,zaB,zbX,bD,SB.den,zaq,LQ,cons_append,nil_append,List.getElem?_cons_zero,List.getElem?_cons_succ,Option.getD_some,zam,zai,zan,zaj,beq_iff_eq,bne_iff_ne,beq_eq_false_iff_ne,Int.toNat_natCast]
    rw[append_nil]
    exact⟨fun h=>absurd h (by omega),fun _=>rfl⟩
  | cons b L ih=>
    intro pre t H hlen hw t0 t1 t2 t7
    refine zbe.symIn (p:=[true,true,false,false]) zaf hC rfl zsw (by kernel_rfl) [.us (pre++b::L),.ui base,.ui at_,.ui (pre.length:Nat),.uh H] rfl hw ⟨t0,t1,t2,t7,trivial⟩ rfl (zbd _ _) ?_
    clear t0 t1 t2 t7 hw
    simp -implicitDefEqProofs only[VC,isR,exU,Ask.den,forall_eq,E.den,O1.den,O2.den,O3.den,U.int_ui,U.boo_ub,U.val_uv,U.lst_ul,U.str_us,U.nat_un,U.heap_uh,SH.den,zaB,zbX,bD,SB.den,zaq,LQ,cons_append,nil_append,List.getElem?_cons_zero,List.getElem?_cons_succ,Option.getD_some,zam,zai,zan,zaj,beq_iff_eq,bne_iff_ne,beq_eq_false_iff_ne,Int.toNat_natCast]
    have hl:(pre++b::L).length=pre.length+(L.length+1):=by simp
    rw[hl]at hlen
    have w1:IntKind.i64.wrap ((pre.length:Int)+1)=((pre.length+1:Nat):Int):=by rw[w64 (by omega) (by omega)];omega
    simp only[w1,Int.toNat_natCast,zjO pre L b _ rfl,hl]
    have e1:pre++b::L=(pre++[b])++L:=by simp
    have e2:((pre.length+1:Nat):Int)=((pre++[b]).length:Nat):=by simp
    have go:zbD base (b::L) pre.length=zbD base L (pre.length+1)→∀t:Tm,t.wid=f75.ntmps→t.get 0=.s (pre++b::L)→t.get 1=.i .i64 base→t.get 2=.i .i64 at_→t.get 7=.i .i64 ((pre.length+1:Nat):Int) →
        ctx prog TT [true,true,false,false,false] (zah f75) (zaV TT f75 (isR (rnV (zbD base (b::L) pre.length) at_))) (.norm t H):=fun e t hw f0 f1 f2 f7=>by
      have:=ih (pre++[b]) t H (by simp;omega) hw (by rw[f0,e1]) f1 f2 (by rw[f7,e2])
      rw[e]
      simpa using this
    refine⟨fun _=>⟨by omega,.inl ⟨_,_,hval b,fun hv=>go (by simp only[zbD,if_pos (of_decide_eq_true hv)]),fun hv=>⟨fun h95=>?_,fun h95=>⟨fun h0=>?_,fun h0=>?_⟩⟩⟩⟩,fun h=>absurd h (by omega)⟩
    · simp only[zbD]
      rw[if_neg (of_decide_eq_false hv),if_pos (.inl (fun e=>by rw[e]at h95;exact absurd h95 (by decide)))]
      rfl
    · simp only[zbD]
      rw[if_neg (of_decide_eq_false hv),if_pos (.inr (by omega))]
      rfl
    · have hu:¬(b.toNat≠95∨pre.length=0):=by
        simp only[bne_eq_false_iff_eq]at h95
        omega
      cases L with
      | nil=>
        refine⟨fun h=>absurd h (by simp),fun h=>?_⟩
        refine zaN hm _ _ _ (fun hb=>by simp at hb) fun _=>?_
        simp only[zbD]
        rw[if_neg (of_decide_eq_false hv),if_neg hu]
        rfl
      | cons d r=>
        have hat:atS (pre++b::d::r) ((pre.length+1:Nat):Int)=d.toNat:=by
          rw[show pre++b::d::r=(pre++[b])++d::r from by simp]
          exact zjO (pre++[b]) r d _ (by simp)
        rw[hat]
        refine⟨fun h=>⟨by omega,.inl ⟨_,_,hval d,zaN hm _ _ _ (fun hb=>go ?_) fun hb=>?_⟩⟩,fun h=>absurd h (by simp only[length_cons];omega)⟩
        · simp only[zbD]
          rw[if_neg (of_decide_eq_false hv),if_neg hu]
          rw[if_pos (of_decide_eq_true hb)]
        · simp only[zbD]
          rw[if_neg (of_decide_eq_false hv),if_neg hu]
          rw[if_neg (of_decide_eq_false hb)]
          rfl
theorem zst:∃g,zao prog TT 75 g∧∀(s:List UInt8)(base at_:Int),s.length<1100000→base=2∨base=10∨base=16→∀H,g [.s s,.i .i64 base,.i .i64 at_] H=(match zbD base s 0 with|some n=>.val (.i .i64 n) H|none=>.pan (zct 33 at_) H):=by
 obtain⟨g1,k1,s1⟩:=zp5;obtain⟨g2,k2,s2⟩:=zdV;obtain⟨g,k,s⟩:=zbV zaf zaw 75 (fun p:List UInt8×Int×Int=>[.s p.1,.i .i64 p.2.1,.i .i64 p.2.2]) (fun p=>p.1.length<1100000∧(p.2.1=2∨p.2.1=10∨p.2.1=16)) (fun p=>rnV (zbD p.2.1 p.1 0) p.2.2) (fun p _=>⟨rfl,by unfold rnV;split<;>rfl⟩)
  (fun a b _ _ h=>by
   simp only[List.cons.injEq,V.s.injEq,V.i.injEq,true_and,and_true]at h;rw[h.1,h.2.1,h.2.2]) fun p hp=>by
  obtain⟨s,base,at_⟩:=p;simp only at hp ⊢;have hC:=ws (ws n0 k1) k2;have c1:zdJ ((zad.none.with 94 g1).with 55 g2):=fun b e k H=>by rw[zap];exact s2 b e k H
  have c2:∀c:UInt8,∀H,((zad.none.with 94 g1).with 55 g2) 94 [.i .u8 c.toNat,.i .i64 base] H=.val (.tup [.i .u64 (zbz c.toNat),.b (decide (zbz c.toNat<base))]) H:=fun c H=>by
   rw[zac _ _ _ _ rfl,zap];exact s1 _ _ (by omega) (by have:=c.toNat_lt;omega) hp.2 H
  generalize(zad.none.with 94 g1).with 55 g2=call at hC c1 c2;refine zaH.sym zaf hC (fn:=f75) rfl rfl (by simp[f75]) zwC (by kernel_rfl) [.us s,.ui base,.ui at_,.uh []] rfl ⟨by rw[zag];rfl,by rw[zag];rfl,by rw[zag];rfl,trivial⟩ rfl (zbd _ _) ?_;simp -implicitDefEqProofs only[VC,isR,exU,Ask.den,forall_eq,E.den,O1.den,O2.den,O3.den,U.int_ui,U.boo_ub,U.val_uv,U.lst_ul,U.str_us,U.nat_un,U.heap_uh,SH.den,zaB,zbX,bD,SB.den,zaq,LQ,cons_append,nil_append,List.getElem?_cons_zero,List.getElem?_cons_succ,Option.getD_some,zam,zai,zan,zaj,beq_iff_eq,bne_iff_ne,beq_eq_false_iff_ne,Int.toNat_natCast];intro t hw t0 t1 t2 t7;exact Tri.symLoop rfl (ztg hC c1 base at_ c2 s [] t _ (by simpa using hp.1) hw t0 t1 t2 t7)
 refine⟨g,k,fun x base at_ hx hb H=>?_⟩;have:=s (x,base,at_) ⟨hx,hb⟩ H;rw[this];unfold rnV;cases zbD base x 0<;>rfl
def zhz:List UInt8→Nat
 |d::_=>if d=43∨d=45 then 2 else 1
 | []=>1
def zem:List UInt8→Option Nat
  | []=>some 0
  | c :: r=>if c=101∨c=69 then match zbD 10 ((c::r).drop (zhz r)) 0 with
      |some (k+1)=>some (zhz r+(k+1))
      |_=>none
    else some 0
def ztA (o:Option Nat)(at_:Int):Res:=match o with
 |some n=>.val (.i .i64 n)
 |none=>.pan (zct 33 at_)
theorem zcZ (base:Int):∀(L:List UInt8)(n m:Nat),zbD base L n=some m→m≤n+L.length
 | [],n,m,h=>by simp only[zbD,Option.some.injEq]at h;simp;omega
 | [c],n,m,h=>by
  simp only[zbD]at h;split at h
  ·simp only[Option.some.injEq]at h;simp;omega
  ·split at h
   ·simp only[Option.some.injEq]at h;simp;omega
   ·cases h
 |c::d::r,n,m,h=>by
  rw[zbD]at h;split at h
  ·have:=zcZ base (d::r) (n+1) m h;simp only[length_cons]at this ⊢;omega
  ·split at h
   ·simp only[Option.some.injEq]at h;simp only[length_cons];omega
   ·split at h
    ·have:=zcZ base (d::r) (n+1) m h;simp only[length_cons]at this ⊢;omega
    ·cases h
theorem zxO:zaS TT shp f77.ntmps [] (zah f77) [] ⟨[(0,.f1 .vs (.va 0)),(1,.f1 (.vi .i64) (.va 1))],⟨.va 2,[],[]⟩,3,[]⟩ (KF TT f77 [])=let qd:SH:=⟨v2,[],[]⟩;let qf:E:=xl v0;let qe:E:=x3 (xb (xG v3 c0)) (xi (xc 33)) (xi v1);let qb:Tree:=.need (xE c2 qf) (.asks (.call 75 (x3 (xs (.f3 .sub v0 c2 qf)) (xi c10) (xi v1))) [.i] (xi v3) (.asks (.call 55 qe) [] (.cv (.tup [])) (.fin (xi (xw (xa c2 v3))) qd) (.pnc v4 qd)) (.pnc v3 qd));let qc:Tree:=.need (xE c1 qf) (.asks (.call 75 (x3 (xs (.f3 .sub v0 c1 qf)) (xi c10) (xi v1))) [.i] (xi v3) (.asks (.call 55 qe) [] (.cv (.tup [])) (.fin (xi (xw (xa c1 v3))) qd) (.pnc v4 qd)) (.pnc v3 qd));let qa:Tree:=.ite (xL c1 qf) (.ite (xe (xA v0 c1) (xc 43)) qb (.ite (xe (xA v0 c1) (xc 45)) qb qc)) qc;.ite (xQ v0 (.cs [])) (.fin (xi c0) qd) (.need (xL c0 qf) (.ite (xM (xA v0 c0) (xc 101)) (.ite (xM (xA v0 c0) (xc 69)) (.fin (xi c0) qd) qa) qa)):=by kernel_rfl
theorem zv0:∃g,zao prog TT 77 g∧∀(s:List UInt8) (at_:Int),s.length<1100000→∀H,g [.s s,.i .i64 at_] H=(ztA (zem s) at_).at H:=by
  obtain⟨g1,k1,s1⟩:=zst
  obtain⟨g2,k2,s2⟩:=zdV
  obtain ⟨g, k,s⟩:=zbV zaf zaw 77 (fun p:List UInt8×Int=>[.s p.1,.i .i64 p.2]) (fun p=>p.1.length<1100000) (fun p=>ztA (zem p.1) p.2) (fun p _=>⟨rfl,by unfold ztA;split<;>rfl⟩)
    (fun a b _ _ h=>by
      simp only[List.cons.injEq,V.s.injEq,V.i.injEq,true_and,and_true]at h
      rw[h.1,h.2]) fun p hp=>by
    obtain⟨s,at_⟩:=p
    simp only at hp ⊢
    have hC:=ws (ws n0 k1) k2
    have c1:zdJ ((zad.none.with 75 g1).with 55 g2):=fun b e k H=>by rw[zap];exact s2 b e k H
    have c2:∀(x:List UInt8),x.length<1100000→∀H,((zad.none.with 75 g1).with 55 g2) 75 [.s x,.i .i64 10,.i .i64 at_] H=(match zbD 10 x 0 with|some n=>.val (.i .i64 n) H|none=>.pan (zct 33 at_) H):=fun x hx H=>by rw[zac _ _ _ _ rfl,zap];exact s1 x 10 at_ hx (by simp) H
    generalize(zad.none.with 75 g1).with 55 g2=call at hC c1 c2
    refine zaH.sym zaf hC (fn:=f77) rfl rfl (by simp[f77]) zxO (by kernel_rfl) [.us s,.ui at_,.uh []] rfl ⟨by rw[zag];rfl,by rw[zag];rfl,trivial⟩ rfl (zbd _ _) ?_
    simp -implicitDefEqProofs only[VC,isR,exU,Ask.den,forall_eq,E.den,O1.den,O2.den,O3.den,U.int_ui,U.boo_ub,U.val_uv,U.lst_ul,U.str_us,U.nat_un,U.heap_uh,SH.den,zaB,zbX,bD,SB.den,zaq,LQ,cons_append,nil_append,List.getElem?_cons_zero,List.getElem?_cons_succ,Option.getD_some,zam,zai,zan,zaj,beq_iff_eq,bne_iff_ne,beq_eq_false_iff_ne,Int.toNat_natCast]
    have wq:∀q k:Nat,q<1200000→k<1200000→IntKind.i64.wrap ((q:Int)+k)=((q+k:Nat):Int):=fun q k h1 h2=>by rw[w64 (by omega) (by omega)];omega
    have tail:∀q:Nat,q≤2→q≤s.length→(zem s=match zbD 10 (s.drop q) 0 with|some (k+1)=>some (q+(k+1))|_=>none) →
        ((q:Int)≤s.length∧((∃x:Int,(∀K,call 75 [.s ((s.take s.length).drop q),.i .i64 10,.i .i64 at_] K=.val (.i .i64 x) K)∧(((∀K,call 55 [.b (ltB 0 x),.i .i64 33,.i .i64 at_] K=.val (.tup []) K)∧ztA (zem s) at_=.val (.i .i64 (IntKind.i64.wrap ((q:Int)+x))))∨∃v,(∀K,call 55 [.b (ltB 0 x),.i .i64 33,.i .i64 at_] K=.pan v K)∧ztA (zem s) at_=.pan v))∨∃v,(∀K,call 75 [.s ((s.take s.length).drop q),.i .i64 10,.i .i64 at_] K=.pan v K)∧ztA (zem s) at_=.pan v)):=by
      intro q hq hql he
      refine⟨by omega,?_⟩
      rw[take_length]
      have hrun:=c2 (s.drop q) (by rw[length_drop];omega)
      cases hr:zbD 10 (s.drop q) 0 with
      | none=>
        rw[hr]at hrun he
        exact .inr ⟨_,hrun,by rw[he];rfl⟩
      | some k=>
        rw[hr]at hrun he
        have hle:=zcZ 10 _ _ _ hr
        rw[length_drop]at hle
        refine .inl ⟨_,hrun,zaN c1 _ _ _ (fun hb=>?_) fun hb=>?_⟩
        · cases k with
          |zero=>exact absurd hb (by decide)
          | succ k=>
            rw[he,wq q (k+1) (by omega) (by omega)]
            rfl
        · cases k with
          |zero=>rw[he];rfl
          |succ k=>rw[zai]at hb;omega
    cases s with
    |nil=>exact⟨fun _=>rfl,fun h=>absurd rfl h⟩
    | cons c r=>
      have u8:∀(a:UInt8)(n:Nat),a.toNat=n→∀x:UInt8,((x.toNat:Nat):Int)=(n:Int)→x=a:=fun a n h x hx=>UInt8.toNat.inj (by omega)
      have h0:atS (c::r) 0=c.toNat:=rfl
      have ex:∀q,zhz r=q→(c=101∨c=69)→zem (c::r)=match zbD 10 ((c::r).drop q) 0 with|some (k+1)=>some (q+(k+1))|_=>none:=by
        rintro q rfl hc
        simp only[zem,if_pos hc]
      have sg2:(1:Int)<(c::r).length→(atS (c::r) 1=43∨atS (c::r) 1=45)→zhz r=2:=fun hl h=>by
        cases r with
        |nil=>exact absurd hl (by simp only[length_cons,length_nil];omega)
        | cons d r=>
          have h1:atS (c::d::r) 1=d.toNat:=rfl
          rw[h1]at h
          simp only[zhz]
          rw[if_pos (by rcases h with h|h;exact .inl (u8 43 43 rfl d h);exact .inr (u8 45 45 rfl d h))]
      have sg1:¬((1:Int)<(c::r).length∧(atS (c::r) 1=43∨atS (c::r) 1=45))→zhz r=1:=fun h=>by
        cases r with
        |nil=>rfl
        | cons d r=>
          have h1:atS (c::d::r) 1=d.toNat:=rfl
          rw[h1]at h
          simp only[zhz]
          rw[if_neg (by rintro(rfl|rfl)<;>exact h ⟨by simp only[length_cons];omega,by decide⟩)]
      have hlen:(1:Int)≤(c::r).length:=by simp only[length_cons];omega
      have t1:(c=101∨c=69)→¬((1:Int)<(c::r).length∧(atS (c::r) 1=43∨atS (c::r) 1=45))→_:=fun hc h=>tail 1 (by omega) (by omega) (ex 1 (sg1 h) hc)
      have t2:(c=101∨c=69)→(1:Int)<(c::r).length→(atS (c::r) 1=43∨atS (c::r) 1=45)→_:=fun hc hl h=>tail 2 (by omega) (by omega) (ex 2 (sg2 hl h) hc)
      have no:c≠101→c≠69→ztA (zem (c::r)) at_=.val (.i .i64 0):=fun a b=>by
        simp only[zem]
        rw[if_neg (by rintro(h|h);exact a h;exact b h)]
        rfl
      refine⟨fun h=>(by cases h),fun _=>⟨by omega,fun a=>⟨fun b=>no (fun e=>a (by rw[e];rfl)) (fun e=>b (by rw[e];rfl)),fun b=>?_⟩,fun a=>?_⟩⟩
      · have hc:c=101∨c=69:=.inr (u8 69 69 rfl c (by simpa[h0]using b))
        exact⟨fun hl=>⟨fun h=>t2 hc hl (.inl h),fun h=>⟨fun h'=>t2 hc hl (.inr h'),fun h'=>t1 hc (fun x=>by rcases x.2 with x|x;exact h x;exact h' x)⟩⟩,fun hl=>t1 hc (fun x=>hl x.1)⟩
      · have hc:c=101∨c=69:=.inl (u8 101 101 rfl c (by simpa[h0]using a))
        exact⟨fun hl=>⟨fun h=>t2 hc hl (.inl h),fun h=>⟨fun h'=>t2 hc hl (.inr h'),fun h'=>t1 hc (fun x=>by rcases x.2 with x|x;exact h x;exact h' x)⟩⟩,fun hl=>t1 hc (fun x=>hl x.1)⟩
  exact⟨g,k,fun x at_ hx H=>s (x,at_) hx H⟩
def ScB (H:zaa)(n:Nat)(s:List UInt8)(i:Nat)(l:Bool)(m:Nat):Prop:=H[n]? = some (some {ty:=55,cells:=[.s s,.i .i64 i,.b l,.mp m],kind:=.all})
theorem znV {call:zad}(hC:call.Sound prog TT)(H:zaa)(n:Nat)(s:List UInt8)(i:Nat)(l:Bool)(m:Nat)(hb:H[n]? = some (some {ty:=55,cells:=[.s s,.i .i64 i,.b l,.mp m],kind:=.all}))(hi:(i:Int)≤s.length)  : znJ prog TT 48 [.ptr n 0] H (fun v H2=>v=.s (s.drop i)∧H2=H):=by
 refine en f48 rfl rfl (by simp[f48]) 12 rfl fun t hw hg=>?_;have h0:=hg 0 _ rfl;clear hg;try simp only[Nd.enc_eq]at *
 have hF:=ai @h0 (ai @hb @hi);apply rS hC
 ·refine oA ?_;rfl
 apply sQ;refine Tri.regN (t':=?t2) (H':=?H2) zaf hC ?e2 ?q2;case e2=>
  refine zdj (t':=?t2) (by kernel_rfl) ?_ ?r902;iterate 10 refine QR.val rfl (by simp[hF]<;>rfl) (by rfl) (by simp[hw]) ?_
  exact QR.nil;case r902=>exact rfl
 apply sN;apply Tri.ret;refine zxm (by simp[f48,hF]<;>rfl) (by rfl) ?_;exact⟨rfl,rfl⟩
theorem zss:∃g,zao prog TT 48 g∧∀(n:Nat)(s:List UInt8)(i:Nat)(l:Bool)(m:Nat)(H:zaa),ScB H n s i l m→i≤s.length→g [.ptr n 0] H=.val (.s (s.drop i)) H:=by
 obtain⟨g,h,k⟩:=ziC.spec (F:=48) zaf (D:=fun vs H=>∃(n:Nat)(s:List UInt8)(i:Nat)(l:Bool)(m:Nat),ScB H n s i l m∧i≤s.length∧vs=[.ptr n 0]) (R:=fun vs H v H2=>∀(n:Nat)(s:List UInt8)(i:Nat)(l:Bool)(m:Nat),ScB H n s i l m→vs=[.ptr n 0]→v=.s (s.drop i)∧H2=H) (by
  rintro vs H ⟨n,s,i,l,m,hb,hi,rfl⟩;refine(znJ.fact zaf (znV n0 H n s i l m hb (by omega))).mono fun v H2 ⟨h1,h2⟩=>?_;intro n' s' i' l' m' hb' e;cases e;unfold ScB at hb hb';rw[hb]at hb';simp only[Option.some.injEq,Blk.mk.injEq,List.cons.injEq,V.s.injEq,V.i.injEq,true_and,Int.ofNat_inj]at hb';obtain⟨⟨rfl,rfl,_⟩,_⟩:=hb';exact⟨h1,h2⟩)
 refine⟨g,h,fun n s i l m H hb hi=>?_⟩;obtain⟨v,H2,h1,h2⟩:=k _ H ⟨n,s,i,l,m,hb,hi,rfl⟩;obtain⟨rfl,rfl⟩:=h1 n s i l m hb rfl;exact h2
def za5 (s p:List UInt8):Bool:=decide (p.length≤s.length)&&(s.take p.length==p)
theorem zpm (s p:List UInt8):za5 s p=ziH s 0 p:=by simp[za5,ziH]
theorem zmX {call:zad}(hC:call.Sound prog TT)(s p:List UInt8)(hl:(p.length:Int)≤s.length)  : zbY prog TT 93 [.s s,.s p] (fun r=>r=.val (.b (s.take p.length==p))):=by
 refine en f93 rfl rfl (by simp[f93]) 18 rfl fun t hw hg=>?_;have h0:=hg 0 _ rfl;have h1:=hg 1 _ rfl;clear hg;try simp only[Nd.enc_eq]at *
 have hF:=ai @h0 (ai @h1 @hl);apply rS hC
 ·refine oA ?_;rfl
 apply rS hC
 ·iterate 6 refine oA ?_
  iterate 6 refine oB ?_
  iterate 2 refine oA ?_
  rfl
 apply Tri.ret;refine zk6 (by simp[f93,hF]<;>rfl) (by rfl) ?_;rfl
theorem zmW {call:zad}(hC:call.Sound prog TT)(s p:List UInt8)(hl:¬(p.length:Int)≤s.length)  : zbY prog TT 93 [.s s,.s p] (fun r=>r=.val (.b false)):=by
 refine en f93 rfl rfl (by simp[f93]) 18 rfl fun t hw hg=>?_;have h0:=hg 0 _ rfl;have h1:=hg 1 _ rfl;clear hg;try simp only[Nd.enc_eq]at *
 have hF:=ai @h0 (ai @h1 @hl);apply rS hC
 ·refine oA ?_;rfl
 apply rS hC
 ·iterate 6 refine oA ?_
  iterate 6 refine oC ?_
  iterate 2 refine oA ?_
  rfl
 apply Tri.ret;refine zk6 (by simp[f93,hF]<;>rfl) (by rfl) ?_;rfl
theorem znY {call:zad}(hC:call.Sound prog TT)(s p:List UInt8)(x:Bool)(hq:∀H,call 93 [.s s,.s p] H=.val (.b x) H)  : zbY prog TT 70 [.s s,.s p] (fun r=>r=.val (.b x)):=by
 refine en f70 rfl rfl (by simp[f70]) 8 rfl fun t hw hg=>?_;have h0:=hg 0 _ rfl;have h1:=hg 1 _ rfl;clear hg;try simp only[Nd.enc_eq]at *
 have hF:=ai @h0 (ai @h1 @hq);apply rS hC
 ·refine oA ?_;rfl
 apply rS hC
 ·iterate 4 refine oA ?_
  rfl
 apply Tri.ret;refine zk6 (by simp[f70,hF]<;>rfl) (by rfl) ?_;rfl
theorem zv3:∃g,zao prog TT 93 g∧∀p:List UInt8×List UInt8,True→∀H,g [.s p.1,.s p.2] H=.val (.b (za5 p.1 p.2)) H:=by
 refine zdu zaf zaw 93 (fun p:List UInt8×List UInt8=>[.s p.1,.s p.2]) (fun _=>True) (fun p=>.b (za5 p.1 p.2)) (fun _ _=>rfl) (fun _=>rfl) (fun a b h=>by simp only[List.cons.injEq,V.s.injEq,and_true]at h;rw[h.1,h.2]) fun p _=>zbY.of2 ?_;by_cases h:p.2.length≤p.1.length
 ·have e:za5 p.1 p.2=(p.1.take p.2.length==p.2):=by simp[za5,h]
  rw[e];exact zmX n0 p.1 p.2 (by omega)
 ·have e:za5 p.1 p.2=false:=by simp[za5,h]
  rw[e];exact zmW n0 p.1 p.2 (by omega)
theorem zmG:∃g,zao prog TT 70 g∧∀(s p:List UInt8)(H:zaa),g [.s s,.s p] H=.val (.b (za5 s p)) H:=by
 obtain⟨g1,k1,s1⟩:=zv3;obtain⟨g,h,s⟩:=zdu zaf zaw 70 (fun p:List UInt8×List UInt8=>[.s p.1,.s p.2]) (fun _=>True) (fun p=>.b (za5 p.1 p.2)) (fun _ _=>rfl) (fun _=>rfl) (fun a b h=>by simp only[List.cons.injEq,V.s.injEq,and_true]at h;rw[h.1,h.2]) fun p _=>zbY.of2 (znY (ws n0 k1) p.1 p.2 _ fun H=>by rw[zap];exact s1 p trivial H);exact⟨g,h,fun x p H=>s (x,p) trivial H⟩
def okP (s best x:List UInt8):Bool:=decide (best.length<x.length)&&(za5 s x && !((zhy (zft x)||(zft x==95))&&(decide (x.length<s.length)&&zeE (atR s x.length))))
def sgF (s:List UInt8):List (List UInt8)→List UInt8→List UInt8
 | [],best=>best
 |x::l,best=>sgF s l (if okP s best x=true then x else best)
theorem zrr {call:zad}(hC:call.Sound prog TT){Q:Out→Prop}{H:zaa}(s:List UInt8)(hpre:∀p H,call 70 [.s s,.s p] H=.val (.b (za5 s p)) H)(hlet:∀c:Int,∀H,call 72 [.i .u8 c] H=.val (.b (zhy c||(c==95))) H)(hwor:∀c:UInt8,∀H,call 73 [.i .u8 c.toNat] H=.val (.b (zeE c.toNat)) H) :
 ∀(L pre:List (List UInt8))(best:List UInt8)(t:Tm),sgnL=pre++L→t.wid=44→t.get 0=.s s→t.get 3=.s best→t.get 6=.agg (sgnL.map .s)→t.get 7=.i .i64 pre.length →
 (∀t':Tm,t'.wid=44→t'.get 3=.s (sgF s L best)→Q (.exit 0 t' H)) →
 zbe prog TT (sub [true,true,false,true,false,false] (zah f54)) t H Q:=by
 intro L;induction L with
 |nil=>
  intro pre best t hS hw h0 h3 h6 h7 hE;have hlast:pre.length=43:=by have:=congrArg List.length hS;simpa[sgnL]using this.symm
  have hF:=ai @h0 (ai @h3 (ai @h6 (ai @h7 @hlast)));refine zbe.round' ?_;apply rS hC
  ·refine zab rfl (by simp[hF]<;>rfl) (by rfl) (by simp[hw]) ?_;rfl
  apply sQ;refine cF (by simp[hF]<;>rfl) ?_;refine Tri.exit ?_;refine za8 ?_;refine zbo ?_;exact hE _ (by simp[hw]) (by simp[h3,sgF])
 |cons x L ih=>
  intro pre best t hS hw h0 h3 h6 h7 hE;have hlen:=congrArg List.length hS;have h43:sgnL.length=43:=rfl;rw[h43]at hlen;simp only[length_append,length_cons]at hlen;have hlt:(pre.length:Int)<43:=by omega
  have hx:sgnL[pre.length]? = some x:=by rw[hS];simp
  have hwp:IntKind.i64.wrap ((pre.length:Int)+1)=pre.length+1:=zaU (by omega) (by omega);have hmem:x∈sgnL:=by rw[hS];simp
  have hall:sgnL.all (fun x=>decide (0<x.length)&&decide (x.length<10))=true:=by decide
  have hx1:=all_eq_true.1 hall x hmem;rw[Bool.and_eq_true,decide_eq_true_eq,decide_eq_true_eq]at hx1;obtain⟨y,b,rfl⟩:∃y b,x=y++[b]:=⟨x.dropLast,x.getLast (by intro e;rw[e]at hx1;simp at hx1),(dropLast_concat_getLast _).symm⟩;have hxl:(y++[b]).length=y.length+1:=by simp
  rw[hxl]at hx1;have hlb:zft (y++[b])=b.toNat:=by simp[zft]
  have hwy:IntKind.i64.wrap (y.length:Int)=y.length:=zaU (by omega) (by omega);have hp1:=hpre (y++[b]);have hl1:=hlet b.toNat
  cases hb:decide ((y.length:Int)+1≤best.length)with
  |true=>
   have hok:okP s best (y++[b])=false:=by
    have:¬best.length<(y++[b]).length:=by rw[decide_eq_true_eq]at hb;rw[hxl];omega
    simp only[okP,decide_eq_false this,Bool.false_and]
   have hF:=ai @h0 (ai @h3 (ai @h6 (ai @h7 (ai @hlt (ai @hx (ai @hwp @hb))))));refine zbe.round' ?_;apply rS hC
   ·refine zab rfl (by simp[hF]<;>rfl) (by rfl) (by simp[hw]) ?_;rfl
   apply sQ;refine cT (by simp[hF]<;>rfl) ?_;apply Tri.skip;apply sN;apply sQ;apply bK;apply rS hC
   ·iterate 2 refine zab rfl (by simp[hF]<;>rfl) (by rfl) (by simp[hw]) ?_
    rfl
   apply sQ;apply rS hC
   ·iterate 6 refine zab rfl (by simp[hF]<;>rfl) (by rfl) (by simp[hw]) ?_
    iterate 4 refine zcF (by simp[zaF,hF]) (by simp[hw]) ?_
    refine zab rfl (by simp[hF]<;>rfl) (by rfl) (by simp[hw]) ?_;rfl
   refine cT (by simp[hF]<;>rfl) ?_;refine Tri.exit ?_;refine za8 ?_;refine zaO ?_;apply sN;apply rN hC
   ·iterate 2 refine zab rfl (by simp[hF]<;>rfl) (by rfl) (by simp[hw]) ?_
    rfl
   refine zav ?_;refine ih (pre++[y++[b]]) best _ (by simpa using hS) (by simp[hw]) (by simp[h0]) (by simp[h3]) (by simp[h6]) (by simp<;>exact hwp) ?_;intro t' k1 k2;exact hE t' k1 (by rw[k2];simp only[sgF];rw[hok];simp)
  |false=>
   have hbt:best.length<(y++[b]).length:=by rw[decide_eq_false_iff_not]at hb;rw[hxl];omega
   cases hpv:za5 s (y++[b])with
   |false=>
    have hok:okP s best (y++[b])=false:=by simp only[okP,hpv,Bool.false_and,Bool.and_false]
    have hp:∀H,call 70 [.s s,.s (y++[b])] H=.val (.b false) H:=fun H=>by rw[hp1,hpv]
    have hF:=ai @h0 (ai @h3 (ai @h6 (ai @h7 (ai @hlt (ai @hx (ai @hwp (ai @hb @hp)))))));refine zbe.round' ?_;apply rS hC
    ·refine zab rfl (by simp[hF]<;>rfl) (by rfl) (by simp[hw]) ?_;rfl
    apply sQ;refine cT (by simp[hF]<;>rfl) ?_;apply Tri.skip;apply sN;apply sQ;apply bK;apply rS hC
    ·iterate 2 refine zab rfl (by simp[hF]<;>rfl) (by rfl) (by simp[hw]) ?_
     rfl
    apply sQ;apply rS hC
    ·iterate 6 refine zab rfl (by simp[hF]<;>rfl) (by rfl) (by simp[hw]) ?_
     iterate 4 refine zab (by simp[zaF,hF]) (by simp[hF]<;>rfl) (by rfl) (by simp[hw]) ?_
     refine zab rfl (by simp[hF]<;>rfl) (by rfl) (by simp[hw]) ?_;rfl
    refine cT (by simp[hF]<;>rfl) ?_;refine Tri.exit ?_;refine za8 ?_;refine zaO ?_;apply sN;apply rN hC
    ·iterate 2 refine zab rfl (by simp[hF]<;>rfl) (by rfl) (by simp[hw]) ?_
     rfl
    refine zav ?_;refine ih (pre++[y++[b]]) best _ (by simpa using hS) (by simp[hw]) (by simp[h0]) (by simp[h3]) (by simp[h6]) (by simp<;>exact hwp) ?_;intro t' k1 k2;exact hE t' k1 (by rw[k2];simp only[sgF];rw[hok];simp)
   |true=>
    have hp:∀H,call 70 [.s s,.s (y++[b])] H=.val (.b true) H:=fun H=>by rw[hp1,hpv]
    cases hlv:(zhy b.toNat||((b.toNat:Int)==95))with
    |false=>
     have hok:okP s best (y++[b])=true:=by simp only[okP,hpv,hlb,hlv,decide_eq_true hbt,Bool.false_and,Bool.not_false,Bool.and_true]
     have hl:∀H,call 72 [.i .u8 b.toNat] H=.val (.b false) H:=fun H=>by rw[hl1,hlv]
     have hF:=ai @h0 (ai @h3 (ai @h6 (ai @h7 (ai @hlt (ai @hx (ai @hwp (ai @hb (ai @hp (ai @hwy @hl)))))))));refine zbe.round' ?_;apply rS hC
     ·refine zab rfl (by simp[hF]<;>rfl) (by rfl) (by simp[hw]) ?_;rfl
     apply sQ;refine cT (by simp[hF]<;>rfl) ?_;apply Tri.skip;apply sN;apply sQ;apply bK;apply rS hC
     ·iterate 2 refine zab rfl (by simp[hF]<;>rfl) (by rfl) (by simp[hw]) ?_
      rfl
     apply sQ;apply rS hC
     ·iterate 6 refine zab rfl (by simp[hF]<;>rfl) (by rfl) (by simp[hw]) ?_
      iterate 4 refine zab (by simp[zaF,hF]) (by simp[hF]<;>rfl) (by rfl) (by simp[hw]) ?_
      refine zab rfl (by simp[hF]<;>rfl) (by rfl) (by simp[hw]) ?_;rfl
     refine cF (by simp[hF]<;>rfl) ?_;apply Tri.skip;apply sN;apply sQ;apply rS hC
     ·iterate 7 refine zab rfl (by simp[hF]<;>rfl) (by rfl) (by simp[hw]) ?_
      iterate 5 refine zcF (by simp[zaF,hF]) (by simp[hw]) ?_
      iterate 2 refine zab rfl (by simp[hF]<;>rfl) (by rfl) (by simp[hw]) ?_
      iterate 5 refine zcF (by simp[zaF,hF]) (by simp[hw]) ?_
      refine zab rfl (by simp[hF]<;>rfl) (by rfl) (by simp[hw]) ?_;rfl
     refine cF (by simp[hF]<;>rfl) ?_;apply Tri.skip;apply sN;apply rN hC
     ·iterate 2 refine zab rfl (by simp[hF]<;>rfl) (by rfl) (by simp[hw]) ?_
      rfl
     apply bN;apply sN;apply rN hC
     ·iterate 2 refine zab rfl (by simp[hF]<;>rfl) (by rfl) (by simp[hw]) ?_
      rfl
     refine zav ?_;refine ih (pre++[y++[b]]) (y++[b]) _ (by simpa using hS) (by simp[hw]) (by simp[h0]) (by simp[h3]) (by simp[h6]) (by simp<;>exact hwp) ?_;intro t' k1 k2;exact hE t' k1 (by rw[k2];simp only[sgF];rw[hok];simp)
    |true=>
     have hl:∀H,call 72 [.i .u8 b.toNat] H=.val (.b true) H:=fun H=>by rw[hl1,hlv]
     cases hg:decide ((y.length:Int)+1<s.length)with
     |false=>
      have hgn:¬(y++[b]).length<s.length:=by rw[decide_eq_false_iff_not]at hg;rw[hxl];omega
      have hok:okP s best (y++[b])=true:=by simp only[okP,hpv,hlb,hlv,decide_eq_true hbt,decide_eq_false hgn,Bool.false_and,Bool.and_false,Bool.not_false,Bool.and_true]
      have hF:=ai @h0 (ai @h3 (ai @h6 (ai @h7 (ai @hlt (ai @hx (ai @hwp (ai @hb (ai @hp (ai @hwy (ai @hl @hg))))))))));refine zbe.round' ?_;apply rS hC
      ·refine zab rfl (by simp[hF]<;>rfl) (by rfl) (by simp[hw]) ?_;rfl
      apply sQ;refine cT (by simp[hF]<;>rfl) ?_;apply Tri.skip;apply sN;apply sQ;apply bK;apply rS hC
      ·iterate 2 refine zab rfl (by simp[hF]<;>rfl) (by rfl) (by simp[hw]) ?_
       rfl
      apply sQ;apply rS hC
      ·iterate 6 refine zab rfl (by simp[hF]<;>rfl) (by rfl) (by simp[hw]) ?_
       iterate 4 refine zab (by simp[zaF,hF]) (by simp[hF]<;>rfl) (by rfl) (by simp[hw]) ?_
       refine zab rfl (by simp[hF]<;>rfl) (by rfl) (by simp[hw]) ?_;rfl
      refine cF (by simp[hF]<;>rfl) ?_;apply Tri.skip;apply sN;apply sQ;apply rS hC
      ·iterate 7 refine zab rfl (by simp[hF]<;>rfl) (by rfl) (by simp[hw]) ?_
       iterate 5 refine zab (by simp[zaF,hF]) (by simp[hF]<;>rfl) (by rfl) (by simp[hw]) ?_
       iterate 2 refine zab rfl (by simp[hF]<;>rfl) (by rfl) (by simp[hw]) ?_
       iterate 5 refine zcF (by simp[zaF,hF]) (by simp[hw]) ?_
       refine zab rfl (by simp[hF]<;>rfl) (by rfl) (by simp[hw]) ?_;rfl
      refine cF (by simp[hF]<;>rfl) ?_;apply Tri.skip;apply sN;apply rN hC
      ·iterate 2 refine zab rfl (by simp[hF]<;>rfl) (by rfl) (by simp[hw]) ?_
       rfl
      apply bN;apply sN;apply rN hC
      ·iterate 2 refine zab rfl (by simp[hF]<;>rfl) (by rfl) (by simp[hw]) ?_
       rfl
      refine zav ?_;refine ih (pre++[y++[b]]) (y++[b]) _ (by simpa using hS) (by simp[hw]) (by simp[h0]) (by simp[h3]) (by simp[h6]) (by simp<;>exact hwp) ?_;intro t' k1 k2;exact hE t' k1 (by rw[k2];simp only[sgF];rw[hok];simp)
     |true=>
      have hgn:(y++[b]).length<s.length:=by rw[decide_eq_true_eq]at hg;rw[hxl];omega
      obtain⟨d,hd⟩:∃d,s[y.length+1]? = some d:=⟨_,List.getElem?_eq_getElem (by rw[←hxl];exact hgn)⟩;have hd2:∀h,s[y.length+1]'h=d:=fun h=>by rw[List.getElem?_eq_getElem h]at hd;exact Option.some.inj hd
      have hat:atR s (y++[b]).length=d.toNat:=by rw[hxl];simp[atR,hd]
      have hq1:=hwor d;cases hqv:zeE d.toNat with
      |true=>
       have hok:okP s best (y++[b])=false:=by simp only[okP,hpv,hlb,hlv,hat,hqv,decide_eq_true hbt,decide_eq_true hgn,Bool.and_true,Bool.not_true,Bool.and_false]
       have hq:∀H,call 73 [.i .u8 d.toNat] H=.val (.b true) H:=fun H=>by rw[hq1,hqv]
       have hF:=ai @h0 (ai @h3 (ai @h6 (ai @h7 (ai @hlt (ai @hx (ai @hwp (ai @hb (ai @hp (ai @hwy (ai @hl (ai @hg (ai @hd (ai @hd2 @hq)))))))))))));refine zbe.round' ?_;apply rS hC
       ·refine zab rfl (by simp[hF]<;>rfl) (by rfl) (by simp[hw]) ?_;rfl
       apply sQ;refine cT (by simp[hF]<;>rfl) ?_;apply Tri.skip;apply sN;apply sQ;apply bK;apply rS hC
       ·iterate 2 refine zab rfl (by simp[hF]<;>rfl) (by rfl) (by simp[hw]) ?_
        rfl
       apply sQ;apply rS hC
       ·iterate 6 refine zab rfl (by simp[hF]<;>rfl) (by rfl) (by simp[hw]) ?_
        iterate 4 refine zab (by simp[zaF,hF]) (by simp[hF]<;>rfl) (by rfl) (by simp[hw]) ?_
        refine zab rfl (by simp[hF]<;>rfl) (by rfl) (by simp[hw]) ?_;rfl
       refine cF (by simp[hF]<;>rfl) ?_;apply Tri.skip;apply sN;apply sQ;apply rS hC
       ·iterate 7 refine zab rfl (by simp[hF]<;>rfl) (by rfl) (by simp[hw]) ?_
        iterate 5 refine zab (by simp[zaF,hF]) (by simp[hF]<;>rfl) (by rfl) (by simp[hw]) ?_
        iterate 2 refine zab rfl (by simp[hF]<;>rfl) (by rfl) (by simp[hw]) ?_
        iterate 5 refine zab (by simp[zaF,hF]) (by simp[hF]<;>rfl) (by rfl) (by simp[hw]) ?_
        refine zab rfl (by simp[hF]<;>rfl) (by rfl) (by simp[hw]) ?_;rfl
       refine cT (by simp[hF]<;>rfl) ?_;refine Tri.exit ?_;refine za8 ?_;refine zaO ?_;apply sN;apply rN hC
       ·iterate 2 refine zab rfl (by simp[hF]<;>rfl) (by rfl) (by simp[hw]) ?_
        rfl
       refine zav ?_;refine ih (pre++[y++[b]]) best _ (by simpa using hS) (by simp[hw]) (by simp[h0]) (by simp[h3]) (by simp[h6]) (by simp<;>exact hwp) ?_;intro t' k1 k2;exact hE t' k1 (by rw[k2];simp only[sgF];rw[hok];simp)
      |false=>
       have hok:okP s best (y++[b])=true:=by simp only[okP,hpv,hlb,hlv,hat,hqv,decide_eq_true hbt,decide_eq_true hgn,Bool.and_false,Bool.not_false,Bool.and_true]
       have hq:∀H,call 73 [.i .u8 d.toNat] H=.val (.b false) H:=fun H=>by rw[hq1,hqv]
       have hF:=ai @h0 (ai @h3 (ai @h6 (ai @h7 (ai @hlt (ai @hx (ai @hwp (ai @hb (ai @hp (ai @hwy (ai @hl (ai @hg (ai @hd (ai @hd2 @hq)))))))))))));refine zbe.round' ?_;apply rS hC
       ·refine zab rfl (by simp[hF]<;>rfl) (by rfl) (by simp[hw]) ?_;rfl
       apply sQ;refine Tri.condG (o:=?of2) (b:=?bf2) ?gf2 ?rf2 ?yf2 ?nf2;case gf2=>simp[hF]<;>rfl
       case rf2=>rfl
       case yf2=>
        intro hy2;apply Tri.skip;apply sN;apply sQ;apply bK;apply rS hC
        ·iterate 2 refine zab rfl (by simp[hF]<;>rfl) (by rfl) (by simp[hw]) ?_
         rfl
        apply sQ;apply rS hC
        ·iterate 6 refine zab rfl (by simp[hF]<;>rfl) (by rfl) (by simp[hw]) ?_
         iterate 4 refine zab (by simp[zaF,hF]) (by simp[hF]<;>rfl) (by rfl) (by simp[hw]) ?_
         refine zab rfl (by simp[hF]<;>rfl) (by rfl) (by simp[hw]) ?_;rfl
        refine cF (by simp[hF]<;>rfl) ?_;apply Tri.skip;apply sN;apply sQ;apply rS hC
        ·iterate 7 refine zab rfl (by simp[hF]<;>rfl) (by rfl) (by simp[hw]) ?_
         iterate 5 refine zab (by simp[zaF,hF]) (by simp[hF]<;>rfl) (by rfl) (by simp[hw]) ?_
         iterate 2 refine zab rfl (by simp[hF]<;>rfl) (by rfl) (by simp[hw]) ?_
         iterate 5 refine zab (by simp[zaF,hF]) (by simp[hF]<;>rfl) (by rfl) (by simp[hw]) ?_
         refine zab rfl (by simp[hF]<;>rfl) (by rfl) (by simp[hw]) ?_;rfl
        refine cF (by simp[hF]<;>rfl) ?_;apply Tri.skip;apply sN;apply rN hC
        ·iterate 2 refine zab rfl (by simp[hF]<;>rfl) (by rfl) (by simp[hw]) ?_
         rfl
        apply bN;apply sN;apply rN hC
        ·iterate 2 refine zab rfl (by simp[hF]<;>rfl) (by rfl) (by simp[hw]) ?_
         rfl
        refine zav ?_;refine ih (pre++[y++[b]]) (y++[b]) _ (by simpa using hS) (by simp[hw]) (by simp[h0]) (by simp[h3]) (by simp[h6]) (by simp<;>exact hwp) ?_;intro t' k1 k2;exact hE t' k1 (by rw[k2];simp only[sgF];rw[hok];simp)
       case nf2=>
        intro hn2;exact absurd hn2 (by simp[hF])
theorem zrm (H:zaa):zae TT 77 H (.gp 0 0)=some (.agg (sgnL.map .s)):=rfl
theorem znX {call:zad}(hC:call.Sound prog TT)(s:List UInt8)(hpre:∀p H,call 70 [.s s,.s p] H=.val (.b (za5 s p)) H)(hlet:∀c:Int,∀H,call 72 [.i .u8 c] H=.val (.b (zhy c||(c==95))) H)(hwor:∀c:UInt8,∀H,call 73 [.i .u8 c.toNat] H=.val (.b (zeE c.toNat)) H)  : zbY prog TT 54 [.s s] (fun r=>r=.val (.s (sgF s sgnL []))):=by
 refine en f54 rfl rfl (by simp[f54]) 44 rfl fun t hw hg=>?_;have h0:=hg 0 _ rfl;clear hg;try simp only[Nd.enc_eq]at *
 apply rS hC
 ·refine zab rfl (by simp[h0]<;>rfl) (by rfl) (by simp[hw]) ?_;rfl
 apply rS hC
 ·refine zab rfl (by simp[h0]<;>rfl) (by rfl) (by simp[hw]) ?_;rfl
 apply sQ;apply rS hC
 ·iterate 2 refine zab rfl (by simp[h0,zrm,-zae]<;>rfl) (by rfl) (by simp[hw]) ?_
  rfl
 apply bK;refine Tri.loop ?_;refine zrr hC s hpre hlet hwor sgnL [] [] _ rfl (by simp[hw]) (by simp[h0]) (by simp) (by simp) (by simp) ?exit;case exit=>
  intro t2 hw h3;refine zaO ?_;apply sN;apply rS hC
  ·iterate 2 refine zab rfl (by simp[h0,h3]<;>rfl) (by rfl) (by simp[hw]) ?_
   rfl
  apply Tri.ret;refine zk6 (by simp[f54,h3]<;>rfl) (by rfl) ?_;rfl
theorem zvX:∃g,zao prog TT 54 g∧∀s:List UInt8,True→∀H,g [.s s] H=.val (.s (sgF s sgnL [])) H:=by
 obtain⟨g1,k1,s1⟩:=zmG;obtain⟨g2,k2,s2⟩:=ztZ;obtain⟨g3,k3,s3⟩:=zt0;refine spT 54 (fun s=>.s (sgF s sgnL [])) (fun _=>True) (fun _=>rfl) fun s _=>?_;exact znX (ws (ws (ws n0 k1) k2) k3) s (fun p H=>by rw[zac _ _ _ _ rfl,zac _ _ _ _ rfl,zap];exact s1 s p H) (fun c H=>by rw[zac _ _ _ _ rfl,zap];exact s2 c trivial H) fun c H=>by rw[zap];exact s3 c trivial H
def plC:List V:=[.i .u8 110,.s [10],.i .u8 116,.s [9],.i .u8 114,.s [13],.i .u8 48,.s [0],.i .u8 92,.s [92],.i .u8 34,.s [34],.i .u8 39,.s [39]]
def loC:List V:=[.i .u8 120,.i .i64 2,.i .u8 117,.i .i64 4,.i .u8 85,.i .i64 6]
def plT (c:Int):Option (List UInt8):=if c=110 then some [10]else if c=116 then some [9]else if c=114 then some [13]else if c=48 then some [0]else if c=92 then some [92]else if c=34 then some [34]else if c=39 then some [39]else none
def loT (c:Int):Nat:=if c=120 then 2 else if c=117 then 4 else if c=85 then 6 else 0
theorem zvg (c:Int):zcT (some (.int .u8)) (.i .u8 c) plC=some ((plT c).map .s):=by
 unfold plC plT;simp only[zcT,zdU,if_true];by_cases h1:c=110
 ·subst h1;rfl
 by_cases h2:c=116
 ·subst h2;rfl
 by_cases h3:c=114
 ·subst h3;rfl
 by_cases h4:c=48
 ·subst h4;rfl
 by_cases h5:c=92
 ·subst h5;rfl
 by_cases h6:c=34
 ·subst h6;rfl
 by_cases h7:c=39
 ·subst h7;rfl
 simp only[beq_eq_false_iff_ne.2 h1,beq_eq_false_iff_ne.2 h2,beq_eq_false_iff_ne.2 h3,beq_eq_false_iff_ne.2 h4,beq_eq_false_iff_ne.2 h5,beq_eq_false_iff_ne.2 h6,beq_eq_false_iff_ne.2 h7,if_neg h1,if_neg h2,if_neg h3,if_neg h4,if_neg h5,if_neg h6,if_neg h7,Option.map_none]
theorem zvf (c:Int):zcT (some (.int .u8)) (.i .u8 c) loC=some (if loT c=0 then none else some (.i .i64 (loT c:Nat))):=by
 unfold loC loT;simp only[zcT,zdU,if_true];by_cases h1:c=120
 ·subst h1;rfl
 by_cases h2:c=117
 ·subst h2;rfl
 by_cases h3:c=85
 ·subst h3;rfl
 simp only[beq_eq_false_iff_ne.2 h1,beq_eq_false_iff_ne.2 h2,beq_eq_false_iff_ne.2 h3,if_neg h1,if_neg h2,if_neg h3,if_true]
theorem ztr {K:zaa} {n:Nat} (h:K[n]? = some (some ⟨172,plC,.map⟩)) (c:Int):zbm TT 172 (.mp n) (.i .u8 c) true K=some (.tup [.s ((plT c).getD []),.b (plT c).isSome]):=by
  have e:zbm TT 172 (.mp n) (.i .u8 c) true K=(match zdG K n with
    | some blk=>(match zcT (some (.int .u8)) (.i .u8 c) blk.cells with
      |some (some v)=>some (.tup [v,.b true])
      |some none=>some (.tup [.s [],.b false])
      |none=>none)
    |none=>none):=rfl
  rw[e]
  simp only[zdG,h,show(zgW plC).isNone=true from rfl,and_self,if_true,zvg]
  cases plT c<;>rfl
theorem ztq {K:zaa} {n:Nat} (h:K[n]? = some (some ⟨173,loC,.map⟩)) (c:Int):zbm TT 173 (.mp n) (.i .u8 c) false K=some (.i .i64 (loT c:Nat)):=by
  have e:zbm TT 173 (.mp n) (.i .u8 c) false K=(match zdG K n with
    | some blk=>(match zcT (some (.int .u8)) (.i .u8 c) blk.cells with
      |some (some v)=>some v
      |some none=>some (.i .i64 0)
      |none=>none)
    |none=>none):=rfl
  rw[e]
  simp only[zdG,h,show(zgW loC).isNone=true from rfl,and_self,if_true,zvf]
  by_cases h0:loT c=0
  · rw[if_pos h0,h0];rfl
  · rw[if_neg h0]
end Go.Ev
