/- What the tables say of each type. Which equations the walks are reckoned with. Trees as values: the tree of a node, its size, its depth. Facts of functions that return a number or a truth. Shapes of the calls, and small facts of lists and numbers. Mul64. times. Arithmetic with large numbers. What the reference says of a byte, for all bytes. Calls with closed arguments, run by the evaluator. Div64 by ten. The text of a wide number: its loop. Arithmetic with large numbers, of the division by ten. The text of a wide number. Walks over the bytes at a place of a text. Walks over the small functions of the trees. Walks over the searches in rows. Walks over the end of a name. Walks over the counts of nodes. Contracts of functions of the library of Go, as answers for the evaluator. Walks over the looks at names. Walks over a name in the program. Walks over the look at a kind. The set of keywords, by a run of the evaluator. Walks over the look at a node by its kind. -/
import Derived.Test.YtmjplflnlggbeaaGreatDoorETz
import Derived.Test.YtmjplflnlggbeaaGreatDoorEEvDraw8
import Derived.Test.YtmjplflnlggbeaaGreatDoorEEvPart2
import Derived.Shelf.Bits.Mul64
import Derived.Shelf.Strings.Split
import Derived.Shelf.Strings.SlTrimAscii
import Derived.Shelf.Unicode.ValidAny
namespace Go.Ev
open Go Go.Proofs
set_option linter.unusedSimpArgs false
set_option linter.unusedVariables false
set_option linter.unnecessarySimpa false
open Tryz List
set_option maxRecDepth 1000000
@[simp] theorem tU (t : TypeId) : TT.und t = Tryz.prog.underlying t := rfl
attribute [simp] Tryz.underlying0 Tryz.underlying1 Tryz.underlying2 Tryz.underlying3 Tryz.underlying4 Tryz.underlying5 Tryz.underlying6 Tryz.underlying7 Tryz.underlying8 Tryz.underlying9 Tryz.underlying10 Tryz.underlying11 Tryz.underlying12 Tryz.underlying13 Tryz.underlying14 Tryz.underlying15 Tryz.underlying16 Tryz.underlying17 Tryz.underlying18 Tryz.underlying19 Tryz.underlying20 Tryz.underlying21 Tryz.underlying22 Tryz.underlying23 Tryz.underlying24 Tryz.underlying25 Tryz.underlying26 Tryz.underlying27 Tryz.underlying28 Tryz.underlying29 Tryz.underlying30 Tryz.underlying31 Tryz.underlying32 Tryz.underlying33 Tryz.underlying34 Tryz.underlying35 Tryz.underlying36 Tryz.underlying37 Tryz.underlying38 Tryz.underlying39 Tryz.underlying40 Tryz.underlying41 Tryz.underlying42 Tryz.underlying43 Tryz.underlying44 Tryz.underlying45 Tryz.underlying46 Tryz.underlying47 Tryz.underlying48 Tryz.underlying49 Tryz.underlying50 Tryz.underlying51 Tryz.underlying52 Tryz.underlying53 Tryz.underlying54 Tryz.underlying55 Tryz.underlying56 Tryz.underlying57 Tryz.underlying58 Tryz.underlying59 Tryz.underlying60 Tryz.underlying61 Tryz.underlying62 Tryz.underlying63 Tryz.underlying64 Tryz.underlying65 Tryz.underlying66 Tryz.underlying67 Tryz.underlying68 Tryz.underlying69 Tryz.underlying70 Tryz.underlying71 Tryz.underlying72 Tryz.underlying73 Tryz.underlying74 Tryz.underlying75 Tryz.underlying76 Tryz.underlying77 Tryz.underlying78 Tryz.underlying79 Tryz.underlying80 Tryz.underlying81 Tryz.underlying82 Tryz.underlying83 Tryz.underlying84 Tryz.underlying85 Tryz.underlying86 Tryz.underlying87 Tryz.underlying88 Tryz.underlying89 Tryz.underlying90 Tryz.underlying91 Tryz.underlying92 Tryz.underlying93 Tryz.underlying94 Tryz.underlying95 Tryz.underlying96 Tryz.underlying97 Tryz.underlying98 Tryz.underlying99 Tryz.underlying100 Tryz.underlying101 Tryz.underlying102 Tryz.underlying103 Tryz.underlying104 Tryz.underlying105 Tryz.underlying106 Tryz.underlying107 Tryz.underlying108 Tryz.underlying109 Tryz.underlying110 Tryz.underlying111 Tryz.underlying112 Tryz.underlying113 Tryz.underlying114 Tryz.underlying115 Tryz.underlying116 Tryz.underlying117 Tryz.underlying118 Tryz.underlying119 Tryz.underlying120 Tryz.underlying121 Tryz.underlying122 Tryz.underlying123 Tryz.underlying124 Tryz.underlying125 Tryz.underlying126 Tryz.underlying127 Tryz.underlying128 Tryz.underlying129 Tryz.underlying130 Tryz.underlying131 Tryz.underlying132 Tryz.underlying133 Tryz.underlying134 Tryz.underlying135 Tryz.underlying136 Tryz.underlying137 Tryz.underlying138 Tryz.underlying139 Tryz.underlying140 Tryz.underlying141 Tryz.underlying142 Tryz.underlying143 Tryz.underlying144 Tryz.underlying145 Tryz.underlying146 Tryz.underlying147 Tryz.underlying148 Tryz.underlying149 Tryz.underlying150 Tryz.underlying151 Tryz.underlying152 Tryz.underlying153 Tryz.underlying154 Tryz.underlying155 Tryz.underlying156 Tryz.underlying157 Tryz.underlying158 Tryz.underlying159 Tryz.underlying160 Tryz.underlying161 Tryz.underlying162 Tryz.underlying163 Tryz.underlying164 Tryz.underlying165 Tryz.underlying166 Tryz.underlying167 Tryz.underlying168 Tryz.underlying169 Tryz.underlying170 Tryz.underlying171 Tryz.underlying172 Tryz.underlying173 Tryz.underlying174 Tryz.underlying175 Tryz.underlying176 Tryz.underlying177 Tryz.underlying178 Tryz.underlying179 Tryz.underlying180 Tryz.underlying181 Tryz.underlying182 Tryz.underlying183 Tryz.underlying184 Tryz.underlying185 Tryz.underlying186 Tryz.underlying187 Tryz.underlying188 Tryz.underlying189 Tryz.underlying190 Tryz.underlying191 Tryz.underlying192 Tryz.underlying193 Tryz.underlying194 Tryz.underlying195 Tryz.underlying196 Tryz.underlying197 Tryz.underlying198 Tryz.underlying199 Tryz.underlying200 Tryz.underlying201 Tryz.underlying202 Tryz.underlying203 Tryz.underlying204 Tryz.underlying205 Tryz.underlying206 Tryz.underlying207 Tryz.underlying208 Tryz.underlying209 Tryz.underlying210 Tryz.underlying211 Tryz.underlying212 Tryz.underlying213 Tryz.underlying214 Tryz.underlying215 Tryz.underlying216 Tryz.underlying217 Tryz.underlying218 Tryz.underlying219 Tryz.underlying220 Tryz.underlying221 Tryz.underlying222 Tryz.underlying223 Tryz.underlying224 Tryz.underlying225 Tryz.underlying226 Tryz.underlying227 Tryz.underlying228 Tryz.underlying229 Tryz.underlying230 Tryz.underlying231 Tryz.underlying232 Tryz.underlying233 Tryz.underlying234 Tryz.underlying235 Tryz.underlying236 Tryz.underlying237 Tryz.underlying238 Tryz.underlying239 Tryz.underlying240 Tryz.underlying241 Tryz.underlying242 Tryz.underlying243 Tryz.underlying244 Tryz.underlying245 Tryz.underlying246 Tryz.underlying247 Tryz.underlying248 Tryz.underlying249 Tryz.underlying250 Tryz.underlying251 Tryz.underlying252 Tryz.underlying253 Tryz.underlying254 Tryz.underlying255 Tryz.underlying256 Tryz.underlying257 Tryz.underlying258 Tryz.underlying259
@[simp] theorem tS3 : TT.size 3 = some 1 := rfl
@[simp] theorem tB3 : TT.bytes 3 = some 8 := rfl
@[simp] theorem tZ3 : TT.zero 3 = some (.i .i64 0) := rfl
@[simp] theorem tS4 : TT.size 4 = some 1 := rfl
@[simp] theorem tB4 : TT.bytes 4 = some 1 := rfl
@[simp] theorem tZ4 : TT.zero 4 = some (.b false) := rfl
@[simp] theorem tS5 : TT.size 5 = some 1 := rfl
@[simp] theorem tB5 : TT.bytes 5 = some 1 := rfl
@[simp] theorem tZ5 : TT.zero 5 = some (.i .u8 0) := rfl
@[simp] theorem tS7 : TT.size 7 = some 4 := rfl
@[simp] theorem tS8 : TT.size 8 = some 4 := rfl
@[simp] theorem tS9 : TT.size 9 = some 1 := rfl
@[simp] theorem tB9 : TT.bytes 9 = some 16 := rfl
@[simp] theorem tZ9 : TT.zero 9 = some (.s []) := rfl
@[simp] theorem tS13 : TT.size 13 = some 2 := rfl
@[simp] theorem tS14 : TT.size 14 = some 2 := rfl
@[simp] theorem tS22 : TT.size 22 = some 1 := rfl
@[simp] theorem tB22 : TT.bytes 22 = some 8 := rfl
@[simp] theorem tZ22 : TT.zero 22 = some (.nilf) := rfl
@[simp] theorem tS24 : TT.size 24 = some 1 := rfl
@[simp] theorem tB24 : TT.bytes 24 = some 8 := rfl
@[simp] theorem tZ24 : TT.zero 24 = some (.i .i64 0) := rfl
@[simp] theorem tS33 : TT.size 33 = some 4 := rfl
@[simp] theorem tS34 : TT.size 34 = some 4 := rfl
@[simp] theorem tS44 : TT.size 44 = some 4 := rfl
@[simp] theorem tS49 : TT.size 49 = some 2 := rfl
@[simp] theorem tS50 : TT.size 50 = some 2 := rfl
@[simp] theorem tS54 : TT.size 54 = some 4 := rfl
@[simp] theorem tS55 : TT.size 55 = some 4 := rfl
@[simp] theorem tS64 : TT.size 64 = some 1 := rfl
@[simp] theorem tB64 : TT.bytes 64 = some 24 := rfl
@[simp] theorem tZ64 : TT.zero 64 = some (.nils) := rfl
@[simp] theorem tS65 : TT.size 65 = some 2 := rfl
@[simp] theorem tS66 : TT.size 66 = some 2 := rfl
@[simp] theorem tS77 : TT.size 77 = some 43 := rfl
@[simp] theorem tS99 : TT.size 99 = some 256 := rfl
@[simp] theorem tS100 : TT.size 100 = some 2 := rfl
@[simp] theorem tS101 : TT.size 101 = some 2 := rfl
@[simp] theorem tS102 : TT.size 102 = some 32 := rfl
@[simp] theorem tS121 : TT.size 121 = some 1 := rfl
@[simp] theorem tB121 : TT.bytes 121 = some 8 := rfl
@[simp] theorem tZ121 : TT.zero 121 = some (.nilf) := rfl
@[simp] theorem tS123 : TT.size 123 = some 2 := rfl
@[simp] theorem tS124 : TT.size 124 = some 2 := rfl
@[simp] theorem tS125 : TT.size 125 = some 1 := rfl
@[simp] theorem tB125 : TT.bytes 125 = some 4 := rfl
@[simp] theorem tZ125 : TT.zero 125 = some (.i .u32 0) := rfl
@[simp] theorem tS130 : TT.size 130 = some 2 := rfl
@[simp] theorem tS131 : TT.size 131 = some 2 := rfl
@[simp] theorem tS137 : TT.size 137 = some 0 := rfl
@[simp] theorem tS138 : TT.size 138 = some 0 := rfl
@[simp] theorem tS139 : TT.size 139 = some 0 := rfl
@[simp] theorem tS142 : TT.size 142 = some 2 := rfl
@[simp] theorem tS143 : TT.size 143 = some 2 := rfl
@[simp] theorem tS144 : TT.size 144 = some 2 := rfl
@[simp] theorem tS145 : TT.size 145 = some 2 := rfl
@[simp] theorem tS146 : TT.size 146 = some 3 := rfl
@[simp] theorem tS147 : TT.size 147 = some 3 := rfl
@[simp] theorem tS150 : TT.size 150 = some 5 := rfl
@[simp] theorem tS151 : TT.size 151 = some 5 := rfl
@[simp] theorem tS158 : TT.size 158 = some 3 := rfl
@[simp] theorem tS159 : TT.size 159 = some 3 := rfl
@[simp] theorem tS160 : TT.size 160 = some 3 := rfl
@[simp] theorem tS161 : TT.size 161 = some 3 := rfl
@[simp] theorem tS163 : TT.size 163 = some 3 := rfl
@[simp] theorem tS164 : TT.size 164 = some 3 := rfl
@[simp] theorem tS174 : TT.size 174 = some 24 := rfl
@[simp] theorem tS189 : TT.size 189 = some 256 := rfl
@[simp] theorem tS191 : TT.size 191 = some 256 := rfl
@[simp] theorem tS192 : TT.size 192 = some 257 := rfl
@[simp] theorem tS193 : TT.size 193 = some 257 := rfl
@[simp] theorem tS196 : TT.size 196 = some 20 := rfl
@[simp] theorem tS197 : TT.size 197 = some 65 := rfl
@[simp] theorem tS205 : TT.size 205 = some 2 := rfl
@[simp] theorem tS206 : TT.size 206 = some 2 := rfl
@[simp] theorem tS209 : TT.size 209 = some 5 := rfl
@[simp] theorem tS210 : TT.size 210 = some 5 := rfl
@[simp] theorem tS211 : TT.size 211 = some 262 := rfl
@[simp] theorem tS212 : TT.size 212 = some 262 := rfl
@[simp] theorem tS222 : TT.size 222 = some 256 := rfl
@[simp] theorem tS223 : TT.size 223 = some 258 := rfl
@[simp] theorem tS224 : TT.size 224 = some 258 := rfl
@[simp] theorem tS225 : TT.size 225 = some 32 := rfl
@[simp] theorem tS226 : TT.size 226 = some 64 := rfl
@[simp] theorem tS231 : TT.size 231 = some 4 := rfl
@[simp] theorem tS232 : TT.size 232 = some 4 := rfl
@[simp] theorem tS233 : TT.size 233 = some 0 := rfl
@[simp] theorem tS234 : TT.size 234 = some 0 := rfl
@[simp] theorem tS235 : TT.size 235 = some 0 := rfl
@[simp] theorem tS241 : TT.size 241 = some 11 := rfl
@[simp] theorem tS242 : TT.size 242 = some 11 := rfl
attribute [simp] zb7 ev1 evs zcc zb0 zf4 zcb zft zgx zah zbN zap zbq zbV cut splice zdC zep zbj zc8 zeq zwu ztI zaT zdn zgO zbe zeG zco zbK lift get_put zsf zkA ztR zlL zfT setK_eq zaX zcL V.cells zeA zfQ zl8 zcf Op.intDiv zeF zes zdw Res.at zbh zbA Nat.blt_eq
theorem zcP {fn:Func}{t:Tm}{H:zaa}{x:OR}{v:V}{R:Res→Prop}(hf:zaZ TT fn t.get H=x)(hx:x=.val v H)(hr:R (.val v)):∃r,R r∧zf3 TT fn r (.ret t H):=
 ⟨_,hr,hf.trans hx⟩
theorem zuI {fn:Func}{t:Tm}{H:zaa}{x:OR}{v:V}{R:V→zaa→Prop}(hf:zaZ TT fn t.get H=x)(hx:x=.val v H)(hr:R v H):zwF TT fn R (.ret t H):=
 ⟨v,hr,hf.trans hx⟩
theorem gO {step:Oper→Env→zaa→OR}{ops:Array Oper}{o:Oper}{r:List Oper}{v:V}{out:Out}{t:Tm}{H H':zaa}{x:OR}(hs:step o t.get H=x)(h:zaK step ops r (t.put o.dst v) H'=out)(hw:zaD ops o t.get=some true:=by exact rfl)(hx:x=.val v H':=by exact rfl)(hf:t.fits o.dst=true:=by simp[*]):zaK step ops (o::r) t H=out:=zab hw hs hx hf h
theorem gW {step:Oper→Env→zaa→OR}{ops:Array Oper}{o:Oper}{r:List Oper}{v:V}{out:Out}{t:Tm}{H H':zaa}{x:OR}(hw:zaD ops o t.get=some true)(hs:step o t.get H=x)(h:zaK step ops r (t.put o.dst v) H'=out)(hx:x=.val v H':=by exact rfl)(hf:t.fits o.dst=true:=by simp[*]):zaK step ops (o::r) t H=out:=zab hw hs hx hf h
theorem gF {step:Oper→Env→zaa→OR}{ops:Array Oper}{o:Oper}{r:List Oper}{out:Out}{t:Tm}{H:zaa}(hw:zaD ops o t.get=some false)(h:zaK step ops r (t.put o.dst .un) H=out)(hf:t.fits o.dst=true:=by simp[*]):zaK step ops (o::r) t H=out:=zb2 hw hf h
theorem oA {step:Oper→Env→zaa→OR}{ops:Array Oper}{o:Oper}{r:List Oper}{v:V}{out:Out}{t:Tm}{H H':zaa}{x:OR}(h:zaK step ops r (t.put o.dst v) H'=out)(hs:step o t.get H=x:=by simp[*]<;>rfl)(hw:zaD ops o t.get=some true:=by exact rfl)(hx:x=.val v H':=by exact rfl)(hf:t.fits o.dst=true:=by simp[*]):zaK step ops (o::r) t H=out:=zab hw hs hx hf h
theorem oB {step:Oper→Env→zaa→OR}{ops:Array Oper}{o:Oper}{r:List Oper}{v:V}{out:Out}{t:Tm}{H H':zaa}{x:OR}(h:zaK step ops r (t.put o.dst v) H'=out)(hw:zaD ops o t.get=some true:=by simp[zaD, *])(hs:step o t.get H=x:=by simp[*]<;>rfl)(hx:x=.val v H':=by exact rfl)(hf:t.fits o.dst=true:=by simp[*]):zaK step ops (o::r) t H=out:=zab hw hs hx hf h
theorem oC {step:Oper→Env→zaa→OR}{ops:Array Oper}{o:Oper}{r:List Oper}{out:Out}{t:Tm}{H:zaa}(h:zaK step ops r (t.put o.dst .un) H=out)(hw:zaD ops o t.get=some false:=by simp[zaD, *])(hf:t.fits o.dst=true:=by simp[*]):zaK step ops (o::r) t H=out:=zb2 hw hf h
theorem rN {call:zad}(hC:call.Sound prog TT){id:Nat}{ops:Array Oper}{t t':Tm}{H H':zaa}{Q:Out→Prop}(he:zaK (zb7 TT call) ops ops.toList t H=.norm t' H')(h:Q (.norm t' H')):Tri prog TT (.region id ops false) t H Q:=Tri.regN zaf hC (zar he) h
theorem rS {call:zad}(hC:call.Sound prog TT){id:Nat}{ops:Array Oper}{c:Code}{t t':Tm}{H H':zaa}{Q:Out→Prop}(he:zaK (zb7 TT call) ops ops.toList t H=.norm t' H')(h:Tri prog TT c t' H' Q):Tri prog TT (.seq (.region id ops false) c) t H Q:=Tri.seq' (rN hC he h)
theorem cT {g:Operand}{x z:Code}{o:Option V}{t:Tm}{H:zaa}{Q:Out→Prop}(hg:ev1 t.get g=o)(h:Tri prog TT x t H Q)(ho:o=some (.b true):=by exact rfl):Tri prog TT (.cond g x z) t H Q:=Tri.condG hg ho (fun _=>h) (fun e=>by cases e)
theorem cF {g:Operand}{x z:Code}{o:Option V}{t:Tm}{H:zaa}{Q:Out→Prop}(hg:ev1 t.get g=o)(h:Tri prog TT z t H Q)(ho:o=some (.b false):=by exact rfl):Tri prog TT (.cond g x z) t H Q:=Tri.condG hg ho (fun e=>by cases e) (fun _=>h)
theorem en {F:FuncId} {vs:List V} {H:zaa} {Q:Func→Out→Prop} (fn:Func) {c:Code} (h1:TT.func F=some fn) (h2:fn.body=some c) (h3:vs.length≤fn.ntmps) (n:Nat) (hn:fn.ntmps=n) (hi:∀t:Tm,t.wid=n→(∀i v,vs[i]? = some v→t.get i=v)→Tri prog TT c t H (Q fn)):∃fn c,TT.func F=some fn∧fn.body=some c∧vs.length≤fn.ntmps∧Tri prog TT c (Tm.init fn.ntmps vs) H (Q fn):=
  ⟨fn,c,h1,h2,h3,hi _ hn fun i v h=>by rw[zag,h];rfl⟩
attribute [simp] zaZ zbg zci
theorem ai {a b:Prop}(x:a)(y:b):a∧b:=⟨x,y⟩
section
variable {P:Program}{T:Tab}{x y:Code}{t:Tm}{H:zaa}{Q:Out→Prop}{id:Nat}
theorem sQ (h:Tri P T x t H (zjc P T y Q)):Tri P T (.seq x y) t H Q:=Tri.seq' h
theorem sN (h:Tri P T y t H Q):zjc P T y Q (.norm t H):=h
theorem sR (h:Q (.ret t H)):zjc P T y Q (.ret t H):=h
theorem bK (h:Tri P T x t H (zdK id Q)):Tri P T (.block id x) t H Q:=Tri.block' h
theorem bN (h:Q (.norm t H)):zdK id Q (.norm t H):=h
theorem bR (h:Q (.ret t H)):zdK id Q (.ret t H):=h
end
inductive Nd where
  |mk (k:Int) (t:Bs) (l:List Nd)
mutual
def Nd.enc:Nd→V
  | .mk k t l=>.agg [.i .i64 k,.s t,.isl 3 (Nd.encL l)]
def Nd.encL:List Nd→List V
  | []=>[]
  |x::l=>x.enc::Nd.encL l
end
def Nd.kind:Nd→Int
 | .mk k _ _=>k
def Nd.text:Nd→Bs
 | .mk _ t _=>t
def Nd.kids:Nd→List Nd
 | .mk _ _ l=>l
theorem Nd.enc_eq (x:Nd):x.enc=.agg [.i .i64 x.kind,.s x.text,.isl 3 (Nd.encL x.kids)]:=by cases x;rfl
theorem zdV (n m:Nat):(n:Int)<n+(m+1):=by omega
theorem zao:TT.Plain:=by
 intro g l h;simp only[TT]at h;repeat' (split at h)
 all_goals (cases h;try kernel_rfl)
section
variable {P:Program}{T:Tab}
theorem zaV.mono {F:FuncId}{vs:List V}{R R':Res→Prop}(h:zaV P T F vs R)(hr:∀r,R r→R' r):zaV P T F vs R':=by
 obtain⟨fn,c,h1,h2,h3,o,⟨r,k1,k2⟩,hx⟩:=h;exact⟨fn,c,h1,h2,h3,o,⟨r,hr r k1,k2⟩,hx⟩
theorem zbd (hT:TOk P T)(hp:T.Plain)(F:FuncId){α:Type}(args:α→List V)(ok:α→Prop)(f:α→V)(hnl:∀a,ok a→nlL (args a)=true)(hf:∀a,nl (f a)=true)(hinj:∀a b,args a=args b→f a=f b)(h:∀a,ok a→zjT P T F (args a) (.val (f a))) :
 ∃g,zak P T F g∧∀a,ok a→∀H,g (args a) H=.val (f a) H:=by
 obtain⟨g,hg,hs⟩:=zcM hT hp F (fun vs=>∃a,ok a∧vs=args a) (fun vs r=>∃a,args a=vs∧r=.val (f a)) (by
  rintro vs ⟨a,ha,rfl⟩;refine⟨hnl a ha,by rintro r ⟨b,_,rfl⟩;exact hf b,(h a ha).ex.mono ?_⟩;rintro r rfl;exact⟨a,rfl,rfl⟩)
 refine⟨g,hg,fun a ha H=>?_⟩;obtain⟨r,⟨b,e,rfl⟩,hr⟩:=hs (args a) ⟨a,ha,rfl⟩;rw[hr H,hinj b a e];rfl
end
abbrev NT:Nat:=1090000
theorem zan (call:zad)(F:FuncId)(g:zhA):∀vs H,call.with F g F vs H=g vs H:=fun vs H=>zad.with_here call F g vs H
theorem zac (call:zad)(F f:FuncId)(g:zhA)(h:(f==F)=false):∀vs H,call.with F g f vs H=call f vs H:=fun vs H=>zad.with_other call g vs H h
theorem n0:zad.none.Sound prog TT:=zad.none_sound
theorem ws {call:zad}(hc:call.Sound prog TT){F:FuncId}{g:zhA}(hg:zak prog TT F g):(call.with F g).Sound prog TT:=zad.with_sound hc hg
theorem zp7 (l:Bs):l=[]∨∃M y,l=M++[y]:=by
 rcases eq_nil_or_concat l with h|⟨M,y,h⟩
 ·exact .inl h
 ·exact .inr ⟨M,y,by rw[h,concat_eq_append]⟩
theorem zjZ (P Q:Bs)(c:UInt8)(i:Int)(h:i=P.length):atS (P++c::Q) i=c.toNat:=by
 subst h;simp[atS]
theorem zqY (P Q:Bs)(c d:UInt8)(n:Nat)(h:n=P.length):(P++c::Q).set n d=P++d::Q:=by
 subst h;simp
theorem zgl (c:UInt8):UInt8.ofNat c.toNat=c:=by simp
theorem zkZ (c:UInt8):(0:Int)≤c.toNat∧(c.toNat:Int)<256:=by
 have:=c.toNat_lt;omega
theorem w64 {n:Int}(h1:-9223372036854775808≤n)(h2:n<9223372036854775808):IntKind.i64.wrap n=n:=zaj h1 h2
abbrev zeR (k:Nat):E:=.f1 (.vi .u64) (.va k)
abbrev two (a b:E):E:=.f1 .tup (.f2 .cons a (.f2 .cons b .nil))
def shp:Nat→Option Shape:=fun f=>
 if f=110 then some ⟨[.i,.i],two (zeR 0) (zeR 1),.pure,false⟩else
 if f=111 then some ⟨[.i,.i],two (zeR 0) (zeR 1),.pure,false⟩else
 if f=112 then some ⟨[.i,.i],two (zeR 0) (zeR 1),.pure,false⟩else
 if f=121 then some ⟨[],.f1 (.vi .i64) (.ci 60),.pure,false⟩else
 if f=94 then some ⟨[.i,.b],two (zeR 0) (.f1 .vb (.va 1)),.pure,false⟩else
 if f=55 then some ⟨[],.cv .un,.pure,true⟩else
 if f=116 then some ⟨[.b],.f1 .vb (.va 0),.pure,false⟩else
 if f=100 then some ⟨[.s,.i],two (.f1 .vs (.va 0)) (.f1 (.vi .i64) (.va 1)),.pure,true⟩else
 if f=36 then some ⟨[.b],.f1 .vb (.va 0),.pure,false⟩else
 if f=91 then some ⟨[],.va 1000,.pure,false⟩else
 if f=67 then some ⟨[],.cv .un,.keeps [(0,none)],false⟩else
 if f=37 then some ⟨[],.cv .nili,.turns,false⟩else
 if f=38 then some ⟨[.i],two (.f1 (.vi .i64) (.va 0)) (.cv .nili),.turns,false⟩else
 if f=39 then some ⟨[.s],.f1 .vs (.va 0),.turns,false⟩else
 if f=81 then some ⟨[.i],.f1 (.vi .i64) (.va 0),.pure,false⟩else
 if f=82 then some ⟨[.i,.i],two (.f1 (.vi .i32) (.va 0)) (.f1 (.vi .i64) (.va 1)),.pure,false⟩else
 if f=35 then some ⟨[.i],.f1 (.vi .i64) (.va 0),.pure,false⟩else
 if f=71 then some ⟨[.i],.f1 (.vi .i64) (.va 0),.pure,false⟩else
 if f=15 then some ⟨[.b],.f1 .vb (.va 0),.pure,false⟩else
 if f=61 then some ⟨[.s],.f1 .vs (.va 0),.pure,false⟩else
 if f=70 then some ⟨[.b],.f1 .vb (.va 0),.pure,false⟩else
 if f=49 then some ⟨[.i],.f1 (.vi .i64) (.va 0),.pure,false⟩else
 if f=50 then some ⟨[.b],.f1 .vb (.va 0),.pure,false⟩else
 if f=73 then some ⟨[.b],.f1 .vb (.va 0),.pure,false⟩else
 if f=54 then some ⟨[.s],.f1 .vs (.va 0),.pure,false⟩else
 if f=75 then some ⟨[.i],.f1 (.vi .i64) (.va 0),.pure,true⟩else
 if f=77 then some ⟨[.i],.f1 (.vi .i64) (.va 0),.pure,true⟩else
 if f=76 then some ⟨[.s],.f1 .vs (.va 0),.pure,true⟩else
 if f=80 then some ⟨[.s,.i],two (.f1 .vs (.va 0)) (.f1 (.vi .i64) (.va 1)),.pure,true⟩else
 if f=52 then some ⟨[.s,.i],two (.f1 .vs (.va 0)) (.f1 (.vi .i64) (.va 1)),.pure,true⟩else
 if f=53 then some ⟨[.s,.i],two (.f1 .vs (.va 0)) (.f1 (.vi .i64) (.va 1)),.pure,true⟩else
 if f=51 then some ⟨[.i,.s,.i],.f1 .tup (.f2 .cons (.f1 (.vi .i64) (.va 0)) (.f2 .cons (.f1 .vs (.va 1)) (.f2 .cons (.f1 (.vi .i64) (.va 2)) .nil))),.pure,true⟩else
 if f=74 then some ⟨[.i],.f1 (.vi .i64) (.va 0),.reads,true⟩else
 if f=48 then some ⟨[.s],.f1 .vs (.va 0),.reads,false⟩else
 if f=47 then some ⟨[.b,.i,.b],.f1 .vb (.va 0),.keeps [(1,some (.f1 (.vi .i64) (.va 1))),(2,some (.f1 .vb (.va 2)))],true⟩else
 if f=30 then some ⟨[.i,.b],.cv .un,.keeps [(1,some (.f1 (.vi .i64) (.va 0))),(2,some (.f1 .vb (.va 1)))],true⟩else
 if f=31 then some ⟨[.i,.s,.i,.b,.i],.f1 .agg (.f2 .cons (.f1 (.vi .i64) (.va 0)) (.f2 .cons (.f1 .vs (.va 1)) (.f2 .cons (.f1 (.vi .i64) (.va 2)) (.f2 .cons (.f1 .vb (.va 3)) .nil)))),.keeps [(1,some (.f1 (.vi .i64) (.va 4)))],true⟩else
 none
theorem zf9 (a:Nat)(ha:a<18446744073709551616):zbj .and .u64 (a:Int) 4294967295=some (.i .u64 ((a%4294967296:Nat):Int)):=by
 have:zbj .and .u64 (a:Int) 4294967295=some (.i .u64 (bits .and .u64 (a:Int) 4294967295)):=rfl;rw[this,Mul64.maskN a ha]
theorem zl4 (a n:Nat)(h:n≤64):zbn .shr .u64 (a:Int) .u64 (n:Int)=some (.i .u64 ((a/2^n:Nat):Int)):=by
 have h0:¬((n:Int)<0):=by omega
 have e:zbn .shr .u64 (a:Int) .u64 (n:Int)=some (.i .u64 ((a:Int).fdiv (2^n))):=by
  unfold zbn Op.shift;rw[if_neg h0];have:min (n:Int).toNat IntKind.u64.bits=n:=by
   have:IntKind.u64.bits=64:=rfl;omega
  simp only[this];rfl
 rw[e,Int.fdiv_eq_ediv_of_nonneg _ (by exact Int.le_of_lt (Int.pow_pos (by omega)))];congr 2
theorem ztW (a:Nat):zbn .shr .u64 (a:Int) .u64 32=some (.i .u64 ((a/4294967296:Nat):Int)):=zl4 a 32 (by omega)
theorem zyT:zaQ TT shp 51 [] (zae f110) [] ⟨[(0,zeR 0),(1,zeR 1)],⟨.va 2,[],[]⟩,3,[]⟩ (KF TT f110 [])=let qb:E:=xc 4294967295;let qd:E:=xc 32;let qh:E:=.f2 (.opI .and .u64) v0 qb;let qg:E:=.f2 (.opI .and .u64) v1 qb;let qc:E:=xz (.f2 .mul qh qg);let qe:E:=.f2 (.sh .shr .u64 .u64) v0 qd;let qf:E:=.f2 (.sh .shr .u64 .u64) v1 qd;let qa:E:=xz (xa (.f2 (.opI .and .u64) v3 qb) (xz (.f2 .mul qh qf)));.need (.f2 (.okI .and .u64) v0 qb) (.need (.f2 (.okSh .shr .u64 .u64) v0 qd) (.need (.f2 (.okI .and .u64) v1 qb) (.need (.f2 (.okSh .shr .u64 .u64) v1 qd) (.need (.f2 (.okSh .shr .u64 .u64) qc qd) (.leti (xz (xa (xz (.f2 .mul qe qg)) (.f2 (.sh .shr .u64 .u64) qc qd))) (.need (.f2 (.okI .and .u64) v3 qb) (.need (.f2 (.okSh .shr .u64 .u64) v3 qd) (.need (.f2 (.okSh .shr .u64 .u64) qa qd) (.leti (.f2 (.sh .shr .u64 .u64) qa qd) (.leti (xz (xa (xz (xa (xz (.f2 .mul qe qf)) (.f2 (.sh .shr .u64 .u64) v3 qd))) v4)) (.fin (xt (x2 (xv v5) (xv (xz (.f2 .mul v0 v1))))) ⟨v2,[],[]⟩))))))))))):=by kernel_rfl
theorem zpc {call:zad}(hC:call.Sound prog TT)(x y:Nat)(hx:x<18446744073709551616)(hy:y<18446744073709551616):zaA prog TT 110 [.i .u64 x,.i .u64 y] [] (isR (.val (.tup [.i .u64 ((x*y/18446744073709551616:Nat):Int),.i .u64 ((x*y%18446744073709551616:Nat):Int)]))):=by
 refine zaA.sym zaf hC (fn:=f110) rfl rfl (by simp[f110]) zyT (by kernel_rfl) [.ui x,.ui y,.uh []] rfl ⟨by rw[zag];rfl,by rw[zag];rfl,trivial⟩ rfl (zaC _ _) ?_;obtain⟨bd,bt,bw,hhi⟩:=Lib.mul64_hi x y hx hy;have ba:=Lib.half_mul_le (a:=x/4294967296) (b:=y/4294967296) (by omega) (by omega);have bb:=Lib.half_mul_le (a:=x/4294967296) (b:=y%4294967296) (by omega) (by omega);have bc:=Lib.half_mul_le (a:=x%4294967296) (b:=y/4294967296) (by omega) (by omega);have ba':x/4294967296*(y/4294967296)<18446744073709551616:=by omega
 have bb':x/4294967296*(y%4294967296)<18446744073709551616:=by omega
 have bc':x%4294967296*(y/4294967296)<18446744073709551616:=by omega
 have bh1:x/4294967296*(y/4294967296)+(x/4294967296*(y%4294967296)+x%4294967296*(y%4294967296)/4294967296)/4294967296<18446744073709551616:=by omega
 have bh:x/4294967296*(y/4294967296)+(x/4294967296*(y%4294967296)+x%4294967296*(y%4294967296)/4294967296)/4294967296+((x/4294967296*(y%4294967296)+x%4294967296*(y%4294967296)/4294967296)%4294967296+x%4294967296*(y/4294967296))/4294967296<18446744073709551616:=by omega
 simp -implicitDefEqProofs only[VC,isR,jYa,E.den,O1.den,O2.den,U.int_ui,U.boo_ub,U.val_uv,U.lst_ul,jEa,jFa,jBa,jAa,jHa,zf9 x hx,zf9 y hy,ztW,zcH,zds,Mul64.mulN,Mul64.addN,Mul64.wrapN _ bd,Mul64.wrapN _ bb',Mul64.wrapN _ bt,zf9 _ bt,Mul64.wrapN _ bc',Mul64.wrapN _ bw,Mul64.wrapN _ ba',Mul64.wrapN _ bh1,Mul64.wrapN _ bh,Mul64.wrapM (x*y),jCd,jLb];rw[hhi]
theorem zym:∃g,zak prog TT 110 g∧∀p:Nat×Nat,p.1<18446744073709551616∧p.2<18446744073709551616→∀H,g [.i .u64 p.1,.i .u64 p.2] H=(Res.val (.tup [.i .u64 ((p.1*p.2/18446744073709551616:Nat):Int),.i .u64 ((p.1*p.2%18446744073709551616:Nat):Int)])).at H:=
 zbC zaf zao 110 (fun p:Nat×Nat=>[.i .u64 p.1,.i .u64 p.2]) (fun p=>p.1<18446744073709551616∧p.2<18446744073709551616) (fun p=>.val (.tup [.i .u64 ((p.1*p.2/18446744073709551616:Nat):Int),.i .u64 ((p.1*p.2%18446744073709551616:Nat):Int)])) (fun _ _=>⟨rfl,rfl⟩)
  (fun a b _ _ h=>by
 simp only[jPa,V.i.injEq,jLb,jGb,jAd]at h;rw[h.1,h.2]) fun p hp=>zpc zad.none_sound p.1 p.2 hp.1 hp.2
theorem zpO:TT.ext 111=some ze6:=rfl
def zd6 (lo hi:Nat):V:=.agg [.i .u64 lo,.i .u64 hi]
def zrB (lo hi m r:Nat):Nat:=lo*m+hi*m*18446744073709551616+r
def ztq (n:Nat):V:=.tup [zd6 (n%18446744073709551616) (n/18446744073709551616%18446744073709551616),.b (decide (n<340282366920938463463374607431768211456))]
theorem ztu:zaQ TT shp 49 [] (zae f96) [] ⟨[(0,.f1 .agg (.f2 .cons (zeR 0) (.f2 .cons (zeR 1) .nil))),(1,zeR 2),(2,zeR 3)],⟨.va 4,[],[]⟩,5,[]⟩ (KF TT f96 [])=let qb:E:=x2 (xv v9) (xv v11);let qa:SH:=⟨v4,[],[xk 131 (x2 (xv v0) (xv v1)),xk 131 qb]⟩;let qc:Tree:=.stuck 0;.asks (.call 110 (x2 (xv v0) (xv v2))) [.i,.i] (xt (x2 (xv v5) (xv v6))) (.asks (.call 110 (x2 (xv v1) (xv v2))) [.i,.i] (xt (x2 (xv v7) (xv v8))) (.asks (.ext 111 (x3 (xv v6) (xv v3) (xv c0))) [.i,.i] (xt (x2 (xv v9) (xv v10))) (.asks (.ext 111 (x3 (xv v8) (xv v5) (xv v10))) [.i,.i] (xt (x2 (xv v11) (xv v12))) (.ite (xe v7 c0) (.fin (xt (x2 (xg qb) (xb (xe v12 c0)))) qa) (.fin (xt (x2 (xg qb) (xb (.cb false)))) qa)) qc) qc) qc) qc:=by kernel_rfl
theorem zmj (x y c:Nat)(hc:c≤1):ze6 [.i .u64 x,.i .u64 y,.i .u64 c]=some (.tup [.i .u64 ((x+y+c)%18446744073709551616:Nat),.i .u64 ((x+y+c)/18446744073709551616:Nat)]):=by
 simp only[ze6,jCa];rw[if_pos ⟨by omega,by omega,by omega,by omega⟩]
theorem zo9 {call:zad}(hC:call.Sound prog TT)(hmul:∀x y:Nat,x<18446744073709551616→y<18446744073709551616→∀H,call 110 [.i .u64 x,.i .u64 y] H=.val (.tup [.i .u64 ((x*y/18446744073709551616:Nat):Int),.i .u64 ((x*y%18446744073709551616:Nat):Int)]) H)
 (lo hi m r:Nat)(h1:lo<18446744073709551616)(h2:hi<18446744073709551616)(h3:m<18446744073709551616)(h4:r<18446744073709551616):zaA prog TT 96 [zd6 lo hi,.i .u64 m,.i .u64 r] [] (isR (.val (ztq (zrB lo hi m r)))):=by
 refine zaA.sym zaf hC (fn:=f96) rfl rfl (by simp[f96]) ztu (by kernel_rfl) [.ui lo,.ui hi,.ui m,.ui r,.uh []] rfl ⟨by rw[zag];rfl,by rw[zag];rfl,by rw[zag];rfl,trivial⟩ rfl (zaC _ _) ?_;simp -implicitDefEqProofs only[VC,isR,exU,Ask.den,zpO,E.den,O1.den,O2.den,U.int_ui,U.boo_ub,U.val_uv,U.lst_ul,jEa,jFa,jBa,jAa,jHa];refine .inl ⟨_,_,fun K=>hmul lo m h1 h3 K,?_⟩;refine .inl ⟨_,_,fun K=>hmul hi m h2 h3 K,?_⟩;refine .inl ⟨_,_,fun K=>by rw[show(0:Int)=((0:Nat):Int)from rfl,zmj _ _ _ (by omega)];rfl,?_⟩;have hlo:lo*m%18446744073709551616<18446744073709551616:=Nat.mod_lt _ (by omega);refine .inl ⟨_,_,fun K=>by rw[zmj _ _ _ (by omega)];rfl,?_⟩;unfold ztq zrB zd6;generalize lo*m=P;generalize hi*m=Q;have e1:((P%18446744073709551616+r+0)%18446744073709551616)=(P+Q*18446744073709551616+r)%18446744073709551616:=by omega
 have e2:(Q%18446744073709551616+P/18446744073709551616+(P%18446744073709551616+r+0)/18446744073709551616)%18446744073709551616=(P+Q*18446744073709551616+r)/18446744073709551616%18446744073709551616:=by omega
 rw[e1,e2];refine⟨fun h=>?_,fun h=>?_⟩
 ·have h:=eq_of_beq h;have e3:(((((Q%18446744073709551616+P/18446744073709551616+(P%18446744073709551616+r+0)/18446744073709551616)/18446744073709551616:Nat):Int))==0)=decide (P+Q*18446744073709551616+r<340282366920938463463374607431768211456):=by
   rw[jYc,jOa,jTa];omega
  rw[e3]
 ·have h:¬(((Q/18446744073709551616:Nat):Int)=0):=by simpa using h
  have e3:decide (P+Q*18446744073709551616+r<340282366920938463463374607431768211456)=false:=jNb (by omega);rw[e3]
theorem zyi:∃g,zak prog TT 96 g∧∀p:Nat×Nat×Nat×Nat,p.1<18446744073709551616∧p.2.1<18446744073709551616∧p.2.2.1<18446744073709551616∧p.2.2.2<18446744073709551616→∀H,g [zd6 p.1 p.2.1,.i .u64 p.2.2.1,.i .u64 p.2.2.2] H=(Res.val (ztq (zrB p.1 p.2.1 p.2.2.1 p.2.2.2))).at H:=by
 obtain⟨g1,k1,s1⟩:=zym;refine zbC zaf zao 96 (fun p:Nat×Nat×Nat×Nat=>[zd6 p.1 p.2.1,.i .u64 p.2.2.1,.i .u64 p.2.2.2]) _ (fun p=>.val (ztq (zrB p.1 p.2.1 p.2.2.1 p.2.2.2))) (fun _ _=>⟨rfl,rfl⟩)
  (fun a b _ _ h=>by
   simp only[zd6,jPa,V.i.injEq,V.agg.injEq,jLb,jGb,jAd]at h;rw[h.1.1,h.1.2,h.2.1,h.2.2]) fun p hp=>?_
 exact zo9 (ws n0 k1) (fun x y hx hy H=>by rw[zan];exact s1 (x,y) ⟨hx,hy⟩ H) p.1 p.2.1 p.2.2.1 p.2.2.2 hp.1 hp.2.1 hp.2.2.1 hp.2.2.2
theorem zAL (u:Nat):(((u:Int)*4294967296%18446744073709551616+((0:Nat):Int))%18446744073709551616-((u/2684354560:Nat):Int)*11529215046068469760%18446744073709551616)%18446744073709551616=((u%2684354560*4294967296:Nat):Int):=by omega
theorem zAM (q u:Nat)(h:q<4294967296)(hu:u<11529215046068469760):(((q:Int)*4294967296%18446744073709551616+((u/2684354560:Nat):Int))%18446744073709551616)=((q*4294967296+u/2684354560:Nat):Int):=by omega
theorem zAN (u v:Nat)(h:u<11529215046068469760)(hv:v<4294967296):(((((u:Int)*4294967296%18446744073709551616+(v:Int))%18446744073709551616-((u/2684354560:Nat):Int)*11529215046068469760%18446744073709551616))%18446744073709551616)=((u%2684354560*4294967296+v:Nat):Int):=by omega
theorem zAu (u:Nat):((u:Int)-((u/2684354560:Nat):Int)*2684354560%18446744073709551616)%18446744073709551616=((u%2684354560:Nat):Int)∨18446744073709551616≤u:=by omega
theorem zAO (hi lo:Nat)(h:hi<10)(hl:lo<18446744073709551616):(hi*1152921504606846976+lo/16)/2684354560*4294967296+((hi*1152921504606846976+lo/16)%2684354560*4294967296+lo*1152921504606846976%18446744073709551616/4294967296)/2684354560=(hi*18446744073709551616+lo)/10:=by omega
theorem zAP (hi lo:Nat)(h:hi<10)(hl:lo<18446744073709551616):((hi*1152921504606846976+lo/16)%2684354560*4294967296+lo*1152921504606846976%18446744073709551616/4294967296)%2684354560/268435456=(hi*18446744073709551616+lo)%10:=by omega
theorem zAQ (u:Nat):u%2684354560*4294967296/2^60=u%2684354560/268435456:=by omega
theorem zAR (q r:Nat):¬((4294967296:Int)*(r:Int)%18446744073709551616+((0:Nat):Int))%18446744073709551616<(q:Int)*0%18446744073709551616:=by omega
theorem zzJ (q r v:Nat):¬((4294967296:Int)*(r:Int)%18446744073709551616+(v:Int))%18446744073709551616<(q:Int)*0%18446744073709551616:=by omega
theorem zzK (lo:Nat)(hl:lo<18446744073709551616):lo*1152921504606846976%18446744073709551616%4294967296=0∧lo*1152921504606846976%18446744073709551616/4294967296<4294967296:=by omega
theorem zwY (u:Nat)(h:u<11529215046068469760):u/2684354560<4294967296:=by omega
theorem zzL (hi lo:Nat)(h:hi<10)(hl:lo<18446744073709551616):hi*1152921504606846976+lo/16<11529215046068469760:=by omega
theorem zzM (u v w:Nat)(h:u<11529215046068469760)(hv:v<4294967296)(hw:w=u%2684354560*4294967296+v):(((((u:Int)*4294967296%18446744073709551616+(v:Int))%18446744073709551616-((u/2684354560:Nat):Int)*11529215046068469760%18446744073709551616))%18446744073709551616)=(w:Int):=by
 subst hw;exact zAN u v h hv
theorem zzN (u v w:Nat)(hv:v<4294967296)(hw:w=u%2684354560*4294967296+v):w<11529215046068469760∧w<18446744073709551616:=by omega
def zf0 (c:Int):Bool:=(decide (97≤c)&&decide (c≤122))||(decide (65≤c)&&decide (c≤90))
def zln (c:Int):Int:=if 48≤c∧c≤57 then c-48 else if 97≤c∧c≤102 then c-87 else if 65≤c∧c≤70 then c-55 else -1
def zby (c base:Int):Int:=if base≤zln c then -1 else zln c
def zcR (c:Int):Bool:=zf0 c||decide (0≤zby c 10)||(c==95)
theorem zvV:((List.range 256).all fun c=>match zcw TT (zeu Con.none) 3000 62 [.i .u8 c] []with | .val (.b b) _=>b==zf0 c|_=>false)=true:=by kernel_rfl
theorem zvW:((List.range 256).all fun c=>match zcw TT (zeu Con.none) 3000 63 [.i .u8 c] []with | .val (.b b) _=>b==zcR c|_=>false)=true:=by kernel_rfl
theorem zvX:([2,10,16].all fun base=>(List.range 256).all fun c=>match zcw TT (zeu Con.none) 3000 57 [.i .u8 c,.i .i64 base] []with | .val (.i .i64 n) _=>n==zby c base|_=>false)=true:=by kernel_rfl
theorem zfk {P:Program} {T:Tab} (hT:TOk P T) (hp:T.Plain) (F:FuncId) (D:List V→Prop) (r:List V→Res) (h:∀vs,D vs→nlL vs=true∧(r vs).nl=true∧∃n J,zcw T (zeu Con.none) n F vs []=(r vs).at J) :
    ∃g,zak P T F g∧∀vs,D vs→∀H,g vs H=(r vs).at H:=by
  classical
  refine⟨fun vs H=>if D vs then(r vs).at H else .no,fun vs H x hx hne=>?_,fun vs hd H=>if_pos hd⟩
  simp only at hx
  split at hx
  · rename_i hd
    subst hx
    obtain⟨h1,h2,n,J,h3⟩:=h vs hd
    obtain⟨k1,k2⟩:=zj6 hT hp Con.none_sound h3 h1 h2
    exact⟨k1,k2 H⟩
  · exact absurd hx.symm hne
theorem zek {p:Nat→Bool}{n:Nat}(h:(List.range n).all p=true){c:Int}(h0:0≤c)(h1:c<n):∃k:Nat,c=k∧p k=true:=
 ⟨c.toNat,by omega,jBb.1 h _ (jCc.2 (by omega))⟩
theorem ztX:∃g,zak prog TT 62 g∧∀c:Int,0≤c→c<256→∀H,g [.i .u8 c] H=.val (.b (zf0 c)) H:=by
 obtain⟨g,k,s⟩:=zfk zaf zao 62 (fun vs=>∃c:Int,0≤c∧c<256∧vs=[.i .u8 c]) (fun vs=>match vs with | [.i .u8 c]=>.val (.b (zf0 c))|_=>.val .un) (by
  rintro vs ⟨c,h0,h1,rfl⟩;refine⟨rfl,rfl,3000,?_⟩;obtain⟨k,rfl,hk⟩:=zek zvV h0 h1;split at hk
  ·rename_i b J he;exact⟨J,by rw[he,eq_of_beq hk];rfl⟩
  ·cases hk)
 exact⟨g,k,fun c h0 h1 H=>s _ ⟨c,h0,h1,rfl⟩ H⟩
theorem zqZ:∃g,zak prog TT 63 g∧∀c:Int,0≤c→c<256→∀H,g [.i .u8 c] H=.val (.b (zcR c)) H:=by
 obtain⟨g,k,s⟩:=zfk zaf zao 63 (fun vs=>∃c:Int,0≤c∧c<256∧vs=[.i .u8 c]) (fun vs=>match vs with | [.i .u8 c]=>.val (.b (zcR c))|_=>.val .un) (by
  rintro vs ⟨c,h0,h1,rfl⟩;refine⟨rfl,rfl,3000,?_⟩;obtain⟨k,rfl,hk⟩:=zek zvW h0 h1;split at hk
  ·rename_i b J he;exact⟨J,by rw[he,eq_of_beq hk];rfl⟩
  ·cases hk)
 exact⟨g,k,fun c h0 h1 H=>s _ ⟨c,h0,h1,rfl⟩ H⟩
theorem zkS:∃g,zak prog TT 57 g∧∀c base:Int,0≤c→c<256→base=2∨base=10∨base=16→∀H,g [.i .u8 c,.i .i64 base] H=.val (.i .i64 (zby c base)) H:=by
 obtain⟨g,k,s⟩:=zfk zaf zao 57 (fun vs=>∃c base:Int,0≤c∧c<256∧(base=2∨base=10∨base=16)∧vs=[.i .u8 c,.i .i64 base]) (fun vs=>match vs with | [.i .u8 c,.i .i64 base]=>.val (.i .i64 (zby c base))|_=>.val .un) (by
  rintro vs ⟨c,base,h0,h1,hb,rfl⟩;refine⟨rfl,rfl,3000,?_⟩;have hm:base∈[2,10,16]:=by rcases hb with rfl|rfl|rfl<;>simp
  obtain⟨k,rfl,hk⟩:=zek (jBb.1 zvX base hm) h0 h1;split at hk
  ·rename_i b J he;exact⟨J,by rw[he,eq_of_beq hk];rfl⟩
  ·cases hk)
 exact⟨g,k,fun c base h0 h1 hb H=>s _ ⟨c,base,h0,h1,hb,rfl⟩ H⟩
theorem zv5:zaQ TT shp 135 [] (zae f112) [] ⟨[(0,zeR 0),(1,zeR 1),(2,.f1 (.vi .u64) (.ci 10))],⟨.va 2,[],[]⟩,3,[]⟩ (KF TT f112 [2,8,9,10,11,13,14,15,16])=let qg:E:=xc 60;let qd:E:=.f2 (.sh .shl .u64 .u64) v0 qg;let qe:E:=.f2 (.sh .shr .u64 .u64) v1 (xc 4);let qb:E:=.f2 (.sh .shl .u64 .u64) v1 qg;let qa:E:=.f2 (.opI .or .u64) qd qe;let qc:E:=xc 2684354560;let qf:E:=.f2 (.opI .quo .u64) qa qc;.ite (xE c10 v0) (.stuck 9) (.ite (xe v0 c0) (.need (.f2 (.okI .quo .u64) v1 c10) (.need (.f2 (.okI .rem .u64) v1 c10) (.fin (xt (x2 (xv (.f2 (.opI .quo .u64) v1 c10)) (xv (.f2 (.opI .rem .u64) v1 c10)))) ⟨v2,[],[]⟩))) (.asks (.call 121 (x1 (xv c10))) [] (xi qg) (.need (.f2 (.okSh .shl .u64 .u64) v0 qg) (.need (.f2 (.okSh .shr .u64 .u64) v1 (xc 4)) (.need (.f2 (.okI .or .u64) qd qe) (.need (.f2 (.okSh .shl .u64 .u64) v1 qg) (.need (.f2 (.okSh .shr .u64 .u64) qb (xc 32)) (.need (.f2 (.okI .and .u64) qb (xc 4294967295)) (.need (.f2 (.okI .quo .u64) qa qc) (.leti (xz (xS qa (xz (.f2 .mul qf qc)))) (.leaf (.stop [tt,tt,tt,tt,tt,tt,tt,tt,tt,tt,tt,tt,tt,tt,ff,ff]) [(2,xv (xc 11529215046068469760)),(8,xv qg),(9,xv qc),(10,xv c0),(11,xv qa),(13,xv (.f2 (.sh .shr .u64 .u64) qb (xc 32))),(14,xv (.f2 (.opI .and .u64) qb (xc 4294967295))),(15,xv qf),(16,xv v3)] ⟨v2,[],[]⟩))))))))) (.stuck 0))):=by kernel_rfl
theorem zv6:goT TT shp 135 [] [tt,tt,tt,tt,tt,tt,tt,tt,tt,tt,tt,tt,tt,tt,ff,ff,ff] (zae f112) [] ⟨[(2,.f1 (.vi .u64) (.ci 11529215046068469760)),(8,.f1 (.vi .u64) (.ci 60)),(9,.f1 (.vi .u64) (.ci 2684354560)),(10,.f1 (.vi .u64) (.ci 0)),(11,zeR 0),(13,zeR 1),(14,zeR 2),(15,zeR 3),(16,zeR 4)],⟨.va 5,[],[]⟩,6,[]⟩ (KF TT f112 [2,8,9,10,14,15,17,18,16])=let qe:E:=xc 4294967296;let qb:E:=xc 2684354560;let qg:E:=xz (xa (xz (.f2 .mul v0 qe)) v1);let qi:E:=xz (xS v3 c1);let qc:E:=xc 11529215046068469760;let qh:E:=.f2 (.okI .quo .u64) v6 qb;let qk:E:=xv (xc 60);let qd:E:=.f2 (.opI .quo .u64) v6 qb;let qf:E:=xv (xz (xS v6 (xz (.f2 .mul qd qb))));let qj:SH:=⟨v5,[],[]⟩;let qa:Tree:=.ite (xH (xz (xa v4 qb)) qe) (.leti (xz (xS qg (xz (.f2 .mul qi qc)))) (.need qh (.leaf (.stop [tt,tt,tt,tt,tt,tt,tt,tt,tt,tt,tt,tt,tt,tt,tt,tt,tt,tt,ff,ff]) [(2,xv qc),(8,qk),(9,xv qb),(10,xv c0),(14,xv v2),(15,xv qi),(17,xv v6),(18,xv qd),(16,qf)] qj))) (.leaf (.again [tt,tt,tt,tt,tt,tt,tt,tt,tt,tt,tt,tt,tt,tt,ff,ff,ff]) [(2,xv qc),(8,qk),(9,xv qb),(10,xv c0),(14,xv v2),(15,xv qi),(16,xv (xz (xa v4 qb)))] qj);.ite (xH v3 qe) qa (.ite (xG (xz (.f2 .mul v3 c0)) (xz (xa (xz (.f2 .mul qe v4)) v1))) qa (.leti (xz (xS qg (xz (.f2 .mul v3 qc)))) (.need qh (.leaf (.stop [tt,tt,tt,tt,tt,tt,tt,tt,tt,tt,tt,tt,tt,tt,tt,tt,tt,tt,ff,ff]) [(2,xv qc),(8,qk),(9,xv qb),(10,xv c0),(14,xv v2),(15,xv v3),(17,xv v6),(18,xv qd),(16,qf)] qj)))):=by kernel_rfl
theorem zv7:goT TT shp 135 [] [tt,tt,tt,tt,tt,tt,tt,tt,tt,tt,tt,tt,tt,tt,tt,tt,tt,tt,ff,ff,ff] (zae f112) [] ⟨[(2,.f1 (.vi .u64) (.ci 11529215046068469760)),(8,.f1 (.vi .u64) (.ci 60)),(9,.f1 (.vi .u64) (.ci 2684354560)),(10,.f1 (.vi .u64) (.ci 0)),(14,zeR 0),(15,zeR 1),(17,zeR 2),(18,zeR 3),(16,zeR 4)],⟨.va 5,[],[]⟩,6,[]⟩ (KF TT f112 [])=let qb:E:=xc 4294967296;let qe:E:=xz (xa (xz (.f2 .mul v2 qb)) v0);let qf:E:=xc 11529215046068469760;let qd:E:=.f2 (.okSh .shr .u64 .u64) v6 (xc 60);let qh:E:=xz (.f2 .mul v1 qb);let qc:E:=xv (.f2 (.sh .shr .u64 .u64) v6 (xc 60));let qg:SH:=⟨v5,[],[]⟩;let qa:Tree:=.ite (xH (xz (xa v4 (xc 2684354560))) qb) (.leti (xz (xS qe (xz (.f2 .mul (xz (xS v3 c1)) qf)))) (.need qd (.fin (xt (x2 (xv (xz (xa qh (xz (xS v3 c1))))) qc)) qg))) (.leaf (.again [tt,tt,tt,tt,tt,tt,tt,tt,tt,tt,tt,tt,tt,tt,tt,tt,tt,tt,ff,ff,ff]) [] qg);.ite (xH v3 qb) qa (.ite (xG (xz (.f2 .mul v3 c0)) (xz (xa (xz (.f2 .mul qb v4)) v0))) qa (.leti (xz (xS qe (xz (.f2 .mul v3 qf)))) (.need qd (.fin (xt (x2 (xv (xz (xa qh v3))) qc)) qg)))):=by kernel_rfl
theorem zqv (a b:Nat)(hb:0<b)(ha:a<18446744073709551616):zbj .quo .u64 (a:Int) (b:Int)=some (.i .u64 ((a/b:Nat):Int)):=by
 have h0:¬((b:Int)=0):=by omega
 have e:zbj .quo .u64 (a:Int) (b:Int)=some (.i .u64 (IntKind.u64.wrap ((a:Int).tdiv (b:Int)))):=by
  simp only[zbj,Op.intDiv,if_neg h0];rfl
 have h1:a/b≤a:=Nat.div_le_self a b;rw[e,←Int.ofNat_tdiv,Mul64.wrapN _ (by omega)]
theorem zvw (a b:Nat)(hb:0<b):zbj .rem .u64 (a:Int) (b:Int)=some (.i .u64 ((a%b:Nat):Int)):=by
 have h0:¬((b:Int)=0):=by omega
 have e:zbj .rem .u64 (a:Int) (b:Int)=some (.i .u64 ((a:Int).tmod (b:Int))):=by
  simp only[zbj,Op.intDiv,if_neg h0];rfl
 rw[e,←Int.ofNat_tmod]
theorem zxB (a:Nat)(ha:a<18446744073709551616):zbj .quo .u64 (a:Int) 2684354560=some (.i .u64 ((a/2684354560:Nat):Int)):=by
 have:=zqv a 2684354560 (by omega) ha;simpa using this
theorem zqu (a:Nat)(ha:a<18446744073709551616):zbj .quo .u64 (a:Int) 10=some (.i .u64 ((a/10:Nat):Int)):=by
 have:=zqv a 10 (by omega) ha;simpa using this
theorem zqw (a:Nat):zbj .rem .u64 (a:Int) 10=some (.i .u64 ((a%10:Nat):Int)):=by
 have:=zvw a 10 (by omega);simpa using this
theorem zvL (a:Nat):zbn .shr .u64 (a:Int) .u64 60=some (.i .u64 ((a/2^60:Nat):Int)):=by
 have:=zl4 a 60 (by omega);simpa using this
theorem zxO (a:Nat):zbn .shr .u64 (a:Int) .u64 4=some (.i .u64 ((a/16:Nat):Int)):=by
 have:=zl4 a 4 (by omega);simpa using this
theorem zxN (a:Nat):zbn .shl .u64 (a:Int) .u64 60=some (.i .u64 ((a*1152921504606846976%18446744073709551616:Nat):Int)):=by
 have e:zbn .shl .u64 (a:Int) .u64 60=some (.i .u64 (IntKind.u64.wrap ((a:Int)*1152921504606846976))):=rfl;rw[e,show((a:Int)*1152921504606846976)=((a*1152921504606846976:Nat):Int)from by rw[Int.natCast_mul];rfl,Mul64.wrapM]
theorem zzV (a b:Nat)(ha:a<16)(hb:b<1152921504606846976):zbj .or .u64 ((a*1152921504606846976:Nat):Int) (b:Int)=some (.i .u64 ((a*1152921504606846976+b:Nat):Int)):=by
 have e:zbj .or .u64 ((a*1152921504606846976:Nat):Int) (b:Int)=some (.i .u64 (bits .or .u64 ((a*1152921504606846976:Nat):Int) (b:Int))):=rfl;rw[e,bits_or_u64_nat _ _ (by omega) (by omega)];have:=Nat.two_pow_add_eq_or_of_lt (i:=60) (b:=b) (by omega) a;rw[show a*1152921504606846976=2^60*a from by omega,←this]
theorem zp0 {call:zad}(hC:call.Sound prog TT){t:Tm}{H:zaa}(q1:Nat)(h1:q1<4294967296)(hw:t.wid=135)(t2:t.get 2=.i .u64 11529215046068469760)(t8:t.get 8=.i .u64 60)(t9:t.get 9=.i .u64 2684354560)(t10:t.get 10=.i .u64 0)
 (un0 q0 rh0 un21:Nat)(e3:un0=0)(e4:un21<11529215046068469760)(e5:q0=un21/2684354560)(e6:rh0=un21%2684354560)(t14:t.get 14=.i .u64 (un0:Nat))(t15:t.get 15=.i .u64 (q1:Nat))(t17:t.get 17=.i .u64 (un21:Nat))(t18:t.get 18=.i .u64 (q0:Nat))(t16:t.get 16=.i .u64 (rh0:Nat)) :
 ctx prog TT [tt,tt,tt,tt,tt,tt,tt,tt,tt,tt,tt,tt,tt,tt,tt,tt,tt,tt,ff,ff,ff] (zae f112) (zaF TT f112 (isR (.val (.tup [.i .u64 ((q1*4294967296+un21/2684354560:Nat):Int),.i .u64 ((un21%2684354560/268435456:Nat):Int)])))) (.norm t H):=by
 refine zaM.symIn (p:=[tt,tt,tt,tt,tt,tt,tt,tt,tt,tt,tt,tt,tt,tt,tt,tt,tt,tt,ff,ff]) zaf hC rfl zv7 (by kernel_rfl) [.ui (un0:Nat),.ui (q1:Nat),.ui (un21:Nat),.ui (q0:Nat),.ui (rh0:Nat),.uh H] rfl hw ⟨t2,t8,t9,t10,t14,t15,t17,t18,t16,trivial⟩ rfl (zaC _ _) ?_;clear t2 t8 t9 t10 t14 t15 t16 t17 t18 hw;subst e3 e5 e6;simp -implicitDefEqProofs only[VC,isR,exU,Ask.den,E.den,O1.den,O2.den,O3.den,SH.den,zat,za9,bD,SB.den,zai,LQ,uu,uW,jOa,jUa,jDa,IntKind.wrap_u64,zAL,zAM q1 un21 h1 e4,zAR];have h5:=zwY un21 e4;refine⟨fun h=>absurd h (by omega),fun _=>⟨fun h=>h.elim,fun _=>?_⟩⟩;simp only[zvL,zAQ,zcH,zds,jCd,jLb]
theorem zpZ {call:zad}(hC:call.Sound prog TT){t:Tm}{H:zaa}(un32 un1 un0 q1 rh:Nat)(h0:un32<11529215046068469760)(e1:q1=un32/2684354560)(e2:rh=un32%2684354560)(h3:un1<4294967296)(e3:un0=0)(un21 Q Rm:Nat)(hu:un21=un32%2684354560*4294967296+un1)(hQ:Q=un32/2684354560*4294967296+un21/2684354560)(hR:Rm=un21%2684354560/268435456)(hw:t.wid=135)(t2:t.get 2=.i .u64 11529215046068469760)(t8:t.get 8=.i .u64 60)(t9:t.get 9=.i .u64 2684354560)(t10:t.get 10=.i .u64 0)
 (t11:t.get 11=.i .u64 (un32:Nat))(t13:t.get 13=.i .u64 (un1:Nat))(t14:t.get 14=.i .u64 (un0:Nat))(t15:t.get 15=.i .u64 (q1:Nat))(t16:t.get 16=.i .u64 (rh:Nat)) :
 ctx prog TT [tt,tt,tt,tt,tt,tt,tt,tt,tt,tt,tt,tt,tt,tt,ff,ff,ff] (zae f112) (zaF TT f112 (isR (.val (.tup [.i .u64 (Q:Int),.i .u64 (Rm:Int)])))) (.norm t H):=by
 refine zaM.symIn (p:=[tt,tt,tt,tt,tt,tt,tt,tt,tt,tt,tt,tt,tt,tt,ff,ff]) zaf hC rfl zv6 (by kernel_rfl) [.ui (un32:Nat),.ui (un1:Nat),.ui (un0:Nat),.ui (q1:Nat),.ui (rh:Nat),.uh H] rfl hw ⟨t2,t8,t9,t10,t11,t13,t14,t15,t16,trivial⟩ rfl (zaC _ _) ?_;clear t2 t8 t9 t10 t11 t13 t14 t15 t16 hw;subst e1 e2 e3 hQ hR;simp -implicitDefEqProofs only[VC,isR,exU,Ask.den,E.den,O1.den,O2.den,O3.den,SH.den,zat,za9,bD,SB.den,zai,LQ,uu,uW,jOa,jUa,jDa,IntKind.wrap_u64,zzM un32 un1 un21 h0 h3 hu,zzJ];have h5:=zwY un32 h0;obtain⟨h6,h8⟩:=zzN un32 un1 un21 h3 hu;clear hu;refine⟨fun h=>absurd h (by omega),fun _=>⟨fun h=>h.elim,fun _=>?_⟩⟩;simp only[zxB un21 h8,zcH,zds,jCd,jLb];intro t' hw' f2 f8 f9 f10 f14 f15 f17 f18 f16;refine Tri.symLoop rfl (zp0 hC (un32/2684354560) h5 hw' f2 f8 f9 f10 0 (un21/2684354560) (un21%2684354560) un21 rfl h6 rfl rfl f14 f15 f17 f18 (f16.trans ?_));congr 1;rcases zAu un21 with h|h
 ·exact h
 ·omega
theorem zpd {call:zad}(hC:call.Sound prog TT)(hlz:∀H,call 121 [.i .u64 10] H=.val (.i .i64 60) H)(hi lo:Nat)(h1:hi<10)(h2:lo<18446744073709551616):zaA prog TT 112 [.i .u64 hi,.i .u64 lo,.i .u64 10] [] (isR (.val (.tup [.i .u64 (((hi*18446744073709551616+lo)/10:Nat):Int),.i .u64 (((hi*18446744073709551616+lo)%10:Nat):Int)]))):=by
 refine zaA.sym zaf hC (fn:=f112) rfl rfl (by simp[f112]) zv5 (by kernel_rfl) [.ui hi,.ui lo,.uh []] rfl ⟨by rw[zag];rfl,by rw[zag];rfl,by rw[zag];rfl,trivial⟩ rfl (zaC _ _) ?_;simp -implicitDefEqProofs only[VC,isR,exU,Ask.den,E.den,O1.den,O2.den,O3.den,SH.den,zat,za9,bD,SB.den,zai,LQ,uu,uW,jOa,jUa,jDa];rw[zqu lo h2,zqw lo];simp only[zcH,zds,jCd,jLb];refine⟨fun h=>absurd h (by omega),fun _=>⟨fun h=>?_,fun h=>?_⟩⟩
 ·have:hi=0:=by omega
  subst this;simp only[Nat.zero_mul,jKb]
 ·refine .inl ⟨fun K=>hlz K,?_⟩;have k1:hi*1152921504606846976%18446744073709551616=hi*1152921504606846976:=by omega
  have k2:lo*1152921504606846976%18446744073709551616<18446744073709551616:=Nat.mod_lt _ (by omega);have k3:=zzK lo h2;have h5:=zzL hi lo h1 h2;have h6:=zAO hi lo h1 h2;have h7:=zAP hi lo h1 h2;have k4:=zzV hi (lo/16) (by omega) (by omega);simp only[zxN,zxO,k1,zcH,k4,ztW,zf9 _ k2];have h8:hi*1152921504606846976+lo/16<18446744073709551616:=Nat.lt_trans h5 (by omega);simp only[zxB _ h8,zcH,zds,jCd,jLb];intro t' hw' f2 f8 f9 f10 f11 f13 f14 f15 f16;refine Tri.symLoop rfl (zpZ hC (hi*1152921504606846976+lo/16) (lo*1152921504606846976%18446744073709551616/4294967296) (lo*1152921504606846976%18446744073709551616%4294967296) ((hi*1152921504606846976+lo/16)/2684354560) ((hi*1152921504606846976+lo/16)%2684354560) h5 rfl rfl k3.2 k3.1 _ _ _ rfl h6.symm h7.symm hw' f2 f8 f9 f10 f11 f13 f14 f15 (f16.trans ?_));congr 1;rw[IntKind.wrap_u64,IntKind.wrap_u64];rcases zAu (hi*1152921504606846976+lo/16)with h|h
  ·exact h
  ·exact absurd h8 (Nat.not_lt.2 h)
theorem zv0:zcw TT (zeu Con.none) 3000 121 [.i .u64 10] []=.val (.i .i64 60) []:=by kernel_rfl
theorem zyo:∃g,zak prog TT 121 g∧∀H,g [.i .u64 10] H=.val (.i .i64 60) H:=by
 obtain⟨g,k,s⟩:=zfk zaf zao 121 (fun vs=>vs=[.i .u64 10]) (fun _=>.val (.i .i64 60)) (by
  rintro vs rfl;exact⟨rfl,rfl,3000,[],zv0⟩)
 exact⟨g,k,fun H=>s _ rfl H⟩
def zwX (hi lo:Nat):V:=.tup [.i .u64 (((hi*18446744073709551616+lo)/10:Nat):Int),.i .u64 (((hi*18446744073709551616+lo)%10:Nat):Int)]
theorem zyn:∃g,zak prog TT 112 g∧∀p:Nat×Nat,p.1<10∧p.2<18446744073709551616→∀H,g [.i .u64 p.1,.i .u64 p.2,.i .u64 10] H=(Res.val (zwX p.1 p.2)).at H:=by
 obtain⟨g1,k1,s1⟩:=zyo;refine zbC zaf zao 112 (fun p:Nat×Nat=>[.i .u64 p.1,.i .u64 p.2,.i .u64 10]) _ (fun p=>.val (zwX p.1 p.2)) (fun _ _=>⟨rfl,rfl⟩)
  (fun a b _ _ h=>by
   simp only[jPa,V.i.injEq,jLb,jGb,jAd]at h;rw[h.1,h.2]) fun p hp=>?_
 exact zpd (ws n0 k1) (fun H=>by rw[zan];exact s1 H) p.1 p.2 hp.1 hp.2
theorem zjM:goT TT shp 65 [] [tt,tt,tt,tt,ff,tt,ff,ff] (zae f97) [] ⟨[(3,.f2 (.sl 1) (.va 1) (.f1 .lenS (.va 2))),(5,.f1 (.vi .i64) (.va 3)),(6,.f1 (.vi .i64) (.va 4))],⟨.va 0,[(.va 1,some ⟨5,.f1 .bys (.va 2),.more⟩)],[]⟩,5,[]⟩ (KF TT f97 [3,5,6])=let qb:E:=xA v2 v4;let qa:E:=.f3 .setB v2 v3 qb;let qc:E:=xA v2 v3;.ite (xL v3 v4) (.need (xE c0 v4) (.need (xL v4 (xl v2)) (.need (xE c0 v3) (.need (xL v3 (xl v2)) (.need (xE c0 qb) (.need (xL qb (xc 256)) (.need (xL v4 (xl qa)) (.need (xE c0 qc) (.need (xL qc (xc 256)) (.leaf (.again [tt,tt,tt,tt,ff,tt,ff,ff]) [(3,.f2 (.sl 1) v1 (xl v2)),(5,xi (xw (xa v3 c1))),(6,xi (xw (xS v4 c1)))] ⟨v0,[(v1,some ⟨5,xy (.f3 .setB qa v4 qc),.more⟩)],[]⟩)))))))))) (.fin (xs v2) ⟨v0,[(v1,some ⟨5,xy v2,.more⟩)],[]⟩):=by kernel_rfl
theorem zsm {call:zad}(hC:call.Sound prog TT):∀(n:Nat)(A M B:Bs)(m:Nat)(t:Tm)(H:zaa),M.length≤n→(A++M++B).length<1000000→t.wid=65→t.get 3=.sl m 1 0 (A++M++B).length none→t.get 5=.i .i64 (A.length:Nat)→t.get 6=.i .i64 ((A.length:Int)+M.length-1) →
 H[m]? = some (some ⟨5,zb9 (A++M++B),.more⟩)→ctx prog TT [tt,tt,tt,tt,ff,tt,ff,ff] (zae f97) (zaF TT f97 (isR (.val (.s (A++M.reverse++B))))) (.norm t H):=by
 intro n;induction n with
 |zero=>
  intro A M B m t H hM hl hw t3 t5 t6 hb;have hM:M=[]:=jRb (by omega);subst hM;refine zaM.symIn (p:=[tt,tt,tt,tt,ff,tt,ff]) zaf hC rfl zjM (by kernel_rfl) [.uh H,.un m,.us (A++[]++B),.ui (A.length:Nat),.ui ((A.length:Int)+([]:Bs).length-1)] rfl hw ⟨t3,t5,t6,trivial⟩ (zaa.set_self hb) ⟨by simp;exact(jGa.1 hb).1,by simp⟩ ?_;clear t3 t5 t6 hw;simp -implicitDefEqProofs only[VC,isR,exU,Ask.den,E.den,O1.den,O2.den,O3.den,SH.den,zat,za9,bD,SB.den,zai,LQ,uu,uW,jOa,jUa,jDa];refine⟨fun h=>absurd h (by simp;omega),fun _=>by simp⟩
 |succ n ih=>
  intro A M B m t H hM hl hw t3 t5 t6 hb;have base:(∀x M' y,M≠x::(M'++[y]))→ctx prog TT [tt,tt,tt,tt,ff,tt,ff,ff] (zae f97) (zaF TT f97 (isR (.val (.s (A++M.reverse++B))))) (.norm t H):=fun hne=>by
   have h1:M.reverse=M∧M.length≤1:=by
    cases M with
    |nil=>exact⟨rfl,by simp⟩
    |cons x M=>
     rcases zp7 M with rfl|⟨M',y,rfl⟩
     ·exact⟨rfl,by simp⟩
     ·exact absurd rfl (hne x M' y)
   refine zaM.symIn (p:=[tt,tt,tt,tt,ff,tt,ff]) zaf hC rfl zjM (by kernel_rfl) [.uh H,.un m,.us (A++M++B),.ui (A.length:Nat),.ui ((A.length:Int)+M.length-1)] rfl hw ⟨t3,t5,t6,trivial⟩ (zaa.set_self hb) ⟨by simp;exact(jGa.1 hb).1,by simp⟩ ?_;clear t3 t5 t6 hw;simp -implicitDefEqProofs only[VC,isR,exU,Ask.den,E.den,O1.den,O2.den,O3.den,SH.den,zat,za9,bD,SB.den,zai,LQ,uu,uW,jOa,jUa,jDa,h1.1];exact⟨fun h=>absurd h (by omega),fun _=>trivial⟩
  cases M with
  |nil=>exact base (by simp)
  |cons x M=>
   rcases zp7 M with rfl|⟨M',y,rfl⟩
   ·exact base (by simp)
   ·clear base;have e1:A++(x::(M'++[y]))++B=A++x::(M'++y::B):=by simp
    have e2:A++x::(M'++y::B)=(A++x::M')++y::B:=by simp
    have e3:A++y::(M'++y::B)=(A++y::M')++y::B:=by simp
    have e4:(A++[y])++M'++(x::B)=(A++y::M')++x::B:=by simp
    have e5:A++(x::(M'++[y])).reverse++B=(A++[y])++M'.reverse++(x::B):=by simp
    have ek:(A.length:Int)+(x::(M'++[y])).length-1=A.length+M'.length+1:=by simp;omega
    rw[e1]at t3 hb hl;rw[ek]at t6;rw[e5];have a1:atS (A++x::(M'++y::B)) ((A.length:Int)+M'.length+1)=y.toNat:=by rw[e2];exact zjZ _ _ _ _ (by simp;omega)
    have a2:atS (A++x::(M'++y::B)) (A.length:Nat)=x.toNat:=zjZ _ _ _ _ rfl;have s1:(A++x::(M'++y::B)).set A.length (UInt8.ofNat y.toNat)=A++y::(M'++y::B):=by rw[zgl];exact zqY _ _ _ _ _ rfl
    have s2:(A++y::(M'++y::B)).set ((A.length:Int)+M'.length+1).toNat (UInt8.ofNat x.toNat)=(A++[y])++M'++(x::B):=by
     rw[e3,e4,zgl];exact zqY _ _ _ _ _ (by simp;omega)
    refine zaM.symIn (p:=[tt,tt,tt,tt,ff,tt,ff]) zaf hC rfl zjM (by kernel_rfl) [.uh H,.un m,.us (A++x::(M'++y::B)),.ui (A.length:Nat),.ui ((A.length:Int)+M'.length+1)] rfl hw ⟨t3,t5,t6,trivial⟩ (zaa.set_self hb) ⟨by simp;exact(jGa.1 hb).1,by simp⟩ ?_;clear t3 t5 t6 hw;have hm:=(jGa.1 hb).1;have l1:(A++x::(M'++y::B)).length=A.length+M'.length+B.length+2:=by simp;omega
    have l2:(A++y::(M'++y::B)).length=A.length+M'.length+B.length+2:=by simp;omega
    simp -implicitDefEqProofs only[VC,isR,exU,Ask.den,E.den,O1.den,O2.den,O3.den,SH.den,zat,za9,bD,SB.den,zai,LQ,uu,uW,jOa,jUa,jDa,a1,a2,s1,s2];rw[l1,l2];rw[l1]at hl;have ux:=zkZ x;have uy:=zkZ y;refine⟨fun _=>⟨by omega,by omega,by omega,by omega,uy.1,uy.2,by omega,ux.1,ux.2,?_⟩,fun h=>absurd (show(A.length:Int)<A.length+M'.length+1 by omega) h⟩;intro t' hw' f3 f5 f6;rw[w64 (by omega) (by omega)]at f5 f6;refine ih (A++[y]) M' (x::B) m t' _ (by simp at hM;omega) (by simp;omega) hw' ?_ ?_ ?_ ?_
    ·rw[f3];congr 1;simp;omega
    ·rw[f5];congr 1;simp
    ·rw[f6];congr 1;simp;omega
    ·rw[jFb hm];rfl
theorem zzt (hi lo:Nat):(hi%10*18446744073709551616+lo)/10+hi/10*18446744073709551616=(lo+hi*18446744073709551616)/10:=by omega
theorem zzu (hi lo:Nat):(hi%10*18446744073709551616+lo)%10=(lo+hi*18446744073709551616)%10:=by omega
theorem zAC (hi lo:Nat)(h:lo<18446744073709551616)(h2:hi<18446744073709551616):(hi%10*18446744073709551616+lo)/10<18446744073709551616∧hi/10<18446744073709551616∧hi%10<10:=by omega
theorem zA1 (n p:Nat)(h:n<p*10):n/10<p:=by omega
theorem znm (r:Nat)(h:r<10):IntKind.u8.wrap (IntKind.u64.wrap (48+(r:Int)))=((48+r:Nat):Int):=by
 rw[IntKind.wrap_u64];have e:(2:Int)^IntKind.u8.bits=256:=rfl;simp only[IntKind.wrap,e,IntKind.signed,Bool.false_and,jSa,if_false];omega
def dgL (n:Nat):Bs:=if h:n=0 then[]else UInt8.ofNat (48+n%10)::dgL (n/10)
def zuC (l:Bs):Bs:=if l=[]then[48]else l.reverse
theorem ziS (n:Nat)(h:n≠0):dgL n=UInt8.ofNat (48+n%10)::dgL (n/10):=by rw[dgL,dif_neg h]
theorem zeY:dgL 0=[]:=by rw[dgL,dif_pos rfl]
theorem zmE (K:zaa)(a b:Option Blk)(n:Nat)(h:n=K.length+1):(K++[a]++[b])[n]? = some b:=by
 subst h;rw[jEb,jPb (by omega),jJc];rfl
theorem zmF (K:zaa)(a b:Option Blk)(n:Nat)(h:n<K.length):(K++[a]++[b])[n]? = K[n]?:=by
 rw[jEb,jQa h]
abbrev zzv (lo hi:Nat):Option Blk:=some ⟨131,[.i .u64 (lo:Int),.i .u64 (hi:Int)],.all⟩
theorem ztr:zaQ TT shp 65 [] (zae f97) [] ⟨[(0,.f1 .agg (.f2 .cons (zeR 0) (.f2 .cons (zeR 1) .nil)))],⟨.va 2,[],[]⟩,3,[]⟩ (KF TT f97 [1,3])=.leaf (.stop [tt,tt,ff,ff]) [(1,xp (xN (xh v2) (.cn 0))),(3,.cv .nils)] ⟨v2,[],[xk 131 (x2 (xv v0) (xv v1))]⟩:=by kernel_rfl
theorem zts:goT TT shp 65 [] [tt,tt,ff,ff,ff] (zae f97) [] ⟨[(1,.f1 (.ptr 0) (.cn 0)),(3,.cv .nils)],⟨.va 2,[(.cn 0,some ⟨131,.f2 .cons (zeR 0) (.f2 .cons (zeR 1) .nil),.all⟩)],[]⟩,3,[]⟩ (KF TT f97 [1,3])=let qb:E:=xx (xz (xa (xc 48) v4));let qa:Tree:=.need (.f2 (.okI .rem .u64) v1 c10) (.need (.f2 (.okI .quo .u64) v1 c10) (.asks (.call 112 (x3 (xv (.f2 (.opI .rem .u64) v1 c10)) (xv v0) (xv c10))) [.i,.i] (xt (x2 (xv v3) (xv v4))) (.need (xE c0 qb) (.need (xL qb (xc 256)) (.leaf (.again [tt,tt,ff,ff,ff]) [(1,xp (.cn 0)),(3,.f2 (.sl 1) (xN (xh v2) (.cn 1)) (xl (xB (.cs []) qb)))] ⟨v2,[(.cn 0,xk 131 (x2 (xv v3) (xv (.f2 (.opI .quo .u64) v1 c10))))],[xk 5 (x1 (xu qb)),some ⟨5,xy (xB (.cs []) qb),.more⟩]⟩))) (.stuck 0)));.ite (xG v0 c0) qa (.ite (xG v1 c0) qa (.fin (xs (.cs [48])) ⟨v2,[(.cn 0,xk 131 (x2 (xv v0) (xv v1)))],[]⟩)):=by kernel_rfl
theorem ztt:goT TT shp 65 [] [tt,tt,ff,ff,ff] (zae f97) [] ⟨[(1,.f1 (.ptr 0) (.cn 0)),(3,.f2 (.sl 1) (.va 3) (.f1 .lenS (.va 4)))],⟨.va 2,[(.cn 0,some ⟨131,.f2 .cons (zeR 0) (.f2 .cons (zeR 1) .nil),.all⟩),(.va 3,some ⟨5,.f1 .bys (.va 4),.more⟩)],[]⟩,5,[]⟩ (KF TT f97 [1,3,5,6])=let qb:E:=xx (xz (xa (xc 48) v6));let qd:E:=xl v4;let qe:E:=xc 1099511627776;let qa:Tree:=.need (.f2 (.okI .rem .u64) v1 c10) (.need (.f2 (.okI .quo .u64) v1 c10) (.asks (.call 112 (x3 (xv (.f2 (.opI .rem .u64) v1 c10)) (xv v0) (xv c10))) [.i,.i] (xt (x2 (xv v5) (xv v6))) (.need (xE c0 qb) (.need (xL qb (xc 256)) (.need (xE (.f2 .mul (xa qd c1) c1) qe) (.need (xE (xa qd c1) qe) (.leaf (.again [tt,tt,ff,ff,ff]) [(1,xp (.cn 0)),(3,.f2 (.sl 1) (xN (xh v2) (.cn 1)) (xl (xB v4 qb)))] ⟨v2,[(.cn 0,xk 131 (x2 (xv v5) (xv (.f2 (.opI .quo .u64) v1 c10)))),(v3,none)],[xk 5 (x1 (xu qb)),some ⟨5,xy (xB v4 qb),.more⟩]⟩))))) (.stuck 0)));let qc:SH:=⟨v2,[(.cn 0,xk 131 (x2 (xv v0) (xv v1))),(v3,some ⟨5,xy v4,.more⟩)],[]⟩;.ite (xG v0 c0) qa (.ite (xG v1 c0) qa (.ite (xe qd c0) (.fin (xs (.cs [48])) qc) (.leaf (.stop [tt,tt,tt,tt,ff,tt,ff]) [(1,xp (.cn 0)),(3,.f2 (.sl 1) v3 qd),(5,xi c0),(6,xi (xw (xS qd c1)))] qc))):=by kernel_rfl
theorem zp1 {call:zad}(hC:call.Sound prog TT)(hdiv:∀hi lo:Nat,hi<10→lo<18446744073709551616→∀H,call 112 [.i .u64 hi,.i .u64 lo,.i .u64 10] H=.val (zwX hi lo) H) :
 ∀(k lo hi:Nat)(s:Bs)(m:Nat)(t:Tm)(H:zaa)(out:Bs),lo<18446744073709551616→hi<18446744073709551616→lo+hi*18446744073709551616<10^k→s.length+k≤100→out=zuC (s++dgL (lo+hi*18446744073709551616))→t.wid=65→t.get 1=.ptr 0 0→t.get 3=.sl m 1 0 s.length none →
 H[0]? = some (zzv lo hi)→H[m]? = some (some ⟨5,zb9 s,.more⟩)→m≠0→ctx prog TT [tt,tt,ff,ff,ff] (zae f97) (zaF TT f97 (isR (.val (.s out)))) (.norm t H):=by
 intro k;induction k using Nat.strongRecOn with
 |ind k ih=>
  intro lo hi s m t H out hlo hhi hk hs ho hw t1 t3 hb0 hbm hm;have hm0:=(jGa.1 hb0).1;have hmm:=(jGa.1 hbm).1;refine zaM.symIn (p:=[tt,tt,ff,ff]) zaf hC rfl ztt (by kernel_rfl) [.ui lo,.ui hi,.uh H,.un m,.us s] rfl hw ⟨t1,t3,trivial⟩ ?_ ⟨by simp;exact⟨hm0,hmm⟩,by simp;exact fun e=>hm e.symm⟩ ?_
  ·show H=(H.set m (some ⟨5,zb9 s,.more⟩)).set 0 (zzv lo hi);rw[←zaa.set_self hbm,←zaa.set_self hb0]
  ·clear t1 t3 hw;have hHH:(H.set m (some ⟨5,zb9 s,.more⟩)).set 0 (zzv lo hi)=H:=by rw[←zaa.set_self hbm,←zaa.set_self hb0]
   have h3:=zAC hi lo hlo hhi;have hr:(hi%10*18446744073709551616+lo)%10<10:=Nat.mod_lt _ (by omega);simp -implicitDefEqProofs only[VC,isR,exU,Ask.den,E.den,O1.den,O2.den,O3.den,SH.den,zat,za9,bD,SB.den,zai,LQ,uu,uW,jOa,jUa,jDa,zqw,zqu hi hhi,zcH,zds,jCd,jLb];refine⟨fun h=>?_,fun h=>⟨fun h2=>?_,fun h2=>?_⟩⟩;rotate_left 2
   ·have hz:lo+hi*18446744073709551616=0:=by omega
    rw[hz,zeY,jWb]at ho;refine⟨fun h4=>?_,fun h4=>?_⟩
    ·have:s=[]:=jRb (by omega);subst this;subst ho;rfl
    ·intro t' hw' f1 f3 f5 f6;have hne:s≠[]:=fun e=>h4 (by rw[e];rfl);have hs0:0<s.length:=jEc.2 hne;rw[w64 (by omega) (by omega)]at f6;have:=zsm hC s.length [] s [] m t' H (jDb _) (by simp;omega) hw' (by rw[f3];simp) f5 (by rw[f6];simp) (by simpa using hbm);rw[ho,show zuC s=[]++s.reverse++[]from by simp[zuC,hne]];rw[show(List.set (List.set H m (some ⟨5,List.map (fun c=>V.i IntKind.u8 c.toNat) s,.more⟩)) 0 (some ⟨131,[V.i IntKind.u64 lo,V.i IntKind.u64 hi],.all⟩))=H from hHH];exact Tri.symLoop rfl this
   all_goals
    have hz:lo+hi*18446744073709551616≠0:=by omega
    refine .inl ⟨_,_,fun K=>hdiv (hi%10) lo h3.2.2 hlo K,?_⟩;simp only[znm _ hr];refine⟨by omega,by omega,by omega,by omega,?_⟩;intro t' hw' f1 f3;have hk0:k≠0:=by
     rintro rfl;omega
    have hkk:lo+hi*18446744073709551616<10^(k-1)*10:=by
     rw[←Nat.pow_succ,show(k-1).succ=k from by omega];exact hk
    refine ih (k-1) (by omega) ((hi%10*18446744073709551616+lo)/10) (hi/10) (s++[UInt8.ofNat (48+(lo+hi*18446744073709551616)%10)]) (H.length+1) t' _ out h3.1 h3.2.1 (by rw[zzt];exact zA1 _ _ hkk) (by simp;omega) (by rw[ho,zzt,ziS _ hz];simp) hw' f1 ?_ ?_ ?_ (by omega)
    ·rw[f3,zzu];rfl
    ·exact(zmF _ _ _ _ (by simp;exact hm0)).trans (jFb (by simp;exact hm0))
    ·refine(zmE _ _ _ _ (by simp)).trans ?_;rw[zzu];rfl
theorem znZ {call:zad}(hC:call.Sound prog TT)(hdiv:∀hi lo:Nat,hi<10→lo<18446744073709551616→∀H,call 112 [.i .u64 hi,.i .u64 lo,.i .u64 10] H=.val (zwX hi lo) H)
 (lo hi:Nat)(t:Tm)(H:zaa)(hlo:lo<18446744073709551616)(hhi:hi<18446744073709551616)(hw:t.wid=65)(t1:t.get 1=.ptr 0 0)(t3:t.get 3=.nils)(hb0:H[0]? = some (zzv lo hi)) :
 ctx prog TT [tt,tt,ff,ff,ff] (zae f97) (zaF TT f97 (isR (.val (.s (zuC (dgL (lo+hi*18446744073709551616))))))) (.norm t H):=by
 have hm0:=(jGa.1 hb0).1;refine zaM.symIn (p:=[tt,tt,ff,ff]) zaf hC rfl zts (by kernel_rfl) [.ui lo,.ui hi,.uh H] rfl hw ⟨t1,t3,trivial⟩ (zaa.set_self hb0) ⟨by simp;exact hm0,by simp⟩ ?_;clear t1 t3 hw;have h3:=zAC hi lo hlo hhi;have hr:(hi%10*18446744073709551616+lo)%10<10:=Nat.mod_lt _ (by omega);simp -implicitDefEqProofs only[VC,isR,exU,Ask.den,E.den,O1.den,O2.den,O3.den,SH.den,zat,za9,bD,SB.den,zai,LQ,uu,uW,jOa,jUa,jDa,zqw,zqu hi hhi,zcH,zds,jCd,jLb];refine⟨fun h=>?_,fun h=>⟨fun h2=>?_,fun h2=>?_⟩⟩;rotate_left 2
 ·have hz:lo+hi*18446744073709551616=0:=by omega
  rw[hz,zeY];rfl
 all_goals
  have hz:lo+hi*18446744073709551616≠0:=by omega
  refine .inl ⟨_,_,fun K=>hdiv (hi%10) lo h3.2.2 hlo K,?_⟩;simp only[znm _ hr];refine⟨by omega,by omega,?_⟩;intro t' hw' f1 f3;have hbig:(lo+hi*18446744073709551616)/10<10^90:=Nat.lt_of_lt_of_le (m:=340282366920938463463374607431768211456) (by omega) (Nat.le_of_ble_eq_true rfl);refine zp1 hC hdiv 90 ((hi%10*18446744073709551616+lo)/10) (hi/10) [UInt8.ofNat (48+(lo+hi*18446744073709551616)%10)] (H.length+1) t' _ _ h3.1 h3.2.1 (by rw[zzt];exact hbig) (by simp) (by rw[zzt,ziS _ hz];rfl) hw' f1 ?_ ?_ ?_ (by omega)
  ·rw[f3,zzu];rfl
  ·exact(zmF _ _ _ _ (by simp;exact hm0)).trans (jFb hm0)
  ·refine(zmE _ _ _ _ (by simp)).trans ?_;rw[zzu];rfl
theorem zpa {call:zad}(hC:call.Sound prog TT)(hdiv:∀hi lo:Nat,hi<10→lo<18446744073709551616→∀H,call 112 [.i .u64 hi,.i .u64 lo,.i .u64 10] H=.val (zwX hi lo) H)
 (lo hi:Nat)(hlo:lo<18446744073709551616)(hhi:hi<18446744073709551616):zaA prog TT 97 [zd6 lo hi] [] (isR (.val (.s (zuC (dgL (lo+hi*18446744073709551616)))))):=by
 refine zaA.sym zaf hC (fn:=f97) rfl rfl (by simp[f97]) ztr (by kernel_rfl) [.ui lo,.ui hi,.uh []] rfl ⟨by rw[zag];rfl,trivial⟩ rfl (zaC _ _) ?_;simp -implicitDefEqProofs only[VC,isR,exU,Ask.den,E.den,O1.den,O2.den,O3.den,SH.den,zat,za9,bD,SB.den,zai,LQ,uu,uW,jOa,jUa,jDa];intro t' hw' f1 f3;exact Tri.symLoop rfl (znZ hC hdiv lo hi t' _ hlo hhi hw' f1 f3 rfl)
def zlj (n:Nat):Bs:=zuC (dgL n)
theorem zyj:∃g,zak prog TT 97 g∧∀p:Nat×Nat,p.1<18446744073709551616∧p.2<18446744073709551616→∀H,g [zd6 p.1 p.2] H=(Res.val (.s (zlj (p.1+p.2*18446744073709551616)))).at H:=by
 obtain⟨g1,k1,s1⟩:=zyn;refine zbC zaf zao 97 (fun p:Nat×Nat=>[zd6 p.1 p.2]) _ (fun p=>.val (.s (zlj (p.1+p.2*18446744073709551616)))) (fun _ _=>⟨rfl,rfl⟩)
  (fun a b _ _ h=>by
   simp only[zd6,jPa,V.agg.injEq,V.i.injEq,jLb,jGb,jAd]at h;rw[h.1,h.2]) fun p hp=>?_
 exact zpa (ws n0 k1) (fun hi lo h1 h2 H=>by rw[zan];exact s1 (hi,lo) ⟨h1,h2⟩ H) p.1 p.2 hp.1 hp.2
theorem zov (b:UInt8):(b.toNat:Int)<256:=by have:=b.toNat_lt;omega
def atR (s:Bs)(i:Nat):Int:=match s[i]? with
 |some b=>b.toNat
 |none=>0
theorem zbY (s:Bs)(i:Nat):0≤atR s i∧atR s i<256:=by
 unfold atR;split
 ·rename_i b _;have:=zov b;omega
 ·omega
def zdM (s:Bs)(i:Nat)(t:Bs):Bool:=decide (i+t.length≤s.length)&&((s.take (i+t.length)).drop i==t)
theorem znx {call:zad}(hC:call.Sound prog TT)(s:Bs)(i:Nat)(b:UInt8)(hi:(i:Int)<s.length)(hi2:i<s.length)(hb:s[i]? = some b)(hb2:∀h,s[i]'h=b)  : zjT prog TT 64 [.s s,.i .i64 i] (.val (.i .u8 b.toNat)):=by
 refine en f64 rfl rfl (by simp[f64]) 12 rfl fun t hw hg=>?_;have h0:=hg 0 _ rfl;have h1:=hg 1 _ rfl;clear hg;try simp only[Nd.enc_eq]at *
 have hF:=ai @h0 (ai @h1 (ai @hi (ai @hi2 (ai @hb @hb2))));apply rS hC
 ·refine oA ?_;rfl
 apply sQ;apply rS hC
 ·iterate 4 refine oA ?_
  rfl
 refine cT (by simp[hF]<;>rfl) ?_;apply rS hC
 ·iterate 4 refine oA ?_
  rfl
 apply Tri.ret;apply sR;simp[zf3,f64,hF]
theorem zny {call:zad}(hC:call.Sound prog TT)(s:Bs)(i:Nat)(hi:¬(i:Int)<s.length)  : zjT prog TT 64 [.s s,.i .i64 i] (.val (.i .u8 0)):=by
 refine en f64 rfl rfl (by simp[f64]) 12 rfl fun t hw hg=>?_;have h0:=hg 0 _ rfl;have h1:=hg 1 _ rfl;clear hg;try simp only[Nd.enc_eq]at *
 have hF:=ai @h0 (ai @h1 @hi);apply rS hC
 ·refine oA ?_;rfl
 apply sQ;apply rS hC
 ·iterate 4 refine oA ?_
  rfl
 refine cF (by simp[hF]<;>rfl) ?_;apply Tri.skip;apply sN;apply rS hC
 ·refine oA ?_;rfl
 apply Tri.ret;simp[zf3,f64,hF]
theorem znA {call:zad}(hC:call.Sound prog TT)(s t0:Bs)(i:Nat)(hw1:IntKind.i64.wrap ((i:Int)+t0.length)=(i:Int)+t0.length)(hi:¬(i:Int)+t0.length≤s.length)  : zjT prog TT 56 [.s s,.i .i64 i,.s t0] (.val (.b false)):=by
 refine en f56 rfl rfl (by simp[f56]) 25 rfl fun t hw hg=>?_;have h0:=hg 0 _ rfl;have h1:=hg 1 _ rfl;have h2:=hg 2 _ rfl;clear hg;try simp only[Nd.enc_eq]at *
 have hF:=ai @h0 (ai @h1 (ai @h2 (ai @hw1 @hi)));apply rS hC
 ·refine oA ?_;rfl
 apply rS hC
 ·iterate 8 refine oA ?_
  iterate 9 refine oC ?_
  iterate 2 refine oA ?_
  rfl
 apply Tri.ret;simp[zf3,f56,hF]
theorem znz {call:zad}(hC:call.Sound prog TT)(s t0:Bs)(i:Nat)(hw1:IntKind.i64.wrap ((i:Int)+t0.length)=(i:Int)+t0.length)(hi:(i:Int)+t0.length≤s.length)(hi2:(0:Int)≤(i:Int)+t0.length)(hi3:(i:Int)≤(i:Int)+t0.length)(hi4:i≤i+t0.length)(hn:((i:Int)+t0.length).toNat=i+t0.length)  : zjT prog TT 56 [.s s,.i .i64 i,.s t0] (.val (.b ((s.take (i+t0.length)).drop i==t0))):=by
 refine en f56 rfl rfl (by simp[f56]) 25 rfl fun t hw hg=>?_;have h0:=hg 0 _ rfl;have h1:=hg 1 _ rfl;have h2:=hg 2 _ rfl;clear hg;try simp only[Nd.enc_eq]at *
 have hF:=ai @h0 (ai @h1 (ai @h2 (ai @hw1 (ai @hi (ai @hi2 (ai @hi3 (ai @hi4 @hn)))))));apply rS hC
 ·refine oA ?_;rfl
 apply rS hC
 ·iterate 8 refine oA ?_
  iterate 9 refine oB ?_
  iterate 2 refine oA ?_
  rfl
 apply Tri.ret;simp[zf3,f56,hF]
theorem zus {call:zad}(hC:call.Sound prog TT)(c:Int):zjT prog TT 72 [.i .u8 c] (.val (.b ((decide (97≤c)&&decide (c≤122))||(decide (65≤c)&&decide (c≤90))||(c==95)))):=by
 refine en f72 rfl rfl (by simp[f72]) 21 rfl fun t hw hg=>?_;have h0:=hg 0 _ rfl;clear hg;try simp only[Nd.enc_eq]at *
 apply rS hC
 ·refine oA ?_;rfl
 apply sQ;cases hB1:(decide (97≤c):Bool);case false=>
  cases hB2:(decide (65≤c):Bool);case false=>
   apply rN hC
   ·iterate 3 refine oA ?_
    iterate 2 refine oC ?_
    iterate 2 refine oA ?_
    iterate 3 refine oB ?_
    iterate 2 refine oC ?_
    refine oB ?_;iterate 2 refine oA ?_
    iterate 2 refine oB ?_
    iterate 2 refine oA ?_
    rfl
   apply sN;apply Tri.ret;simp[zf3,f72,h0,hB1,hB2]
  case true=>
   cases hB3:(decide (c≤90):Bool);case false=>
    apply rN hC
    ·iterate 3 refine oA ?_
     iterate 2 refine oC ?_
     iterate 2 refine oA ?_
     iterate 6 refine oB ?_
     iterate 2 refine oA ?_
     iterate 2 refine oB ?_
     iterate 2 refine oA ?_
     rfl
    apply sN;apply Tri.ret;simp[zf3,f72,h0,hB1,hB2,hB3]
   case true=>
    apply rN hC
    ·iterate 3 refine oA ?_
     iterate 2 refine oC ?_
     iterate 2 refine oA ?_
     iterate 6 refine oB ?_
     iterate 2 refine oA ?_
     iterate 2 refine oC ?_
     iterate 2 refine oA ?_
     rfl
    apply sN;apply Tri.ret;simp[zf3,f72,h0,hB1,hB2,hB3]
 case true=>
  cases hB4:(decide (c≤122):Bool);case false=>
   cases hB5:(decide (65≤c):Bool);case false=>
    apply rN hC
    ·iterate 3 refine oA ?_
     iterate 2 refine oB ?_
     iterate 2 refine oA ?_
     iterate 3 refine oB ?_
     iterate 2 refine oC ?_
     refine oB ?_;iterate 2 refine oA ?_
     iterate 2 refine oB ?_
     iterate 2 refine oA ?_
     rfl
    apply sN;apply Tri.ret;simp[zf3,f72,h0,hB1,hB4,hB5]
   case true=>
    cases hB6:(decide (c≤90):Bool);case false=>
     apply rN hC
     ·iterate 3 refine oA ?_
      iterate 2 refine oB ?_
      iterate 2 refine oA ?_
      iterate 6 refine oB ?_
      iterate 2 refine oA ?_
      iterate 2 refine oB ?_
      iterate 2 refine oA ?_
      rfl
     apply sN;apply Tri.ret;simp[zf3,f72,h0,hB1,hB4,hB5,hB6]
    case true=>
     apply rN hC
     ·iterate 3 refine oA ?_
      iterate 2 refine oB ?_
      iterate 2 refine oA ?_
      iterate 6 refine oB ?_
      iterate 2 refine oA ?_
      iterate 2 refine oC ?_
      iterate 2 refine oA ?_
      rfl
     apply sN;apply Tri.ret;simp[zf3,f72,h0,hB1,hB4,hB5,hB6]
  case true=>
   apply rN hC
   ·iterate 3 refine oA ?_
    iterate 2 refine oB ?_
    iterate 2 refine oA ?_
    iterate 6 refine oC ?_
    iterate 2 refine oA ?_
    iterate 2 refine oC ?_
    iterate 2 refine oA ?_
    rfl
   apply sN;apply Tri.ret;simp[zf3,f72,h0,hB1,hB4]
theorem zuu {call:zad}(hC:call.Sound prog TT)(c:Int):zjT prog TT 50 [.i .u8 c] (.val (.b (decide (48≤c)&&decide (c≤57)))):=by
 refine en f50 rfl rfl (by simp[f50]) 9 rfl fun t hw hg=>?_;have h0:=hg 0 _ rfl;clear hg;try simp only[Nd.enc_eq]at *
 apply rS hC
 ·refine oA ?_;rfl
 apply sQ;cases hB1:(decide (48≤c):Bool);case false=>
  apply rN hC
  ·iterate 3 refine oA ?_
   iterate 2 refine oC ?_
   iterate 2 refine oA ?_
   rfl
  apply sN;apply Tri.ret;simp[zf3,f50,h0,hB1]
 case true=>
  apply rN hC
  ·iterate 3 refine oA ?_
   iterate 2 refine oB ?_
   iterate 2 refine oA ?_
   rfl
  apply sN;apply Tri.ret;simp[zf3,f50,h0,hB1]
theorem zut {call:zad}(hC:call.Sound prog TT)(c:Int)(b b2:Bool)(hs:∀H,call 72 [.i .u8 c] H=.val (.b b) H)(h2:∀H,call 50 [.i .u8 c] H=.val (.b b2) H):zjT prog TT 73 [.i .u8 c] (.val (.b (b||b2))):=by
 refine en f73 rfl rfl (by simp[f73]) 9 rfl fun t hw hg=>?_;have h0:=hg 0 _ rfl;clear hg;try simp only[Nd.enc_eq]at *
 apply rS hC
 ·refine oA ?_;rfl
 apply sQ;cases hB1:(b:Bool);case false=>
  apply rN hC
  ·iterate 3 refine oA ?_
   iterate 2 refine oB ?_
   iterate 2 refine oA ?_
   rfl
  apply sN;apply Tri.ret;simp[zf3,f73,h0,hs,h2,hB1]
 case true=>
  apply rN hC
  ·iterate 3 refine oA ?_
   iterate 2 refine oC ?_
   iterate 2 refine oA ?_
   rfl
  apply sN;apply Tri.ret;simp[zf3,f73,h0,hs,h2,hB1]
def zfP (l:List (Bs)):List V:=l.map V.s
theorem zca (l:List (Bs)):(zfP l).length=l.length:=by simp[zfP]
theorem zpz (pre:List (Bs))(x:Bs)(l:List (Bs)):(zfP (pre++x::l))[pre.length]? = some (.s x):=by simp[zfP]
theorem zrZ (pre:List (Bs))(x:Bs)(l:List (Bs)):∀h,(zfP (pre++x::l))[pre.length]'h=.s x:=fun h=>by simp[zfP]
theorem zuG (l:List (Bs)):nlL (zfP l)=true:=by
 induction l with
 |nil=>rfl
 |cons x l ih=>simpa[zfP,nlL,nl]using ih
theorem zsB {call:zad}(hC:call.Sound prog TT)(s:Bs){Q:Out→Prop}:∀(L pre:List (Bs))(t:Tm)(H:zaa),(pre++L).length<1100000→t.wid=18→t.get 0=.isl 1 (zfP (pre++L))→t.get 1=.s s→t.get 5=.i .i64 pre.length →
 (∀t' H',t'.wid=18→(L.any fun x=>x==s)=false→Q (.exit 0 t' H'))→(∀t' H',t'.wid=18→(L.any fun x=>x==s)=true→t'.get 4=.b true→Q (.ret t' H')) →
 zaM prog TT (sub [tt,ff,tt,ff,ff] (zae f42)) t H Q:=by
 intro L;induction L with
 |nil=>
  intro pre t H hlen hw h0 h1 h5 hE hR;have hF:=ai @h0 (ai @h1 (ai @h5 @zca));refine zaM.round' ?_;apply sQ;apply rS hC
  ·iterate 4 refine oA ?_
   rfl
  refine cF (by simp[hF]<;>rfl) ?_;refine Tri.exit ?_;refine zaz ?_;refine zay ?_;exact hE _ _ (by simp[hw]) (by simp)
 |cons x L ih=>
  intro pre t H hlen hw h0 h1 h5 hE hR;have hlt:=zdV pre.length L.length;have hat:=zpz pre x L;have hat2:=zrZ pre x L;cases hq:(x==s)with
  |true=>
   have hF:=ai @h0 (ai @h1 (ai @h5 (ai @zca (ai @hlt (ai @hat (ai @hat2 @hq))))));refine zaM.round' ?_;apply sQ;apply rS hC
   ·iterate 4 refine oA ?_
    rfl
   refine cT (by simp[hF]<;>rfl) ?_;apply Tri.skip;apply sN;apply sQ;apply bK;apply rS hC
   ·iterate 6 refine oA ?_
    rfl
   refine cT (by simp[hF]<;>rfl) ?_;apply rS hC
   ·refine oA ?_;rfl
   apply Tri.ret;apply bR;apply sR;refine zce ?_;exact hR _ _ (by simp[hw]) (by simp[hq]) (by simp)
  |false=>
   have hF:=ai @h0 (ai @h1 (ai @h5 (ai @zca (ai @hlt (ai @hat (ai @hat2 @hq))))));refine zaM.round' ?_;apply sQ;apply rS hC
   ·iterate 4 refine oA ?_
    rfl
   refine Tri.condG (o:=?on2) (b:=?bn2) ?gn2 ?rn2 ?yn2 ?nn2;case gn2=>simp[hF]<;>rfl
   case rn2=>rfl
   case yn2=>
    intro hy2;apply Tri.skip;apply sN;apply sQ;apply bK;apply rS hC
    ·iterate 6 refine oA ?_
     rfl
    refine cF (by simp[hF]<;>rfl) ?_;apply Tri.skip;apply bN;apply sN;apply rN hC
    ·iterate 3 refine oA ?_
     rfl
    refine zaq ?_;refine ih (pre++[x]) _ _ (by simpa using hlen) (by simp[hw]) (by simp[h0]) (by simp[h1]) (by simp;exact zaj (by omega) (by simp at hlen;omega)) (fun t' H' k1 k2=>hE t' H' k1 (by simp[hq,k2])) (fun t' H' k1 k2=>hR t' H' k1 (by simp[k2]))
   case nn2=>
    intro hn2;exfalso;simp at hn2
theorem zoS {call:zad}(hC:call.Sound prog TT)(l:List (Bs))(s:Bs)(hlen:l.length<1100000)  : zaV prog TT 42 [.isl 1 (zfP l),.s s] (fun r=>r=.val (.b (l.any fun x=>x==s))):=by
 refine en f42 rfl rfl (by simp[f42]) 18 rfl fun t hw hg=>?_;have h0:=hg 0 _ rfl;have h1:=hg 1 _ rfl;clear hg;try simp only[Nd.enc_eq]at *
 have hF:=ai @h0 (ai @h1 @zca);apply rS hC
 ·refine oA ?_;rfl
 apply sQ;apply rS hC
 ·refine oA ?_;rfl
 apply bK;refine Tri.loop ?_;refine zsB hC s l [] _ _ (by simpa using hlen) (by simp[hw]) (by simp[h0]) (by simp[h1]) (by simp) ?exit ?ret;case exit=>
  intro t2 H2 hw hr;have h4:True:=trivial;refine zav ?_;apply sN;apply rS hC
  ·refine oA ?_;rfl
  apply Tri.ret;rw[hr];refine zcP (by simp[f42,h4]<;>rfl) (by rfl) ?_;rfl
 case ret=>
  intro t2 H2 hw hr h4;apply bR;apply sR;rw[hr];refine zcP (by simp[f42,h4]<;>rfl) (by rfl) ?_;rfl
def zcK:Bs→Nat
 | []=>0
 |b::l=>if zcR b.toNat=true then zcK l+1 else 0
def zkJ:Bs→Nat
 | []=>0
 |b::l=>if(b==39)=true then zkJ l+1 else 0
theorem zhr:∀l,zcK l≤l.length
 | []=>jDb _
 |b::l=>by
  have:=zhr l;simp only[zcK,jIa];split<;>omega
theorem zqB:∀l,zkJ l≤l.length
 | []=>jDb _
 |b::l=>by
  have:=zqB l;simp only[zkJ,jIa];split<;>omega
def idR (s:Bs)(i:Nat):Nat:=if(!(zf0 (atR s i))&&(atR s i !=95))=true then i else i+zcK (s.drop i)+zkJ (s.drop (i+zcK (s.drop i)))
theorem zhv (d:Bs)(b:UInt8)(r:Bs):(d++b::r)[d.length]? = some b:=by simp
theorem zeQ (d:Bs)(b:UInt8)(r:Bs):∀h,(d++b::r)[d.length]'h=b:=fun h=>by simp
theorem zwm (a b:UInt8):(a==b)=((a.toNat:Int)==(b.toNat:Int)):=by
 by_cases h:a=b
 ·subst h;simp
 ·have:¬(a.toNat:Int)=b.toNat:=fun e=>h (jUd (by omega));rw[jDa.2 h,jDa.2 this]
theorem zh5 {call:zad}(hC:call.Sound prog TT){Q:Out→Prop}:∀(L pre:Bs)(t:Tm)(H:zaa),(pre++L).length<1000000000→t.wid=42→t.get 0=.s (pre++L)→t.get 1=.i .i64 pre.length→(∀b:UInt8,∀H,call 63 [.i .u8 b.toNat] H=.val (.b (zcR b.toNat)) H) →
 (∀(t':Tm)(H':zaa),t'.wid=42→t'.get 0=.s (pre++L)→t'.get 1=.i .i64 ((pre.length+zcK L:Nat):Int)→Q (.exit 0 t' H')) →
 zaM prog TT (sub [tt,tt,ff,ff,ff] (zae f41)) t H Q:=by
 intro L;induction L with
 |nil=>
  intro pre t H hlen hw h0 h1 hcall hE;refine zaM.round' ?_;apply sQ;apply rS hC
  ·iterate 5 refine oA ?_
   iterate 4 refine oC ?_
   refine oA ?_;rfl
  refine cF (by simp[h0,h1]<;>rfl) ?_;refine Tri.exit ?_;refine zaz ?_;refine zay ?_;exact hE _ _ (by simp[hw]) (by simp[h0]) (by simp[h1,zcK])
 |cons b L ih=>
  intro pre t H hlen hw h0 h1 hcall hE;have hlt:=zdV pre.length L.length;have hat:=zhv pre b L;have hat2:=zeQ pre b L;have hq1:∀v,zcR b.toNat=v→∀H,call 63 [.i .u8 b.toNat] H=.val (.b v) H:=fun v e H=>by rw[←e];exact hcall b H
  cases hq2:zcR b.toNat with
  |true=>
   have hq:=hq1 _ hq2;have hF:=ai @h0 (ai @h1 (ai @hlt (ai @hat (ai @hat2 @hq))));refine zaM.round' ?_;apply sQ;apply rS hC
   ·iterate 5 refine oA ?_
    iterate 4 refine oB ?_
    refine oA ?_;rfl
   refine cT (by simp[hF]<;>rfl) ?_;apply Tri.skip;apply sN;apply bK;apply rN hC
   ·iterate 3 refine oA ?_
    rfl
   apply bN;refine zaq ?_;refine ih (pre++[b]) _ _ (by simpa using hlen) (by simp[hw]) (by simp[h0]) (by simp;exact zaj (by omega) (by simp at hlen;omega)) hcall (fun t' H' k1 k2 k3=>hE t' H' k1 (by simpa using k2) (by rw[k3];simp[zcK,hq2,Int.add_assoc,Int.add_comm,Int.add_left_comm]))
  |false=>
   have hq:=hq1 _ hq2;have hF:=ai @h0 (ai @h1 (ai @hlt (ai @hat (ai @hat2 @hq))));refine zaM.round' ?_;apply sQ;apply rS hC
   ·iterate 5 refine oA ?_
    iterate 4 refine oB ?_
    refine oA ?_;rfl
   refine cF (by simp[hF]<;>rfl) ?_;refine Tri.exit ?_;refine zaz ?_;refine zay ?_;exact hE _ _ (by simp[hw]) (by simp[h0]) (by simp[h1,zcK,hq2])
theorem zh6 {call:zad}(hC:call.Sound prog TT){Q:Out→Prop}:∀(L pre:Bs)(t:Tm)(H:zaa),(pre++L).length<1000000000→t.wid=42→t.get 0=.s (pre++L)→t.get 1=.i .i64 pre.length →
 (∀(t':Tm)(H':zaa),t'.wid=42→t'.get 0=.s (pre++L)→t'.get 1=.i .i64 ((pre.length+zkJ L:Nat):Int)→Q (.exit 2 t' H')) →
 zaM prog TT (sub [tt,tt,tt,ff,ff,ff] (zae f41)) t H Q:=by
 intro L;induction L with
 |nil=>
  intro pre t H hlen hw h0 h1 hE;refine zaM.round' ?_;apply sQ;apply rS hC
  ·iterate 5 refine oA ?_
   iterate 4 refine oC ?_
   refine oA ?_;rfl
  refine cF (by simp[h0,h1]<;>rfl) ?_;refine Tri.exit ?_;refine zaz ?_;refine zay ?_;exact hE _ _ (by simp[hw]) (by simp[h0]) (by simp[h1,zkJ])
 |cons b L ih=>
  intro pre t H hlen hw h0 h1 hE;have hlt:=zdV pre.length L.length;have hat:=zhv pre b L;have hat2:=zeQ pre b L;have hq1:∀v,(b==39)=v→(((b.toNat:Int)==39)=v):=fun v e=>by rw[←e,zwm b 39];rfl
  cases hq2:(b==39)with
  |true=>
   have hq:=hq1 _ hq2;have hF:=ai @h0 (ai @h1 (ai @hlt (ai @hat (ai @hat2 @hq))));refine zaM.round' ?_;apply sQ;apply rS hC
   ·iterate 5 refine oA ?_
    iterate 4 refine oB ?_
    refine oA ?_;rfl
   refine cT (by simp[hF]<;>rfl) ?_;apply Tri.skip;apply sN;apply bK;apply rN hC
   ·iterate 3 refine oA ?_
    rfl
   apply bN;refine zaq ?_;refine ih (pre++[b]) _ _ (by simpa using hlen) (by simp[hw]) (by simp[h0]) (by simp;exact zaj (by omega) (by simp at hlen;omega)) (fun t' H' k1 k2 k3=>hE t' H' k1 (by simpa using k2) (by rw[k3];simp[zkJ,hq2,Int.add_assoc,Int.add_comm,Int.add_left_comm]))
  |false=>
   have hq:=hq1 _ hq2;have hF:=ai @h0 (ai @h1 (ai @hlt (ai @hat (ai @hat2 @hq))));refine zaM.round' ?_;apply sQ;apply rS hC
   ·iterate 5 refine oA ?_
    iterate 4 refine oB ?_
    refine oA ?_;rfl
   refine cF (by simp[hF]<;>rfl) ?_;refine Tri.exit ?_;refine zaz ?_;refine zay ?_;exact hE _ _ (by simp[hw]) (by simp[h0]) (by simp[h1,zkJ,hq2])

end Go.Ev
namespace Go.Proofs
def Tryz.lays196_ren:Go.Shelf.Ren:=⟨fun|196=>36|259=>66|n=>n,fun|9=>9|4=>4|3=>3|5=>5|12=>12|119=>99|0=>0|46=>72|139=>102|138=>101|53=>119|n=>n,fun|3=>1|4=>2|n=>n⟩
theorem Tryz.lays196:Go.Proofs.Lays.n196 Tryz.prog Tryz.lays196_ren:={
 mixed:=by kernel_rfl
 f196:=Tryz.func36.trans (congrArg some (by kernel_rfl))
 f259:=Tryz.func66.trans (congrArg some (by kernel_rfl))
 t0:=Tryz.underlying0
 a0:=Tryz.isAgg0
 z0:=Tryz.sizeOf0
 v0:=Tryz.zeroValue0
 t3:=Tryz.underlying3
 a3:=Tryz.isAgg3
 z3:=Tryz.sizeOf3
 v3:=Tryz.zeroValue3
 t4:=Tryz.underlying4
 a4:=Tryz.isAgg4
 z4:=Tryz.sizeOf4
 v4:=Tryz.zeroValue4
 t5:=Tryz.underlying5
 a5:=Tryz.isAgg5
 z5:=Tryz.sizeOf5
 v5:=Tryz.zeroValue5
 t9:=Tryz.underlying9
 a9:=Tryz.isAgg9
 z9:=Tryz.sizeOf9
 v9:=Tryz.zeroValue9
 t12:=Tryz.underlying12
 a12:=Tryz.isAgg12
 z12:=Tryz.sizeOf12
 v12:=Tryz.zeroValue12
 t46:=Tryz.underlying72
 a46:=Tryz.isAgg72
 z46:=Tryz.sizeOf72
 v46:=Tryz.zeroValue72
 t53:=Tryz.underlying119
 a53:=Tryz.isAgg119
 z53:=Tryz.sizeOf119
 v53:=Tryz.zeroValue119
 t119:=Tryz.underlying99
 a119:=Tryz.isAgg99
 z119:=Tryz.sizeOf99
 t138:=Tryz.underlying101
 a138:=Tryz.isAgg101
 z138:=Tryz.sizeOf101
 v138:=Tryz.zeroValue101
 t139:=Tryz.underlying102
 a139:=Tryz.isAgg102
 z139:=Tryz.sizeOf102
 v139:=Tryz.zeroValue102
 g3:=by kernel_rfl
 g4:=by kernel_rfl}
def Tryz.lays143_ren:Go.Shelf.Ren:=⟨fun|143=>35|219=>65|217=>87|225=>88|224=>89|267=>90|266=>105|314=>106|n=>n,fun|9=>9|3=>3|4=>4|5=>5|46=>72|146=>154|51=>125|n=>n,fun|1=>4|n=>n⟩
theorem Tryz.lays143:Go.Proofs.Lays.n143 Tryz.prog Tryz.lays143_ren:={
 mixed:=by kernel_rfl
 f143:=Tryz.func35.trans (congrArg some (by kernel_rfl))
 f217:=Tryz.func87.trans (congrArg some (by kernel_rfl))
 f219:=Tryz.func65.trans (congrArg some (by kernel_rfl))
 f224:=Tryz.func89.trans (congrArg some (by kernel_rfl))
 f225:=Tryz.func88.trans (congrArg some (by kernel_rfl))
 f266:=Tryz.func105.trans (congrArg some (by kernel_rfl))
 f267:=Tryz.func90.trans (congrArg some (by kernel_rfl))
 f314:=Tryz.func106.trans (congrArg some (by kernel_rfl))
 t3:=Tryz.underlying3
 a3:=Tryz.isAgg3
 z3:=Tryz.sizeOf3
 v3:=Tryz.zeroValue3
 t4:=Tryz.underlying4
 a4:=Tryz.isAgg4
 z4:=Tryz.sizeOf4
 v4:=Tryz.zeroValue4
 t5:=Tryz.underlying5
 a5:=Tryz.isAgg5
 z5:=Tryz.sizeOf5
 v5:=Tryz.zeroValue5
 t9:=Tryz.underlying9
 a9:=Tryz.isAgg9
 z9:=Tryz.sizeOf9
 v9:=Tryz.zeroValue9
 t46:=Tryz.underlying72
 a46:=Tryz.isAgg72
 z46:=Tryz.sizeOf72
 v46:=Tryz.zeroValue72
 t51:=Tryz.underlying125
 a51:=Tryz.isAgg125
 z51:=Tryz.sizeOf125
 v51:=Tryz.zeroValue125
 t146:=Tryz.underlying154
 a146:=Tryz.isAgg154
 z146:=Tryz.sizeOf154
 v146:=Tryz.zeroValue154
 g1:=by kernel_rfl}
def Tryz.lays144_ren:Go.Shelf.Ren:=⟨fun|144=>15|143=>35|219=>65|217=>87|225=>88|224=>89|267=>90|266=>105|314=>106|n=>n,fun|9=>9|4=>4|3=>3|5=>5|46=>72|146=>154|51=>125|n=>n,fun|1=>4|n=>n⟩
theorem Tryz.lays144:Go.Proofs.Lays.n144 Tryz.prog Tryz.lays144_ren:={
 mixed:=by kernel_rfl
 f143:=Tryz.func35.trans (congrArg some (by kernel_rfl))
 f144:=Tryz.func15.trans (congrArg some (by kernel_rfl))
 f217:=Tryz.func87.trans (congrArg some (by kernel_rfl))
 f219:=Tryz.func65.trans (congrArg some (by kernel_rfl))
 f224:=Tryz.func89.trans (congrArg some (by kernel_rfl))
 f225:=Tryz.func88.trans (congrArg some (by kernel_rfl))
 f266:=Tryz.func105.trans (congrArg some (by kernel_rfl))
 f267:=Tryz.func90.trans (congrArg some (by kernel_rfl))
 f314:=Tryz.func106.trans (congrArg some (by kernel_rfl))
 t3:=Tryz.underlying3
 a3:=Tryz.isAgg3
 z3:=Tryz.sizeOf3
 v3:=Tryz.zeroValue3
 t4:=Tryz.underlying4
 a4:=Tryz.isAgg4
 z4:=Tryz.sizeOf4
 v4:=Tryz.zeroValue4
 t5:=Tryz.underlying5
 a5:=Tryz.isAgg5
 z5:=Tryz.sizeOf5
 v5:=Tryz.zeroValue5
 t9:=Tryz.underlying9
 a9:=Tryz.isAgg9
 z9:=Tryz.sizeOf9
 v9:=Tryz.zeroValue9
 t46:=Tryz.underlying72
 a46:=Tryz.isAgg72
 z46:=Tryz.sizeOf72
 v46:=Tryz.zeroValue72
 t51:=Tryz.underlying125
 a51:=Tryz.isAgg125
 z51:=Tryz.sizeOf125
 v51:=Tryz.zeroValue125
 t146:=Tryz.underlying154
 a146:=Tryz.isAgg154
 z146:=Tryz.sizeOf154
 v146:=Tryz.zeroValue154
 g1:=by kernel_rfl}
def Tryz.lays138_ren:Go.Shelf.Ren:=⟨fun|138=>188|195=>81|218=>189|143=>35|219=>65|217=>87|225=>88|224=>89|267=>90|266=>105|314=>106|n=>n,fun|9=>9|3=>3|4=>4|5=>5|0=>0|46=>72|146=>154|51=>125|n=>n,fun|1=>4|n=>n⟩
theorem Tryz.lays138:Go.Proofs.Lays.n138 Tryz.prog Tryz.lays138_ren:={
 mixed:=by kernel_rfl
 f138:=Tryz.func188.trans (congrArg some (by kernel_rfl))
 f143:=Tryz.func35.trans (congrArg some (by kernel_rfl))
 f195:=Tryz.func81.trans (congrArg some (by kernel_rfl))
 f217:=Tryz.func87.trans (congrArg some (by kernel_rfl))
 f218:=Tryz.func189.trans (congrArg some (by kernel_rfl))
 f219:=Tryz.func65.trans (congrArg some (by kernel_rfl))
 f224:=Tryz.func89.trans (congrArg some (by kernel_rfl))
 f225:=Tryz.func88.trans (congrArg some (by kernel_rfl))
 f266:=Tryz.func105.trans (congrArg some (by kernel_rfl))
 f267:=Tryz.func90.trans (congrArg some (by kernel_rfl))
 f314:=Tryz.func106.trans (congrArg some (by kernel_rfl))
 t0:=Tryz.underlying0
 a0:=Tryz.isAgg0
 z0:=Tryz.sizeOf0
 v0:=Tryz.zeroValue0
 t3:=Tryz.underlying3
 a3:=Tryz.isAgg3
 z3:=Tryz.sizeOf3
 v3:=Tryz.zeroValue3
 t4:=Tryz.underlying4
 a4:=Tryz.isAgg4
 z4:=Tryz.sizeOf4
 v4:=Tryz.zeroValue4
 t5:=Tryz.underlying5
 a5:=Tryz.isAgg5
 z5:=Tryz.sizeOf5
 v5:=Tryz.zeroValue5
 t9:=Tryz.underlying9
 a9:=Tryz.isAgg9
 z9:=Tryz.sizeOf9
 v9:=Tryz.zeroValue9
 t46:=Tryz.underlying72
 a46:=Tryz.isAgg72
 z46:=Tryz.sizeOf72
 v46:=Tryz.zeroValue72
 t51:=Tryz.underlying125
 a51:=Tryz.isAgg125
 z51:=Tryz.sizeOf125
 v51:=Tryz.zeroValue125
 t146:=Tryz.underlying154
 a146:=Tryz.isAgg154
 z146:=Tryz.sizeOf154
 v146:=Tryz.zeroValue154
 g1:=by kernel_rfl}
end Go.Proofs
namespace Go.Ev
open Go Go.Proofs
open Go.RowKit (Below)
set_option maxRecDepth 100000
theorem zcl {f:FuncId}{fn:Func}{c:Code}(h:TT.func f=some fn)(hb:fn.body=some c):Enters Tryz.prog f:=(zaf.func f fn c h hb).2
theorem zvv {M:Mem}{ρ:Ren}{s:List UInt8}{args:List Value}(h:relL M ρ [.s s] args):args=[.string ⟨s.toArray⟩]:=by
 simp only[relL,rel]at h;obtain⟨x,r,rfl,rfl,rfl⟩:=h;rfl
theorem zxE {M:Mem}{ρ:Ren}{s c:List UInt8}{args:List Value}(h:relL M ρ [.s s,.s c] args):args=[.string ⟨s.toArray⟩,.string ⟨c.toArray⟩]:=by
 simp only[relL,rel]at h;obtain⟨x,r,rfl,rfl,x,r,rfl,rfl,rfl⟩:=h;rfl
def zAA:List V→zaa→OR
 | [.s s,.s c],H=>if s.length<4294967281∧c.length<4294967281∧(c.all fun b=>decide (b.toNat<128))=true then .val (.s (Lib.trimS s c)) H else .no
 |_,_=>.no
def zjG:List V→zaa→OR
 | [.s s],H=>if s.length<4294967281 then .val (.b (Lib.validD s)) H else .no
 |_,_=>.no
theorem ziy {M:Mem}{ρ:Ren}{H:zaa}{w:World}(hS:SR TT M ρ H w):Lib.Utf8Tabs 1 2 w:=by
 constructor
 ·intro c hc;obtain⟨cs,ty,fr,hM,hr⟩:=hS.glob 1 _ rfl;have hw:=hS.frozen _ _ hM;obtain⟨x,hx,hxr⟩:=za2 hr (i:=c) (v:=.i .u8 (Lib.firstT c)) (by simp[hc]);simp only[rel]at hxr;subst hxr;simp[World.cell?,hw,hx]
 ·intro i hi;obtain⟨cs,ty,fr,hM,hr⟩:=hS.glob 2 _ rfl;have hw:=hS.frozen _ _ hM;have key:∀j,j<16→((((List.range 16).map fun i=>[V.i .u8 (Lib.accLo i),V.i .u8 (Lib.accHi i)]).flatten)[2*j]? = some (V.i .u8 (Lib.accLo j))∧(((List.range 16).map fun i=>[V.i .u8 (Lib.accLo i),V.i .u8 (Lib.accHi i)]).flatten)[2*j+1]? = some (V.i .u8 (Lib.accHi j))):=by
   intro j hj;have:j=0∨j=1∨j=2∨j=3∨j=4∨j=5∨j=6∨j=7∨j=8∨j=9∨j=10∨j=11∨j=12∨j=13∨j=14∨j=15:=by omega
   rcases this with rfl|rfl|rfl|rfl|rfl|rfl|rfl|rfl|rfl|rfl|rfl|rfl|rfl|rfl|rfl|rfl<;>exact⟨rfl,rfl⟩
  obtain⟨x,hx,hxr⟩:=za2 hr (key i hi).1;obtain⟨y,hy,hyr⟩:=za2 hr (key i hi).2;simp only[rel]at hxr hyr;subst hxr hyr;exact⟨by simp[World.cell?,hw,hx],by simp[World.cell?,hw,hy]⟩
theorem zAU:zak Tryz.prog TT 36 zjG:=by
 intro vs H r h hne;unfold zjG at h;split at h
 ·rename_i H s;split at h
  ·rename_i hc;subst h;refine⟨zcl (f:=36) rfl rfl,fun M ρ w args hS hr=>?_⟩;rw[zvv hr];refine zbk (x:=.bool (Lib.validD s)) hS ?_ (by simp only[rel]);exact Any.utf8_ValidString Tryz.lays196 ⟨s.toArray⟩ w (by show s.toArray.size≤_;simp;omega) (ziy hS)
  ·exact absurd h.symm hne
 ·exact absurd h.symm hne
end Go.Ev
namespace Go.Ev
open Go Go.Proofs
set_option linter.unusedSimpArgs false
set_option linter.unusedVariables false
set_option linter.unnecessarySimpa false
open Tryz List
set_option maxRecDepth 1000000
theorem zsF {call:zad}(hC:call.Sound prog TT){Q:Out→Prop}:∀(L pre:Bs)(t:Tm)(H:zaa),(pre++L).length<1100000→t.wid=37→t.get 0=.s (pre++L)→t.get 3=.i .i64 pre.length→(∀b:UInt8,∀H,call 73 [.i .u8 b.toNat] H=.val (.b (zcR b.toNat)) H) →
 (∀(t':Tm)(H':zaa),t'.wid=37→t'.get 0=.s (pre++L)→t'.get 3=.i .i64 ((pre.length+zcK L:Nat):Int)→Q (.exit 0 t' H')) →
 zaM prog TT (sub [tt,tt,tt,ff,ff,ff] (zae f49)) t H Q:=by
 intro L;induction L with
 |nil=>
  intro pre t H hlen hw h0 h3 hcall hE;refine zaM.round' ?_;apply sQ;apply rS hC
  ·iterate 5 refine oA ?_
   iterate 4 refine oC ?_
   refine oA ?_;rfl
  refine cF (by simp[h0,h3]<;>rfl) ?_;refine Tri.exit ?_;refine zaz ?_;refine zay ?_;exact hE _ _ (by simp[hw]) (by simp[h0]) (by simp[h3,zcK])
 |cons b L ih=>
  intro pre t H hlen hw h0 h3 hcall hE;have hlt:=zdV pre.length L.length;have hat:=zhv pre b L;have hat2:=zeQ pre b L;have hq1:∀v,zcR b.toNat=v→∀H,call 73 [.i .u8 b.toNat] H=.val (.b v) H:=fun v e H=>by rw[←e];exact hcall b H
  cases hq2:zcR b.toNat with
  |true=>
   have hq:=hq1 _ hq2;have hF:=ai @h0 (ai @h3 (ai @hlt (ai @hat (ai @hat2 @hq))));refine zaM.round' ?_;apply sQ;apply rS hC
   ·iterate 5 refine oA ?_
    iterate 4 refine oB ?_
    refine oA ?_;rfl
   refine cT (by simp[hF]<;>rfl) ?_;apply Tri.skip;apply sN;apply bK;apply rN hC
   ·iterate 3 refine oA ?_
    rfl
   apply bN;refine zaq ?_;refine ih (pre++[b]) _ _ (by simpa using hlen) (by simp[hw]) (by simp[h0]) (by simp;exact zaj (by omega) (by simp at hlen;omega)) hcall (fun t' H' k1 k2 k3=>hE t' H' k1 (by simpa using k2) (by rw[k3];simp[zcK,hq2,Int.add_assoc,Int.add_comm,Int.add_left_comm]))
  |false=>
   have hq:=hq1 _ hq2;have hF:=ai @h0 (ai @h3 (ai @hlt (ai @hat (ai @hat2 @hq))));refine zaM.round' ?_;apply sQ;apply rS hC
   ·iterate 5 refine oA ?_
    iterate 4 refine oB ?_
    refine oA ?_;rfl
   refine cF (by simp[hF]<;>rfl) ?_;refine Tri.exit ?_;refine zaz ?_;refine zay ?_;exact hE _ _ (by simp[hw]) (by simp[h0]) (by simp[h3,zcK,hq2])
theorem zsG {call:zad}(hC:call.Sound prog TT){Q:Out→Prop}:∀(L pre:Bs)(t:Tm)(H:zaa),(pre++L).length<1100000→t.wid=37→t.get 0=.s (pre++L)→t.get 3=.i .i64 pre.length →
 (∀(t':Tm)(H':zaa),t'.wid=37→t'.get 0=.s (pre++L)→t'.get 3=.i .i64 ((pre.length+zkJ L:Nat):Int)→Q (.exit 2 t' H')) →
 zaM prog TT (sub [tt,tt,tt,tt,ff,ff,ff] (zae f49)) t H Q:=by
 intro L;induction L with
 |nil=>
  intro pre t H hlen hw h0 h3 hE;refine zaM.round' ?_;apply sQ;apply rS hC
  ·iterate 5 refine oA ?_
   iterate 4 refine oC ?_
   refine oA ?_;rfl
  refine cF (by simp[h0,h3]<;>rfl) ?_;refine Tri.exit ?_;refine zaz ?_;refine zay ?_;exact hE _ _ (by simp[hw]) (by simp[h0]) (by simp[h3,zkJ])
 |cons b L ih=>
  intro pre t H hlen hw h0 h3 hE;have hlt:=zdV pre.length L.length;have hat:=zhv pre b L;have hat2:=zeQ pre b L;have hq1:∀v,(b==39)=v→(((b.toNat:Int)==39)=v):=fun v e=>by rw[←e,zwm b 39];rfl
  cases hq2:(b==39)with
  |true=>
   have hq:=hq1 _ hq2;have hF:=ai @h0 (ai @h3 (ai @hlt (ai @hat (ai @hat2 @hq))));refine zaM.round' ?_;apply sQ;apply rS hC
   ·iterate 5 refine oA ?_
    iterate 4 refine oB ?_
    refine oA ?_;rfl
   refine cT (by simp[hF]<;>rfl) ?_;apply Tri.skip;apply sN;apply bK;apply rN hC
   ·iterate 3 refine oA ?_
    rfl
   apply bN;refine zaq ?_;refine ih (pre++[b]) _ _ (by simpa using hlen) (by simp[hw]) (by simp[h0]) (by simp;exact zaj (by omega) (by simp at hlen;omega)) (fun t' H' k1 k2 k3=>hE t' H' k1 (by simpa using k2) (by rw[k3];simp[zkJ,hq2,Int.add_assoc,Int.add_comm,Int.add_left_comm]))
  |false=>
   have hq:=hq1 _ hq2;have hF:=ai @h0 (ai @h3 (ai @hlt (ai @hat (ai @hat2 @hq))));refine zaM.round' ?_;apply sQ;apply rS hC
   ·iterate 5 refine oA ?_
    iterate 4 refine oB ?_
    refine oA ?_;rfl
   refine cF (by simp[hF]<;>rfl) ?_;refine Tri.exit ?_;refine zaz ?_;refine zay ?_;exact hE _ _ (by simp[hw]) (by simp[h0]) (by simp[h3,zkJ,hq2])
theorem zpg {call:zad}(hC:call.Sound prog TT)   : zaV prog TT 49 [.s []] (fun r=>r=.val (.i .i64 0)):=by
 refine en f49 rfl rfl (by simp[f49]) 37 rfl fun t hw hg=>?_;have h0:=hg 0 _ rfl;clear hg;try simp only[Nd.enc_eq]at *
 apply rS hC
 ·refine oA ?_;rfl
 apply sQ;apply rS hC
 ·iterate 3 refine oA ?_
  iterate 4 refine oC ?_
  refine oA ?_;rfl
 refine cT (by simp[h0]<;>rfl) ?_;apply rS hC
 ·refine oA ?_;rfl
 apply Tri.ret;apply sR;refine zcP (by simp[f49]<;>rfl) (by rfl) ?_;rfl
theorem zpf {call:zad}(hC:call.Sound prog TT)(c:UInt8)(r:Bs)(hs:∀H,call 72 [.i .u8 c.toNat] H=.val (.b false) H)  : zaV prog TT 49 [.s (c::r)] (fun r=>r=.val (.i .i64 0)):=by
 refine en f49 rfl rfl (by simp[f49]) 37 rfl fun t hw hg=>?_;have h0:=hg 0 _ rfl;clear hg;try simp only[Nd.enc_eq]at *
 apply rS hC
 ·refine oA ?_;rfl
 apply sQ;apply rS hC
 ·iterate 3 refine oA ?_
  iterate 4 refine oB ?_
  refine oA ?_;rfl
 refine cT (by simp[h0,hs]<;>rfl) ?_;apply rS hC
 ·refine oA ?_;rfl
 apply Tri.ret;apply sR;refine zcP (by simp[f49]<;>rfl) (by rfl) ?_;rfl
theorem zph {call:zad}(hC:call.Sound prog TT)(c:UInt8)(L:Bs)(hlen:([c]++L).length<1100000)(hcall:∀b:UInt8,∀H,call 73 [.i .u8 b.toNat] H=.val (.b (zcR b.toNat)) H)(hs:∀H,call 72 [.i .u8 c.toNat] H=.val (.b true) H)  : zaV prog TT 49 [.s ([c]++L)] (fun r=>r=.val (.i .i64 ((1+zcK L+zkJ (L.drop (zcK L)):Nat):Int))):=by
 refine en f49 rfl rfl (by simp[f49]) 37 rfl fun t hw hg=>?_;have h0:=hg 0 _ rfl;clear hg;try simp only[Nd.enc_eq]at *
 apply rS hC
 ·refine oA ?_;rfl
 apply sQ;apply rS hC
 ·iterate 3 refine oA ?_
  iterate 4 refine oB ?_
  refine oA ?_;rfl
 refine cF (by simp[h0,hs]<;>rfl) ?_;apply Tri.skip;apply sN;apply rS hC
 ·refine oA ?_;rfl
 apply sQ;apply bK;refine Tri.loop ?_;refine zsF hC L [c] _ _ hlen (by simp[hw]) (by simp[h0]) (by simp) hcall ?exit;case exit=>
  intro t2 H2 hw h0 h3;refine zav ?_;apply sN;apply sQ;apply bK;refine Tri.loop ?_;have eL:[c]++L=([c]++L.take (zcK L))++L.drop (zcK L):=by rw[jEb,jFd]
  have el:([c]++L.take (zcK L)).length=1+zcK L:=by
   have:=zhr L;simp;omega
  refine zsG hC (L.drop (zcK L)) ([c]++L.take (zcK L)) _ _ (by rw[←eL];exact hlen) (by simp[hw]) (by rw[←eL];simp[h0]) (by rw[el];simp[h3]) ?exit2;case exit2=>
   intro t3 H3 hw h0 h3;rw[el]at h3;refine zav ?_;apply sN;apply rS hC
   ·iterate 2 refine oA ?_
    rfl
   apply Tri.ret;refine zcP (by simp[f49,h3]<;>rfl) (by rfl) ?_;simp
def zbb:zaa:=[some {ty:=52,cells:=[.s [97,99,116,111,114],.b true,.s [97,110,100],.b true,.s [97,115],.b true,.s [98,101],.b true,.s [98,111,120],.b true,.s [98,114,101,97,107],.b true,.s [99,108,97,115,115],.b true,.s [99,111,110,115,117,109,101],.b true,.s [99,111,110,116,105,110,117,101],.b true,.s [100,111],.b true,.s [101,108,115,101],.b true,.s [101,108,115,101,105,102],.b true,.s [101,110,100],.b true,.s [101,114,114,111,114],.b true,.s [102,97,108,115,101],.b true,.s [102,111,114],.b true,.s [102,117,110],.b true,.s [105,102],.b true,.s [105,102,100,101,102],.b true,.s [105,110],.b true,.s [105,110,116,101,114,102,97,99,101],.b true,.s [105,115],.b true,.s [105,115,110,116],.b true,.s [105,115,111],.b true,.s [108,101,116],.b true,.s [109,97,116,99,104],.b true,.s [110,101,119],.b true,.s [110,111,116],.b true,.s [111,98,106,101,99,116],.b true,.s [111,114],.b true,.s [112,114,105,109,105,116,105,118,101],.b true,.s [114,101,99,111,118,101,114],.b true,.s [114,101,102],.b true,.s [114,101,112,101,97,116],.b true,.s [114,101,116,117,114,110],.b true,.s [116,97,103],.b true,.s [116,104,101,110],.b true,.s [116,104,105,115],.b true,.s [116,114,97,105,116],.b true,.s [116,114,110],.b true,.s [116,114,117,101],.b true,.s [116,114,121],.b true,.s [116,121,112,101],.b true,.s [117,110,116,105,108],.b true,.s [117,115,101],.b true,.s [118,97,108],.b true,.s [118,97,114],.b true,.s [119,104,101,114,101],.b true,.s [119,104,105,108,101],.b true,.s [119,105,116,104],.b true,.s [120,111,114],.b true],kind:=.map},some {ty:=9,cells:=[.s [97,99,116,111,114],.s [97,110,100],.s [97,115],.s [98,101],.s [98,111,120],.s [98,114,101,97,107],.s [99,108,97,115,115],.s [99,111,110,115,117,109,101],.s [99,111,110,116,105,110,117,101],.s [100,111],.s [101,108,115,101],.s [101,108,115,101,105,102],.s [101,110,100],.s [101,114,114,111,114],.s [102,97,108,115,101],.s [102,111,114],.s [102,117,110],.s [105,102],.s [105,102,100,101,102],.s [105,110],.s [105,110,116,101,114,102,97,99,101],.s [105,115],.s [105,115,110,116],.s [105,115,111],.s [108,101,116],.s [109,97,116,99,104],.s [110,101,119],.s [110,111,116],.s [111,98,106,101,99,116],.s [111,114],.s [112,114,105,109,105,116,105,118,101],.s [114,101,99,111,118,101,114],.s [114,101,102],.s [114,101,112,101,97,116],.s [114,101,116,117,114,110],.s [116,97,103],.s [116,104,101,110],.s [116,104,105,115],.s [116,114,97,105,116],.s [116,114,110],.s [116,114,117,101],.s [116,114,121],.s [116,121,112,101],.s [117,110,116,105,108],.s [117,115,101],.s [118,97,108],.s [118,97,114],.s [119,104,101,114,101],.s [119,104,105,108,101],.s [119,105,116,104],.s [120,111,114]],kind:=.all}]
theorem zfY:zcw TT (zeu Con.none) 3000 29 [] []=.val (.mp 0) zbb:=by kernel_rfl
def ziv:List V→zaa→OR
 | [],[]=>.val (.mp 0) zbb
 |_,_=>.no
theorem zAX:zak prog TT 29 ziv:=by
 intro vs H r h hne;unfold ziv at h;split at h
 ·subst h;exact ze1 zaf Con.none_sound 3000 29 [] [] _ zfY hne
 ·exact absurd h.symm hne
theorem zd1 (s:Bs):∀ws:List (Bs),zcX (some .string) (.s s) ((ws.map fun w=>[V.s w,V.b true]).flatten)=some (if ws.contains s then some (.b true)else none)
 | []=>rfl
 |w::ws=>by
  simp only[jJb,flatten_cons,jEa,jFa,zcX,zd2];by_cases h:s=w
  ·subst h;simp
  ·have ih:=zd1 s ws;have h2:(s==w)=false:=jDa.2 h;simp[h,h2,ih]
def zdX:List (Bs):=[[97,99,116,111,114],[97,110,100],[97,115],[98,101],[98,111,120],[98,114,101,97,107],[99,108,97,115,115],[99,111,110,115,117,109,101],[99,111,110,116,105,110,117,101],[100,111],[101,108,115,101],[101,108,115,101,105,102],[101,110,100],[101,114,114,111,114],[102,97,108,115,101],[102,111,114],[102,117,110],[105,102],[105,102,100,101,102],[105,110],[105,110,116,101,114,102,97,99,101],[105,115],[105,115,110,116],[105,115,111],[108,101,116],[109,97,116,99,104],[110,101,119],[110,111,116],[111,98,106,101,99,116],[111,114],[112,114,105,109,105,116,105,118,101],[114,101,99,111,118,101,114],[114,101,102],[114,101,112,101,97,116],[114,101,116,117,114,110],[116,97,103],[116,104,101,110],[116,104,105,115],[116,114,97,105,116],[116,114,110],[116,114,117,101],[116,114,121],[116,121,112,101],[117,110,116,105,108],[117,115,101],[118,97,108],[118,97,114],[119,104,101,114,101],[119,104,105,108,101],[119,105,116,104],[120,111,114]]
def kw (s:Bs):Bool:=zdX.contains s
theorem zp6 (s:Bs):zbm TT 52 (.mp 0) (.s s) false zbb=some (.b (kw s)):=by
 have h1:zdL zbb 0=some ⟨52,(zdX.map fun w=>[V.s w,V.b true]).flatten,.map⟩:=rfl;simp only[zbm,tU,Tryz.underlying52,h1,tU,Tryz.underlying9,zcG,if_true,zd1,kw];cases zdX.contains s<;>simp
theorem zur {call:zad}(hC:call.Sound prog TT)(s:Bs)(n:Int)(hs:∀H,call 49 [.s s] H=.val (.i .i64 n) H)(hk:call 29 [] []=.val (.mp 0) zbb)(hlk:zbm TT 52 (.mp 0) (.s s) false zbb=some (.b (kw s)))  : zjT prog TT 40 [.s s] (.val (.b ((!s.isEmpty)&&(n==s.length) && !kw s))):=by
 refine en f40 rfl rfl (by simp[f40]) 18 rfl fun t hw hg=>?_;have h0:=hg 0 _ rfl;clear hg;try simp only[Nd.enc_eq]at *
 apply rS hC
 ·refine oA ?_;rfl
 apply sQ;cases hB1:(!s.isEmpty:Bool);case false=>
  apply rN hC
  ·iterate 3 refine oA ?_
   iterate 5 refine oC ?_
   iterate 2 refine oA ?_
   iterate 4 refine oC ?_
   iterate 2 refine oA ?_
   rfl
  apply sN;apply Tri.ret;simp[zf3,f40,h0,hs,hk,hlk,hB1]
 case true=>
  cases hB2:(n==(s.length:Int):Bool);case false=>
   apply rN hC
   ·iterate 3 refine oA ?_
    iterate 5 refine oB ?_
    iterate 2 refine oA ?_
    iterate 4 refine oC ?_
    iterate 2 refine oA ?_
    rfl
   apply sN;apply Tri.ret;simp[zf3,f40,h0,hs,hk,hlk,hB1,hB2]
  case true=>
   apply rN hC
   ·iterate 3 refine oA ?_
    iterate 5 refine oB ?_
    iterate 2 refine oA ?_
    iterate 4 refine oB ?_
    iterate 2 refine oA ?_
    rfl
   apply sN;apply Tri.ret;simp[zf3,f40,h0,hs,hk,hlk,hB1,hB2]
end Go.Ev
