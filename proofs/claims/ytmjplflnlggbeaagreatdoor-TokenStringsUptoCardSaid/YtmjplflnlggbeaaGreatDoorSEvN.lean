/- What the tables say of each type. Which equations the walks are reckoned with. Trees as values: the tree of a node, its size, its depth. Facts of functions that return a number or a truth. Triples for loops over functions, facts of functions on heaps, regions that draw their order and turn the heap. Regions whose order is drawn, of which one operation panics. Deferred calls: the rules for a function that defers. Outcomes that hang on the world. -/
import Derived.Test.YtmjplflnlggbeaaGreatDoorSTz
import Derived.Test.YtmjplflnlggbeaaGreatDoorSEvWP
import Derived.Test.YtmjplflnlggbeaaGreatDoorSEvIter4
import Derived.Defers
import Derived.Recover
namespace Go.Ev
open Go Go.Proofs
set_option linter.unusedSimpArgs false
set_option linter.unusedVariables false
set_option maxRecDepth 100000
@[simp] theorem tU (t : TypeId) : TT.und t = Tryz.prog.underlying t := rfl
attribute [simp] Tryz.underlying0 Tryz.underlying1 Tryz.underlying2 Tryz.underlying3 Tryz.underlying4 Tryz.underlying5 Tryz.underlying6 Tryz.underlying7 Tryz.underlying8 Tryz.underlying9 Tryz.underlying10 Tryz.underlying11 Tryz.underlying12 Tryz.underlying13 Tryz.underlying14 Tryz.underlying15 Tryz.underlying16 Tryz.underlying17 Tryz.underlying18 Tryz.underlying19 Tryz.underlying20 Tryz.underlying21 Tryz.underlying22 Tryz.underlying23 Tryz.underlying24 Tryz.underlying25 Tryz.underlying26 Tryz.underlying27 Tryz.underlying28 Tryz.underlying29 Tryz.underlying30 Tryz.underlying31 Tryz.underlying32 Tryz.underlying33 Tryz.underlying34 Tryz.underlying35 Tryz.underlying36 Tryz.underlying37 Tryz.underlying38 Tryz.underlying39 Tryz.underlying40 Tryz.underlying41 Tryz.underlying42 Tryz.underlying43 Tryz.underlying44 Tryz.underlying45 Tryz.underlying46 Tryz.underlying47 Tryz.underlying48 Tryz.underlying49 Tryz.underlying50 Tryz.underlying51 Tryz.underlying52 Tryz.underlying53 Tryz.underlying54 Tryz.underlying55 Tryz.underlying56 Tryz.underlying57 Tryz.underlying58 Tryz.underlying59 Tryz.underlying60 Tryz.underlying61 Tryz.underlying62 Tryz.underlying63 Tryz.underlying64 Tryz.underlying65 Tryz.underlying66 Tryz.underlying67 Tryz.underlying68 Tryz.underlying69 Tryz.underlying70 Tryz.underlying71 Tryz.underlying72 Tryz.underlying73 Tryz.underlying74 Tryz.underlying75 Tryz.underlying76 Tryz.underlying77 Tryz.underlying78 Tryz.underlying79 Tryz.underlying80 Tryz.underlying81 Tryz.underlying82 Tryz.underlying83 Tryz.underlying84 Tryz.underlying85 Tryz.underlying86 Tryz.underlying87 Tryz.underlying88 Tryz.underlying89 Tryz.underlying90 Tryz.underlying91 Tryz.underlying92 Tryz.underlying93 Tryz.underlying94 Tryz.underlying95 Tryz.underlying96 Tryz.underlying97 Tryz.underlying98 Tryz.underlying99 Tryz.underlying100 Tryz.underlying101 Tryz.underlying102 Tryz.underlying103 Tryz.underlying104 Tryz.underlying105 Tryz.underlying106 Tryz.underlying107 Tryz.underlying108 Tryz.underlying109 Tryz.underlying110 Tryz.underlying111 Tryz.underlying112 Tryz.underlying113 Tryz.underlying114 Tryz.underlying115 Tryz.underlying116 Tryz.underlying117 Tryz.underlying118 Tryz.underlying119 Tryz.underlying120 Tryz.underlying121 Tryz.underlying122 Tryz.underlying123 Tryz.underlying124 Tryz.underlying125 Tryz.underlying126 Tryz.underlying127 Tryz.underlying128 Tryz.underlying129 Tryz.underlying130 Tryz.underlying131 Tryz.underlying132 Tryz.underlying133 Tryz.underlying134 Tryz.underlying135 Tryz.underlying136 Tryz.underlying137 Tryz.underlying138 Tryz.underlying139 Tryz.underlying140 Tryz.underlying141 Tryz.underlying142 Tryz.underlying143 Tryz.underlying144 Tryz.underlying145 Tryz.underlying146 Tryz.underlying147 Tryz.underlying148 Tryz.underlying149 Tryz.underlying150 Tryz.underlying151 Tryz.underlying152 Tryz.underlying153 Tryz.underlying154 Tryz.underlying155 Tryz.underlying156 Tryz.underlying157 Tryz.underlying158 Tryz.underlying159 Tryz.underlying160 Tryz.underlying161 Tryz.underlying162 Tryz.underlying163 Tryz.underlying164 Tryz.underlying165 Tryz.underlying166 Tryz.underlying167 Tryz.underlying168 Tryz.underlying169 Tryz.underlying170 Tryz.underlying171 Tryz.underlying172 Tryz.underlying173 Tryz.underlying174 Tryz.underlying175 Tryz.underlying176 Tryz.underlying177 Tryz.underlying178 Tryz.underlying179 Tryz.underlying180 Tryz.underlying181 Tryz.underlying182 Tryz.underlying183 Tryz.underlying184 Tryz.underlying185 Tryz.underlying186 Tryz.underlying187 Tryz.underlying188 Tryz.underlying189 Tryz.underlying190 Tryz.underlying191 Tryz.underlying192 Tryz.underlying193 Tryz.underlying194 Tryz.underlying195 Tryz.underlying196 Tryz.underlying197 Tryz.underlying198 Tryz.underlying199 Tryz.underlying200 Tryz.underlying201 Tryz.underlying202 Tryz.underlying203 Tryz.underlying204 Tryz.underlying205 Tryz.underlying206 Tryz.underlying207 Tryz.underlying208 Tryz.underlying209 Tryz.underlying210 Tryz.underlying211 Tryz.underlying212 Tryz.underlying213 Tryz.underlying214 Tryz.underlying215 Tryz.underlying216 Tryz.underlying217 Tryz.underlying218 Tryz.underlying219 Tryz.underlying220 Tryz.underlying221 Tryz.underlying222 Tryz.underlying223 Tryz.underlying224 Tryz.underlying225 Tryz.underlying226 Tryz.underlying227 Tryz.underlying228 Tryz.underlying229 Tryz.underlying230 Tryz.underlying231 Tryz.underlying232 Tryz.underlying233 Tryz.underlying234 Tryz.underlying235 Tryz.underlying236 Tryz.underlying237 Tryz.underlying238 Tryz.underlying239 Tryz.underlying240 Tryz.underlying241 Tryz.underlying242 Tryz.underlying243 Tryz.underlying244 Tryz.underlying245 Tryz.underlying246 Tryz.underlying247 Tryz.underlying248 Tryz.underlying249 Tryz.underlying250 Tryz.underlying251 Tryz.underlying252 Tryz.underlying253 Tryz.underlying254 Tryz.underlying255 Tryz.underlying256 Tryz.underlying257 Tryz.underlying258 Tryz.underlying259
@[simp] theorem tS3 : TT.size 3 = some 1 := rfl
@[simp] theorem tB3 : TT.bytes 3 = some 8 := rfl
@[simp] theorem tZ3 : TT.zero 3 = some (.i .i64 0) := rfl
@[simp] theorem tS4 : TT.size 4 = some 1 := rfl
@[simp] theorem tB4 : TT.bytes 4 = some 1 := rfl
@[simp] theorem tZ4 : TT.zero 4 = some (.b false) := rfl
@[simp] theorem tS5 : TT.size 5 = some 1 := rfl
@[simp] theorem tB5 : TT.bytes 5 = some 1 := rfl
@[simp] theorem tZ5 : TT.zero 5 = some (.i .u8 0) := rfl
@[simp] theorem tS7 : TT.size 7 = some 4 := rfl
@[simp] theorem tS8 : TT.size 8 = some 4 := rfl
@[simp] theorem tS9 : TT.size 9 = some 1 := rfl
@[simp] theorem tB9 : TT.bytes 9 = some 16 := rfl
@[simp] theorem tZ9 : TT.zero 9 = some (.s []) := rfl
@[simp] theorem tS13 : TT.size 13 = some 2 := rfl
@[simp] theorem tS14 : TT.size 14 = some 2 := rfl
@[simp] theorem tS22 : TT.size 22 = some 1 := rfl
@[simp] theorem tB22 : TT.bytes 22 = some 8 := rfl
@[simp] theorem tZ22 : TT.zero 22 = some (.nilf) := rfl
@[simp] theorem tS24 : TT.size 24 = some 1 := rfl
@[simp] theorem tB24 : TT.bytes 24 = some 8 := rfl
@[simp] theorem tZ24 : TT.zero 24 = some (.i .i64 0) := rfl
@[simp] theorem tS33 : TT.size 33 = some 4 := rfl
@[simp] theorem tS34 : TT.size 34 = some 4 := rfl
@[simp] theorem tS44 : TT.size 44 = some 4 := rfl
@[simp] theorem tS49 : TT.size 49 = some 2 := rfl
@[simp] theorem tS50 : TT.size 50 = some 2 := rfl
@[simp] theorem tS54 : TT.size 54 = some 4 := rfl
@[simp] theorem tS55 : TT.size 55 = some 4 := rfl
@[simp] theorem tS65 : TT.size 65 = some 2 := rfl
@[simp] theorem tS66 : TT.size 66 = some 2 := rfl
@[simp] theorem tS77 : TT.size 77 = some 43 := rfl
@[simp] theorem tS99 : TT.size 99 = some 256 := rfl
@[simp] theorem tS100 : TT.size 100 = some 2 := rfl
@[simp] theorem tS101 : TT.size 101 = some 2 := rfl
@[simp] theorem tS102 : TT.size 102 = some 32 := rfl
@[simp] theorem tS121 : TT.size 121 = some 1 := rfl
@[simp] theorem tB121 : TT.bytes 121 = some 8 := rfl
@[simp] theorem tZ121 : TT.zero 121 = some (.nilf) := rfl
@[simp] theorem tS123 : TT.size 123 = some 2 := rfl
@[simp] theorem tS124 : TT.size 124 = some 2 := rfl
@[simp] theorem tS125 : TT.size 125 = some 1 := rfl
@[simp] theorem tB125 : TT.bytes 125 = some 4 := rfl
@[simp] theorem tZ125 : TT.zero 125 = some (.i .u32 0) := rfl
@[simp] theorem tS130 : TT.size 130 = some 2 := rfl
@[simp] theorem tS131 : TT.size 131 = some 2 := rfl
@[simp] theorem tS137 : TT.size 137 = some 0 := rfl
@[simp] theorem tS138 : TT.size 138 = some 0 := rfl
@[simp] theorem tS139 : TT.size 139 = some 0 := rfl
@[simp] theorem tS142 : TT.size 142 = some 2 := rfl
@[simp] theorem tS143 : TT.size 143 = some 2 := rfl
@[simp] theorem tS144 : TT.size 144 = some 2 := rfl
@[simp] theorem tS145 : TT.size 145 = some 2 := rfl
@[simp] theorem tS146 : TT.size 146 = some 3 := rfl
@[simp] theorem tS147 : TT.size 147 = some 3 := rfl
@[simp] theorem tS150 : TT.size 150 = some 5 := rfl
@[simp] theorem tS151 : TT.size 151 = some 5 := rfl
@[simp] theorem tS158 : TT.size 158 = some 3 := rfl
@[simp] theorem tS159 : TT.size 159 = some 3 := rfl
@[simp] theorem tS160 : TT.size 160 = some 3 := rfl
@[simp] theorem tS161 : TT.size 161 = some 3 := rfl
@[simp] theorem tS163 : TT.size 163 = some 3 := rfl
@[simp] theorem tS164 : TT.size 164 = some 3 := rfl
@[simp] theorem tS174 : TT.size 174 = some 24 := rfl
@[simp] theorem tS189 : TT.size 189 = some 256 := rfl
@[simp] theorem tS191 : TT.size 191 = some 256 := rfl
@[simp] theorem tS192 : TT.size 192 = some 257 := rfl
@[simp] theorem tS193 : TT.size 193 = some 257 := rfl
@[simp] theorem tS196 : TT.size 196 = some 20 := rfl
@[simp] theorem tS197 : TT.size 197 = some 65 := rfl
@[simp] theorem tS205 : TT.size 205 = some 2 := rfl
@[simp] theorem tS206 : TT.size 206 = some 2 := rfl
@[simp] theorem tS209 : TT.size 209 = some 5 := rfl
@[simp] theorem tS210 : TT.size 210 = some 5 := rfl
@[simp] theorem tS211 : TT.size 211 = some 262 := rfl
@[simp] theorem tS212 : TT.size 212 = some 262 := rfl
@[simp] theorem tS222 : TT.size 222 = some 256 := rfl
@[simp] theorem tS223 : TT.size 223 = some 258 := rfl
@[simp] theorem tS224 : TT.size 224 = some 258 := rfl
@[simp] theorem tS225 : TT.size 225 = some 32 := rfl
@[simp] theorem tS226 : TT.size 226 = some 64 := rfl
@[simp] theorem tS231 : TT.size 231 = some 4 := rfl
@[simp] theorem tS232 : TT.size 232 = some 4 := rfl
@[simp] theorem tS233 : TT.size 233 = some 0 := rfl
@[simp] theorem tS234 : TT.size 234 = some 0 := rfl
@[simp] theorem tS235 : TT.size 235 = some 0 := rfl
@[simp] theorem tS241 : TT.size 241 = some 11 := rfl
@[simp] theorem tS242 : TT.size 242 = some 11 := rfl
attribute [simp] evOp ev1 evs evParts evCall evLen evFieldAddr evField addOff loadA storeA cellsAt pickAt isAggT cut splice evBinO evBin evInt evStr evEqT evEq evUn evConvO evConvH evConv evIndexAddr evIndex evSlice bound lift get_put get_none ofVal ofSc ofScs fSp_eq setK_eq newB_eq setB_eq V.cells flat eqU_eq subU_eq nthU_eq Op.intDiv evBuild fillV placesOf Res.at fits_some fits_none Nat.blt_eq
theorem endsE {fn : Func} {t : Tm} {H : Heap} {x : OR} {v : V} {R : Res → Prop} (hf : finish TT fn t.get H = x) (hx : x = .val v H) (hr : R (.val v)) : ∃ r, R r ∧ Ends TT fn r (.ret t H) :=
  ⟨_, hr, hf.trans hx⟩
theorem endsH {fn : Func} {t : Tm} {H : Heap} {x : OR} {v : V} {R : V → Heap → Prop} (hf : finish TT fn t.get H = x) (hx : x = .val v H) (hr : R v H) : EndsH TT fn R (.ret t H) :=
  ⟨v, hr, hf.trans hx⟩
theorem gO {step : Oper → Env → Heap → OR} {ops : Array Oper} {o : Oper} {r : List Oper} {v : V} {out : Out} {t : Tm} {H H' : Heap} {x : OR} (hs : step o t.get H = x) (h : evSeq step ops r (t.put o.dst v) H' = out) (hw : wants ops o t.get = some true := by exact rfl) (hx : x = .val v H' := by exact rfl) (hf : t.fits o.dst = true := by simp [*]) : evSeq step ops (o :: r) t H = out := evSeq_go hw hs hx hf h
theorem gW {step : Oper → Env → Heap → OR} {ops : Array Oper} {o : Oper} {r : List Oper} {v : V} {out : Out} {t : Tm} {H H' : Heap} {x : OR} (hw : wants ops o t.get = some true) (hs : step o t.get H = x) (h : evSeq step ops r (t.put o.dst v) H' = out) (hx : x = .val v H' := by exact rfl) (hf : t.fits o.dst = true := by simp [*]) : evSeq step ops (o :: r) t H = out := evSeq_go hw hs hx hf h
theorem gF {step : Oper → Env → Heap → OR} {ops : Array Oper} {o : Oper} {r : List Oper} {out : Out} {t : Tm} {H : Heap} (hw : wants ops o t.get = some false) (h : evSeq step ops r (t.put o.dst .un) H = out) (hf : t.fits o.dst = true := by simp [*]) : evSeq step ops (o :: r) t H = out := evSeq_off hw hf h
theorem oA {step : Oper → Env → Heap → OR} {ops : Array Oper} {o : Oper} {r : List Oper} {v : V} {out : Out} {t : Tm} {H H' : Heap} {x : OR} (h : evSeq step ops r (t.put o.dst v) H' = out) (hs : step o t.get H = x := by simp [*] <;> rfl) (hw : wants ops o t.get = some true := by exact rfl) (hx : x = .val v H' := by exact rfl) (hf : t.fits o.dst = true := by simp [*]) : evSeq step ops (o :: r) t H = out := evSeq_go hw hs hx hf h
theorem oB {step : Oper → Env → Heap → OR} {ops : Array Oper} {o : Oper} {r : List Oper} {v : V} {out : Out} {t : Tm} {H H' : Heap} {x : OR} (h : evSeq step ops r (t.put o.dst v) H' = out) (hw : wants ops o t.get = some true := by simp [wants, *]) (hs : step o t.get H = x := by simp [*] <;> rfl) (hx : x = .val v H' := by exact rfl) (hf : t.fits o.dst = true := by simp [*]) : evSeq step ops (o :: r) t H = out := evSeq_go hw hs hx hf h
theorem oC {step : Oper → Env → Heap → OR} {ops : Array Oper} {o : Oper} {r : List Oper} {out : Out} {t : Tm} {H : Heap} (h : evSeq step ops r (t.put o.dst .un) H = out) (hw : wants ops o t.get = some false := by simp [wants, *]) (hf : t.fits o.dst = true := by simp [*]) : evSeq step ops (o :: r) t H = out := evSeq_off hw hf h
theorem rN {call : CallF} (hC : call.Sound Tryz.prog TT) {id : Nat} {ops : Array Oper} {t t' : Tm} {H H' : Heap} {Q : Out → Prop} (he : evSeq (evOp TT call) ops ops.toList t H = .norm t' H') (h : Q (.norm t' H')) : Tri Tryz.prog TT (.region id ops false) t H Q := Tri.regN TT_ok hC (go_false he) h
theorem rS {call : CallF} (hC : call.Sound Tryz.prog TT) {id : Nat} {ops : Array Oper} {c : Code} {t t' : Tm} {H H' : Heap} {Q : Out → Prop} (he : evSeq (evOp TT call) ops ops.toList t H = .norm t' H') (h : Tri Tryz.prog TT c t' H' Q) : Tri Tryz.prog TT (.seq (.region id ops false) c) t H Q := Tri.seq' (rN hC he h)
theorem cT {g : Operand} {x z : Code} {o : Option V} {t : Tm} {H : Heap} {Q : Out → Prop} (hg : ev1 t.get g = o) (h : Tri Tryz.prog TT x t H Q) (ho : o = some (.b true) := by exact rfl) : Tri Tryz.prog TT (.cond g x z) t H Q := Tri.condG hg ho (fun _ => h) (fun e => by cases e)
theorem cF {g : Operand} {x z : Code} {o : Option V} {t : Tm} {H : Heap} {Q : Out → Prop} (hg : ev1 t.get g = o) (h : Tri Tryz.prog TT z t H Q) (ho : o = some (.b false) := by exact rfl) : Tri Tryz.prog TT (.cond g x z) t H Q := Tri.condG hg ho (fun e => by cases e) (fun _ => h)
theorem en {F : FuncId} {vs : List V} {H : Heap} {Q : Func → Out → Prop} (fn : Func) {c : Code} (h1 : TT.func F = some fn) (h2 : fn.body = some c) (h3 : vs.length ≤ fn.ntmps) (n : Nat) (hn : fn.ntmps = n) (hi : ∀ t : Tm, t.wid = n → (∀ i v, vs[i]? = some v → t.get i = v) → Tri Tryz.prog TT c t H (Q fn)) : ∃ fn c, TT.func F = some fn ∧ fn.body = some c ∧ vs.length ≤ fn.ntmps ∧ Tri Tryz.prog TT c (Tm.init fn.ntmps vs) H (Q fn) :=
  ⟨fn, c, h1, h2, h3, hi _ hn fun i v h => by rw [get_init, h]; rfl⟩
attribute [simp] finish evResults evResult
theorem ai {a b : Prop} (x : a) (y : b) : a ∧ b := ⟨x, y⟩
section
variable {P : Program} {T : Tab} {x y : Code} {t : Tm} {H : Heap} {Q : Out → Prop} {id : Nat}
theorem sQ (h : Tri P T x t H (inSeq P T y Q)) : Tri P T (.seq x y) t H Q := Tri.seq' h
theorem sN (h : Tri P T y t H Q) : inSeq P T y Q (.norm t H) := h
theorem sR (h : Q (.ret t H)) : inSeq P T y Q (.ret t H) := h
theorem bK (h : Tri P T x t H (inBlk id Q)) : Tri P T (.block id x) t H Q := Tri.block' h
theorem bN (h : Q (.norm t H)) : inBlk id Q (.norm t H) := h
theorem bR (h : Q (.ret t H)) : inBlk id Q (.ret t H) := h
end
inductive Nd where
  | mk (k : Int) (t : List UInt8) (l : List Nd)
mutual
def Nd.enc : Nd → V
  | .mk k t l => .agg [.i .i64 k, .s t, .isl 3 (Nd.encL l)]
def Nd.encL : List Nd → List V
  | [] => []
  | x :: l => x.enc :: Nd.encL l
end
def Nd.kind : Nd → Int
  | .mk k _ _ => k
def Nd.text : Nd → List UInt8
  | .mk _ t _ => t
def Nd.kids : Nd → List Nd
  | .mk _ _ l => l
theorem Nd.enc_eq (x : Nd) : x.enc = .agg [.i .i64 x.kind, .s x.text, .isl 3 (Nd.encL x.kids)] := by cases x; rfl

mutual
def Nd.num : Nd → Nat
  | .mk _ _ l => Nd.numL l + 1
def Nd.numL : List Nd → Nat
  | [] => 0
  | x :: l => x.num + Nd.numL l
end
mutual
def sz : Nd → Int → Int
  | .mk _ s l, m => szL l m (IntKind.i64.wrap (1 + IntKind.i64.wrap ((s.length : Int) / 300)))
def szL : List Nd → Int → Int → Int
  | [], _, o => o
  | x :: l, m, o => if o > m then o else szL l m (IntKind.i64.wrap (o + sz x (IntKind.i64.wrap (m - o))))
end
theorem fin_len (n m : Nat) : (n : Int) < n + (m + 1) := by omega
def Nd.fit (x : Nd) : Prop := x.num < 1100000
theorem TT_plain : TT.Plain := by
  intro g l h
  simp only [TT] at h
  repeat' (split at h)
  all_goals (cases h; try kernel_rfl)
section
variable {P : Program} {T : Tab}
theorem Body.bool {F : FuncId} {vs : List V} {b : Bool} (h : Body P T F vs (.val (.b b))) : EBody P T F vs (fun r => ∃ b : Bool, r = .val (.b b)) := by
  obtain ⟨fn, c, h1, h2, h3, o, ho, hx⟩ := h
  exact ⟨fn, c, h1, h2, h3, o, ⟨_, ⟨b, rfl⟩, ho⟩, hx⟩
theorem EBody.mono {F : FuncId} {vs : List V} {R R' : Res → Prop} (h : EBody P T F vs R) (hr : ∀ r, R r → R' r) : EBody P T F vs R' := by
  obtain ⟨fn, c, h1, h2, h3, o, ⟨r, k1, k2⟩, hx⟩ := h
  exact ⟨fn, c, h1, h2, h3, o, ⟨r, hr r k1, k2⟩, hx⟩
theorem spec_val (hT : TOk P T) (hp : T.Plain) (F : FuncId) {α : Type} (args : α → List V) (ok : α → Prop) (f : α → V) (hnl : ∀ a, ok a → nlL (args a) = true) (hf : ∀ a, nl (f a) = true) (hinj : ∀ a b, args a = args b → f a = f b) (h : ∀ a, ok a → Body P T F (args a) (.val (f a))) :
    ∃ g, SpecOK P T F g ∧ ∀ a, ok a → ∀ H, g (args a) H = .val (f a) H := by
  obtain ⟨g, hg, hs⟩ := spec_pure hT hp F (fun vs => ∃ a, ok a ∧ vs = args a) (fun vs r => ∃ a, args a = vs ∧ r = .val (f a)) (by
    rintro vs ⟨a, ha, rfl⟩
    refine ⟨hnl a ha, by rintro r ⟨b, _, rfl⟩; exact hf b, (h a ha).ex.mono ?_⟩
    rintro r rfl
    exact ⟨a, rfl, rfl⟩)
  refine ⟨g, hg, fun a ha H => ?_⟩
  obtain ⟨r, ⟨b, e, rfl⟩, hr⟩ := hs (args a) ⟨a, ha, rfl⟩
  rw [hr H, hinj b a e]
  rfl
end
abbrev NT : Nat := 1090000
theorem w_here (call : CallF) (F : FuncId) (g : Spec) : ∀ vs H, call.with F g F vs H = g vs H := fun vs H => CallF.with_here call F g vs H
theorem w_other (call : CallF) (F f : FuncId) (g : Spec) (h : (f == F) = false) : ∀ vs H, call.with F g f vs H = call f vs H := fun vs H => CallF.with_other call g vs H h
theorem n0 : CallF.none.Sound Tryz.prog TT := CallF.none_sound
theorem ws {call : CallF} (hc : call.Sound Tryz.prog TT) {F : FuncId} {g : Spec} (hg : SpecOK Tryz.prog TT F g) : (call.with F g).Sound Tryz.prog TT := CallF.with_sound hc hg
open Go
section
variable {step : Oper → Env → Heap → OR} {ops : Array Oper} {H H1 H2 : Heap}
theorem drawRun_val {o : Oper} {r : List Oper} {t : Tm} {v : V} (hw : wants ops o t.get = some true) (hs : step o t.get H = .val v H) (hf : t.fits o.dst = true) {rs : List Rec} {Hs : List Heap} {tf : Tm}
    (h : drawRun step ops r (t.put o.dst v) H = some (rs, Hs, tf)) : drawRun step ops (o :: r) t H = some (⟨o, t.get, v, true, false⟩ :: rs, Hs, tf) := by
  simp only [drawRun, hw, hs, opened_eq, putK_eq, hf, if_true, h, Heap.beq_refl, Bool.not_true, Bool.and_false, Bool.false_eq_true, if_false]
theorem drawRun_eff {o : Oper} {r : List Oper} {t : Tm} {v : V} (he : isEff o.op = true) (hne : Heap.beq H1 H = false) (hw : wants ops o t.get = some true) (hs : step o t.get H = .val v H1) (hf : t.fits o.dst = true) {rs : List Rec} {Hs : List Heap} {tf : Tm}
    (h : drawRun step ops r (t.put o.dst v) H1 = some (rs, Hs, tf)) : drawRun step ops (o :: r) t H = some (⟨o, t.get, v, true, true⟩ :: rs, H :: Hs, tf) := by
  simp only [drawRun, hw, hs, opened_eq, putK_eq, hf, if_true, h, hne, he, Bool.not_false, Bool.and_true]
end
open Go
inductive DK where
  | q | f | a | e | l
  deriving DecidableEq
def befM (ms : List Nat) (i j : Nat) : Bool := (ms.getD i 0).testBit j
def chkD (ms : List Nat) (ks : List DK) : Bool :=
  (List.range ks.length).all fun i => (List.range ks.length).all fun p => i == p || (ks.getD p .q != .e && ks.getD p .q != .l) || match ks.getD i .q with
    | .e => befM ms i p == decide (p < i) && befM ms p i == decide (i < p)
    | .f => befM ms i p == decide (p < i) && befM ms p i == decide (i < p)
    | .l => befM ms i p == decide (p < i) && befM ms p i == decide (i < p)
    | .a => ks.getD p .q != .l || befM ms p i
    | .q => true
section
variable {step : Oper → Env → Heap → OR} {ops : Array Oper} {A : Heap → Prop}
inductive DR (step : Oper → Env → Heap → OR) (ops : Array Oper) (A : Heap → Prop) : List Oper → List DK → Tm → Heap → Tm → Heap → Prop
  | nil {t : Tm} {H : Heap} : DR step ops A [] [] t H t H
  | off {o : Oper} {r : List Oper} {ks : List DK} {k : DK} {t t' : Tm} {H H' : Heap} (hw : wants ops o t.get = some false) (hf : t.fits o.dst = true) (h : DR step ops A r ks (t.put o.dst .un) H t' H') : DR step ops A (o :: r) (k :: ks) t H t' H'
  | blind {o : Oper} {r : List Oper} {ks : List DK} {k : DK} {t t' : Tm} {H H' : Heap} {x : OR} {v : V} (hl : looks o.op = false) (hw : wants ops o t.get = some true) (hs : step o t.get H = x) (hx : x = .val v H) (hf : t.fits o.dst = true) (h : DR step ops A r ks (t.put o.dst v) H t' H') : DR step ops A (o :: r) (k :: ks) t H t' H'
  | fix {o : Oper} {r : List Oper} {ks : List DK} {t t' : Tm} {H H' : Heap} {x : OR} {v : V} (hw : wants ops o t.get = some true) (hs : step o t.get H = x) (hx : x = .val v H) (hf : t.fits o.dst = true) (h : DR step ops A r ks (t.put o.dst v) H t' H') : DR step ops A (o :: r) (.f :: ks) t H t' H'
  | any {o : Oper} {r : List Oper} {ks : List DK} {t t' : Tm} {H H' : Heap} {x : OR} {v : V} (hw : wants ops o t.get = some true) (hs : step o t.get H = x) (hx : x = .val v H) (hf : t.fits o.dst = true) (ha : ∀ K, A K → step o t.get K = .val v K) (h : DR step ops A r ks (t.put o.dst v) H t' H') : DR step ops A (o :: r) (.a :: ks) t H t' H'
  | eff {o : Oper} {r : List Oper} {ks : List DK} {t t' : Tm} {H H1 H' : Heap} {x : OR} {v : V} (he : isEff o.op = true) (hw : wants ops o t.get = some true) (hs : step o t.get H = x) (hx : x = .val v H1) (hf : t.fits o.dst = true) (hA : A H1) (h : DR step ops A r ks (t.put o.dst v) H1 t' H') : DR step ops A (o :: r) (.e :: ks) t H t' H'
  | last {o : Oper} {t : Tm} {H H1 : Heap} {x : OR} {v : V} (he : isEff o.op = true) (hw : wants ops o t.get = some true) (hs : step o t.get H = x) (hx : x = .val v H1) (hf : t.fits o.dst = true) : DR step ops A [o] [.l] t H (t.put o.dst v) H1
theorem effsFrom_succ : ∀ (rs : List Rec) (k : Nat), effsFrom rs (k + 1) = (effsFrom rs k).map (· + 1)
  | [], _ => rfl
  | r :: rs, k => by
    simp only [effsFrom]
    rw [effsFrom_succ rs (k + 1)]
    cases r.e <;> simp
theorem effs_cons (r : Rec) (rs : List Rec) : effs (r :: rs) = if r.e then 0 :: (effs rs).map (· + 1) else (effs rs).map (· + 1) := by
  simp only [effs, effsFrom]
  rw [effsFrom_succ]
theorem effs_at : ∀ {rs : List Rec} {p : Nat}, p ∈ effs rs → ∃ r, rs[p]? = some r ∧ r.e = true
  | [], p, h => by simp [effs, effsFrom] at h
  | r :: rs, p, h => by
    rw [effs_cons] at h
    have key : p ∈ (effs rs).map (· + 1) → ∃ r', (r :: rs)[p]? = some r' ∧ r'.e = true := fun h => by
      obtain ⟨j, hj, rfl⟩ := List.mem_map.1 h
      obtain ⟨r', h1, h2⟩ := effs_at hj
      exact ⟨r', by simpa using h1, h2⟩
    split at h
    · rename_i he
      rcases List.mem_cons.1 h with rfl | h
      · exact ⟨r, rfl, he⟩
      · exact key h
    · exact key h
def cntE (rs : List Rec) (i : Nat) : Nat := ((effs rs).filter fun p => decide (p < i)).length
theorem cntE_zero (rs : List Rec) : cntE rs 0 = 0 := by simp [cntE]
theorem cntE_succ (r : Rec) (rs : List Rec) (i : Nat) : cntE (r :: rs) (i + 1) = (if r.e then 1 else 0) + cntE rs i := by
  have h : ∀ l : List Nat, ((l.map (· + 1)).filter fun p => decide (p < i + 1)).length = (l.filter fun p => decide (p < i)).length := fun l => by
    induction l with
    | nil => rfl
    | cons x l ih =>
      simp only [List.map_cons, List.filter_cons]
      have : (decide (x + 1 < i + 1)) = decide (x < i) := by simp
      rw [this]
      split <;> simp [ih]
  simp only [cntE, effs_cons]
  cases r.e with
  | true =>
    simp only [if_true]
    rw [List.filter_cons]
    simp only [Nat.zero_lt_succ, decide_true, if_true, List.length_cons, h]
    omega
  | false =>
    simp only [Bool.false_eq_true, if_false, h]
    omega
def GoodR (step : Oper → Env → Heap → OR) (A : Heap → Prop) (ks : List DK) (rs : List Rec) (Hs : List Heap) : Prop :=
  ∀ (i : Nat) (r : Rec), rs[i]? = some r → (r.e = true → ks[i]? = some .e ∨ ks[i]? = some .l) ∧ (r.e = false → looks r.o.op = true → r.w = true →
    (ks[i]? = some .a ∧ ∀ K, A K → step r.o r.t K = .val r.v K) ∨ ((ks[i]? = some .f ∨ ks[i]? = some .e ∨ ks[i]? = some .l) ∧ ∃ K, Hs[cntE rs i]? = some K ∧ step r.o r.t K = .val r.v K))
def AllA (A : Heap → Prop) (ks : List DK) (rs : List Rec) (Hs : List Heap) : Prop :=
  ∀ (q : Nat) (K : Heap), Hs[q]? = some K → A K ∨ (q + 1 = Hs.length ∧ ∃ p, p + 1 = rs.length ∧ ks[p]? = some .l ∧ ∃ r, rs[p]? = some r ∧ r.e = true)
theorem AllA.one {H : Heap} {ks : List DK} {rs : List Rec} (h : A H) : AllA A ks rs [H] := fun q K hq => by
  cases q with
  | zero => simp at hq; subst hq; exact .inl h
  | succ q => simp at hq
theorem AllA.same {k : DK} {ks : List DK} {r : Rec} {rs : List Rec} {Hs : List Heap} (h : AllA A ks rs Hs) : AllA A (k :: ks) (r :: rs) Hs := fun q K hq => by
  rcases h q K hq with h | ⟨h1, p, h2, h3, r', h4, h5⟩
  · exact .inl h
  · exact .inr ⟨h1, p + 1, by simp [h2], by simpa using h3, r', by simpa using h4, h5⟩
theorem AllA.cons {H : Heap} {k : DK} {ks : List DK} {r : Rec} {rs : List Rec} {Hs : List Heap} (h : AllA A ks rs Hs) (hA : A H) : AllA A (k :: ks) (r :: rs) (H :: Hs) := fun q K hq => by
  cases q with
  | zero => simp at hq; subst hq; exact .inl hA
  | succ q =>
    simp at hq
    rcases h q K hq with h | ⟨h1, p, h2, h3, r', h4, h5⟩
    · exact .inl h
    · exact .inr ⟨by simp [h1], p + 1, by simp [h2], by simpa using h3, r', by simpa using h4, h5⟩
theorem GoodR.same {ks : List DK} {k : DK} {rs : List Rec} {Hs : List Heap} {r : Rec} (he : r.e = false) (h : GoodR step A ks rs Hs)
    (hr : looks r.o.op = true → r.w = true → (k = .a ∧ ∀ K, A K → step r.o r.t K = .val r.v K) ∨ ((k = .f ∨ k = .e ∨ k = .l) ∧ ∃ K, Hs[0]? = some K ∧ step r.o r.t K = .val r.v K)) : GoodR step A (k :: ks) (r :: rs) Hs := by
  intro i r' hi
  cases i with
  | zero =>
    simp only [List.getElem?_cons_zero, Option.some.injEq] at hi
    subst hi
    refine ⟨fun h1 => (by rw [he] at h1; cases h1), fun _ h1 h2 => ?_⟩
    rw [cntE_zero]
    simpa using hr h1 h2
  | succ i =>
    simp only [List.getElem?_cons_succ] at hi ⊢
    have := h i r' hi
    rw [cntE_succ, he]
    simpa using this
theorem DR.run : ∀ {l : List Oper} {ks : List DK} {t t' : Tm} {H H' : Heap}, DR step ops A l ks t H t' H' → A H → ∃ rs Hs, drawRun step ops l t H = some (rs, Hs, t') ∧ Hs.getLast? = some H' ∧ Hs.head? = some H ∧ Hs.length = (effs rs).length + 1 ∧ AllA A ks rs Hs ∧ GoodR step A ks rs Hs ∧ rs.length = ks.length
  | _, _, _, _, H, _, .nil, hA => ⟨[], [H], rfl, rfl, rfl, rfl, AllA.one hA, fun i r h => by simp at h, rfl⟩
  | _, _, _, _, H, _, .off (o := o) (r := l) (t := t) (k := k) hw hf h, hA => by
    obtain ⟨rs, Hs, h1, h2, h3, h4, h5, h6, h7⟩ := DR.run h hA
    refine ⟨⟨o, t.get, .un, false, false⟩ :: rs, Hs, ?_, h2, h3, by simpa [effs_cons] using h4, h5.same, GoodR.same rfl h6 fun _ hw => absurd hw (by simp), by simp [h7]⟩
    simp only [drawRun, hw, putK_eq, hf, if_true, h1]
  | _, _, _, _, H, _, .blind (o := o) (r := l) (t := t) (v := v) hl hw hs hx hf h, hA => by
    obtain ⟨rs, Hs, h1, h2, h3, h4, h5, h6, h7⟩ := DR.run h hA
    subst hx
    exact ⟨⟨o, t.get, v, true, false⟩ :: rs, Hs, drawRun_val hw hs hf h1, h2, h3, by simpa [effs_cons] using h4, h5.same, GoodR.same rfl h6 fun h8 => absurd (h8.symm.trans hl) (by simp), by simp [h7]⟩
  | _, _, _, _, H, _, .fix (o := o) (r := l) (t := t) (v := v) hw hs hx hf h, hA => by
    obtain ⟨rs, Hs, h1, h2, h3, h4, h5, h6, h7⟩ := DR.run h hA
    subst hx
    refine ⟨⟨o, t.get, v, true, false⟩ :: rs, Hs, drawRun_val hw hs hf h1, h2, h3, by simpa [effs_cons] using h4, h5.same, GoodR.same rfl h6 fun _ _ => .inr ⟨.inl rfl, H, ?_, hs⟩, by simp [h7]⟩
    rw [← List.head?_eq_getElem?]; exact h3
  | _, _, _, _, H, _, .any (o := o) (r := l) (t := t) (v := v) hw hs hx hf ha h, hA => by
    obtain ⟨rs, Hs, h1, h2, h3, h4, h5, h6, h7⟩ := DR.run h hA
    subst hx
    exact ⟨⟨o, t.get, v, true, false⟩ :: rs, Hs, drawRun_val hw hs hf h1, h2, h3, by simpa [effs_cons] using h4, h5.same, GoodR.same rfl h6 fun _ _ => .inl ⟨rfl, ha⟩, by simp [h7]⟩
  | _, _, _, _, H, _, .eff (o := o) (r := l) (t := t) (v := v) (H1 := H1) he hw hs hx hf hA1 h, hA => by
    obtain ⟨rs, Hs, h1, h2, h3, h4, h5, h6, h7⟩ := DR.run h hA1
    subst hx
    cases hb : Heap.beq H1 H with
    | true =>
      have := Heap.beq_eq _ _ hb
      subst this
      refine ⟨⟨o, t.get, v, true, false⟩ :: rs, Hs, drawRun_val hw hs hf h1, h2, h3, by simpa [effs_cons] using h4, h5.same, GoodR.same rfl h6 fun _ _ => .inr ⟨.inr (.inl rfl), H1, ?_, hs⟩, by simp [h7]⟩
      rw [← List.head?_eq_getElem?]; exact h3
    | false =>
      refine ⟨⟨o, t.get, v, true, true⟩ :: rs, H :: Hs, drawRun_eff he hb hw hs hf h1, ?_, rfl, by simp [effs_cons, h4], ?_, ?_, by simp [h7]⟩
      · cases Hs with
        | nil => simp at h2
        | cons K Hs => rw [List.getLast?_cons_cons]; exact h2
      · exact h5.cons hA
      · intro i r' hi
        cases i with
        | zero =>
          simp only [List.getElem?_cons_zero, Option.some.injEq] at hi
          subst hi
          exact ⟨fun _ => .inl rfl, fun h8 => by cases h8⟩
        | succ i =>
          simp only [List.getElem?_cons_succ] at hi ⊢
          have h9 := h6 i r' hi
          rw [cntE_succ]
          simp only [if_true]
          rw [Nat.add_comm, List.getElem?_cons_succ]
          exact h9
  | _, _, _, _, H, _, .last (o := o) (t := t) (v := v) (H1 := H1) he hw hs hx hf, hA => by
    subst hx
    cases hb : Heap.beq H1 H with
    | true =>
      have := Heap.beq_eq _ _ hb
      subst this
      refine ⟨[⟨o, t.get, v, true, false⟩], [H1], drawRun_val hw hs hf rfl, rfl, rfl, rfl, AllA.one hA, fun i r hi => ?_, rfl⟩
      cases i with
      | zero =>
        simp only [List.getElem?_cons_zero, Option.some.injEq] at hi
        subst hi
        exact ⟨fun h => (by cases h), fun _ _ _ => .inr ⟨.inr (.inr rfl), H1, by simp [cntE], hs⟩⟩
      | succ i => simp at hi
    | false =>
      refine ⟨[⟨o, t.get, v, true, true⟩], [H, H1], drawRun_eff he hb hw hs hf rfl, rfl, rfl, rfl, fun q K hq => ?_, fun i r hi => ?_, rfl⟩
      · cases q with
        | zero => simp at hq; subst hq; exact .inl hA
        | succ q =>
          cases q with
          | zero => exact .inr ⟨rfl, 0, rfl, rfl, _, rfl, rfl⟩
          | succ q => simp at hq
      · cases i with
        | zero =>
          simp only [List.getElem?_cons_zero, Option.some.injEq] at hi
          subst hi
          exact ⟨fun _ => .inr rfl, fun h => (by cases h)⟩
        | succ i => simp at hi
theorem chkD_at {ms : List Nat} {ks : List DK} (h : chkD ms ks = true) {i p : Nat} (hi : ks[i]? = some .f ∨ ks[i]? = some .e ∨ ks[i]? = some .l) (hp : ks[p]? = some .e ∨ ks[p]? = some .l) (hne : i ≠ p) : befM ms i p = decide (p < i) ∧ befM ms p i = decide (i < p) := by
  have hil : i < ks.length := by rcases hi with hi | hi | hi <;> exact (List.getElem?_eq_some_iff.1 hi).1
  have hpl : p < ks.length := by rcases hp with hp | hp <;> exact (List.getElem?_eq_some_iff.1 hp).1
  have h1 := List.all_eq_true.1 h i (List.mem_range.2 hil)
  have h2 := List.all_eq_true.1 h1 p (List.mem_range.2 hpl)
  have e1 : (i == p) = false := by simpa using hne
  have e2 : (ks.getD p .q != .e && ks.getD p .q != .l) = false := by rcases hp with hp | hp <;> rw [List.getD_eq_getElem?_getD, hp] <;> rfl
  rw [e1, e2] at h2
  rcases hi with hi | hi | hi <;> rw [List.getD_eq_getElem?_getD, hi] at h2 <;> simpa using h2
theorem chkD_any {ms : List Nat} {ks : List DK} (h : chkD ms ks = true) {i p : Nat} (hi : ks[i]? = some .a) (hp : ks[p]? = some .l) : befM ms p i = true := by
  have hil : i < ks.length := (List.getElem?_eq_some_iff.1 hi).1
  have hpl : p < ks.length := (List.getElem?_eq_some_iff.1 hp).1
  have hne : ¬ i = p := fun e => by subst e; rw [hi] at hp; cases hp
  have h1 := List.all_eq_true.1 h i (List.mem_range.2 hil)
  have h2 := List.all_eq_true.1 h1 p (List.mem_range.2 hpl)
  have e1 : (i == p) = false := by simpa using hne
  have e2 : ks.getD p .q = .l := by rw [List.getD_eq_getElem?_getD, hp]; rfl
  have e3 : ks.getD i .q = .a := by rw [List.getD_eq_getElem?_getD, hi]; rfl
  rw [e1, e2, e3] at h2
  simpa using h2
theorem effs_of : ∀ {rs : List Rec} {p : Nat} {r : Rec}, rs[p]? = some r → r.e = true → p ∈ effs rs
  | [], p, r, h, _ => by simp at h
  | r0 :: rs, 0, r, h, he => by
    simp only [List.getElem?_cons_zero, Option.some.injEq] at h
    subst h
    rw [effs_cons, he]
    simp
  | r0 :: rs, p + 1, r, h, he => by
    simp only [List.getElem?_cons_succ] at h
    have := effs_of h he
    rw [effs_cons]
    split
    · exact List.mem_cons_of_mem _ (List.mem_map.2 ⟨p, this, rfl⟩)
    · exact List.mem_map.2 ⟨p, this, rfl⟩
theorem filter_eq_of {l : List Nat} {f g : Nat → Bool} (h : ∀ p ∈ l, f p = g p) : l.filter f = l.filter g := List.filter_congr h
theorem DR.draw {ks : List DK} {t t' : Tm} {H H' : Heap} (h : DR step ops A ops.toList ks t H t' H') (hA : A H) (hs : (drawStat ops.toList ops (masks ops.toList []) && chkD (masks ops.toList []) ks) = true) : evDraw step ops t H = .norm t' H' := by
  obtain ⟨rs, Hs, h1, h2, h3, h4, h5, h6, h7⟩ := h.run hA
  rw [Bool.and_eq_true] at hs
  obtain ⟨hs, hc⟩ := hs
  have hdyn : drawDyn step (masks ops.toList []) rs Hs = true := by
    rw [drawDyn, List.all_eq_true]
    intro i hi
    rw [List.mem_range] at hi
    have hri : rs[i]? = some rs[i] := List.getElem?_eq_getElem hi
    obtain ⟨g1, g2⟩ := h6 i _ hri
    simp only [hri]
    cases he : rs[i].e with
    | true =>
      simp only [if_true, List.all_eq_true, decide_eq_true_eq]
      intro p hp
      obtain ⟨rp, k1, k2⟩ := effs_at hp
      have k3 := (h6 p rp k1).1 k2
      by_cases hip : i = p
      · left; omega
      · have := (chkD_at hc (.inr (g1 he)) k3 hip).2
        simp only [befM] at this
        rw [this]
        simp only [decide_eq_true_eq]
        omega
    | false =>
      simp only [Bool.false_eq_true, if_false]
      by_cases hl : (looks rs[i].o.op && rs[i].w) = true
      · rw [Bool.and_eq_true] at hl
        have key : ∀ q, ((effs rs).filter fun p => ((masks ops.toList []).getD i 0).testBit p).length ≤ q → q ≤ ((effs rs).filter fun p => !((masks ops.toList []).getD p 0).testBit i).length → ∃ K, Hs[q]? = some K ∧ step rs[i].o rs[i].t K = .val rs[i].v K := by
          intro q q1 q2
          rcases g2 he hl.1 hl.2 with ⟨hka, ha⟩ | ⟨hk, K, k1, k2⟩
          · have hle := List.length_filter_le (fun p => !((masks ops.toList []).getD p 0).testBit i) (effs rs)
            have hq : q < Hs.length := by omega
            refine ⟨Hs[q], List.getElem?_eq_getElem hq, ha _ ((h5 q _ (List.getElem?_eq_getElem hq)).resolve_right ?_)⟩
            rintro ⟨hl1, p, hp1, hp2, rp, hp3, hp4⟩
            have hb := chkD_any hc hka hp2
            have hmem := effs_of hp3 hp4
            have hlt : ((effs rs).filter fun p => !((masks ops.toList []).getD p 0).testBit i).length < (effs rs).length := by
              rw [← List.countP_eq_length_filter]
              refine Nat.lt_of_le_of_ne List.countP_le_length fun e => ?_
              have := List.countP_eq_length.1 e p hmem
              simp only [befM] at hb
              rw [hb] at this
              cases this
            omega
          · have hne : ∀ p ∈ effs rs, i ≠ p := fun p hp hip => by
              obtain ⟨rp, k3, k4⟩ := effs_at hp
              subst hip
              rw [hri] at k3
              cases k3
              rw [he] at k4
              cases k4
            have e1 : (effs rs).filter (fun p => ((masks ops.toList []).getD i 0).testBit p) = (effs rs).filter fun p => decide (p < i) := filter_eq_of fun p hp => by
              obtain ⟨rp, k3, k4⟩ := effs_at hp
              exact (chkD_at hc hk ((h6 p rp k3).1 k4) (hne p hp)).1
            have e2 : (effs rs).filter (fun p => !((masks ops.toList []).getD p 0).testBit i) = (effs rs).filter fun p => decide (p < i) := filter_eq_of fun p hp => by
              obtain ⟨rp, k3, k4⟩ := effs_at hp
              have := (chkD_at hc hk ((h6 p rp k3).1 k4) (hne p hp)).2
              simp only [befM] at this
              rw [this]
              have := hne p hp
              by_cases hlt : i < p
              · have : ¬ p < i := by omega
                simp [hlt, this]
              · have : p < i := by omega
                simp [hlt, this]
            rw [e1] at q1
            rw [e2] at q2
            have : q = cntE rs i := Nat.le_antisymm q2 q1
            subst this
            exact ⟨K, k1, k2⟩
        rw [hl.1, hl.2]
        simp only [Bool.and_self, Bool.not_true, Bool.false_or, List.all_eq_true]
        intro q _
        by_cases hq : ((effs rs).filter fun p => ((masks ops.toList []).getD i 0).testBit p).length ≤ q ∧ q ≤ ((effs rs).filter fun p => !((masks ops.toList []).getD p 0).testBit i).length
        · obtain ⟨K, k1, k2⟩ := key q hq.1 hq.2
          simp only [k1, k2, sameOR, V.beq_refl, Heap.beq_refl, Bool.and_self, Bool.or_true]
        · have : (decide (((effs rs).filter fun p => ((masks ops.toList []).getD i 0).testBit p).length ≤ q) && decide (q ≤ ((effs rs).filter fun p => !((masks ops.toList []).getD p 0).testBit i).length)) = false := by
            rw [Bool.and_eq_false_iff, decide_eq_false_iff_not, decide_eq_false_iff_not]
            omega
          rw [this]
          rfl
      · have : (looks rs[i].o.op && rs[i].w) = false := by simpa using hl
        rw [this]
        rfl
  simp only [evDraw, h1, hs, hdyn, Bool.or_true, Bool.and_self, if_true, h2]
theorem evReg_draw {T : Tab} {call : CallF} {ks : List DK} {t t' : Tm} {H H' : Heap} {out : Out} (A : Heap → Prop) (hs : (drawStat ops.toList ops (masks ops.toList []) && chkD (masks ops.toList []) ks) = true) (hA : A H) (h : DR (evOp T call) ops A ops.toList ks t H t' H') (ho : Out.norm t' H' = out) : evReg T call ops true t H = out := by
  rw [← ho]
  exact h.draw hA hs
end
open Go
section
variable {step : Oper → Env → Heap → OR} {ops : Array Oper} {H H' : Heap} {q : Nat} {v : V}
inductive QP (step : Oper → Env → Heap → OR) (ops : Array Oper) (H : Heap) (q : Nat) (v : V) (H' : Heap) : Nat → List Oper → List Bool → Tm → Prop
  | nil {i : Nat} {t : Tm} : QP step ops H q v H' i [] [] t
  | val {i : Nat} {o : Oper} {r : List Oper} {fl : List Bool} {t : Tm} {x : OR} {u : V} (hw : wants ops o t.get = some true) (hs : step o t.get H = x) (hx : x = .val u H) (hf : t.fits o.dst = true) (h : QP step ops H q v H' (i + 1) r fl (t.put o.dst u)) : QP step ops H q v H' i (o :: r) (false :: fl) t
  | off {i : Nat} {o : Oper} {r : List Oper} {fl : List Bool} {t : Tm} (hw : wants ops o t.get = some false) (hf : t.fits o.dst = true) (h : QP step ops H q v H' (i + 1) r fl (t.put o.dst .un)) : QP step ops H q v H' i (o :: r) (false :: fl) t
  | skip {i : Nat} {o : Oper} {r : List Oper} {fl : List Bool} {t : Tm} (hi : (i == q) = false) (hf : t.fits o.dst = true) (h : QP step ops H q v H' (i + 1) r fl (t.put o.dst .un)) : QP step ops H q v H' i (o :: r) (true :: fl) t
  | stop {i : Nat} {o : Oper} {r : List Oper} {fl : List Bool} {t : Tm} {x : OR} (hi : (i == q) = true) (hw : wants ops o t.get = some true) (hs : step o t.get H = x) (hx : x = .pan v H') (hf : t.fits o.dst = true) (h : QP step ops H q v H' (i + 1) r fl (t.put o.dst .un)) : QP step ops H q v H' i (o :: r) (true :: fl) t
def chkP (ms : List Nat) (q : Nat) (fl : List Bool) : Bool :=
  fl.getD q false && (List.range fl.length).all fun i => !fl.getD i false || i == q || (ms.getD i 0).testBit q
structure RanP (step : Oper → Env → Heap → OR) (ops : Array Oper) (t : Tm) (H : Heap) (q : Nat) (v : V) (H' : Heap) (i0 : Nat) (l : List Oper) (fl : List Bool) (rs : List Rec) : Prop where
  opers : rs.map (·.o) = l
  len : fl.length = l.length
  seen : ∀ (i : Nat) (r : Rec), rs[i]? = some r → r.t = curs t.get rs (fun j => decide (j < i))
  fits : ∀ (i : Nat) (r : Rec), rs[i]? = some r → t.fits r.o.dst = true
  off : ∀ (i : Nat) (r : Rec), rs[i]? = some r → fl[i]? = some false → r.w = false → wants ops r.o r.t = some false ∧ r.v = .un
  on : ∀ (i : Nat) (r : Rec), rs[i]? = some r → fl[i]? = some false → r.w = true → wants ops r.o r.t = some true ∧ step r.o r.t H = .val r.v H
  pan : ∀ (i : Nat) (r : Rec), rs[i]? = some r → i0 + i = q → wants ops r.o r.t = some true ∧ step r.o r.t H = .pan v H'
theorem curs_none : ∀ (rs : List Rec) (t : Env), curs t rs (fun _ => false) = t
  | [], t => rfl
  | r :: rs, t => by simp only [curs]; exact curs_none rs t
theorem QP.run : ∀ {i0 : Nat} {l : List Oper} {fl : List Bool} {t : Tm}, QP step ops H q v H' i0 l fl t → (fl.getD (q - i0) false = true ∨ q < i0) → ∃ rs, RanP step ops t H q v H' i0 l fl rs
  | i0, _, _, t, .nil, _ => ⟨[], rfl, rfl, by simp, by simp, by simp, by simp, by simp⟩
  | i0, _, _, t, .val (o := o) (r := l) (fl := fl) (u := u) hw hs hx hf h, hq => by
    have hne : i0 ≠ q := by
      rintro rfl
      rcases hq with hq | hq
      · simp at hq
      · omega
    obtain ⟨rs, ih⟩ := QP.run h (by
      rcases hq with hq | hq
      · by_cases hlt : i0 < q
        · left; rw [show q - i0 = (q - (i0 + 1)) + 1 from by omega] at hq; simpa using hq
        · right; omega
      · right; omega)
    subst hx
    refine ⟨⟨o, t.get, u, true, false⟩ :: rs, by simp [ih.opers], by simp [ih.len], ?_, ?_, ?_, ?_, ?_⟩
    · intro i r hi
      cases i with
      | zero => simp at hi; subst hi; simp only [Nat.not_lt_zero, decide_false]; exact (curs_none _ _).symm
      | succ i =>
        have := ih.seen i r (by simpa using hi)
        rw [this, Tm.get_put]
        simp only [curs, Nat.zero_lt_succ, decide_true, if_true, Nat.add_lt_add_iff_right]
    · intro i r hi
      cases i with
      | zero => simp at hi; subst hi; exact hf
      | succ i =>
        have := ih.fits i r (by simpa using hi)
        cases hq : r.o.dst with
        | none => rfl
        | some d => rw [hq] at this; simpa [Tm.fits] using this
    · intro i r hi hfl hw'
      cases i with
      | zero => simp at hi; subst hi; cases hw'
      | succ i => exact ih.off i r (by simpa using hi) (by simpa using hfl) hw'
    · intro i r hi hfl hw'
      cases i with
      | zero => simp at hi; subst hi; exact ⟨hw, hs⟩
      | succ i => exact ih.on i r (by simpa using hi) (by simpa using hfl) hw'
    · intro i r hi he
      cases i with
      | zero => exact absurd he hne
      | succ i => exact ih.pan i r (by simpa using hi) (by omega)
  | i0, _, _, t, .off (o := o) (r := l) (fl := fl) hw hf h, hq => by
    have hne : i0 ≠ q := by
      rintro rfl
      rcases hq with hq | hq
      · simp at hq
      · omega
    obtain ⟨rs, ih⟩ := QP.run h (by
      rcases hq with hq | hq
      · by_cases hlt : i0 < q
        · left; rw [show q - i0 = (q - (i0 + 1)) + 1 from by omega] at hq; simpa using hq
        · right; omega
      · right; omega)
    refine ⟨⟨o, t.get, .un, false, false⟩ :: rs, by simp [ih.opers], by simp [ih.len], ?_, ?_, ?_, ?_, ?_⟩
    · intro i r hi
      cases i with
      | zero => simp at hi; subst hi; simp only [Nat.not_lt_zero, decide_false]; exact (curs_none _ _).symm
      | succ i =>
        have := ih.seen i r (by simpa using hi)
        rw [this, Tm.get_put]
        simp only [curs, Nat.zero_lt_succ, decide_true, if_true, Nat.add_lt_add_iff_right]
    · intro i r hi
      cases i with
      | zero => simp at hi; subst hi; exact hf
      | succ i =>
        have := ih.fits i r (by simpa using hi)
        cases hq : r.o.dst with
        | none => rfl
        | some d => rw [hq] at this; simpa [Tm.fits] using this
    · intro i r hi hfl hw'
      cases i with
      | zero => simp at hi; subst hi; exact ⟨hw, rfl⟩
      | succ i => exact ih.off i r (by simpa using hi) (by simpa using hfl) hw'
    · intro i r hi hfl hw'
      cases i with
      | zero => simp at hi; subst hi; cases hw'
      | succ i => exact ih.on i r (by simpa using hi) (by simpa using hfl) hw'
    · intro i r hi he
      cases i with
      | zero => exact absurd he hne
      | succ i => exact ih.pan i r (by simpa using hi) (by omega)
  | i0, _, _, t, .skip (o := o) (r := l) (fl := fl) hi0 hf h, hq => by
    have hne : i0 ≠ q := by simpa using hi0
    obtain ⟨rs, ih⟩ := QP.run h (by
      rcases hq with hq | hq
      · by_cases hlt : i0 < q
        · left; rw [show q - i0 = (q - (i0 + 1)) + 1 from by omega] at hq; simpa using hq
        · right; omega
      · right; omega)
    refine ⟨⟨o, t.get, .un, false, false⟩ :: rs, by simp [ih.opers], by simp [ih.len], ?_, ?_, ?_, ?_, ?_⟩
    · intro i r hi
      cases i with
      | zero => simp at hi; subst hi; simp only [Nat.not_lt_zero, decide_false]; exact (curs_none _ _).symm
      | succ i =>
        have := ih.seen i r (by simpa using hi)
        rw [this, Tm.get_put]
        simp only [curs, Nat.zero_lt_succ, decide_true, if_true, Nat.add_lt_add_iff_right]
    · intro i r hi
      cases i with
      | zero => simp at hi; subst hi; exact hf
      | succ i =>
        have := ih.fits i r (by simpa using hi)
        cases hq : r.o.dst with
        | none => rfl
        | some d => rw [hq] at this; simpa [Tm.fits] using this
    · intro i r hi hfl hw'
      cases i with
      | zero => simp at hfl
      | succ i => exact ih.off i r (by simpa using hi) (by simpa using hfl) hw'
    · intro i r hi hfl hw'
      cases i with
      | zero => simp at hfl
      | succ i => exact ih.on i r (by simpa using hi) (by simpa using hfl) hw'
    · intro i r hi he
      cases i with
      | zero => exact absurd he hne
      | succ i => exact ih.pan i r (by simpa using hi) (by omega)
  | i0, _, _, t, .stop (o := o) (r := l) (fl := fl) hi0 hw hs hx hf h, hq => by
    have heq : i0 = q := by simpa using hi0
    obtain ⟨rs, ih⟩ := QP.run h (.inr (by omega))
    subst hx
    refine ⟨⟨o, t.get, .un, false, false⟩ :: rs, by simp [ih.opers], by simp [ih.len], ?_, ?_, ?_, ?_, ?_⟩
    · intro i r hi
      cases i with
      | zero => simp at hi; subst hi; simp only [Nat.not_lt_zero, decide_false]; exact (curs_none _ _).symm
      | succ i =>
        have := ih.seen i r (by simpa using hi)
        rw [this, Tm.get_put]
        simp only [curs, Nat.zero_lt_succ, decide_true, if_true, Nat.add_lt_add_iff_right]
    · intro i r hi
      cases i with
      | zero => simp at hi; subst hi; exact hf
      | succ i =>
        have := ih.fits i r (by simpa using hi)
        cases hq : r.o.dst with
        | none => rfl
        | some d => rw [hq] at this; simpa [Tm.fits] using this
    · intro i r hi hfl hw'
      cases i with
      | zero => simp at hfl
      | succ i => exact ih.off i r (by simpa using hi) (by simpa using hfl) hw'
    · intro i r hi hfl hw'
      cases i with
      | zero => simp at hfl
      | succ i => exact ih.on i r (by simpa using hi) (by simpa using hfl) hw'
    · intro i r hi he
      cases i with
      | zero => simp at hi; subst hi; exact ⟨hw, hs⟩
      | succ i => exact ih.pan i r (by simpa using hi) (by omega)
theorem stat_free {ms : List Nat} {rs : List Rec} (hopers : rs.map (·.o) = ops.toList) (h : drawStat ops.toList ops ms = true) :
    (∀ (i : Nat) (r : Rec), rs[i]? = some r → ∀ e ∈ edges r.o, e < i) ∧ (∀ (i j : Nat) (r q : Rec), rs[i]? = some r → rs[j]? = some q → i ≠ j → ∀ d, q.o.dst = some d → r.o.dst ≠ some d ∧ (d ∈ slots ops r.o → if j < i then (ms.getD i 0).testBit j = true else (ms.getD j 0).testBit i = true)) := by
  have hop : ∀ {i : Nat} {r : Rec}, rs[i]? = some r → ops.toList[i]? = some r.o := by
    intro i r hi
    have : (rs.map (·.o))[i]? = some r.o := by simp [hi]
    rwa [hopers] at this
  have hall : ∀ (i : Nat) (o : Oper), ops.toList[i]? = some o → _ := fun i r hi => by
    have hlt := (List.getElem?_eq_some_iff.1 hi).1
    have := List.all_eq_true.1 h i (List.mem_range.2 hlt)
    simp only [hi] at this
    exact this
  refine ⟨?_, ?_⟩
  · intro i r hi e he
    have := hall i r.o (hop hi)
    simp only [Bool.and_eq_true] at this
    simpa using List.all_eq_true.1 this.1 e he
  · intro i j r q hi hj hne d hd
    have := hall i r.o (hop hi)
    simp only [Bool.and_eq_true] at this
    have hlt := (List.getElem?_eq_some_iff.1 (hop hj)).1
    have := List.all_eq_true.1 this.2 j (List.mem_range.2 hlt)
    simp only [hop hj, hd, Bool.or_eq_true, Bool.and_eq_true, beq_iff_eq, decide_eq_true_eq, Bool.not_eq_true', List.contains_eq_mem, decide_eq_false_iff_not] at this
    rcases this with e | ⟨h1, h2⟩
    · exact absurd e hne
    · refine ⟨h1, fun hd => ?_⟩
      rcases h2 with h2 | h2
      · exact absurd hd h2
      · split <;> simp_all
theorem curs_not : ∀ (rs : List Rec) (t : Env) (L : Nat → Bool) (k : Nat), (∀ r ∈ rs, r.o.dst ≠ some k) → curs t rs L k = t k
  | [], t, L, k, _ => rfl
  | r :: rs, t, L, k, h => by
    simp only [curs]
    rw [curs_not rs _ _ k fun r' hr => h r' (by simp [hr])]
    split
    · have := h r (by simp)
      cases hd : r.o.dst with
      | none => rfl
      | some d =>
        have : ¬ k = d := fun e => by rw [hd, e] at this; exact this rfl
        simp [put, this]
    · rfl
end
section
variable {P : Program} {T : Tab}
theorem evDrawPan_ok (hT : TOk P T) {call : CallF} (hcall : call.Sound P T) {id : Nat} {ops : Array Oper} {t t' : Tm} {H H' : Heap} {q : Nat} {v : V} {fl : List Bool} {a : Act} {w : World} {M : Mem} {ρ : Ren} {Q : Exit → Act → World → Prop} (hS : SR T M ρ H w) (ht : relTm M ρ t a.tmps)
    (hs : (drawStat ops.toList ops (masks ops.toList []) && chkP (masks ops.toList []) q fl) = true) (hq : QP (evOp T call) ops H q v H' 0 ops.toList fl t)
    (hpan : ∀ k, t'.get k = .un ∨ (t'.get k = t.get k ∧ ∀ o ∈ ops.toList, o.dst ≠ some k))
    (h : OutOK T M ρ w Q a.defers (.pan v t' H')) : (Code.region id ops true).wp P Q a w := by
  rw [Bool.and_eq_true] at hs
  obtain ⟨hst, hchk⟩ := hs
  simp only [chkP, Bool.and_eq_true] at hchk
  obtain ⟨hchk0, hchk⟩ := hchk
  obtain ⟨rs, R⟩ := hq.run (.inl (by simpa using hchk0))
  obtain ⟨Fedge, Fslot⟩ := stat_free R.opers hst
  generalize hbefd : (fun i j => ((masks ops.toList []).getD i 0).testBit j) = bef
  have hlen : rs.length = ops.size := by have := congrArg List.length R.opers; simpa using this
  have hfll : fl.length = ops.size := by have := R.len; simpa using this
  have hop : ∀ {i : Nat} {r : Rec}, rs[i]? = some r → ops[i]? = some r.o := by
    intro i r hi
    have : (rs.map (·.o))[i]? = some r.o := by simp [hi]
    rw [R.opers] at this
    simpa using this
  have hbef : ∀ (i : Nat) (r : Rec) (j : Nat), rs[i]? = some r → bef i j = true → ∃ e ∈ edges r.o, j = e ∨ bef e j = true := by
    intro i r j hi hb
    subst hbefd
    exact masks_spec ops.toList [] i r.o j (by simpa using hop hi) (by simpa using hb)
  have hslotb : ∀ (i j : Nat) (r q : Rec), rs[i]? = some r → rs[j]? = some q → i ≠ j → ∀ d, q.o.dst = some d → r.o.dst ≠ some d ∧ (d ∈ slots ops r.o → if j < i then bef i j = true else bef j i = true) := by
    subst hbefd
    exact Fslot
  have hflb : ∀ i, i < ops.size → fl.getD i false = true → i ≠ q → bef i q = true := by
    intro i hi hf hne
    have := List.all_eq_true.1 hchk i (List.mem_range.2 (by omega))
    rw [hf] at this
    have e : (i == q) = false := by simpa using hne
    rw [e] at this
    subst hbefd
    simpa using this
  have hget : ∀ {i : Nat}, i < rs.length → ∃ r, rs[i]? = some r := fun hi => ⟨_, List.getElem?_eq_getElem hi⟩
  have hqlt : q < ops.size := by
    rw [List.getD_eq_getElem?_getD] at hchk0
    rcases Nat.lt_or_ge q fl.length with h1 | h1
    · omega
    · rw [List.getElem?_eq_none h1] at hchk0; cases hchk0
  have hin : ∀ (L : Nat → Bool), (∀ i r, rs[i]? = some r → L i = true → ∀ e ∈ edges r.o, L e = true) → ∀ (i : Nat) (r : Rec) (j : Nat), rs[i]? = some r → (∀ e ∈ edges r.o, L e = true) → bef i j = true → L j = true := by
    intro L hcl i
    induction i using Nat.strongRecOn with
    | _ i ih =>
      intro r j hi he hb
      obtain ⟨e, hem, hj⟩ := hbef i r j hi hb
      rcases hj with rfl | hj
      · exact he _ hem
      · have hlt := Fedge i r hi e hem
        obtain ⟨re, hre⟩ := hget (i := e) (by have := (List.getElem?_eq_some_iff.1 hi).1; omega)
        exact ih e hlt re j hre (hcl e re hre (he e hem)) hj
  refine wp_region_any hT.mixed ?_
  have key : ∀ (fuel : Nat) (listed : Array Bool) (a' : Act) (w' : World) (M' : Mem) (ρ' : Ren), listed.size = ops.size →
      (∀ i r, rs[i]? = some r → listed.getD i false = true → ∀ e ∈ edges r.o, listed.getD e false = true) → listed.getD q false = false →
      ((List.range ops.size).filter fun i => !listed.getD i false).length ≤ fuel → Ext M ρ w M' ρ' w' →
      relT M' ρ' (curs t.get rs fun j => listed.getD j false) a'.tmps → a'.tmps.size = t.wid →
      SR T M' ρ' H w' → a'.defers = a.defers →
      wpAny P .any ops Q fuel listed a' w' := by
    have hready : ∀ (listed : Array Bool) (i : Nat), listed.size = ops.size → (i ∈ Region.ready .any ops listed ↔ ∃ r, rs[i]? = some r ∧ listed.getD i false = false ∧ ∀ e ∈ edges r.o, listed.getD e false = true) := by
      intro listed i hsz
      unfold Region.ready
      rw [List.mem_filter, List.mem_range]
      constructor
      · rintro ⟨hi, hh⟩
        obtain ⟨r, hr⟩ := hget (i := i) (by omega)
        rw [hop hr] at hh
        simp only [Option.map_some, Option.getD_some, Bool.and_eq_true, Bool.not_eq_true', Array.all_eq_true'] at hh
        refine ⟨r, hr, ?_, fun e he => ?_⟩
        · have := hh.1
          rw [Array.getD_eq_getD_getElem?] at this ⊢
          rw [Array.getElem?_eq_getElem (by omega)] at this ⊢
          exact this
        · simp only [edges, List.mem_map, List.mem_filter] at he
          obtain ⟨x, ⟨hx, hb⟩, rfl⟩ := he
          have := hh.2 x (by simpa using hx)
          simpa [hb] using this
      · rintro ⟨r, hr, hL, he⟩
        have hi := (List.getElem?_eq_some_iff.1 hr).1
        refine ⟨by omega, ?_⟩
        rw [hop hr]
        simp only [Option.map_some, Option.getD_some, Bool.and_eq_true, Bool.not_eq_true', Array.all_eq_true']
        refine ⟨?_, fun x hx => ?_⟩
        · rw [Array.getD_eq_getD_getElem?] at hL ⊢
          rw [Array.getElem?_eq_getElem (by omega)] at hL ⊢
          exact hL
        · cases hb : Region.binds .any x with
          | false => simp
          | true =>
            simp only [Bool.not_true, Bool.false_or]
            exact he x.on (List.mem_map.2 ⟨x, List.mem_filter.2 ⟨by simpa using hx, hb⟩, rfl⟩)
    have hnil : ∀ (listed : Array Bool), listed.size = ops.size → Region.ready .any ops listed = [] → ∀ i, i < ops.size → listed.getD i false = true := by
      intro listed hsz hr i
      induction i using Nat.strongRecOn with
      | _ i ihi =>
        intro hi
        obtain ⟨r, hri⟩ := hget (i := i) (by omega)
        cases hL : listed.getD i false with
        | true => rfl
        | false =>
          have : i ∈ Region.ready .any ops listed := (hready listed i hsz).2 ⟨r, hri, hL, fun e he => ihi e (Fedge i r hri e he) (by have := Fedge i r hri e he; omega)⟩
          rw [hr] at this
          cases this
    intro fuel
    induction fuel with
    | zero =>
      intro listed a' w' M' ρ' hsz hcl hnq hcount hext hrel hsize hS' hdef
      exfalso
      have : (List.range ops.size).filter (fun i => !listed.getD i false) = [] := List.eq_nil_of_length_eq_zero (by omega)
      have := (List.filter_eq_nil_iff.1 this) q (List.mem_range.2 hqlt)
      rw [hnq] at this
      exact this rfl
    | succ fuel ih =>
      intro listed a' w' M' ρ' hsz hcl hnq hcount hext hrel hsize hS' hdef
      refine ⟨fun hr => ?_, fun i hi => ?_⟩
      · have := hnil listed hsz hr q hqlt
        rw [hnq] at this
        cases this
      obtain ⟨r, hri, hL, hedge⟩ := (hready listed i hsz).1 hi
      have hilt : i < ops.size := by have := (List.getElem?_eq_some_iff.1 hri).1; omega
      have hset : ∀ j, (listed.setIfInBounds i true).getD j false = (listed.getD j false || j == i) := by
        intro j
        simp only [Array.getD_eq_getD_getElem?, Array.getElem?_setIfInBounds]
        by_cases hj : i = j
        · subst hj
          simp [hsz, hilt]
        · have : (j == i) = false := by simp; omega
          simp [hj, this]
      have hslot : ∀ d ∈ r.o.looksAt ops, (curs t.get rs fun j => listed.getD j false) d = r.t d := by
        intro d hd
        rw [R.seen i r hri]
        refine curs_congr rs t.get _ _ d (fun j q hj hqd => ?_) t.get rfl
        by_cases hji : i = j
        · subst hji
          simp only [hL]
          simp
        · have hsl := (hslotb i j r q hri hj hji d hqd).2 hd
          by_cases hlt : j < i
          · rw [if_pos hlt] at hsl
            have := hin (fun j => listed.getD j false) hcl i r j hri hedge hsl
            simp only [this]
            simp [hlt]
          · rw [if_neg hlt] at hsl
            cases hLj : listed.getD j false with
            | false => simp [hlt]
            | true =>
              have := hin (fun j => listed.getD j false) hcl j q i hj (hcl j q hj hLj) hsl
              rw [hL] at this
              cases this
      have hwants : wants ops r.o (curs t.get rs fun j => listed.getD j false) = wants ops r.o r.t := wants_congr hslot
      unfold wpOp
      rw [hop hri]
      simp only
      by_cases hiq : i = q
      · subst hiq
        obtain ⟨h1, h2⟩ := R.pan i r hri (by omega)
        rw [wants_ok hrel (hwants.trans h1)]
        simp only [if_true]
        refine .inl ?_
        refine evOp_ok hT hcall hS' hrel ((evOp_congr (looks_congr hslot)).trans h2) ?_
        intro x M2 ρ2 w2 hx hv hS2
        refine h a' w2 M2 ρ2 x (hext.trans hx) (fun k => ?_) hv hS2 hdef
        rcases hpan k with hk | ⟨hk, hno⟩
        · exact .inl hk
        · right
          have := hrel k
          rw [curs_not rs t.get _ k (fun r' hr' => hno r'.o (by rw [← R.opers]; exact List.mem_map_of_mem hr'))] at this
          rw [hk]
          exact rel_mono hx.mem hx.pre _ _ this
      · cases hf : fl.getD i false with
        | true =>
          have hb := hflb i hilt hf hiq
          have := hin (fun j => listed.getD j false) hcl i r q hri hedge hb
          rw [hnq] at this
          cases this
        | false =>
          have hfi : fl[i]? = some false := by
            rw [List.getD_eq_getElem?_getD, List.getElem?_eq_getElem (by omega)] at hf
            rw [List.getElem?_eq_getElem (by omega)]
            simpa using hf
          have hcl' : ∀ k q, rs[k]? = some q → (listed.setIfInBounds i true).getD k false = true → ∀ e ∈ edges q.o, (listed.setIfInBounds i true).getD e false = true := by
            intro k q hk hLk e he
            rw [hset] at hLk ⊢
            by_cases hki : k = i
            · subst hki
              rw [hri] at hk
              cases hk
              simp [hedge e he]
            · have : (k == i) = false := by simpa using hki
              rw [this, Bool.or_false] at hLk
              simp [hcl k q hk hLk e he]
          have hcount' : ((List.range ops.size).filter fun j => !(listed.setIfInBounds i true).getD j false).length ≤ fuel := by
            have e1 := count_add (l := List.range ops.size) (L := fun j => listed.getD j false) (L' := fun j => (listed.setIfInBounds i true).getD j false) (i := i) List.nodup_range (List.mem_range.2 hilt) hL hset
            have e2 : ∀ (l : List Nat) (p : Nat → Bool), (l.filter p).length + (l.filter fun j => !p j).length = l.length := by
              intro l p
              induction l with
              | nil => rfl
              | cons x l ih => simp only [List.filter_cons]; cases p x <;> simp <;> omega
            have e3 := e2 (List.range ops.size) (fun j => listed.getD j false)
            have e4 := e2 (List.range ops.size) (fun j => (listed.setIfInBounds i true).getD j false)
            omega
          have hcurs : curs t.get rs (fun j => (listed.setIfInBounds i true).getD j false) = put (curs t.get rs fun j => listed.getD j false) r.o.dst r.v :=
            curs_add rs t.get _ _ i r hri hL hset fun j q hji hj d hqd => (hslotb i j r q hri hj (fun e => hji e.symm) d hqd).1
          have hfd : ∀ e, r.o.dst = some e → e < a'.tmps.size := by rw [hsize]; exact fits_lt (R.fits i r hri)
          have hnq' : (listed.setIfInBounds i true).getD q false = false := by
            rw [hset, hnq]
            have : (q == i) = false := by simp; omega
            simp [this]
          cases hw : r.w with
          | false =>
            obtain ⟨h1, h2⟩ := R.off i r hri hfi hw
            rw [wants_ok hrel (hwants.trans h1)]
            simp only [Bool.false_eq_true, if_false]
            exact ih _ _ _ M' ρ' (by simpa using hsz) hcl' hnq' hcount' hext (by rw [hcurs, h2]; exact put_relT hrel rel_undef r.o.dst hfd) (by rw [put_size]; exact hsize) hS' (by rw [put_defers']; exact hdef)
          | true =>
            obtain ⟨h1, h2⟩ := R.on i r hri hfi hw
            rw [wants_ok hrel (hwants.trans h1)]
            simp only [if_true]
            refine .inl ?_
            refine evOp_ok hT hcall hS' hrel ((evOp_congr (looks_congr hslot)).trans h2) ?_
            intro x M2 ρ2 w2 hx hv hS2
            exact ih _ _ _ M2 ρ2 (by simpa using hsz) hcl' hnq' hcount' (hext.trans hx) (by rw [hcurs]; exact put_relT (relT_mono hx.mem hx.pre hrel) hv r.o.dst hfd) (by rw [put_size]; exact hsize) hS2 (by rw [put_defers']; exact hdef)
  refine key ops.size (Array.replicate ops.size false) a _ M ρ (by simp) (fun i r hi hL => ?_) ?_ ?_ (Ext.drew M ρ w) ?_ ht.1.symm hS.drew rfl
  · exfalso
    simp [Array.getD_eq_getD_getElem?, Array.getElem?_replicate] at hL
    split at hL <;> simp at hL
  · simp only [Array.getD_eq_getD_getElem?, Array.getElem?_replicate]
    split <;> rfl
  · exact Nat.le_trans (List.length_filter_le _ _) (by simp)
  · have h0 : ∀ j, (Array.replicate ops.size false).getD j false = false := by
      intro j
      simp only [Array.getD_eq_getD_getElem?, Array.getElem?_replicate]
      split <;> rfl
    simp only [h0]
    rw [curs_none]
    exact ht.2
noncomputable def forget (t : Tm) : List Nat → Tm
  | [] => t
  | d :: l => forget (t.put (some d) .un) l
theorem forget_get : ∀ (l : List Nat) (t : Tm) (k : Nat), (forget t l).get k = if k ∈ l then .un else t.get k
  | [], t, k => by simp [forget]
  | d :: l, t, k => by
    rw [forget, forget_get l]
    by_cases h : k ∈ l
    · simp [h]
    · by_cases e : k = d
      · subst e; simp [h, Tm.get_put, put]
      · simp [h, e, Tm.get_put, put]
theorem Tri.drawPan (hT : TOk P T) {call : CallF} (hC : call.Sound P T) {id : Nat} {ops : Array Oper} {t : Tm} {H : Heap} (q : Nat) (v : V) (H' : Heap) (fl : List Bool) {Q : Out → Prop}
    (hs : (drawStat ops.toList ops (masks ops.toList []) && chkP (masks ops.toList []) q fl) = true) (hq : QP (evOp T call) ops H q v H' 0 ops.toList fl t)
    (h : Q (.pan v (forget t (ops.toList.filterMap (·.dst))) H')) : Tri P T (.region id ops true) t H Q := by
  refine ⟨_, h, fun a w M ρ R hS ht k => evDrawPan_ok hT hC hS ht hs hq (fun k => ?_) k⟩
  rw [forget_get]
  by_cases hk : k ∈ ops.toList.filterMap (·.dst)
  · simp [hk]
  · rw [if_neg hk]
    exact .inr ⟨rfl, fun o ho e => hk (List.mem_filterMap.2 ⟨o, ho, e⟩)⟩
end
open Go Go.RowKit
section
variable {P : Program} {T : Tab} {t t' : Tm} {H H' : Heap} {hs : List HE} {r : Option Nat} {c x y : Code} {id j : Nat} {v : V} {Q : Out → List HE → Prop} {F : FuncId}
theorem inSeqG_norm (h : TriG P T r hs y t H Q) : inSeqG P T r y Q (.norm t H) hs := h
theorem inBlkG_norm (h : Q (.norm t H) hs) : inBlkG id Q (.norm t H) hs := h
theorem inBlkG_exit (h : Q (.norm t H) hs) : inBlkG id Q (.exit id t H) hs := by simpa only [inBlkG, if_true] using h
theorem inLoopG_norm (h : LTriG P T r hs c t H Q) : inLoopG P T r c Q (.norm t H) hs := h
def Weak (v v' : V) : Prop := ∀ (M : Mem) (ρ : Ren) (x : Value), rel M ρ v x → rel M ρ v' x
theorem Weak.refl (v : V) : Weak v v := fun _ _ _ h => h
theorem weak_nils (n : Nat) : Weak .nils (.isl n []) := fun M ρ x h => by
  simp only [rel] at h ⊢
  exact ⟨none, 0, h, by simp, fun e => absurd rfl e⟩
def WeakL (l l' : List V) : Prop := ∀ (M : Mem) (ρ : Ren) (x : List Value), relL M ρ l x → relL M ρ l' x
theorem WeakL.nil : WeakL [] [] := fun _ _ _ h => h
theorem WeakL.cons {v v' : V} {l l' : List V} (h : Weak v v') (hl : WeakL l l') : WeakL (v :: l) (v' :: l') := fun M ρ x k => by
  simp only [relL] at k ⊢
  obtain ⟨a, b, e, h1, h2⟩ := k
  exact ⟨a, b, e, h M ρ a h1, hl M ρ b h2⟩
theorem WeakL.agg {l l' : List V} (h : WeakL l l') : Weak (.agg l) (.agg l') := fun M ρ x k => by
  simp only [rel] at k ⊢
  obtain ⟨cs, e, h1⟩ := k
  exact ⟨cs, e, h M ρ cs h1⟩
theorem WeakL.tup {l l' : List V} (h : WeakL l l') : Weak (.tup l) (.tup l') := fun M ρ x k => by
  simp only [rel] at k ⊢
  obtain ⟨cs, e, h1⟩ := k
  exact ⟨cs, e, h M ρ cs h1⟩
theorem CallOK.weak {f : FuncId} {args : Array Value} {M : Mem} {ρ : Ren} {w : World} {v v' : V} (hv : Weak v v') (h : CallOK P T f args M ρ w (.val v H)) : CallOK P T f args M ρ w (.val v' H) := by
  refine Calls.mono h ?_
  rintro e w' ⟨x, M', σ, rfl, he, hx, hk⟩
  exact ⟨x, M', σ, rfl, he, hv _ _ _ hx, hk⟩
theorem spec_frzw (hp : T.Plain) {g : Spec} (hg : SpecOK P T F g) (D : List V → Prop) (R : List V → V → Prop)
    (h : ∀ vs, D vs → nlL vs = true ∧ ∃ v J k v' u, g vs [] = .val v J ∧ fz J k v = some v' ∧ Weak v' u ∧ R vs u) : ∃ g', SpecOK P T F g' ∧ ∀ vs, D vs → ∃ v', R vs v' ∧ ∀ H, g' vs H = .val v' H := by
  classical
  have hx : ∀ vs, D vs → ∃ u, (∃ v J k v', g vs [] = .val v J ∧ fz J k v = some v' ∧ Weak v' u) ∧ R vs u := fun vs hd => by
    obtain ⟨_, v, J, k, v', u, h1, h2, h3, h4⟩ := h vs hd
    exact ⟨u, ⟨v, J, k, v', h1, h2, h3⟩, h4⟩
  refine ⟨fun vs H => if hd : D vs then .val (hx vs hd).choose H else .no, ?_, ?_⟩
  · intro vs H r hr hne
    simp only at hr
    split at hr
    · rename_i hd
      obtain ⟨⟨v, J, k, v', h1, h2, h3⟩, _⟩ := (hx vs hd).choose_spec
      obtain ⟨k1, k2⟩ := hg vs [] _ h1 (by simp)
      subst hr
      exact ⟨k1, fun M ρ w args hS hr => CallOK.weak h3 (CallOK.frame_fz hp hS (k2 M [] w args (hS.forget hp) (nlL_rel vs args (h vs hd).1 hr)) h2)⟩
    · exact absurd hr.symm hne
  · intro vs hd
    exact ⟨_, (hx vs hd).choose_spec.2, fun H => dif_pos hd⟩
end
open Go Go.RowKit
section
variable {P : Program} {T : Tab} {M M' : Mem} {ρ ρ' : Ren} {w w' : World} {H H' : Heap} {t t' : Tm} {c x y : Code} {F : FuncId} {id : Nat}

def XFact (P : Program) (T : Tab) (F : FuncId) (vs : List V) (H : Heap) (R : OR → Prop) : Prop :=
  ∃ r, R r ∧ r ≠ .no ∧ Go.Proofs.Enters P F ∧ ∀ (M : Mem) (ρ : Ren) (w : World) (args : List Value), SR T M ρ H w → relL M ρ vs args → CallOK P T F args.toArray M ρ w r
theorem XFact.mono {vs : List V} {R R' : OR → Prop} (h : XFact P T F vs H R) (hr : ∀ r, R r → R' r) : XFact P T F vs H R' := by
  obtain ⟨r, h1, h2⟩ := h
  exact ⟨r, hr r h1, h2⟩
def EndsX (T : Tab) (fn : Func) (R : OR → Prop) : Out → Prop
  | .norm t H => ∃ v, R (.val v H) ∧ finish T fn t.get H = .val v H
  | .ret t H => ∃ v, R (.val v H) ∧ finish T fn t.get H = .val v H
  | .pan v _ H => R (.pan v H)
  | _ => False
def XBody (P : Program) (T : Tab) (F : FuncId) (vs : List V) (H : Heap) (R : OR → Prop) : Prop :=
  ∃ fn c, T.func F = some fn ∧ fn.body = some c ∧ vs.length ≤ fn.ntmps ∧ Tri P T c (Tm.init fn.ntmps vs) H (EndsX T fn R)

/-! Functions that defer calls. -/
def DefOK (M : Mem) (ρ : Ren) : List (Nat × List V) → List Deferred → Prop
  | [], ds => ds = []
  | (f, vs) :: g, ds => ∃ xs cs r, ds = { target := .fn (.func f) cs.toArray, args := xs.toArray } :: r ∧ relL M ρ vs (xs ++ cs) ∧ DefOK M ρ g r
theorem DefOK.mono : ∀ {g : List (Nat × List V)} {ds : List Deferred} (hM : M.le M') (hρ : ρ <+: ρ') (h : DefOK M ρ g ds), DefOK M' ρ' g ds
  | [], ds, _, _, h => h
  | (f, vs) :: g, ds, hM, hρ, h => by
    obtain ⟨xs, cs, r, h1, h2, h3⟩ := h
    exact ⟨xs, cs, r, h1, relL_mono hM hρ _ _ h2, h3.mono hM hρ⟩
def OutD (T : Tab) (M : Mem) (ρ : Ren) (w : World) (Q : Exit → Act → World → Prop) (g : List (Nat × List V)) : Out → Prop
  | .norm t H' => ∀ a' w' M' ρ', Ext M ρ w M' ρ' w' → relTm M' ρ' t a'.tmps → SR T M' ρ' H' w' → DefOK M' ρ' g a'.defers → Q .normal a' w'
  | .exit id t H' => ∀ a' w' M' ρ', Ext M ρ w M' ρ' w' → relTm M' ρ' t a'.tmps → SR T M' ρ' H' w' → DefOK M' ρ' g a'.defers → Q (.exit id) a' w'
  | .ret t H' => ∀ a' w' M' ρ', Ext M ρ w M' ρ' w' → relTm M' ρ' t a'.tmps → SR T M' ρ' H' w' → DefOK M' ρ' g a'.defers → Q .ret a' w'
  | .pan v t H' => ∀ a' w' M' ρ' x, Ext M ρ w M' ρ' w' → relTw M' ρ' t a'.tmps → rel M' ρ' v x → SR T M' ρ' H' w' → DefOK M' ρ' g a'.defers → Q (.panic [{ v := x, recovered := false }]) a' w'
  | .no => False
theorem OutD.later {Q : Exit → Act → World → Prop} (he : Ext M ρ w M' ρ' w') {g : List (Nat × List V)} {r : Out} (h : OutD T M ρ w Q g r) : OutD T M' ρ' w' Q g r := by
  cases r with
  | norm t H => exact fun a' w2 M2 ρ2 h1 => h a' w2 M2 ρ2 (he.trans h1)
  | exit id t H => exact fun a' w2 M2 ρ2 h1 => h a' w2 M2 ρ2 (he.trans h1)
  | ret t H => exact fun a' w2 M2 ρ2 h1 => h a' w2 M2 ρ2 (he.trans h1)
  | pan v t H => exact fun a' w2 M2 ρ2 x h1 => h a' w2 M2 ρ2 x (he.trans h1)
  | no => exact h
def TriD (P : Program) (T : Tab) (c : Code) (t : Tm) (H : Heap) (g0 : List (Nat × List V)) (Q : Out → List (Nat × List V) → Prop) : Prop :=
  ∃ o g, Q o g ∧ ∀ (a : Act) (w : World) (M : Mem) (ρ : Ren) (R : Exit → Act → World → Prop), SR T M ρ H w → relTm M ρ t a.tmps → DefOK M ρ g0 a.defers → OutD T M ρ w R g o → c.wp P R a w
variable {g g0 : List (Nat × List V)} {Q Q' : Out → List (Nat × List V) → Prop}
theorem TriD.mono (h : TriD P T c t H g0 Q) (hq : ∀ o g, Q o g → Q' o g) : TriD P T c t H g0 Q' := by
  obtain ⟨o, g, h1, h2⟩ := h
  exact ⟨o, g, hq o g h1, h2⟩
theorem TriD.lift (h : Tri P T c t H fun o => Q o g0) : TriD P T c t H g0 Q := by
  obtain ⟨o, h1, h2⟩ := h
  refine ⟨o, g0, h1, fun a w M ρ R hS ht hd k => h2 a w M ρ R hS ht ?_⟩
  cases o with
  | norm t' H' => exact fun a' w' M' ρ' he ht' hS' e => k a' w' M' ρ' he ht' hS' (e ▸ hd.mono he.mem he.pre)
  | exit id t' H' => exact fun a' w' M' ρ' he ht' hS' e => k a' w' M' ρ' he ht' hS' (e ▸ hd.mono he.mem he.pre)
  | ret t' H' => exact fun a' w' M' ρ' he ht' hS' e => k a' w' M' ρ' he ht' hS' (e ▸ hd.mono he.mem he.pre)
  | pan v t' H' => exact fun a' w' M' ρ' x he ht' hx hS' e => k a' w' M' ρ' x he ht' hx hS' (e ▸ hd.mono he.mem he.pre)
  | no => exact k
theorem TriD.seq (h : TriD P T x t H g0 fun o g => match o with | .norm t' H' => TriD P T y t' H' g Q | o => Q o g) : TriD P T (.seq x y) t H g0 Q := by
  obtain ⟨o, g, ho, hx⟩ := h
  cases o with
  | norm t' H' =>
    obtain ⟨o2, g2, h2, hy⟩ := ho
    refine ⟨o2, g2, h2, fun a w M ρ R hS ht hd k => wp_seq (hx a w M ρ _ hS ht hd ?_)⟩
    intro a' w' M' ρ' he ht' hS' hd'
    exact hy a' w' M' ρ' R hS' ht' hd' (k.later he)
  | exit id t' H' => exact ⟨_, g, ho, fun a w M ρ R hS ht hd k => wp_seq (hx a w M ρ _ hS ht hd k)⟩
  | ret t' H' => exact ⟨_, g, ho, fun a w M ρ R hS ht hd k => wp_seq (hx a w M ρ _ hS ht hd k)⟩
  | pan v t' H' => exact ⟨_, g, ho, fun a w M ρ R hS ht hd k => wp_seq (hx a w M ρ _ hS ht hd k)⟩
  | no => exact ⟨.no, g, ho, fun a w M ρ R hS ht hd k => k.elim⟩
theorem TriD.block (h : TriD P T x t H g0 fun o g => match o with | .exit j t' H' => if j = id then Q (.norm t' H') g else Q (.exit j t' H') g | o => Q o g) : TriD P T (.block id x) t H g0 Q := by
  obtain ⟨o, g, ho, hx⟩ := h
  cases o with
  | norm t' H' => exact ⟨_, g, ho, fun a w M ρ R hS ht hd k => wp_block (hx a w M ρ _ hS ht hd k)⟩
  | exit j t' H' =>
    simp only at ho
    by_cases e : j = id
    · rw [if_pos e] at ho
      refine ⟨_, g, ho, fun a w M ρ R hS ht hd k => wp_block (hx a w M ρ _ hS ht hd ?_)⟩
      intro a' w' M' ρ' he ht' hS' hd'
      simp only [Exit.inBlock]
      rw [if_pos e]
      exact k a' w' M' ρ' he ht' hS' hd'
    · rw [if_neg e] at ho
      refine ⟨_, g, ho, fun a w M ρ R hS ht hd k => wp_block (hx a w M ρ _ hS ht hd ?_)⟩
      intro a' w' M' ρ' he ht' hS' hd'
      simp only [Exit.inBlock]
      rw [if_neg e]
      exact k a' w' M' ρ' he ht' hS' hd'
  | ret t' H' => exact ⟨_, g, ho, fun a w M ρ R hS ht hd k => wp_block (hx a w M ρ _ hS ht hd k)⟩
  | pan v t' H' => exact ⟨_, g, ho, fun a w M ρ R hS ht hd k => wp_block (hx a w M ρ _ hS ht hd k)⟩
  | no => exact ⟨.no, g, ho, fun a w M ρ R hS ht hd k => k.elim⟩
theorem evSeqAp_ok (hT : TOk P T) {call : CallF} (hcall : call.Sound P T) (ops : Array Oper) {Q : Exit → Act → World → Prop} (rest : List Oper) : ∀ (l : List Oper) (t : Tm) (H : Heap) (a : Act) (w : World) (M : Mem) (ρ : Ren) (t' : Tm) (H' : Heap), SR T M ρ H w → relTm M ρ t a.tmps →
    evSeq (evOp T call) ops l t H = .norm t' H' →
    (∀ a' w' M' ρ', Ext M ρ w M' ρ' w' → relTm M' ρ' t' a'.tmps → SR T M' ρ' H' w' → a'.defers = a.defers → wpList P ops Q rest a' w') → wpList P ops Q (l ++ rest) a w
  | [], t, H, a, w, M, ρ, t', H', hS, ht, h, k => by
    simp only [evSeq] at h
    cases h
    exact k a w M ρ (Ext.refl _ _ _) ht hS rfl
  | o :: l, t, H, a, w, M, ρ, t', H', hS, ht, h, k => by
    simp only [evSeq, putK_eq, opened_eq] at h
    rw [List.cons_append]
    refine wpList_step fun K hK => ?_
    split at h
    · rename_i hw
      rw [wants_ok ht.2 hw]
      simp only [if_true]
      split at h
      · rename_i v H2 hv
        split at h
        · rename_i hfit
          refine evOp_ok hT hcall hS ht.2 (r := .val v H2) hv ?_
          intro x M' ρ' w' he hx hS'
          refine hK _ _ (evSeqAp_ok hT hcall ops rest l _ H2 _ w' M' ρ' t' H' hS' (put_rel (relTm_mono he.mem he.pre ht) hx o.dst hfit) h ?_)
          intro a' w2 M2 ρ2 he2 ht2 hS2 hd
          rw [put_defers'] at hd
          exact k a' w2 M2 ρ2 (he.trans he2) ht2 hS2 hd
        · cases h
      · cases h
      · cases h
    · rename_i hw
      rw [wants_ok ht.2 hw]
      simp only [Bool.false_eq_true, if_false]
      split at h
      · rename_i hfit
        refine hK _ _ (evSeqAp_ok hT hcall ops rest l _ H _ w M ρ t' H' hS (put_rel ht rel_undef o.dst hfit) h ?_)
        intro a' w2 M2 ρ2 he2 ht2 hS2 hd
        rw [put_defers'] at hd
        exact k a' w2 M2 ρ2 he2 ht2 hS2 hd
      · cases h
    · cases h
def deferTmp (o : Oper) : Option (Operand × List Operand) := match o.op with
  | .defer ⟨.value x, args, _⟩ => some (x, args.toList)
  | _ => none
theorem deferTmp_at {o : Oper} {x : Operand} {l : List Operand} (h : deferTmp o = some (x, l)) : ∃ c : Call, o.op = .defer c ∧ c.callee = .value x ∧ c.args.toList = l := by
  unfold deferTmp at h
  split at h
  · rename_i x' args ts ho
    cases h
    exact ⟨_, ho, rfl, rfl⟩
  · cases h
theorem TriD.reg (hT : TOk P T) {call : CallF} (hC : call.Sound P T) {ops : Array Oper} (q : Nat) {o : Oper} {xo : Operand} {xl : List Operand} {f : FuncId} {caps vs : List V} {t1 t2 : Tm} {H1 H2 : Heap} {xv : Option V} {yv : Option (List V)}
    (hops : ops.toList = ops.toList.take q ++ o :: ops.toList.drop (q + 1)) (hg : o.guard = none) (ho : deferTmp o = some (xo, xl))
    (h1 : evSeq (evOp T call) ops (ops.toList.take q) t H = .norm t1 H1) (hx : ev1 t1.get xo = xv) (hxv : xv = some (.fn f caps)) (hy : evs t1.get xl = yv) (hyv : yv = some vs) (hfit : t1.fits o.dst = true)
    (h2 : evSeq (evOp T call) ops (ops.toList.drop (q + 1)) (t1.put o.dst .un) H1 = .norm t2 H2) (h : Q (.norm t2 H2) ((f, vs ++ caps) :: g0)) : TriD P T (.region id ops false) t H g0 Q := by
  subst hxv hyv
  refine ⟨_, _, h, fun a w M ρ R hS ht hd k => wp_region_list ?_⟩
  rw [hops]
  refine evSeqAp_ok hT hC ops (o :: ops.toList.drop (q + 1)) (ops.toList.take q) t H a w M ρ _ _ hS ht h1 ?_
  intro a' w' M' ρ' he ht' hS' hd'
  obtain ⟨c, k1, k2, k3⟩ := deferTmp_at ho
  refine wpList_step fun K hK => ?_
  have hw : Region.wanted o (yielded ops a'.tmps) = true := by simp [Region.wanted, hg]
  rw [hw]
  simp only [if_true]
  have hv := ev1_rel ht'.2 hx
  simp only [rel] at hv
  obtain ⟨cs, hcv, hcs⟩ := hv
  have hys := evs_rel ht'.2 hy
  have hexec : (execOp a'.eval o).run P w' = .ok (.defer { target := .fn (.func f) cs.toArray, args := c.args.map a'.eval }) w' := by
    simp [execOp, k1, resolve, k2, Deferred.ofValue, hcv]
  unfold Oper.wp
  rw [hexec, Oper.upon_defer]
  have hold : DefOK M' ρ' g0 a'.defers := by rw [hd']; exact hd.mono he.mem he.pre
  refine hK _ _ ?_
  have hargs : c.args.map a'.eval = (xl.map a'.eval).toArray := by apply Array.ext'; simp [k3]
  rw [hargs]
  have e2 := evSeqAp_ok hT hC ops (Q := R) [] (ops.toList.drop (q + 1)) (t1.put o.dst .un) H1 ({ a' with defers := { target := .fn (.func f) cs.toArray, args := (xl.map a'.eval).toArray } :: a'.defers }.put o.dst undef) w' M' ρ' _ _ hS' (put_rel (show relTm M' ρ' t1 ({ a' with defers := { target := .fn (.func f) cs.toArray, args := (xl.map a'.eval).toArray } :: a'.defers } : Act).tmps from ht') rel_undef o.dst hfit) h2 ?_
  · rwa [List.append_nil] at e2
  · intro a2 w2 M2 ρ2 he2 ht2 hS2 hd2
    refine k a2 w2 M2 ρ2 (he.trans he2) ht2 hS2 ?_
    rw [put_defers'] at hd2
    refine ⟨xl.map a'.eval, cs, a'.defers, ?_, relL_mono he2.mem he2.pre _ _ (relL_append hys hcs), hold.mono he2.mem he2.pre⟩
    rw [hd2]

/-! The closure, called behind the body. -/
def modeOf (m : Option V) (y : Value) : FrameMode := match m with
  | none => .returning
  | some _ => .panicking [{ v := y, recovered := false }]
def modeTo (m : Option V) (y : Value) : FrameMode := match m with
  | none => .returning
  | some _ => .panicking [{ v := y, recovered := true }]
def Closes (P : Program) (T : Tab) (f : FuncId) (vs : List V) (m : Option V) (H H2 : Heap) : Prop :=
  Go.Proofs.Enters P f ∧ ∀ (M : Mem) (ρ : Ren) (w : World) (xs : List Value) (y : Value), SR T M ρ H w → relL M ρ vs xs → (∀ u, m = some u → rel M ρ u y) →
    CallsD P f xs.toArray (modeOf m y) w fun e u' w' => ∃ x M' ρ', e = .returned x ∧ u' = modeTo m y ∧ Ext M ρ w M' ρ' w' ∧ SR T M' ρ' H2 w'
def ClosesL (P : Program) (T : Tab) : List (Nat × List V) → Heap → Heap → Prop
  | [], H, H2 => H2 = H
  | (f, vs) :: g, H, H2 => ∃ H1, Closes P T f vs none H H1 ∧ ClosesL P T g H1 H2
def EndsD (P : Program) (T : Tab) (fn : Func) (R : OR → Prop) : Out → List (Nat × List V) → Prop
  | .norm t H, g => ∃ H2 v, ClosesL P T g H H2 ∧ finish T fn t.get H2 = .val v H2 ∧ R (.val v H2)
  | .ret t H, g => ∃ H2 v, ClosesL P T g H H2 ∧ finish T fn t.get H2 = .val v H2 ∧ R (.val v H2)
  | .pan v _ H, [] => R (.pan v H)
  | .pan u t H, [(f, cs)] => fn.results.toList.all isCell = true ∧ ∃ H2 v, Closes P T f cs (some u) H H2 ∧ finish T fn t.get H2 = .val v H2 ∧ R (.val v H2)
  | _, _ => False
def DBody (P : Program) (T : Tab) (F : FuncId) (vs : List V) (H : Heap) (R : OR → Prop) : Prop :=
  ∃ fn c, T.func F = some fn ∧ fn.body = some c ∧ vs.length ≤ fn.ntmps ∧ TriD P T c (Tm.init fn.ntmps vs) H [] (EndsD P T fn R)
theorem invoke_closed {f : FuncId} {xs cs : List Value} (h : Go.Proofs.Enters P f) (w : World) : (invoke (.fn (.func f) cs.toArray) xs.toArray).run P w = .ok (.enter f (xs ++ cs).toArray) w := by
  have := h (xs.toArray ++ cs.toArray) w
  have e : (xs ++ cs).toArray = xs.toArray ++ cs.toArray := by simp
  rw [e]
  simpa [invoke] using this
theorem leaves_closed (hT : TOk P T) {fn : Func} {f : FuncId} {cs : List V} {m : Option V} {H2 : Heap} {a : Act} {xs ys : List Value} {y : Value} {v : V} (hc : Closes P T f cs m H H2) (hS : SR T M ρ H w) (hx : relL M ρ cs (xs ++ ys)) (hy : ∀ u, m = some u → rel M ρ u y) (hf : ∀ M' ρ' w', Ext M ρ w M' ρ' w' → SR T M' ρ' H2 w' → ∃ x, (results fn a.tmps).run P w' = .ok x w' ∧ rel M' ρ' v x) {R : Ending → World → Prop}
    (k : ∀ x M' ρ' w', Ext M ρ w M' ρ' w' → rel M' ρ' v x → SR T M' ρ' H2 w' → R (.returned x) w') : Leaves P fn a.tmps R [{ target := .fn (.func f) ys.toArray, args := xs.toArray }] (modeOf m y) w := by
  refine leaves_cons (by cases m <;> simp [modeOf]) (invoke_closed hc.1 w) ((hc.2 M ρ w (xs ++ ys) y hS hx hy).mono ?_)
  rintro e u' w' ⟨x, M', ρ', rfl, rfl, he, hS'⟩
  have hm : settle (modeTo m y) = .returning := by cases m <;> simp [modeTo, settle]
  show Leaves P fn a.tmps R [] (settle (modeTo m y)) w'
  rw [hm]
  obtain ⟨z, hz, hr⟩ := hf M' ρ' w' he hS'
  exact ⟨z, hz, k z M' ρ' w' he hr hS'⟩
theorem leaves_all (hT : TOk P T) {fn : Func} {a : Act} {H2 : Heap} {v : V} {t : Tm} (hfin : finish T fn t.get H2 = .val v H2) {R : Ending → World → Prop} : ∀ (g : List (Nat × List V)) (ds : List Deferred) (H : Heap) (w : World) (M : Mem) (ρ : Ren), ClosesL P T g H H2 → SR T M ρ H w → DefOK M ρ g ds → relTm M ρ t a.tmps →
    (∀ x M' ρ' w', Ext M ρ w M' ρ' w' → rel M' ρ' v x → SR T M' ρ' H2 w' → R (.returned x) w') → Leaves P fn a.tmps R ds .returning w
  | [], ds, H, w, M, ρ, hc, hS, hd, ht, k => by
    have hc : H2 = H := hc
    subst hc
    have hd : ds = [] := hd
    subst hd
    obtain ⟨_, z, hz, hr⟩ := results_ok hT hS ht.2 hfin
    exact ⟨z, hz, k z M ρ w (Ext.refl _ _ _) hr hS⟩
  | (f, vs) :: g, ds, H, w, M, ρ, hc, hS, hd, ht, k => by
    obtain ⟨H1, hc1, hc2⟩ := hc
    obtain ⟨xs, cs, r, rfl, hx, hd2⟩ := hd
    refine leaves_cons (by simp) (invoke_closed hc1.1 w) ((hc1.2 M ρ w (xs ++ cs) undef hS hx (by simp)).mono ?_)
    rintro e u' w' ⟨x, M', ρ', rfl, rfl, he, hS'⟩
    show Leaves P fn a.tmps R r (settle .returning) w'
    exact leaves_all hT hfin g r H1 w' M' ρ' hc2 hS' (hd2.mono he.mem he.pre) (relTm_mono he.mem he.pre ht) fun x M2 ρ2 w2 he2 => k x M2 ρ2 w2 (he.trans he2)
theorem DBody.fact (hT : TOk P T) {vs : List V} {R : OR → Prop} (h : DBody P T F vs H R) : XFact P T F vs H R := by
  obtain ⟨fn, c, hfn, hc, hle, o, g, ho, ht⟩ := h
  obtain ⟨hf, hent⟩ := hT.func F fn c hfn hc
  have key : ∀ (r : OR), r ≠ .no → (∀ (M : Mem) (ρ : Ren) (w : World) (S : Ending → World → Prop), (match r with
      | .val v H' => ∀ x M' ρ' w', Ext M ρ w M' ρ' w' → rel M' ρ' v x → SR T M' ρ' H' w' → S (.returned x) w'
      | .pan v H' => ∀ x M' ρ' w', Ext M ρ w M' ρ' w' → rel M' ρ' v x → SR T M' ρ' H' w' → S (.panicked [{ v := x, recovered := false }]) w'
      | .no => False) → OutD T M ρ w (bodyPostD P fn S) g o) → R r → XFact P T F vs H R := by
    intro r hne hk hR
    refine ⟨r, hR, hne, hent, fun M ρ w args hS hr => ?_⟩
    cases r with
    | no => exact absurd rfl hne
    | val v H' =>
      refine calls_of_wp_defers hf hc (ht { tmps := args.toArray ++ Array.replicate (fn.ntmps - args.toArray.size) undef, defers := [] } w M ρ _ hS (relTm_init hr hle) rfl (hk M ρ w _ ?_))
      exact fun x M' ρ' w' he hx hS' => ⟨x, M', ρ', rfl, he, hx, hS'⟩
    | pan v H' =>
      refine calls_of_wp_defers hf hc (ht { tmps := args.toArray ++ Array.replicate (fn.ntmps - args.toArray.size) undef, defers := [] } w M ρ _ hS (relTm_init hr hle) rfl (hk M ρ w _ ?_))
      exact fun x M' ρ' w' he hx hS' => ⟨x, M', ρ', rfl, he, hx, hS'⟩
  cases o with
  | norm t' H' =>
    obtain ⟨H2, v, hcl, hfin, hR⟩ := ho
    refine key (.val v H2) (by simp) (fun M ρ w S hk => ?_) hR
    intro a' w' M' ρ' he ht' hS' hd
    exact leaves_all hT hfin g a'.defers H' w' M' ρ' hcl hS' hd ht' fun x M2 ρ2 w2 he2 => hk x M2 ρ2 w2 (he.trans he2)
  | ret t' H' =>
    obtain ⟨H2, v, hcl, hfin, hR⟩ := ho
    refine key (.val v H2) (by simp) (fun M ρ w S hk => ?_) hR
    intro a' w' M' ρ' he ht' hS' hd
    exact leaves_all hT hfin g a'.defers H' w' M' ρ' hcl hS' hd ht' fun x M2 ρ2 w2 he2 => hk x M2 ρ2 w2 (he.trans he2)
  | pan u t' H' =>
    match g, ho with
    | [], ho =>
      refine key (.pan u H') (by simp) (fun M ρ w S hk => ?_) ho
      intro a' w' M' ρ' x he ht' hx hS' hd
      show Leaves P fn a'.tmps S a'.defers (.panicking _) w'
      rw [show a'.defers = [] from hd]
      exact hk x M' ρ' w' he hx hS'
    | [(f, cs)], ho =>
      obtain ⟨hcells, H2, v, hcl, hfin, hR⟩ := ho
      refine key (.val v H2) (by simp) (fun M ρ w S hk => ?_) hR
      intro a' w' M' ρ' y he ht' hy hS' hd
      obtain ⟨xs, ys, r, hd, hxs, hr⟩ := hd
      have hr : r = [] := hr
      subst hr
      show Leaves P fn a'.tmps S a'.defers (.panicking _) w'
      rw [hd]
      exact leaves_closed (m := some u) (y := y) hT hcl hS' hxs (fun u' e => by cases e; exact hy) (fun M3 ρ3 w3 e3 s3 => (results_okw hT s3 (relTw_mono e3.mem e3.pre ht') hcells hfin).2) fun x M2 ρ2 w2 he2 => hk x M2 ρ2 w2 (he.trans he2)
    | _ :: _ :: _, ho => exact ho.elim
  | exit id t' H' => cases g <;> exact ho.elim
  | no => cases g <;> exact ho.elim
theorem XBody.fact (hT : TOk P T) {vs : List V} {R : OR → Prop} (h : XBody P T F vs H R) : XFact P T F vs H R := by
  obtain ⟨fn, c, h1, h2, h3, h4⟩ := h
  refine DBody.fact hT ⟨fn, c, h1, h2, h3, TriD.lift (h4.mono fun o ho => ?_)⟩
  cases o with
  | norm t H => obtain ⟨v, k1, k2⟩ := ho; exact ⟨H, v, rfl, k2, k1⟩
  | ret t H => obtain ⟨v, k1, k2⟩ := ho; exact ⟨H, v, rfl, k2, k1⟩
  | pan v t H => exact ho
  | exit id t H => exact ho
  | no => exact ho
theorem spec_x (hT : TOk P T) (F : FuncId) (D : Nat → List V → Heap → Prop) (R : List V → Heap → OR → Prop)
    (h : ∀ k vs H, D k vs H → ∀ g, SpecOK P T F g → (∀ j, j < k → ∀ us J, D j us J → ∃ r, R us J r ∧ g us J = r) → XFact P T F vs H (R vs H)) (K : Nat) :
    ∃ g, SpecOK P T F g ∧ ∀ j, j < K → ∀ vs H, D j vs H → ∃ r, R vs H r ∧ g vs H = r := by
  classical
  induction K with
  | zero => exact ⟨fun _ _ => .no, fun _ _ _ e hr => absurd e.symm hr, fun j hj => absurd hj (Nat.not_lt_zero j)⟩
  | succ K ih =>
    obtain ⟨g, hg, hgs⟩ := ih
    have hx : ∀ vs H, D K vs H → ∃ r, R vs H r ∧ r ≠ .no ∧ Go.Proofs.Enters P F ∧ ∀ (M : Mem) (ρ : Ren) (w : World) (args : List Value), SR T M ρ H w → relL M ρ vs args → CallOK P T F args.toArray M ρ w r := fun vs H hd => h K vs H hd g hg hgs
    refine ⟨fun vs H => if hd : D K vs H then (hx vs H hd).choose else g vs H, ?_, ?_⟩
    · intro vs H r hr hne
      simp only at hr
      split at hr
      · rename_i hd
        obtain ⟨_, _, h2⟩ := (hx vs H hd).choose_spec
        subst hr
        exact h2
      · exact hg vs H r hr hne
    · intro j hj vs H hd
      by_cases hk : D K vs H
      · exact ⟨_, (hx vs H hk).choose_spec.1, dif_pos hk⟩
      · have : j < K := by
          rcases Nat.lt_succ_iff_lt_or_eq.1 hj with h1 | h1
          · exact h1
          · subst h1; exact absurd hd hk
        obtain ⟨r, h1, h2⟩ := hgs j this vs H hd
        exact ⟨r, h1, (dif_neg hk).trans h2⟩
theorem XFact.spec (hT : TOk P T) {D : List V → Heap → Prop} {R : List V → Heap → OR → Prop} (h : ∀ vs H, D vs H → XFact P T F vs H (R vs H)) : ∃ g, SpecOK P T F g ∧ ∀ vs H, D vs H → ∃ r, R vs H r ∧ g vs H = r := by
  obtain ⟨g, h1, h2⟩ := spec_x (P := P) (T := T) hT F (fun _ => D) R (fun _ vs H hd _ _ _ => h vs H hd) 1
  exact ⟨g, h1, h2 0 (by omega)⟩
end
open Go
section
variable {P : Program} {T : Tab} {t : Tm} {H : Heap} {c x y : Code} {Q Q' : Out → Prop} {id : Nat}
def NTri (P : Program) (T : Tab) (c : Code) (t : Tm) (H : Heap) (Q : Out → Prop) : Prop :=
  ∀ (a : Act) (w : World) (M : Mem) (ρ : Ren) (R : Exit → Act → World → Prop), SR T M ρ H w → relTm M ρ t a.tmps → (∀ o, Q o → OutOK T M ρ w R a.defers o) → c.wp P R a w
theorem NTri.mono (h : NTri P T c t H Q) (hq : ∀ o, Q o → Q' o) : NTri P T c t H Q' := fun a w M ρ R hS ht k => h a w M ρ R hS ht fun o ho => k o (hq o ho)
theorem Tri.n (h : Tri P T c t H Q) : NTri P T c t H Q := by
  obtain ⟨o, h1, h2⟩ := h
  exact fun a w M ρ R hS ht k => h2 a w M ρ R hS ht (k o h1)
def inSeqN (P : Program) (T : Tab) (y : Code) (Q : Out → Prop) : Out → Prop
  | .norm t H => NTri P T y t H Q
  | o => Q o
theorem NTri.seq (h : NTri P T x t H (inSeqN P T y Q)) : NTri P T (.seq x y) t H Q := by
  intro a w M ρ R hS ht k
  refine wp_seq (h a w M ρ _ hS ht fun o ho => ?_)
  cases o with
  | norm t' H' =>
    intro a' w' M' ρ' he ht' hS' hd
    refine ho a' w' M' ρ' R hS' ht' fun o2 h2 => ?_
    rw [hd]
    exact (k o2 h2).later he
  | exit id t' H' => exact k _ ho
  | ret t' H' => exact k _ ho
  | pan v t' H' => exact k _ ho
  | no => exact (k _ ho).elim
def inBlkN (id : Nat) (Q : Out → Prop) : Out → Prop
  | .exit j t H => if j = id then Q (.norm t H) else Q (.exit j t H)
  | o => Q o
theorem NTri.block (h : NTri P T x t H (inBlkN id Q)) : NTri P T (.block id x) t H Q := by
  intro a w M ρ R hS ht k
  refine wp_block (h a w M ρ _ hS ht fun o ho => ?_)
  cases o with
  | norm t' H' => exact k _ ho
  | exit j t' H' =>
    simp only [inBlkN] at ho
    by_cases e : j = id
    · rw [if_pos e] at ho
      intro a' w' M' ρ' he ht' hS' hd
      simp only [Exit.inBlock]
      rw [if_pos e]
      exact k _ ho a' w' M' ρ' he ht' hS' hd
    · rw [if_neg e] at ho
      intro a' w' M' ρ' he ht' hS' hd
      simp only [Exit.inBlock]
      rw [if_neg e]
      exact k _ ho a' w' M' ρ' he ht' hS' hd
  | ret t' H' => exact k _ ho
  | pan v t' H' => exact k _ ho
  | no => exact (k _ ho).elim
theorem NTri.cond {g : Operand} {b : Bool} {o : Option V} (hg : ev1 t.get g = o) (ho : o = some (.b b)) (h1 : b = true → NTri P T x t H Q) (h2 : b = false → NTri P T y t H Q) : NTri P T (.cond g x y) t H Q := by
  subst ho
  intro a w M ρ R hS ht k
  have := ev1_rel ht.2 hg
  simp only [rel] at this
  cases b with
  | true => exact wp_cond_true this (h1 rfl a w M ρ R hS ht k)
  | false => exact wp_cond_false this (h2 rfl a w M ρ R hS ht k)
def NBody (P : Program) (T : Tab) (F : FuncId) (vs : List V) (r : Res) : Prop :=
  ∃ fn c, T.func F = some fn ∧ fn.body = some c ∧ vs.length ≤ fn.ntmps ∧ NTri P T c (Tm.init fn.ntmps vs) [] (Ends T fn r)
theorem con_of_nbody (hT : TOk P T) (hp : T.Plain) {f : FuncId} {vs : List V} {r : Res} (h : NBody P T f vs r) (h1 : nlL vs = true) (h2 : r.nl = true) :
    Go.Proofs.Enters P f ∧ ∀ (H : Heap) (M : Mem) (ρ : Ren) (w : World) (args : List Value), SR T M ρ H w → relL M ρ vs args → CallOK P T f args.toArray M ρ w (r.at H) := by
  obtain ⟨fn, c, hfn, hc, hle, ht⟩ := h
  obtain ⟨hf, hent⟩ := hT.func f fn c hfn hc
  refine ⟨hent, fun H M ρ w args hS hr => ?_⟩
  have hr0 := nlL_rel (σ := []) vs args h1 hr
  have key : Calls P f args.toArray w fun e w' => ∃ M' σ J, SR T M' σ J w' ∧ Ext M [] w M' σ w' ∧ (match r with | .val v => ∃ x, e = .returned x ∧ rel M' σ v x | .pan v => ∃ x, e = .panicked [{ v := x, recovered := false }] ∧ rel M' σ v x) := by
    refine calls_of_wp hf hc (ht { tmps := args.toArray ++ Array.replicate (fn.ntmps - args.toArray.size) undef, defers := [] } w M [] _ (hS.forget hp) (relTm_init hr0 hle) fun o ho => ?_)
    cases o with
    | norm t' H' =>
      cases r with
      | pan v => exact ho.elim
      | val v =>
        intro a' w' M' ρ' he ht' hS' hd
        obtain ⟨_, x, hx, hxr⟩ := results_ok hT hS' ht'.2 ho
        exact ⟨hd, x, hx, M', ρ', H', hS', he, x, rfl, hxr⟩
    | ret t' H' =>
      cases r with
      | pan v => exact ho.elim
      | val v =>
        intro a' w' M' ρ' he ht' hS' hd
        obtain ⟨_, x, hx, hxr⟩ := results_ok hT hS' ht'.2 ho
        exact ⟨hd, x, hx, M', ρ', H', hS', he, x, rfl, hxr⟩
    | pan v t' H' =>
      cases r with
      | val v => exact ho.elim
      | pan u =>
        intro a' w' M' ρ' x he _ hx hS' hd
        cases ho
        exact ⟨hd, M', ρ', H', hS', he, x, rfl, hx⟩
    | exit id t' H' => cases r <;> exact ho.elim
    | no => cases r <;> exact ho.elim
  cases r with
  | val v =>
    refine Calls.mono key ?_
    rintro e w' ⟨M', σ, J, hk, he, x, rfl, hx⟩
    exact ⟨x, M', ρ, rfl, he.recall, nl_rel v x h2 hx, hS.recall hk he⟩
  | pan v =>
    refine Calls.mono key ?_
    rintro e w' ⟨M', σ, J, hk, he, x, rfl, hx⟩
    exact ⟨x, M', ρ, rfl, he.recall, nl_rel v x h2 hx, hS.recall hk he⟩
theorem spec_npure (hT : TOk P T) (hp : T.Plain) (F : FuncId) (D : List V → Res → Prop)
    (h : ∀ vs r, D vs r → nlL vs = true ∧ r.nl = true ∧ NBody P T F vs r) : ∃ g, SpecOK P T F g ∧ ∀ vs, (∃ r, D vs r) → ∃ r, D vs r ∧ ∀ H, g vs H = r.at H := by
  classical
  refine ⟨fun vs H => if hd : ∃ r, D vs r then hd.choose.at H else .no, ?_, ?_⟩
  · intro vs H r hr hne
    simp only at hr
    split at hr
    · rename_i hd
      obtain ⟨h1, h2, h3⟩ := h vs _ hd.choose_spec
      obtain ⟨h4, h5⟩ := con_of_nbody hT hp h3 h1 h2
      subst hr
      exact ⟨h4, h5 H⟩
    · exact absurd hr.symm hne
  · intro vs hd
    exact ⟨_, hd.choose_spec, fun H => dif_pos hd⟩
end
end Go.Ev
