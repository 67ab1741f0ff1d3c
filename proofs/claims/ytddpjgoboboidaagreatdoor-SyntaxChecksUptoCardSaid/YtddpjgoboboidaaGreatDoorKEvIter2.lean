/- What the tables say of each type. Which equations the walks are reckoned with. Trees as values: the tree of a node, its size, its depth. Walks over the small functions of the trees. Walks over the searches in rows. Walks over the counts of nodes. The rounds of a range over a function: the body is called by yield, the triples go over. Triples for loops over functions, facts of functions on heaps, regions that draw their order and turn the heap. -/
import Derived.Test.YtddpjgoboboidaaGreatDoorKTz
import Derived.Test.YtddpjgoboboidaaGreatDoorKEvFz
import Derived.RangeFuncNested
import Derived.RangeFuncLeaves
import Derived.TacticsIn
import Derived.LoopNIn
namespace Go.Ev
open Go Go.Proofs
set_option linter.unusedSimpArgs false
set_option linter.unusedVariables false
set_option maxRecDepth 100000
@[simp] theorem tU (t : TypeId) : TT.und t = Tryz.prog.underlying t := rfl
attribute [simp] Tryz.underlying0 Tryz.underlying1 Tryz.underlying2 Tryz.underlying3 Tryz.underlying4 Tryz.underlying5 Tryz.underlying6 Tryz.underlying7 Tryz.underlying8 Tryz.underlying9 Tryz.underlying10 Tryz.underlying11 Tryz.underlying12 Tryz.underlying13 Tryz.underlying14 Tryz.underlying15 Tryz.underlying16 Tryz.underlying17 Tryz.underlying18 Tryz.underlying19 Tryz.underlying20 Tryz.underlying21 Tryz.underlying22 Tryz.underlying23 Tryz.underlying24 Tryz.underlying25 Tryz.underlying26 Tryz.underlying27 Tryz.underlying28 Tryz.underlying29 Tryz.underlying30 Tryz.underlying31 Tryz.underlying32 Tryz.underlying33 Tryz.underlying34 Tryz.underlying35 Tryz.underlying36 Tryz.underlying37 Tryz.underlying38 Tryz.underlying39 Tryz.underlying40 Tryz.underlying41 Tryz.underlying42 Tryz.underlying43 Tryz.underlying44 Tryz.underlying45 Tryz.underlying46 Tryz.underlying47 Tryz.underlying48 Tryz.underlying49 Tryz.underlying50 Tryz.underlying51 Tryz.underlying52 Tryz.underlying53 Tryz.underlying54 Tryz.underlying55 Tryz.underlying56 Tryz.underlying57 Tryz.underlying58 Tryz.underlying59 Tryz.underlying60 Tryz.underlying61 Tryz.underlying62 Tryz.underlying63 Tryz.underlying64 Tryz.underlying65 Tryz.underlying66 Tryz.underlying67 Tryz.underlying68 Tryz.underlying69 Tryz.underlying70 Tryz.underlying71 Tryz.underlying72 Tryz.underlying73 Tryz.underlying74 Tryz.underlying75 Tryz.underlying76 Tryz.underlying77 Tryz.underlying78 Tryz.underlying79 Tryz.underlying80 Tryz.underlying81 Tryz.underlying82 Tryz.underlying83 Tryz.underlying84 Tryz.underlying85 Tryz.underlying86 Tryz.underlying87 Tryz.underlying88 Tryz.underlying89 Tryz.underlying90 Tryz.underlying91 Tryz.underlying92 Tryz.underlying93 Tryz.underlying94 Tryz.underlying95 Tryz.underlying96 Tryz.underlying97 Tryz.underlying98 Tryz.underlying99 Tryz.underlying100 Tryz.underlying101 Tryz.underlying102 Tryz.underlying103 Tryz.underlying104 Tryz.underlying105 Tryz.underlying106 Tryz.underlying107 Tryz.underlying108 Tryz.underlying109 Tryz.underlying110 Tryz.underlying111 Tryz.underlying112 Tryz.underlying113 Tryz.underlying114 Tryz.underlying115 Tryz.underlying116 Tryz.underlying117 Tryz.underlying118 Tryz.underlying119 Tryz.underlying120 Tryz.underlying121 Tryz.underlying122 Tryz.underlying123 Tryz.underlying124 Tryz.underlying125 Tryz.underlying126 Tryz.underlying127 Tryz.underlying128 Tryz.underlying129 Tryz.underlying130 Tryz.underlying131 Tryz.underlying132 Tryz.underlying133 Tryz.underlying134 Tryz.underlying135 Tryz.underlying136 Tryz.underlying137 Tryz.underlying138 Tryz.underlying139 Tryz.underlying140 Tryz.underlying141 Tryz.underlying142 Tryz.underlying143 Tryz.underlying144 Tryz.underlying145 Tryz.underlying146 Tryz.underlying147 Tryz.underlying148 Tryz.underlying149 Tryz.underlying150 Tryz.underlying151 Tryz.underlying152 Tryz.underlying153 Tryz.underlying154 Tryz.underlying155 Tryz.underlying156 Tryz.underlying157 Tryz.underlying158 Tryz.underlying159 Tryz.underlying160 Tryz.underlying161 Tryz.underlying162 Tryz.underlying163 Tryz.underlying164 Tryz.underlying165 Tryz.underlying166 Tryz.underlying167 Tryz.underlying168 Tryz.underlying169 Tryz.underlying170 Tryz.underlying171 Tryz.underlying172 Tryz.underlying173 Tryz.underlying174 Tryz.underlying175 Tryz.underlying176 Tryz.underlying177 Tryz.underlying178 Tryz.underlying179 Tryz.underlying180 Tryz.underlying181 Tryz.underlying182 Tryz.underlying183 Tryz.underlying184 Tryz.underlying185 Tryz.underlying186 Tryz.underlying187 Tryz.underlying188 Tryz.underlying189 Tryz.underlying190 Tryz.underlying191 Tryz.underlying192 Tryz.underlying193 Tryz.underlying194 Tryz.underlying195 Tryz.underlying196 Tryz.underlying197 Tryz.underlying198 Tryz.underlying199 Tryz.underlying200 Tryz.underlying201 Tryz.underlying202 Tryz.underlying203 Tryz.underlying204 Tryz.underlying205
@[simp] theorem tS3 : TT.size 3 = some 1 := rfl
@[simp] theorem tB3 : TT.bytes 3 = some 8 := rfl
@[simp] theorem tZ3 : TT.zero 3 = some (.i .i64 0) := rfl
@[simp] theorem tS4 : TT.size 4 = some 1 := rfl
@[simp] theorem tB4 : TT.bytes 4 = some 1 := rfl
@[simp] theorem tZ4 : TT.zero 4 = some (.b false) := rfl
@[simp] theorem tS5 : TT.size 5 = some 1 := rfl
@[simp] theorem tB5 : TT.bytes 5 = some 1 := rfl
@[simp] theorem tZ5 : TT.zero 5 = some (.i .u8 0) := rfl
@[simp] theorem tS7 : TT.size 7 = some 4 := rfl
@[simp] theorem tS8 : TT.size 8 = some 4 := rfl
@[simp] theorem tS9 : TT.size 9 = some 1 := rfl
@[simp] theorem tB9 : TT.bytes 9 = some 16 := rfl
@[simp] theorem tZ9 : TT.zero 9 = some (.s []) := rfl
@[simp] theorem tS13 : TT.size 13 = some 2 := rfl
@[simp] theorem tS14 : TT.size 14 = some 2 := rfl
@[simp] theorem tS22 : TT.size 22 = some 1 := rfl
@[simp] theorem tB22 : TT.bytes 22 = some 24 := rfl
@[simp] theorem tZ22 : TT.zero 22 = some (.nils) := rfl
@[simp] theorem tS23 : TT.size 23 = some 3 := rfl
@[simp] theorem tS24 : TT.size 24 = some 3 := rfl
@[simp] theorem tB24 : TT.bytes 24 = some 48 := rfl
@[simp] theorem tZ24 : TT.zero 24 = some (.agg [.i .i64 0, .s [], .nils]) := rfl
@[simp] theorem tS54 : TT.size 54 = some 5 := rfl
@[simp] theorem tS55 : TT.size 55 = some 5 := rfl
@[simp] theorem tS56 : TT.size 56 = some 285 := rfl
@[simp] theorem tS58 : TT.size 58 = some 285 := rfl
@[simp] theorem tS59 : TT.size 59 = some 285 := rfl
@[simp] theorem tS75 : TT.size 75 = some 2 := rfl
@[simp] theorem tS76 : TT.size 76 = some 2 := rfl
@[simp] theorem tS77 : TT.size 77 = some 287 := rfl
@[simp] theorem tS78 : TT.size 78 = some 287 := rfl
@[simp] theorem tS81 : TT.size 81 = some 256 := rfl
@[simp] theorem tS87 : TT.size 87 = some 2 := rfl
@[simp] theorem tS88 : TT.size 88 = some 2 := rfl
@[simp] theorem tS89 : TT.size 89 = some 32 := rfl
@[simp] theorem tS107 : TT.size 107 = some 2 := rfl
@[simp] theorem tS108 : TT.size 108 = some 2 := rfl
@[simp] theorem tS121 : TT.size 121 = some 1 := rfl
@[simp] theorem tB121 : TT.bytes 121 = some 24 := rfl
@[simp] theorem tZ121 : TT.zero 121 = some (.nils) := rfl
@[simp] theorem tS124 : TT.size 124 = some 4 := rfl
@[simp] theorem tS125 : TT.size 125 = some 4 := rfl
@[simp] theorem tB125 : TT.bytes 125 = some 40 := rfl
@[simp] theorem tZ125 : TT.zero 125 = some (.agg [.i .i64 0, .s [], .i .i64 0, .b false]) := rfl
@[simp] theorem tS131 : TT.size 131 = some 3 := rfl
@[simp] theorem tS132 : TT.size 132 = some 3 := rfl
@[simp] theorem tS134 : TT.size 134 = some 3 := rfl
@[simp] theorem tS135 : TT.size 135 = some 3 := rfl
@[simp] theorem tS137 : TT.size 137 = some 3 := rfl
@[simp] theorem tS138 : TT.size 138 = some 3 := rfl
@[simp] theorem tS143 : TT.size 143 = some 256 := rfl
@[simp] theorem tS144 : TT.size 144 = some 256 := rfl
@[simp] theorem tS180 : TT.size 180 = some 24 := rfl
@[simp] theorem tS186 : TT.size 186 = some 20 := rfl
@[simp] theorem tS187 : TT.size 187 = some 65 := rfl
@[simp] theorem tS191 : TT.size 191 = some 32 := rfl
@[simp] theorem tS192 : TT.size 192 = some 64 := rfl
@[simp] theorem tS193 : TT.size 193 = some 4 := rfl
@[simp] theorem tS194 : TT.size 194 = some 4 := rfl
@[simp] theorem tS195 : TT.size 195 = some 0 := rfl
@[simp] theorem tS196 : TT.size 196 = some 0 := rfl
@[simp] theorem tS197 : TT.size 197 = some 0 := rfl
@[simp] theorem tS204 : TT.size 204 = some 11 := rfl
@[simp] theorem tS205 : TT.size 205 = some 11 := rfl
attribute [simp] evOp ev1 evs evParts evCall evLen evFieldAddr evField addOff loadA storeA cellsAt pickAt isAggT cut splice evBin evInt evStr evEqT evEq evUn evConvO evConvH evConv evIndexAddr evIndex evSlice bound lift get_put get_none ofVal ofSc ofScs fSp_eq setK_eq newB_eq setB_eq V.cells flat eqU_eq subU_eq nthU_eq Op.intDiv evBuild fillV placesOf Res.at fits_some fits_none Nat.blt_eq
theorem endsE {fn : Func} {t : Tm} {H : Heap} {x : OR} {v : V} {R : Res → Prop} (hf : finish TT fn t.get H = x) (hx : x = .val v H) (hr : R (.val v)) : ∃ r, R r ∧ Ends TT fn r (.ret t H) :=
  ⟨_, hr, hf.trans hx⟩
theorem endsH {fn : Func} {t : Tm} {H : Heap} {x : OR} {v : V} {R : V → Heap → Prop} (hf : finish TT fn t.get H = x) (hx : x = .val v H) (hr : R v H) : EndsH TT fn R (.ret t H) :=
  ⟨v, hr, hf.trans hx⟩
theorem gO {step : Oper → Env → Heap → OR} {ops : Array Oper} {o : Oper} {r : List Oper} {v : V} {out : Out} {t : Tm} {H H' : Heap} {x : OR} (hs : step o t.get H = x) (h : evSeq step ops r (t.put o.dst v) H' = out) (hw : wants ops o t.get = some true := by exact rfl) (hx : x = .val v H' := by exact rfl) (hf : t.fits o.dst = true := by simp [*]) : evSeq step ops (o :: r) t H = out := evSeq_go hw hs hx hf h
theorem gW {step : Oper → Env → Heap → OR} {ops : Array Oper} {o : Oper} {r : List Oper} {v : V} {out : Out} {t : Tm} {H H' : Heap} {x : OR} (hw : wants ops o t.get = some true) (hs : step o t.get H = x) (h : evSeq step ops r (t.put o.dst v) H' = out) (hx : x = .val v H' := by exact rfl) (hf : t.fits o.dst = true := by simp [*]) : evSeq step ops (o :: r) t H = out := evSeq_go hw hs hx hf h
theorem gF {step : Oper → Env → Heap → OR} {ops : Array Oper} {o : Oper} {r : List Oper} {out : Out} {t : Tm} {H : Heap} (hw : wants ops o t.get = some false) (h : evSeq step ops r (t.put o.dst .un) H = out) (hf : t.fits o.dst = true := by simp [*]) : evSeq step ops (o :: r) t H = out := evSeq_off hw hf h
theorem oA {step : Oper → Env → Heap → OR} {ops : Array Oper} {o : Oper} {r : List Oper} {v : V} {out : Out} {t : Tm} {H H' : Heap} {x : OR} (h : evSeq step ops r (t.put o.dst v) H' = out) (hs : step o t.get H = x := by simp [*] <;> rfl) (hw : wants ops o t.get = some true := by exact rfl) (hx : x = .val v H' := by exact rfl) (hf : t.fits o.dst = true := by simp [*]) : evSeq step ops (o :: r) t H = out := evSeq_go hw hs hx hf h
theorem oB {step : Oper → Env → Heap → OR} {ops : Array Oper} {o : Oper} {r : List Oper} {v : V} {out : Out} {t : Tm} {H H' : Heap} {x : OR} (h : evSeq step ops r (t.put o.dst v) H' = out) (hw : wants ops o t.get = some true := by simp [wants, *]) (hs : step o t.get H = x := by simp [*] <;> rfl) (hx : x = .val v H' := by exact rfl) (hf : t.fits o.dst = true := by simp [*]) : evSeq step ops (o :: r) t H = out := evSeq_go hw hs hx hf h
theorem oC {step : Oper → Env → Heap → OR} {ops : Array Oper} {o : Oper} {r : List Oper} {out : Out} {t : Tm} {H : Heap} (h : evSeq step ops r (t.put o.dst .un) H = out) (hw : wants ops o t.get = some false := by simp [wants, *]) (hf : t.fits o.dst = true := by simp [*]) : evSeq step ops (o :: r) t H = out := evSeq_off hw hf h
theorem rN {call : CallF} (hC : call.Sound Tryz.prog TT) {id : Nat} {ops : Array Oper} {t t' : Tm} {H H' : Heap} {Q : Out → Prop} (he : evSeq (evOp TT call) ops ops.toList t H = .norm t' H') (h : Q (.norm t' H')) : Tri Tryz.prog TT (.region id ops false) t H Q := Tri.regN TT_ok hC (go_false he) h
theorem rS {call : CallF} (hC : call.Sound Tryz.prog TT) {id : Nat} {ops : Array Oper} {c : Code} {t t' : Tm} {H H' : Heap} {Q : Out → Prop} (he : evSeq (evOp TT call) ops ops.toList t H = .norm t' H') (h : Tri Tryz.prog TT c t' H' Q) : Tri Tryz.prog TT (.seq (.region id ops false) c) t H Q := Tri.seq' (rN hC he h)
theorem cT {g : Operand} {x z : Code} {o : Option V} {t : Tm} {H : Heap} {Q : Out → Prop} (hg : ev1 t.get g = o) (h : Tri Tryz.prog TT x t H Q) (ho : o = some (.b true) := by exact rfl) : Tri Tryz.prog TT (.cond g x z) t H Q := Tri.condG hg ho (fun _ => h) (fun e => by cases e)
theorem cF {g : Operand} {x z : Code} {o : Option V} {t : Tm} {H : Heap} {Q : Out → Prop} (hg : ev1 t.get g = o) (h : Tri Tryz.prog TT z t H Q) (ho : o = some (.b false) := by exact rfl) : Tri Tryz.prog TT (.cond g x z) t H Q := Tri.condG hg ho (fun e => by cases e) (fun _ => h)
theorem en {F : FuncId} {vs : List V} {H : Heap} {Q : Func → Out → Prop} (fn : Func) {c : Code} (h1 : TT.func F = some fn) (h2 : fn.body = some c) (h3 : vs.length ≤ fn.ntmps) (n : Nat) (hn : fn.ntmps = n) (hi : ∀ t : Tm, t.wid = n → (∀ i v, vs[i]? = some v → t.get i = v) → Tri Tryz.prog TT c t H (Q fn)) : ∃ fn c, TT.func F = some fn ∧ fn.body = some c ∧ vs.length ≤ fn.ntmps ∧ Tri Tryz.prog TT c (Tm.init fn.ntmps vs) H (Q fn) :=
  ⟨fn, c, h1, h2, h3, hi _ hn fun i v h => by rw [get_init, h]; rfl⟩
attribute [simp] finish evResults evResult
theorem ai {a b : Prop} (x : a) (y : b) : a ∧ b := ⟨x, y⟩
section
variable {P : Program} {T : Tab} {x y : Code} {t : Tm} {H : Heap} {Q : Out → Prop} {id : Nat}
theorem sQ (h : Tri P T x t H (inSeq P T y Q)) : Tri P T (.seq x y) t H Q := Tri.seq' h
theorem sN (h : Tri P T y t H Q) : inSeq P T y Q (.norm t H) := h
theorem sR (h : Q (.ret t H)) : inSeq P T y Q (.ret t H) := h
theorem bK (h : Tri P T x t H (inBlk id Q)) : Tri P T (.block id x) t H Q := Tri.block' h
theorem bN (h : Q (.norm t H)) : inBlk id Q (.norm t H) := h
theorem bR (h : Q (.ret t H)) : inBlk id Q (.ret t H) := h
end
inductive Nd where
  | mk (k : Int) (t : List UInt8) (l : List Nd)
mutual
def Nd.enc : Nd → V
  | .mk k t l => .agg [.i .i64 k, .s t, .isl 3 (Nd.encL l)]
def Nd.encL : List Nd → List V
  | [] => []
  | x :: l => x.enc :: Nd.encL l
end
def Nd.kind : Nd → Int
  | .mk k _ _ => k
def Nd.text : Nd → List UInt8
  | .mk _ t _ => t
def Nd.kids : Nd → List Nd
  | .mk _ _ l => l
theorem Nd.enc_eq (x : Nd) : x.enc = .agg [.i .i64 x.kind, .s x.text, .isl 3 (Nd.encL x.kids)] := by cases x; rfl
mutual
theorem Nd.enc_inj : ∀ x y : Nd, x.enc = y.enc → x = y
  | .mk k s l, .mk k' s' l', h => by
    simp only [Nd.enc, V.agg.injEq, List.cons.injEq, V.i.injEq, V.s.injEq, V.isl.injEq, true_and, and_true] at h
    obtain ⟨rfl, rfl, h⟩ := h
    rw [Nd.encL_inj l l' h]
theorem Nd.encL_inj : ∀ l l' : List Nd, Nd.encL l = Nd.encL l' → l = l'
  | [], [], _ => rfl
  | [], _ :: _, h => by simp [Nd.encL] at h
  | _ :: _, [], h => by simp [Nd.encL] at h
  | x :: l, y :: l', h => by
    simp only [Nd.encL, List.cons.injEq] at h
    rw [Nd.enc_inj x y h.1, Nd.encL_inj l l' h.2]
end
mutual
theorem Nd.enc_nl : ∀ x : Nd, nl x.enc = true
  | .mk k s l => by simp [Nd.enc, nl, nlL, Nd.encL_nl l]
theorem Nd.encL_nl : ∀ l : List Nd, nlL (Nd.encL l) = true
  | [] => by simp [Nd.encL, nlL]
  | x :: l => by simp [Nd.encL, nlL, Nd.enc_nl x, Nd.encL_nl l]
end

mutual
def Nd.num : Nd → Nat
  | .mk _ _ l => Nd.numL l + 1
def Nd.numL : List Nd → Nat
  | [] => 0
  | x :: l => x.num + Nd.numL l
end
theorem Nd.encL_length : ∀ l : List Nd, (Nd.encL l).length = l.length
  | [] => rfl
  | _ :: l => by simp [Nd.encL, Nd.encL_length l]
mutual
def sz : Nd → Int → Int
  | .mk _ s l, m => szL l m (IntKind.i64.wrap (1 + IntKind.i64.wrap ((s.length : Int) / 300)))
def szL : List Nd → Int → Int → Int
  | [], _, o => o
  | x :: l, m, o => if o > m then o else szL l m (IntKind.i64.wrap (o + sz x (IntKind.i64.wrap (m - o))))
end
theorem encL_at (pre : List Nd) (x : Nd) (l : List Nd) : (Nd.encL (pre ++ x :: l))[pre.length]? = some x.enc := by
  induction pre with
  | nil => simp [Nd.encL]
    | cons y pre ih => simp [Nd.encL, ih]
theorem Nd.num_mem : ∀ {l : List Nd} {x : Nd}, x ∈ l → x.num ≤ Nd.numL l
  | y :: l, x, h => by
    rcases List.mem_cons.1 h with rfl | h
    · simp only [Nd.numL]; omega
    · have := Nd.num_mem h; simp only [Nd.numL]; omega
theorem Nd.num_pos (x : Nd) : 0 < x.num := by cases x; simp [Nd.num]
theorem Nd.numL_length : ∀ l : List Nd, l.length ≤ Nd.numL l
  | [] => Nat.le_refl _
  | x :: l => by
    have := Nd.numL_length l; have := x.num_pos; simp only [Nd.numL, List.length_cons]; omega
theorem Nd.num_eq (x : Nd) : x.num = Nd.numL x.kids + 1 := by cases x; rfl
theorem encL_at2 (pre : List Nd) (x : Nd) (l : List Nd) : ∀ h, (Nd.encL (pre ++ x :: l))[pre.length]'h = x.enc := fun h => by
  have := encL_at pre x l; rw [List.getElem?_eq_getElem h] at this; exact Option.some.inj this
theorem fin_len (n m : Nat) : (n : Int) < n + (m + 1) := by omega
def Nd.fit (x : Nd) : Prop := x.num < 1100000
theorem TT_plain : TT.Plain := by
  intro g l h
  simp only [TT] at h
  split at h
  · cases h; kernel_rfl
  · split at h
    · cases h; kernel_rfl
    · split at h
      · cases h; kernel_rfl
      · split at h
        · cases h; kernel_rfl
        · cases h
theorem body_4 {call : CallF} (hC : call.Sound Tryz.prog TT) (x : Nd) (m : Int) (hs : ∀ H, call 24 [x.enc, .i .i64 m] H = .val (.i .i64 (sz x m)) H) : Body Tryz.prog TT 6 [x.enc, .i .i64 m] (.val (.b (decide (sz x m ≤ m)))) := by
 refine en Tryz.f6 rfl rfl (by simp [Tryz.f6]) 10 rfl fun t hw hg => ?_
 have h0 := hg 0 _ rfl
 have h1 := hg 1 _ rfl
 clear hg
 try simp only [Nd.enc_eq] at *
 apply rS hC
 · iterate 2 refine oA ?_
   rfl
 apply rS hC
 · iterate 6 refine oA ?_
   rfl
 apply Tri.ret
 simp [Ends, Tryz.f6, h0, h1, hs]
theorem body_23 {call : CallF} (hC : call.Sound Tryz.prog TT) (x : Nd) : Body Tryz.prog TT 18 [x.enc] (.val (.b (decide (12 ≤ x.kind) && decide (x.kind ≤ 18)))) := by
 refine en Tryz.f18 rfl rfl (by simp [Tryz.f18]) 11 rfl fun t hw hg => ?_
 have h0 := hg 0 _ rfl
 clear hg
 try simp only [Nd.enc_eq] at *
 apply rS hC
 · iterate 2 refine oA ?_
   rfl
 apply sQ
 cases hB1 : (decide (12 ≤ x.kind) : Bool)
 case false =>
  apply rN hC
  · iterate 4 refine oA ?_
    iterate 3 refine oC ?_
    iterate 2 refine oA ?_
    rfl
  apply sN
  apply Tri.ret
  simp [Ends, Tryz.f18, h0, hB1]
 case true =>
  apply rN hC
  · iterate 4 refine oA ?_
    iterate 3 refine oB ?_
    iterate 2 refine oA ?_
    rfl
  apply sN
  apply Tri.ret
  simp [Ends, Tryz.f18, h0, hB1]
theorem body_24 {call : CallF} (hC : call.Sound Tryz.prog TT) (x : Nd) : Body Tryz.prog TT 20 [x.enc] (.val (.b (decide (19 ≤ x.kind) && decide (x.kind ≤ 55) && (x.kind != 32) && (x.kind != 48)))) := by
 refine en Tryz.f20 rfl rfl (by simp [Tryz.f20]) 21 rfl fun t hw hg => ?_
 have h0 := hg 0 _ rfl
 clear hg
 try simp only [Nd.enc_eq] at *
 apply rS hC
 · iterate 2 refine oA ?_
   rfl
 apply sQ
 cases hB1 : (decide (19 ≤ x.kind) : Bool)
 case false =>
  apply rN hC
  · iterate 4 refine oA ?_
    iterate 3 refine oC ?_
    iterate 2 refine oA ?_
    iterate 3 refine oC ?_
    iterate 2 refine oA ?_
    iterate 3 refine oC ?_
    iterate 2 refine oA ?_
    rfl
  apply sN
  apply Tri.ret
  simp [Ends, Tryz.f20, h0, hB1]
 case true =>
  cases hB2 : (decide (x.kind ≤ 55) : Bool)
  case false =>
   apply rN hC
   · iterate 4 refine oA ?_
     iterate 3 refine oB ?_
     iterate 2 refine oA ?_
     iterate 3 refine oC ?_
     iterate 2 refine oA ?_
     iterate 3 refine oC ?_
     iterate 2 refine oA ?_
     rfl
   apply sN
   apply Tri.ret
   simp [Ends, Tryz.f20, h0, hB1, hB2]
  case true =>
   cases hB3 : (x.kind != 32 : Bool)
   case false =>
    apply rN hC
    · iterate 4 refine oA ?_
      iterate 3 refine oB ?_
      iterate 2 refine oA ?_
      iterate 3 refine oB ?_
      iterate 2 refine oA ?_
      iterate 3 refine oC ?_
      iterate 2 refine oA ?_
      rfl
    apply sN
    apply Tri.ret
    simp [Ends, Tryz.f20, h0, hB1, hB2, hB3]
   case true =>
    apply rN hC
    · iterate 4 refine oA ?_
      iterate 3 refine oB ?_
      iterate 2 refine oA ?_
      iterate 3 refine oB ?_
      iterate 2 refine oA ?_
      iterate 3 refine oB ?_
      iterate 2 refine oA ?_
      rfl
    apply sN
    apply Tri.ret
    simp [Ends, Tryz.f20, h0, hB1, hB2, hB3]
theorem body_28 {call : CallF} (hC : call.Sound Tryz.prog TT) (s : List UInt8) : Body Tryz.prog TT 43 [.s s] (.val (.b (s == []))) := by
 refine en Tryz.f43 rfl rfl (by simp [Tryz.f43]) 5 rfl fun t hw hg => ?_
 have h0 := hg 0 _ rfl
 clear hg
 try simp only [Nd.enc_eq] at *
 apply rS hC
 · refine oA ?_
   rfl
 apply rS hC
 · iterate 3 refine oA ?_
   rfl
 apply Tri.ret
 simp [Ends, Tryz.f43, h0]
theorem body_29 {call : CallF} (hC : call.Sound Tryz.prog TT) (x : Nd) : Body Tryz.prog TT 44 [x.enc] (.val (.b ((x.kind == 2) || (x.kind == 3)))) := by
 refine en Tryz.f44 rfl rfl (by simp [Tryz.f44]) 11 rfl fun t hw hg => ?_
 have h0 := hg 0 _ rfl
 clear hg
 try simp only [Nd.enc_eq] at *
 apply rS hC
 · iterate 2 refine oA ?_
   rfl
 apply sQ
 cases hB1 : (x.kind == 2 : Bool)
 case false =>
  apply rN hC
  · iterate 4 refine oA ?_
    iterate 3 refine oB ?_
    iterate 2 refine oA ?_
    rfl
  apply sN
  apply Tri.ret
  simp [Ends, Tryz.f44, h0, hB1]
 case true =>
  apply rN hC
  · iterate 4 refine oA ?_
    iterate 3 refine oC ?_
    iterate 2 refine oA ?_
    rfl
  apply sN
  apply Tri.ret
  simp [Ends, Tryz.f44, h0, hB1]
theorem body_32 {call : CallF} (hC : call.Sound Tryz.prog TT) (x : Nd) : Body Tryz.prog TT 22 [x.enc] (.val (.b ((x.kind == 8) || (x.kind == 9)))) := by
 refine en Tryz.f22 rfl rfl (by simp [Tryz.f22]) 11 rfl fun t hw hg => ?_
 have h0 := hg 0 _ rfl
 clear hg
 try simp only [Nd.enc_eq] at *
 apply rS hC
 · iterate 2 refine oA ?_
   rfl
 apply sQ
 cases hB1 : (x.kind == 8 : Bool)
 case false =>
  apply rN hC
  · iterate 4 refine oA ?_
    iterate 3 refine oB ?_
    iterate 2 refine oA ?_
    rfl
  apply sN
  apply Tri.ret
  simp [Ends, Tryz.f22, h0, hB1]
 case true =>
  apply rN hC
  · iterate 4 refine oA ?_
    iterate 3 refine oC ?_
    iterate 2 refine oA ?_
    rfl
  apply sN
  apply Tri.ret
  simp [Ends, Tryz.f22, h0, hB1]
theorem body_37 {call : CallF} (hC : call.Sound Tryz.prog TT) (x : Nd) (b : Bool) (hs : ∀ H, call 20 [x.enc] H = .val (.b b) H) : Body Tryz.prog TT 51 [x.enc] (.val (.b (b && (x.kind != 25)))) := by
 refine en Tryz.f51 rfl rfl (by simp [Tryz.f51]) 10 rfl fun t hw hg => ?_
 have h0 := hg 0 _ rfl
 clear hg
 try simp only [Nd.enc_eq] at *
 apply rS hC
 · iterate 2 refine oA ?_
   rfl
 apply sQ
 cases hB1 : (b : Bool)
 case false =>
  apply rN hC
  · iterate 3 refine oA ?_
    iterate 3 refine oC ?_
    iterate 2 refine oA ?_
    rfl
  apply sN
  apply Tri.ret
  simp [Ends, Tryz.f51, h0, hs, hB1]
 case true =>
  apply rN hC
  · iterate 3 refine oA ?_
    iterate 3 refine oB ?_
    iterate 2 refine oA ?_
    rfl
  apply sN
  apply Tri.ret
  simp [Ends, Tryz.f51, h0, hs, hB1]
theorem body_39 {call : CallF} (hC : call.Sound Tryz.prog TT) (x : Nd) (b : Bool) (hs : ∀ H, call 20 [x.enc] H = .val (.b b) H) : Body Tryz.prog TT 53 [x.enc] (.val (.b (b || (x.kind == 32)))) := by
 refine en Tryz.f53 rfl rfl (by simp [Tryz.f53]) 10 rfl fun t hw hg => ?_
 have h0 := hg 0 _ rfl
 clear hg
 try simp only [Nd.enc_eq] at *
 apply rS hC
 · iterate 2 refine oA ?_
   rfl
 apply sQ
 cases hB1 : (b : Bool)
 case false =>
  apply rN hC
  · iterate 3 refine oA ?_
    iterate 3 refine oB ?_
    iterate 2 refine oA ?_
    rfl
  apply sN
  apply Tri.ret
  simp [Ends, Tryz.f53, h0, hs, hB1]
 case true =>
  apply rN hC
  · iterate 3 refine oA ?_
    iterate 3 refine oC ?_
    iterate 2 refine oA ?_
    rfl
  apply sN
  apply Tri.ret
  simp [Ends, Tryz.f53, h0, hs, hB1]
theorem body_58 {call : CallF} (hC : call.Sound Tryz.prog TT) (x : Nd) (k : Int) : Body Tryz.prog TT 71 [x.enc, .ipt 1 [.agg [.i .i64 k]] 0 0] (.val (.b (x.kind == k))) := by
 refine en Tryz.f71 rfl rfl (by simp [Tryz.f71]) 8 rfl fun t hw hg => ?_
 have h0 := hg 0 _ rfl
 have h1 := hg 1 _ rfl
 clear hg
 try simp only [Nd.enc_eq] at *
 apply rS hC
 · iterate 2 refine oA ?_
   rfl
 apply rS hC
 · iterate 5 refine oA ?_
   rfl
 apply Tri.ret
 simp [Ends, Tryz.f71, h0, h1]
theorem body_96 {call : CallF} (hC : call.Sound Tryz.prog TT) (x : Nd) (k : Int) : Body Tryz.prog TT 121 [x.enc, .ipt 1 [.agg [.i .i64 k]] 0 0] (.val (.b (x.kind == k))) := by
 refine en Tryz.f121 rfl rfl (by simp [Tryz.f121]) 8 rfl fun t hw hg => ?_
 have h0 := hg 0 _ rfl
 have h1 := hg 1 _ rfl
 clear hg
 try simp only [Nd.enc_eq] at *
 apply rS hC
 · iterate 2 refine oA ?_
   rfl
 apply rS hC
 · iterate 5 refine oA ?_
   rfl
 apply Tri.ret
 simp [Ends, Tryz.f121, h0, h1]
theorem body_97 {call : CallF} (hC : call.Sound Tryz.prog TT) (x : Nd) (k : Int) : Body Tryz.prog TT 122 [x.enc, .ipt 1 [.agg [.i .i64 k]] 0 0] (.val (.b (x.kind != k))) := by
 refine en Tryz.f122 rfl rfl (by simp [Tryz.f122]) 8 rfl fun t hw hg => ?_
 have h0 := hg 0 _ rfl
 have h1 := hg 1 _ rfl
 clear hg
 try simp only [Nd.enc_eq] at *
 apply rS hC
 · iterate 2 refine oA ?_
   rfl
 apply rS hC
 · iterate 5 refine oA ?_
   rfl
 apply Tri.ret
 simp [Ends, Tryz.f122, h0, h1]
theorem body_57 {call : CallF} (hC : call.Sound Tryz.prog TT) (s : List UInt8) (b : Bool) (hs : ∀ H, call 41 [.s s] H = .val (.b b) H) : Body Tryz.prog TT 70 [.s s] (.val (.b (!b))) := by
 refine en Tryz.f70 rfl rfl (by simp [Tryz.f70]) 6 rfl fun t hw hg => ?_
 have h0 := hg 0 _ rfl
 clear hg
 try simp only [Nd.enc_eq] at *
 apply rS hC
 · refine oA ?_
   rfl
 apply rS hC
 · iterate 4 refine oA ?_
   rfl
 apply Tri.ret
 simp [Ends, Tryz.f70, h0, hs]
theorem body_53 {call : CallF} (hC : call.Sound Tryz.prog TT) (x : Nd) (g : FuncId) (hx : TT.ext g = none) (cs : List V) (b : Bool) (hs : ∀ H, call g (x.enc :: cs) H = .val (.b b) H) : Body Tryz.prog TT 66 [x.enc, .ipt 1 [.agg [.fn g cs]] 0 0] (.val (.b ((x.kind == 5) || b))) := by
 refine en Tryz.f66 rfl rfl (by simp [Tryz.f66]) 12 rfl fun t hw hg => ?_
 have h0 := hg 0 _ rfl
 have h1 := hg 1 _ rfl
 clear hg
 try simp only [Nd.enc_eq] at *
 apply rS hC
 · iterate 2 refine oA ?_
   rfl
 apply sQ
 cases hB1 : (x.kind == 5 : Bool)
 case false =>
  apply rN hC
  · iterate 4 refine oA ?_
    iterate 3 refine oB ?_
    iterate 2 refine oA ?_
    rfl
  apply sN
  apply Tri.ret
  simp [Ends, Tryz.f66, h0, h1, hs, hx, hB1]
 case true =>
  apply rN hC
  · iterate 4 refine oA ?_
    iterate 3 refine oC ?_
    iterate 2 refine oA ?_
    rfl
  apply sN
  apply Tri.ret
  simp [Ends, Tryz.f66, h0, h1, hs, hx, hB1]
theorem body_48 {call : CallF} (hC : call.Sound Tryz.prog TT) (x : Nd) (l : List V) (b : Bool) (hs : ∀ H, call 62 [.isl 1 l, .s x.text] H = .val (.b b) H) : Body Tryz.prog TT 61 [x.enc, .ipt 1 [.agg [.isl 1 l]] 0 0] (.val (.b ((x.kind == 4) && b))) := by
 refine en Tryz.f61 rfl rfl (by simp [Tryz.f61]) 13 rfl fun t hw hg => ?_
 have h0 := hg 0 _ rfl
 have h1 := hg 1 _ rfl
 clear hg
 try simp only [Nd.enc_eq] at *
 apply rS hC
 · iterate 2 refine oA ?_
   rfl
 apply sQ
 cases hB1 : (x.kind == 4 : Bool)
 case false =>
  apply rN hC
  · iterate 4 refine oA ?_
    iterate 4 refine oC ?_
    iterate 2 refine oA ?_
    rfl
  apply sN
  apply Tri.ret
  simp [Ends, Tryz.f61, h0, h1, hs, hB1]
 case true =>
  apply rN hC
  · iterate 4 refine oA ?_
    iterate 4 refine oB ?_
    iterate 2 refine oA ?_
    rfl
  apply sN
  apply Tri.ret
  simp [Ends, Tryz.f61, h0, h1, hs, hB1]
theorem body_63 {call : CallF} (hC : call.Sound Tryz.prog TT) (s : List UInt8) (l : List V) (b : Bool) (hs : ∀ H, call 62 [.isl 1 l, .s s] H = .val (.b b) H) : Body Tryz.prog TT 76 [.s s, .ipt 1 [.agg [.isl 1 l]] 0 0] (.val (.b b)) := by
 refine en Tryz.f76 rfl rfl (by simp [Tryz.f76]) 7 rfl fun t hw hg => ?_
 have h0 := hg 0 _ rfl
 have h1 := hg 1 _ rfl
 clear hg
 try simp only [Nd.enc_eq] at *
 apply rS hC
 · refine oA ?_
   rfl
 apply rS hC
 · iterate 4 refine oA ?_
   rfl
 apply Tri.ret
 simp [Ends, Tryz.f76, h0, h1, hs]
theorem body_83 {call : CallF} (hC : call.Sound Tryz.prog TT) (c : Int) : Body Tryz.prog TT 108 [.i .u8 c] (.val (.b ((decide (97 ≤ c) && decide (c ≤ 122)) || (decide (65 ≤ c) && decide (c ≤ 90)) || (c == 95)))) := by
 refine en Tryz.f108 rfl rfl (by simp [Tryz.f108]) 21 rfl fun t hw hg => ?_
 have h0 := hg 0 _ rfl
 clear hg
 try simp only [Nd.enc_eq] at *
 apply rS hC
 · refine oA ?_
   rfl
 apply sQ
 cases hB1 : (decide (97 ≤ c) : Bool)
 case false =>
  cases hB2 : (decide (65 ≤ c) : Bool)
  case false =>
   apply rN hC
   · iterate 3 refine oA ?_
     iterate 2 refine oC ?_
     iterate 2 refine oA ?_
     iterate 3 refine oB ?_
     iterate 2 refine oC ?_
     refine oB ?_
     iterate 2 refine oA ?_
     iterate 2 refine oB ?_
     iterate 2 refine oA ?_
     rfl
   apply sN
   apply Tri.ret
   simp [Ends, Tryz.f108, h0, hB1, hB2]
  case true =>
   cases hB3 : (decide (c ≤ 90) : Bool)
   case false =>
    apply rN hC
    · iterate 3 refine oA ?_
      iterate 2 refine oC ?_
      iterate 2 refine oA ?_
      iterate 6 refine oB ?_
      iterate 2 refine oA ?_
      iterate 2 refine oB ?_
      iterate 2 refine oA ?_
      rfl
    apply sN
    apply Tri.ret
    simp [Ends, Tryz.f108, h0, hB1, hB2, hB3]
   case true =>
    apply rN hC
    · iterate 3 refine oA ?_
      iterate 2 refine oC ?_
      iterate 2 refine oA ?_
      iterate 6 refine oB ?_
      iterate 2 refine oA ?_
      iterate 2 refine oC ?_
      iterate 2 refine oA ?_
      rfl
    apply sN
    apply Tri.ret
    simp [Ends, Tryz.f108, h0, hB1, hB2, hB3]
 case true =>
  cases hB4 : (decide (c ≤ 122) : Bool)
  case false =>
   cases hB5 : (decide (65 ≤ c) : Bool)
   case false =>
    apply rN hC
    · iterate 3 refine oA ?_
      iterate 2 refine oB ?_
      iterate 2 refine oA ?_
      iterate 3 refine oB ?_
      iterate 2 refine oC ?_
      refine oB ?_
      iterate 2 refine oA ?_
      iterate 2 refine oB ?_
      iterate 2 refine oA ?_
      rfl
    apply sN
    apply Tri.ret
    simp [Ends, Tryz.f108, h0, hB1, hB4, hB5]
   case true =>
    cases hB6 : (decide (c ≤ 90) : Bool)
    case false =>
     apply rN hC
     · iterate 3 refine oA ?_
       iterate 2 refine oB ?_
       iterate 2 refine oA ?_
       iterate 6 refine oB ?_
       iterate 2 refine oA ?_
       iterate 2 refine oB ?_
       iterate 2 refine oA ?_
       rfl
     apply sN
     apply Tri.ret
     simp [Ends, Tryz.f108, h0, hB1, hB4, hB5, hB6]
    case true =>
     apply rN hC
     · iterate 3 refine oA ?_
       iterate 2 refine oB ?_
       iterate 2 refine oA ?_
       iterate 6 refine oB ?_
       iterate 2 refine oA ?_
       iterate 2 refine oC ?_
       iterate 2 refine oA ?_
       rfl
     apply sN
     apply Tri.ret
     simp [Ends, Tryz.f108, h0, hB1, hB4, hB5, hB6]
  case true =>
   apply rN hC
   · iterate 3 refine oA ?_
     iterate 2 refine oB ?_
     iterate 2 refine oA ?_
     iterate 6 refine oC ?_
     iterate 2 refine oA ?_
     iterate 2 refine oC ?_
     iterate 2 refine oA ?_
     rfl
   apply sN
   apply Tri.ret
   simp [Ends, Tryz.f108, h0, hB1, hB4]
theorem body_99 {call : CallF} (hC : call.Sound Tryz.prog TT) (c : Int) : Body Tryz.prog TT 130 [.i .u8 c] (.val (.b (decide (48 ≤ c) && decide (c ≤ 57)))) := by
 refine en Tryz.f130 rfl rfl (by simp [Tryz.f130]) 9 rfl fun t hw hg => ?_
 have h0 := hg 0 _ rfl
 clear hg
 try simp only [Nd.enc_eq] at *
 apply rS hC
 · refine oA ?_
   rfl
 apply sQ
 cases hB1 : (decide (48 ≤ c) : Bool)
 case false =>
  apply rN hC
  · iterate 3 refine oA ?_
    iterate 2 refine oC ?_
    iterate 2 refine oA ?_
    rfl
  apply sN
  apply Tri.ret
  simp [Ends, Tryz.f130, h0, hB1]
 case true =>
  apply rN hC
  · iterate 3 refine oA ?_
    iterate 2 refine oB ?_
    iterate 2 refine oA ?_
    rfl
  apply sN
  apply Tri.ret
  simp [Ends, Tryz.f130, h0, hB1]
theorem body_84 {call : CallF} (hC : call.Sound Tryz.prog TT) (c : Int) (b b2 : Bool) (hs : ∀ H, call 108 [.i .u8 c] H = .val (.b b) H) (h2 : ∀ H, call 130 [.i .u8 c] H = .val (.b b2) H) : Body Tryz.prog TT 109 [.i .u8 c] (.val (.b (b || b2))) := by
 refine en Tryz.f109 rfl rfl (by simp [Tryz.f109]) 9 rfl fun t hw hg => ?_
 have h0 := hg 0 _ rfl
 clear hg
 try simp only [Nd.enc_eq] at *
 apply rS hC
 · refine oA ?_
   rfl
 apply sQ
 cases hB1 : (b : Bool)
 case false =>
  apply rN hC
  · iterate 3 refine oA ?_
    iterate 2 refine oB ?_
    iterate 2 refine oA ?_
    rfl
  apply sN
  apply Tri.ret
  simp [Ends, Tryz.f109, h0, hs, h2, hB1]
 case true =>
  apply rN hC
  · iterate 3 refine oA ?_
    iterate 2 refine oC ?_
    iterate 2 refine oA ?_
    rfl
  apply sN
  apply Tri.ret
  simp [Ends, Tryz.f109, h0, hs, h2, hB1]
theorem body_26a {call : CallF} (hC : call.Sound Tryz.prog TT) (s : List UInt8) (b : Bool) (hl : decide ((s.length : Int) ≤ 60) = true) (hs : ∀ H, call 65 [.s s] H = .val (.b b) H) : Body Tryz.prog TT 41 [.s s] (.val (.b b)) := by
 refine en Tryz.f41 rfl rfl (by simp [Tryz.f41]) 10 rfl fun t hw hg => ?_
 have h0 := hg 0 _ rfl
 clear hg
 try simp only [Nd.enc_eq] at *
 apply rS hC
 · refine oA ?_
   rfl
 apply rS hC
 · iterate 4 refine oA ?_
   iterate 2 refine oB ?_
   iterate 2 refine oA ?_
   rfl
 apply Tri.ret
 simp [Ends, Tryz.f41, h0, hs, hl]
theorem body_26b {call : CallF} (hC : call.Sound Tryz.prog TT) (s : List UInt8) (hl : decide ((s.length : Int) ≤ 60) = false) : Body Tryz.prog TT 41 [.s s] (.val (.b false)) := by
 refine en Tryz.f41 rfl rfl (by simp [Tryz.f41]) 10 rfl fun t hw hg => ?_
 have h0 := hg 0 _ rfl
 clear hg
 try simp only [Nd.enc_eq] at *
 apply rS hC
 · refine oA ?_
   rfl
 apply rS hC
 · iterate 4 refine oA ?_
   iterate 2 refine oC ?_
   iterate 2 refine oA ?_
   rfl
 apply Tri.ret
 simp [Ends, Tryz.f41, h0, hl]
theorem body_42 {call : CallF} (hC : call.Sound Tryz.prog TT) (x : Nd) (v : V) (b : Bool) (hs : ∀ H, call 32 [v, x.enc] H = .val (.b b) H) : Body Tryz.prog TT 56 [x.enc, .ipt 1 [.agg [v]] 0 0] (.val (.b (!b))) := by
 refine en Tryz.f56 rfl rfl (by simp [Tryz.f56]) 8 rfl fun t hw hg => ?_
 have h0 := hg 0 _ rfl
 have h1 := hg 1 _ rfl
 clear hg
 try simp only [Nd.enc_eq] at *
 apply rS hC
 · iterate 2 refine oA ?_
   rfl
 apply rS hC
 · iterate 5 refine oA ?_
   rfl
 apply Tri.ret
 simp [Ends, Tryz.f56, h0, h1, hs]
theorem body_64 {call : CallF} (hC : call.Sound Tryz.prog TT) (x : Nd) (b : Bool) (hs : ∀ H, call 52 [x.enc] H = .val (.b b) H) : Body Tryz.prog TT 77 [x.enc] (.val (.b (!b))) := by
 refine en Tryz.f77 rfl rfl (by simp [Tryz.f77]) 6 rfl fun t hw hg => ?_
 have h0 := hg 0 _ rfl
 clear hg
 try simp only [Nd.enc_eq] at *
 apply rS hC
 · iterate 2 refine oA ?_
   rfl
 apply rS hC
 · iterate 4 refine oA ?_
   rfl
 apply Tri.ret
 simp [Ends, Tryz.f77, h0, hs]
def encS (l : List (List UInt8)) : List V := l.map V.s
theorem encS_length (l : List (List UInt8)) : (encS l).length = l.length := by simp [encS]
theorem encS_at (pre : List (List UInt8)) (x : List UInt8) (l : List (List UInt8)) : (encS (pre ++ x :: l))[pre.length]? = some (.s x) := by simp [encS]
theorem encS_at2 (pre : List (List UInt8)) (x : List UInt8) (l : List (List UInt8)) : ∀ h, (encS (pre ++ x :: l))[pre.length]'h = .s x := fun h => by simp [encS]
theorem encS_nl (l : List (List UInt8)) : nlL (encS l) = true := by
  induction l with
  | nil => rfl
  | cons x l ih => simpa [encS, nlL, nl] using ih

theorem loop69 {call : CallF} (hC : call.Sound Tryz.prog TT) (s : List UInt8) {Q : Out → Prop} : ∀ (L pre : List (List UInt8)) (t : Tm) (H : Heap), 
    (pre ++ L).length < 1100000 → t.wid = 19 → t.get 0 = .isl 1 (encS (pre ++ L)) → t.get 1 = .s s → t.get 7 = .i .i64 (pre ++ L).length → t.get 8 = .i .i64 pre.length →
    (∀ t' H', t'.wid = 19 → (L.any fun x => s == x) = false → Q (.exit 0 t' H')) →
    (∀ t' H' (i : Nat), t'.wid = 19 → (L.any fun x => s == x) = true → t'.get 4 = .i .i64 i → i < (pre ++ L).length → Q (.ret t' H')) →
    LTri Tryz.prog TT (sub [true, false, true, false, false] (bodyOf Tryz.f87)) t H Q := by
 intro L
 induction L with
 | nil =>
   intro pre t H hlen hw h0 h1 h7 h8 hE hR
   refine LTri.round' ?_
   apply rS hC
   · refine gO (by simp [h0, h1, h7, h8, encS_length] <;> rfl) ?_
     rfl
   apply sQ
   refine cF (by simp [h0, h1, h7, h8, encS_length] <;> rfl) ?_
   refine Tri.exit ?_
   refine inSeq_exit ?_
   refine inLoop_exit ?_
   exact hE _ _ (by simp [hw]) (by simp)
 | cons x L ih =>
   intro pre t H hlen hw h0 h1 h7 h8 hE hR
   have hlt := fin_len pre.length L.length
   have hat := encS_at pre x L
   have hat2 := encS_at2 pre x L
   have hr := trivial
   refine LTri.round' ?_
   apply rS hC
   · refine gO (by simp [h0, h1, h7, h8, encS_length, hlt, hat, hat2, hr] <;> rfl) ?_
     rfl
   apply sQ
   refine cT (by simp [h0, h1, h7, h8, encS_length, hlt, hat, hat2, hr] <;> rfl) ?_
   apply Tri.skip
   apply sN
   apply sQ
   apply bK
   apply rS hC
   · iterate 2 refine gO (by simp [h0, h1, h7, h8, encS_length, hlt, hat, hat2, hr] <;> rfl) ?_
     rfl
   apply rS hC
   · iterate 6 refine gO (by simp [h0, h1, h7, h8, encS_length, hlt, hat, hat2, hr] <;> rfl) ?_
     rfl
   refine Tri.condG (o := ?o5) (b := ?b5) ?g5 ?r5 ?y5 ?n5
   case g5 => simp [h0, h1, h7, h8, encS_length, hlt, hat, hat2, hr] <;> rfl
   case r5 => rfl
   case y5 =>
    intro hy5
    have hx : (s == x) = true := by simpa using hy5
    apply rS hC
    · iterate 2 refine gO (by simp [h0, h1, h7, h8, encS_length, hlt, hat, hat2, hr] <;> rfl) ?_
      rfl
    apply Tri.ret
    apply bR
    apply sR
    refine inLoop_ret ?_
    exact hR _ _ pre.length (by simp [hw]) (by simp [hx]) (by simp [get_put, get_none]) (by simp)
   case n5 =>
    intro hn5
    have hx : (s == x) = false := by simpa using hn5
    apply Tri.skip
    apply bN
    apply sN
    apply rN hC
    · iterate 2 refine gO (by simp [h0, h1, h7, h8, encS_length, hlt, hat, hat2, hr] <;> rfl) ?_
      rfl
    refine inLoop_norm ?_
    refine ih (pre ++ [x]) _ _ (by simpa using hlen) (by simp [hw]) (by simp [h0]) (by simp [h1]) (by simp [h7]) (by simp; exact wrap_i64 (by omega) (by simp at hlen; omega)) ?_ ?_
    · intro t' H' hw' he
      exact hE t' H' hw' (by simp [hx, he])
    · intro t' H' i hw' he h4 hi
      exact hR t' H' i hw' (by simp [he]) h4 (by simpa using hi)
theorem loop74 {call : CallF} (hC : call.Sound Tryz.prog TT) (g : FuncId) (cs : List V) (p : List UInt8 → Bool) (hx0 : TT.ext g = none) {Q : Out → Prop} : ∀ (L pre : List (List UInt8)) (t : Tm) (H : Heap), (∀ x ∈ L, ∀ H, call g (.s x :: cs) H = .val (.b (p x)) H) →
    (pre ++ L).length < 1100000 → t.wid = 19 → t.get 0 = .isl 1 (encS (pre ++ L)) → t.get 1 = .fn g cs → t.get 7 = .i .i64 (pre ++ L).length → t.get 8 = .i .i64 pre.length →
    (∀ t' H', t'.wid = 19 → (L.any fun x => p x) = false → Q (.exit 0 t' H')) →
    (∀ t' H' (i : Nat), t'.wid = 19 → (L.any fun x => p x) = true → t'.get 4 = .i .i64 i → i < (pre ++ L).length → Q (.ret t' H')) →
    LTri Tryz.prog TT (sub [true, false, true, false, false] (bodyOf Tryz.f92)) t H Q := by
 intro L
 induction L with
 | nil =>
   intro pre t H hg hlen hw h0 h1 h7 h8 hE hR
   refine LTri.round' ?_
   apply rS hC
   · refine gO (by simp [h0, h1, h7, h8, encS_length, hx0] <;> rfl) ?_
     rfl
   apply sQ
   refine cF (by simp [h0, h1, h7, h8, encS_length, hx0] <;> rfl) ?_
   refine Tri.exit ?_
   refine inSeq_exit ?_
   refine inLoop_exit ?_
   exact hE _ _ (by simp [hw]) (by simp)
 | cons x L ih =>
   intro pre t H hg hlen hw h0 h1 h7 h8 hE hR
   have hlt := fin_len pre.length L.length
   have hat := encS_at pre x L
   have hat2 := encS_at2 pre x L
   have hr := hg x (by simp)
   refine LTri.round' ?_
   apply rS hC
   · refine gO (by simp [h0, h1, h7, h8, encS_length, hx0, hlt, hat, hat2, hr] <;> rfl) ?_
     rfl
   apply sQ
   refine cT (by simp [h0, h1, h7, h8, encS_length, hx0, hlt, hat, hat2, hr] <;> rfl) ?_
   apply Tri.skip
   apply sN
   apply sQ
   apply bK
   apply rS hC
   · iterate 2 refine gO (by simp [h0, h1, h7, h8, encS_length, hx0, hlt, hat, hat2, hr] <;> rfl) ?_
     rfl
   apply rS hC
   · iterate 6 refine gO (by simp [h0, h1, h7, h8, encS_length, hx0, hlt, hat, hat2, hr] <;> rfl) ?_
     rfl
   refine Tri.condG (o := ?o5) (b := ?b5) ?g5 ?r5 ?y5 ?n5
   case g5 => simp [h0, h1, h7, h8, encS_length, hx0, hlt, hat, hat2, hr] <;> rfl
   case r5 => rfl
   case y5 =>
    intro hy5
    have hx : (p x) = true := by simpa using hy5
    apply rS hC
    · iterate 2 refine gO (by simp [h0, h1, h7, h8, encS_length, hx0, hlt, hat, hat2, hr] <;> rfl) ?_
      rfl
    apply Tri.ret
    apply bR
    apply sR
    refine inLoop_ret ?_
    exact hR _ _ pre.length (by simp [hw]) (by simp [hx]) (by simp [get_put, get_none]) (by simp)
   case n5 =>
    intro hn5
    have hx : (p x) = false := by simpa using hn5
    apply Tri.skip
    apply bN
    apply sN
    apply rN hC
    · iterate 2 refine gO (by simp [h0, h1, h7, h8, encS_length, hx0, hlt, hat, hat2, hr] <;> rfl) ?_
      rfl
    refine inLoop_norm ?_
    refine ih (pre ++ [x]) _ _ (fun x hx => hg x (List.mem_cons_of_mem _ hx)) (by simpa using hlen) (by simp [hw]) (by simp [h0]) (by simp [h1]) (by simp [h7]) (by simp; exact wrap_i64 (by omega) (by simp at hlen; omega)) ?_ ?_
    · intro t' H' hw' he
      exact hE t' H' hw' (by simp [hx, he])
    · intro t' H' i hw' he h4 hi
      exact hR t' H' i hw' (by simp [he]) h4 (by simpa using hi)
theorem loop66 {call : CallF} (hC : call.Sound Tryz.prog TT) (g : FuncId) (cs : List V) (p : Nd → Bool) (hx0 : TT.ext g = none) {Q : Out → Prop} : ∀ (L pre : List Nd) (t : Tm) (H : Heap), (∀ x ∈ L, ∀ H, call g (x.enc :: cs) H = .val (.b (p x)) H) →
    (pre ++ L).length < 1100000 → t.wid = 19 → t.get 0 = .isl 3 (Nd.encL (pre ++ L)) → t.get 1 = .fn g cs → t.get 7 = .i .i64 (pre ++ L).length → t.get 8 = .i .i64 pre.length →
    (∀ t' H', t'.wid = 19 → (L.any fun x => p x) = false → Q (.exit 0 t' H')) →
    (∀ t' H' (i : Nat), t'.wid = 19 → (L.any fun x => p x) = true → t'.get 4 = .i .i64 i → i < (pre ++ L).length → Q (.ret t' H')) →
    LTri Tryz.prog TT (sub [true, false, true, false, false] (bodyOf Tryz.f79)) t H Q := by
 intro L
 induction L with
 | nil =>
   intro pre t H hg hlen hw h0 h1 h7 h8 hE hR
   refine LTri.round' ?_
   apply rS hC
   · refine gO (by simp [h0, h1, h7, h8, Nd.encL_length, hx0, Nd.enc_eq] <;> rfl) ?_
     rfl
   apply sQ
   refine cF (by simp [h0, h1, h7, h8, Nd.encL_length, hx0, Nd.enc_eq] <;> rfl) ?_
   refine Tri.exit ?_
   refine inSeq_exit ?_
   refine inLoop_exit ?_
   exact hE _ _ (by simp [hw]) (by simp)
 | cons x L ih =>
   intro pre t H hg hlen hw h0 h1 h7 h8 hE hR
   have hlt := fin_len pre.length L.length
   have hat := encL_at pre x L
   have hat2 := encL_at2 pre x L
   have hr := hg x (by simp)
   simp only [Nd.enc_eq] at hr
   refine LTri.round' ?_
   apply rS hC
   · refine gO (by simp [h0, h1, h7, h8, Nd.encL_length, hx0, Nd.enc_eq, hlt, hat, hat2, hr] <;> rfl) ?_
     rfl
   apply sQ
   refine cT (by simp [h0, h1, h7, h8, Nd.encL_length, hx0, Nd.enc_eq, hlt, hat, hat2, hr] <;> rfl) ?_
   apply Tri.skip
   apply sN
   apply sQ
   apply bK
   apply rS hC
   · iterate 2 refine gO (by simp [h0, h1, h7, h8, Nd.encL_length, hx0, Nd.enc_eq, hlt, hat, hat2, hr] <;> rfl) ?_
     rfl
   apply rS hC
   · iterate 6 refine gO (by simp [h0, h1, h7, h8, Nd.encL_length, hx0, Nd.enc_eq, hlt, hat, hat2, hr] <;> rfl) ?_
     rfl
   refine Tri.condG (o := ?o5) (b := ?b5) ?g5 ?r5 ?y5 ?n5
   case g5 => simp [h0, h1, h7, h8, Nd.encL_length, hx0, Nd.enc_eq, hlt, hat, hat2, hr] <;> rfl
   case r5 => rfl
   case y5 =>
    intro hy5
    have hx : (p x) = true := by simpa using hy5
    apply rS hC
    · iterate 2 refine gO (by simp [h0, h1, h7, h8, Nd.encL_length, hx0, Nd.enc_eq, hlt, hat, hat2, hr] <;> rfl) ?_
      rfl
    apply Tri.ret
    apply bR
    apply sR
    refine inLoop_ret ?_
    exact hR _ _ pre.length (by simp [hw]) (by simp [hx]) (by simp [get_put, get_none]) (by simp)
   case n5 =>
    intro hn5
    have hx : (p x) = false := by simpa using hn5
    apply Tri.skip
    apply bN
    apply sN
    apply rN hC
    · iterate 2 refine gO (by simp [h0, h1, h7, h8, Nd.encL_length, hx0, Nd.enc_eq, hlt, hat, hat2, hr] <;> rfl) ?_
      rfl
    refine inLoop_norm ?_
    refine ih (pre ++ [x]) _ _ (fun x hx => hg x (List.mem_cons_of_mem _ hx)) (by simpa using hlen) (by simp [hw]) (by simp [h0]) (by simp [h1]) (by simp [h7]) (by simp; exact wrap_i64 (by omega) (by simp at hlen; omega)) ?_ ?_
    · intro t' H' hw' he
      exact hE t' H' hw' (by simp [hx, he])
    · intro t' H' i hw' he h4 hi
      exact hR t' H' i hw' (by simp [he]) h4 (by simpa using hi)
theorem body_69 {call : CallF} (hC : call.Sound Tryz.prog TT) (l : List (List UInt8)) (s : List UInt8) (hlen : l.length < 1100000)  : EBody Tryz.prog TT 87 [.isl 1 (encS l), .s s] (fun r => ∃ i : Int, r = .val (.i .i64 i) ∧ decide (0 ≤ i) = (l.any fun x => s == x) ∧ -1 ≤ i ∧ i < l.length) := by
 refine en Tryz.f87 rfl rfl (by simp [Tryz.f87]) 19 rfl fun t hw hg => ?_
 have h0 := hg 0 _ rfl
 have h1 := hg 1 _ rfl
 clear hg
 skip
 apply rS hC
 · refine gO (by simp [h0, h1, encS_length] <;> rfl) ?_
   rfl
 apply sQ
 apply rS hC
 · iterate 3 refine gO (by simp [h0, h1, encS_length] <;> rfl) ?_
   rfl
 apply bK
 refine Tri.loop ?_
 refine loop69 hC s l [] _ _ (by simpa using hlen) (by simp [hw]) (by simp [h0]) (by simp [h1]) (by simp [encS_length]) (by simp) ?exit ?ret
 case exit =>
  intro t2 H2 hw he
  refine inBlk_exit ?_
  apply sN
  apply rS hC
  · refine gO (by simp [h0, h1, encS_length] <;> rfl) ?_
    rfl
  apply Tri.ret
  first
  | exact ⟨_, ⟨(i : Int), rfl, by rw [he]; simp, by omega, by simp at hi; omega⟩, by simp [Ends, Tryz.f87, h4]⟩
  | exact ⟨_, ⟨-1, rfl, by rw [he]; decide, by omega, by omega⟩, by simp [Ends, Tryz.f87]⟩
 case ret =>
  intro t2 H2 i hw he h4 hi
  apply bR
  apply sR
  first
  | exact ⟨_, ⟨(i : Int), rfl, by rw [he]; simp, by omega, by simp at hi; omega⟩, by simp [Ends, Tryz.f87, h4]⟩
  | exact ⟨_, ⟨-1, rfl, by rw [he]; decide, by omega, by omega⟩, by simp [Ends, Tryz.f87]⟩
theorem body_74 {call : CallF} (hC : call.Sound Tryz.prog TT) (l : List (List UInt8)) (g : FuncId) (cs : List V) (p : List UInt8 → Bool) (hx0 : TT.ext g = none) (hg : ∀ x ∈ l, ∀ H, call g (.s x :: cs) H = .val (.b (p x)) H) (hlen : l.length < 1100000)  : EBody Tryz.prog TT 92 [.isl 1 (encS l), .fn g cs] (fun r => ∃ i : Int, r = .val (.i .i64 i) ∧ decide (0 ≤ i) = (l.any fun x => p x) ∧ -1 ≤ i ∧ i < l.length) := by
 refine en Tryz.f92 rfl rfl (by simp [Tryz.f92]) 19 rfl fun t hw hg => ?_
 have h0 := hg 0 _ rfl
 have h1 := hg 1 _ rfl
 clear hg
 skip
 apply rS hC
 · refine gO (by simp [h0, h1, encS_length] <;> rfl) ?_
   rfl
 apply sQ
 apply rS hC
 · iterate 3 refine gO (by simp [h0, h1, encS_length] <;> rfl) ?_
   rfl
 apply bK
 refine Tri.loop ?_
 refine loop74 hC g cs p hx0 l [] _ _ hg (by simpa using hlen) (by simp [hw]) (by simp [h0]) (by simp [h1]) (by simp [encS_length]) (by simp) ?exit ?ret
 case exit =>
  intro t2 H2 hw he
  refine inBlk_exit ?_
  apply sN
  apply rS hC
  · refine gO (by simp [h0, h1, encS_length] <;> rfl) ?_
    rfl
  apply Tri.ret
  first
  | exact ⟨_, ⟨(i : Int), rfl, by rw [he]; simp, by omega, by simp at hi; omega⟩, by simp [Ends, Tryz.f92, h4]⟩
  | exact ⟨_, ⟨-1, rfl, by rw [he]; decide, by omega, by omega⟩, by simp [Ends, Tryz.f92]⟩
 case ret =>
  intro t2 H2 i hw he h4 hi
  apply bR
  apply sR
  first
  | exact ⟨_, ⟨(i : Int), rfl, by rw [he]; simp, by omega, by simp at hi; omega⟩, by simp [Ends, Tryz.f92, h4]⟩
  | exact ⟨_, ⟨-1, rfl, by rw [he]; decide, by omega, by omega⟩, by simp [Ends, Tryz.f92]⟩
theorem body_66 {call : CallF} (hC : call.Sound Tryz.prog TT) (l : List Nd) (g : FuncId) (cs : List V) (p : Nd → Bool) (hx0 : TT.ext g = none) (hg : ∀ x ∈ l, ∀ H, call g (x.enc :: cs) H = .val (.b (p x)) H) (hlen : l.length < 1100000)  : EBody Tryz.prog TT 79 [.isl 3 (Nd.encL l), .fn g cs] (fun r => ∃ i : Int, r = .val (.i .i64 i) ∧ decide (0 ≤ i) = (l.any fun x => p x) ∧ -1 ≤ i ∧ i < l.length) := by
 refine en Tryz.f79 rfl rfl (by simp [Tryz.f79]) 19 rfl fun t hw hg => ?_
 have h0 := hg 0 _ rfl
 have h1 := hg 1 _ rfl
 clear hg
 skip
 apply rS hC
 · refine gO (by simp [h0, h1, Nd.encL_length] <;> rfl) ?_
   rfl
 apply sQ
 apply rS hC
 · iterate 3 refine gO (by simp [h0, h1, Nd.encL_length] <;> rfl) ?_
   rfl
 apply bK
 refine Tri.loop ?_
 refine loop66 hC g cs p hx0 l [] _ _ hg (by simpa using hlen) (by simp [hw]) (by simp [h0]) (by simp [h1]) (by simp [Nd.encL_length]) (by simp) ?exit ?ret
 case exit =>
  intro t2 H2 hw he
  refine inBlk_exit ?_
  apply sN
  apply rS hC
  · refine gO (by simp [h0, h1, Nd.encL_length] <;> rfl) ?_
    rfl
  apply Tri.ret
  first
  | exact ⟨_, ⟨(i : Int), rfl, by rw [he]; simp, by omega, by simp at hi; omega⟩, by simp [Ends, Tryz.f79, h4]⟩
  | exact ⟨_, ⟨-1, rfl, by rw [he]; decide, by omega, by omega⟩, by simp [Ends, Tryz.f79]⟩
 case ret =>
  intro t2 H2 i hw he h4 hi
  apply bR
  apply sR
  first
  | exact ⟨_, ⟨(i : Int), rfl, by rw [he]; simp, by omega, by simp at hi; omega⟩, by simp [Ends, Tryz.f79, h4]⟩
  | exact ⟨_, ⟨-1, rfl, by rw [he]; decide, by omega, by omega⟩, by simp [Ends, Tryz.f79]⟩
theorem body_49 {call : CallF} (hC : call.Sound Tryz.prog TT) (l : List V) (i : Int) (b : Bool) (hb : decide (0 ≤ i) = b) (s : List UInt8) (hs : ∀ H, call 87 [.isl 1 l, .s s] H = .val (.i .i64 i) H)  : Body Tryz.prog TT 62 [.isl 1 l, .s s] (.val (.b b)) := by
 refine en Tryz.f62 rfl rfl (by simp [Tryz.f62]) 9 rfl fun t hw hg => ?_
 have h0 := hg 0 _ rfl
 have h1 := hg 1 _ rfl
 clear hg
 skip
 apply rS hC
 · refine oA ?_
   rfl
 apply rS hC
 · iterate 5 refine oA ?_
   rfl
 apply Tri.ret
 simp [Ends, Tryz.f62, h0, h1, hs, hb]
theorem body_56 {call : CallF} (hC : call.Sound Tryz.prog TT) (l : List V) (i : Int) (b : Bool) (hb : decide (0 ≤ i) = b) (g : FuncId) (cs : List V) (hs : ∀ H, call 92 [.isl 1 l, .fn g cs] H = .val (.i .i64 i) H)  : Body Tryz.prog TT 69 [.isl 1 l, .fn g cs] (.val (.b b)) := by
 refine en Tryz.f69 rfl rfl (by simp [Tryz.f69]) 9 rfl fun t hw hg => ?_
 have h0 := hg 0 _ rfl
 have h1 := hg 1 _ rfl
 clear hg
 skip
 apply rS hC
 · refine oA ?_
   rfl
 apply rS hC
 · iterate 5 refine oA ?_
   rfl
 apply Tri.ret
 simp [Ends, Tryz.f69, h0, h1, hs, hb]
theorem body_41 {call : CallF} (hC : call.Sound Tryz.prog TT) (l : List V) (i : Int) (b : Bool) (hb : decide (0 ≤ i) = b) (g : FuncId) (cs : List V) (hs : ∀ H, call 79 [.isl 3 l, .fn g cs] H = .val (.i .i64 i) H)  : Body Tryz.prog TT 55 [.isl 3 l, .fn g cs] (.val (.b b)) := by
 refine en Tryz.f55 rfl rfl (by simp [Tryz.f55]) 9 rfl fun t hw hg => ?_
 have h0 := hg 0 _ rfl
 have h1 := hg 1 _ rfl
 clear hg
 skip
 apply rS hC
 · refine oA ?_
   rfl
 apply rS hC
 · iterate 5 refine oA ?_
   rfl
 apply Tri.ret
 simp [Ends, Tryz.f55, h0, h1, hs, hb]

theorem loop9 {call : CallF} (hC : call.Sound Tryz.prog TT) (m : Int) {Q : Out → Prop} : ∀ (L pre : List Nd) (o : Int) (t : Tm) (H : Heap),
    (∀ x ∈ L, ∀ q H, call 24 [x.enc, .i .i64 q] H = .val (.i .i64 (sz x q)) H) →
    t.wid = 32 → t.get 1 = .i .i64 m → t.get 14 = .isl 3 (Nd.encL (pre ++ L)) → t.get 15 = .i .i64 (pre ++ L).length → t.get 16 = .i .i64 pre.length → t.get 5 = .i .i64 o → (pre ++ L).length < 1100000 →
    (∀ t' H', t'.wid = 32 → t'.get 5 = .i .i64 (szL L m o) → Q (.exit 0 t' H')) → LTri Tryz.prog TT (sub [true, true, false, true, false, false] (bodyOf Tryz.f24)) t H Q := by
 intro L
 induction L with
 | nil =>
   intro pre o t H hrec hw h1 h14 h15 h16 h5 hlen hE
   refine LTri.round' ?_
   apply rS hC
   · refine gO (by simp [h1, h14, h15, h16, h5, Nd.encL_length, Nd.enc_eq] <;> rfl) ?_
     rfl
   apply sQ
   refine cF (by simp [h1, h14, h15, h16, h5, Nd.encL_length, Nd.enc_eq] <;> rfl) ?_
   refine Tri.exit ?_
   refine inSeq_exit ?_
   refine inLoop_exit ?_
   exact hE _ _ (by simp [hw]) (by simp [h5, szL])
 | cons x L ih =>
   intro pre o t H hrec hw h1 h14 h15 h16 h5 hlen hE
   have hlt := fin_len pre.length L.length
   have hat := encL_at pre x L
   have hat2 := encL_at2 pre x L
   have hr := hrec x (by simp)
   simp only [Nd.enc_eq] at hr
   refine LTri.round' ?_
   apply rS hC
   · refine gO (by simp [h1, h14, h15, h16, h5, Nd.encL_length, Nd.enc_eq, hlt, hat, hat2, hr] <;> rfl) ?_
     rfl
   apply sQ
   refine cT (by simp [h1, h14, h15, h16, h5, Nd.encL_length, Nd.enc_eq, hlt, hat, hat2, hr] <;> rfl) ?_
   apply Tri.skip
   apply sN
   apply sQ
   apply bK
   apply rS hC
   · iterate 4 refine gO (by simp [h1, h14, h15, h16, h5, Nd.encL_length, Nd.enc_eq, hlt, hat, hat2, hr] <;> rfl) ?_
     rfl
   apply sQ
   apply rS hC
   · iterate 3 refine gO (by simp [h1, h14, h15, h16, h5, Nd.encL_length, Nd.enc_eq, hlt, hat, hat2, hr] <;> rfl) ?_
     rfl
   refine Tri.condG (o := ?o5) (b := ?b5) ?g5 ?r5 ?y5 ?n5
   case g5 => simp [h1, h14, h15, h16, h5, Nd.encL_length, Nd.enc_eq, hlt, hat, hat2, hr] <;> rfl
   case r5 => rfl
   case y5 =>
    intro hy5
    have hb2 : o > m := by simp at hy5; omega
    refine Tri.exit ?_
    refine inSeq_exit ?_
    refine inBlk_pass rfl ?_
    refine inSeq_exit ?_
    refine inLoop_exit ?_
    exact hE _ _ (by simp [hw]) (by simp [h5, szL, if_pos hb2])
   case n5 =>
    intro hn5
    have hb2 : ¬ o > m := by simp at hn5; omega
    apply Tri.skip
    apply sN
    apply rN hC
    · iterate 8 refine gO (by simp [h1, h14, h15, h16, h5, Nd.encL_length, Nd.enc_eq, hlt, hat, hat2, hr] <;> rfl) ?_
      rfl
    apply bN
    apply sN
    apply rN hC
    · iterate 2 refine gO (by simp [h1, h14, h15, h16, h5, Nd.encL_length, Nd.enc_eq, hlt, hat, hat2, hr] <;> rfl) ?_
      rfl
    refine inLoop_norm ?_
    refine ih (pre ++ [x]) _ _ _ (fun x hx q => hrec x (List.mem_cons_of_mem _ hx) q) (by simp [hw]) (by simp [h1]) (by simp [h14]) (by simp [h15]) (by simp; exact wrap_i64 (by omega) (by simp at hlen; omega)) (by simp <;> rfl) (by simpa using hlen) ?_
    intro t' H' hw' h5'
    exact hE t' H' hw' (by rw [h5']; simp only [szL, if_neg hb2])
theorem body_9 {call : CallF} (hC : call.Sound Tryz.prog TT) (x : Nd) (m : Int) (hlen : x.kids.length < 1100000) (hrec : ∀ y ∈ x.kids, ∀ q H, call 24 [y.enc, .i .i64 q] H = .val (.i .i64 (sz y q)) H)  : Body Tryz.prog TT 24 [x.enc, .i .i64 m] (.val (.i .i64 (sz x m))) := by
 refine en Tryz.f24 rfl rfl (by simp [Tryz.f24]) 32 rfl fun t hw hg => ?_
 have h0 := hg 0 _ rfl
 have h1 := hg 1 _ rfl
 clear hg
 simp only [Nd.enc_eq] at h0
 apply rS hC
 · iterate 2 refine gO (by simp [h0, h1, Nd.encL_length] <;> rfl) ?_
   rfl
 apply rS hC
 · iterate 6 refine gO (by simp [h0, h1, Nd.encL_length] <;> rfl) ?_
   rfl
 apply sQ
 apply rS hC
 · iterate 4 refine gO (by simp [h0, h1, Nd.encL_length] <;> rfl) ?_
   rfl
 apply bK
 refine Tri.loop ?_
 refine loop9 hC m x.kids [] _ _ _ hrec (by simp [hw]) (by simp [h1]) (by simp) (by simp [Nd.encL_length]) (by simp) (by simp <;> rfl) (by simpa using hlen) ?exit
 case exit =>
  intro t2 H2 hw h5
  refine inBlk_exit ?_
  apply sN
  apply rS hC
  · iterate 2 refine gO (by simp [h0, h1, Nd.encL_length, h5] <;> rfl) ?_
    rfl
  apply Tri.ret
  simp [Ends, Tryz.f24, h5]
  cases x; simp [sz, Nd.text, Nd.kids]
mutual
def Nd.dep : Nd → Nat
  | .mk _ _ l => Nd.depL l 0 + 1
def Nd.depL : List Nd → Nat → Nat
  | [], d => d
  | x :: l, d => Nd.depL l (if x.dep > d then x.dep else d)
end
mutual
theorem Nd.dep_le : ∀ x : Nd, x.dep ≤ x.num
  | .mk _ _ l => by
    have := Nd.depL_le l 0
    simp only [Nd.dep, Nd.num]; omega
theorem Nd.depL_le : ∀ (l : List Nd) (d : Nat), Nd.depL l d ≤ d + Nd.numL l
  | [], d => by simp [Nd.depL]
  | x :: l, d => by
    have h1 := Nd.dep_le x
    have h2 := Nd.depL_le l (if x.dep > d then x.dep else d)
    simp only [Nd.depL, Nd.numL]
    split at h2 <;> split <;> omega
end
theorem loop7 {call : CallF} (hC : call.Sound Tryz.prog TT) {Q : Out → Prop} : ∀ (L pre : List Nd) (n d : Nat) (t : Tm) (H : Heap),
    (∀ x ∈ L, ∀ H, call 15 [x.enc] H = .val (.tup [.i .i64 x.num, .i .i64 x.dep]) H) → n + Nd.numL L < 2200000 → (pre ++ L).length < 1100000 →
    t.wid = 30 → t.get 9 = .isl 3 (Nd.encL (pre ++ L)) → t.get 10 = .i .i64 (pre ++ L).length → t.get 11 = .i .i64 pre.length → t.get 2 = .i .i64 n → t.get 3 = .i .i64 d →
    (∀ t' H', t'.wid = 30 → t'.get 2 = .i .i64 (n + Nd.numL L : Nat) → t'.get 3 = .i .i64 (Nd.depL L d) → Q (.exit 0 t' H')) →
    LTri Tryz.prog TT (sub [true, true, false, true, false, false] (bodyOf Tryz.f15)) t H Q := by
 intro L
 induction L with
 | nil =>
   intro pre n d t H hrec hn hlen hw h9 h10 h11 h2 h3 hE
   refine LTri.round' ?_
   apply rS hC
   · refine gO (by simp [h9, h10, h11, h2, h3, Nd.encL_length, Nd.enc_eq] <;> rfl) ?_
     rfl
   apply sQ
   refine cF (by simp [h9, h10, h11, h2, h3, Nd.encL_length, Nd.enc_eq] <;> rfl) ?_
   refine Tri.exit ?_
   refine inSeq_exit ?_
   refine inLoop_exit ?_
   exact hE _ _ (by simp [hw]) (by simp [h2, Nd.numL]) (by simp [h3, Nd.depL])
 | cons x L ih =>
   intro pre n d t H hrec hn hlen hw h9 h10 h11 h2 h3 hE
   have hlt := fin_len pre.length L.length
   have hat := encL_at pre x L
   have hat2 := encL_at2 pre x L
   have hr := hrec x (by simp)
   simp only [Nd.enc_eq] at hr
   have hwn : IntKind.i64.wrap ((n : Int) + x.num) = n + x.num := wrap_i64 (by omega) (by simp only [Nd.numL] at hn; omega)
   have hmx : (if (d : Int) < x.dep then (x.dep : Int) else d) = ((if x.dep > d then x.dep else d : Nat) : Int) := by
    by_cases h : d < x.dep
    · rw [if_pos (by omega), if_pos h]
    · rw [if_neg (by omega), if_neg h]
   refine LTri.round' ?_
   apply rS hC
   · refine gO (by simp [h9, h10, h11, h2, h3, Nd.encL_length, Nd.enc_eq, hlt, hat, hat2, hr, evMax, hwn, hmx] <;> rfl) ?_
     rfl
   apply sQ
   refine cT (by simp [h9, h10, h11, h2, h3, Nd.encL_length, Nd.enc_eq, hlt, hat, hat2, hr, evMax, hwn, hmx] <;> rfl) ?_
   apply Tri.skip
   apply sN
   apply sQ
   apply bK
   apply rS hC
   · iterate 4 refine gO (by simp [h9, h10, h11, h2, h3, Nd.encL_length, Nd.enc_eq, hlt, hat, hat2, hr, evMax, hwn, hmx] <;> rfl) ?_
     rfl
   apply rS hC
   · iterate 7 refine gO (by simp [h9, h10, h11, h2, h3, Nd.encL_length, Nd.enc_eq, hlt, hat, hat2, hr, evMax, hwn, hmx] <;> rfl) ?_
     rfl
   apply rN hC
   · iterate 8 refine gO (by simp [h9, h10, h11, h2, h3, Nd.encL_length, Nd.enc_eq, hlt, hat, hat2, hr, evMax, hwn, hmx] <;> rfl) ?_
     rfl
   apply bN
   apply sN
   apply rN hC
   · iterate 2 refine gO (by simp [h9, h10, h11, h2, h3, Nd.encL_length, Nd.enc_eq, hlt, hat, hat2, hr, evMax, hwn, hmx] <;> rfl) ?_
     rfl
   refine inLoop_norm ?_
   refine ih (pre ++ [x]) (n + x.num) (if x.dep > d then x.dep else d) _ _ (fun x hx => hrec x (List.mem_cons_of_mem _ hx)) (by simp only [Nd.numL] at hn; omega) (by simpa using hlen) (by simp [hw]) (by simp [h9]) (by simp [h10]) (by simp; exact wrap_i64 (by omega) (by simp at hlen; omega)) (by simp [hwn]) (by simp <;> split <;> rfl) ?_
   intro t' H' hw' g2 g3
   exact hE t' H' hw' (by rw [g2]; simp only [Nd.numL]; congr 1; push_cast; omega) (by rw [g3]; simp only [Nd.depL])
theorem body_7 {call : CallF} (hC : call.Sound Tryz.prog TT) (x : Nd) (hfit : x.num < 1100000) (hrec : ∀ y ∈ x.kids, ∀ H, call 15 [y.enc] H = .val (.tup [.i .i64 y.num, .i .i64 y.dep]) H)  : Body Tryz.prog TT 15 [x.enc] (.val (.tup [.i .i64 x.num, .i .i64 x.dep])) := by
 refine en Tryz.f15 rfl rfl (by simp [Tryz.f15]) 30 rfl fun t hw hg => ?_
 have h0 := hg 0 _ rfl
 clear hg
 try simp only [Nd.enc_eq] at h0
 have hnum : x.num = Nd.numL x.kids + 1 := by cases x; rfl
 have hdep : x.dep = Nd.depL x.kids 0 + 1 := by cases x; rfl
 have hdl := Nd.depL_le x.kids 0
 apply rS hC
 · iterate 3 refine gO (by simp [h0, Nd.encL_length] <;> rfl) ?_
   rfl
 apply rS hC
 · refine gO (by simp [h0, Nd.encL_length] <;> rfl) ?_
   rfl
 apply sQ
 apply rS hC
 · iterate 4 refine gO (by simp [h0, Nd.encL_length] <;> rfl) ?_
   rfl
 apply bK
 refine Tri.loop ?_
 refine loop7 hC x.kids [] 1 0 _ _ hrec (by rw [hnum] at hfit; omega) (by simp; have := Nd.numL_length x.kids; omega) (by simp [hw]) (by simp) (by simp [Nd.encL_length]) (by simp) (by simp) (by simp) ?exit
 case exit =>
  intro t2 H2 hw h2 h3
  refine inBlk_exit ?_
  apply sN
  apply rS hC
  · iterate 5 refine gO (by simp [h0, Nd.encL_length, h2, h3] <;> rfl) ?_
    rfl
  apply Tri.ret
  simp [Ends, Tryz.f15, h2, h3, hnum, hdep]
  exact ⟨by omega, wrap_i64 (by omega) (by omega)⟩
end Go.Ev
namespace Go.Ev
open Go Go.RowKit
section
variable {P : Program} {T : Tab} {M : Mem} {ρ : Ren} {w : World} {H : Heap}
abbrev FR (r : Option Nat) : Fence := { Fence.wide with round := r }
theorem wpIn_of_wp {r : Option Nat} {n : Nat} {o : Oper} {a : Act} {K : Act → World → Prop} {Q : Exit → Act → World → Prop} (hnd : ∀ c, o.op ≠ .defer c) (h : o.wp P a w K Q) : o.wpIn (FR r) n P a w K Q := by
  refine ⟨fun f _ => trivial, ?_⟩
  rw [Oper.semAt_eq _ _ _ hnd]
  unfold Oper.wp at h
  generalize (execOp a.eval o).run P w = res at h
  have hd : (FR r).depth.isSome = true → 1 ≤ n := fun e => by cases e
  cases res with
  | ok v w' =>
    cases v with
    | enter f args =>
      refine ⟨hd, ?_⟩
      have := (callsIn_wide (n := n - 1)).2 h
      exact this
    | round => exact h.elim
    | row row args => exact ⟨hd, fun c cs _ => let ⟨v, w', r, s⟩ := h c cs; ⟨v, w', r, stepsIn_wide.2 s⟩⟩
    | _ => exact h
  | halt hh w' =>
    cases hh with
    | panic v => exact h
    | _ => exact h
theorem evSeqIn_ok (hT : TOk P T) {call : CallF} (hcall : call.Sound P T) (ops : Array Oper) {r : Option Nat} {n : Nat} {Q : Exit → Act → World → Prop} (rest : List Oper) : ∀ (l : List Oper) (t : Tm) (H : Heap) (a : Act) (w : World) (M : Mem) (ρ : Ren) (t' : Tm) (H' : Heap), SR T M ρ H w → relTm M ρ t a.tmps →
    (∀ o ∈ l, ∀ c, o.op ≠ .defer c) → evSeq (evOp T call) ops l t H = .norm t' H' →
    (∀ a' w' M' ρ', Ext M ρ w M' ρ' w' → relTm M' ρ' t' a'.tmps → SR T M' ρ' H' w' → a'.defers = a.defers → wpListIn (FR r) n P ops Q rest a' w') → wpListIn (FR r) n P ops Q (l ++ rest) a w
  | [], t, H, a, w, M, ρ, t', H', hS, ht, _, h, k => by
    simp only [evSeq] at h
    cases h
    exact k a w M ρ (Ext.refl _ _ _) ht hS rfl
  | o :: l, t, H, a, w, M, ρ, t', H', hS, ht, hnd, h, k => by
    simp only [evSeq, putK_eq, opened_eq] at h
    rw [List.cons_append]
    unfold wpListIn
    split at h
    · rename_i hw
      rw [wants_ok ht.2 hw]
      simp only [if_true]
      split at h
      · rename_i v H2 hv
        split at h
        · rename_i hfit
          refine wpIn_of_wp (hnd o (by simp)) (evOp_ok hT hcall hS ht.2 (r := .val v H2) hv ?_)
          intro x M' ρ' w' he hx hS'
          refine evSeqIn_ok hT hcall ops rest l _ H2 _ w' M' ρ' t' H' hS' (put_rel (relTm_mono he.mem he.pre ht) hx o.dst hfit) (fun o' ho => hnd o' (by simp [ho])) h ?_
          intro a' w2 M2 ρ2 he2 ht2 hS2 hd
          rw [put_defers'] at hd
          exact k a' w2 M2 ρ2 (he.trans he2) ht2 hS2 hd
        · cases h
      · cases h
      · cases h
    · rename_i hw
      rw [wants_ok ht.2 hw]
      simp only [Bool.false_eq_true, if_false]
      split at h
      · rename_i hfit
        refine ⟨fun f _ => trivial, evSeqIn_ok hT hcall ops rest l _ H _ w M ρ t' H' hS (put_rel ht rel_undef o.dst hfit) (fun o' ho => hnd o' (by simp [ho])) h ?_⟩
        intro a' w2 M2 ρ2 he2 ht2 hS2 hd
        rw [put_defers'] at hd
        exact k a' w2 M2 ρ2 he2 ht2 hS2 hd
      · cases h
    · cases h
theorem regIn_ok (hT : TOk P T) {call : CallF} (hcall : call.Sound P T) {ops : Array Oper} {r : Option Nat} {n id : Nat} {Q : Exit → Act → World → Prop} {t t' : Tm} {H' : Heap} {a : Act} (hS : SR T M ρ H w) (ht : relTm M ρ t a.tmps) (hnd : ∀ o ∈ ops.toList, ∀ c, o.op ≠ .defer c)
    (h : evReg T call ops false t H = .norm t' H') (k : ∀ a' w' M' ρ', Ext M ρ w M' ρ' w' → relTm M' ρ' t' a'.tmps → SR T M' ρ' H' w' → a'.defers = a.defers → Q .normal a' w') : (Code.region id ops false).wpIn (FR r) n P Q a w := by
  refine wpIn_region_list ?_
  have := evSeqIn_ok hT hcall ops (r := r) (n := n) (Q := Q) [] ops.toList t H a w M ρ t' H' hS ht hnd h (fun a' w' M' ρ' he ht' hS' hd => k a' w' M' ρ' he ht' hS' hd)
  rwa [List.append_nil] at this
structure Hid (l : Nat) (o : Obj) (M : Mem) (ρ : Ren) (w : World) : Prop where
  at_ : w.heap[l]? = some o
  free : M l = none
  un : ∀ c, (l, c) ∉ ρ
theorem Hid.lt {l : Nat} {o : Obj} (h : Hid l o M ρ w) : l < w.heap.size := (Array.getElem?_eq_some_iff.1 h.at_).1
theorem Hid.ext {l : Nat} {o : Obj} {M' : Mem} {ρ' : Ren} {w' : World} (h : Hid l o M ρ w) (he : Ext M ρ w M' ρ' w') : Hid l o M' ρ' w' where
  at_ := by rw [he.frame l h.lt h.un]; exact h.at_
  free := by rw [he.newM l h.lt h.un]; exact h.free
  un c hc := by
    rcases he.newR l c hc with ⟨c', h'⟩ | h'
    · exact h.un c' h'
    · exact absurd h.lt (by omega)
theorem sr_put {l : Nat} {o o' : Obj} (hS : SR T M ρ H w) (h : Hid l o M ρ w) : SR T M ρ H (w.putObj l o') where
  frozen b ob hb := by
    have : b ≠ l := fun e => by subst e; rw [h.free] at hb; cases hb
    rw [World.putObj_heap_other this]
    exact hS.frozen b ob hb
  len := hS.len
  blk n b hn := by
    obtain ⟨c, q, hr, hM, hlt, hok⟩ := hS.blk n b hn
    have : c ≠ l := fun e => by subst e; exact h.un q (List.mem_of_getElem? hr)
    refine ⟨c, q, hr, hM, by simpa using hlt, ?_⟩
    rw [World.putObj_heap_other this]
    exact hok
  inj := hS.inj
  glob := hS.glob
theorem Hid.put {l : Nat} {o : Obj} (o' : Obj) (h : Hid l o M ρ w) : Hid l o' M ρ (w.putObj l o') := ⟨World.putObj_heap_same h.lt, h.free, h.un⟩
theorem Hid.other {l k : Nat} {o o' : Obj} (h : Hid k o M ρ w) (hne : k ≠ l) : Hid k o M ρ (w.putObj l o') := ⟨by rw [World.putObj_heap_other hne]; exact h.at_, h.free, h.un⟩
theorem ext_put {M0 : Mem} {ρ0 : Ren} {w0 : World} {l : Nat} {o' : Obj} (he : Ext M0 ρ0 w0 M ρ w) (hl : w0.heap.size ≤ l) : Ext M0 ρ0 w0 M ρ (w.putObj l o') where
  os := he.os
  tape := he.tape
  output := he.output
  size := by simpa using he.size
  mem := he.mem
  pre := he.pre
  frame b hb hn := by rw [World.putObj_heap_other (by omega)]; exact he.frame b hb hn
  newM := he.newM
  newR := he.newR
theorem sr_alloc (hS : SR T M ρ H w) (o : Obj) : SR T M ρ H (w.alloc o) where
  frozen b ob hb := by
    have := hS.frozen b ob hb
    rw [RowKit.Below.heap_alloc w o b (Array.getElem?_eq_some_iff.1 this).1]
    exact this
  len := hS.len
  blk n b hn := by
    obtain ⟨c, q, hr, hM, hlt, hok⟩ := hS.blk n b hn
    refine ⟨c, q, hr, hM, by simp; omega, ?_⟩
    rw [RowKit.Below.heap_alloc w o c hlt]
    exact hok
  inj := hS.inj
  glob := hS.glob
theorem ext_alloc (o : Obj) : Ext M ρ w M ρ (w.alloc o) where
  os := rfl
  tape := rfl
  output := rfl
  size := by simp
  mem := Mem.le.refl _
  pre := List.prefix_refl _
  frame b hb _ := RowKit.Below.heap_alloc w o b hb
  newM _ _ _ := rfl
  newR _ c h := .inl ⟨c, h⟩
theorem yield_ok {r : Option Nat} {n l k : Nat} {o : Oper} {a : Act} {K : Act → World → Prop} {Q : Exit → Act → World → Prop} {c : Call} {t : Tm} {vs : List V} {rec : Loop} (ht : relTm M ρ t a.tmps)
    (ho : o.op = .call c) (hc : c.callee = .value (.tmp k)) (hk : t.get k = .yld l) (hvs : evs t.get c.args.toList = some vs) (hl : w.heap[l]? = some (.loop rec)) (hlen : vs.length = rec.params.size)
    (h : ∀ args : List Value, relL M ρ vs args → RoundIn (FR r) (n - 1) P l rec.fn ((rec.params.zip args.toArray).foldl (fun tmps (t, a) => tmps.setIfInBounds t a) rec.tmps) rec.assign rec.body w fun e w' => match e with | .returned v => K (a.put o.dst v) w' | _ => False) : o.wpIn (FR r) n P a w K Q := by
  have hv := ht.2 k
  rw [hk] at hv
  simp only [rel] at hv
  have hrel := evs_rel ht.2 hvs
  have hsz : (c.args.map a.eval).size = rec.params.size := by
    have := relL_length hrel
    simp at this
    simp [this, ← hlen]
  refine ⟨fun f _ => trivial, ?_⟩
  rw [Oper.semAt_eq _ _ _ (fun c' e => by rw [ho] at e; cases e)]
  have hy := run_yield (P := P) (args := c.args.map a.eval) hl hsz
  have hexec : (execOp a.eval o).run P w = .ok (.round l rec.fn ((rec.params.zip (c.args.map a.eval)).foldl (fun tmps (t, a) => tmps.setIfInBounds t a) rec.tmps) rec.assign rec.body) w := by
    have h1 : a.eval (.tmp k) = .func (.yield l) #[] #[] := hv
    simp [execOp, ho, resolve, hc, h1, Deferred.ofValue, invoke, hy]
  rw [hexec, Oper.uponIn_round]
  refine ⟨fun e => (by cases e), ?_⟩
  have := h (c.args.toList.map a.eval) hrel
  have e2 : (c.args.toList.map a.eval).toArray = c.args.map a.eval := by apply Array.ext'; simp
  rw [e2] at this
  refine this.mono fun e w' he => ?_
  cases e with
  | returned v => exact he
  | panicked chain => exact he.elim
  | outgrown => exact he.elim
end
end Go.Ev
namespace Go.Ev
open Go Go.RowKit
def Out.isN : Out → Bool
  | .norm .. => true
  | _ => false
noncomputable def Out.tm : Out → Tm
  | .norm t _ => t
  | _ => Tm.init 0 []
def Out.hp : Out → Heap
  | .norm _ H => H
  | _ => []
theorem Out.eq_of_isN {o : Out} (h : o.isN = true) : o = .norm o.tm o.hp := by cases o <;> first | rfl | cases h
def noDefer (ops : Array Oper) : Bool := ops.toList.all fun o => match o.op with
  | .defer _ => false
  | _ => true
theorem noDefer_at {ops : Array Oper} (h : noDefer ops = true) : ∀ o ∈ ops.toList, ∀ c, o.op ≠ .defer c := fun o ho c e => by
  have := List.all_eq_true.1 h o ho
  rw [e] at this
  cases this
def callTmp (o : Oper) : Option (Nat × List Operand) := match o.op with
  | .call ⟨.value (.tmp j), args, _⟩ => some (j, args.toList)
  | _ => none
theorem callTmp_at {o : Oper} {j : Nat} {ops2 : List Operand} (h : callTmp o = some (j, ops2)) : ∃ c : Call, o.op = .call c ∧ c.callee = .value (.tmp j) ∧ c.args.toList = ops2 := by
  unfold callTmp at h
  split at h
  · rename_i j' args tys e
    cases h
    exact ⟨_, e, rfl, rfl⟩
  · cases h
section
variable {P : Program} {T : Tab} {M : Mem} {ρ : Ren} {w : World} {H : Heap}
theorem regN (hT : TOk P T) {call : CallF} (hcall : call.Sound P T) {ops : Array Oper} {r : Option Nat} {n id : Nat} {Q : Exit → Act → World → Prop} {t : Tm} {a : Act} (hS : SR T M ρ H w) (ht : relTm M ρ t a.tmps) (hnd : noDefer ops = true)
    (h : (evReg T call ops false t H).isN = true) (k : ∀ a' w' M' ρ', Ext M ρ w M' ρ' w' → relTm M' ρ' (evReg T call ops false t H).tm a'.tmps → SR T M' ρ' (evReg T call ops false t H).hp w' → a'.defers = a.defers → Q .normal a' w') : (Code.region id ops false).wpIn (FR r) n P Q a w :=
  regIn_ok hT hcall hS ht (noDefer_at hnd) (Out.eq_of_isN h) k
end
end Go.Ev
namespace Go.Ev
open Go Go.Proofs
set_option linter.unusedSimpArgs false
set_option linter.unusedVariables false
open Go Go.RowKit
structure HE where
  l : Nat
  o : Obj
  t : Tm
  ts : Array Value
def mark (D : Nat) : Deferred := { target := .collected D, args := #[] }
section
variable {P : Program} {T : Tab}
structure StX (T : Tab) (M0 : Mem) (ρ0 : Ren) (w0 : World) (M : Mem) (ρ : Ren) (ms : List Nat) (t : Tm) (H : Heap) (hs : List HE) (a : Act) (w : World) : Prop where
  ext : Ext M0 ρ0 w0 M ρ w
  sr : SR T M ρ H w
  tm : relTm M ρ t a.tmps
  hid : ∀ e ∈ hs, w0.heap.size ≤ e.l ∧ Hid e.l e.o M ρ w ∧ relTm M ρ e.t e.ts
  defs : a.defers = ms.map mark
  marks : ∀ D ∈ ms, w0.heap.size ≤ D ∧ Hid D (.deferred (some [])) M ρ w
  nd : (ms ++ hs.map HE.l).Nodup
variable {M0 M M' : Mem} {ρ0 ρ ρ' : Ren} {w0 w w' : World} {ms : List Nat} {t t' : Tm} {H H' : Heap} {hs hs' xs : List HE} {a a' : Act} {r : Option Nat} {c x y : Code} {id : Nat}
theorem StX.step (h : StX T M0 ρ0 w0 M ρ ms t H hs a w) (he : Ext M ρ w M' ρ' w') (ht : relTm M' ρ' t' a'.tmps) (hS : SR T M' ρ' H' w') (hd : a'.defers = a.defers) : StX T M0 ρ0 w0 M' ρ' ms t' H' hs a' w' :=
  ⟨h.ext.trans he, hS, ht, fun e hm => ⟨(h.hid e hm).1, (h.hid e hm).2.1.ext he, relTm_mono he.mem he.pre (h.hid e hm).2.2⟩, hd.trans h.defs, fun D hD => ⟨(h.marks D hD).1, (h.marks D hD).2.ext he⟩, h.nd⟩
def Behind (T : Tab) (M0 : Mem) (ρ0 : Ren) (w0 : World) (M : Mem) (ρ : Ren) (t : Tm) (H : Heap) (hs : List HE) (a' : Act) (w' : World) : Prop :=
  ∃ M' ρ' ms, M.le M' ∧ ρ <+: ρ' ∧ StX T M0 ρ0 w0 M' ρ' ms t H hs a' w'
def PostG (T : Tab) (M0 : Mem) (ρ0 : Ren) (w0 : World) (M : Mem) (ρ : Ren) (xs : List HE) (o : Out) (hs : List HE) (e : Exit) (a' : Act) (w' : World) : Prop :=
  match o, e with
  | .norm t H, .normal => Behind T M0 ρ0 w0 M ρ t H (hs ++ xs) a' w'
  | .exit id t H, .exit j => j = id ∧ Behind T M0 ρ0 w0 M ρ t H (hs ++ xs) a' w'
  | .ret t H, .ret => Behind T M0 ρ0 w0 M ρ t H (hs ++ xs) a' w'
  | _, _ => False
theorem Behind.later (h1 : M.le M') (h2 : ρ <+: ρ') (h : Behind T M0 ρ0 w0 M' ρ' t H hs a' w') : Behind T M0 ρ0 w0 M ρ t H hs a' w' := by
  obtain ⟨M2, ρ2, ms, k1, k2, k3⟩ := h
  exact ⟨M2, ρ2, ms, h1.trans k1, h2.trans k2, k3⟩
theorem PostG.later {o : Out} {e : Exit} (h1 : M.le M') (h2 : ρ <+: ρ') (h : PostG T M0 ρ0 w0 M' ρ' xs o hs e a' w') : PostG T M0 ρ0 w0 M ρ xs o hs e a' w' := by
  cases o <;> cases e <;> first
    | exact Behind.later h1 h2 h
    | exact ⟨h.1, Behind.later h1 h2 h.2⟩
    | exact h
def TriGX (P : Program) (T : Tab) (r : Option Nat) (hs : List HE) (c : Code) (t : Tm) (H : Heap) (o : Out) (hs' : List HE) : Prop :=
  ∀ (n : Nat) (M0 : Mem) (ρ0 : Ren) (w0 : World) (M : Mem) (ρ : Ren) (ms : List Nat) (xs : List HE) (a : Act) (w : World), StX T M0 ρ0 w0 M ρ ms t H (hs ++ xs) a w → c.wpIn (FR r) n P (PostG T M0 ρ0 w0 M ρ xs o hs') a w
def LTriGX (P : Program) (T : Tab) (r : Option Nat) (hs : List HE) (c : Code) (t : Tm) (H : Heap) (o : Out) (hs' : List HE) : Prop :=
  ∃ m, ∀ (n : Nat) (M0 : Mem) (ρ0 : Ren) (w0 : World) (M : Mem) (ρ : Ren) (ms : List Nat) (xs : List HE) (a : Act) (w : World), StX T M0 ρ0 w0 M ρ ms t H (hs ++ xs) a w → Code.roundsIn (FR r) n P c (PostG T M0 ρ0 w0 M ρ xs o hs') m a w
def TriG (P : Program) (T : Tab) (r : Option Nat) (hs : List HE) (c : Code) (t : Tm) (H : Heap) (Q : Out → List HE → Prop) : Prop := ∃ o hs', Q o hs' ∧ TriGX P T r hs c t H o hs'
def LTriG (P : Program) (T : Tab) (r : Option Nat) (hs : List HE) (c : Code) (t : Tm) (H : Heap) (Q : Out → List HE → Prop) : Prop := ∃ o hs', Q o hs' ∧ LTriGX P T r hs c t H o hs'
variable {Q Q' : Out → List HE → Prop}
theorem TriG.mono (h : TriG P T r hs c t H Q) (hq : ∀ o k, Q o k → Q' o k) : TriG P T r hs c t H Q' := by
  obtain ⟨o, k, h1, h2⟩ := h
  exact ⟨o, k, hq o k h1, h2⟩
theorem LTriG.mono (h : LTriG P T r hs c t H Q) (hq : ∀ o k, Q o k → Q' o k) : LTriG P T r hs c t H Q' := by
  obtain ⟨o, k, h1, h2⟩ := h
  exact ⟨o, k, hq o k h1, h2⟩
theorem StX.behind (h : StX T M0 ρ0 w0 M ρ ms t H hs a w) : Behind T M0 ρ0 w0 M ρ t H hs a w := ⟨M, ρ, ms, Mem.le.refl _, List.prefix_refl _, h⟩
theorem TriG.skip (h : Q (.norm t H) hs) : TriG P T r hs .skip t H Q := ⟨_, _, h, fun n M0 ρ0 w0 M ρ ms xs a w k => wpIn_skip k.behind⟩
theorem TriG.exit (h : Q (.exit id t H) hs) : TriG P T r hs (.exit id) t H Q := ⟨_, _, h, fun n M0 ρ0 w0 M ρ ms xs a w k => wpIn_exit ⟨rfl, k.behind⟩⟩
theorem TriG.ret (h : Q (.ret t H) hs) : TriG P T r hs .ret t H Q := ⟨_, _, h, fun n M0 ρ0 w0 M ρ ms xs a w k => wpIn_ret k.behind⟩
theorem TriG.reg (hT : TOk P T) {call : CallF} (hC : call.Sound P T) {ops : Array Oper} (hnd : noDefer ops = true) (he : evReg T call ops false t H = .norm t' H') (h : Q (.norm t' H') hs) : TriG P T r hs (.region id ops false) t H Q :=
  ⟨_, _, h, fun n M0 ρ0 w0 M ρ ms xs a w k => regIn_ok hT hC k.sr k.tm (noDefer_at hnd) he fun a' w' M' ρ' e1 ht hS hd => ⟨M', ρ', ms, e1.mem, e1.pre, k.step e1 ht hS hd⟩⟩
def Out.good : Out → Prop
  | .pan .. => False
  | .no => False
  | _ => True
theorem TriG.lift {Q2 : Out → Prop} (h : Tri P T c t H Q2) (hq : ∀ o, Q2 o → o.good ∧ Q o hs) : TriG P T none hs c t H Q := by
  obtain ⟨o, h1, h2⟩ := h
  refine ⟨o, hs, (hq o h1).2, fun n M0 ρ0 w0 M ρ ms xs a w k => ?_⟩
  show c.wpIn (FR none) n P _ a w
  refine wpIn_wide.2 (h2 a w M ρ _ k.sr k.tm ?_)
  have hp := (hq o h1).1
  cases o with
  | norm t' H' => exact fun a' w' M' ρ' e1 ht hS hd => ⟨M', ρ', ms, e1.mem, e1.pre, k.step e1 ht hS hd⟩
  | exit id t' H' => exact fun a' w' M' ρ' e1 ht hS hd => ⟨rfl, M', ρ', ms, e1.mem, e1.pre, k.step e1 ht hS hd⟩
  | ret t' H' => exact fun a' w' M' ρ' e1 ht hS hd => ⟨M', ρ', ms, e1.mem, e1.pre, k.step e1 ht hS hd⟩
  | pan v t' H' => exact hp.elim
  | no => exact hp.elim
def inSeqG (P : Program) (T : Tab) (r : Option Nat) (y : Code) (Q : Out → List HE → Prop) : Out → List HE → Prop
  | .norm t H, hs => TriG P T r hs y t H Q
  | o, hs => Q o hs
def inBlkG (id : Nat) (Q : Out → List HE → Prop) : Out → List HE → Prop
  | .exit j t H, hs => if j = id then Q (.norm t H) hs else Q (.exit j t H) hs
  | o, hs => Q o hs
def inLoopG (P : Program) (T : Tab) (r : Option Nat) (c : Code) (Q : Out → List HE → Prop) : Out → List HE → Prop
  | .norm t H, hs => LTriG P T r hs c t H Q
  | o, hs => Q o hs
theorem TriG.seq (h : TriG P T r hs x t H (inSeqG P T r y Q)) : TriG P T r hs (.seq x y) t H Q := by
  obtain ⟨o, k, h1, h2⟩ := h
  cases o with
  | norm t1 H1 =>
    obtain ⟨o2, k2, h3, h4⟩ := h1
    refine ⟨o2, k2, h3, fun n M0 ρ0 w0 M ρ ms xs a w s => wpIn_seq (wpIn_mono (h2 n M0 ρ0 w0 M ρ ms xs a w s) ?_)⟩
    intro e a' w' hp
    cases e with
    | normal =>
      obtain ⟨M', ρ', ms', q1, q2, s'⟩ := hp
      exact wpIn_mono (h4 n M0 ρ0 w0 M' ρ' ms' xs a' w' s') fun e2 a2 w2 hp2 => hp2.later q1 q2
    | _ => exact hp.elim
  | exit j t1 H1 =>
    refine ⟨_, k, h1, fun n M0 ρ0 w0 M ρ ms xs a w s => wpIn_seq (wpIn_mono (h2 n M0 ρ0 w0 M ρ ms xs a w s) ?_)⟩
    intro e a' w' hp
    cases e <;> first
      | exact hp.elim
      | exact hp
  | ret t1 H1 =>
    refine ⟨_, k, h1, fun n M0 ρ0 w0 M ρ ms xs a w s => wpIn_seq (wpIn_mono (h2 n M0 ρ0 w0 M ρ ms xs a w s) ?_)⟩
    intro e a' w' hp
    cases e <;> first
      | exact hp.elim
      | exact hp
  | pan v t1 H1 =>
    refine ⟨_, k, h1, fun n M0 ρ0 w0 M ρ ms xs a w s => wpIn_seq (wpIn_mono (h2 n M0 ρ0 w0 M ρ ms xs a w s) ?_)⟩
    intro e a' w' hp
    cases e <;> exact hp.elim
  | no =>
    refine ⟨_, k, h1, fun n M0 ρ0 w0 M ρ ms xs a w s => wpIn_seq (wpIn_mono (h2 n M0 ρ0 w0 M ρ ms xs a w s) ?_)⟩
    intro e a' w' hp
    cases e <;> exact hp.elim
theorem TriG.block (h : TriG P T r hs x t H (inBlkG id Q)) : TriG P T r hs (.block id x) t H Q := by
  obtain ⟨o, k, h1, h2⟩ := h
  have key : ∀ o2, (∀ (n : Nat) (M0 : Mem) (ρ0 : Ren) (w0 : World) (M : Mem) (ρ : Ren) (xs : List HE) e a' w', PostG T M0 ρ0 w0 M ρ xs o k e a' w' → Exit.inBlock id (PostG T M0 ρ0 w0 M ρ xs o2 k) e a' w') → Q o2 k → TriG P T r hs (.block id x) t H Q :=
    fun o2 hq hQ => ⟨o2, k, hQ, fun n M0 ρ0 w0 M ρ ms xs a w s => wpIn_block (wpIn_mono (h2 n M0 ρ0 w0 M ρ ms xs a w s) (hq n M0 ρ0 w0 M ρ xs))⟩
  cases o with
  | exit j t1 H1 =>
    simp only [inBlkG] at h1
    by_cases e : j = id
    · rw [if_pos e] at h1
      refine key _ ?_ h1
      intro n M0 ρ0 w0 M ρ xs ex a' w' hp
      cases ex <;> first
        | exact hp.elim
        | (obtain ⟨e2, hp⟩ := hp
           simp only [Exit.inBlock]
           rw [if_pos (e2.trans e)]
           exact hp)
    · rw [if_neg e] at h1
      refine key _ ?_ h1
      intro n M0 ρ0 w0 M ρ xs ex a' w' hp
      cases ex <;> first
        | exact hp.elim
        | (simp only [Exit.inBlock]
           rw [if_neg (fun q => e (hp.1.symm.trans q))]
           exact hp)
  | norm t1 H1 =>
    refine key _ ?_ h1
    intro n M0 ρ0 w0 M ρ xs ex a' w' hp
    cases ex <;> first
      | exact hp.elim
      | exact hp
  | ret t1 H1 =>
    refine key _ ?_ h1
    intro n M0 ρ0 w0 M ρ xs ex a' w' hp
    cases ex <;> first
      | exact hp.elim
      | exact hp
  | pan v t1 H1 =>
    refine key _ ?_ h1
    intro n M0 ρ0 w0 M ρ xs ex a' w' hp
    cases ex <;> exact hp.elim
  | no =>
    refine key _ ?_ h1
    intro n M0 ρ0 w0 M ρ xs ex a' w' hp
    cases ex <;> exact hp.elim
theorem TriG.cond {g : Operand} {b : Bool} {o : Option V} (hg : ev1 t.get g = o) (ho : o = some (.b b)) (h1 : b = true → TriG P T r hs x t H Q) (h2 : b = false → TriG P T r hs y t H Q) : TriG P T r hs (.cond g x y) t H Q := by
  subst ho
  have hv : ∀ {M : Mem} {ρ : Ren} {a : Act}, relTm M ρ t a.tmps → a.eval g = .bool b := fun ht => by
    have := ev1_rel ht.2 hg
    simpa only [rel] using this
  cases b with
  | true =>
    obtain ⟨o, k, ho, hx⟩ := h1 rfl
    exact ⟨o, k, ho, fun n M0 ρ0 w0 M ρ ms xs a w s => wpIn_cond_true (hv s.tm) (hx n M0 ρ0 w0 M ρ ms xs a w s)⟩
  | false =>
    obtain ⟨o, k, ho, hx⟩ := h2 rfl
    exact ⟨o, k, ho, fun n M0 ρ0 w0 M ρ ms xs a w s => wpIn_cond_false (hv s.tm) (hx n M0 ρ0 w0 M ρ ms xs a w s)⟩
theorem roundsIn_mono {F : Fence} {n : Nat} {c : Code} {R R' : Exit → Act → World → Prop} (hq : ∀ e a w, R e a w → R' e a w) : ∀ (m : Nat) (a : Act) (w : World), Code.roundsIn F n P c R m a w → Code.roundsIn F n P c R' m a w
  | 0, _, _, h => h
  | m + 1, a, w, h => by
    rw [roundsIn_succ] at h ⊢
    refine wpIn_mono h ?_
    intro e a' w' hp
    cases e with
    | normal => exact roundsIn_mono hq m a' w' hp
    | _ => exact hq _ _ _ hp
theorem LTriG.round (h : TriG P T r hs c t H (inLoopG P T r c Q)) : LTriG P T r hs c t H Q := by
  obtain ⟨o, k, h1, h2⟩ := h
  cases o with
  | norm t1 H1 =>
    obtain ⟨o2, k2, h3, m, h4⟩ := h1
    refine ⟨o2, k2, h3, m + 1, fun n M0 ρ0 w0 M ρ ms xs a w s => ?_⟩
    rw [roundsIn_succ]
    refine wpIn_mono (h2 n M0 ρ0 w0 M ρ ms xs a w s) ?_
    intro e a' w' hp
    cases e with
    | normal =>
      obtain ⟨M', ρ', ms', q1, q2, s'⟩ := hp
      have := h4 n M0 ρ0 w0 M' ρ' ms' xs a' w' s'
      exact roundsIn_mono (fun e2 a2 w2 hp2 => hp2.later q1 q2) m a' w' this
    | _ => exact hp.elim
  | exit j t1 H1 =>
    refine ⟨_, k, h1, 1, fun n M0 ρ0 w0 M ρ ms xs a w s => wpIn_mono (h2 n M0 ρ0 w0 M ρ ms xs a w s) ?_⟩
    intro e a' w' hp
    cases e <;> first
      | exact hp.elim
      | exact hp
  | ret t1 H1 =>
    refine ⟨_, k, h1, 1, fun n M0 ρ0 w0 M ρ ms xs a w s => wpIn_mono (h2 n M0 ρ0 w0 M ρ ms xs a w s) ?_⟩
    intro e a' w' hp
    cases e <;> first
      | exact hp.elim
      | exact hp
  | pan v t1 H1 =>
    refine ⟨_, k, h1, 1, fun n M0 ρ0 w0 M ρ ms xs a w s => wpIn_mono (h2 n M0 ρ0 w0 M ρ ms xs a w s) ?_⟩
    intro e a' w' hp
    cases e <;> exact hp.elim
  | no =>
    refine ⟨_, k, h1, 1, fun n M0 ρ0 w0 M ρ ms xs a w s => wpIn_mono (h2 n M0 ρ0 w0 M ρ ms xs a w s) ?_⟩
    intro e a' w' hp
    cases e <;> exact hp.elim
theorem TriG.loop (h : LTriG P T r hs c t H Q) : TriG P T r hs (.loop c) t H Q := by
  obtain ⟨o, k, h1, m, h2⟩ := h
  exact ⟨o, k, h1, fun n M0 ρ0 w0 M ρ ms xs a w s => wpIn_loop_rounds m (h2 n M0 ρ0 w0 M ρ ms xs a w s)⟩
end
open Go Go.RowKit
theorem FRw' : FR none = Fence.wide := rfl
noncomputable def putL (t : Tm) : List Nat → List V → Tm
  | p :: ps, v :: vs => putL (t.put (some p) v) ps vs
  | _, _ => t
section
variable {P : Program} {T : Tab} {M0 M M' : Mem} {ρ0 ρ ρ' : Ren} {w0 w w' : World} {ms : List Nat} {t t' : Tm} {H H' : Heap} {hs hs' xs : List HE} {a a' : Act} {r : Option Nat} {c x y : Code} {id : Nat} {Q : Out → List HE → Prop}
theorem relTm_foldl : ∀ (ps : List Nat) (vs : List V) (args : List Value) (t : Tm) (ts : Array Value), relTm M ρ t ts → relL M ρ vs args → (∀ p ∈ ps, p < t.wid) →
    relTm M ρ (putL t ps vs) ((ps.zip args).foldl (fun (tmps : Array Value) (x : Nat × Value) => tmps.setIfInBounds x.1 x.2) ts)
  | [], vs, args, t, ts, h, _, _ => by simpa [putL] using h
  | p :: ps, [], args, t, ts, h, hr, _ => by
    simp only [relL] at hr
    subst hr
    simpa [putL] using h
  | p :: ps, v :: vs, args, t, ts, h, hr, hp => by
    simp only [relL] at hr
    obtain ⟨x, r, rfl, hx, hr⟩ := hr
    simp only [putL, List.zip_cons_cons, List.foldl_cons]
    refine relTm_foldl ps vs r _ _ (put_rel (a := { tmps := ts, defers := [] }) h hx (some p) ?_) hr (fun q hq => by rw [Tm.wid_put]; exact hp q (List.mem_cons_of_mem _ hq))
    have := hp p (by simp)
    simp only [Tm.fits]
    rw [Nat.blt_eq]; exact this
theorem foldl_zip (params : Array Nat) (args : List Value) (ts : Array Value) : (params.zip args.toArray).foldl (fun tmps (x : Nat × Value) => match x with | (t, a) => tmps.setIfInBounds t a) ts = (params.toList.zip args).foldl (fun (tmps : Array Value) (x : Nat × Value) => tmps.setIfInBounds x.1 x.2) ts := by
  rw [← Array.foldl_toList, Array.toList_zip]
theorem StX.turn {e : HE} (o' : Obj) (h : StX T M0 ρ0 w0 M ρ ms t H (e :: hs) a w) : StX T M0 ρ0 w0 M ρ ms t H ({ e with o := o' } :: hs) a (w.putObj e.l o') := by
  obtain ⟨h1, h2, h3⟩ := h.hid e (by simp)
  have hnd := h.nd
  rw [List.map_cons, List.nodup_append] at hnd
  obtain ⟨n1, n2, n3⟩ := hnd
  rw [List.nodup_cons] at n2
  refine ⟨ext_put h.ext h1, sr_put h.sr h2, h.tm, ?_, h.defs, ?_, ?_⟩
  · intro f hf
    rcases List.mem_cons.1 hf with rfl | hf
    · exact ⟨h1, h2.put o', h3⟩
    · obtain ⟨k1, k2, k3⟩ := h.hid f (by simp [hf])
      refine ⟨k1, k2.other ?_, k3⟩
      intro e2
      exact n2.1 (e2 ▸ List.mem_map_of_mem hf)
  · intro D hD
    obtain ⟨k1, k2⟩ := h.marks D hD
    exact ⟨k1, k2.other (n3 D hD e.l (by simp))⟩
  · simpa using h.nd
noncomputable def mE (D : Nat) : HE := ⟨D, .deferred (some []), Tm.init 0 [], #[]⟩
theorem relTm_zero : relTm M ρ (Tm.init 0 []) #[] := by
  have := relTm_init (M := M) (ρ := ρ) (vs := []) (args := []) (by simp only [relL]) (n := 0) (by simp)
  simpa using this
theorem mE_l (ms : List Nat) : (ms.map mE).map HE.l = ms := by
  induction ms with
  | nil => rfl
  | cons D ms ih => simp [mE, ih]
theorem StX.down (h : StX T M0 ρ0 w0 M ρ ms t H hs a w) (ht : relTm M ρ t' a'.tmps) (hd : a'.defers = []) : StX T M0 ρ0 w0 M ρ [] t' H (hs ++ ms.map mE) a' w := by
  refine ⟨h.ext, h.sr, ht, ?_, by simpa using hd, by simp, ?_⟩
  · intro e he
    rcases List.mem_append.1 he with he | he
    · exact h.hid e he
    · obtain ⟨D, hD, rfl⟩ := List.mem_map.1 he
      exact ⟨(h.marks D hD).1, (h.marks D hD).2, relTm_zero⟩
  · rw [List.nil_append, List.map_append, mE_l]
    exact (List.perm_append_comm.nodup_iff).1 h.nd
theorem StX.up {ms2 : List Nat} (h : StX T M0 ρ0 w0 M ρ ms2 t H (hs ++ ms.map mE) a w) (ht : relTm M ρ t' a'.tmps) (hd : a'.defers = ms.map mark) : StX T M0 ρ0 w0 M ρ ms t' H hs a' w := by
  refine ⟨h.ext, h.sr, ht, fun e he => h.hid e (List.mem_append_left _ he), hd, fun D hD => ?_, ?_⟩
  · obtain ⟨k1, k2, _⟩ := h.hid (mE D) (List.mem_append_right _ (List.mem_map_of_mem hD))
    exact ⟨k1, k2⟩
  · have := h.nd
    rw [List.map_append, mE_l, List.nodup_append] at this
    exact (List.perm_append_comm.nodup_iff).1 this.2.1
theorem StX.sub {k : List HE} (h : StX T M0 ρ0 w0 M ρ ms t H (k ++ hs) a w) : StX T M0 ρ0 w0 M ρ ms t H hs a w := by
  refine ⟨h.ext, h.sr, h.tm, fun e he => h.hid e (List.mem_append_right _ he), h.defs, h.marks, ?_⟩
  have := h.nd
  rw [List.map_append] at this
  rw [List.nodup_append] at this ⊢
  obtain ⟨n1, n2, n3⟩ := this
  rw [List.nodup_append] at n2
  exact ⟨n1, n2.2.1, fun a ha b hb => n3 a ha b (List.mem_append_right _ hb)⟩
theorem evSeqIn_end' (hT : TOk P T) {call : CallF} (hcall : call.Sound P T) (ops : Array Oper) {r : Option Nat} {n : Nat} {Q : Exit → Act → World → Prop} {l : List Oper} {t : Tm} {H : Heap} {a : Act} {w : World} {M : Mem} {ρ : Ren} {t' : Tm} {H' : Heap} (hS : SR T M ρ H w) (ht : relTm M ρ t a.tmps)
    (hnd : ∀ o ∈ l, ∀ c, o.op ≠ .defer c) (h : evSeq (evOp T call) ops l t H = .norm t' H')
    (k : ∀ a' w' M' ρ', Ext M ρ w M' ρ' w' → relTm M' ρ' t' a'.tmps → SR T M' ρ' H' w' → a'.defers = a.defers → Q .normal a' w') : wpListIn (FR r) n P ops Q l a w := by
  have := evSeqIn_ok hT hcall ops (r := r) (n := n) (Q := Q) [] l t H a w M ρ t' H' hS ht hnd h k
  rwa [List.append_nil] at this
noncomputable def BodyQ (T : Tab) (call : CallF) (ops : Array Oper) (q : Nat) (o : Oper) (t1 : Tm) (l : Nat) (rec : Loop) (t0 : Tm) (Q : Out → List HE → Prop) : Out → List HE → Prop := fun o2 hs4 =>
  ∃ hs5, hs4 = ⟨l, .loop { rec with state := .busy }, t0, rec.tmps⟩ :: hs5 ∧ ∃ (j : Option Code) (HB : Heap), (match o2 with
    | .norm _ H => j = none ∧ HB = H
    | .ret _ H => j = some .ret ∧ HB = H
    | .exit id _ H => j = some (.exit id) ∧ HB = H
    | _ => False) ∧ ∃ t2 H2, evSeq (evOp T call) ops (ops.toList.drop (q + 1)) (t1.put o.dst (.b j.isNone)) HB = .norm t2 H2 ∧ Q (.norm t2 H2) (⟨l, .loop { rec with state := if j.isNone then .ready else .done, pending := j }, t0, rec.tmps⟩ :: hs5)
theorem TriG.yield (hT : TOk P T) {call : CallF} (hC : call.Sound P T) {ops : Array Oper} (hnd : noDefer ops = true) (q : Nat) {j l : Nat} {ops2 : List Operand} {vs : List V} {o : Oper} {rec : Loop} {t0 t1 : Tm} {H1 : Heap} {hs1 : List HE} {ps : Array Nat} {asg body : Code} (hP : rec.params = ps) (hA : rec.assign = asg) (hB : rec.body = body)
    (hops : ops.toList = ops.toList.take q ++ o :: ops.toList.drop (q + 1)) (hg : o.guard = none) (h1 : evSeq (evOp T call) ops (ops.toList.take q) t H = .norm t1 H1) (ho : callTmp o = some (j, ops2)) (hj : t1.get j = .yld l) (hvs : evs t1.get ops2 = some vs)
    (hlen : vs.length = ps.size) (hst : rec.state = .ready) (hfit : t1.fits o.dst = true) (hps : ∀ p ∈ ps.toList, p < t0.wid)
    (hround : TriG P T (some l) (⟨l, .loop rec, t0, rec.tmps⟩ :: hs1) asg (putL t0 ps.toList vs) H1 fun o1 hs2 => ∃ tA HA hs3, o1 = .norm tA HA ∧ hs2 = ⟨l, .loop rec, t0, rec.tmps⟩ :: hs3 ∧
      TriG P T (some l) (⟨l, .loop { rec with state := .busy }, t0, rec.tmps⟩ :: hs3) body tA HA (BodyQ T call ops q o t1 l rec t0 Q)) :
    TriG P T r (⟨l, .loop rec, t0, rec.tmps⟩ :: hs1) (.region id ops false) t H Q := by
  subst hP hA hB
  obtain ⟨o1, hs2, ⟨tA, HA, hs3, rfl, rfl, o2, hs4, ⟨hs5, rfl, jm, HB, hm, t2, H2, he2, hQ⟩, hbody⟩, hasg⟩ := hround
  refine ⟨_, _, hQ, fun n M0 ρ0 w0 M ρ ms xs a w s => ?_⟩
  refine wpIn_region_list ?_
  rw [hops]
  refine evSeqIn_ok hT hC ops (o :: ops.toList.drop (q + 1)) (ops.toList.take q) t H a w M ρ _ _ s.sr s.tm (fun o' ho' => noDefer_at hnd o' (List.mem_of_mem_take ho')) h1 ?_
  intro a1 w1 M1 ρ1 e1 ht1 hS1 hd1
  have s1 := s.step e1 ht1 hS1 hd1
  obtain ⟨c, k1, k2, k3⟩ := callTmp_at ho
  unfold wpListIn
  simp only [Region.wanted, hg, if_true]
  have hE := s1.hid ⟨l, .loop rec, t0, rec.tmps⟩ (by simp)
  refine yield_ok ht1 k1 k2 hj (by rw [k3]; exact hvs) hE.2.1.at_ hlen ?_
  intro args hargs
  refine roundIn_of_wpIn trivial ?_
  show rec.assign.wpIn (FR (some l)) (n - 1) P _ _ _
  have hfold : relTm M1 ρ1 (putL t0 rec.params.toList vs) ((rec.params.zip args.toArray).foldl (fun tmps (x : Nat × Value) => match x with | (t, a) => tmps.setIfInBounds t a) rec.tmps) := by
    rw [foldl_zip]
    exact relTm_foldl _ _ _ _ _ hE.2.2 hargs hps
  have sA := s1.down (t' := putL t0 rec.params.toList vs) (a' := { tmps := (rec.params.zip args.toArray).foldl (fun tmps (x : Nat × Value) => match x with | (t, a) => tmps.setIfInBounds t a) rec.tmps, defers := [] }) hfold rfl
  rw [List.append_assoc] at sA
  refine wpIn_mono (hasg (n - 1) M0 ρ0 w0 M1 ρ1 [] (xs ++ ms.map mE) _ w1 sA) ?_
  intro e a2 w2 hp
  cases e with
  | normal =>
    obtain ⟨M2, ρ2, ms2, q1, q2, sB⟩ := hp
    rw [List.cons_append] at sB
    have hE2 := sB.hid ⟨l, .loop rec, t0, rec.tmps⟩ (by simp)
    refine ⟨_, run_beginRound hE2.2.1.at_ hst, ?_⟩
    have sC := sB.turn (.loop { rec with state := .busy })
    show rec.body.wpIn (FR (some l)) (n - 1) P _ _ _
    refine wpIn_mono (hbody (n - 1) M0 ρ0 w0 M2 ρ2 ms2 (xs ++ ms.map mE) a2 _ (by rw [List.cons_append]; exact sC)) ?_
    intro e3 a3 w3 hp3
    have fin : ∀ (jm' : Option Code) (tB : Tm), jm' = jm → Behind T M0 ρ0 w0 M2 ρ2 tB HB (⟨l, .loop { rec with state := .busy }, t0, rec.tmps⟩ :: hs5 ++ (xs ++ ms.map mE)) a3 w3 →
        ∃ v w', (Instr.endRound l jm').run P w3 = .ok v w' ∧ (match (Ending.returned v : Ending) with | .returned v => wpListIn (FR r) n P ops (PostG T M0 ρ0 w0 M ρ xs (.norm t2 H2) (⟨l, .loop { rec with state := if jm.isNone then .ready else .done, pending := jm }, t0, rec.tmps⟩ :: hs5)) (ops.toList.drop (q + 1)) (a1.put o.dst v) w' | _ => False) := by
      intro jm' tB ej hb
      subst ej
      obtain ⟨M3, ρ3, ms3, q3, q4, sD⟩ := hb
      rw [List.cons_append] at sD
      have hE3 := sD.hid ⟨l, .loop { rec with state := .busy }, t0, rec.tmps⟩ (by simp)
      refine ⟨_, _, run_endRound jm' hE3.2.1.at_, ?_⟩
      have sE := sD.turn (.loop { rec with state := if jm'.isNone then .ready else .done, pending := jm' })
      rw [← List.cons_append, ← List.append_assoc] at sE
      have hmem := (q1.trans q3)
      have hpre := (q2.trans q4)
      have htm : relTm M3 ρ3 (t1.put o.dst (.b jm'.isNone)) (a1.put o.dst (.bool jm'.isNone)).tmps := put_rel (relTm_mono hmem hpre ht1) (by simp only [rel]) o.dst hfit
      have sF := sE.up (a' := a1.put o.dst (.bool jm'.isNone)) htm (by rw [put_defers']; exact s1.defs)
      refine evSeqIn_end' hT hC ops sF.sr sF.tm (fun o' ho' => noDefer_at hnd o' (List.mem_of_mem_drop ho')) he2 ?_
      intro a4 w4 M4 ρ4 e4 ht4 hS4 hd4
      exact ⟨M4, ρ4, ms, (e1.mem.trans hmem).trans e4.mem, (e1.pre.trans hpre).trans e4.pre, sF.step e4 ht4 hS4 hd4⟩
    cases o2 <;> cases e3 <;> first
      | exact hp3.elim
      | exact hm.elim
      | (obtain ⟨rfl, rfl⟩ := hm
         exact fin _ _ rfl hp3)
      | (obtain ⟨rfl, rfl⟩ := hm
         obtain ⟨rfl, hp3⟩ := hp3
         exact fin _ _ rfl hp3)
  | _ => exact hp.elim
end
end Go.Ev
