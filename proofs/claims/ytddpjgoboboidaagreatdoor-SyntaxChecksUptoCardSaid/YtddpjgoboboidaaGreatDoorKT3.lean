/- What reads as a node is a tree, what reads as a row of numbers is one; the world as the row lists it is one of the evaluator. Triples for loops over functions, facts of functions on heaps, regions that draw their order and turn the heap. Contracts of functions of the library of Go, as answers for the evaluator. The decimal digits of a number, as an answer for the evaluator. The world as the row lists it is one of the evaluator. Walks over the law. Walks over the looks at names. Walks over the look at a kind. The table of the kinds, as it is built. Walks over the look at a node by its kind. Walks over the parts of a node. What the reference says of a byte, for all bytes. Calls with closed arguments, run by the evaluator. Walks over the bytes at a place of a text. -/
import Derived.Test.YtddpjgoboboidaaGreatDoorKAt2
import Derived.Test.YtddpjgoboboidaaGreatDoorRows
import Derived.ChangeArms
import Derived.ChangeSame
import Derived.ChangeReads
import Derived.ReadAgain
import Derived.Deep.Strs
import Derived.Lib.LaidTab
import Derived.Lib.LaidU8T
import Derived.Test.YtddpjgoboboidaaGreatDoorKEvFz
import Derived.Test.YtddpjgoboboidaaGreatDoorKEvIter2
import Derived.Shelf.Strings.Split
import Derived.Shelf.Strings.SlTrimAscii
import Derived.Shelf.Unicode.ValidAny
import Derived.Shelf.LaysM
import Derived.Shelf.Strconv.Itoa3
import Derived.MakeChecks
namespace Go.Ev
open Go Go.Proofs
set_option linter.unusedSimpArgs false
set_option linter.unusedVariables false
set_option maxRecDepth 100000
open Go.Proofs.YtddpjgoboboidaaGreatDoor (Rows.uptoBulk Rows.uptoBulkAll)
mutual
/-- How many bytes the texts have. -/
def Nd.tl : Nd → Nat
  | .mk _ s l => s.length + Nd.tlL l
def Nd.tlL : List Nd → Nat
  | [] => 0
  | x :: l => x.tl + Nd.tlL l
end
def memOf (W : World) : Mem := fun b => W.heap[b]?
theorem cell_memOf {W : World} {b o : Nat} {v : Value} (h : W.cell? ⟨b, o, none⟩ = some v) : (memOf W).cell b o = some v := by
  unfold World.cell? at h
  unfold Mem.cell memOf
  simp only at h ⊢
  split at h
  · rename_i c t f hb
    rw [hb]
    simpa using h
  · cases h
theorem addr_add (b o n : Nat) : Addr.add ⟨b, o, none⟩ n = ⟨b, o + n, none⟩ := by
  unfold Addr.add
  split
  · rename_i h; subst h; rfl
  · rfl
theorem spot_none {W : World} {a : Addr} {v : Value} (h : W.cell? a = some v) : a.spot = none := by
  unfold World.cell? at h
  split at h
  · split at h
    · cases h
    · rename_i hs; cases hh : a.spot with
      | none => rfl
      | some _ => rw [hh] at hs; simp at hs
  · cases h
section
variable {H : Type} {enc : TypeId × Value → H} {W : World} {sp : Nat → Bool}
theorem cells3 {a : Addr} {cs : List Value} (h : W.cells? 0 a 3 = some cs) : ∃ v0 v1 v2, cs = [v0, v1, v2] ∧ W.cell? (a.add 0) = some v0 ∧ W.cell? (a.add 1) = some v1 ∧ W.cell? (a.add 2) = some v2 := by
  unfold World.cells? at h
  rw [if_pos (Nat.zero_le _)] at h
  simp only [List.range, List.range.loop, List.mapM_cons, List.mapM_nil, Option.pure_def, Option.bind_eq_bind, Option.bind_eq_some_iff, Option.some.injEq] at h
  obtain ⟨v0, h0, r0, ⟨v1, h1, r1, ⟨v2, h2, r2, hr2, rfl⟩, rfl⟩, rfl⟩ := h
  subst hr2
  exact ⟨v0, v1, v2, rfl, h0, h1, h2⟩
theorem nd_of_trod : ∀ (fuel : Nat) (cs : List Value) (x : DataW H × List MemPlace), DataW.trod enc Tryz.prog W 0 sp true fuel 24 cs = some x →
    ∃ y : Nd, relL (memOf W) [] [.i .i64 y.kind, .s y.text, .isl 3 (Nd.encL y.kids)] cs ∧ y.num + y.tl ≤ Rows.uptoBulk x.1 := by
  intro fuel
  induction fuel using Nat.strongRecOn with
  | _ fuel ih =>
    intro cs x h
    obtain ⟨xs, n, rfl, rfl, hl, hlen, hf⟩ := DataW.trod_struct Tryz.underlying24 h
    have c24 : Tryz.prog.cellsOf 24 = 3 := by kernel_rfl
    have c3 : Tryz.prog.cellsOf 3 = 1 := by kernel_rfl
    have c9 : Tryz.prog.cellsOf 9 = 1 := by kernel_rfl
    have c22 : Tryz.prog.cellsOf 22 = 1 := by kernel_rfl
    match xs, hlen with
    | [y0, y1, y2], _ =>
      have f0 := hf 0 _ rfl
      have f1 := hf 1 _ rfl
      have f2 := hf 2 _ rfl
      rw [c24] at hl
      match cs, hl with
      | [v0, v1, v2], _ =>
        have f0 : DataW.trod enc Tryz.prog W 0 sp true n 3 [v0] = some y0 := by simpa [c3] using f0
        have f1 : DataW.trod enc Tryz.prog W 0 sp true n 9 [v1] = some y1 := by simpa [c9] using f1
        have f2 : DataW.trod enc Tryz.prog W 0 sp true n 22 [v2] = some y2 := by simpa [c22] using f2
        obtain ⟨k, e0, hy0, _⟩ := DataW.trod_int Tryz.underlying3 f0
        obtain ⟨s, e1, hy1, _⟩ := DataW.trod_string Tryz.underlying9 f1
        simp only [List.cons.injEq, and_true] at e0 e1
        subst e0 e1
        subst hy0 hy1
        have hs : ∃ l : List UInt8, s = ⟨l.toArray⟩ := ⟨s.data.toList, by cases s; simp⟩
        obtain ⟨l, rfl⟩ := hs
        rcases DataW.trod_slice Tryz.underlying22 f2 with ⟨e2, hy2⟩ | ⟨a, len, cap, elems, rest, m, hm, e2, hy2, hb0, hlc, hcap, hel, hat, _, _⟩
        · cases e2
          subst hy2
          refine ⟨.mk k l [], ?_, ?_⟩
          · refine relL_cons (by simp only [rel, Nd.kind]) (relL_cons (by simp only [rel, Nd.text]) (relL_cons ?_ (by simp only [relL])))
            simp only [rel, Nd.kids, Nd.encL]
            exact ⟨none, 0, rfl, Nat.le_refl _, fun h => absurd rfl h⟩
          · simp [Nd.num, Nd.numL, Nd.tl, Nd.tlL, Rows.uptoBulk, Rows.uptoBulkAll]; omega
        · cases e2
          cases hm
          subst hy2
          rw [c24] at hat
          -- the kids
          have kids : ∀ (es : List (DataW H × List MemPlace)) (b o i0 : Nat), (∀ j, j < es.length → (W.cells? 0 (Addr.add ⟨b, o, none⟩ ((i0 + j) * 3)) 3).bind (DataW.trod enc Tryz.prog W 0 sp true m 24) = es[j]?) →
              ∃ ys : List Nd, ys.length = es.length ∧ relRow (memOf W) [] 3 (Nd.encL ys) b (o + i0 * 3) ∧ Nd.numL ys + Nd.tlL ys ≤ Rows.uptoBulkAll (es.map (·.1)) := by
            intro es
            induction es with
            | nil => intro b o i0 _; exact ⟨[], rfl, by simp only [Nd.encL, relRow], by simp [Nd.numL, Nd.tlL]⟩
            | cons e es ihs =>
              intro b o i0 hh
              have h0 := hh 0 (by simp)
              simp only [List.getElem?_cons_zero, Option.bind_eq_some_iff] at h0
              obtain ⟨c, hc, ht⟩ := h0
              obtain ⟨z, hz, hzb⟩ := ih m (by omega) c e ht
              obtain ⟨ys, hyl, hyr, hyb⟩ := ihs b o (i0 + 1) (fun j hj => by
                have := hh (j + 1) (by simp; omega)
                rw [show i0 + (j + 1) = i0 + 1 + j from by omega] at this
                simpa using this)
              obtain ⟨w0, w1, w2, rfl, g0, g1, g2⟩ := cells3 hc
              simp only [Nat.add_zero, addr_add] at g0 g1 g2
              refine ⟨z :: ys, by simp [hyl], ?_, ?_⟩
              · simp only [Nd.encL, relRow]
                refine ⟨⟨.agg #[w0, w1, w2], ?_, rfl, fun j q hj => ?_⟩, ?_⟩
                · rw [Nd.enc_eq]
                  simp only [rel]
                  exact ⟨[w0, w1, w2], rfl, hz⟩
                · match j, hj with
                  | 0, hj => simp [Value.cells] at hj; subst hj; exact cell_memOf (by simpa using g0)
                  | 1, hj => simp [Value.cells] at hj; subst hj; exact cell_memOf g1
                  | 2, hj => simp [Value.cells] at hj; subst hj; exact cell_memOf g2
                  | j + 3, hj => simp [Value.cells] at hj
                · rw [show o + i0 * 3 + 3 = o + (i0 + 1) * 3 from by omega]
                  exact hyr
              · simp only [Nd.numL, Nd.tlL, List.map_cons, Rows.uptoBulkAll]; omega
          by_cases h0 : elems.length = 0
          · have : elems = [] := List.eq_nil_of_length_eq_zero h0
            subst this
            refine ⟨.mk k l [], ?_, ?_⟩
            · refine relL_cons (by simp only [rel, Nd.kind]) (relL_cons (by simp only [rel, Nd.text]) (relL_cons ?_ (by simp only [relL])))
              simp only [rel, Nd.kids, Nd.encL]
              simp only [List.length_nil] at hel
              subst hel
              exact ⟨some a, cap, rfl, Nat.zero_le _, fun h => absurd rfl h⟩
            · simp [Nd.num, Nd.numL, Nd.tl, Nd.tlL, Rows.uptoBulk, Rows.uptoBulkAll]; omega
          · have hsp : a.spot = none := by
              have := hat 0 (by omega)
              obtain ⟨e, he⟩ : ∃ e, elems[0]? = some e := ⟨elems[0], List.getElem?_eq_getElem (by omega)⟩
              rw [he] at this
              simp only [Option.bind_eq_some_iff] at this
              obtain ⟨c, hc, _⟩ := this
              obtain ⟨w0, _, _, _, g0, _, _⟩ := cells3 hc
              have := spot_none g0
              simpa [Addr.add] using this
            obtain ⟨b, o, s⟩ := a
            simp only at hsp
            subst hsp
            obtain ⟨ys, hyl, hyr, hyb⟩ := kids elems b o 0 (fun j hj => by rw [Nat.zero_add]; exact hat j (by omega))
            refine ⟨.mk k l ys, ?_, ?_⟩
            · refine relL_cons (by simp only [rel, Nd.kind]) (relL_cons (by simp only [rel, Nd.text]) (relL_cons ?_ (by simp only [relL])))
              simp only [rel, Nd.kids]
              rw [Nd.encL_length, hyl, hel]
              refine ⟨some ⟨b, o, none⟩, cap, rfl, hlc, fun _ => ⟨b, o, rfl, ?_⟩⟩
              simpa using hyr
            · simp only [Nd.num, Nd.tl, List.map_cons, List.map_nil, Rows.uptoBulk, Rows.uptoBulkAll]
              have : (⟨l.toArray⟩ : ByteArray).data.toList.length = l.length := by simp
              omega
end
open Go.RowKit (Below)
section
variable {P : Program} {T : Tab} {M : Mem} {ρ : Ren} {H : Heap} {w w' : World}
theorem ext_below (hb : Below w.heap.size w w') : Ext M ρ w M ρ w' where
  os := hb.os
  tape := hb.tape
  output := hb.output
  size := hb.size
  mem := Mem.le.refl _
  pre := List.prefix_refl _
  frame k h _ := hb.block k h
  newM _ _ _ := rfl
  newR _ c h := .inl ⟨c, h⟩
theorem frozen_lt (hS : SR T M ρ H w) {b : Nat} {o : Obj} (h : M b = some o) : b < w.heap.size := by
  have := hS.frozen b o h
  by_cases hlt : b < w.heap.size
  · exact hlt
  · rw [Array.getElem?_eq_none (by omega)] at this; cases this
theorem sr_below (hS : SR T M ρ H w) (hb : Below w.heap.size w w') : SR T M ρ H w' where
  frozen b o h := by rw [hb.block b (frozen_lt hS h)]; exact hS.frozen b o h
  len := hS.len
  blk n b hn := by
    obtain ⟨c, q, hr, hM, hlt, hok⟩ := hS.blk n b hn
    refine ⟨c, q, hr, hM, Nat.lt_of_lt_of_le hlt hb.size, ?_⟩
    rw [hb.block c hlt]
    exact hok
  inj := hS.inj
  glob := hS.glob
theorem callOK_below {f : FuncId} {args : Array Value} {x : Value} {v : V} (hS : SR T M ρ H w) (h : Calls P f args w fun e w' => e = .returned x ∧ Below w.heap.size w w') (hx : rel M ρ v x) : CallOK P T f args M ρ w (.val v H) := by
  refine Calls.mono h ?_
  rintro e w' ⟨rfl, hb⟩
  exact ⟨x, M, ρ, rfl, ext_below hb, hx, sr_below hS hb⟩
theorem callOK_new {f : FuncId} {args : Array Value} {x : Value} {v : V} {o : Obj} (hS : SR T M ρ H w) (h : Calls P f args w fun e w' => e = .returned x ∧ w' = w.alloc o)
    (hx : ∀ M' : Mem, M.le M' → M' w.heap.size = some o → rel M' ρ v x) : CallOK P T f args M ρ w (.val v H) := by
  have hnew := Go.heap_alloc_new w o
  have hold := fun i (h : i < w.heap.size) => RowKit.Below.heap_alloc w o i h
  let M' : Mem := fun b => if b = w.heap.size then some o else M b
  have hle : M.le M' := fun b q hb => by
    have := frozen_lt hS hb
    simp only [M']
    rw [if_neg (by omega)]
    exact hb
  have hB : Below w.heap.size w (w.alloc o) := (Below.refl _ _).alloc (Nat.le_refl _) _
  refine Calls.mono h ?_
  rintro e w' ⟨rfl, rfl⟩
  refine ⟨x, M', ρ, rfl, ?_, hx M' hle (by simp [M']), ?_⟩
  · have he := ext_below (M := M) (ρ := ρ) hB
    exact { os := he.os, tape := he.tape, output := he.output, size := he.size, mem := hle, pre := List.prefix_refl _, frame := he.frame
            newM := fun b hb _ => by simp only [M']; rw [if_neg (by omega)]
            newR := he.newR }
  · have hs := sr_below hS hB
    exact {
      frozen := fun b q hb => by
        simp only [M'] at hb
        split at hb
        · rename_i e; subst e; cases hb; exact hnew
        · exact hs.frozen b q hb
      len := hs.len
      blk := fun n b hn => by
        obtain ⟨c, q, hr, hM, hlt, hok⟩ := hS.blk n b hn
        refine ⟨c, q, hr, by simp only [M']; rw [if_neg (by omega)]; exact hM, by simp; omega, ?_⟩
        rw [hold c hlt]
        exact hok.mono hle (List.prefix_refl _)
      inj := hs.inj
      glob := fun g l hl => by
        obtain ⟨cs, ty, fr, hM, hr⟩ := hS.glob g l hl
        exact ⟨cs, ty, fr, hle _ _ hM, relL_mono hle (List.prefix_refl _) _ _ hr⟩ }
end
end Go.Ev
namespace Go.Proofs
def Tryz.lays160_ren : Go.Shelf.Ren := ⟨fun | 160 => 93 | 232 => 114 | 231 => 113 | 227 => 115 | 234 => 117 | 233 => 116 | 236 => 119 | 235 => 118 | 228 => 134 | 271 => 136 | 151 => 135 | 197 => 132 | 120 => 153 | 152 => 152 | 260 => 151 | 137 => 160 | 119 => 161 | 224 => 139 | 225 => 138 | 217 => 137 | 266 => 154 | n => n, fun | 9 => 9 | 4 => 4 | 3 => 3 | 5 => 5 | 117 => 145 | 116 => 144 | 0 => 0 | 124 => 148 | 21 => 21 | 105 => 158 | 46 => 90 | 119 => 81 | 139 => 89 | 138 => 88 | n => n, fun | 3 => 1 | 4 => 2 | n => n⟩
theorem Tryz.lays160 : Go.Proofs.Lays.n160 Tryz.prog Tryz.lays160_ren := {
  mixed := by kernel_rfl
  f119 := Tryz.func161.trans (congrArg some (by kernel_rfl))
  f120 := Tryz.func153.trans (congrArg some (by kernel_rfl))
  f137 := Tryz.func160.trans (congrArg some (by kernel_rfl))
  f151 := Tryz.func135.trans (congrArg some (by kernel_rfl))
  f152 := Tryz.func152.trans (congrArg some (by kernel_rfl))
  f160 := Tryz.func93.trans (congrArg some (by kernel_rfl))
  f197 := Tryz.func132.trans (congrArg some (by kernel_rfl))
  f217 := Tryz.func137.trans (congrArg some (by kernel_rfl))
  f224 := Tryz.func139.trans (congrArg some (by kernel_rfl))
  f225 := Tryz.func138.trans (congrArg some (by kernel_rfl))
  f227 := Tryz.func115.trans (congrArg some (by kernel_rfl))
  f228 := Tryz.func134.trans (congrArg some (by kernel_rfl))
  f231 := Tryz.func113.trans (congrArg some (by kernel_rfl))
  f232 := Tryz.func114.trans (congrArg some (by kernel_rfl))
  f233 := Tryz.func116.trans (congrArg some (by kernel_rfl))
  f234 := Tryz.func117.trans (congrArg some (by kernel_rfl))
  f235 := Tryz.func118.trans (congrArg some (by kernel_rfl))
  f236 := Tryz.func119.trans (congrArg some (by kernel_rfl))
  f260 := Tryz.func151.trans (congrArg some (by kernel_rfl))
  f266 := Tryz.func154.trans (congrArg some (by kernel_rfl))
  f271 := Tryz.func136.trans (congrArg some (by kernel_rfl))
  t0 := Tryz.underlying0
  a0 := Tryz.isAgg0
  z0 := Tryz.sizeOf0
  v0 := Tryz.zeroValue0
  t3 := Tryz.underlying3
  a3 := Tryz.isAgg3
  z3 := Tryz.sizeOf3
  v3 := Tryz.zeroValue3
  t4 := Tryz.underlying4
  a4 := Tryz.isAgg4
  z4 := Tryz.sizeOf4
  v4 := Tryz.zeroValue4
  t5 := Tryz.underlying5
  a5 := Tryz.isAgg5
  z5 := Tryz.sizeOf5
  v5 := Tryz.zeroValue5
  t9 := Tryz.underlying9
  a9 := Tryz.isAgg9
  z9 := Tryz.sizeOf9
  v9 := Tryz.zeroValue9
  t21 := Tryz.underlying21
  a21 := Tryz.isAgg21
  z21 := Tryz.sizeOf21
  v21 := Tryz.zeroValue21
  t46 := Tryz.underlying90
  a46 := Tryz.isAgg90
  z46 := Tryz.sizeOf90
  v46 := Tryz.zeroValue90
  t105 := Tryz.underlying158
  a105 := Tryz.isAgg158
  z105 := Tryz.sizeOf158
  v105 := Tryz.zeroValue158
  t116 := Tryz.underlying144
  a116 := Tryz.isAgg144
  z116 := Tryz.sizeOf144
  t117 := Tryz.underlying145
  a117 := Tryz.isAgg145
  z117 := Tryz.sizeOf145
  v117 := Tryz.zeroValue145
  t119 := Tryz.underlying81
  a119 := Tryz.isAgg81
  z119 := Tryz.sizeOf81
  t124 := Tryz.underlying148
  a124 := Tryz.isAgg148
  z124 := Tryz.sizeOf148
  v124 := Tryz.zeroValue148
  t138 := Tryz.underlying88
  a138 := Tryz.isAgg88
  z138 := Tryz.sizeOf88
  v138 := Tryz.zeroValue88
  t139 := Tryz.underlying89
  a139 := Tryz.isAgg89
  z139 := Tryz.sizeOf89
  v139 := Tryz.zeroValue89
  g3 := by kernel_rfl
  g4 := by kernel_rfl }
def Tryz.lays196_ren : Go.Shelf.Ren := ⟨fun | 196 => 47 | 259 => 72 | n => n, fun | 9 => 9 | 4 => 4 | 3 => 3 | 5 => 5 | 12 => 12 | 119 => 81 | 0 => 0 | 46 => 90 | 139 => 89 | 138 => 88 | 53 => 117 | n => n, fun | 3 => 1 | 4 => 2 | n => n⟩
theorem Tryz.lays196 : Go.Proofs.Lays.n196 Tryz.prog Tryz.lays196_ren := {
  mixed := by kernel_rfl
  f196 := Tryz.func47.trans (congrArg some (by kernel_rfl))
  f259 := Tryz.func72.trans (congrArg some (by kernel_rfl))
  t0 := Tryz.underlying0
  a0 := Tryz.isAgg0
  z0 := Tryz.sizeOf0
  v0 := Tryz.zeroValue0
  t3 := Tryz.underlying3
  a3 := Tryz.isAgg3
  z3 := Tryz.sizeOf3
  v3 := Tryz.zeroValue3
  t4 := Tryz.underlying4
  a4 := Tryz.isAgg4
  z4 := Tryz.sizeOf4
  v4 := Tryz.zeroValue4
  t5 := Tryz.underlying5
  a5 := Tryz.isAgg5
  z5 := Tryz.sizeOf5
  v5 := Tryz.zeroValue5
  t9 := Tryz.underlying9
  a9 := Tryz.isAgg9
  z9 := Tryz.sizeOf9
  v9 := Tryz.zeroValue9
  t12 := Tryz.underlying12
  a12 := Tryz.isAgg12
  z12 := Tryz.sizeOf12
  v12 := Tryz.zeroValue12
  t46 := Tryz.underlying90
  a46 := Tryz.isAgg90
  z46 := Tryz.sizeOf90
  v46 := Tryz.zeroValue90
  t53 := Tryz.underlying117
  a53 := Tryz.isAgg117
  z53 := Tryz.sizeOf117
  v53 := Tryz.zeroValue117
  t119 := Tryz.underlying81
  a119 := Tryz.isAgg81
  z119 := Tryz.sizeOf81
  t138 := Tryz.underlying88
  a138 := Tryz.isAgg88
  z138 := Tryz.sizeOf88
  v138 := Tryz.zeroValue88
  t139 := Tryz.underlying89
  a139 := Tryz.isAgg89
  z139 := Tryz.sizeOf89
  v139 := Tryz.zeroValue89
  g3 := by kernel_rfl
  g4 := by kernel_rfl }
def Tryz.lays221_ren : Go.Shelf.Ren := ⟨fun | 221 => 91 | 268 => 111 | 138 => 112 | 143 => 95 | 195 => 131 | 197 => 132 | 218 => 133 | 219 => 120 | 260 => 151 | 217 => 137 | 225 => 138 | 224 => 139 | 267 => 140 | 266 => 154 | 314 => 155 | n => n, fun | 9 => 9 | 3 => 3 | 31 => 64 | 4 => 4 | 0 => 0 | 105 => 158 | 21 => 21 | 5 => 5 | 46 => 90 | 119 => 81 | 139 => 89 | 138 => 88 | 146 => 172 | 51 => 109 | n => n, fun | 1 => 4 | 3 => 1 | 4 => 2 | n => n⟩
theorem Tryz.lays221 : Go.Proofs.Lays.n221 Tryz.prog Tryz.lays221_ren := {
  mixed := by kernel_rfl
  f138 := Tryz.func112.trans (congrArg some (by kernel_rfl))
  f143 := Tryz.func95.trans (congrArg some (by kernel_rfl))
  f195 := Tryz.func131.trans (congrArg some (by kernel_rfl))
  f197 := Tryz.func132.trans (congrArg some (by kernel_rfl))
  f217 := Tryz.func137.trans (congrArg some (by kernel_rfl))
  f218 := Tryz.func133.trans (congrArg some (by kernel_rfl))
  f219 := Tryz.func120.trans (congrArg some (by kernel_rfl))
  f221 := Tryz.func91.trans (congrArg some (by kernel_rfl))
  f224 := Tryz.func139.trans (congrArg some (by kernel_rfl))
  f225 := Tryz.func138.trans (congrArg some (by kernel_rfl))
  f260 := Tryz.func151.trans (congrArg some (by kernel_rfl))
  f266 := Tryz.func154.trans (congrArg some (by kernel_rfl))
  f267 := Tryz.func140.trans (congrArg some (by kernel_rfl))
  f268 := Tryz.func111.trans (congrArg some (by kernel_rfl))
  f314 := Tryz.func155.trans (congrArg some (by kernel_rfl))
  t0 := Tryz.underlying0
  a0 := Tryz.isAgg0
  z0 := Tryz.sizeOf0
  v0 := Tryz.zeroValue0
  t3 := Tryz.underlying3
  a3 := Tryz.isAgg3
  z3 := Tryz.sizeOf3
  v3 := Tryz.zeroValue3
  t4 := Tryz.underlying4
  a4 := Tryz.isAgg4
  z4 := Tryz.sizeOf4
  v4 := Tryz.zeroValue4
  t5 := Tryz.underlying5
  a5 := Tryz.isAgg5
  z5 := Tryz.sizeOf5
  v5 := Tryz.zeroValue5
  t9 := Tryz.underlying9
  a9 := Tryz.isAgg9
  z9 := Tryz.sizeOf9
  v9 := Tryz.zeroValue9
  t21 := Tryz.underlying21
  a21 := Tryz.isAgg21
  z21 := Tryz.sizeOf21
  v21 := Tryz.zeroValue21
  t31 := Tryz.underlying64
  a31 := Tryz.isAgg64
  z31 := Tryz.sizeOf64
  v31 := Tryz.zeroValue64
  t46 := Tryz.underlying90
  a46 := Tryz.isAgg90
  z46 := Tryz.sizeOf90
  v46 := Tryz.zeroValue90
  t51 := Tryz.underlying109
  a51 := Tryz.isAgg109
  z51 := Tryz.sizeOf109
  v51 := Tryz.zeroValue109
  t105 := Tryz.underlying158
  a105 := Tryz.isAgg158
  z105 := Tryz.sizeOf158
  v105 := Tryz.zeroValue158
  t119 := Tryz.underlying81
  a119 := Tryz.isAgg81
  z119 := Tryz.sizeOf81
  t138 := Tryz.underlying88
  a138 := Tryz.isAgg88
  z138 := Tryz.sizeOf88
  v138 := Tryz.zeroValue88
  t139 := Tryz.underlying89
  a139 := Tryz.isAgg89
  z139 := Tryz.sizeOf89
  v139 := Tryz.zeroValue89
  t146 := Tryz.underlying172
  a146 := Tryz.isAgg172
  z146 := Tryz.sizeOf172
  v146 := Tryz.zeroValue172
  g1 := by kernel_rfl
  g3 := by kernel_rfl
  g4 := by kernel_rfl }
def Tryz.lays143_ren : Go.Shelf.Ren := ⟨fun | 143 => 95 | 219 => 120 | 217 => 137 | 225 => 138 | 224 => 139 | 267 => 140 | 266 => 154 | 314 => 155 | n => n, fun | 9 => 9 | 3 => 3 | 4 => 4 | 5 => 5 | 46 => 90 | 146 => 172 | 51 => 109 | n => n, fun | 1 => 4 | n => n⟩
theorem Tryz.lays143 : Go.Proofs.Lays.n143 Tryz.prog Tryz.lays143_ren := {
  mixed := by kernel_rfl
  f143 := Tryz.func95.trans (congrArg some (by kernel_rfl))
  f217 := Tryz.func137.trans (congrArg some (by kernel_rfl))
  f219 := Tryz.func120.trans (congrArg some (by kernel_rfl))
  f224 := Tryz.func139.trans (congrArg some (by kernel_rfl))
  f225 := Tryz.func138.trans (congrArg some (by kernel_rfl))
  f266 := Tryz.func154.trans (congrArg some (by kernel_rfl))
  f267 := Tryz.func140.trans (congrArg some (by kernel_rfl))
  f314 := Tryz.func155.trans (congrArg some (by kernel_rfl))
  t3 := Tryz.underlying3
  a3 := Tryz.isAgg3
  z3 := Tryz.sizeOf3
  v3 := Tryz.zeroValue3
  t4 := Tryz.underlying4
  a4 := Tryz.isAgg4
  z4 := Tryz.sizeOf4
  v4 := Tryz.zeroValue4
  t5 := Tryz.underlying5
  a5 := Tryz.isAgg5
  z5 := Tryz.sizeOf5
  v5 := Tryz.zeroValue5
  t9 := Tryz.underlying9
  a9 := Tryz.isAgg9
  z9 := Tryz.sizeOf9
  v9 := Tryz.zeroValue9
  t46 := Tryz.underlying90
  a46 := Tryz.isAgg90
  z46 := Tryz.sizeOf90
  v46 := Tryz.zeroValue90
  t51 := Tryz.underlying109
  a51 := Tryz.isAgg109
  z51 := Tryz.sizeOf109
  v51 := Tryz.zeroValue109
  t146 := Tryz.underlying172
  a146 := Tryz.isAgg172
  z146 := Tryz.sizeOf172
  v146 := Tryz.zeroValue172
  g1 := by kernel_rfl }
def Tryz.lays219_ren : Go.Shelf.Ren := ⟨fun | 219 => 120 | 217 => 137 | 225 => 138 | 224 => 139 | 267 => 140 | 266 => 154 | 314 => 155 | n => n, fun | 9 => 9 | 3 => 3 | 4 => 4 | 5 => 5 | 46 => 90 | 146 => 172 | 51 => 109 | n => n, fun | 1 => 4 | n => n⟩
theorem Tryz.lays219 : Go.Proofs.Lays.n219 Tryz.prog Tryz.lays219_ren := {
  mixed := by kernel_rfl
  f217 := Tryz.func137.trans (congrArg some (by kernel_rfl))
  f219 := Tryz.func120.trans (congrArg some (by kernel_rfl))
  f224 := Tryz.func139.trans (congrArg some (by kernel_rfl))
  f225 := Tryz.func138.trans (congrArg some (by kernel_rfl))
  f266 := Tryz.func154.trans (congrArg some (by kernel_rfl))
  f267 := Tryz.func140.trans (congrArg some (by kernel_rfl))
  f314 := Tryz.func155.trans (congrArg some (by kernel_rfl))
  t3 := Tryz.underlying3
  a3 := Tryz.isAgg3
  z3 := Tryz.sizeOf3
  v3 := Tryz.zeroValue3
  t4 := Tryz.underlying4
  a4 := Tryz.isAgg4
  z4 := Tryz.sizeOf4
  v4 := Tryz.zeroValue4
  t5 := Tryz.underlying5
  a5 := Tryz.isAgg5
  z5 := Tryz.sizeOf5
  v5 := Tryz.zeroValue5
  t9 := Tryz.underlying9
  a9 := Tryz.isAgg9
  z9 := Tryz.sizeOf9
  v9 := Tryz.zeroValue9
  t46 := Tryz.underlying90
  a46 := Tryz.isAgg90
  z46 := Tryz.sizeOf90
  v46 := Tryz.zeroValue90
  t51 := Tryz.underlying109
  a51 := Tryz.isAgg109
  z51 := Tryz.sizeOf109
  v51 := Tryz.zeroValue109
  t146 := Tryz.underlying172
  a146 := Tryz.isAgg172
  z146 := Tryz.sizeOf172
  v146 := Tryz.zeroValue172
  g1 := by kernel_rfl }
def Tryz.lays144_ren : Go.Shelf.Ren := ⟨fun | 144 => 75 | 143 => 95 | 219 => 120 | 217 => 137 | 225 => 138 | 224 => 139 | 267 => 140 | 266 => 154 | 314 => 155 | n => n, fun | 9 => 9 | 4 => 4 | 3 => 3 | 5 => 5 | 46 => 90 | 146 => 172 | 51 => 109 | n => n, fun | 1 => 4 | n => n⟩
theorem Tryz.lays144 : Go.Proofs.Lays.n144 Tryz.prog Tryz.lays144_ren := {
  mixed := by kernel_rfl
  f143 := Tryz.func95.trans (congrArg some (by kernel_rfl))
  f144 := Tryz.func75.trans (congrArg some (by kernel_rfl))
  f217 := Tryz.func137.trans (congrArg some (by kernel_rfl))
  f219 := Tryz.func120.trans (congrArg some (by kernel_rfl))
  f224 := Tryz.func139.trans (congrArg some (by kernel_rfl))
  f225 := Tryz.func138.trans (congrArg some (by kernel_rfl))
  f266 := Tryz.func154.trans (congrArg some (by kernel_rfl))
  f267 := Tryz.func140.trans (congrArg some (by kernel_rfl))
  f314 := Tryz.func155.trans (congrArg some (by kernel_rfl))
  t3 := Tryz.underlying3
  a3 := Tryz.isAgg3
  z3 := Tryz.sizeOf3
  v3 := Tryz.zeroValue3
  t4 := Tryz.underlying4
  a4 := Tryz.isAgg4
  z4 := Tryz.sizeOf4
  v4 := Tryz.zeroValue4
  t5 := Tryz.underlying5
  a5 := Tryz.isAgg5
  z5 := Tryz.sizeOf5
  v5 := Tryz.zeroValue5
  t9 := Tryz.underlying9
  a9 := Tryz.isAgg9
  z9 := Tryz.sizeOf9
  v9 := Tryz.zeroValue9
  t46 := Tryz.underlying90
  a46 := Tryz.isAgg90
  z46 := Tryz.sizeOf90
  v46 := Tryz.zeroValue90
  t51 := Tryz.underlying109
  a51 := Tryz.isAgg109
  z51 := Tryz.sizeOf109
  v51 := Tryz.zeroValue109
  t146 := Tryz.underlying172
  a146 := Tryz.isAgg172
  z146 := Tryz.sizeOf172
  v146 := Tryz.zeroValue172
  g1 := by kernel_rfl }
def Tryz.lays138_ren : Go.Shelf.Ren := ⟨fun | 138 => 112 | 195 => 131 | 218 => 133 | 143 => 95 | 219 => 120 | 217 => 137 | 225 => 138 | 224 => 139 | 267 => 140 | 266 => 154 | 314 => 155 | n => n, fun | 9 => 9 | 3 => 3 | 4 => 4 | 5 => 5 | 0 => 0 | 46 => 90 | 146 => 172 | 51 => 109 | n => n, fun | 1 => 4 | n => n⟩
theorem Tryz.lays138 : Go.Proofs.Lays.n138 Tryz.prog Tryz.lays138_ren := {
  mixed := by kernel_rfl
  f138 := Tryz.func112.trans (congrArg some (by kernel_rfl))
  f143 := Tryz.func95.trans (congrArg some (by kernel_rfl))
  f195 := Tryz.func131.trans (congrArg some (by kernel_rfl))
  f217 := Tryz.func137.trans (congrArg some (by kernel_rfl))
  f218 := Tryz.func133.trans (congrArg some (by kernel_rfl))
  f219 := Tryz.func120.trans (congrArg some (by kernel_rfl))
  f224 := Tryz.func139.trans (congrArg some (by kernel_rfl))
  f225 := Tryz.func138.trans (congrArg some (by kernel_rfl))
  f266 := Tryz.func154.trans (congrArg some (by kernel_rfl))
  f267 := Tryz.func140.trans (congrArg some (by kernel_rfl))
  f314 := Tryz.func155.trans (congrArg some (by kernel_rfl))
  t0 := Tryz.underlying0
  a0 := Tryz.isAgg0
  z0 := Tryz.sizeOf0
  v0 := Tryz.zeroValue0
  t3 := Tryz.underlying3
  a3 := Tryz.isAgg3
  z3 := Tryz.sizeOf3
  v3 := Tryz.zeroValue3
  t4 := Tryz.underlying4
  a4 := Tryz.isAgg4
  z4 := Tryz.sizeOf4
  v4 := Tryz.zeroValue4
  t5 := Tryz.underlying5
  a5 := Tryz.isAgg5
  z5 := Tryz.sizeOf5
  v5 := Tryz.zeroValue5
  t9 := Tryz.underlying9
  a9 := Tryz.isAgg9
  z9 := Tryz.sizeOf9
  v9 := Tryz.zeroValue9
  t46 := Tryz.underlying90
  a46 := Tryz.isAgg90
  z46 := Tryz.sizeOf90
  v46 := Tryz.zeroValue90
  t51 := Tryz.underlying109
  a51 := Tryz.isAgg109
  z51 := Tryz.sizeOf109
  v51 := Tryz.zeroValue109
  t146 := Tryz.underlying172
  a146 := Tryz.isAgg172
  z146 := Tryz.sizeOf172
  v146 := Tryz.zeroValue172
  g1 := by kernel_rfl }
end Go.Proofs
namespace Go.Ev
open Go Go.Proofs
open Go.RowKit (Below)
set_option maxRecDepth 100000
theorem enters_tz {f : FuncId} {fn : Func} {c : Code} (h : TT.func f = some fn) (hb : fn.body = some c) : Enters Tryz.prog f := (TT_ok.func f fn c h hb).2
theorem relL1 {M : Mem} {ρ : Ren} {s : List UInt8} {args : List Value} (h : relL M ρ [.s s] args) : args = [.string ⟨s.toArray⟩] := by
  simp only [relL, rel] at h
  obtain ⟨x, r, rfl, rfl, rfl⟩ := h; rfl
theorem relL2 {M : Mem} {ρ : Ren} {s c : List UInt8} {args : List Value} (h : relL M ρ [.s s, .s c] args) : args = [.string ⟨s.toArray⟩, .string ⟨c.toArray⟩] := by
  simp only [relL, rel] at h
  obtain ⟨x, r, rfl, rfl, x, r, rfl, rfl, rfl⟩ := h; rfl

def spTrim : List V → Heap → OR
  | [.s s, .s c], H => if s.length < 4294967281 ∧ c.length < 4294967281 ∧ (c.all fun b => decide (b.toNat < 128)) = true then .val (.s (Lib.trimS s c)) H else .no
  | _, _ => .no
theorem ok75 : SpecOK Tryz.prog TT 93 spTrim := by
  intro vs H r h hne
  unfold spTrim at h
  split at h
  · rename_i H s c
    split at h
    · rename_i hc
      subst h
      refine ⟨enters_tz (f := 93) rfl rfl, fun M ρ w args hS hr => ?_⟩
      rw [relL2 hr]
      refine callOK_below (x := .string ⟨(Lib.trimS s c).toArray⟩) hS ?_ (by simp only [rel])
      exact Any.strings_Trim_laid Tryz.lays160 (by kernel_rfl) ⟨s.toArray⟩ ⟨c.toArray⟩ w (by show s.toArray.size ≤ _; simp; omega) (by show c.toArray.size < _; simpa using hc.2.1) (ascii_of_all (by simpa using hc.2.2))
    · exact absurd h.symm hne
  · exact absurd h.symm hne
def spValid : List V → Heap → OR
  | [.s s], H => if s.length < 4294967281 then .val (.b (Lib.validD s)) H else .no
  | _, _ => .no
theorem tabs_of_sr {M : Mem} {ρ : Ren} {H : Heap} {w : World} (hS : SR TT M ρ H w) : Lib.Utf8Tabs 1 2 w := by
  constructor
  · intro c hc
    obtain ⟨cs, ty, fr, hM, hr⟩ := hS.glob 1 _ rfl
    have hw := hS.frozen _ _ hM
    obtain ⟨x, hx, hxr⟩ := relL_get hr (i := c) (v := .i .u8 (Lib.firstT c)) (by simp [hc])
    simp only [rel] at hxr
    subst hxr
    simp [World.cell?, hw, hx]
  · intro i hi
    obtain ⟨cs, ty, fr, hM, hr⟩ := hS.glob 2 _ rfl
    have hw := hS.frozen _ _ hM
    have key : ∀ j, j < 16 → ((((List.range 16).map fun i => [V.i .u8 (Lib.accLo i), V.i .u8 (Lib.accHi i)]).flatten)[2 * j]? = some (V.i .u8 (Lib.accLo j)) ∧ (((List.range 16).map fun i => [V.i .u8 (Lib.accLo i), V.i .u8 (Lib.accHi i)]).flatten)[2 * j + 1]? = some (V.i .u8 (Lib.accHi j))) := by
      intro j hj
      have : j = 0 ∨ j = 1 ∨ j = 2 ∨ j = 3 ∨ j = 4 ∨ j = 5 ∨ j = 6 ∨ j = 7 ∨ j = 8 ∨ j = 9 ∨ j = 10 ∨ j = 11 ∨ j = 12 ∨ j = 13 ∨ j = 14 ∨ j = 15 := by omega
      rcases this with rfl | rfl | rfl | rfl | rfl | rfl | rfl | rfl | rfl | rfl | rfl | rfl | rfl | rfl | rfl | rfl <;> exact ⟨rfl, rfl⟩
    obtain ⟨x, hx, hxr⟩ := relL_get hr (key i hi).1
    obtain ⟨y, hy, hyr⟩ := relL_get hr (key i hi).2
    simp only [rel] at hxr hyr
    subst hxr hyr
    exact ⟨by simp [World.cell?, hw, hx], by simp [World.cell?, hw, hy]⟩
theorem ok33 : SpecOK Tryz.prog TT 47 spValid := by
  intro vs H r h hne
  unfold spValid at h
  split at h
  · rename_i H s
    split at h
    · rename_i hc
      subst h
      refine ⟨enters_tz (f := 47) rfl rfl, fun M ρ w args hS hr => ?_⟩
      rw [relL1 hr]
      refine callOK_below (x := .bool (Lib.validD s)) hS ?_ (by simp only [rel])
      exact Any.utf8_ValidString Tryz.lays196 ⟨s.toArray⟩ w (by show s.toArray.size ≤ _; simp; omega) (tabs_of_sr hS)
    · exact absurd h.symm hne
  · exact absurd h.symm hne
def spIndex1 : List V → Heap → OR
  | [.s s, .s [c]], H => .val (.i .i64 (Lib.indexByte s c)) H
  | _, _ => .no
def spContains1 : List V → Heap → OR
  | [.s s, .s [c]], H => .val (.b (decide (0 ≤ Lib.indexByte s c))) H
  | _, _ => .no
theorem ok95 : SpecOK Tryz.prog TT 120 spIndex1 := by
  intro vs H r h hne
  unfold spIndex1 at h
  split at h
  · rename_i H s c
    subst h
    refine ⟨enters_tz (f := 120) rfl rfl, fun M ρ w args hS hr => ?_⟩
    rw [relL2 hr]
    refine callOK_below (x := .int .i64 (Lib.indexByte s c)) hS ?_ (by simp only [rel])
    exact (Any.stringslite_Index_one Tryz.lays219 ⟨s.toArray⟩ c w).mono fun e w' ⟨h1, h2⟩ => ⟨h1, h2 ▸ Below.refl _ _⟩
  · exact absurd h.symm hne
theorem ok62 : SpecOK Tryz.prog TT 75 spContains1 := by
  intro vs H r h hne
  unfold spContains1 at h
  split at h
  · rename_i H s c
    subst h
    refine ⟨enters_tz (f := 75) rfl rfl, fun M ρ w args hS hr => ?_⟩
    rw [relL2 hr]
    refine callOK_below (x := .bool (decide (0 ≤ Lib.indexByte s c))) hS ?_ (by simp only [rel])
    exact (Any.strings_Contains_one Tryz.lays144 ⟨s.toArray⟩ c w).mono fun e w' ⟨h1, h2⟩ => ⟨h1, h2 ▸ Below.refl _ _⟩
  · exact absurd h.symm hne
def pieces (s : List UInt8) (c : UInt8) : List (List UInt8) := (Lib.splitB ⟨#[c]⟩ 0 (Lib.countB ⟨s.toArray⟩ ⟨#[c]⟩) ⟨s.toArray⟩).map fun b => b.data.toList
def spGen : List V → Heap → OR
  | [.s s, .s [c], .i .i64 0, .i .i64 (-1)], H => if s.length < 4294967281 then .val (.isl 1 ((pieces s c).map V.s)) H else .no
  | _, _ => .no
theorem row_strings {M : Mem} {ρ : Ren} {b : Nat} {ty : TypeId} {fr : Nat × Nat} {cs : List Value} (hM : M b = some (.cells cs.toArray ty fr)) : ∀ (l : List ByteArray) (o : Nat), (∀ (i : Nat) (x : ByteArray), l[i]? = some x → cs[o + i]? = some (.string x)) → relRow M ρ 1 (l.map fun b => V.s b.data.toList) b o
  | [], _, _ => by simp [relRow]
  | x :: l, o, h => by
    simp only [List.map_cons, relRow]
    refine ⟨⟨.string x, by simp [rel], rfl, fun j c hj => ?_⟩, row_strings hM l (o + 1) fun i y hi => by
      have := h (i + 1) y (by simpa using hi)
      rwa [show o + 1 + i = o + (i + 1) from by omega]⟩
    have h0 := h 0 x rfl
    cases j with
    | zero =>
      simp [Value.cells] at hj
      subst hj
      simpa [Mem.cell, hM] using h0
    | succ j => simp [Value.cells] at hj
theorem ok73 : SpecOK Tryz.prog TT 91 spGen := by
  intro vs H r h hne
  unfold spGen at h
  split at h
  · rename_i H s c
    split at h
    · rename_i hc
      subst h
      refine ⟨enters_tz (f := 91) rfl rfl, fun M ρ w args hS hr => ?_⟩
      have ha : args = [.string ⟨s.toArray⟩, .string ⟨#[c]⟩, .int .i64 0, .int .i64 (-1)] := by
        simp only [relL, rel] at hr
        obtain ⟨x, r, rfl, rfl, x, r, rfl, rfl, x, r, rfl, rfl, x, r, rfl, rfl, rfl⟩ := hr; rfl
      rw [ha]
      have hle := Lib.countB_le (⟨#[c]⟩ : ByteArray) (by show 1 ≤ 1; omega) s.length ⟨s.toArray⟩ (by show s.toArray.size ≤ _; simp)
      have hlen := Lib.splitB_all (⟨#[c]⟩ : ByteArray) (by show 1 ≤ 1; omega) 0 _ ⟨s.toArray⟩ rfl
      have hsz : (⟨s.toArray⟩ : ByteArray).size = s.length := by show s.toArray.size = _; simp
      have g := Any.strings_genSplit_core Tryz.lays221 (by kernel_rfl) ⟨s.toArray⟩ ⟨#[c]⟩ 0 (-1) (Lib.countB ⟨s.toArray⟩ ⟨#[c]⟩ + 1) w (by rw [hsz]; exact hc) (by show 1 ≤ 1; omega) (Nat.zero_le _)
        (fun x cs _ => (Any.strings_Index_one Tryz.lays143 x c _).mono fun e w' ⟨h1, h2⟩ => ⟨by
          rw [h1]
          show _ = Ending.returned (Value.int .i64 (Lib.index x.data.toList [c]))
          rw [Lib.index_one], h2⟩)
        ((Any.strings_Count_one Tryz.lays138 ⟨s.toArray⟩ c w).mono fun e w' ⟨h1, h2⟩ => ⟨by
          rw [h1]
          show _ = Ending.returned (Value.int .i64 ((Lib.count s [c] : Nat) : Int))
          rw [Lib.count_one]
          rfl, h2⟩) (by decide) (by decide) (by rw [if_pos (by decide)]; omega)
      rw [Nat.add_sub_cancel, hlen] at g
      have e2 : Lib.cellsOf (Lib.splitB ⟨#[c]⟩ 0 (Lib.countB ⟨s.toArray⟩ ⟨#[c]⟩) ⟨s.toArray⟩) (Lib.countB ⟨s.toArray⟩ ⟨#[c]⟩ + 1) = ((Lib.splitB ⟨#[c]⟩ 0 (Lib.countB ⟨s.toArray⟩ ⟨#[c]⟩) ⟨s.toArray⟩).map Value.string).toArray := by rw [← hlen]; exact Lib.cellsOf_full _
      rw [e2] at g
      refine callOK_new hS g fun M' hle' hM' => ?_
      simp only [rel]
      refine ⟨some ⟨w.heap.size, 0, none⟩, Lib.countB ⟨s.toArray⟩ ⟨#[c]⟩ + 1, by simp [pieces, hlen], by simp [pieces, hlen], fun _ => ⟨w.heap.size, 0, rfl, ?_⟩⟩
      have := row_strings (ρ := ρ) hM' (Lib.splitB ⟨#[c]⟩ 0 (Lib.countB ⟨s.toArray⟩ ⟨#[c]⟩) ⟨s.toArray⟩) 0 (fun i x hi => by simp [hi])
      simpa [pieces, Function.comp_def] using this
    · exact absurd h.symm hne
  · exact absurd h.symm hne
end Go.Ev
namespace Go.Proofs
def Tryz.laysM171_ren : Go.Shelf.Ren := ⟨fun | 171 => 149 | 243 => 159 | 246 => 164 | 283 => 165 | 284 => 166 | 285 => 167 | 286 => 168 | 129 => 170 | 317 => 169 | 318 => 171 | 319 => 172 | 320 => 173 | 337 => 174 | 338 => 175 | n => n, fun | 3 => 3 | 9 => 9 | 2 => 2 | 4 => 4 | 171 => 180 | 0 => 0 | 53 => 117 | 37 => 34 | 5 => 5 | 173 => 183 | 212 => 186 | 51 => 109 | 20 => 20 | 213 => 187 | 46 => 90 | 232 => 191 | 233 => 192 | n => n, fun | 17 => 5 | 18 => 6 | 19 => 7 | n => n⟩
theorem Tryz.laysM171 : Go.Proofs.LaysM.n171 Tryz.prog Tryz.laysM171_ren := {
  mixed := by kernel_rfl
  f129 := Tryz.func170.trans (congrArg some (by kernel_rfl))
  f171 := Tryz.func149.trans (congrArg some (by kernel_rfl))
  f243 := Tryz.func159.trans (congrArg some (by kernel_rfl))
  f246 := Tryz.func164.trans (congrArg some (by kernel_rfl))
  f283 := Tryz.func165.trans (congrArg some (by kernel_rfl))
  f284 := Tryz.func166.trans (congrArg some (by kernel_rfl))
  f285 := Tryz.func167.trans (congrArg some (by kernel_rfl))
  f286 := Tryz.func168.trans (congrArg some (by kernel_rfl))
  f317 := Tryz.func169.trans (congrArg some (by kernel_rfl))
  f318 := Tryz.func171.trans (congrArg some (by kernel_rfl))
  f319 := Tryz.func172.trans (congrArg some (by kernel_rfl))
  f320 := Tryz.func173.trans (congrArg some (by kernel_rfl))
  f337 := Tryz.func174.trans (congrArg some (by kernel_rfl))
  f338 := Tryz.func175.trans (congrArg some (by kernel_rfl))
  t0 := Tryz.underlying0
  a0 := Tryz.isAgg0
  z0 := Tryz.sizeOf0
  v0 := Tryz.zeroValue0
  t2 := Tryz.underlying2
  a2 := Tryz.isAgg2
  z2 := Tryz.sizeOf2
  v2 := Tryz.zeroValue2
  t3 := Tryz.underlying3
  a3 := Tryz.isAgg3
  z3 := Tryz.sizeOf3
  v3 := Tryz.zeroValue3
  t4 := Tryz.underlying4
  a4 := Tryz.isAgg4
  z4 := Tryz.sizeOf4
  v4 := Tryz.zeroValue4
  t5 := Tryz.underlying5
  a5 := Tryz.isAgg5
  z5 := Tryz.sizeOf5
  v5 := Tryz.zeroValue5
  t9 := Tryz.underlying9
  a9 := Tryz.isAgg9
  z9 := Tryz.sizeOf9
  v9 := Tryz.zeroValue9
  t20 := Tryz.underlying20
  a20 := Tryz.isAgg20
  z20 := Tryz.sizeOf20
  v20 := Tryz.zeroValue20
  t37 := Tryz.underlying34
  a37 := Tryz.isAgg34
  z37 := Tryz.sizeOf34
  v37 := Tryz.zeroValue34
  t46 := Tryz.underlying90
  a46 := Tryz.isAgg90
  z46 := Tryz.sizeOf90
  v46 := Tryz.zeroValue90
  t51 := Tryz.underlying109
  a51 := Tryz.isAgg109
  z51 := Tryz.sizeOf109
  v51 := Tryz.zeroValue109
  t53 := Tryz.underlying117
  a53 := Tryz.isAgg117
  z53 := Tryz.sizeOf117
  v53 := Tryz.zeroValue117
  t171 := Tryz.underlying180
  a171 := Tryz.isAgg180
  z171 := Tryz.sizeOf180
  v171 := Tryz.zeroValue180
  t173 := Tryz.underlying183
  a173 := Tryz.isAgg183
  z173 := Tryz.sizeOf183
  v173 := Tryz.zeroValue183
  t212 := Tryz.underlying186
  a212 := Tryz.isAgg186
  z212 := Tryz.sizeOf186
  v212 := Tryz.zeroValue186
  t213 := Tryz.underlying187
  a213 := Tryz.isAgg187
  z213 := Tryz.sizeOf187
  t232 := Tryz.underlying191
  a232 := Tryz.isAgg191
  z232 := Tryz.sizeOf191
  v232 := Tryz.zeroValue191
  t233 := Tryz.underlying192
  a233 := Tryz.isAgg192
  z233 := Tryz.sizeOf192
  v233 := Tryz.zeroValue192
  g17 := by kernel_rfl
  g18 := by kernel_rfl
  g19 := by kernel_rfl
  i0 := by kernel_rfl
  i2 := by kernel_rfl
  i3 := by kernel_rfl
  i4 := by kernel_rfl
  i5 := by kernel_rfl
  i9 := by kernel_rfl
  i20 := by kernel_rfl
  i37 := by kernel_rfl
  i46 := by kernel_rfl
  i51 := by kernel_rfl
  i53 := by kernel_rfl
  i171 := by kernel_rfl
  i173 := by kernel_rfl
  i212 := by kernel_rfl
  i232 := by kernel_rfl
  i233 := by kernel_rfl
  m17 := by kernel_rfl
  m18 := by kernel_rfl
  m19 := by kernel_rfl }
end Go.Proofs
namespace Go.Ev
open Go Go.Proofs
open Go.RowKit (Below)
set_option maxRecDepth 100000
def spItoa : List V → Heap → OR
  | [.i .i64 n], H => if -9223372036854775808 ≤ n ∧ n ≤ 9223372036854775807 then .val (.s (Lib.itoa n)) H else .no
  | _, _ => .no
theorem tabIs_of_sr {M : Mem} {ρ : Ren} {H : Heap} {w : World} (hS : SR TT M ρ H w) : Lib.TabIs Tryz.prog w "internal/strconv.uint64pow10" .u64 Lib.pow10Tab := by
  obtain ⟨cs, ty, fr, hM, hr⟩ := hS.glob 5 _ rfl
  have hw := hS.frozen _ _ hM
  have hg : Tryz.prog.globalNamed "internal/strconv.uint64pow10" = some 5 := by kernel_rfl
  unfold Lib.TabIs World.var?
  rw [hg]
  simp only [Option.bind_some, hw]
  congr 2
  have key : ∀ (l : List Int) (cs : List Value), relL M ρ (l.map fun z => V.i .u64 z) cs → cs = l.map fun z => Value.int .u64 z := by
    intro l
    induction l with
    | nil => intro cs h; simpa [relL] using h
    | cons z l ih =>
      intro cs h
      simp only [List.map_cons, relL, rel] at h
      obtain ⟨x, r, rfl, rfl, hr⟩ := h
      rw [ih r hr]
      rfl
  refine key Lib.pow10Tab cs ?_
  have e : (Lib.pow10Tab.map fun z => V.i .u64 z) = ((List.range 20).map fun i => V.i .u64 ((10 ^ i : Nat) : Int)) := by
    simp only [Lib.pow10Tab, List.map_map]
    rfl
  rw [e]
  exact hr
theorem ok149 : SpecOK Tryz.prog TT 149 spItoa := by
  intro vs H r h hne
  unfold spItoa at h
  split at h
  · rename_i H n
    split at h
    · rename_i hc
      subst h
      refine ⟨enters_tz (f := 149) rfl rfl, fun M ρ w args hS hr => ?_⟩
      have ha : args = [.int .i64 n] := by
        simp only [relL, rel] at hr
        obtain ⟨x, r, rfl, rfl, rfl⟩ := hr; rfl
      rw [ha]
      refine callOK_below (x := .string ⟨(Lib.itoa n).toArray⟩) hS ?_ (by simp only [rel])
      refine (Any.strconv_Itoa Tryz.laysM171 n hc.1 hc.2 w (tabIs_of_sr hS)).mono ?_
      rintro e w' ⟨rfl, k, os, rfl⟩
      exact ⟨rfl, rfl, rfl, rfl, by simp [Sort.grow, World.drewN], fun j hj => by simp only [Sort.grow, World.drewN]; rw [Array.getElem?_append_left hj]⟩
    · exact absurd h.symm hne
  · exact absurd h.symm hne
end Go.Ev
namespace Go.Ev
open Go Go.Proofs
set_option linter.unusedSimpArgs false
set_option linter.unusedVariables false
set_option maxRecDepth 1000000
open Go.Lib (VarReads LaidVars_reads acceptData firstData)
theorem relL_of_at {M : Mem} {ρ : Ren} : ∀ (l : List V) (cs : List Value), cs.length = l.length → (∀ (i : Nat) v x, l[i]? = some v → cs[i]? = some x → rel M ρ v x) → relL M ρ l cs
  | [], [], _, _ => by simp only [relL]
  | [], _ :: _, h, _ => by simp at h
  | _ :: _, [], h, _ => by simp at h
  | v :: l, x :: cs, h, k => relL_cons (k 0 v x rfl rfl) (relL_of_at l cs (by simpa using h) fun i v' x' h1 h2 => k (i + 1) v' x' (by simpa using h1) (by simpa using h2))
theorem glob_of {W : World} {name : String} {g : Nat} {cs : Array Value} {l : List V} (hg : Tryz.prog.globalNamed name = some g) (hv : W.var? Tryz.prog name = some cs) (hl : cs.size = l.length)
    (h : ∀ (i : Nat) v, l[i]? = some v → ∃ x, W.cell? ⟨g, i, none⟩ = some x ∧ rel (memOf W) [] v x) :
    ∃ (cs' : List Value) (ty : TypeId) (fr : Nat × Nat), memOf W g = some (.cells cs'.toArray ty fr) ∧ relL (memOf W) [] l cs' := by
  unfold World.var? at hv
  rw [hg] at hv
  simp only [Option.bind_some] at hv
  split at hv
  · rename_i c ty fr hb
    cases hv
    refine ⟨cs.toList, ty, fr, by simpa [memOf] using hb, relL_of_at _ _ (by simpa using hl) fun i v x h1 h2 => ?_⟩
    obtain ⟨y, hy, hr⟩ := h i v h1
    have : W.cell? ⟨g, i, none⟩ = cs[i]? := by simp [World.cell?, hb]
    rw [this] at hy
    rw [Array.getElem?_toList] at h2
    rw [h2] at hy
    cases hy
    exact hr
  · cases hv
theorem u8x : U8Extra Tryz.prog Tryz.lays196_ren where
  n3 := by kernel_rfl
  n4 := by kernel_rfl
  y3 := by kernel_rfl
  y4 := by kernel_rfl
  c5 := by kernel_rfl
  c119 := by kernel_rfl
  c138 := by kernel_rfl
theorem var_size {W : World} {name : String} {d : DataW Unit} {g : Nat} {t e : TypeId} {n k : Nat} (hg : Tryz.prog.globalNamed name = some g) (ht : (Tryz.prog.globals[g]?).map (·.type) = some t) (hu : Tryz.prog.underlying t = some (.array n e)) (hc : Tryz.prog.cellsOf t = k) (h : VarReads Tryz.prog W name d) :
    ∃ cs, W.var? Tryz.prog name = some cs ∧ cs.size = k := by
  obtain ⟨g', t', cs, fuel, p, hg', ht', hv, hd⟩ := h
  obtain rfl := Option.some.inj (hg.symm.trans hg')
  obtain rfl := Option.some.inj (ht.symm.trans ht')
  refine ⟨cs, hv, ?_⟩
  cases fuel with
  | zero => simp [DataW.trod] at hd
  | succ fuel =>
    simp only [DataW.trod, hu, hc] at hd
    split at hd
    · rename_i hl; simpa using hl
    · cases hd
theorem acc_at : ∀ j, j < 16 → ((((List.range 16).map fun i => [V.i .u8 (Lib.accLo i), V.i .u8 (Lib.accHi i)]).flatten)[2 * j]? = some (V.i .u8 (Lib.accLo j)) ∧ (((List.range 16).map fun i => [V.i .u8 (Lib.accLo i), V.i .u8 (Lib.accHi i)]).flatten)[2 * j + 1]? = some (V.i .u8 (Lib.accHi j))) := by
  intro j hj
  have : j = 0 ∨ j = 1 ∨ j = 2 ∨ j = 3 ∨ j = 4 ∨ j = 5 ∨ j = 6 ∨ j = 7 ∨ j = 8 ∨ j = 9 ∨ j = 10 ∨ j = 11 ∨ j = 12 ∨ j = 13 ∨ j = 14 ∨ j = 15 := by omega
  rcases this with rfl | rfl | rfl | rfl | rfl | rfl | rfl | rfl | rfl | rfl | rfl | rfl | rfl | rfl | rfl | rfl <;> exact ⟨rfl, rfl⟩
theorem sr_of_laid {W : World} (h : laidMetH Tryz.prog Go.Proofs.YtddpjgoboboidaaGreatDoor.Rows.syntaxChecksUptoRow.laid W) : SR TT (memOf W) [] [] W := by
  rw [MakeChecks.laidMetH_plain _ _ _ (by kernel_rfl)] at h
  obtain ⟨ps, hv, _, _⟩ := h
  have hr := LaidVars_reads hv
  have hA : VarReads Tryz.prog W "unicode/utf8.acceptRanges" acceptData := hr _ _ (.tail _ (.tail _ (.tail _ (.head _))))
  have hP : VarReads Tryz.prog W "internal/strconv.uint64pow10" (Lib.tabData .u64 Lib.pow10Tab) := hr _ _ (.tail _ (.tail _ (.head _)))
  have hS : VarReads Tryz.prog W "strings.asciiSpace" (Lib.tabData .u8 ((List.range 256).map fun i => if i = 32 ∨ (9 ≤ i ∧ i ≤ 13) then 1 else 0)) := hr _ _ (.tail _ (.tail _ (.tail _ (.tail _ (.tail _ (.head _))))))
  have hF : VarReads Tryz.prog W "unicode/utf8.first" firstData := hr _ _ (.tail _ (.tail _ (.tail _ (.tail _ (.tail _ (.tail _ (.head _)))))))
  have tabs : Lib.Utf8Tabs 1 2 W := utf8Tabs_of_readsT (U8Types.of196 Tryz.lays196) u8x hF hA
  refine ⟨fun b o hb => hb, rfl, fun n b hn => by simp at hn, fun n m x y b c c' hn => by simp at hn, fun g l hl => ?_⟩
  simp only [TT] at hl
  split at hl
  · rename_i hg
    subst hg
    cases hl
    have hS' := hS
    obtain ⟨cs, hv, hsz⟩ := var_size (g := 0) (t := 81) (by kernel_rfl) (by kernel_rfl) Tryz.underlying81 (k := 256) (by kernel_rfl) hS
    obtain ⟨g', t', cs2, fuel, p, hg', ht', hv2, hd⟩ := hS'
    have e0 : Tryz.prog.globalNamed "strings.asciiSpace" = some 0 := by kernel_rfl
    obtain rfl := Option.some.inj (e0.symm.trans hg')
    obtain rfl := Option.some.inj ((show (Tryz.prog.globals[0]?).map (·.type) = some 81 by kernel_rfl).symm.trans ht')
    have hcs := Lib.cells_of_tab Tryz.underlying81 Tryz.underlying5 (by kernel_rfl) (by kernel_rfl) hd
    refine glob_of e0 hv (by simp [hsz]) fun i v hi => ?_
    rw [hv] at hv2
    cases hv2
    have hi256 : i < 256 := by
      have := (List.getElem?_eq_some_iff.1 hi).1
      simpa using this
    simp only [List.getElem?_map, List.getElem?_range hi256, Option.map_some, Option.some.injEq] at hi
    subst hi
    refine ⟨.int .u8 (if i = 32 ∨ (9 ≤ i ∧ i ≤ 13) then 1 else 0), ?_, by simp only [rel]⟩
    rw [World.var?_cell e0 hv i, ← Array.getElem?_toList, hcs]
    simp [List.getElem?_range hi256]
  · split at hl
    · rename_i hg
      subst hg
      cases hl
      obtain ⟨cs, hv, hsz⟩ := var_size (g := 1) (t := 81) (by kernel_rfl) (by kernel_rfl) Tryz.underlying81 (k := 256) (by kernel_rfl) hF
      refine glob_of (by kernel_rfl) hv (by simp [hsz]) fun i v hi => ?_
      have hi256 : i < 256 := by
        have := (List.getElem?_eq_some_iff.1 hi).1
        simpa using this
      simp only [List.getElem?_map, List.getElem?_range hi256, Option.map_some, Option.some.injEq] at hi
      subst hi
      exact ⟨_, tabs.1 i hi256, by simp only [rel]⟩
    · split at hl
      · rename_i hg
        subst hg
        cases hl
        obtain ⟨cs, hv, hsz⟩ := var_size (g := 2) (t := 89) (by kernel_rfl) (by kernel_rfl) Tryz.underlying89 (k := 32) (by kernel_rfl) hA
        refine glob_of (by kernel_rfl) hv (by rw [hsz]; rfl) fun i v hi => ?_
        have hi32 : i < 32 := by
          have := (List.getElem?_eq_some_iff.1 hi).1
          exact this
        obtain ⟨j, hj, hij⟩ : ∃ j, j < 16 ∧ (i = 2 * j ∨ i = 2 * j + 1) := ⟨i / 2, by omega, by omega⟩
        obtain ⟨k1, k2⟩ := acc_at j hj
        rcases hij with rfl | rfl
        · rw [k1] at hi; cases hi
          exact ⟨_, (tabs.2 j hj).1, by simp only [rel]⟩
        · rw [k2] at hi; cases hi
          exact ⟨_, (tabs.2 j hj).2, by simp only [rel]⟩
      · split at hl
        · rename_i hg
          subst hg
          cases hl
          have hP' := hP
          obtain ⟨cs, hv, hsz⟩ := var_size (g := 5) (t := 186) (by kernel_rfl) (by kernel_rfl) Tryz.underlying186 (k := 20) (by kernel_rfl) hP
          obtain ⟨g', t', cs2, fuel, p, hg', ht', hv2, hd⟩ := hP'
          have e0 : Tryz.prog.globalNamed "internal/strconv.uint64pow10" = some 5 := by kernel_rfl
          obtain rfl := Option.some.inj (e0.symm.trans hg')
          obtain rfl := Option.some.inj ((show (Tryz.prog.globals[5]?).map (·.type) = some 186 by kernel_rfl).symm.trans ht')
          have hcs := Lib.cells_of_tab Tryz.underlying186 Tryz.underlying117 (by kernel_rfl) (by kernel_rfl) hd
          refine glob_of e0 hv (by simp [hsz]) fun i v hi => ?_
          rw [hv] at hv2
          cases hv2
          have hi20 : i < 20 := by
            have := (List.getElem?_eq_some_iff.1 hi).1
            simpa using this
          simp only [List.getElem?_map, List.getElem?_range hi20, Option.map_some, Option.some.injEq] at hi
          subst hi
          refine ⟨.int .u64 ((10 ^ i : Nat) : Int), ?_, by simp only [rel]⟩
          rw [World.var?_cell e0 hv i, ← Array.getElem?_toList, hcs]
          simp [Lib.pow10Tab, List.getElem?_range hi20]
        · cases hl
theorem body_1005n1 {call : CallF} (hC : call.Sound Tryz.prog TT) (x : Nd) (s300 : ∀ H, call 6 [x.enc, .i .i64 300] H = .val (.b false) H) (s4000 : ∀ H, call 6 [x.enc, .i .i64 4000] H = .val (.b true) H) (sw : ∀ H, call 7 [] H = .val (.b true) H)   : EBody Tryz.prog TT 5 [x.enc] (fun w => w = .val (.b true)) := by
 refine en Tryz.f5 rfl rfl (by simp [Tryz.f5]) 69 rfl fun t hw hg => ?_
 have h0 := hg 0 _ rfl
 clear hg
 try simp only [Nd.enc_eq] at *
 have hF := ai @h0 (ai @s300 (ai @s4000 @sw))
 apply rS hC
 · iterate 2 refine oA ?_
   rfl
 iterate 2 apply sQ
 refine Tri.freeze_put 1 30 (v := .ipt 3 [.agg [.i .i64 x.kind, .s x.text, .isl 3 (Nd.encL x.kids)]] 0 0) (by simp [fz, fzL, nl, nlL, Nd.encL_nl, h0] <;> rfl) ?_
 apply rN hC
 · iterate 4 refine oA ?_
   iterate 3 refine oB ?_
   iterate 3 refine oC ?_
   refine oB ?_
   refine oA ?_
   rfl
 apply sN
 refine cT (by simp [hF] <;> rfl) ?_
 apply rS hC
 · iterate 2 refine oA ?_
   rfl
 apply Tri.ret
 apply sR
 refine endsE (by simp [Tryz.f5] <;> rfl) (by rfl) ?_
 first
  | rfl
  | simp [*]
theorem body_1005n2 {call : CallF} (hC : call.Sound Tryz.prog TT) (x : Nd) (s300 : ∀ H, call 6 [x.enc, .i .i64 300] H = .val (.b false) H) (s4000 : ∀ H, call 6 [x.enc, .i .i64 4000] H = .val (.b false) H) (s8000 : ∀ H, call 6 [x.enc, .i .i64 8000] H = .val (.b false) H) (sw : ∀ H, call 7 [] H = .val (.b true) H)   : EBody Tryz.prog TT 5 [x.enc] (fun w => w = .val (.b true)) := by
 refine en Tryz.f5 rfl rfl (by simp [Tryz.f5]) 69 rfl fun t hw hg => ?_
 have h0 := hg 0 _ rfl
 clear hg
 try simp only [Nd.enc_eq] at *
 have hF := ai @h0 (ai @s300 (ai @s4000 (ai @s8000 @sw)))
 apply rS hC
 · iterate 2 refine oA ?_
   rfl
 iterate 2 apply sQ
 refine Tri.freeze_put 1 30 (v := .ipt 3 [.agg [.i .i64 x.kind, .s x.text, .isl 3 (Nd.encL x.kids)]] 0 0) (by simp [fz, fzL, nl, nlL, Nd.encL_nl, h0] <;> rfl) ?_
 apply rN hC
 · iterate 4 refine oA ?_
   iterate 7 refine oB ?_
   refine oA ?_
   rfl
 apply sN
 refine cT (by simp [hF] <;> rfl) ?_
 apply rS hC
 · iterate 2 refine oA ?_
   rfl
 apply Tri.ret
 apply sR
 refine endsE (by simp [Tryz.f5] <;> rfl) (by rfl) ?_
 first
  | rfl
  | simp [*]
theorem body_1005y1 {call : CallF} (hC : call.Sound Tryz.prog TT) (x : Nd) (s300 : ∀ H, call 6 [x.enc, .i .i64 300] H = .val (.b true) H) (sw : ∀ H, call 7 [] H = .val (.b true) H) (m d : Nat) (e : Int) (t1 t2 t3 : Bool) (z1 : ∀ H, call 15 [x.enc] H = .val (.tup [.i .i64 m, .i .i64 d]) H) (z2 : ∀ H, call 16 [x.enc] H = .val (.tup [.i .i64 m, .i .i64 d]) H) (e1 : ∀ H, call 14 [x.enc] H = .val (.i .i64 e) H) (e2 : ∀ H, call 17 [x.enc] H = .val (.i .i64 e) H) (p1 : ∀ H, call 18 [x.enc] H = .val (.b t1) H) (p2 : ∀ H, call 19 [x.enc] H = .val (.b t1) H) (q1 : ∀ H, call 20 [x.enc] H = .val (.b t2) H) (q2 : ∀ H, call 21 [x.enc] H = .val (.b t2) H) (r1 : ∀ H, call 22 [x.enc] H = .val (.b t3) H) (r2 : ∀ H, call 23 [x.enc] H = .val (.b t3) H)   : EBody Tryz.prog TT 5 [x.enc] (fun w => w = .val (.b true)) := by
 refine en Tryz.f5 rfl rfl (by simp [Tryz.f5]) 69 rfl fun t hw hg => ?_
 have h0 := hg 0 _ rfl
 clear hg
 try simp only [Nd.enc_eq] at *
 have hF := ai @h0 (ai @s300 (ai @sw (ai @z1 (ai @z2 (ai @e1 (ai @e2 (ai @p1 (ai @p2 (ai @q1 (ai @q2 (ai @r1 @r2)))))))))))
 apply rS hC
 · iterate 2 refine oA ?_
   rfl
 iterate 2 apply sQ
 refine Tri.freeze_put 1 30 (v := .ipt 3 [.agg [.i .i64 x.kind, .s x.text, .isl 3 (Nd.encL x.kids)]] 0 0) (by simp [fz, fzL, nl, nlL, Nd.encL_nl, h0] <;> rfl) ?_
 apply rN hC
 · iterate 4 refine oA ?_
   iterate 7 refine oC ?_
   refine oA ?_
   rfl
 apply sN
 refine cF (by simp [hF] <;> rfl) ?_
 apply Tri.skip
 apply sN
 apply rS hC
 · iterate 7 refine oA ?_
   rfl
 apply rS hC
 · iterate 7 refine oA ?_
   rfl
 apply sQ
 refine Tri.regN (t' := ?t6) (H' := ?H6) TT_ok hC ?e6 ?q6
 case e6 =>
  refine evReg_quiet (t' := ?t6) (by kernel_rfl) ?_ ?r906
  iterate 6 refine QR.val rfl (by simp [hF] <;> rfl) (by rfl) (by simp [hw]) ?_
  iterate 3 refine QR.val (by simp [wants, hF]) (by simp [hF] <;> rfl) (by rfl) (by simp [hw]) ?_
  iterate 2 refine QR.val rfl (by simp [hF] <;> rfl) (by rfl) (by simp [hw]) ?_
  iterate 3 refine QR.val (by simp [wants, hF]) (by simp [hF] <;> rfl) (by rfl) (by simp [hw]) ?_
  iterate 2 refine QR.val rfl (by simp [hF] <;> rfl) (by rfl) (by simp [hw]) ?_
  iterate 5 refine QR.val (by simp [wants, hF]) (by simp [hF] <;> rfl) (by rfl) (by simp [hw]) ?_
  iterate 2 refine QR.val rfl (by simp [hF] <;> rfl) (by rfl) (by simp [hw]) ?_
  iterate 5 refine QR.val (by simp [wants, hF]) (by simp [hF] <;> rfl) (by rfl) (by simp [hw]) ?_
  iterate 2 refine QR.val rfl (by simp [hF] <;> rfl) (by rfl) (by simp [hw]) ?_
  iterate 5 refine QR.val (by simp [wants, hF]) (by simp [hF] <;> rfl) (by rfl) (by simp [hw]) ?_
  iterate 2 refine QR.val rfl (by simp [hF] <;> rfl) (by rfl) (by simp [hw]) ?_
  refine QR.val (by simp [wants, hF]) (by simp [hF] <;> rfl) (by rfl) (by simp [hw]) ?_
  iterate 2 refine QR.val rfl (by simp [hF] <;> rfl) (by rfl) (by simp [hw]) ?_
  exact QR.nil
  case r906 => exact rfl
 apply sN
 apply Tri.ret
 refine endsE (by simp [Tryz.f5] <;> rfl) (by rfl) ?_
 first
  | rfl
  | simp [*]
theorem body_1005y2 {call : CallF} (hC : call.Sound Tryz.prog TT) (x : Nd) (s300 : ∀ H, call 6 [x.enc, .i .i64 300] H = .val (.b false) H) (s4000 : ∀ H, call 6 [x.enc, .i .i64 4000] H = .val (.b false) H) (s8000 : ∀ H, call 6 [x.enc, .i .i64 8000] H = .val (.b true) H) (sw : ∀ H, call 7 [] H = .val (.b true) H) (m d : Nat) (e : Int) (t1 t2 t3 : Bool) (z1 : ∀ H, call 15 [x.enc] H = .val (.tup [.i .i64 m, .i .i64 d]) H) (z2 : ∀ H, call 16 [x.enc] H = .val (.tup [.i .i64 m, .i .i64 d]) H) (e1 : ∀ H, call 14 [x.enc] H = .val (.i .i64 e) H) (e2 : ∀ H, call 17 [x.enc] H = .val (.i .i64 e) H) (p1 : ∀ H, call 18 [x.enc] H = .val (.b t1) H) (p2 : ∀ H, call 19 [x.enc] H = .val (.b t1) H) (q1 : ∀ H, call 20 [x.enc] H = .val (.b t2) H) (q2 : ∀ H, call 21 [x.enc] H = .val (.b t2) H) (r1 : ∀ H, call 22 [x.enc] H = .val (.b t3) H) (r2 : ∀ H, call 23 [x.enc] H = .val (.b t3) H)   : EBody Tryz.prog TT 5 [x.enc] (fun w => w = .val (.b true)) := by
 refine en Tryz.f5 rfl rfl (by simp [Tryz.f5]) 69 rfl fun t hw hg => ?_
 have h0 := hg 0 _ rfl
 clear hg
 try simp only [Nd.enc_eq] at *
 have hF := ai @h0 (ai @s300 (ai @s4000 (ai @s8000 (ai @sw (ai @z1 (ai @z2 (ai @e1 (ai @e2 (ai @p1 (ai @p2 (ai @q1 (ai @q2 (ai @r1 @r2)))))))))))))
 apply rS hC
 · iterate 2 refine oA ?_
   rfl
 iterate 2 apply sQ
 refine Tri.freeze_put 1 30 (v := .ipt 3 [.agg [.i .i64 x.kind, .s x.text, .isl 3 (Nd.encL x.kids)]] 0 0) (by simp [fz, fzL, nl, nlL, Nd.encL_nl, h0] <;> rfl) ?_
 apply rN hC
 · iterate 4 refine oA ?_
   iterate 7 refine oB ?_
   refine oA ?_
   rfl
 apply sN
 refine cF (by simp [hF] <;> rfl) ?_
 apply Tri.skip
 apply sN
 apply rS hC
 · iterate 7 refine oA ?_
   rfl
 apply rS hC
 · iterate 7 refine oA ?_
   rfl
 apply sQ
 refine Tri.regN (t' := ?t6) (H' := ?H6) TT_ok hC ?e6 ?q6
 case e6 =>
  refine evReg_quiet (t' := ?t6) (by kernel_rfl) ?_ ?r906
  iterate 6 refine QR.val rfl (by simp [hF] <;> rfl) (by rfl) (by simp [hw]) ?_
  iterate 3 refine QR.val (by simp [wants, hF]) (by simp [hF] <;> rfl) (by rfl) (by simp [hw]) ?_
  iterate 2 refine QR.val rfl (by simp [hF] <;> rfl) (by rfl) (by simp [hw]) ?_
  iterate 3 refine QR.val (by simp [wants, hF]) (by simp [hF] <;> rfl) (by rfl) (by simp [hw]) ?_
  iterate 2 refine QR.val rfl (by simp [hF] <;> rfl) (by rfl) (by simp [hw]) ?_
  iterate 5 refine QR.val (by simp [wants, hF]) (by simp [hF] <;> rfl) (by rfl) (by simp [hw]) ?_
  iterate 2 refine QR.val rfl (by simp [hF] <;> rfl) (by rfl) (by simp [hw]) ?_
  iterate 5 refine QR.val (by simp [wants, hF]) (by simp [hF] <;> rfl) (by rfl) (by simp [hw]) ?_
  iterate 2 refine QR.val rfl (by simp [hF] <;> rfl) (by rfl) (by simp [hw]) ?_
  iterate 5 refine QR.val (by simp [wants, hF]) (by simp [hF] <;> rfl) (by rfl) (by simp [hw]) ?_
  iterate 2 refine QR.val rfl (by simp [hF] <;> rfl) (by rfl) (by simp [hw]) ?_
  refine QR.val (by simp [wants, hF]) (by simp [hF] <;> rfl) (by rfl) (by simp [hw]) ?_
  iterate 2 refine QR.val rfl (by simp [hF] <;> rfl) (by rfl) (by simp [hw]) ?_
  exact QR.nil
  case r906 => exact rfl
 apply sN
 apply Tri.ret
 refine endsE (by simp [Tryz.f5] <;> rfl) (by rfl) ?_
 first
  | rfl
  | simp [*]
theorem body_55 {call : CallF} (hC : call.Sound Tryz.prog TT) (s : List UInt8) (c : UInt8) (l : List (List UInt8)) (hs : ∀ H, call 91 [.s s, .s [c], .i .i64 0, .i .i64 (-1)] H = .val (.isl 1 (encS l)) H)  : Body Tryz.prog TT 68 [.s s, .s [c]] (.val (.isl 1 (encS l))) := by
 refine en Tryz.f68 rfl rfl (by simp [Tryz.f68]) 8 rfl fun t hw hg => ?_
 have h0 := hg 0 _ rfl
 have h1 := hg 1 _ rfl
 clear hg
 try simp only [Nd.enc_eq] at *
 apply rS hC
 · refine oA ?_
   rfl
 apply rS hC
 · iterate 4 refine oA ?_
   rfl
 apply Tri.ret
 simp [Ends, Tryz.f68, h0, h1, hs]
def dig : List UInt8 := [48, 49, 50, 51, 52, 53, 54, 55, 56, 57]
def digitsN (s : List UInt8) : Bool := (!s.isEmpty) && (Lib.trimS s dig == [])
theorem body_60 {call : CallF} (hC : call.Sound Tryz.prog TT) (s : List UInt8) (hs : ∀ H, call 93 [.s s, .s [48, 49, 50, 51, 52, 53, 54, 55, 56, 57]] H = .val (.s (Lib.trimS s dig)) H)  : Body Tryz.prog TT 73 [.s s] (.val (.b (digitsN s))) := by
 refine en Tryz.f73 rfl rfl (by simp [Tryz.f73]) 10 rfl fun t hw hg => ?_
 have h0 := hg 0 _ rfl
 clear hg
 try simp only [Nd.enc_eq] at *
 apply rS hC
 · refine oA ?_
   rfl
 apply sQ
 cases hB1 : (!s.isEmpty : Bool)
 case false =>
  apply rN hC
  · iterate 3 refine oA ?_
    iterate 3 refine oC ?_
    iterate 2 refine oA ?_
    rfl
  apply sN
  apply Tri.ret
  simp [Ends, Tryz.f73, digitsN, *]
 case true =>
  apply rN hC
  · iterate 3 refine oA ?_
    iterate 3 refine oB ?_
    iterate 2 refine oA ?_
    rfl
  apply sN
  apply Tri.ret
  simp [Ends, Tryz.f73, digitsN, *]
theorem body_61 {call : CallF} (hC : call.Sound Tryz.prog TT) (s : List UInt8) (c : UInt8) (a b : List UInt8) (f : Bool) (hs : ∀ H, call 94 [.s s, .s [c]] H = .val (.tup [.s a, .s b, .b f]) H)  : Body Tryz.prog TT 74 [.s s, .s [c]] (.val (.tup [.s a, .s b, .b f])) := by
 refine en Tryz.f74 rfl rfl (by simp [Tryz.f74]) 13 rfl fun t hw hg => ?_
 have h0 := hg 0 _ rfl
 have h1 := hg 1 _ rfl
 clear hg
 try simp only [Nd.enc_eq] at *
 apply rS hC
 · iterate 3 refine oA ?_
   rfl
 apply rS hC
 · iterate 9 refine oA ?_
   rfl
 apply Tri.ret
 simp [Ends, Tryz.f74, h0, h1, hs]
def shRaw : List V := [.s [], .nilf, .nils, .nilf, .i .i64 0,
  .s [77, 111, 100, 117, 108, 101], .fn 43 [], .nils, .fn 44 [], .i .i64 0,
  .s [85, 115, 101], .fn 67 [.ipt 1 [.agg [.s [47]]] 0 0, .ipt 1 [.agg [.i .i64 0]] 0 0], .isl 1 [.fn 66 [.ipt 1 [.agg [.fn 20 []]] 0 0]], .nilf, .i .i64 0,
  .s [69, 110, 116, 105, 116, 121], .fn 41 [], .isl 1 [.fn 61 [.ipt 1 [.agg [.isl 1 [.s [99, 108, 97, 115, 115], .s [97, 99, 116, 111, 114], .s [112, 114, 105, 109, 105, 116, 105, 118, 101], .s [116, 114, 97, 105, 116], .s [105, 110, 116, 101, 114, 102, 97, 99, 101], .s [116, 121, 112, 101]]]] 0 0], .fn 61 [.ipt 1 [.agg [.isl 1 [.s [], .s [105, 115, 111], .s [116, 114, 110], .s [114, 101, 102], .s [118, 97, 108], .s [98, 111, 120], .s [116, 97, 103]]]] 0 0], .fn 71 [.ipt 1 [.agg [.i .i64 6]] 0 0], .fn 66 [.ipt 1 [.agg [.fn 18 []]] 0 0]], .fn 22 [], .i .i64 0,
  .s [87, 111, 114, 100], .fn 47 [], .nils, .nilf, .i .i64 0,
  .s [78, 111, 116, 104, 105, 110, 103], .fn 43 [], .nils, .nilf, .i .i64 0,
  .s [66, 111, 117, 110, 100, 115], .fn 43 [], .nils, .fn 71 [.ipt 1 [.agg [.i .i64 7]] 0 0], .i .i64 0,
  .s [66, 111, 117, 110, 100], .fn 41 [], .isl 1 [.fn 66 [.ipt 1 [.agg [.fn 18 []]] 0 0]], .nilf, .i .i64 0,
  .s [70, 105, 101, 108, 100], .fn 41 [], .isl 1 [.fn 61 [.ipt 1 [.agg [.isl 1 [.s [118, 97, 114], .s [108, 101, 116]]]] 0 0], .fn 18 [], .fn 66 [.ipt 1 [.agg [.fn 20 []]] 0 0]], .nilf, .i .i64 0,
  .s [77, 101, 116, 104, 111, 100], .fn 41 [], .isl 1 [.fn 61 [.ipt 1 [.agg [.isl 1 [.s [110, 101, 119], .s [102, 117, 110], .s [98, 101]]]] 0 0], .fn 61 [.ipt 1 [.agg [.isl 1 [.s [], .s [105, 115, 111], .s [116, 114, 110], .s [114, 101, 102], .s [118, 97, 108], .s [98, 111, 120], .s [116, 97, 103]]]] 0 0], .fn 71 [.ipt 1 [.agg [.i .i64 6]] 0 0], .fn 71 [.ipt 1 [.agg [.i .i64 10]] 0 0], .fn 66 [.ipt 1 [.agg [.fn 18 []]] 0 0], .fn 61 [.ipt 1 [.agg [.isl 1 [.s [], .s [63]]]] 0 0], .fn 66 [.ipt 1 [.agg [.fn 20 []]] 0 0]], .nilf, .i .i64 0,
  .s [80, 97, 114, 97, 109, 115], .fn 43 [], .nils, .fn 71 [.ipt 1 [.agg [.i .i64 11]] 0 0], .i .i64 0,
  .s [80, 97, 114, 97, 109], .fn 41 [], .isl 1 [.fn 18 [], .fn 66 [.ipt 1 [.agg [.fn 20 []]] 0 0]], .nilf, .i .i64 0,
  .s [78, 97, 109, 101, 100, 84, 121, 112, 101], .fn 67 [.ipt 1 [.agg [.s [46]]] 0 0, .ipt 1 [.agg [.i .i64 2]] 0 0], .isl 1 [.fn 61 [.ipt 1 [.agg [.isl 1 [.s [], .s [105, 115, 111], .s [116, 114, 110], .s [114, 101, 102], .s [118, 97, 108], .s [98, 111, 120], .s [116, 97, 103], .s [35, 114, 101, 97, 100], .s [35, 115, 101, 110, 100], .s [35, 115, 104, 97, 114, 101], .s [35, 97, 108, 105, 97, 115], .s [35, 97, 110, 121]]]] 0 0], .fn 61 [.ipt 1 [.agg [.isl 1 [.s [], .s [94], .s [33]]]] 0 0]], .fn 18 [], .i .i64 0,
  .s [85, 110, 105, 111, 110, 84, 121, 112, 101], .fn 43 [], .nils, .fn 18 [], .i .i64 2,
  .s [66, 111, 116, 104, 84, 121, 112, 101], .fn 43 [], .nils, .fn 18 [], .i .i64 2,
  .s [84, 117, 112, 108, 101, 84, 121, 112, 101], .fn 43 [], .nils, .fn 18 [], .i .i64 2,
  .s [65, 114, 114, 111, 119, 84, 121, 112, 101], .fn 43 [], .isl 1 [.fn 18 [], .fn 18 []], .nilf, .i .i64 0,
  .s [84, 104, 105, 115, 84, 121, 112, 101], .fn 43 [], .nils, .nilf, .i .i64 0,
  .s [76, 97, 109, 98, 100, 97, 84, 121, 112, 101], .fn 43 [], .isl 1 [.fn 61 [.ipt 1 [.agg [.isl 1 [.s [], .s [105, 115, 111], .s [116, 114, 110], .s [114, 101, 102], .s [118, 97, 108], .s [98, 111, 120], .s [116, 97, 103]]]] 0 0], .fn 61 [.ipt 1 [.agg [.isl 1 [.s [], .s [94], .s [33]]]] 0 0], .fn 61 [.ipt 1 [.agg [.isl 1 [.s [], .s [63]]]] 0 0], .fn 66 [.ipt 1 [.agg [.fn 18 []]] 0 0]], .fn 18 [], .i .i64 0,
  .s [73, 110, 116, 76, 105, 116], .fn 48 [], .nils, .nilf, .i .i64 0,
  .s [70, 108, 111, 97, 116, 76, 105, 116], .fn 49 [], .nils, .nilf, .i .i64 0,
  .s [83, 116, 114, 105, 110, 103, 76, 105, 116], .fn 47 [], .nils, .nilf, .i .i64 0,
  .s [66, 111, 111, 108, 76, 105, 116], .fn 76 [.ipt 1 [.agg [.isl 1 [.s [116, 114, 117, 101], .s [102, 97, 108, 115, 101]]]] 0 0], .nils, .nilf, .i .i64 0,
  .s [78, 97, 109, 101], .fn 41 [], .nils, .nilf, .i .i64 0,
  .s [84, 104, 105, 115], .fn 43 [], .nils, .nilf, .i .i64 0,
  .s [83, 101, 113], .fn 43 [], .nils, .fn 51 [], .i .i64 2,
  .s [68, 101, 99, 108], .fn 41 [], .isl 1 [.fn 61 [.ipt 1 [.agg [.isl 1 [.s [118, 97, 114], .s [108, 101, 116]]]] 0 0], .fn 18 []], .nilf, .i .i64 0,
  .s [65, 115, 115, 105, 103, 110], .fn 43 [], .isl 1 [.fn 52 [], .fn 20 []], .nilf, .i .i64 0,
  .s [68, 111, 116], .fn 41 [], .isl 1 [.fn 20 []], .nilf, .i .i64 0,
  .s [84, 105, 108, 100, 101], .fn 41 [], .isl 1 [.fn 20 []], .nilf, .i .i64 0,
  .s [67, 104, 97, 105, 110], .fn 41 [], .isl 1 [.fn 20 []], .nilf, .i .i64 0,
  .s [67, 97, 108, 108], .fn 43 [], .isl 1 [.fn 20 [], .fn 61 [.ipt 1 [.agg [.isl 1 [.s [], .s [63]]]] 0 0]], .fn 53 [], .i .i64 0,
  .s [78, 97, 109, 101, 100], .fn 41 [], .isl 1 [.fn 20 []], .nilf, .i .i64 0,
  .s [81, 117, 97, 108, 105, 102, 121], .fn 43 [], .isl 1 [.fn 20 []], .fn 18 [], .i .i64 1,
  .s [84, 117, 112, 108, 101], .fn 43 [], .nils, .fn 20 [], .i .i64 2,
  .s [65, 114, 114, 97, 121], .fn 43 [], .isl 1 [.fn 18 []], .fn 20 [], .i .i64 0,
  .s [85, 110, 97, 114, 121], .fn 76 [.ipt 1 [.agg [.isl 1 [.s [110, 111, 116], .s [45]]]] 0 0], .isl 1 [.fn 20 []], .nilf, .i .i64 0,
  .s [66, 105, 110, 97, 114, 121], .fn 76 [.ipt 1 [.agg [.isl 1 [.s [97, 110, 100], .s [111, 114], .s [120, 111, 114], .s [105, 115], .s [105, 115, 110, 116], .s [43], .s [45], .s [42], .s [47], .s [37], .s [43, 63], .s [45, 63], .s [42, 63], .s [47, 63], .s [37, 63], .s [60, 60], .s [62, 62], .s [61, 61], .s [33, 61], .s [60], .s [60, 61], .s [62], .s [62, 61]]]] 0 0], .isl 1 [.fn 20 [], .fn 20 []], .nilf, .i .i64 0,
  .s [65, 115], .fn 43 [], .isl 1 [.fn 20 [], .fn 18 []], .nilf, .i .i64 0,
  .s [67, 111, 110, 115, 117, 109, 101], .fn 43 [], .isl 1 [.fn 20 []], .nilf, .i .i64 0,
  .s [82, 101, 99, 111, 118, 101, 114], .fn 43 [], .isl 1 [.fn 61 [.ipt 1 [.agg [.isl 1 [.s [], .s [105, 115, 111], .s [116, 114, 110], .s [114, 101, 102], .s [118, 97, 108], .s [98, 111, 120], .s [116, 97, 103]]]] 0 0], .fn 20 []], .nilf, .i .i64 0,
  .s [73, 102], .fn 43 [], .isl 1 [.fn 20 [], .fn 20 [], .fn 66 [.ipt 1 [.agg [.fn 20 []]] 0 0]], .nilf, .i .i64 0,
  .s [73, 102, 100, 101, 102], .fn 43 [], .isl 1 [.fn 20 [], .fn 20 [], .fn 66 [.ipt 1 [.agg [.fn 20 []]] 0 0]], .nilf, .i .i64 0,
  .s [87, 104, 105, 108, 101], .fn 43 [], .isl 1 [.fn 20 [], .fn 20 [], .fn 66 [.ipt 1 [.agg [.fn 20 []]] 0 0]], .nilf, .i .i64 0,
  .s [82, 101, 112, 101, 97, 116], .fn 43 [], .isl 1 [.fn 20 [], .fn 20 []], .nilf, .i .i64 0,
  .s [70, 111, 114], .fn 41 [], .isl 1 [.fn 18 [], .fn 20 [], .fn 20 [], .fn 66 [.ipt 1 [.agg [.fn 20 []]] 0 0]], .nilf, .i .i64 0,
  .s [87, 105, 116, 104], .fn 41 [], .isl 1 [.fn 18 [], .fn 20 [], .fn 20 []], .nilf, .i .i64 0,
  .s [77, 97, 116, 99, 104], .fn 43 [], .isl 1 [.fn 20 [], .fn 66 [.ipt 1 [.agg [.fn 20 []]] 0 0]], .fn 71 [.ipt 1 [.agg [.i .i64 48]] 0 0], .i .i64 1,
  .s [67, 97, 115, 101], .fn 43 [], .isl 1 [.fn 20 [], .fn 66 [.ipt 1 [.agg [.fn 20 []]] 0 0], .fn 20 []], .nilf, .i .i64 0,
  .s [84, 114, 121], .fn 43 [], .isl 1 [.fn 20 [], .fn 66 [.ipt 1 [.agg [.fn 20 []]] 0 0], .fn 66 [.ipt 1 [.agg [.fn 20 []]] 0 0]], .nilf, .i .i64 0,
  .s [69, 114, 114, 111, 114], .fn 43 [], .nils, .nilf, .i .i64 0,
  .s [82, 101, 116, 117, 114, 110], .fn 43 [], .isl 1 [.fn 66 [.ipt 1 [.agg [.fn 20 []]] 0 0]], .nilf, .i .i64 0,
  .s [66, 114, 101, 97, 107], .fn 43 [], .nils, .nilf, .i .i64 0,
  .s [67, 111, 110, 116, 105, 110, 117, 101], .fn 43 [], .nils, .nilf, .i .i64 0,
  .s [79, 98, 106, 101, 99, 116], .fn 43 [], .isl 1 [.fn 61 [.ipt 1 [.agg [.isl 1 [.s [], .s [105, 115, 111], .s [116, 114, 110], .s [114, 101, 102], .s [118, 97, 108], .s [98, 111, 120], .s [116, 97, 103]]]] 0 0], .fn 66 [.ipt 1 [.agg [.fn 18 []]] 0 0]], .fn 22 [], .i .i64 0,
  .s [76, 97, 109, 98, 100, 97], .fn 43 [], .isl 1 [.fn 61 [.ipt 1 [.agg [.isl 1 [.s [], .s [105, 115, 111], .s [116, 114, 110], .s [114, 101, 102], .s [118, 97, 108], .s [98, 111, 120], .s [116, 97, 103]]]] 0 0], .fn 71 [.ipt 1 [.agg [.i .i64 10]] 0 0], .fn 66 [.ipt 1 [.agg [.fn 18 []]] 0 0], .fn 61 [.ipt 1 [.agg [.isl 1 [.s [], .s [63]]]] 0 0], .fn 20 []], .fn 71 [.ipt 1 [.agg [.i .i64 56]] 0 0], .i .i64 0,
  .s [67, 97, 112, 116, 117, 114, 101], .fn 41 [], .isl 1 [.fn 18 [], .fn 20 []], .nilf, .i .i64 0]
def kwHeap : Heap := [some { ty := 113, cells := [.s [97, 99, 116, 111, 114], .b true, .s [97, 110, 100], .b true, .s [97, 115], .b true, .s [98, 101], .b true, .s [98, 111, 120], .b true, .s [98, 114, 101, 97, 107], .b true, .s [99, 108, 97, 115, 115], .b true, .s [99, 111, 110, 115, 117, 109, 101], .b true, .s [99, 111, 110, 116, 105, 110, 117, 101], .b true, .s [100, 111], .b true, .s [101, 108, 115, 101], .b true, .s [101, 108, 115, 101, 105, 102], .b true, .s [101, 110, 100], .b true, .s [101, 114, 114, 111, 114], .b true, .s [102, 97, 108, 115, 101], .b true, .s [102, 111, 114], .b true, .s [102, 117, 110], .b true, .s [105, 102], .b true, .s [105, 102, 100, 101, 102], .b true, .s [105, 110], .b true, .s [105, 110, 116, 101, 114, 102, 97, 99, 101], .b true, .s [105, 115], .b true, .s [105, 115, 110, 116], .b true, .s [105, 115, 111], .b true, .s [108, 101, 116], .b true, .s [109, 97, 116, 99, 104], .b true, .s [110, 101, 119], .b true, .s [110, 111, 116], .b true, .s [111, 98, 106, 101, 99, 116], .b true, .s [111, 114], .b true, .s [112, 114, 105, 109, 105, 116, 105, 118, 101], .b true, .s [114, 101, 99, 111, 118, 101, 114], .b true, .s [114, 101, 102], .b true, .s [114, 101, 112, 101, 97, 116], .b true, .s [114, 101, 116, 117, 114, 110], .b true, .s [116, 97, 103], .b true, .s [116, 104, 101, 110], .b true, .s [116, 104, 105, 115], .b true, .s [116, 114, 97, 105, 116], .b true, .s [116, 114, 110], .b true, .s [116, 114, 117, 101], .b true, .s [116, 114, 121], .b true, .s [116, 121, 112, 101], .b true, .s [117, 110, 116, 105, 108], .b true, .s [117, 115, 101], .b true, .s [118, 97, 108], .b true, .s [118, 97, 114], .b true, .s [119, 104, 101, 114, 101], .b true, .s [119, 104, 105, 108, 101], .b true, .s [119, 105, 116, 104], .b true, .s [120, 111, 114], .b true], kind := .map }, some { ty := 9, cells := [.s [97, 99, 116, 111, 114], .s [97, 110, 100], .s [97, 115], .s [98, 101], .s [98, 111, 120], .s [98, 114, 101, 97, 107], .s [99, 108, 97, 115, 115], .s [99, 111, 110, 115, 117, 109, 101], .s [99, 111, 110, 116, 105, 110, 117, 101], .s [100, 111], .s [101, 108, 115, 101], .s [101, 108, 115, 101, 105, 102], .s [101, 110, 100], .s [101, 114, 114, 111, 114], .s [102, 97, 108, 115, 101], .s [102, 111, 114], .s [102, 117, 110], .s [105, 102], .s [105, 102, 100, 101, 102], .s [105, 110], .s [105, 110, 116, 101, 114, 102, 97, 99, 101], .s [105, 115], .s [105, 115, 110, 116], .s [105, 115, 111], .s [108, 101, 116], .s [109, 97, 116, 99, 104], .s [110, 101, 119], .s [110, 111, 116], .s [111, 98, 106, 101, 99, 116], .s [111, 114], .s [112, 114, 105, 109, 105, 116, 105, 118, 101], .s [114, 101, 99, 111, 118, 101, 114], .s [114, 101, 102], .s [114, 101, 112, 101, 97, 116], .s [114, 101, 116, 117, 114, 110], .s [116, 97, 103], .s [116, 104, 101, 110], .s [116, 104, 105, 115], .s [116, 114, 97, 105, 116], .s [116, 114, 110], .s [116, 114, 117, 101], .s [116, 114, 121], .s [116, 121, 112, 101], .s [117, 110, 116, 105, 108], .s [117, 115, 101], .s [118, 97, 108], .s [118, 97, 114], .s [119, 104, 101, 114, 101], .s [119, 104, 105, 108, 101], .s [119, 105, 116, 104], .s [120, 111, 114]], kind := .all }]
def wk : V → V
  | .nils => .isl 1 []
  | v => v
def shCells : List V := shRaw.map wk
theorem wk_rel {M : Mem} {ρ : Ren} (v : V) (x : Value) (h : rel M ρ v x) : rel M ρ (wk v) x := by
  cases v with
  | nils =>
    simp only [rel] at h
    subst h
    simp only [wk, rel]
    exact ⟨none, 0, rfl, Nat.le_refl _, fun h => absurd rfl h⟩
  | _ => exact h
theorem wk_relL {M : Mem} {ρ : Ren} : ∀ (l : List V) (cs : List Value), relL M ρ l cs → relL M ρ (l.map wk) cs
  | [], _, h => h
  | v :: l, cs, h => by
    simp only [relL, List.map_cons] at h ⊢
    obtain ⟨x, r, e, hx, hr⟩ := h
    exact ⟨x, r, e, wk_rel v x hx, wk_relL l r hr⟩
theorem shapes_lit : (match evFun TT (gamOf Con.none) 3000 31 [] [] with | .val v J => fz J 3000 v | _ => none) = some (.agg shRaw) := by kernel_rfl
theorem keywords_lit : evFun TT (gamOf Con.none) 3000 90 [] [] = .val (.mp 0) kwHeap := by kernel_rfl
def spShapes : List V → Heap → OR
  | [], H => .val (.agg shCells) H
  | _, _ => .no
theorem ok15 : SpecOK Tryz.prog TT 31 spShapes := by
  intro vs H r h hne
  unfold spShapes at h
  split at h
  · subst h
    have hl := shapes_lit
    split at hl
    · rename_i v J he
      obtain ⟨h1, h2⟩ := con_of_ev_fz TT_ok TT_plain Con.none_sound he hl rfl
      refine ⟨h1, fun M ρ w args hS hr => Calls.mono (h2 _ M ρ w args hS hr) ?_⟩
      rintro e w' ⟨x, M', ρ', rfl, he2, hx, hk⟩
      refine ⟨x, M', ρ', rfl, he2, ?_, hk⟩
      simp only [rel] at hx ⊢
      obtain ⟨cs, rfl, hc⟩ := hx
      exact ⟨cs, rfl, wk_relL _ _ hc⟩
    · cases hl
  · exact absurd h.symm hne
def spKeywords : List V → Heap → OR
  | [], [] => .val (.mp 0) kwHeap
  | _, _ => .no
theorem ok72 : SpecOK Tryz.prog TT 90 spKeywords := by
  intro vs H r h hne
  unfold spKeywords at h
  split at h
  · subst h
    exact evFun_ok TT_ok Con.none_sound 3000 90 [] [] _ keywords_lit hne
  · exact absurd h.symm hne
theorem mapGet_words (s : List UInt8) : ∀ ws : List (List UInt8), mapGet (some .string) (.s s) ((ws.map fun w => [V.s w, V.b true]).flatten) = some (if ws.contains s then some (.b true) else none)
  | [] => rfl
  | w :: ws => by
    simp only [List.map_cons, List.flatten_cons, List.cons_append, List.nil_append, mapGet, sameKey]
    by_cases h : s = w
    · subst h; simp
    · have ih := mapGet_words s ws
      have h2 : (s == w) = false := beq_eq_false_iff_ne.2 h
      simp [h, h2, ih]
theorem one_le (r : List UInt8) : (1 : Int) ≤ r.length + 1 := by omega
def kwWords : List (List UInt8) := [[97, 99, 116, 111, 114], [97, 110, 100], [97, 115], [98, 101], [98, 111, 120], [98, 114, 101, 97, 107], [99, 108, 97, 115, 115], [99, 111, 110, 115, 117, 109, 101], [99, 111, 110, 116, 105, 110, 117, 101], [100, 111], [101, 108, 115, 101], [101, 108, 115, 101, 105, 102], [101, 110, 100], [101, 114, 114, 111, 114], [102, 97, 108, 115, 101], [102, 111, 114], [102, 117, 110], [105, 102], [105, 102, 100, 101, 102], [105, 110], [105, 110, 116, 101, 114, 102, 97, 99, 101], [105, 115], [105, 115, 110, 116], [105, 115, 111], [108, 101, 116], [109, 97, 116, 99, 104], [110, 101, 119], [110, 111, 116], [111, 98, 106, 101, 99, 116], [111, 114], [112, 114, 105, 109, 105, 116, 105, 118, 101], [114, 101, 99, 111, 118, 101, 114], [114, 101, 102], [114, 101, 112, 101, 97, 116], [114, 101, 116, 117, 114, 110], [116, 97, 103], [116, 104, 101, 110], [116, 104, 105, 115], [116, 114, 97, 105, 116], [116, 114, 110], [116, 114, 117, 101], [116, 114, 121], [116, 121, 112, 101], [117, 110, 116, 105, 108], [117, 115, 101], [118, 97, 108], [118, 97, 114], [119, 104, 101, 114, 101], [119, 104, 105, 108, 101], [119, 105, 116, 104], [120, 111, 114]]
def kw (s : List UInt8) : Bool := kwWords.contains s
theorem kw_lookup (s : List UInt8) : evLookup TT 113 (.mp 0) (.s s) false kwHeap = some (.b (kw s)) := by
  have h1 : mapAt kwHeap 0 = some ⟨113, (kwWords.map fun w => [V.s w, V.b true]).flatten, .map⟩ := rfl
  simp only [evLookup, tU, Tryz.underlying113, h1, tU, Tryz.underlying9, goodKey, if_true, mapGet_words, kw]
  cases kwWords.contains s <;> simp
theorem body_52 {call : CallF} (hC : call.Sound Tryz.prog TT) (s : List UInt8) (n : Int) (hs : ∀ H, call 89 [.s s] H = .val (.i .i64 n) H) (hk : call 90 [] [] = .val (.mp 0) kwHeap) (hlk : evLookup TT 113 (.mp 0) (.s s) false kwHeap = some (.b (kw s)))  : Body Tryz.prog TT 65 [.s s] (.val (.b ((!s.isEmpty) && (n == s.length) && !kw s))) := by
 refine en Tryz.f65 rfl rfl (by simp [Tryz.f65]) 18 rfl fun t hw hg => ?_
 have h0 := hg 0 _ rfl
 clear hg
 try simp only [Nd.enc_eq] at *
 apply rS hC
 · refine oA ?_
   rfl
 apply sQ
 cases hB1 : (!s.isEmpty : Bool)
 case false =>
  apply rN hC
  · iterate 3 refine oA ?_
    iterate 5 refine oC ?_
    iterate 2 refine oA ?_
    iterate 4 refine oC ?_
    iterate 2 refine oA ?_
    rfl
  apply sN
  apply Tri.ret
  simp [Ends, Tryz.f65, h0, hs, hk, hlk, hB1]
 case true =>
  cases hB2 : (n == (s.length : Int) : Bool)
  case false =>
   apply rN hC
   · iterate 3 refine oA ?_
     iterate 5 refine oB ?_
     iterate 2 refine oA ?_
     iterate 4 refine oC ?_
     iterate 2 refine oA ?_
     rfl
   apply sN
   apply Tri.ret
   simp [Ends, Tryz.f65, h0, hs, hk, hlk, hB1, hB2]
  case true =>
   apply rN hC
   · iterate 3 refine oA ?_
     iterate 5 refine oB ?_
     iterate 2 refine oA ?_
     iterate 4 refine oB ?_
     iterate 2 refine oA ?_
     rfl
   apply sN
   apply Tri.ret
   simp [Ends, Tryz.f65, h0, hs, hk, hlk, hB1, hB2]
theorem encL_take (l : List Nd) : (Nd.encL l).take l.length = Nd.encL l := by rw [← Nd.encL_length l, List.take_length]
theorem encL_drop : ∀ (n : Nat) (l : List Nd), (Nd.encL l).drop n = Nd.encL (l.drop n)
  | 0, l => by simp
  | n + 1, [] => by simp [Nd.encL]
  | n + 1, x :: l => by simpa [Nd.encL] using encL_drop n l

theorem shCells_nl : nlL shCells = true := by kernel_rfl

open Go
inductive DK where
  | q | f | a | e
  deriving DecidableEq
def befM (ms : List Nat) (i j : Nat) : Bool := (ms.getD i 0).testBit j
def chkD (ms : List Nat) (ks : List DK) : Bool :=
  (List.range ks.length).all fun i => (List.range ks.length).all fun p => i == p || ks.getD p .q != .e || match ks.getD i .q with
    | .e => befM ms i p == decide (p < i) && befM ms p i == decide (i < p)
    | .f => befM ms i p == decide (p < i) && befM ms p i == decide (i < p)
    | _ => true
section
variable {step : Oper → Env → Heap → OR} {ops : Array Oper} {A : Heap → Prop}
inductive DR (step : Oper → Env → Heap → OR) (ops : Array Oper) (A : Heap → Prop) : List Oper → List DK → Tm → Heap → Tm → Heap → Prop
  | nil {t : Tm} {H : Heap} : DR step ops A [] [] t H t H
  | off {o : Oper} {r : List Oper} {ks : List DK} {k : DK} {t t' : Tm} {H H' : Heap} (hw : wants ops o t.get = some false) (hf : t.fits o.dst = true) (h : DR step ops A r ks (t.put o.dst .un) H t' H') : DR step ops A (o :: r) (k :: ks) t H t' H'
  | blind {o : Oper} {r : List Oper} {ks : List DK} {k : DK} {t t' : Tm} {H H' : Heap} {x : OR} {v : V} (hl : looks o.op = false) (hw : wants ops o t.get = some true) (hs : step o t.get H = x) (hx : x = .val v H) (hf : t.fits o.dst = true) (h : DR step ops A r ks (t.put o.dst v) H t' H') : DR step ops A (o :: r) (k :: ks) t H t' H'
  | fix {o : Oper} {r : List Oper} {ks : List DK} {t t' : Tm} {H H' : Heap} {x : OR} {v : V} (hw : wants ops o t.get = some true) (hs : step o t.get H = x) (hx : x = .val v H) (hf : t.fits o.dst = true) (h : DR step ops A r ks (t.put o.dst v) H t' H') : DR step ops A (o :: r) (.f :: ks) t H t' H'
  | any {o : Oper} {r : List Oper} {ks : List DK} {t t' : Tm} {H H' : Heap} {x : OR} {v : V} (hw : wants ops o t.get = some true) (hs : step o t.get H = x) (hx : x = .val v H) (hf : t.fits o.dst = true) (ha : ∀ K, A K → step o t.get K = .val v K) (h : DR step ops A r ks (t.put o.dst v) H t' H') : DR step ops A (o :: r) (.a :: ks) t H t' H'
  | eff {o : Oper} {r : List Oper} {ks : List DK} {t t' : Tm} {H H1 H' : Heap} {x : OR} {v : V} (he : isEff o.op = true) (hw : wants ops o t.get = some true) (hs : step o t.get H = x) (hx : x = .val v H1) (hf : t.fits o.dst = true) (hA : A H1) (h : DR step ops A r ks (t.put o.dst v) H1 t' H') : DR step ops A (o :: r) (.e :: ks) t H t' H'
theorem effsFrom_succ : ∀ (rs : List Rec) (k : Nat), effsFrom rs (k + 1) = (effsFrom rs k).map (· + 1)
  | [], _ => rfl
  | r :: rs, k => by
    simp only [effsFrom]
    rw [effsFrom_succ rs (k + 1)]
    cases r.e <;> simp
theorem effs_cons (r : Rec) (rs : List Rec) : effs (r :: rs) = if r.e then 0 :: (effs rs).map (· + 1) else (effs rs).map (· + 1) := by
  simp only [effs, effsFrom]
  rw [effsFrom_succ]
theorem effs_at : ∀ {rs : List Rec} {p : Nat}, p ∈ effs rs → ∃ r, rs[p]? = some r ∧ r.e = true
  | [], p, h => by simp [effs, effsFrom] at h
  | r :: rs, p, h => by
    rw [effs_cons] at h
    have key : p ∈ (effs rs).map (· + 1) → ∃ r', (r :: rs)[p]? = some r' ∧ r'.e = true := fun h => by
      obtain ⟨j, hj, rfl⟩ := List.mem_map.1 h
      obtain ⟨r', h1, h2⟩ := effs_at hj
      exact ⟨r', by simpa using h1, h2⟩
    split at h
    · rename_i he
      rcases List.mem_cons.1 h with rfl | h
      · exact ⟨r, rfl, he⟩
      · exact key h
    · exact key h
def cntE (rs : List Rec) (i : Nat) : Nat := ((effs rs).filter fun p => decide (p < i)).length
theorem cntE_zero (rs : List Rec) : cntE rs 0 = 0 := by simp [cntE]
theorem cntE_succ (r : Rec) (rs : List Rec) (i : Nat) : cntE (r :: rs) (i + 1) = (if r.e then 1 else 0) + cntE rs i := by
  have h : ∀ l : List Nat, ((l.map (· + 1)).filter fun p => decide (p < i + 1)).length = (l.filter fun p => decide (p < i)).length := fun l => by
    induction l with
    | nil => rfl
    | cons x l ih =>
      simp only [List.map_cons, List.filter_cons]
      have : (decide (x + 1 < i + 1)) = decide (x < i) := by simp
      rw [this]
      split <;> simp [ih]
  simp only [cntE, effs_cons]
  cases r.e with
  | true =>
    simp only [if_true]
    rw [List.filter_cons]
    simp only [Nat.zero_lt_succ, decide_true, if_true, List.length_cons, h]
    omega
  | false =>
    simp only [Bool.false_eq_true, if_false, h]
    omega
def GoodR (step : Oper → Env → Heap → OR) (A : Heap → Prop) (ks : List DK) (rs : List Rec) (Hs : List Heap) : Prop :=
  ∀ (i : Nat) (r : Rec), rs[i]? = some r → (r.e = true → ks[i]? = some .e) ∧ (r.e = false → looks r.o.op = true → r.w = true →
    (∀ K, A K → step r.o r.t K = .val r.v K) ∨ ((ks[i]? = some .f ∨ ks[i]? = some .e) ∧ ∃ K, Hs[cntE rs i]? = some K ∧ step r.o r.t K = .val r.v K))
theorem GoodR.same {ks : List DK} {k : DK} {rs : List Rec} {Hs : List Heap} {r : Rec} (he : r.e = false) (h : GoodR step A ks rs Hs)
    (hr : looks r.o.op = true → r.w = true → (∀ K, A K → step r.o r.t K = .val r.v K) ∨ ((k = .f ∨ k = .e) ∧ ∃ K, Hs[0]? = some K ∧ step r.o r.t K = .val r.v K)) : GoodR step A (k :: ks) (r :: rs) Hs := by
  intro i r' hi
  cases i with
  | zero =>
    simp only [List.getElem?_cons_zero, Option.some.injEq] at hi
    subst hi
    refine ⟨fun h1 => (by rw [he] at h1; cases h1), fun _ h1 h2 => ?_⟩
    rw [cntE_zero]
    simpa using hr h1 h2
  | succ i =>
    simp only [List.getElem?_cons_succ] at hi ⊢
    have := h i r' hi
    rw [cntE_succ, he]
    simpa using this
theorem DR.run : ∀ {l : List Oper} {ks : List DK} {t t' : Tm} {H H' : Heap}, DR step ops A l ks t H t' H' → A H → ∃ rs Hs, drawRun step ops l t H = some (rs, Hs, t') ∧ Hs.getLast? = some H' ∧ Hs.head? = some H ∧ Hs.length = (effs rs).length + 1 ∧ (∀ K ∈ Hs, A K) ∧ GoodR step A ks rs Hs ∧ rs.length = ks.length
  | _, _, _, _, H, _, .nil, hA => ⟨[], [H], rfl, rfl, rfl, rfl, by simpa using hA, fun i r h => by simp at h, rfl⟩
  | _, _, _, _, H, _, .off (o := o) (r := l) (t := t) (k := k) hw hf h, hA => by
    obtain ⟨rs, Hs, h1, h2, h3, h4, h5, h6, h7⟩ := DR.run h hA
    refine ⟨⟨o, t.get, .un, false, false⟩ :: rs, Hs, ?_, h2, h3, by simpa [effs_cons] using h4, h5, GoodR.same rfl h6 fun _ hw => absurd hw (by simp), by simp [h7]⟩
    simp only [drawRun, hw, putK_eq, hf, if_true, h1]
  | _, _, _, _, H, _, .blind (o := o) (r := l) (t := t) (v := v) hl hw hs hx hf h, hA => by
    obtain ⟨rs, Hs, h1, h2, h3, h4, h5, h6, h7⟩ := DR.run h hA
    subst hx
    exact ⟨⟨o, t.get, v, true, false⟩ :: rs, Hs, drawRun_val hw hs hf h1, h2, h3, by simpa [effs_cons] using h4, h5, GoodR.same rfl h6 fun h8 => absurd (h8.symm.trans hl) (by simp), by simp [h7]⟩
  | _, _, _, _, H, _, .fix (o := o) (r := l) (t := t) (v := v) hw hs hx hf h, hA => by
    obtain ⟨rs, Hs, h1, h2, h3, h4, h5, h6, h7⟩ := DR.run h hA
    subst hx
    refine ⟨⟨o, t.get, v, true, false⟩ :: rs, Hs, drawRun_val hw hs hf h1, h2, h3, by simpa [effs_cons] using h4, h5, GoodR.same rfl h6 fun _ _ => .inr ⟨.inl rfl, H, ?_, hs⟩, by simp [h7]⟩
    rw [← List.head?_eq_getElem?]; exact h3
  | _, _, _, _, H, _, .any (o := o) (r := l) (t := t) (v := v) hw hs hx hf ha h, hA => by
    obtain ⟨rs, Hs, h1, h2, h3, h4, h5, h6, h7⟩ := DR.run h hA
    subst hx
    exact ⟨⟨o, t.get, v, true, false⟩ :: rs, Hs, drawRun_val hw hs hf h1, h2, h3, by simpa [effs_cons] using h4, h5, GoodR.same rfl h6 fun _ _ => .inl ha, by simp [h7]⟩
  | _, _, _, _, H, _, .eff (o := o) (r := l) (t := t) (v := v) (H1 := H1) he hw hs hx hf hA1 h, hA => by
    obtain ⟨rs, Hs, h1, h2, h3, h4, h5, h6, h7⟩ := DR.run h hA1
    subst hx
    cases hb : Heap.beq H1 H with
    | true =>
      have := Heap.beq_eq _ _ hb
      subst this
      refine ⟨⟨o, t.get, v, true, false⟩ :: rs, Hs, drawRun_val hw hs hf h1, h2, h3, by simpa [effs_cons] using h4, h5, GoodR.same rfl h6 fun _ _ => .inr ⟨.inr rfl, H1, ?_, hs⟩, by simp [h7]⟩
      rw [← List.head?_eq_getElem?]; exact h3
    | false =>
      refine ⟨⟨o, t.get, v, true, true⟩ :: rs, H :: Hs, drawRun_eff he hb hw hs hf h1, ?_, rfl, by simp [effs_cons, h4], ?_, ?_, by simp [h7]⟩
      · cases Hs with
        | nil => simp at h2
        | cons K Hs => rw [List.getLast?_cons_cons]; exact h2
      · intro K hK
        rcases List.mem_cons.1 hK with rfl | hK
        · exact hA
        · exact h5 K hK
      · intro i r' hi
        cases i with
        | zero =>
          simp only [List.getElem?_cons_zero, Option.some.injEq] at hi
          subst hi
          exact ⟨fun _ => rfl, fun h8 => by cases h8⟩
        | succ i =>
          simp only [List.getElem?_cons_succ] at hi ⊢
          have h9 := h6 i r' hi
          rw [cntE_succ]
          simp only [if_true]
          rw [Nat.add_comm, List.getElem?_cons_succ]
          exact h9
theorem chkD_at {ms : List Nat} {ks : List DK} (h : chkD ms ks = true) {i p : Nat} (hi : ks[i]? = some .f ∨ ks[i]? = some .e) (hp : ks[p]? = some .e) (hne : i ≠ p) : befM ms i p = decide (p < i) ∧ befM ms p i = decide (i < p) := by
  have hil : i < ks.length := by rcases hi with hi | hi <;> exact (List.getElem?_eq_some_iff.1 hi).1
  have hpl : p < ks.length := (List.getElem?_eq_some_iff.1 hp).1
  have h1 := List.all_eq_true.1 h i (List.mem_range.2 hil)
  have h2 := List.all_eq_true.1 h1 p (List.mem_range.2 hpl)
  have e1 : (i == p) = false := by simpa using hne
  have e2 : ks.getD p .q = .e := by rw [List.getD_eq_getElem?_getD, hp]; rfl
  rcases hi with hi | hi
  · have e3 : ks.getD i .q = .f := by rw [List.getD_eq_getElem?_getD, hi]; rfl
    rw [e1, e2, e3] at h2
    simpa using h2
  · have e3 : ks.getD i .q = .e := by rw [List.getD_eq_getElem?_getD, hi]; rfl
    rw [e1, e2, e3] at h2
    simpa using h2
theorem filter_eq_of {l : List Nat} {f g : Nat → Bool} (h : ∀ p ∈ l, f p = g p) : l.filter f = l.filter g := List.filter_congr h
theorem DR.draw {ks : List DK} {t t' : Tm} {H H' : Heap} (h : DR step ops A ops.toList ks t H t' H') (hA : A H) (hs : (drawStat ops.toList ops (masks ops.toList []) && chkD (masks ops.toList []) ks) = true) : evDraw step ops t H = .norm t' H' := by
  obtain ⟨rs, Hs, h1, h2, h3, h4, h5, h6, h7⟩ := h.run hA
  rw [Bool.and_eq_true] at hs
  obtain ⟨hs, hc⟩ := hs
  have hdyn : drawDyn step (masks ops.toList []) rs Hs = true := by
    rw [drawDyn, List.all_eq_true]
    intro i hi
    rw [List.mem_range] at hi
    have hri : rs[i]? = some rs[i] := List.getElem?_eq_getElem hi
    obtain ⟨g1, g2⟩ := h6 i _ hri
    simp only [hri]
    cases he : rs[i].e with
    | true =>
      simp only [if_true, List.all_eq_true, decide_eq_true_eq]
      intro p hp
      obtain ⟨rp, k1, k2⟩ := effs_at hp
      have k3 := (h6 p rp k1).1 k2
      by_cases hip : i = p
      · left; omega
      · have := (chkD_at hc (.inr (g1 he)) k3 hip).2
        simp only [befM] at this
        rw [this]
        simp only [decide_eq_true_eq]
        omega
    | false =>
      simp only [Bool.false_eq_true, if_false]
      by_cases hl : (looks rs[i].o.op && rs[i].w) = true
      · rw [Bool.and_eq_true] at hl
        have key : ∀ q, ((effs rs).filter fun p => ((masks ops.toList []).getD i 0).testBit p).length ≤ q → q ≤ ((effs rs).filter fun p => !((masks ops.toList []).getD p 0).testBit i).length → ∃ K, Hs[q]? = some K ∧ step rs[i].o rs[i].t K = .val rs[i].v K := by
          intro q q1 q2
          rcases g2 he hl.1 hl.2 with ha | ⟨hk, K, k1, k2⟩
          · have : q < Hs.length := by
              have := List.length_filter_le (fun p => !((masks ops.toList []).getD p 0).testBit i) (effs rs)
              omega
            exact ⟨Hs[q], List.getElem?_eq_getElem this, ha _ (h5 _ (List.getElem_mem this))⟩
          · have hne : ∀ p ∈ effs rs, i ≠ p := fun p hp hip => by
              obtain ⟨rp, k3, k4⟩ := effs_at hp
              subst hip
              rw [hri] at k3
              cases k3
              rw [he] at k4
              cases k4
            have e1 : (effs rs).filter (fun p => ((masks ops.toList []).getD i 0).testBit p) = (effs rs).filter fun p => decide (p < i) := filter_eq_of fun p hp => by
              obtain ⟨rp, k3, k4⟩ := effs_at hp
              exact (chkD_at hc hk ((h6 p rp k3).1 k4) (hne p hp)).1
            have e2 : (effs rs).filter (fun p => !((masks ops.toList []).getD p 0).testBit i) = (effs rs).filter fun p => decide (p < i) := filter_eq_of fun p hp => by
              obtain ⟨rp, k3, k4⟩ := effs_at hp
              have := (chkD_at hc hk ((h6 p rp k3).1 k4) (hne p hp)).2
              simp only [befM] at this
              rw [this]
              have := hne p hp
              by_cases hlt : i < p
              · have : ¬ p < i := by omega
                simp [hlt, this]
              · have : p < i := by omega
                simp [hlt, this]
            rw [e1] at q1
            rw [e2] at q2
            have : q = cntE rs i := Nat.le_antisymm q2 q1
            subst this
            exact ⟨K, k1, k2⟩
        rw [hl.1, hl.2]
        simp only [Bool.and_self, Bool.not_true, Bool.false_or, List.all_eq_true]
        intro q _
        by_cases hq : ((effs rs).filter fun p => ((masks ops.toList []).getD i 0).testBit p).length ≤ q ∧ q ≤ ((effs rs).filter fun p => !((masks ops.toList []).getD p 0).testBit i).length
        · obtain ⟨K, k1, k2⟩ := key q hq.1 hq.2
          simp only [k1, k2, sameOR, V.beq_refl, Heap.beq_refl, Bool.and_self, Bool.or_true]
        · have : (decide (((effs rs).filter fun p => ((masks ops.toList []).getD i 0).testBit p).length ≤ q) && decide (q ≤ ((effs rs).filter fun p => !((masks ops.toList []).getD p 0).testBit i).length)) = false := by
            rw [Bool.and_eq_false_iff, decide_eq_false_iff_not, decide_eq_false_iff_not]
            omega
          rw [this]
          rfl
      · have : (looks rs[i].o.op && rs[i].w) = false := by simpa using hl
        rw [this]
        rfl
  simp only [evDraw, h1, hs, hdyn, Bool.or_true, Bool.and_self, if_true, h2]
end
def letR (c : Int) : Bool := (decide (97 ≤ c) && decide (c ≤ 122)) || (decide (65 ≤ c) && decide (c ≤ 90))
def digN (c : Int) : Int := if 48 ≤ c ∧ c ≤ 57 then c - 48 else if 97 ≤ c ∧ c ≤ 102 then c - 87 else if 65 ≤ c ∧ c ≤ 70 then c - 55 else -1
def digR (c base : Int) : Int := if base ≤ digN c then -1 else digN c
def worR (c : Int) : Bool := letR c || decide (0 ≤ digR c 10) || (c == 95)
theorem tab1141 : ((List.range 256).all fun c => match evFun TT (gamOf Con.none) 3000 141 [.i .u8 c] [] with | .val (.b b) _ => b == letR c | _ => false) = true := by kernel_rfl
theorem tab1143 : ((List.range 256).all fun c => match evFun TT (gamOf Con.none) 3000 143 [.i .u8 c] [] with | .val (.b b) _ => b == worR c | _ => false) = true := by kernel_rfl
theorem tab1145 : ([2, 10, 16].all fun base => (List.range 256).all fun c => match evFun TT (gamOf Con.none) 3000 145 [.i .u8 c, .i .i64 base] [] with | .val (.i .i64 n) _ => n == digR c base | _ => false) = true := by kernel_rfl
theorem spec_con {P : Program} {T : Tab} (hT : TOk P T) (hp : T.Plain) (F : FuncId) (D : List V → Prop) (r : List V → Res) (h : ∀ vs, D vs → nlL vs = true ∧ (r vs).nl = true ∧ ∃ n J, evFun T (gamOf Con.none) n F vs [] = (r vs).at J) :
    ∃ g, SpecOK P T F g ∧ ∀ vs, D vs → ∀ H, g vs H = (r vs).at H := by
  classical
  refine ⟨fun vs H => if D vs then (r vs).at H else .no, fun vs H x hx hne => ?_, fun vs hd H => if_pos hd⟩
  simp only at hx
  split at hx
  · rename_i hd
    subst hx
    obtain ⟨h1, h2, n, J, h3⟩ := h vs hd
    obtain ⟨k1, k2⟩ := con_of_ev hT hp Con.none_sound h3 h1 h2
    exact ⟨k1, k2 H⟩
  · exact absurd hx.symm hne
theorem range_at {p : Nat → Bool} {n : Nat} (h : (List.range n).all p = true) {c : Int} (h0 : 0 ≤ c) (h1 : c < n) : ∃ k : Nat, c = k ∧ p k = true :=
  ⟨c.toNat, by omega, List.all_eq_true.1 h _ (List.mem_range.2 (by omega))⟩
theorem sp1141 : ∃ g, SpecOK Tryz.prog TT 141 g ∧ ∀ c : Int, 0 ≤ c → c < 256 → ∀ H, g [.i .u8 c] H = .val (.b (letR c)) H := by
  obtain ⟨g, k, s⟩ := spec_con TT_ok TT_plain 141 (fun vs => ∃ c : Int, 0 ≤ c ∧ c < 256 ∧ vs = [.i .u8 c]) (fun vs => match vs with | [.i .u8 c] => .val (.b (letR c)) | _ => .val .un) (by
    rintro vs ⟨c, h0, h1, rfl⟩
    refine ⟨rfl, rfl, 3000, ?_⟩
    obtain ⟨k, rfl, hk⟩ := range_at tab1141 h0 h1
    split at hk
    · rename_i b J he
      exact ⟨J, by rw [he, eq_of_beq hk]; rfl⟩
    · cases hk)
  exact ⟨g, k, fun c h0 h1 H => s _ ⟨c, h0, h1, rfl⟩ H⟩
theorem sp1143 : ∃ g, SpecOK Tryz.prog TT 143 g ∧ ∀ c : Int, 0 ≤ c → c < 256 → ∀ H, g [.i .u8 c] H = .val (.b (worR c)) H := by
  obtain ⟨g, k, s⟩ := spec_con TT_ok TT_plain 143 (fun vs => ∃ c : Int, 0 ≤ c ∧ c < 256 ∧ vs = [.i .u8 c]) (fun vs => match vs with | [.i .u8 c] => .val (.b (worR c)) | _ => .val .un) (by
    rintro vs ⟨c, h0, h1, rfl⟩
    refine ⟨rfl, rfl, 3000, ?_⟩
    obtain ⟨k, rfl, hk⟩ := range_at tab1143 h0 h1
    split at hk
    · rename_i b J he
      exact ⟨J, by rw [he, eq_of_beq hk]; rfl⟩
    · cases hk)
  exact ⟨g, k, fun c h0 h1 H => s _ ⟨c, h0, h1, rfl⟩ H⟩
theorem sp1145 : ∃ g, SpecOK Tryz.prog TT 145 g ∧ ∀ c base : Int, 0 ≤ c → c < 256 → base = 2 ∨ base = 10 ∨ base = 16 → ∀ H, g [.i .u8 c, .i .i64 base] H = .val (.i .i64 (digR c base)) H := by
  obtain ⟨g, k, s⟩ := spec_con TT_ok TT_plain 145 (fun vs => ∃ c base : Int, 0 ≤ c ∧ c < 256 ∧ (base = 2 ∨ base = 10 ∨ base = 16) ∧ vs = [.i .u8 c, .i .i64 base]) (fun vs => match vs with | [.i .u8 c, .i .i64 base] => .val (.i .i64 (digR c base)) | _ => .val .un) (by
    rintro vs ⟨c, base, h0, h1, hb, rfl⟩
    refine ⟨rfl, rfl, 3000, ?_⟩
    have hm : base ∈ [2, 10, 16] := by rcases hb with rfl | rfl | rfl <;> simp
    obtain ⟨k, rfl, hk⟩ := range_at (List.all_eq_true.1 tab1145 base hm) h0 h1
    split at hk
    · rename_i b J he
      exact ⟨J, by rw [he, eq_of_beq hk]; rfl⟩
    · cases hk)
  exact ⟨g, k, fun c base h0 h1 hb H => s _ ⟨c, base, h0, h1, hb, rfl⟩ H⟩
theorem u8_lt (b : UInt8) : (b.toNat : Int) < 256 := by have := b.toNat_lt; omega
def atR (s : List UInt8) (i : Nat) : Int := match s[i]? with
  | some b => b.toNat
  | none => 0
theorem atR_range (s : List UInt8) (i : Nat) : 0 ≤ atR s i ∧ atR s i < 256 := by
  unfold atR
  split
  · rename_i b _
    have := u8_lt b
    omega
  · omega
def begR (s : List UInt8) (i : Nat) (t : List UInt8) : Bool := decide (i + t.length ≤ s.length) && ((s.take (i + t.length)).drop i == t)
theorem body_1142a {call : CallF} (hC : call.Sound Tryz.prog TT) (s : List UInt8) (i : Nat) (b : UInt8) (hi : (i : Int) < s.length) (hi2 : i < s.length) (hb : s[i]? = some b) (hb2 : ∀ h, s[i]'h = b)  : Body Tryz.prog TT 142 [.s s, .i .i64 i] (.val (.i .u8 b.toNat)) := by
 refine en Tryz.f142 rfl rfl (by simp [Tryz.f142]) 12 rfl fun t hw hg => ?_
 have h0 := hg 0 _ rfl
 have h1 := hg 1 _ rfl
 clear hg
 try simp only [Nd.enc_eq] at *
 have hF := ai @h0 (ai @h1 (ai @hi (ai @hi2 (ai @hb @hb2))))
 apply rS hC
 · refine oA ?_
   rfl
 apply sQ
 apply rS hC
 · iterate 4 refine oA ?_
   rfl
 refine cT (by simp [hF] <;> rfl) ?_
 apply rS hC
 · iterate 4 refine oA ?_
   rfl
 apply Tri.ret
 apply sR
 simp [Ends, Tryz.f142, hF]
theorem body_1142b {call : CallF} (hC : call.Sound Tryz.prog TT) (s : List UInt8) (i : Nat) (hi : ¬ (i : Int) < s.length)  : Body Tryz.prog TT 142 [.s s, .i .i64 i] (.val (.i .u8 0)) := by
 refine en Tryz.f142 rfl rfl (by simp [Tryz.f142]) 12 rfl fun t hw hg => ?_
 have h0 := hg 0 _ rfl
 have h1 := hg 1 _ rfl
 clear hg
 try simp only [Nd.enc_eq] at *
 have hF := ai @h0 (ai @h1 @hi)
 apply rS hC
 · refine oA ?_
   rfl
 apply sQ
 apply rS hC
 · iterate 4 refine oA ?_
   rfl
 refine cF (by simp [hF] <;> rfl) ?_
 apply Tri.skip
 apply sN
 apply rS hC
 · refine oA ?_
   rfl
 apply Tri.ret
 simp [Ends, Tryz.f142, hF]
theorem body_1144b {call : CallF} (hC : call.Sound Tryz.prog TT) (s t0 : List UInt8) (i : Nat) (hw1 : IntKind.i64.wrap ((i : Int) + t0.length) = (i : Int) + t0.length) (hi : ¬ (i : Int) + t0.length ≤ s.length)  : Body Tryz.prog TT 144 [.s s, .i .i64 i, .s t0] (.val (.b false)) := by
 refine en Tryz.f144 rfl rfl (by simp [Tryz.f144]) 25 rfl fun t hw hg => ?_
 have h0 := hg 0 _ rfl
 have h1 := hg 1 _ rfl
 have h2 := hg 2 _ rfl
 clear hg
 try simp only [Nd.enc_eq] at *
 have hF := ai @h0 (ai @h1 (ai @h2 (ai @hw1 @hi)))
 apply rS hC
 · refine oA ?_
   rfl
 apply rS hC
 · iterate 8 refine oA ?_
   iterate 9 refine oC ?_
   iterate 2 refine oA ?_
   rfl
 apply Tri.ret
 simp [Ends, Tryz.f144, hF]
theorem body_1144a {call : CallF} (hC : call.Sound Tryz.prog TT) (s t0 : List UInt8) (i : Nat) (hw1 : IntKind.i64.wrap ((i : Int) + t0.length) = (i : Int) + t0.length) (hi : (i : Int) + t0.length ≤ s.length) (hi2 : (0 : Int) ≤ (i : Int) + t0.length) (hi3 : (i : Int) ≤ (i : Int) + t0.length) (hi4 : i ≤ i + t0.length) (hn : ((i : Int) + t0.length).toNat = i + t0.length)  : Body Tryz.prog TT 144 [.s s, .i .i64 i, .s t0] (.val (.b ((s.take (i + t0.length)).drop i == t0))) := by
 refine en Tryz.f144 rfl rfl (by simp [Tryz.f144]) 25 rfl fun t hw hg => ?_
 have h0 := hg 0 _ rfl
 have h1 := hg 1 _ rfl
 have h2 := hg 2 _ rfl
 clear hg
 try simp only [Nd.enc_eq] at *
 have hF := ai @h0 (ai @h1 (ai @h2 (ai @hw1 (ai @hi (ai @hi2 (ai @hi3 (ai @hi4 @hn)))))))
 apply rS hC
 · refine oA ?_
   rfl
 apply rS hC
 · iterate 8 refine oA ?_
   iterate 9 refine oB ?_
   iterate 2 refine oA ?_
   rfl
 apply Tri.ret
 simp [Ends, Tryz.f144, hF]
end Go.Ev
