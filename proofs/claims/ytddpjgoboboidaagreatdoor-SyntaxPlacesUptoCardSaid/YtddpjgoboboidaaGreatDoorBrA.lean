/- What reads as a node is a tree, what reads as a row of numbers is one; the world as the row lists it is one of the evaluator. -/
import Derived.Test.YtddpjgoboboidaaGreatDoorSq
import Derived.Test.YtddpjgoboboidaaGreatDoorAtW
import Derived.Test.YtddpjgoboboidaaGreatDoorRows
import Derived.ChangeArms
import Derived.ChangeSame
import Derived.ChangeReads
import Derived.ReadAgain
import Derived.Deep.Strs
import Derived.Lib.LaidTab
import Derived.Lib.LaidU8T
import Derived.Test.YtddpjgoboboidaaGreatDoorShf
import Derived.MakeChecks
namespace Go.Ev
open Go Go.Proofs
open Go.Proofs.YtddpjgoboboidaaGreatDoor (Rows.uptoBulk Rows.uptoBulkAll)
set_option maxRecDepth 100000
set_option linter.unusedVariables false
mutual
/-- How many bytes the texts have. -/
def Nd.tl : Nd → Nat
  | .mk _ s l => s.length + Nd.tlL l
def Nd.tlL : List Nd → Nat
  | [] => 0
  | x :: l => x.tl + Nd.tlL l
end
/-- The memory of a world, all of it frozen. -/
def memOf (W : World) : Mem := fun b => W.heap[b]?
theorem cell_memOf {W : World} {b o : Nat} {v : Value} (h : W.cell? ⟨b, o, none⟩ = some v) : (memOf W).cell b o = some v := by
  unfold World.cell? at h
  unfold Mem.cell memOf
  simp only at h ⊢
  split at h
  · rename_i c t f hb
    rw [hb]
    simpa using h
  · cases h
theorem addr_add (b o n : Nat) : Addr.add ⟨b, o, none⟩ n = ⟨b, o + n, none⟩ := by
  unfold Addr.add
  split
  · rename_i h; subst h; rfl
  · rfl
theorem spot_none {W : World} {a : Addr} {v : Value} (h : W.cell? a = some v) : a.spot = none := by
  unfold World.cell? at h
  split at h
  · split at h
    · cases h
    · rename_i hs; cases hh : a.spot with
      | none => rfl
      | some _ => rw [hh] at hs; simp at hs
  · cases h
section
variable {H : Type} {enc : TypeId × Value → H} {W : World} {sp : Nat → Bool}
theorem cells3 {a : Addr} {cs : List Value} (h : W.cells? 0 a 3 = some cs) : ∃ v0 v1 v2, cs = [v0, v1, v2] ∧ W.cell? (a.add 0) = some v0 ∧ W.cell? (a.add 1) = some v1 ∧ W.cell? (a.add 2) = some v2 := by
  unfold World.cells? at h
  rw [if_pos (Nat.zero_le _)] at h
  simp only [List.range, List.range.loop, List.mapM_cons, List.mapM_nil, Option.pure_def, Option.bind_eq_bind, Option.bind_eq_some_iff, Option.some.injEq] at h
  obtain ⟨v0, h0, r0, ⟨v1, h1, r1, ⟨v2, h2, r2, hr2, rfl⟩, rfl⟩, rfl⟩ := h
  subst hr2
  exact ⟨v0, v1, v2, rfl, h0, h1, h2⟩
/-- What reads as a node is a tree. -/
theorem nd_of_trod : ∀ (fuel : Nat) (cs : List Value) (x : DataW H × List MemPlace), DataW.trod enc Tryz.prog W 0 sp true fuel 24 cs = some x →
    ∃ y : Nd, relL (memOf W) [] [.i .i64 y.kind, .s y.text, .isl 3 (Nd.encL y.kids)] cs ∧ y.num + y.tl ≤ Rows.uptoBulk x.1 := by
  intro fuel
  induction fuel using Nat.strongRecOn with
  | _ fuel ih =>
    intro cs x h
    obtain ⟨xs, n, rfl, rfl, hl, hlen, hf⟩ := DataW.trod_struct Tryz.underlying24 h
    have c24 : Tryz.prog.cellsOf 24 = 3 := by kernel_rfl
    have c3 : Tryz.prog.cellsOf 3 = 1 := by kernel_rfl
    have c9 : Tryz.prog.cellsOf 9 = 1 := by kernel_rfl
    have c22 : Tryz.prog.cellsOf 22 = 1 := by kernel_rfl
    match xs, hlen with
    | [y0, y1, y2], _ =>
      have f0 := hf 0 _ rfl
      have f1 := hf 1 _ rfl
      have f2 := hf 2 _ rfl
      rw [c24] at hl
      match cs, hl with
      | [v0, v1, v2], _ =>
        have f0 : DataW.trod enc Tryz.prog W 0 sp true n 3 [v0] = some y0 := by simpa [c3] using f0
        have f1 : DataW.trod enc Tryz.prog W 0 sp true n 9 [v1] = some y1 := by simpa [c9] using f1
        have f2 : DataW.trod enc Tryz.prog W 0 sp true n 22 [v2] = some y2 := by simpa [c22] using f2
        obtain ⟨k, e0, hy0, _⟩ := DataW.trod_int Tryz.underlying3 f0
        obtain ⟨s, e1, hy1, _⟩ := DataW.trod_string Tryz.underlying9 f1
        simp only [List.cons.injEq, and_true] at e0 e1
        subst e0 e1
        subst hy0 hy1
        have hs : ∃ l : List UInt8, s = ⟨l.toArray⟩ := ⟨s.data.toList, by cases s; simp⟩
        obtain ⟨l, rfl⟩ := hs
        rcases DataW.trod_slice Tryz.underlying22 f2 with ⟨e2, hy2⟩ | ⟨a, len, cap, elems, rest, m, hm, e2, hy2, hb0, hlc, hcap, hel, hat, _, _⟩
        · cases e2
          subst hy2
          refine ⟨.mk k l [], ?_, ?_⟩
          · refine relL_cons (by simp only [rel, Nd.kind]) (relL_cons (by simp only [rel, Nd.text]) (relL_cons ?_ (by simp only [relL])))
            simp only [rel, Nd.kids, Nd.encL]
            exact ⟨none, 0, rfl, Nat.le_refl _, fun h => absurd rfl h⟩
          · simp [Nd.num, Nd.numL, Nd.tl, Nd.tlL, Rows.uptoBulk, Rows.uptoBulkAll]; omega
        · cases e2
          cases hm
          subst hy2
          rw [c24] at hat
          -- the kids
          have kids : ∀ (es : List (DataW H × List MemPlace)) (b o i0 : Nat), (∀ j, j < es.length → (W.cells? 0 (Addr.add ⟨b, o, none⟩ ((i0 + j) * 3)) 3).bind (DataW.trod enc Tryz.prog W 0 sp true m 24) = es[j]?) →
              ∃ ys : List Nd, ys.length = es.length ∧ relRow (memOf W) [] 3 (Nd.encL ys) b (o + i0 * 3) ∧ Nd.numL ys + Nd.tlL ys ≤ Rows.uptoBulkAll (es.map (·.1)) := by
            intro es
            induction es with
            | nil => intro b o i0 _; exact ⟨[], rfl, by simp only [Nd.encL, relRow], by simp [Nd.numL, Nd.tlL]⟩
            | cons e es ihs =>
              intro b o i0 hh
              have h0 := hh 0 (by simp)
              simp only [List.getElem?_cons_zero, Option.bind_eq_some_iff] at h0
              obtain ⟨c, hc, ht⟩ := h0
              obtain ⟨z, hz, hzb⟩ := ih m (by omega) c e ht
              obtain ⟨ys, hyl, hyr, hyb⟩ := ihs b o (i0 + 1) (fun j hj => by
                have := hh (j + 1) (by simp; omega)
                rw [show i0 + (j + 1) = i0 + 1 + j from by omega] at this
                simpa using this)
              obtain ⟨w0, w1, w2, rfl, g0, g1, g2⟩ := cells3 hc
              simp only [Nat.add_zero, addr_add] at g0 g1 g2
              refine ⟨z :: ys, by simp [hyl], ?_, ?_⟩
              · simp only [Nd.encL, relRow]
                refine ⟨⟨.agg #[w0, w1, w2], ?_, rfl, fun j q hj => ?_⟩, ?_⟩
                · rw [Nd.enc_eq]
                  simp only [rel]
                  exact ⟨[w0, w1, w2], rfl, hz⟩
                · match j, hj with
                  | 0, hj => simp [Value.cells] at hj; subst hj; exact cell_memOf (by simpa using g0)
                  | 1, hj => simp [Value.cells] at hj; subst hj; exact cell_memOf g1
                  | 2, hj => simp [Value.cells] at hj; subst hj; exact cell_memOf g2
                  | j + 3, hj => simp [Value.cells] at hj
                · rw [show o + i0 * 3 + 3 = o + (i0 + 1) * 3 from by omega]
                  exact hyr
              · simp only [Nd.numL, Nd.tlL, List.map_cons, Rows.uptoBulkAll]; omega
          by_cases h0 : elems.length = 0
          · have : elems = [] := List.eq_nil_of_length_eq_zero h0
            subst this
            refine ⟨.mk k l [], ?_, ?_⟩
            · refine relL_cons (by simp only [rel, Nd.kind]) (relL_cons (by simp only [rel, Nd.text]) (relL_cons ?_ (by simp only [relL])))
              simp only [rel, Nd.kids, Nd.encL]
              simp only [List.length_nil] at hel
              subst hel
              exact ⟨some a, cap, rfl, Nat.zero_le _, fun h => absurd rfl h⟩
            · simp [Nd.num, Nd.numL, Nd.tl, Nd.tlL, Rows.uptoBulk, Rows.uptoBulkAll]; omega
          · have hsp : a.spot = none := by
              have := hat 0 (by omega)
              obtain ⟨e, he⟩ : ∃ e, elems[0]? = some e := ⟨elems[0], List.getElem?_eq_getElem (by omega)⟩
              rw [he] at this
              simp only [Option.bind_eq_some_iff] at this
              obtain ⟨c, hc, _⟩ := this
              obtain ⟨w0, _, _, _, g0, _, _⟩ := cells3 hc
              have := spot_none g0
              simpa [Addr.add] using this
            obtain ⟨b, o, s⟩ := a
            simp only at hsp
            subst hsp
            obtain ⟨ys, hyl, hyr, hyb⟩ := kids elems b o 0 (fun j hj => by rw [Nat.zero_add]; exact hat j (by omega))
            refine ⟨.mk k l ys, ?_, ?_⟩
            · refine relL_cons (by simp only [rel, Nd.kind]) (relL_cons (by simp only [rel, Nd.text]) (relL_cons ?_ (by simp only [relL])))
              simp only [rel, Nd.kids]
              rw [Nd.encL_length, hyl, hel]
              refine ⟨some ⟨b, o, none⟩, cap, rfl, hlc, fun _ => ⟨b, o, rfl, ?_⟩⟩
              simpa using hyr
            · simp only [Nd.num, Nd.tl, List.map_cons, List.map_nil, Rows.uptoBulk, Rows.uptoBulkAll]
              have : (⟨l.toArray⟩ : ByteArray).data.toList.length = l.length := by simp
              omega
theorem cells1 {a : Addr} {cs : List Value} (h : W.cells? 0 a 1 = some cs) : ∃ v0, cs = [v0] ∧ W.cell? (a.add 0) = some v0 := by
  unfold World.cells? at h
  rw [if_pos (Nat.zero_le _)] at h
  simp only [List.range, List.range.loop, List.mapM_cons, List.mapM_nil, Option.pure_def, Option.bind_eq_bind, Option.bind_eq_some_iff, Option.some.injEq] at h
  obtain ⟨v0, h0, r0, rfl, rfl⟩ := h
  exact ⟨v0, rfl, h0⟩
/-- What reads as a row of numbers is one. -/
theorem ints_of_trod (fuel : Nat) (v : Value) (x : DataW H × List MemPlace) (h : DataW.trod enc Tryz.prog W 0 sp true fuel 25 [v] = some x) :
    ∃ p : List Int, rel (memOf W) [] (.isl 1 (encI p)) v ∧ p.length ≤ Rows.uptoBulk x.1 := by
  have c3 : Tryz.prog.cellsOf 3 = 1 := by kernel_rfl
  rcases DataW.trod_slice Tryz.underlying25 h with ⟨e2, hy2⟩ | ⟨a, len, cap, elems, rest, m, hm, e2, hy2, hb0, hlc, hcap, hel, hat, _, _⟩
  · cases e2
    subst hy2
    refine ⟨[], ?_, Nat.zero_le _⟩
    simp only [rel, encI, List.map_nil]
    exact ⟨none, 0, rfl, Nat.le_refl _, fun h => absurd rfl h⟩
  · cases e2
    subst hy2
    rw [c3] at hat
    have kids : ∀ (es : List (DataW H × List MemPlace)) (b o i0 : Nat), (∀ j, j < es.length → (W.cells? 0 (Addr.add ⟨b, o, none⟩ ((i0 + j) * 1)) 1).bind (DataW.trod enc Tryz.prog W 0 sp true m 3) = es[j]?) →
        ∃ ys : List Int, ys.length = es.length ∧ relRow (memOf W) [] 1 (encI ys) b (o + i0) ∧ ys.length ≤ Rows.uptoBulkAll (es.map (·.1)) := by
      intro es
      induction es with
      | nil => intro b o i0 _; exact ⟨[], rfl, by simp only [encI, List.map_nil, relRow], by simp⟩
      | cons e es ihs =>
        intro b o i0 hh
        have h0 := hh 0 (by simp)
        simp only [List.getElem?_cons_zero, Option.bind_eq_some_iff] at h0
        obtain ⟨c, hc, ht⟩ := h0
        obtain ⟨ys, hyl, hyr, hyb⟩ := ihs b o (i0 + 1) (fun j hj => by
          have := hh (j + 1) (by simp; omega)
          rw [show i0 + (j + 1) = i0 + 1 + j from by omega] at this
          simpa using this)
        obtain ⟨w0, rfl, g0⟩ := cells1 hc
        obtain ⟨k, e0, hy0, _⟩ := DataW.trod_int Tryz.underlying3 ht
        simp only [List.cons.injEq, and_true] at e0
        subst e0
        simp only [Nat.add_zero, Nat.mul_one, addr_add] at g0
        refine ⟨k :: ys, by simp [hyl], ?_, ?_⟩
        · simp only [encI, List.map_cons, relRow]
          refine ⟨⟨.int .i64 k, by simp only [rel], rfl, fun j q hj => ?_⟩, by simpa [encI, Nat.add_assoc] using hyr⟩
          match j, hj with
          | 0, hj => simp [Value.cells] at hj; subst hj; exact cell_memOf (by simpa using g0)
          | j + 1, hj => simp [Value.cells] at hj
        · simp only [List.length_cons, List.map_cons, Rows.uptoBulkAll]
          have : 1 ≤ Rows.uptoBulk e.1 := by rw [hy0]; simp [Rows.uptoBulk]
          omega
    by_cases h0 : elems.length = 0
    · have : elems = [] := List.eq_nil_of_length_eq_zero h0
      subst this
      refine ⟨[], ?_, Nat.zero_le _⟩
      simp only [rel, encI, List.map_nil]
      simp only [List.length_nil] at hel
      subst hel
      exact ⟨some a, cap, rfl, Nat.zero_le _, fun h => absurd rfl h⟩
    · have hsp : a.spot = none := by
        have := hat 0 (by omega)
        obtain ⟨e, he⟩ : ∃ e, elems[0]? = some e := ⟨elems[0], List.getElem?_eq_getElem (by omega)⟩
        rw [he] at this
        simp only [Option.bind_eq_some_iff] at this
        obtain ⟨c, hc, _⟩ := this
        obtain ⟨w0, _, g0⟩ := cells1 hc
        have := spot_none g0
        simpa [Addr.add] using this
      obtain ⟨b, o, s⟩ := a
      simp only at hsp
      subst hsp
      obtain ⟨ys, hyl, hyr, hyb⟩ := kids elems b o 0 (fun j hj => by rw [Nat.zero_add]; exact hat j (by omega))
      refine ⟨ys, ?_, ?_⟩
      · simp only [rel]
        rw [encI_length, hyl, hel]
        refine ⟨some ⟨b, o, none⟩, cap, rfl, hlc, fun _ => ⟨b, o, rfl, ?_⟩⟩
        simpa using hyr
      · simp only [Rows.uptoBulk]
        omega
end
end Go.Ev

namespace Go.Ev
open Go Go.Proofs
open Go.Lib (VarReads LaidVars_reads acceptData firstData)
set_option maxRecDepth 100000
set_option linter.unusedVariables false
theorem relL_of_at {M : Mem} {ρ : Ren} : ∀ (l : List V) (cs : List Value), cs.length = l.length → (∀ (i : Nat) v x, l[i]? = some v → cs[i]? = some x → rel M ρ v x) → relL M ρ l cs
  | [], [], _, _ => by simp only [relL]
  | [], _ :: _, h, _ => by simp at h
  | _ :: _, [], h, _ => by simp at h
  | v :: l, x :: cs, h, k => relL_cons (k 0 v x rfl rfl) (relL_of_at l cs (by simpa using h) fun i v' x' h1 h2 => k (i + 1) v' x' (by simpa using h1) (by simpa using h2))
/-- A variable's cells. -/
theorem glob_of {W : World} {name : String} {g : Nat} {cs : Array Value} {l : List V} (hg : Tryz.prog.globalNamed name = some g) (hv : W.var? Tryz.prog name = some cs) (hl : cs.size = l.length)
    (h : ∀ (i : Nat) v, l[i]? = some v → ∃ x, W.cell? ⟨g, i, none⟩ = some x ∧ rel (memOf W) [] v x) :
    ∃ (cs' : List Value) (ty : TypeId) (fr : Nat × Nat), memOf W g = some (.cells cs'.toArray ty fr) ∧ relL (memOf W) [] l cs' := by
  unfold World.var? at hv
  rw [hg] at hv
  simp only [Option.bind_some] at hv
  split at hv
  · rename_i c ty fr hb
    cases hv
    refine ⟨cs.toList, ty, fr, by simpa [memOf] using hb, relL_of_at _ _ (by simpa using hl) fun i v x h1 h2 => ?_⟩
    obtain ⟨y, hy, hr⟩ := h i v h1
    have : W.cell? ⟨g, i, none⟩ = cs[i]? := by simp [World.cell?, hb]
    rw [this] at hy
    rw [Array.getElem?_toList] at h2
    rw [h2] at hy
    cases hy
    exact hr
  · cases hv
theorem u8x : U8Extra Tryz.prog Tryz.lays196_ren where
  n3 := by kernel_rfl
  n4 := by kernel_rfl
  y3 := by kernel_rfl
  y4 := by kernel_rfl
  c5 := by kernel_rfl
  c119 := by kernel_rfl
  c138 := by kernel_rfl
theorem var_size {W : World} {name : String} {d : DataW Unit} {g : Nat} {t e : TypeId} {n k : Nat} (hg : Tryz.prog.globalNamed name = some g) (ht : (Tryz.prog.globals[g]?).map (·.type) = some t) (hu : Tryz.prog.underlying t = some (.array n e)) (hc : Tryz.prog.cellsOf t = k) (h : VarReads Tryz.prog W name d) :
    ∃ cs, W.var? Tryz.prog name = some cs ∧ cs.size = k := by
  obtain ⟨g', t', cs, fuel, p, hg', ht', hv, hd⟩ := h
  obtain rfl := Option.some.inj (hg.symm.trans hg')
  obtain rfl := Option.some.inj (ht.symm.trans ht')
  refine ⟨cs, hv, ?_⟩
  cases fuel with
  | zero => simp [DataW.trod] at hd
  | succ fuel =>
    simp only [DataW.trod, hu, hc] at hd
    split at hd
    · rename_i hl; simpa using hl
    · cases hd
theorem acc_at : ∀ j, j < 16 → ((((List.range 16).map fun i => [V.i .u8 (Lib.accLo i), V.i .u8 (Lib.accHi i)]).flatten)[2 * j]? = some (V.i .u8 (Lib.accLo j)) ∧ (((List.range 16).map fun i => [V.i .u8 (Lib.accLo i), V.i .u8 (Lib.accHi i)]).flatten)[2 * j + 1]? = some (V.i .u8 (Lib.accHi j))) := by
  intro j hj
  have : j = 0 ∨ j = 1 ∨ j = 2 ∨ j = 3 ∨ j = 4 ∨ j = 5 ∨ j = 6 ∨ j = 7 ∨ j = 8 ∨ j = 9 ∨ j = 10 ∨ j = 11 ∨ j = 12 ∨ j = 13 ∨ j = 14 ∨ j = 15 := by omega
  rcases this with rfl | rfl | rfl | rfl | rfl | rfl | rfl | rfl | rfl | rfl | rfl | rfl | rfl | rfl | rfl | rfl <;> exact ⟨rfl, rfl⟩
/-- The world, as the row's list gives it. -/
theorem sr_of_laid {W : World} (h : laidMetH Tryz.prog Go.Proofs.YtddpjgoboboidaaGreatDoor.Rows.syntaxPartsUptoRow.laid W) : SR TT (memOf W) [] [] W := by
  rw [MakeChecks.laidMetH_plain _ _ _ (by kernel_rfl)] at h
  obtain ⟨ps, hv, _, _⟩ := h
  have hr := LaidVars_reads hv
  have hA : VarReads Tryz.prog W "unicode/utf8.acceptRanges" acceptData := hr _ _ (.head _)
  have hS : VarReads Tryz.prog W "strings.asciiSpace" (Lib.tabData .u8 ((List.range 256).map fun i => if i = 32 ∨ (9 ≤ i ∧ i ≤ 13) then 1 else 0)) := hr _ _ (.tail _ (.tail _ (.head _)))
  have hF : VarReads Tryz.prog W "unicode/utf8.first" firstData := hr _ _ (.tail _ (.tail _ (.tail _ (.head _))))
  have tabs : Lib.Utf8Tabs 1 2 W := utf8Tabs_of_readsT (U8Types.of196 Tryz.lays196) u8x hF hA
  refine ⟨fun b o hb => hb, rfl, fun n b hn => by simp at hn, fun n m x y b c c' hn => by simp at hn, fun g l hl => ?_⟩
  simp only [TT] at hl
  split at hl
  · rename_i hg
    subst hg
    cases hl
    have hS' := hS
    obtain ⟨cs, hv, hsz⟩ := var_size (g := 0) (t := 81) (by kernel_rfl) (by kernel_rfl) Tryz.underlying81 (k := 256) (by kernel_rfl) hS
    obtain ⟨g', t', cs2, fuel, p, hg', ht', hv2, hd⟩ := hS'
    have e0 : Tryz.prog.globalNamed "strings.asciiSpace" = some 0 := by kernel_rfl
    obtain rfl := Option.some.inj (e0.symm.trans hg')
    obtain rfl := Option.some.inj ((show (Tryz.prog.globals[0]?).map (·.type) = some 81 by kernel_rfl).symm.trans ht')
    have hcs := Lib.cells_of_tab Tryz.underlying81 Tryz.underlying5 (by kernel_rfl) (by kernel_rfl) hd
    refine glob_of e0 hv (by simp [hsz]) fun i v hi => ?_
    rw [hv] at hv2
    cases hv2
    have hi256 : i < 256 := by
      have := (List.getElem?_eq_some_iff.1 hi).1
      simpa using this
    simp only [List.getElem?_map, List.getElem?_range hi256, Option.map_some, Option.some.injEq] at hi
    subst hi
    refine ⟨.int .u8 (if i = 32 ∨ (9 ≤ i ∧ i ≤ 13) then 1 else 0), ?_, by simp only [rel]⟩
    rw [World.var?_cell e0 hv i, ← Array.getElem?_toList, hcs]
    simp [List.getElem?_range hi256]
  · split at hl
    · rename_i hg
      subst hg
      cases hl
      obtain ⟨cs, hv, hsz⟩ := var_size (g := 1) (t := 81) (by kernel_rfl) (by kernel_rfl) Tryz.underlying81 (k := 256) (by kernel_rfl) hF
      refine glob_of (by kernel_rfl) hv (by simp [hsz]) fun i v hi => ?_
      have hi256 : i < 256 := by
        have := (List.getElem?_eq_some_iff.1 hi).1
        simpa using this
      simp only [List.getElem?_map, List.getElem?_range hi256, Option.map_some, Option.some.injEq] at hi
      subst hi
      exact ⟨_, tabs.1 i hi256, by simp only [rel]⟩
    · split at hl
      · rename_i hg
        subst hg
        cases hl
        obtain ⟨cs, hv, hsz⟩ := var_size (g := 2) (t := 89) (by kernel_rfl) (by kernel_rfl) Tryz.underlying89 (k := 32) (by kernel_rfl) hA
        refine glob_of (by kernel_rfl) hv (by rw [hsz]; rfl) fun i v hi => ?_
        have hi32 : i < 32 := by
          have := (List.getElem?_eq_some_iff.1 hi).1
          exact this
        obtain ⟨j, hj, hij⟩ : ∃ j, j < 16 ∧ (i = 2 * j ∨ i = 2 * j + 1) := ⟨i / 2, by omega, by omega⟩
        obtain ⟨k1, k2⟩ := acc_at j hj
        rcases hij with rfl | rfl
        · rw [k1] at hi; cases hi
          exact ⟨_, (tabs.2 j hj).1, by simp only [rel]⟩
        · rw [k2] at hi; cases hi
          exact ⟨_, (tabs.2 j hj).2, by simp only [rel]⟩
      · cases hl
end Go.Ev
