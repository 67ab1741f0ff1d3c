/- What reads as a node is a tree. -/
import Derived.Test.YtamdmfgonfibgaaGreatDoorSp5
import Derived.Test.YtamdmfgonfibgaaGreatDoorRows
import Derived.ChangeArms
import Derived.ChangeSame
import Derived.ChangeReads
import Derived.ReadAgain
import Derived.Deep.Strs
import Derived.Lib.LaidTab
import Derived.Lib.LaidU8T
namespace Go.Ev
open Go Go.Proofs
open Go.Proofs.YtamdmfgonfibgaaGreatDoor (Rows.uptoBulk Rows.uptoBulkAll)
set_option maxRecDepth 100000
set_option linter.unusedVariables false
mutual
/-- How many bytes the texts have. -/
def Nd.tl : Nd → Nat
  | .mk _ s l => s.length + Nd.tlL l
def Nd.tlL : List Nd → Nat
  | [] => 0
  | x :: l => x.tl + Nd.tlL l
end
mutual
theorem Nd.tok_of_tl : ∀ x : Nd, x.tl < NT → x.tok
  | .mk _ s l, h => by
    simp only [Nd.tl] at h
    exact ⟨by omega, Nd.tokL_of_tl l (by omega)⟩
theorem Nd.tokL_of_tl : ∀ l : List Nd, Nd.tlL l < NT → Nd.tokL l
  | [], _ => trivial
  | x :: l, h => by
    simp only [Nd.tlL] at h
    exact ⟨Nd.tok_of_tl x (by omega), Nd.tokL_of_tl l (by omega)⟩
end
/-- The memory of a world, all of it frozen. -/
def memOf (W : World) : Mem := fun b => W.heap[b]?
theorem cell_memOf {W : World} {b o : Nat} {v : Value} (h : W.cell? ⟨b, o, none⟩ = some v) : (memOf W).cell b o = some v := by
  unfold World.cell? at h
  unfold Mem.cell memOf
  simp only at h ⊢
  split at h
  · rename_i c t f hb
    rw [hb]
    simpa using h
  · cases h
theorem addr_add (b o n : Nat) : Addr.add ⟨b, o, none⟩ n = ⟨b, o + n, none⟩ := by
  unfold Addr.add
  split
  · rename_i h; subst h; rfl
  · rfl
theorem spot_none {W : World} {a : Addr} {v : Value} (h : W.cell? a = some v) : a.spot = none := by
  unfold World.cell? at h
  split at h
  · split at h
    · cases h
    · rename_i hs; cases hh : a.spot with
      | none => rfl
      | some _ => rw [hh] at hs; simp at hs
  · cases h
section
variable {H : Type} {enc : TypeId × Value → H} {W : World} {sp : Nat → Bool}
theorem cells3 {a : Addr} {cs : List Value} (h : W.cells? 0 a 3 = some cs) : ∃ v0 v1 v2, cs = [v0, v1, v2] ∧ W.cell? (a.add 0) = some v0 ∧ W.cell? (a.add 1) = some v1 ∧ W.cell? (a.add 2) = some v2 := by
  unfold World.cells? at h
  rw [if_pos (Nat.zero_le _)] at h
  simp only [List.range, List.range.loop, List.mapM_cons, List.mapM_nil, Option.pure_def, Option.bind_eq_bind, Option.bind_eq_some_iff, Option.some.injEq] at h
  obtain ⟨v0, h0, r0, ⟨v1, h1, r1, ⟨v2, h2, r2, hr2, rfl⟩, rfl⟩, rfl⟩ := h
  subst hr2
  exact ⟨v0, v1, v2, rfl, h0, h1, h2⟩
/-- What reads as a node is a tree. -/
theorem nd_of_trod : ∀ (fuel : Nat) (cs : List Value) (x : DataW H × List MemPlace), DataW.trod enc Tryz.prog W 0 sp true fuel 24 cs = some x →
    ∃ y : Nd, relL (memOf W) [] [.i .i64 y.kind, .s y.text, .isl 3 (Nd.encL y.kids)] cs ∧ y.num + y.tl ≤ Rows.uptoBulk x.1 := by
  intro fuel
  induction fuel using Nat.strongRecOn with
  | _ fuel ih =>
    intro cs x h
    obtain ⟨xs, n, rfl, rfl, hl, hlen, hf⟩ := DataW.trod_struct Tryz.underlying24 h
    have c24 : Tryz.prog.cellsOf 24 = 3 := by kernel_rfl
    have c3 : Tryz.prog.cellsOf 3 = 1 := by kernel_rfl
    have c9 : Tryz.prog.cellsOf 9 = 1 := by kernel_rfl
    have c22 : Tryz.prog.cellsOf 22 = 1 := by kernel_rfl
    match xs, hlen with
    | [y0, y1, y2], _ =>
      have f0 := hf 0 _ rfl
      have f1 := hf 1 _ rfl
      have f2 := hf 2 _ rfl
      rw [c24] at hl
      match cs, hl with
      | [v0, v1, v2], _ =>
        have f0 : DataW.trod enc Tryz.prog W 0 sp true n 3 [v0] = some y0 := by simpa [c3] using f0
        have f1 : DataW.trod enc Tryz.prog W 0 sp true n 9 [v1] = some y1 := by simpa [c9] using f1
        have f2 : DataW.trod enc Tryz.prog W 0 sp true n 22 [v2] = some y2 := by simpa [c22] using f2
        obtain ⟨k, e0, hy0, _⟩ := DataW.trod_int Tryz.underlying3 f0
        obtain ⟨s, e1, hy1, _⟩ := DataW.trod_string Tryz.underlying9 f1
        simp only [List.cons.injEq, and_true] at e0 e1
        subst e0 e1
        subst hy0 hy1
        have hs : ∃ l : List UInt8, s = ⟨l.toArray⟩ := ⟨s.data.toList, by cases s; simp⟩
        obtain ⟨l, rfl⟩ := hs
        rcases DataW.trod_slice Tryz.underlying22 f2 with ⟨e2, hy2⟩ | ⟨a, len, cap, elems, rest, m, hm, e2, hy2, hb0, hlc, hcap, hel, hat, _, _⟩
        · cases e2
          subst hy2
          refine ⟨.mk k l [], ?_, ?_⟩
          · refine relL_cons (by simp only [rel, Nd.kind]) (relL_cons (by simp only [rel, Nd.text]) (relL_cons ?_ (by simp only [relL])))
            simp only [rel, Nd.kids, Nd.encL]
            exact ⟨none, 0, rfl, Nat.le_refl _, fun h => absurd rfl h⟩
          · simp [Nd.num, Nd.numL, Nd.tl, Nd.tlL, Rows.uptoBulk, Rows.uptoBulkAll]; omega
        · cases e2
          cases hm
          subst hy2
          rw [c24] at hat
          -- the kids
          have kids : ∀ (es : List (DataW H × List MemPlace)) (b o i0 : Nat), (∀ j, j < es.length → (W.cells? 0 (Addr.add ⟨b, o, none⟩ ((i0 + j) * 3)) 3).bind (DataW.trod enc Tryz.prog W 0 sp true m 24) = es[j]?) →
              ∃ ys : List Nd, ys.length = es.length ∧ relRow (memOf W) [] 3 (Nd.encL ys) b (o + i0 * 3) ∧ Nd.numL ys + Nd.tlL ys ≤ Rows.uptoBulkAll (es.map (·.1)) := by
            intro es
            induction es with
            | nil => intro b o i0 _; exact ⟨[], rfl, by simp only [Nd.encL, relRow], by simp [Nd.numL, Nd.tlL]⟩
            | cons e es ihs =>
              intro b o i0 hh
              have h0 := hh 0 (by simp)
              simp only [List.getElem?_cons_zero, Option.bind_eq_some_iff] at h0
              obtain ⟨c, hc, ht⟩ := h0
              obtain ⟨z, hz, hzb⟩ := ih m (by omega) c e ht
              obtain ⟨ys, hyl, hyr, hyb⟩ := ihs b o (i0 + 1) (fun j hj => by
                have := hh (j + 1) (by simp; omega)
                rw [show i0 + (j + 1) = i0 + 1 + j from by omega] at this
                simpa using this)
              obtain ⟨w0, w1, w2, rfl, g0, g1, g2⟩ := cells3 hc
              simp only [Nat.add_zero, addr_add] at g0 g1 g2
              refine ⟨z :: ys, by simp [hyl], ?_, ?_⟩
              · simp only [Nd.encL, relRow]
                refine ⟨⟨.agg #[w0, w1, w2], ?_, rfl, fun j q hj => ?_⟩, ?_⟩
                · rw [Nd.enc_eq]
                  simp only [rel]
                  exact ⟨[w0, w1, w2], rfl, hz⟩
                · match j, hj with
                  | 0, hj => simp [Value.cells] at hj; subst hj; exact cell_memOf (by simpa using g0)
                  | 1, hj => simp [Value.cells] at hj; subst hj; exact cell_memOf g1
                  | 2, hj => simp [Value.cells] at hj; subst hj; exact cell_memOf g2
                  | j + 3, hj => simp [Value.cells] at hj
                · rw [show o + i0 * 3 + 3 = o + (i0 + 1) * 3 from by omega]
                  exact hyr
              · simp only [Nd.numL, Nd.tlL, List.map_cons, Rows.uptoBulkAll]; omega
          by_cases h0 : elems.length = 0
          · have : elems = [] := List.eq_nil_of_length_eq_zero h0
            subst this
            refine ⟨.mk k l [], ?_, ?_⟩
            · refine relL_cons (by simp only [rel, Nd.kind]) (relL_cons (by simp only [rel, Nd.text]) (relL_cons ?_ (by simp only [relL])))
              simp only [rel, Nd.kids, Nd.encL]
              simp only [List.length_nil] at hel
              subst hel
              exact ⟨some a, cap, rfl, Nat.zero_le _, fun h => absurd rfl h⟩
            · simp [Nd.num, Nd.numL, Nd.tl, Nd.tlL, Rows.uptoBulk, Rows.uptoBulkAll]; omega
          · have hsp : a.spot = none := by
              have := hat 0 (by omega)
              obtain ⟨e, he⟩ : ∃ e, elems[0]? = some e := ⟨elems[0], List.getElem?_eq_getElem (by omega)⟩
              rw [he] at this
              simp only [Option.bind_eq_some_iff] at this
              obtain ⟨c, hc, _⟩ := this
              obtain ⟨w0, _, _, _, g0, _, _⟩ := cells3 hc
              have := spot_none g0
              simpa [Addr.add] using this
            obtain ⟨b, o, s⟩ := a
            simp only at hsp
            subst hsp
            obtain ⟨ys, hyl, hyr, hyb⟩ := kids elems b o 0 (fun j hj => by rw [Nat.zero_add]; exact hat j (by omega))
            refine ⟨.mk k l ys, ?_, ?_⟩
            · refine relL_cons (by simp only [rel, Nd.kind]) (relL_cons (by simp only [rel, Nd.text]) (relL_cons ?_ (by simp only [relL])))
              simp only [rel, Nd.kids]
              rw [Nd.encL_length, hyl, hel]
              refine ⟨some ⟨b, o, none⟩, cap, rfl, hlc, fun _ => ⟨b, o, rfl, ?_⟩⟩
              simpa using hyr
            · simp only [Nd.num, Nd.tl, List.map_cons, List.map_nil, Rows.uptoBulk, Rows.uptoBulkAll]
              have : (⟨l.toArray⟩ : ByteArray).data.toList.length = l.length := by simp
              omega
end
end Go.Ev
