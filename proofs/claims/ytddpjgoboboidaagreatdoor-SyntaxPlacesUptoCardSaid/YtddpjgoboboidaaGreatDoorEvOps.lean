/- Each operation of the machine does on related values what the evaluator says, for every world in the relation. -/
import Derived.Test.YtddpjgoboboidaaGreatDoorEvRel
import Derived.Lib.Strings
namespace Go.Ev
open Go

/-- The tables say what the program says. -/
structure TOk (P : Program) (T : Tab) : Prop where
  und : ∀ t d, T.und t = some d → P.underlying t = some d
  size : ∀ t n, T.size t = some n → ∃ i, P.info? t = some i ∧ i.size = n
  zero : ∀ t z, T.zero t = some z → ∃ i v, P.info? t = some i ∧ i.zero = some v ∧ ofVal v = some z
  bytes : ∀ t n, T.bytes t = some n → ∃ i, P.info? t = some i ∧ i.bytes = n
  func : ∀ f fn c, T.func f = some fn → fn.body = some c → P.funcs[f]? = some fn ∧ Go.Proofs.Enters P f
  mixed : P.follows .mixedOrders = true
  ext : ∀ g F, T.ext g = some F → ∀ (M : Mem) (ρ : Ren) (vs : List V) (args : List Value) (v : V), relL M ρ vs args → F vs = some v → ∃ x, (∀ w, (callFunc g args.toArray).run P w = .ok (.value x) w) ∧ rel M ρ v x
  lies : ∀ e n off u, T.lies e n off u = true → liesAt P P.depth e (n / P.cellsOf e) off u 1 = true

section
variable {P : Program} {T : Tab} {M : Mem} {ρ : Ren} {w : World}

theorem TOk.run_und (h : TOk P T) {t : TypeId} {d : TypeDesc} (e : T.und t = some d) (w : World) : (underlying t).run P w = .ok d w := run_underlying (h.und t d e) w
theorem TOk.run_size (h : TOk P T) {t : TypeId} {n : Nat} (e : T.size t = some n) (w : World) : (sizeOf t).run P w = .ok n w := by
  obtain ⟨i, hi, rfl⟩ := h.size t n e
  simp [sizeOf, typeInfo, hi]
theorem TOk.run_zero (h : TOk P T) {t : TypeId} {z : V} (e : T.zero t = some z) : ∃ v, ofVal v = some z ∧ ∀ w, (zeroValue t).run P w = .ok v w := by
  obtain ⟨i, v, hi, hv, hz⟩ := h.zero t z e
  exact ⟨v, hz, fun w => by simp [zeroValue, typeInfo, hi, hv]⟩
theorem TOk.run_info (h : TOk P T) {t : TypeId} {n : Nat} (e : T.bytes t = some n) : ∃ i, i.bytes = n ∧ ∀ w, (typeInfo t).run P w = .ok i w := by
  obtain ⟨i, hi, rfl⟩ := h.bytes t n e
  exact ⟨i, rfl, fun w => by simp [typeInfo, hi]⟩
theorem TOk.run_isAgg (h : TOk P T) {t : TypeId} {b : Bool} (e : isAggT (T.und t) = some b) (w : World) : (isAgg t).run P w = .ok b w := by
  cases hd : T.und t with
  | none => simp [hd, isAggT] at e
  | some d =>
    have hr := h.run_und hd
    rw [hd] at e
    unfold isAgg
    cases d <;> simp [isAggT] at e <;> subst e <;> simp [hr]

/-- Cells in memory. -/
def InMem (M : Mem) (ρ : Ren) (w : World) (b o : Nat) (l : List V) : Prop := ∀ (j : Nat) (u : V), l[j]? = some u → ∃ x, w.cell? ⟨b, o + j, none⟩ = some x ∧ rel M ρ u x

theorem add_none (b o j : Nat) : (⟨b, o, none⟩ : Addr).add j = ⟨b, o + j, none⟩ := by unfold Addr.add; split <;> simp_all

theorem run_loadFrom (b o : Nat) : ∀ (n i : Nat) (acc : Array Value) (cs : List Value), cs.length = n → (∀ j x, cs[j]? = some x → w.cell? ⟨b, o + (i + j), none⟩ = some x) →
    (loadCellsFrom ⟨b, o, none⟩ i n acc).run P w = .ok (acc ++ cs.toArray) w
  | 0, i, acc, cs, hl, _ => by
    obtain rfl := List.eq_nil_of_length_eq_zero hl
    simp [loadCellsFrom]
  | n + 1, i, acc, [], hl, _ => by simp at hl
  | n + 1, i, acc, x :: cs, hl, h => by
    have h0 := h 0 x rfl
    have ih := run_loadFrom b o n (i + 1) (acc.push x) cs (by simpa using hl) (fun j y hj => by have := h (j + 1) y (by simpa using hj); rwa [show i + (j + 1) = i + 1 + j from by omega] at this)
    simp only [Nat.add_zero] at h0
    simp only [loadCellsFrom, add_none, load]
    simp [Sem.run, h0, ih]
theorem run_loadCells (b o n : Nat) (cs : List Value) (hl : cs.length = n) (h : ∀ (j : Nat) (x : Value), cs[j]? = some x → w.cell? ⟨b, o + j, none⟩ = some x) : (loadCells ⟨b, o, none⟩ n).run P w = .ok cs.toArray w := by
  have := run_loadFrom (P := P) (w := w) b o n 0 #[] cs hl (by simpa using h)
  simpa [loadCells] using this

/-- The values of cells in memory. -/
theorem InMem.vals {b o : Nat} : ∀ {l : List V}, InMem M ρ w b o l → ∃ cs, relL M ρ l cs ∧ ∀ (j : Nat) (x : Value), cs[j]? = some x → w.cell? ⟨b, o + j, none⟩ = some x := by
  intro l
  induction l generalizing o with
  | nil => exact fun _ => ⟨[], relL_nil, by simp⟩
  | cons v l ih =>
    intro h
    obtain ⟨x, hx, hr⟩ := h 0 v rfl
    obtain ⟨cs, hcs, hc⟩ := ih (o := o + 1) (fun j u hj => by have := h (j + 1) u (by simpa using hj); rwa [show o + (j + 1) = o + 1 + j from by omega] at this)
    refine ⟨x :: cs, relL_cons hr hcs, fun j y hj => ?_⟩
    cases j with
    | zero => simp at hj; subst hj; exact hx
    | succ j => have := hc j y (by simpa using hj); rwa [show o + (j + 1) = o + 1 + j from by omega]
theorem cut_some {l : List V} {off n : Nat} {r : List V} (h : cut l off n = some r) : r = (l.drop off).take n ∧ off + n ≤ l.length := by
  unfold cut at h
  split at h
  · cases h; exact ⟨rfl, by assumption⟩
  · cases h
theorem cut_get {l : List V} {off n : Nat} {r : List V} (h : cut l off n = some r) {j : Nat} {u : V} (e : r[j]? = some u) : l[off + j]? = some u := by
  obtain ⟨rfl, _⟩ := cut_some h
  have hj : j < n := by
    have := (List.getElem?_eq_some_iff.1 e).1
    simp only [List.length_take] at this
    omega
  rw [List.getElem?_take, if_pos hj, List.getElem?_drop] at e
  exact e
theorem cut_length {l : List V} {off n : Nat} {r : List V} (h : cut l off n = some r) : r.length = n := by
  obtain ⟨rfl, hl⟩ := cut_some h
  simp only [List.length_take, List.length_drop]
  omega

/-- A variable read out of memory. -/
theorem pickAt_load (hT : TOk P T) {t : TypeId} {cells : List V} {off : Nat} {v : V} (h : pickAt T t cells off = some v) {b o : Nat} (hm : InMem M ρ w b o cells) :
    ∃ x, (loadVar t ⟨b, o + off, none⟩).run P w = .ok x w ∧ rel M ρ v x := by
  unfold pickAt at h
  split at h
  · rename_i hi
    split at h
    · rename_i n hn
      cases hc : cut cells off n with
      | none => simp [hc] at h
      | some r =>
        simp [hc] at h
        subst h
        obtain ⟨cs, hcs, hcell⟩ := InMem.vals (M := M) (ρ := ρ) (w := w) (b := b) (o := o + off) (l := r) (fun j u hj => by
          have := hm (off + j) u (cut_get hc hj)
          rwa [show o + (off + j) = o + off + j from by omega] at this)
        have hl : cs.length = n := by rw [relL_length hcs, cut_length hc]
        refine ⟨.agg cs.toArray, ?_, by simp only [rel]; exact ⟨cs, rfl, hcs⟩⟩
        have h1 := run_loadCells (P := P) b (o + off) n cs hl hcell
        simp [loadVar, hT.run_isAgg hi, hT.run_size hn, h1]
    · cases h
  · rename_i hi
    obtain ⟨x, hx, hr⟩ := hm off v h
    refine ⟨x, ?_, hr⟩
    simp [loadVar, hT.run_isAgg hi, load, Sem.run, hx]
  · cases h

/-- A part of a struct or an array value. -/
theorem pickAt_part (hT : TOk P T) {t : TypeId} {cells : List V} {off : Nat} {v : V} (h : pickAt T t cells off = some v) {cs : List Value} (hm : relL M ρ cells cs) :
    ∃ x, (∀ w, (part t cs.toArray off).run P w = .ok x w) ∧ rel M ρ v x := by
  unfold pickAt at h
  split at h
  · rename_i hi
    split at h
    · rename_i n hn
      cases hc : cut cells off n with
      | none => simp [hc] at h
      | some r =>
        simp [hc] at h
        subst h
        obtain ⟨rfl, hle⟩ := cut_some hc
        refine ⟨.agg ((cs.drop off).take n).toArray, fun w => ?_, by simp only [rel]; exact ⟨_, rfl, relL_take n (relL_drop off hm)⟩⟩
        simp [part, hT.run_isAgg hi, hT.run_size hn]
    · cases h
  · rename_i hi
    obtain ⟨x, hx, hr⟩ := relL_get hm h
    refine ⟨x, fun w => ?_, hr⟩
    simp [part, hT.run_isAgg hi, hx]
  · cases h

theorem cell_of_heap {w : World} {b : Nat} {cs : List Value} {ty : TypeId} {fr : Nat × Nat} (h : w.heap[b]? = some (.cells cs.toArray ty fr)) (o : Nat) : w.cell? ⟨b, o, none⟩ = cs[o]? := by
  simp [World.cell?, h]

/-- A row of elements that are frozen. -/
theorem relRow_get {sz : Nat} : ∀ {l : List V} {b o : Nat}, relRow M ρ sz l b o → ∀ {i : Nat} {v : V}, l[i]? = some v → ∃ x : Value, rel M ρ v x ∧ x.cells.size = sz ∧ ∀ j c, x.cells[j]? = some c → M.cell b (o + i * sz + j) = some c
  | [], _, _, _, _, _, e => by simp at e
  | u :: l, b, o, h, i, v, e => by
    simp only [relRow] at h
    cases i with
    | zero =>
      simp at e
      subst e
      obtain ⟨x, hx, hs, hc⟩ := h.1
      exact ⟨x, hx, hs, fun j c hj => by have := hc j c hj; simpa using this⟩
    | succ i =>
      obtain ⟨x, hx, hs, hc⟩ := relRow_get h.2 (i := i) (v := v) (by simpa using e)
      refine ⟨x, hx, hs, fun j c hj => ?_⟩
      have := hc j c hj
      rwa [show o + (i + 1) * sz + j = o + sz + i * sz + j from by rw [Nat.succ_mul]; omega]
theorem frozen_cell {T : Tab} {H : Heap} (hS : SR T M ρ H w) {b o : Nat} {c : Value} (h : M.cell b o = some c) : w.cell? ⟨b, o, none⟩ = some c := by
  unfold Mem.cell at h
  split at h
  · rename_i cs ty fr hb
    have := hS.frozen _ _ hb
    simp [World.cell?, this, h]
  · cases h

theorem loadA_ok (hT : TOk P T) {H : Heap} (hS : SR T M ρ H w) {t : TypeId} {p v : V} (h : loadA T t H p = some v) {x : Value} (hx : rel M ρ p x) :
    ∃ y, (Instr.loadAt t x).run P w = .ok y w ∧ rel M ρ v y := by
  unfold loadA at h
  split at h
  · rename_i n off
    split at h
    · rename_i blk hb
      simp only [rel] at hx
      obtain ⟨b, c, hr, rfl⟩ := hx
      obtain ⟨b', c', cs, cs', hr', _, _, hheap, hrel, _⟩ := hS.cells hb
      rw [hr] at hr'
      cases hr'
      have hm : InMem M ρ w b 0 blk.cells := fun j u hj => by
        obtain ⟨y, hy, hyr⟩ := relL_get hrel hj
        refine ⟨y, ?_, hyr⟩
        rw [cell_of_heap hheap, Nat.zero_add, List.getElem?_append_left (List.getElem?_eq_some_iff.1 hy).1]
        exact hy
      obtain ⟨y, hy, hyr⟩ := pickAt_load hT h hm
      exact ⟨y, by simpa [Instr.loadAt, Instr.sureAddr] using hy, hyr⟩
    · cases h
  · rename_i sz l i off
    split at h
    · rename_i e he
      simp only [rel] at hx
      obtain ⟨b, o, rfl, hrow⟩ := hx
      obtain ⟨y, hy, hsz, hc⟩ := relRow_get hrow he
      have hm : InMem M ρ w b (o + i * sz) e.cells := fun j u hj => by
        obtain ⟨z, hz, hzr⟩ := relL_get (rel_cells hy) hj
        exact ⟨z, frozen_cell hS (hc j z (by simpa using hz)), hzr⟩
      obtain ⟨y, hy, hyr⟩ := pickAt_load hT h hm
      exact ⟨y, by simpa [Instr.loadAt, Instr.sureAddr] using hy, hyr⟩
    · cases h
  · rename_i g off
    split at h
    · rename_i l hl
      simp only [rel] at hx
      subst hx
      obtain ⟨cs, ty, fr, hM, hrel⟩ := hS.glob g l hl
      have hm : InMem M ρ w g 0 l := fun j u hj => by
        obtain ⟨y, hy, hyr⟩ := relL_get hrel hj
        exact ⟨y, by rw [cell_of_heap (hS.frozen _ _ hM), Nat.zero_add]; exact hy, hyr⟩
      obtain ⟨y, hy, hyr⟩ := pickAt_load hT h hm
      exact ⟨y, by simpa [Instr.loadAt, Instr.sureAddr] using hy, hyr⟩
    · cases h
  · cases h

theorem heap_alloc_old {w : World} {b : Nat} {o : Obj} (ob : Obj) (hb : w.heap[b]? = some o) : (w.alloc ob).heap[b]? = some o := by
  have hlt := (Array.getElem?_eq_some_iff.1 hb).1
  show (w.heap.push _)[b]? = _
  rw [Array.getElem?_push, if_neg (by omega)]
  exact hb
theorem heap_alloc_lt {w : World} {b : Nat} (ob : Obj) (hb : b < w.heap.size) : (w.alloc ob).heap[b]? = w.heap[b]? := by
  show (w.heap.push _)[b]? = _
  rw [Array.getElem?_push, if_neg (by omega)]
/-- A new block. -/
theorem SR.allocB {T : Tab} {M : Mem} {ρ : Ren} {H : Heap} {w : World} (h : SR T M ρ H w) (hM : ∀ b o, M b = some o → b < w.heap.size) (ob : Obj) (blk : Blk) (c : Nat) (hok : BlkOK M ρ (some ob) blk c) :
    SR T M (ρ ++ [(w.heap.size, c)]) (H ++ [some blk]) (w.alloc ob) := by
  have hpre : ρ <+: ρ ++ [(w.heap.size, c)] := List.prefix_append _ _
  have hnew : (w.alloc ob).heap[w.heap.size]? = some ob := by
    show (w.heap.push _)[w.heap.size]? = _
    simp
  have hsz : (w.alloc ob).heap.size = w.heap.size + 1 := by simp
  have hget : ∀ {n : Nat} {z : Blk}, (H ++ [some blk])[n]? = some (some z) → (H[n]? = some (some z)) ∨ (n = H.length ∧ z = blk) := by
    intro n z hn
    rcases Nat.lt_trichotomy n H.length with hlt | heq | hgt
    · rw [List.getElem?_append_left hlt] at hn; exact .inl hn
    · subst heq; simp at hn; exact .inr ⟨rfl, hn.symm⟩
    · rw [List.getElem?_eq_none (by simp; omega)] at hn; cases hn
  refine ⟨fun b o hb => heap_alloc_old ob (h.frozen b o hb), by simp [h.len], ?_, ?_, ?_⟩
  · intro n z hn
    rcases hget hn with hn | ⟨rfl, rfl⟩
    · obtain ⟨b, c', hr, hMb, hlt, hk⟩ := h.blk n z hn
      exact ⟨b, c', pre_get hpre hr, hMb, by omega, by rw [heap_alloc_lt ob hlt]; exact hk.mono (Mem.le.refl _) hpre⟩
    · refine ⟨w.heap.size, c, by rw [← h.len]; simp, ?_, by omega, by rw [hnew]; exact hok.mono (Mem.le.refl _) hpre⟩
      cases hm : M w.heap.size with
      | none => rfl
      | some o => have := hM _ _ hm; omega
  · intro n m x y b c1 c2 hn hm hb hc
    have hlt : ∀ {k : Nat} {z : Blk} {q : Nat}, H[k]? = some (some z) → (ρ ++ [(w.heap.size, c)])[k]? = some (b, q) → ρ[k]? = some (b, q) ∧ b < w.heap.size := by
      intro k z q hk hq
      have hkl : k < ρ.length := by rw [h.len]; exact (List.getElem?_eq_some_iff.1 hk).1
      rw [List.getElem?_append_left hkl] at hq
      obtain ⟨b', c', hr, _, hl, _⟩ := h.blk k z hk
      rw [hq] at hr
      cases hr
      exact ⟨hq, hl⟩
    have hend : ∀ {q : Nat}, (ρ ++ [(w.heap.size, c)])[H.length]? = some (b, q) → b = w.heap.size := by
      intro q hq
      rw [← h.len] at hq
      simp at hq
      exact hq.1.symm
    rcases hget hn with hn' | ⟨en, zn⟩ <;> rcases hget hm with hm' | ⟨em, zm⟩
    · exact h.inj n m x y b c1 c2 hn' hm' (hlt hn' hb).1 (hlt hm' hc).1
    · subst em; have := (hlt hn' hb).2; have := hend hc; omega
    · subst en; have := (hlt hm' hc).2; have := hend hb; omega
    · rw [en, em]
  · intro g l' hg
    obtain ⟨ds, ty', fr, hMg, hrel⟩ := h.glob g l' hg
    exact ⟨ds, ty', fr, hMg, relL_mono (Mem.le.refl _) hpre _ _ hrel⟩
theorem SR.alloc {T : Tab} {M : Mem} {ρ : Ren} {H : Heap} {w : World} (h : SR T M ρ H w) (hM : ∀ b o, M b = some o → b < w.heap.size) (ty : Nat) (kind : BK) {l : List V} {cs cs' : List Value} (hl : relL M ρ l cs) (hk : kind = .more ∨ (kind = .all ∧ cs' = [])) :
    SR T M (ρ ++ [(w.heap.size, (cs ++ cs').length)]) (H ++ [some { ty, cells := l, kind }]) (w.alloc (.cells (cs ++ cs').toArray ty)) :=
  h.allocB hM _ _ _ (BlkOK.of_cells (by rcases hk with rfl | ⟨rfl, _⟩ <;> simp) ⟨cs, cs', rfl, rfl, hl, fun e => by
    rcases hk with rfl | ⟨_, h⟩
    · cases e
    · exact h⟩)
theorem SR.lt {T : Tab} {H : Heap} (h : SR T M ρ H w) : ∀ b o, M b = some o → b < w.heap.size := fun b o hb => (Array.getElem?_eq_some_iff.1 (h.frozen b o hb)).1
theorem Ext.alloc (M : Mem) (ρ : Ren) (w : World) (o : Obj) (c : Nat) : Ext M ρ w M (ρ ++ [(w.heap.size, c)]) (w.alloc o) where
  os := rfl
  tape := rfl
  output := rfl
  size := by simp
  mem := Mem.le.refl _
  pre := List.prefix_append _ _
  frame b hb _ := RowKit.Below.heap_alloc w o b hb
  newM _ _ _ := rfl
  newR b c' h := by
    simp only [List.mem_append, List.mem_singleton, Prod.mk.injEq] at h
    rcases h with h | ⟨rfl, _⟩
    · exact .inl ⟨c', h⟩
    · exact .inr (Nat.le_refl _)
end
end Go.Ev

namespace Go.Ev
open Go
section
variable {P : Program} {T : Tab} {M : Mem} {ρ : Ren} {w : World} {H : Heap}

/-- Cells written one behind the other. -/
def World.putCells (w : World) (b : Nat) : Nat → List Value → World
  | _, [] => w
  | o, x :: xs => World.putCells (w.setCell ⟨b, o, none⟩ x) b (o + 1) xs

theorem heap_setCell_same {w : World} {b : Nat} {cs : List Value} {ty : TypeId} {fr : Nat × Nat} (h : w.heap[b]? = some (.cells cs.toArray ty fr)) (o : Nat) (x : Value) :
    (w.setCell ⟨b, o, none⟩ x).heap[b]? = some (.cells (cs.set o x).toArray ty fr) := by
  simp only [World.setCell, Array.getElem?_modify, if_true, h, Option.map_some]
  simp
theorem heap_setCell_ne {w : World} {b k : Nat} (h : k ≠ b) (o : Nat) (x : Value) : (w.setCell ⟨b, o, none⟩ x).heap[k]? = w.heap[k]? := RowKit.Below.heap_setCell w ⟨b, o, none⟩ x k h
theorem putCells_ne {b k : Nat} (h : k ≠ b) : ∀ (xs : List Value) (o : Nat) (w : World), (World.putCells w b o xs).heap[k]? = w.heap[k]?
  | [], _, _ => rfl
  | x :: xs, o, w => by
    simp only [World.putCells]
    rw [putCells_ne h xs (o + 1), heap_setCell_ne h]
theorem putCells_size {b : Nat} : ∀ (xs : List Value) (o : Nat) (w : World), (World.putCells w b o xs).heap.size = w.heap.size ∧ (World.putCells w b o xs).os = w.os ∧ (World.putCells w b o xs).tape = w.tape ∧ (World.putCells w b o xs).output = w.output
  | [], _, _ => ⟨rfl, rfl, rfl, rfl⟩
  | x :: xs, o, w => by
    simp only [World.putCells]
    obtain ⟨h1, h2, h3, h4⟩ := putCells_size (b := b) xs (o + 1) (w.setCell ⟨b, o, none⟩ x)
    exact ⟨by rw [h1]; simp [World.setCell], by rw [h2]; rfl, by rw [h3]; rfl, by rw [h4]; rfl⟩
theorem splice_cons (cs : List Value) (o : Nat) (x : Value) (xs : List Value) (h : o < cs.length) : (cs.set o x).take (o + 1) ++ xs ++ (cs.set o x).drop (o + 1 + xs.length) = cs.take o ++ (x :: xs) ++ cs.drop (o + (x :: xs).length) := by
  have h1 : (cs.set o x).take (o + 1) = cs.take o ++ [x] := by
    rw [List.take_succ_eq_append_getElem (by simpa using h), List.take_set_of_le (Nat.le_refl _)]
    simp
  have h2 : (cs.set o x).drop (o + 1 + xs.length) = cs.drop (o + (xs.length + 1)) := by
    rw [List.drop_set_of_lt (by omega), show o + 1 + xs.length = o + (xs.length + 1) from by omega]
  rw [h1, h2]
  simp
/-- The run of a store of cells. -/
theorem run_storeCells {b : Nat} {ty : TypeId} : ∀ (xs : List Value) (base o : Nat) (w : World) (cs : List Value), w.heap[b]? = some (.cells cs.toArray ty (0, 0)) → base + o + xs.length ≤ cs.length →
    (∀ x ∈ xs, (∀ c, x ≠ .agg c) ∧ ∀ c, x ≠ .tuple c) →
    (storeCells ⟨b, base, none⟩ xs o).run P w = .ok () (World.putCells w b (base + o) xs) ∧
      (World.putCells w b (base + o) xs).heap[b]? = some (.cells (cs.take (base + o) ++ xs ++ cs.drop (base + o + xs.length)).toArray ty (0, 0))
  | [], base, o, w, cs, h, _, _ => by
    refine ⟨by simp [storeCells, World.putCells], ?_⟩
    simp [World.putCells, h]
  | x :: xs, base, o, w, cs, h, hl, hf => by
    have hlt : base + o < cs.length := by simp at hl; omega
    have hc : w.cell? ⟨b, base + o, none⟩ = some cs[base + o] := by rw [cell_of_heap h]; simp [hlt]
    have hfr : w.frozen? ⟨b, base + o, none⟩ = false := by simp [World.frozen?, h]
    obtain ⟨i1, i2⟩ := run_storeCells xs base (o + 1) (w.setCell ⟨b, base + o, none⟩ x) (cs.set (base + o) x) (heap_setCell_same h _ _) (by simp at hl ⊢; omega) (fun y hy => hf y (by simp [hy]))
    obtain ⟨hx1, hx2⟩ := hf x (by simp)
    refine ⟨?_, ?_⟩
    · simp only [storeCells, add_none, store, World.putCells]
      rw [Sem.run_bind]
      have : (Sem.store Mode.plain ⟨b, base + o, none⟩ x (Sem.pure ())).run P w = .ok () (w.setCell ⟨b, base + o, none⟩ x) := by
        cases x <;> first | (exfalso; exact hx1 _ rfl) | (exfalso; exact hx2 _ rfl) | simp [Sem.run, hc, hfr]
      rw [this]
      simp only [Result.andThen]
      rw [show base + o + 1 = base + (o + 1) from by omega]
      exact i1
    · simp only [World.putCells]
      rw [show base + o + 1 = base + (o + 1) from by omega, i2]
      have := splice_cons cs (base + o) x xs hlt
      rw [show base + (o + 1) = base + o + 1 from by omega, this]

theorem all_flat {l : List V} {xs : List Value} (h : relL M ρ l xs) (hf : l.all flat = true) : ∀ x ∈ xs, (∀ c, x ≠ .agg c) ∧ ∀ c, x ≠ .tuple c := by
  intro x hx
  obtain ⟨i, hi⟩ := List.getElem?_of_mem hx
  have hlt : i < l.length := by rw [← relL_length h]; exact (List.getElem?_eq_some_iff.1 hi).1
  obtain ⟨y, hy, hr⟩ := relL_get h (List.getElem?_eq_getElem hlt)
  rw [hi] at hy
  cases hy
  exact flat_one hr (List.all_eq_true.1 hf _ (List.getElem_mem hlt))

/-- One block turned. -/
theorem SR.upd (hS : SR T M ρ H w) {n : Nat} {blk blk' : Blk} (hb : H[n]? = some (some blk)) {b c : Nat} (hr : ρ[n]? = some (b, c)) {w' : World} (hother : ∀ k, k ≠ b → w'.heap[k]? = w.heap[k]?) (hsz : w'.heap.size = w.heap.size)
    (hok : BlkOK M ρ w'.heap[b]? blk' c) : SR T M ρ (H.set n (some blk')) w' := by
  have hset : ∀ {m : Nat} {z : Blk}, (H.set n (some blk'))[m]? = some (some z) → (m = n ∧ z = blk') ∨ (m ≠ n ∧ H[m]? = some (some z)) := by
    intro m z hm
    by_cases e : m = n
    · subst e
      have hlt := (List.getElem?_eq_some_iff.1 hb).1
      rw [List.getElem?_set_self hlt] at hm
      simp at hm
      exact .inl ⟨rfl, hm.symm⟩
    · rw [List.getElem?_set_ne (fun h => e h.symm)] at hm
      exact .inr ⟨e, hm⟩
  have hlive : ∀ {m : Nat} {z : Blk}, (H.set n (some blk'))[m]? = some (some z) → ∃ z', H[m]? = some (some z') := by
    intro m z hm
    rcases hset hm with ⟨rfl, _⟩ | ⟨_, hm⟩
    · exact ⟨_, hb⟩
    · exact ⟨_, hm⟩
  obtain ⟨b0, c0, hr0, hM0, hlt0, _⟩ := hS.blk n blk hb
  rw [hr] at hr0
  cases hr0
  refine ⟨fun k o hk => ?_, by simp [hS.len], ?_, ?_, hS.glob⟩
  · rw [hother k (fun e => by rw [e, hM0] at hk; cases hk)]
    exact hS.frozen k o hk
  · intro m z hm
    rcases hset hm with ⟨rfl, rfl⟩ | ⟨hne, hm⟩
    · exact ⟨b, c, hr, hM0, by omega, hok⟩
    · obtain ⟨b2, c2, hr2, hM2, hlt2, hk2⟩ := hS.blk m z hm
      refine ⟨b2, c2, hr2, hM2, by omega, ?_⟩
      rw [hother b2 (fun e => hne (hS.inj m n z blk b2 c2 c hm hb hr2 (e ▸ hr)))]
      exact hk2
  · intro m k x y b2 c2 c3 hm hk h2 h3
    obtain ⟨x', hx'⟩ := hlive hm
    obtain ⟨y', hy'⟩ := hlive hk
    exact hS.inj m k x' y' b2 c2 c3 hx' hy' h2 h3

/-- A block's cells written: the state behind it. -/
theorem SR.splice (hS : SR T M ρ H w) {n : Nat} {blk : Blk} (hb : cellsAt H n = some blk) {off : Nat} {l : List V} {xs : List Value} (hl : relL M ρ l xs) (hfit : off + l.length ≤ blk.cells.length) (hf : l.all flat = true) {b c : Nat} (hr : ρ[n]? = some (b, c)) :
    ∃ w', (storeCells ⟨b, off, none⟩ xs).run P w = .ok () w' ∧ Ext M ρ w M ρ w' ∧ SR T M ρ (H.set n (some { blk with cells := Ev.splice blk.cells off l })) w' := by
  obtain ⟨hb0, hkind⟩ := cellsAt_some hb
  obtain ⟨b', c', cs, cs', hr', hMb, hc, hheap, hrel, hall⟩ := hS.cells hb
  rw [hr] at hr'
  cases hr'
  have hxl := relL_length hl
  have hcl := relL_length hrel
  obtain ⟨h1, h2⟩ := run_storeCells (P := P) xs off 0 w (cs ++ cs') hheap (by simp; omega) (all_flat hl hf)
  simp only [Nat.add_zero] at h1 h2
  obtain ⟨s1, s2, s3, s4⟩ := putCells_size (b := b) xs off w
  refine ⟨_, h1, ⟨s2, s3, s4, by omega, Mem.le.refl _, List.prefix_refl _, fun k hk hn => putCells_ne (fun e => hn c (by rw [e]; exact List.mem_of_getElem? hr)) _ _ _, fun _ _ _ => rfl, fun _ q hq => .inl ⟨q, hq⟩⟩, ?_⟩
  refine hS.upd hb0 hr (fun k hk => putCells_ne hk _ _ _) s1 (BlkOK.of_cells hkind ⟨cs.take off ++ xs ++ cs.drop (off + xs.length), cs', ?_, ?_, relL_splice off hrel hl, hall⟩)
  · simp only [List.length_append, List.length_take, List.length_drop] at hc ⊢
    omega
  · rw [h2]
    simp only [List.take_append_of_le_length (show off ≤ cs.length by omega), List.drop_append_of_le_length (show off + xs.length ≤ cs.length by omega), List.append_assoc]

theorem storeA_ok (hT : TOk P T) (hS : SR T M ρ H w) {t : TypeId} {p v : V} {H' : Heap} (h : storeA T t H p v = some H') {x y : Value} (hx : rel M ρ p x) (hy : rel M ρ v y) :
    ∃ w', (Instr.storeAt t x y).run P w = .ok () w' ∧ Ext M ρ w M ρ w' ∧ SR T M ρ H' w' := by
  unfold storeA at h
  simp only [fSp_eq, setK_eq] at h
  split at h
  · rename_i n off
    split at h
    · rename_i blk hb
      split at h
      · rename_i hc
        obtain ⟨hsz, hfit, hf⟩ := hc
        cases h
        simp only [rel] at hx
        obtain ⟨b, c, hr, rfl⟩ := hx
        have hcells := rel_cells hy
        obtain ⟨w', h1, h2, h3⟩ := hS.splice (P := P) hb hcells hfit hf hr
        refine ⟨w', ?_, h2, h3⟩
        have hl : y.cells.size = v.cells.length := by have := relL_length hcells; simpa using this
        simp [Instr.storeAt, Instr.sureAddr, storeVar, hT.run_size hsz, hl, h1]
      · cases h
    · cases h
  · cases h
end
end Go.Ev

namespace Go.Ev
open Go
section
variable {P : Program} {T : Tab} {M : Mem} {ρ : Ren} {w : World} {H : Heap}

def relPs (M : Mem) (ρ : Ren) : List (Nat × V) → List (Nat × Value) → Prop
  | [], qs => qs = []
  | (i, v) :: ps, qs => ∃ x r, qs = (i, x) :: r ∧ rel M ρ v x ∧ relPs M ρ ps r
theorem evParts_rel {t : Env} {a : Act} (h : relT M ρ t a.tmps) : ∀ {l : List (Nat × Operand)} {ps : List (Nat × V)}, evParts t l = some ps → relPs M ρ ps (l.map fun (i, x) => (i, a.eval x))
  | [], ps, e => by simp only [evParts, Option.some.injEq] at e; subst e; simp [relPs]
  | (i, o) :: r, ps, e => by
    simp only [evParts] at e
    split at e
    · rename_i x l hx hl
      cases e
      simp only [relPs, List.map_cons]
      exact ⟨_, _, rfl, ev1_rel h hx, evParts_rel h hl⟩
    · cases e

theorem foldl_put (off : Nat) : ∀ (xs cs : List Value) (k : Nat), off + k + xs.length ≤ cs.length →
    (xs.zipIdx k).foldl (fun (c : Array Value) (p : Value × Nat) => c.setIfInBounds (off + p.2) p.1) cs.toArray = (cs.take (off + k) ++ xs ++ cs.drop (off + k + xs.length)).toArray
  | [], cs, k, _ => by simp
  | x :: xs, cs, k, h => by
    have hlt : off + k < cs.length := by simp at h; omega
    rw [List.zipIdx_cons, List.foldl_cons]
    simp only [List.setIfInBounds_toArray]
    rw [foldl_put off xs (cs.set (off + k) x) (k + 1) (by simp at h ⊢; omega)]
    have := splice_cons cs (off + k) x xs hlt
    rw [show off + (k + 1) = off + k + 1 from by omega, this]
theorem foldl_cells (off : Nat) (xs : Array Value) (cs : List Value) (h : off + xs.size ≤ cs.length) :
    xs.zipIdx.foldl (fun (c : Array Value) (p : Value × Nat) => c.setIfInBounds (off + p.2) p.1) cs.toArray = (cs.take off ++ xs.toList ++ cs.drop (off + xs.size)).toArray := by
  have := foldl_put off xs.toList cs 0 (by simpa using h)
  rw [← Array.foldl_toList]
  simpa using this

theorem fillV_ok {pl : Nat → Option (Nat × Nat)} : ∀ {ps : List (Nat × V)} {qs : List (Nat × Value)} {cells r : List V} {cs : List Value}, relPs M ρ ps qs → relL M ρ cells cs → fillV pl cells ps = some r →
    ∃ rs, Instr.fill pl cs.toArray qs = some rs.toArray ∧ relL M ρ r rs
  | [], qs, cells, r, cs, hp, hc, h => by
    simp only [relPs] at hp
    subst hp
    simp only [fillV, Option.some.injEq] at h
    subst h
    exact ⟨cs, rfl, hc⟩
  | (i, v) :: ps, qs, cells, r, cs, hp, hc, h => by
    simp only [relPs] at hp
    obtain ⟨x, q, rfl, hv, hp⟩ := hp
    simp only [fillV] at h
    split at h
    · cases h
    · rename_i off size hpl
      split at h
      · rename_i hfit
        have hcells := rel_cells hv
        have hxl := relL_length hcells
        have hcl := relL_length hc
        have hx1 : x.cells.size = v.cells.length := by simpa using hxl
        have hs := relL_splice off hc hcells
        obtain ⟨rs, h1, h2⟩ := fillV_ok hp hs h
        refine ⟨rs, ?_, h2⟩
        unfold Instr.fill
        simp only [hpl]
        rw [if_neg (by simp; omega)]
        have := foldl_cells off x.cells cs (by omega)
        rw [this]
        simpa using h1
      · cases h

theorem placesOf_ok (hT : TOk P T) : ∀ {fs : List Field} {pl : List (Nat × Nat)}, placesOf T fs = some pl → ∀ w, (fs.mapM (m := Sem) fun f => Prod.mk f.offset <$> sizeOf f.type).run P w = .ok pl w
  | [], pl, h, w => by simp only [placesOf, Option.some.injEq] at h; subst h; simp
  | f :: r, pl, h, w => by
    simp only [placesOf] at h
    split at h
    · rename_i n l hn hl
      cases h
      have := placesOf_ok hT hl w
      simp [List.mapM_cons, hT.run_size hn, this]
    · cases h
theorem run_fmap {α β : Type} (f : α → β) (s : Sem α) {a : α} {w w' : World} (h : s.run P w = .ok a w') : (f <$> s).run P w = .ok (f a) w' := by
  rw [← bind_pure_comp]
  simp [h]


theorem evBuild_ok (hT : TOk P T) {ty : TypeId} {ps : List (Nat × V)} {qs : List (Nat × Value)} {v : V} (hp : relPs M ρ ps qs) (h : evBuild T ty ps = some v) :
    ∃ x, (∀ w, (Instr.build ty qs.toArray).run P w = .ok x w) ∧ rel M ρ v x := by
  unfold evBuild at h
  split at h
  · rename_i z fs hz hu
    split at h
    · rename_i pl hpl
      obtain ⟨zv, hzv, hzr⟩ := hT.run_zero hz
      have hzc := rel_cells (ofVal_rel (M := M) (ρ := ρ) hzv)
      cases hf : fillV (fun i => pl[i]?) z.cells ps with
      | none => simp [hf] at h
      | some r =>
        simp [hf] at h
        subst h
        obtain ⟨rs, h1, h2⟩ := fillV_ok hp hzc hf
        refine ⟨.agg rs.toArray, fun w => ?_, by simp only [rel]; exact ⟨rs, rfl, h2⟩⟩
        have hm := placesOf_ok hT hpl w
        simp only [Array.toArray_toList] at h1
        simp [Instr.build, hzr, hT.run_und hu, Array.mapM_eq_mapM_toList, hm, h1]
    · cases h
  · rename_i z n e hz hu
    split at h
    · rename_i sz hsz
      obtain ⟨zv, hzv, hzr⟩ := hT.run_zero hz
      have hzc := rel_cells (ofVal_rel (M := M) (ρ := ρ) hzv)
      cases hf : fillV (fun i => some (i * sz, sz)) z.cells ps with
      | none => simp [hf] at h
      | some r =>
        simp [hf] at h
        subst h
        obtain ⟨rs, h1, h2⟩ := fillV_ok hp hzc hf
        refine ⟨.agg rs.toArray, fun w => ?_, by simp only [rel]; exact ⟨rs, rfl, h2⟩⟩
        simp only [Array.toArray_toList] at h1
        simp [Instr.build, hzr, hT.run_und hu, hT.run_size hsz, h1]
    · cases h
  · cases h

theorem reps_range {α : Type} [Inhabited α] (l : List α) : ∀ n : Nat, (List.range (n * l.length)).map (fun i => l[i % l.length]!) = reps n l
  | 0 => by simp [reps]
  | n + 1 => by
    rw [Nat.succ_mul, Nat.add_comm, List.range_add, List.map_append, reps]
    congr 1
    · apply List.ext_getElem
      · simp
      · intro i h1 h2
        simp at h1
        simp [Nat.mod_eq_of_lt h1, h1]
    · rw [← reps_range l n]
      simp [List.map_map, Function.comp_def]
theorem reps_rel {l : List V} {cs : List Value} (h : relL M ρ l cs) : ∀ n : Nat, relL M ρ (reps n l) (reps n cs)
  | 0 => by simp [reps, relL]
  | n + 1 => by simp only [reps]; exact relL_append h (reps_rel h n)
theorem reps_length {α : Type} (l : List α) : ∀ n : Nat, (reps n l).length = n * l.length
  | 0 => by simp [reps]
  | n + 1 => by simp only [reps, List.length_append, reps_length l n]; rw [Nat.succ_mul]; omega
theorem made_cells (z : Array Value) (n : Nat) : (Array.range (n * z.size)).map (fun i => z[i % z.size]!) = (reps n z.toList).toArray := by
  have := reps_range z.toList n
  rw [Array.length_toList] at this
  rw [← this]
  apply Array.ext'
  simp [Array.getElem!_eq_getD, Array.getD_eq_getD_getElem?]

/-- What an operation comes to. -/
def OpOK (P : Program) (T : Tab) (s : Sem Value) (M : Mem) (ρ : Ren) (w : World) (v : V) (H' : Heap) : Prop :=
  ∃ x w' ρ', s.run P w = .ok x w' ∧ Ext M ρ w M ρ' w' ∧ rel M ρ' v x ∧ SR T M ρ' H' w'
theorem OpOK.pure {s : Sem Value} {x : Value} {v : V} (hS : SR T M ρ H w) (h : s.run P w = .ok x w) (hv : rel M ρ v x) : OpOK P T s M ρ w v H := ⟨x, w, ρ, h, Ext.refl _ _ _, hv, hS⟩

theorem alloc_ok (hS : SR T M ρ H w) (e : TypeId) {l : List V} {cs : List Value} (hl : relL M ρ l cs) :
    (newRow e cs.toArray).run P w = .ok ⟨w.heap.size, 0, none⟩ (w.alloc (.cells cs.toArray e)) ∧
      SR T M (ρ ++ [(w.heap.size, cs.length)]) (H ++ [some { ty := e, cells := l, kind := .all }]) (w.alloc (.cells cs.toArray e)) ∧ Ext M ρ w M (ρ ++ [(w.heap.size, cs.length)]) (w.alloc (.cells cs.toArray e)) := by
  refine ⟨by simp [newRow, newObj, Sem.run], ?_, Ext.alloc _ _ _ _ _⟩
  have := hS.alloc hS.lt e .all (cs' := []) hl (.inr ⟨rfl, rfl⟩)
  simpa using this

theorem evBuildSlice_ok (hT : TOk P T) (hS : SR T M ρ H w) {ty : TypeId} {len : Nat} {ps : List (Nat × V)} {qs : List (Nat × Value)} {v : V} {H' : Heap} (hp : relPs M ρ ps qs) (h : evBuildSlice T ty len ps H = .val v H') :
    OpOK P T (Instr.buildSlice ty len qs.toArray) M ρ w v H' := by
  unfold evBuildSlice at h
  simp only [newB_eq] at h
  split at h
  · rename_i e hu
    split at h
    · rename_i n z hn hz
      split at h
      · rename_i hc
        obtain ⟨hzn, hpos, hle⟩ := hc
        split at h
        · rename_i cells hf
          cases h
          obtain ⟨zv, hzv, hzr⟩ := hT.run_zero hz
          have hzc := rel_cells (ofVal_rel (M := M) (ρ := ρ) hzv)
          have hzl : zv.cells.size = n := by have := relL_length hzc; simp at this; omega
          obtain ⟨rs, h1, h2⟩ := fillV_ok hp (reps_rel hzc len) hf
          obtain ⟨a1, a2, a3⟩ := alloc_ok (P := P) hS e h2
          refine ⟨.slice (some ⟨w.heap.size, 0, none⟩) len len, _, _, ?_, a3, ?_, a2⟩
          · by_cases h0 : len * n = 0
            · have hl0 : len = 0 := by rcases Nat.mul_eq_zero.1 h0 with h | h <;> omega
              have h1' : Instr.fill (fun i => some (i * n, n)) #[] qs = some rs.toArray := by subst hl0; simpa [reps] using h1
              simp [Instr.buildSlice, hT.run_und hu, hT.run_size hn, h0, show Array.range 0 = #[] from rfl, h1', run_fmap _ _ a1]
            · have hm : (Array.range (len * n)).map (fun i => zv.cells[i % zv.cells.size]!) = (reps len zv.cells.toList).toArray := by
                rw [← hzl]
                exact made_cells _ _
              simp only [Instr.buildSlice, Sem.run_bind, hT.run_und hu, Result.andThen_ok, hT.run_size hn, if_neg (show ¬ len * n > 2 ^ 24 by omega), if_neg h0, hzr, Sem.run_pure, hm, h1, a1]
          · simp only [rel]
            refine ⟨w.heap.size, rs.length, len, by rw [← hS.len]; simp, by simp, Nat.le_refl _, fun q hq => by cases hq; rfl, fun hq => by cases hq⟩
        · cases h
      · cases h
    · cases h
  · cases h
end
end Go.Ev

namespace Go.Ev
open Go
section
variable {P : Program} {T : Tab} {M : Mem} {ρ : Ren} {w : World} {H : Heap}

theorem wrap64_id {n : Int} (h0 : 0 ≤ n) (h1 : n ≤ 1099511627776) : IntKind.i64.wrap n = n := by
  have := IntWalk.i64_in n
  exact this (by omega)

theorem evMakeSlice_ok (hT : TOk P T) (hS : SR T M ρ H w) {ty : TypeId} {l c v : V} {H' : Heap} {x y : Value} (hx : rel M ρ l x) (hy : rel M ρ c y) (h : evMakeSlice T ty l c H = .val v H') :
    OpOK P T (Instr.makeSlice ty x y) M ρ w v H' := by
  unfold evMakeSlice at h
  simp only [newB_eq] at h
  split at h
  · rename_i e kl l kc c hu
    split at h
    · rename_i n z bs hn hz hb
      split at h
      · rename_i hc
        obtain ⟨hzn, hpos, h0, hlc, hbs, hcs⟩ := hc
        cases h
        simp only [rel] at hx hy
        subst hx hy
        obtain ⟨zv, hzv, hzr⟩ := hT.run_zero hz
        have hzc := rel_cells (ofVal_rel (M := M) (ρ := ρ) hzv)
        have hzl : zv.cells.size = n := by have := relL_length hzc; simp at this; omega
        obtain ⟨i, hi, hir⟩ := hT.run_info hb
        have h2 := reps_rel hzc c.toNat
        obtain ⟨a1, a2, a3⟩ := alloc_ok (P := P) hS e h2
        refine ⟨.slice (some ⟨w.heap.size, 0, none⟩) l.toNat c.toNat, _, _, ?_, a3, ?_, a2⟩
        · have hwl := wrap64_id h0 (by omega)
          have hwc := wrap64_id (n := c) (by omega) hcs
          have hneg : ¬ c < 0 := by omega
          have hneg2 : ¬ l < 0 := by omega
          have hlc2 : ¬ c < l := by omega
          by_cases h00 : c.toNat * n = 0
          · have hc0 : c.toNat = 0 := by rcases Nat.mul_eq_zero.1 h00 with h | h <;> omega
            have hr : reps c.toNat zv.cells.toList = [] := by rw [hc0]; rfl
            rw [hr] at a1 ⊢
            simp [Instr.makeSlice, hT.run_und hu, asInt, asIntOf, hir, hi, hwl, hwc, hneg, hneg2, hlc2, askRoom, hT.run_size hn, h00, show Array.range 0 = #[] from rfl]
            rw [if_neg (by rw [Int.mul_comm]; omega), a1]
            rfl
          · have hm : (Array.range (c.toNat * n)).map (fun i => zv.cells[i % zv.cells.size]!) = (reps c.toNat zv.cells.toList).toArray := by
              rw [← hzl]
              exact made_cells _ _
            simp [Instr.makeSlice, hT.run_und hu, asInt, asIntOf, hir, hi, hwl, hwc, hneg, hneg2, hlc2, askRoom, hT.run_size hn, h00, hm, hzr]
            rw [if_neg (by rw [Int.mul_comm]; omega), a1]
            rfl
        · simp only [rel]
          refine ⟨w.heap.size, (reps c.toNat zv.cells.toList).length, c.toNat, by rw [← hS.len]; simp, by simp, by omega, fun q hq => by cases hq; rfl, fun hq => by cases hq⟩
      · cases h
    · cases h
  · cases h

theorem bound_ok {t : Env} {a : Act} (ht : relT M ρ t a.tmps) {most d k : Nat} {o : Operand} (h : bound t most d (some o) = some k) (code : BoundsCode) :
    k ≤ most ∧ ∀ w, (Instr.sliceBound (a.eval o) most code).run P w = .ok k w := by
  simp only [bound] at h
  split at h
  · rename_i kk n he
    split at h
    · rename_i hn
      cases h
      have := ev1_rel ht he
      simp only [rel] at this
      rw [this]
      exact ⟨by omega, fun w => by simp [Instr.sliceBound, asIntOf, hn]⟩
    · cases h
  · cases h
/-- Both bounds of a slice expression without a third. -/
theorem bounds_ok {t : Env} {a : Act} (ht : relT M ρ t a.tmps) {isSlice : Bool} {len cap h l : Nat} {lo hi : Option Operand} (hlc : len ≤ cap)
    (hh : bound t cap len hi = some h) (hl : bound t h 0 lo = some l) :
    l ≤ h ∧ h ≤ cap ∧ ∀ w, (Instr.sliceBounds isSlice len cap (lo.map a.eval) (hi.map a.eval) none).run P w = .ok (l, h, cap) w := by
  cases hi with
  | none =>
    simp only [bound, Option.some.injEq] at hh
    subst hh
    cases lo with
    | none =>
      simp only [bound, Option.some.injEq] at hl
      subst hl
      exact ⟨by omega, hlc, fun w => by simp [Instr.sliceBounds]⟩
    | some o =>
      obtain ⟨h1, h2⟩ := bound_ok (P := P) ht hl .sliceB
      exact ⟨h1, hlc, fun w => by simp [Instr.sliceBounds, h2]⟩
  | some oh =>
    obtain ⟨h1, h2⟩ := bound_ok (P := P) ht hh (if isSlice then .sliceAcap else .sliceAlen)
    cases lo with
    | none =>
      simp only [bound, Option.some.injEq] at hl
      subst hl
      exact ⟨by omega, h1, fun w => by simp [Instr.sliceBounds, h2]⟩
    | some o =>
      obtain ⟨h3, h4⟩ := bound_ok (P := P) ht hl .sliceB
      exact ⟨h3, h1, fun w => by simp [Instr.sliceBounds, h2, h4]⟩

theorem relRow_drop {sz : Nat} : ∀ (k : Nat) {l : List V} {b o : Nat}, relRow M ρ sz l b o → relRow M ρ sz (l.drop k) b (o + k * sz)
  | 0, l, b, o, h => by simpa using h
  | k + 1, [], b, o, _ => by simp [relRow]
  | k + 1, v :: l, b, o, h => by
    simp only [relRow] at h
    have := relRow_drop k h.2
    rw [show o + (k + 1) * sz = o + sz + k * sz from by rw [Nat.succ_mul]; omega]
    simpa using this
theorem relRow_take {sz : Nat} : ∀ (k : Nat) {l : List V} {b o : Nat}, relRow M ρ sz l b o → relRow M ρ sz (l.take k) b o
  | 0, l, b, o, _ => by simp [relRow]
  | k + 1, [], b, o, _ => by simp [relRow]
  | k + 1, v :: l, b, o, h => by
    simp only [relRow, List.take_succ_cons] at h ⊢
    exact ⟨h.1, relRow_take k h.2⟩

theorem evSlice_ok (hT : TOk P T) {t : Env} {a : Act} (ht : relT M ρ t a.tmps) {ty : TypeId} {p v : V} {lo hi mx : Option Operand} {x : Value} (hx : rel M ρ p x) (h : evSlice T ty t p lo hi mx = some v) :
    ∃ y, (∀ w, (Instr.sliceAt ty x (lo.map a.eval) (hi.map a.eval) (mx.map a.eval)).run P w = .ok y w) ∧ rel M ρ v y := by
  simp only [evSlice, subU_eq] at h
  split at h
  · cases h
  split at h
  · -- a string
    rename_i l
    split at h
    · rename_i hu
      split at h
      · rename_i hh hbh
        split at h
        · rename_i k hbl
          cases h
          simp only [rel] at hx
          subst hx
          obtain ⟨b1, b2, b3⟩ := bounds_ok (P := P) ht (isSlice := false) (len := l.length) (Nat.le_refl _) hbh hbl
          refine ⟨.string ⟨((l.take hh).drop k).toArray⟩, fun w => ?_, by simp [rel]⟩
          have hsz : (ByteArray.mk l.toArray).size = l.length := by simp [ByteArray.size]
          have hex : (ByteArray.mk l.toArray).extract k hh = ⟨((l.take hh).drop k).toArray⟩ := by
            rw [Lib.extract_eq, List.drop_take]
          simp [Instr.sliceAt, hT.run_und hu, Instr.slice, hsz, b3, hex]
        · cases h
      · cases h
    · cases h
  · -- frozen
    rename_i sz l
    split at h
    · rename_i e hu
      split at h
      · rename_i hsz
        split at h
        · rename_i hh hbh
          split at h
          · rename_i k hbl
            cases h
            simp only [rel] at hx
            obtain ⟨ad, c, rfl, hlc, hrow⟩ := hx
            have hbh' : bound t c l.length hi = some hh := by
              cases hi with
              | none => exact hbh
              | some o =>
                simp only [bound] at hbh ⊢
                split at hbh
                · rename_i n hn
                  split at hbh
                  · rename_i hc
                    rw [if_pos (by omega)]
                    exact hbh
                  · cases hbh
                · cases hbh
            have hhl : hh ≤ l.length := by
              cases hi with
              | none => simp only [bound, Option.some.injEq] at hbh; omega
              | some o => exact (bound_ok (P := P) ht hbh .sliceB).1
            obtain ⟨b1, b2, b3⟩ := bounds_ok (P := P) ht (isSlice := true) hlc hbh' hbl
            have hll : ((l.take hh).drop k).length = hh - k := by simp; omega
            refine ⟨.slice (if c = k then ad else ad.map (·.add (k * sz))) (hh - k) (c - k), fun w => by simp [Instr.sliceAt, hT.run_und hu, Instr.slice, b3, hT.run_size hsz], ?_⟩
            simp only [rel]
            refine ⟨_, _, by rw [hll], by rw [hll]; omega, fun hne => ?_⟩
            have hpos : 0 < hh - k := by rw [← hll]; exact List.length_pos_iff.2 hne
            obtain ⟨b, o, rfl, hr⟩ := hrow (fun e0 => by subst e0; simp at hhl; omega)
            rw [if_neg (by omega)]
            exact ⟨b, o + k * sz, by simp [add_none], relRow_drop k (relRow_take hh hr)⟩
          · cases h
        · cases h
      · cases h
    · cases h
  · -- nil
    split at h
    · rename_i e hu
      split at h
      · rename_i n hsz hbh hbl
        cases h
        simp only [rel] at hx
        subst hx
        obtain ⟨b1, b2, b3⟩ := bounds_ok (P := P) ht (isSlice := true) (Nat.le_refl 0) hbh hbl
        exact ⟨.slice none 0 0, fun w => by simp [Instr.sliceAt, hT.run_und hu, Instr.slice, b3, hT.run_size hsz], by simp [rel]⟩
      · cases h
    · cases h
  · -- a named row
    rename_i n sz off len cap
    split at h
    · rename_i e hu
      split at h
      · rename_i hsz
        split at h
        · rename_i hh hbh
          split at h
          · rename_i k hbl
            simp only [rel] at hx
            obtain ⟨b, c, q, hr, rfl, hlq, hcap, hfull⟩ := hx
            have hbh' : bound t q len hi = some hh := by
              cases hi with
              | none => exact hbh
              | some o =>
                simp only [bound] at hbh ⊢
                split at hbh
                · rename_i kk nn hn
                  split at hbh
                  · rename_i hc
                    have : cap.getD len ≤ q := by
                      cases cap with
                      | none => exact hlq
                      | some z => have := hcap z rfl; simp; omega
                    rw [if_pos (by omega)]
                    exact hbh
                  · cases hbh
                · cases hbh
            obtain ⟨b1, b2, b3⟩ := bounds_ok (P := P) ht (isSlice := true) hlq hbh' hbl
            have hrun : ∀ w, (Instr.sliceAt ty (.slice (some ⟨b, off * sz, none⟩) len q) (lo.map a.eval) (hi.map a.eval) none).run P w = .ok (.slice (if q = k then some ⟨b, off * sz, none⟩ else some ⟨b, (off + k) * sz, none⟩) (hh - k) (q - k)) w := fun w => by
              simp [Instr.sliceAt, hT.run_und hu, Instr.slice, b3, hT.run_size hsz]
              split <;> simp [add_none, Nat.add_mul]
            refine ⟨_, hrun, ?_⟩
            split at h
            · rename_i z
              have hz := hcap z rfl
              subst hz
              split at h
              · rename_i e0
                cases h
                rw [if_pos e0]
                simp only [rel]
                exact ⟨b, c, q - k, hr, rfl, by omega, fun x hx => by cases hx; omega, fun hx => by cases hx⟩
              · rename_i e0
                cases h
                rw [if_neg e0]
                simp only [rel]
                exact ⟨b, c, q - k, hr, rfl, by omega, fun x hx => by cases hx; omega, fun hx => by cases hx⟩
            · have hf := hfull rfl
              split at h
              · rename_i e0
                cases h
                simp only [rel]
                have h00 : hh - k = 0 := by omega
                rw [h00]
                split
                · exact ⟨_, _, rfl⟩
                · exact ⟨_, _, rfl⟩
              · rename_i e0
                cases h
                simp only [rel]
                by_cases hqk : q = k
                · have hk0 : k = 0 := by
                    rcases Nat.eq_zero_or_pos k with h | h
                    · exact h
                    · exact absurd ⟨by omega, h⟩ e0
                  subst hk0
                  rw [if_pos hqk]
                  exact ⟨b, c, q - 0, hr, by simp, by omega, fun x hx => (by cases hx), fun _ => by simpa using hf⟩
                · rw [if_neg hqk]
                  exact ⟨b, c, q - k, hr, rfl, by omega, fun x hx => (by cases hx), fun _ => by rw [← hf]; congr 1; omega⟩
          · cases h
        · cases h
      · cases h
    · cases h
  · -- a named array
    rename_i n off
    split at h
    · rename_i m e hu
      split at h
      · rename_i sz hsz
        split at h
        · rename_i hc
          split at h
          · rename_i hh hbh
            split at h
            · rename_i k hbl
              split at h
              · cases h
              · rename_i hmk
                cases h
                simp only [rel] at hx
                obtain ⟨b, c, hr, rfl⟩ := hx
                obtain ⟨b1, b2, b3⟩ := bounds_ok (P := P) ht (isSlice := false) (Nat.le_refl m) hbh hbl
                have hoff : off = off / sz * sz := by
                  have := Nat.div_add_mod off sz
                  rw [hc.2, Nat.add_zero, Nat.mul_comm] at this
                  exact this.symm
                refine ⟨.slice (some ⟨b, (off / sz + k) * sz, none⟩) (hh - k) (m - k), fun w => ?_, ?_⟩
                · simp [Instr.sliceAt, hT.run_und hu, Instr.sureAddr, b3, hT.run_size hsz, hmk, add_none]
                  rw [Nat.add_mul, ← hoff]
                · simp only [rel]
                  exact ⟨b, c, m - k, hr, rfl, by omega, fun x hx => by cases hx; rfl, fun hx => by cases hx⟩
            · cases h
          · cases h
        · cases h
      · cases h
    · cases h
  · cases h
end
end Go.Ev

namespace Go.Ev
open Go
section
variable {P : Program} {T : Tab} {M : Mem} {ρ : Ren} {w : World} {H : Heap}

theorem addOff_ok {d : Nat} {p v : V} {x : Value} (hx : rel M ρ p x) (h : addOff d p = some v) : ∃ b o, x = .pointer (some ⟨b, o, none⟩) ∧ rel M ρ v (.pointer (some ⟨b, o + d, none⟩)) := by
  unfold addOff at h
  split at h
  · cases h
    simp only [rel] at hx ⊢
    obtain ⟨b, c, hr, rfl⟩ := hx
    exact ⟨b, _, rfl, b, c, hr, rfl⟩
  · cases h
    simp only [rel] at hx ⊢
    obtain ⟨b, o, rfl, hr⟩ := hx
    exact ⟨b, _, rfl, b, o, by rw [Nat.add_assoc _ _ d], hr⟩
  · cases h
    simp only [rel] at hx ⊢
    subst hx
    exact ⟨_, _, rfl, rfl⟩
  · cases h

theorem evFieldAddr_ok (hT : TOk P T) {ty : TypeId} {p v : V} {f : Nat} {x : Value} (hx : rel M ρ p x) (h : evFieldAddr T ty p f = some v) :
    ∃ y, (∀ w, (Instr.fieldAt ty x f).run P w = .ok y w) ∧ rel M ρ v y := by
  unfold evFieldAddr at h
  split at h
  · rename_i fs hu
    split at h
    · rename_i fd hfd
      split at h
      · rename_i n hn
        split at h
        · cases h
        · rename_i hn0
          obtain ⟨b, o, rfl, hr⟩ := addOff_ok hx h
          refine ⟨_, fun w => ?_, hr⟩
          simp [Instr.fieldAt, hT.run_und hu, hfd, Instr.sureAddr, fieldPlace, hT.run_size hn, hn0, add_none]
      · cases h
    · cases h
  · cases h

theorem evField_ok (hT : TOk P T) {ty : TypeId} {p v : V} {f : Nat} {x : Value} (hx : rel M ρ p x) (h : evField T ty p f = some v) :
    ∃ y, (∀ w, (Instr.field ty x f).run P w = .ok y w) ∧ rel M ρ v y := by
  unfold evField at h
  split at h
  · rename_i fs l hu
    split at h
    · rename_i fd hfd
      simp only [rel] at hx
      obtain ⟨cs, rfl, hcs⟩ := hx
      obtain ⟨y, hy, hr⟩ := pickAt_part hT h hcs
      exact ⟨y, fun w => by simp [Instr.field, hT.run_und hu, hfd, asAgg, hy], hr⟩
    · cases h
  · cases h

theorem evIndexAddr_ok (hT : TOk P T) {ty : TypeId} {p q v : V} {x z : Value} (hx : rel M ρ p x) (hz : rel M ρ q z) (h : evIndexAddr T ty p q = some v) :
    ∃ y, (∀ w, (Instr.indexAt ty x z).run P w = .ok y w) ∧ rel M ρ v y := by
  unfold evIndexAddr at h
  split at h
  · rename_i e n sz off len cap k j hu
    split at h
    · rename_i hc
      cases h
      simp only [rel] at hx hz
      subst hz
      obtain ⟨b, c, q, hr, rfl, hlq, hcap, hfull⟩ := hx
      refine ⟨.pointer (some ⟨b, (off + j.toNat) * sz, none⟩), fun w => ?_, by simp only [rel]; exact ⟨b, c, hr, rfl⟩⟩
      simp [Instr.indexAt, asIntOf, hT.run_und hu, hc.2.1, hc.2.2, hT.run_size hc.1, add_none, Nat.add_mul]
    · cases h
  · rename_i e sz l k j hu
    split at h
    · rename_i hc
      cases h
      simp only [rel] at hx hz
      subst hz
      obtain ⟨ad, c, rfl, hlc, hrow⟩ := hx
      obtain ⟨b, o, rfl, hr⟩ := hrow (fun e0 => by subst e0; have := hc.2; simp at this; omega)
      refine ⟨.pointer (some ⟨b, o + j.toNat * sz + 0, none⟩), fun w => ?_, by simp only [rel]; exact ⟨b, o, rfl, hr⟩⟩
      simp [Instr.indexAt, asIntOf, hT.run_und hu, hc.2.1, hc.2.2, hT.run_size hc.1, add_none]
    · cases h
  · rename_i len e x' k j hu
    split at h
    · rename_i n hn
      split at h
      · rename_i hc
        simp only [rel] at hz
        subst hz
        obtain ⟨b, o, rfl, hr⟩ := addOff_ok hx h
        refine ⟨_, fun w => ?_, hr⟩
        simp [Instr.indexAt, asIntOf, hT.run_und hu, Instr.sureAddr, hc.1, hc.2, hT.run_size hn, add_none]
      · cases h
    · cases h
  · cases h

theorem evIndex_ok (hT : TOk P T) {ty : TypeId} {p q v : V} {x z : Value} (hx : rel M ρ p x) (hz : rel M ρ q z) (h : evIndex T ty p q = some v) :
    ∃ y, (∀ w, (Instr.index ty x z).run P w = .ok y w) ∧ rel M ρ v y := by
  simp only [evIndex, nthU_eq] at h
  split at h
  · rename_i len e l k j hu
    split at h
    · rename_i n hn
      split at h
      · rename_i hc
        simp only [rel] at hx hz
        subst hz
        obtain ⟨cs, rfl, hcs⟩ := hx
        obtain ⟨y, hy, hr⟩ := pickAt_part hT h hcs
        exact ⟨y, fun w => by simp [Instr.index, asIntOf, hT.run_und hu, hc.1, hc.2, hT.run_size hn, hy], hr⟩
      · cases h
    · cases h
  · rename_i l k j hu
    split at h
    · rename_i hc
      simp only [rel] at hx hz
      subst hx hz
      cases hl : l[j.toNat]? with
      | none => simp [hl] at h
      | some c =>
        simp [hl] at h
        subst h
        refine ⟨.int .u8 c.toNat, fun w => ?_, by simp [rel]⟩
        have : (ByteArray.mk l.toArray)[j.toNat]? = some c := by
          have hlt := (List.getElem?_eq_some_iff.1 hl).1
          have hsz : j.toNat < (ByteArray.mk l.toArray).size := by simpa [ByteArray.size] using hlt
          rw [getElem?_pos (ByteArray.mk l.toArray) j.toNat hsz]
          have := (List.getElem?_eq_some_iff.1 hl).2
          rw [← this]
          rfl
        simp [Instr.index, asIntOf, hT.run_und hu, hc, this]
    · cases h
  · cases h

theorem evLen_ok (hT : TOk P T) {ty : TypeId} {p v : V} {x : Value} (hx : rel M ρ p x) (h : evLen T ty p = some v) (tys : Array TypeId) (h0 : tys[0]? = some ty) (rt : TypeId) :
    ∃ y, (∀ w, (Builtin.len_ tys rt #[x]).run P w = .ok y w) ∧ rel M ρ v y := by
  unfold evLen at h
  split at h
  · rename_i l hu
    cases h
    simp only [rel] at hx
    subst hx
    exact ⟨.int .i64 l.length, fun w => by simp [Builtin.len_, h0, hT.run_und hu, goInt]; rfl, by simp [rel]⟩
  · rename_i _ n _ hu
    cases h
    exact ⟨.int .i64 n, fun w => by simp [Builtin.len_, h0, hT.run_und hu, goInt], by simp [rel]⟩
  · rename_i e n sz off len cap hu
    cases h
    simp only [rel] at hx
    obtain ⟨b, c, k, hr, rfl, _⟩ := hx
    exact ⟨.int .i64 len, fun w => by simp [Builtin.len_, h0, hT.run_und hu, goInt], by simp [rel]⟩
  · rename_i e sz l hu
    cases h
    simp only [rel] at hx
    obtain ⟨ad, k, rfl, _⟩ := hx
    exact ⟨.int .i64 l.length, fun w => by simp [Builtin.len_, h0, hT.run_und hu, goInt], by simp [rel]⟩
  · rename_i e hu
    cases h
    simp only [rel] at hx
    subst hx
    exact ⟨.int .i64 0, fun w => by simp [Builtin.len_, h0, hT.run_und hu, goInt], by simp [rel]⟩
  · rename_i e hu
    cases h
    simp only [rel] at hx
    obtain ⟨a, c, rfl⟩ := hx
    exact ⟨.int .i64 0, fun w => by simp [Builtin.len_, h0, hT.run_und hu, goInt], by simp [rel]⟩
  · cases h

theorem evUn_ok {op : UnOp} {p v : V} {x : Value} (hx : rel M ρ p x) (h : evUn op p = some v) : ∃ y, (∀ w, (Op.unary op x).run P w = .ok y w) ∧ rel M ρ v y := by
  unfold evUn at h
  split at h
  · cases h
    simp only [rel] at hx
    subst hx
    rename_i y
    exact ⟨.bool (!y), fun w => by simp [Op.unary], by simp [rel]⟩
  · cases h
    simp only [rel] at hx
    subst hx
    rename_i k n
    exact ⟨.int k (k.wrap (0 - n)), fun w => by simp [Op.unary, Op.intArith], by simp [rel]⟩
  · rename_i k n
    simp only [rel] at hx
    subst hx
    simp only [evInt] at h
    split at h
    · rename_i u hu
      exact ⟨u, fun w => by simp [Op.unary, hu], ofSc_rel h⟩
    · cases h
  · cases h

theorem evConv_ok (hT : TOk P T) {src dst : TypeId} {p v : V} {x : Value} (hx : rel M ρ p x) (h : evConv T src dst p = some v) : ∃ y, (∀ w, (convert src dst x).run P w = .ok y w) ∧ rel M ρ v y := by
  unfold evConv at h
  split at h
  · rename_i d k kk n hs hd
    cases h
    simp only [rel] at hx
    subst hx
    exact ⟨.int k (k.wrap n), fun w => by simp [convert, hT.run_und hs, hT.run_und hd, Conv.intToInt], by simp [rel]⟩
  · rename_i d kk n hs hd
    cases h
    simp only [rel] at hx
    subst hx
    refine ⟨.string (Utf8.encode n), fun w => ?_, by simp [rel]⟩
    simp [convert, hT.run_und hs, hT.run_und hd, Conv.intToString]
  · rename_i d l hs hd
    cases h
    simp only [rel] at hx
    subst hx
    refine ⟨.string ⟨l.toArray⟩, fun w => ?_, by simp [rel]⟩
    simp [convert, hT.run_und hs, hT.run_und hd]
  · cases h
end
end Go.Ev

namespace Go.Ev
open Go
section
variable {P : Program} {T : Tab} {M : Mem} {ρ : Ren} {w : World} {H : Heap}

theorem evInt_ok {op : BinOp} {k : IntKind} {a b : Int} {v : V} (hop : op ≠ .shl ∧ op ≠ .shr) (h : evInt op k a b = some v) (xT : TypeId) :
    ∃ y, (∀ w, (binOp op xT (.int k a) (.int k b)).run P w = .ok y w) ∧ rel M ρ v y := by
  unfold evInt at h
  split at h
  case h_1 => cases h; exact ⟨.int k (k.wrap (a + b)), fun w => by simp [binOp, Op.intArith], by simp [rel]⟩
  case h_2 => cases h; exact ⟨.int k (k.wrap (a - b)), fun w => by simp [binOp, Op.intArith], by simp [rel]⟩
  case h_3 => cases h; exact ⟨.int k (k.wrap (a * b)), fun w => by simp [binOp, Op.intArith], by simp [rel]⟩
  case h_4 => cases h; exact ⟨.bool (a == b), fun w => by simp [binOp, Op.intCmp], by simp [rel]⟩
  case h_5 => cases h; exact ⟨.bool (a != b), fun w => by simp [binOp, Op.intCmp], by simp [rel]⟩
  case h_6 => cases h; exact ⟨.bool (decide (a < b)), fun w => by simp [binOp, Op.intCmp], by simp [rel]⟩
  case h_7 => cases h; exact ⟨.bool (decide (a ≤ b)), fun w => by simp [binOp, Op.intCmp], by simp [rel]⟩
  case h_8 => cases h; exact ⟨.bool (decide (a > b)), fun w => by simp [binOp, Op.intCmp], by simp [rel]⟩
  case h_9 => cases h; exact ⟨.bool (decide (a ≥ b)), fun w => by simp [binOp, Op.intCmp], by simp [rel]⟩
  case h_16 => cases h
  all_goals
    first
      | (split at h
         · cases h
         · split at h
           · rename_i u hu
             exact ⟨u, fun w => by simp [binOp, hu], ofSc_rel h⟩
           · cases h)
      | (split at h
         · rename_i u hu
           exact ⟨u, fun w => by simp [binOp, hu], ofSc_rel h⟩
         · cases h)

theorem evShift_ok {op : BinOp} {k k' : IntKind} {a b : Int} {v : V} (hop : op = .shl ∨ op = .shr) (h : evShift op k a k' b = some v) (xT : TypeId) :
    ∃ y, (∀ w, (binOp op xT (.int k a) (.int k' b)).run P w = .ok y w) ∧ rel M ρ v y := by
  unfold evShift at h
  split at h
  · rename_i u hu
    refine ⟨u, fun w => ?_, ofSc_rel h⟩
    rcases hop with rfl | rfl <;> simp [binOp, hu]
  · cases h

theorem evStr_ok {op : BinOp} {a b : List UInt8} {v : V} (h : evStr op a b = some v) (xT : TypeId) :
    ∃ y, (∀ w, (binOp op xT (.string ⟨a.toArray⟩) (.string ⟨b.toArray⟩)).run P w = .ok y w) ∧ rel M ρ v y := by
  simp only [evStr, eqU_eq] at h
  split at h
  · split at h
    · rename_i hc
      cases h
      refine ⟨.string ⟨(a ++ b).toArray⟩, fun w => ?_, by simp [rel]⟩
      have h1 : (ByteArray.mk a.toArray).size = a.length := rfl
      have h2 : (ByteArray.mk b.toArray).size = b.length := rfl
      have h3 : (ByteArray.mk a.toArray) ++ (ByteArray.mk b.toArray) = ⟨(a ++ b).toArray⟩ := by
        apply ByteArray.ext
        simp
      have h4 : ¬ ((a.length + b.length : Nat) : Int) > IntKind.i64.max := by
        rw [show IntKind.i64.max = 9223372036854775807 from rfl]; omega
      simp only [binOp, Op.stringOp, h1, h2, if_neg h4, h3, Sem.run_pure]
    · cases h
  all_goals first
    | (cases h; refine ⟨.bool _, fun w => ?_, by simp only [rel]; rfl⟩; simp [binOp, Op.stringOp]; done)
    | cases h

theorem eqGuard_ok {op : BinOp} {t : TypeId} {x y : Operand} {a b : Value} (h1 : ¬ (a = .nilIface ∧ b = .nilIface)) (h2 : ∀ c d, ¬ (a = .agg c ∧ b = .agg d)) (w : World) : (eqGuard op t x y a b).run P w = .ok () w := by
  have key : ∀ (X : Sem Unit) (Y : Array Value → Array Value → Sem Unit), (match a, b with | .nilIface, .nilIface => X | .agg c, .agg d => Y c d | _, _ => (Pure.pure () : Sem Unit)).run P w = .ok () w := by
    intro X Y
    split
    · exact absurd ⟨rfl, rfl⟩ h1
    · exact absurd ⟨rfl, rfl⟩ (h2 _ _)
    · simp
  unfold eqGuard
  split
  all_goals first
    | (simp; done)
    | (simp only [Bool.not_true, Bool.false_eq_true, if_false]; exact key _ (fun _ _ => _))

theorem evEq_ok {t : TypeId} {d : TypeDesc} (hd : P.underlying t = some d) {p q : V} {r : Bool} {x y : Value} (hx : rel M ρ p x) (hy : rel M ρ q y) (h : evEq (some d) p q = some r) :
    (∀ w, (Op.equal t x y).run P w = .ok r w) ∧ ¬ (x = .nilIface ∧ y = .nilIface) ∧ (∀ c d, ¬ (x = .agg c ∧ y = .agg d)) ∧ (∀ k n, x ≠ .int k n) ∧ (∀ l, x ≠ .string l) ∧ (∀ k n, x ≠ .float k n) ∧ (∀ k n m, x ≠ .complex k n m) := by
  unfold evEq at h
  have run1 : ∀ {a b : Value} {r : Bool}, (∀ d w, (Op.equalIn (d + 1) t a b).run P w = .ok r w) → ∀ w, (Op.equal t a b).run P w = .ok r w := fun hh w => hh 9999 w
  split at h <;> first
    | (cases h; done)
    | (split at h
       · cases h
       · rename_i heq hne
         cases heq
         cases h
         simp only [rel] at hx hy
         first
           | (subst hx; obtain ⟨_, _, rfl, _, h3⟩ := hy; obtain ⟨_, _, rfl, _⟩ := h3 (by simpa using hne); exact ⟨run1 fun d w => by simp [Op.equalIn, run_underlying hd], by simp, by simp, by simp, by simp, by simp, by simp⟩)
           | (subst hy; obtain ⟨_, _, rfl, _, h3⟩ := hx; obtain ⟨_, _, rfl, _⟩ := h3 (by simpa using hne); exact ⟨run1 fun d w => by simp [Op.equalIn, run_underlying hd], by simp, by simp, by simp, by simp, by simp, by simp⟩))
    | (rename_i heq; cases heq; cases h
       simp only [rel] at hx hy
       first
         | (subst hx hy; exact ⟨run1 fun d w => by simp [Op.equalIn, run_underlying hd], by simp, by simp, by simp, by simp, by simp, by simp⟩)
         | (subst hx; obtain ⟨_, _, rfl⟩ := hy; exact ⟨run1 fun d w => by simp [Op.equalIn, run_underlying hd], by simp, by simp, by simp, by simp, by simp, by simp⟩)
         | (subst hx; obtain ⟨_, _, rfl, _⟩ := hy; exact ⟨run1 fun d w => by simp [Op.equalIn, run_underlying hd], by simp, by simp, by simp, by simp, by simp, by simp⟩)
         | (subst hy; obtain ⟨_, _, rfl⟩ := hx; exact ⟨run1 fun d w => by simp [Op.equalIn, run_underlying hd], by simp, by simp, by simp, by simp, by simp, by simp⟩)
         | (subst hy; obtain ⟨_, _, rfl, _⟩ := hx; exact ⟨run1 fun d w => by simp [Op.equalIn, run_underlying hd], by simp, by simp, by simp, by simp, by simp, by simp⟩)
         | (subst hx; obtain ⟨_, _, _, rfl⟩ := hy; exact ⟨run1 fun d w => by simp [Op.equalIn, run_underlying hd], by simp, by simp, by simp, by simp, by simp, by simp⟩)
         | (subst hy; obtain ⟨_, _, _, rfl⟩ := hx; exact ⟨run1 fun d w => by simp [Op.equalIn, run_underlying hd], by simp, by simp, by simp, by simp, by simp, by simp⟩)
         | (subst hx; obtain ⟨_, _, _, _, rfl, _⟩ := hy; exact ⟨run1 fun d w => by simp [Op.equalIn, run_underlying hd], by simp, by simp, by simp, by simp, by simp, by simp⟩)
         | (subst hy; obtain ⟨_, _, _, _, rfl, _⟩ := hx; exact ⟨run1 fun d w => by simp [Op.equalIn, run_underlying hd], by simp, by simp, by simp, by simp, by simp, by simp⟩)
         | (subst hx; obtain ⟨_, rfl, _⟩ := hy; exact ⟨run1 fun d w => by simp [Op.equalIn, run_underlying hd], by simp, by simp, by simp, by simp, by simp, by simp⟩)
         | (subst hy; obtain ⟨_, rfl, _⟩ := hx; exact ⟨run1 fun d w => by simp [Op.equalIn, run_underlying hd], by simp, by simp, by simp, by simp, by simp, by simp⟩))

theorem evEqT_ok (hT : TOk P T) {t : TypeId} {p q : V} {r : Bool} {x y : Value} (hx : rel M ρ p x) (hy : rel M ρ q y) (h : evEqT T t p q = some r) :
    (∀ w, (Op.equal t x y).run P w = .ok r w) ∧ ¬ (x = .nilIface ∧ y = .nilIface) ∧ (∀ c d, ¬ (x = .agg c ∧ y = .agg d)) ∧ (∀ k n, x ≠ .int k n) ∧ (∀ l, x ≠ .string l) ∧ (∀ k n, x ≠ .float k n) ∧ (∀ k n m, x ≠ .complex k n m) := by
  unfold evEqT at h
  split at h
  · rename_i n o m q
    split at h
    · rename_i e hu
      split at h
      · rename_i s hs
        split at h
        · rename_i hc
          obtain ⟨hs0, rfl⟩ := hc
          cases h
          simp only [rel] at hx hy
          obtain ⟨b, c, hr, rfl⟩ := hx
          obtain ⟨b', c', hr', rfl⟩ := hy
          rw [hr] at hr'
          cases hr'
          refine ⟨fun w => ?_, by simp, by simp, by simp, by simp, by simp, by simp⟩
          have : ∀ d w, (Op.equalIn (d + 1) t (.pointer (some ⟨b, o, none⟩)) (.pointer (some ⟨b, q, none⟩))).run P w = .ok (o == q) w := by
            intro d w
            have he : ((⟨b, o, none⟩ : Addr) == ⟨b, q, none⟩) = (o == q) := by
              rw [Bool.eq_iff_iff]
              simp
            simp [Op.equalIn, run_underlying (hT.und _ _ hu), hT.run_size hs, hs0, sameAddr, he]
          exact this 9999 w
        · cases h
      · cases h
    · cases h
  · cases hd : T.und t with
    | none => simp [hd, evEq] at h
    | some d =>
      rw [hd] at h
      exact evEq_ok (hT.und _ _ hd) hx hy h

theorem evBin_ok (hT : TOk P T) {op : BinOp} {xT : TypeId} {p q v : V} {x y : Value} (hx : rel M ρ p x) (hy : rel M ρ q y) (h : evBin T op xT p q = some v) (ox oy : Operand) :
    ∃ z, (∀ w, (do eqGuard op xT ox oy x y; binOp op xT x y : Sem Value).run P w = .ok z w) ∧ rel M ρ v z := by
  unfold evBin at h
  split at h
  · rename_i k a k' b
    simp only [rel] at hx hy
    subst hx hy
    have hg := fun w => eqGuard_ok (P := P) (op := op) (t := xT) (x := ox) (y := oy) (a := .int k a) (b := .int k' b) (by simp) (by simp) w
    split at h
    · obtain ⟨z, hz, hr⟩ := evShift_ok (P := P) (M := M) (ρ := ρ) (.inl rfl) h xT
      exact ⟨z, fun w => by simp [hg, hz], hr⟩
    · obtain ⟨z, hz, hr⟩ := evShift_ok (P := P) (M := M) (ρ := ρ) (.inr rfl) h xT
      exact ⟨z, fun w => by simp [hg, hz], hr⟩
    · rename_i h1 h2
      split at h
      · rename_i hk
        subst hk
        obtain ⟨z, hz, hr⟩ := evInt_ok (P := P) (M := M) (ρ := ρ) ⟨fun e => h1 e, fun e => h2 e⟩ h xT
        exact ⟨z, fun w => by simp [hg, hz], hr⟩
      · cases h
  · rename_i a b
    simp only [rel] at hx hy
    subst hx hy
    have hg := fun w => eqGuard_ok (P := P) (op := op) (t := xT) (x := ox) (y := oy) (a := .string ⟨a.toArray⟩) (b := .string ⟨b.toArray⟩) (by simp) (by simp) w
    obtain ⟨z, hz, hr⟩ := evStr_ok (P := P) (M := M) (ρ := ρ) h xT
    exact ⟨z, fun w => by simp [hg, hz], hr⟩
  · have hb : ∀ {op' : BinOp} {r : Bool}, (op' = .eql ∨ op' = .neq) → evEqT T xT p q = some r → (∀ w, (Op.equal xT x y).run P w = .ok r w) ∧ (∀ w, (eqGuard op' xT ox oy x y).run P w = .ok () w) ∧ (binOp .eql xT x y = do Pure.pure (.bool (← Op.equal xT x y))) ∧ (binOp .neq xT x y = do Pure.pure (.bool (!(← Op.equal xT x y)))) := by
      intro op' r hop he
      obtain ⟨e1, e2, e3, e4, e5, e6, e7⟩ := evEqT_ok hT hx hy he
      refine ⟨e1, fun w => eqGuard_ok e2 e3 w, ?_, ?_⟩
      · unfold binOp
        cases x <;> first | (exfalso; exact e4 _ _ rfl) | (exfalso; exact e5 _ rfl) | (exfalso; exact e6 _ _ rfl) | (exfalso; exact e7 _ _ _ rfl) | rfl
      · unfold binOp
        cases x <;> first | (exfalso; exact e4 _ _ rfl) | (exfalso; exact e5 _ rfl) | (exfalso; exact e6 _ _ rfl) | (exfalso; exact e7 _ _ _ rfl) | rfl
    split at h
    · cases he : evEqT T xT p q with
      | none => simp [he] at h
      | some r =>
        simp [he] at h
        subst h
        obtain ⟨e1, e2, e3, _⟩ := hb (.inl rfl) he
        exact ⟨.bool r, fun w => by rw [e3]; simp [e1, e2], by simp [rel]⟩
    · cases he : evEqT T xT p q with
      | none => simp [he] at h
      | some r =>
        simp [he] at h
        subst h
        obtain ⟨e1, e2, _, e4⟩ := hb (.inr rfl) he
        exact ⟨.bool (!r), fun w => by rw [e4]; simp [e1, e2], by simp [rel]⟩
    · cases h
end
end Go.Ev

namespace Go.Ev
open Go
section
variable {P : Program} {T : Tab} {M : Mem} {ρ : Ren} {w : World} {H : Heap}

theorem firstCells_ok (hS : SR T M ρ H w) {e : TypeId} {sz : Nat} {q : V} {x : Value} (hx : rel M ρ q x) {new : List V} {k : Nat} (h : appended T e sz H q = some (new, k)) :
    ∃ cs, (Builtin.firstCells sz k x).run P w = .ok cs.toArray w ∧ (Builtin.lenOf x).run P w = .ok k w ∧ relL M ρ new cs ∧ new.length = k * sz := by
  unfold appended at h
  split at h
  · rename_i n s off len cap
    split at h
    · rename_i hs
      subst hs
      split at h
      · rename_i blk hb
        cases hc : cut blk.cells (off * s) (len * s) with
        | none => simp [hc] at h
        | some c =>
          simp [hc] at h
          obtain ⟨rfl, rfl⟩ := h
          simp only [rel] at hx
          obtain ⟨b, c', q, hr, rfl, _⟩ := hx
          obtain ⟨b', c'', cs, cs', hr', _, _, hheap, hrel, _⟩ := hS.cells hb
          rw [hr] at hr'
          cases hr'
          have hm : InMem M ρ w b (off * s) c := fun j u hj => by
            obtain ⟨y, hy, hyr⟩ := relL_get hrel (cut_get hc hj)
            refine ⟨y, ?_, hyr⟩
            rw [cell_of_heap hheap, List.getElem?_append_left (List.getElem?_eq_some_iff.1 hy).1]
            exact hy
          obtain ⟨ds, hds, hcell⟩ := hm.vals
          have hl := cut_length hc
          exact ⟨ds, by simpa [Builtin.firstCells] using run_loadCells (P := P) b (off * s) (len * s) ds (by rw [relL_length hds, hl]) hcell, by simp [Builtin.lenOf], hds, hl⟩
      · cases h
    · cases h
  · rename_i s l
    split at h
    · rename_i hc
      obtain ⟨rfl, hall⟩ := hc
      cases h
      simp only [rel] at hx
      obtain ⟨a, k, rfl, hlk, hrow⟩ := hx
      by_cases hl : l = []
      · subst hl
        refine ⟨[], ?_, by simp [Builtin.lenOf], by simp [relL], by simp⟩
        cases a <;> simp [Builtin.firstCells, loadCells, loadCellsFrom]
      · obtain ⟨b, o, rfl, hr⟩ := hrow hl
        have hlen : ∀ l : List V, l.all (fun v => v.cells.length = s) = true → (l.flatMap V.cells).length = l.length * s := by
          intro l
          induction l with
          | nil => simp
          | cons v l ih =>
            intro h
            simp only [List.all_cons, Bool.and_eq_true, decide_eq_true_eq] at h
            simp only [List.flatMap_cons, List.length_append, h.1, ih h.2, List.length_cons]
            rw [Nat.succ_mul]; omega
        have hin : ∀ (l : List V) (o : Nat), l.all (fun v => v.cells.length = s) = true → relRow M ρ s l b o → InMem M ρ w b o (l.flatMap V.cells) := by
          intro l
          induction l with
          | nil => intro o _ _ j u hj; simp at hj
          | cons v l ih =>
            intro o hall hrow j u hj
            simp only [List.all_cons, Bool.and_eq_true, decide_eq_true_eq] at hall
            simp only [relRow] at hrow
            obtain ⟨⟨x, hx, hsz, hcell⟩, hrest⟩ := hrow
            simp only [List.flatMap_cons] at hj
            by_cases hlt : j < v.cells.length
            · rw [List.getElem?_append_left hlt] at hj
              obtain ⟨z, hz, hzr⟩ := relL_get (rel_cells hx) hj
              exact ⟨z, frozen_cell hS (hcell j z (by simpa using hz)), hzr⟩
            · rw [List.getElem?_append_right (by omega)] at hj
              obtain ⟨z, hz, hzr⟩ := ih (o + s) hall.2 hrest (j - v.cells.length) u hj
              refine ⟨z, ?_, hzr⟩
              rw [← hz]
              congr 2
              omega
        obtain ⟨ds, hds, hcell⟩ := (hin l o hall hr).vals
        have hl2 := hlen l hall
        exact ⟨ds, by simpa [Builtin.firstCells] using run_loadCells (P := P) b o (l.length * s) ds (by rw [relL_length hds, hl2]) hcell, by simp [Builtin.lenOf], hds, hl2⟩
    · cases h
  · cases h
    simp only [rel] at hx
    subst hx
    exact ⟨[], by simp [Builtin.firstCells], by simp [Builtin.lenOf], by simp [relL], by simp⟩
  · cases h
    simp only [rel] at hx
    obtain ⟨a, c, rfl⟩ := hx
    exact ⟨[], by simp [Builtin.firstCells, loadCells, loadCellsFrom], by simp [Builtin.lenOf], by simp [relL], by simp⟩
  · rename_i l
    split at h
    · rename_i hsz
      cases h
      subst hsz
      simp only [rel] at hx
      subst hx
      refine ⟨l.map fun c => .int .u8 c.toNat, ?_, by simp [Builtin.lenOf, ByteArray.size], ?_, by simp⟩
      · have : (ByteArray.mk l.toArray).extract 0 l.length = ⟨l.toArray⟩ := by rw [Lib.extract_eq]; simp
        simp [Builtin.firstCells, this]
      · have : ∀ l : List UInt8, relL M ρ (l.map fun c => V.i .u8 c.toNat) (l.map fun c => Value.int .u8 c.toNat) := by
          intro l
          induction l with
          | nil => simp [relL]
          | cons c l ih => exact relL_cons (by simp [rel]) ih
        exact this l
    · cases h
  · cases h

theorem nextcap_le (need cap : Nat) (h : cap < need) : Builtin.nextslicecap need cap ≤ 2 * need + 2000 := by
  unfold Builtin.nextslicecap
  split
  · omega
  · split
    · omega
    · have : ∀ (n c : Nat), c ≤ need → Builtin.growBy need n c ≤ 2 * need + 2000 := by
        intro n
        induction n with
        | zero => intro c hc; simp only [Builtin.growBy]; omega
        | succ n ih =>
          intro c hc
          simp only [Builtin.growBy]
          split
          · omega
          · by_cases hle : c + (c + 768) / 4 ≤ need
            · exact ih _ hle
            · cases n with
              | zero => simp only [Builtin.growBy]; omega
              | succ n =>
                simp only [Builtin.growBy]
                rw [if_pos (by omega)]
                omega
      exact this 4 cap (by omega)

/-- The run of an append that must grow. -/
theorem run_grow (hT : TOk P T) {ty e : TypeId} {sz bs : Nat} {z : V} (hu : T.und ty = some (.slice e)) (hs : T.size e = some sz) (hb : T.bytes e = some bs) (hz : T.zero e = some z) (hzl : z.cells.length = sz) (hbs1 : bs ≤ 1000000)
    (tys : Array TypeId) (h0 : tys[0]? = some ty) {t1 : TypeId} {d1 : TypeDesc} (h1 : tys[1]? = some t1) (hd1 : P.underlying t1 = some d1) (hd2 : (∃ e', d1 = .slice e') ∨ d1 = .string) (rt : TypeId)
    {base : Option Addr} {len c k : Nat} {x : Value} {old new : List Value} (hx : (Builtin.lenOf x).run P w = .ok k w) (hgt : c < len + k) (hbs : (len + k) * bs ≤ 1099511627776) (hle : len + k ≤ 1099511627776)
    (hold : (Builtin.firstCells sz len (.slice base len c)).run P w.drew = .ok old.toArray w.drew) (hnew : (Builtin.firstCells sz k x).run P w.drew = .ok new.toArray w.drew) :
    ∃ (cap : Nat) (rest : List Value), len + k ≤ cap ∧ rest.length = (cap - (len + k)) * sz ∧
      (Builtin.append_ tys rt #[.slice base len c, x]).run P w = .ok (.slice (some ⟨w.heap.size, 0, none⟩) (len + k) cap) (w.drew.alloc (.cells (old ++ new ++ rest).toArray e)) := by
  obtain ⟨zv, hzv, hzr⟩ := hT.run_zero hz
  obtain ⟨i, hi, hir⟩ := hT.run_info hb
  have hzsz : zv.cells.size = sz := by
    have := relL_length (rel_cells (ofVal_rel (M := fun _ => none) (ρ := []) hzv))
    simp at this
    omega
  have hn := nextcap_le (len + k) c hgt
  have hcap : ¬ Builtin.nextslicecap (len + k) c * i.bytes > 2 ^ 48 := by
    rw [hi]
    have : Builtin.nextslicecap (len + k) c * bs ≤ (2 * (len + k) + 2000) * bs := Nat.mul_le_mul_right _ hn
    have h2 : (2 * (len + k) + 2000) * bs = 2 * ((len + k) * bs) + 2000 * bs := by rw [Nat.add_mul, Nat.mul_assoc]
    omega
  have hnc : ¬ len + k ≤ c := by omega
  have hmax : ¬ (((len + k : Nat) : Int) > IntKind.i64.max) := by
    rw [show IntKind.i64.max = 9223372036854775807 from rfl]; omega
  let cap := (Question.appendCap (len + k) c e).cut (w.tape w.drawn (.appendCap (len + k) c e))
  have hc1 : len + k ≤ cap := by show len + k ≤ len + k + _; omega
  refine ⟨cap, (Builtin.zeroCells zv.cells (cap - (len + k))).toList, hc1, by simp [Builtin.zeroCells, hzsz], ?_⟩
  have hroom : ∀ n w, (askRoom n).run P w = .ok () w := by
    intro n w
    unfold askRoom
    split <;> simp [mark, Sem.run]
  have hch : (choose (.appendCap (len + k) c e)).run P w = .ok cap w.drew := by simp [choose, Sem.run, Question.forced]; rfl
  have hi0 : ¬ (((len + k : Nat) : Int) > IntKind.i64.max ∧ (False ∨ i.bytes = 0)) := fun h => hmax h.1
  obtain ⟨a1, _, _⟩ : (newRow e (old ++ new ++ (Builtin.zeroCells zv.cells (cap - (len + k))).toList).toArray).run P w.drew = .ok ⟨w.heap.size, 0, none⟩ (w.drew.alloc (.cells (old ++ new ++ (Builtin.zeroCells zv.cells (cap - (len + k))).toList).toArray e)) ∧ True ∧ True := ⟨by simp [newRow, newObj, Sem.run]; rfl, trivial, trivial⟩
  have hsum : old.toArray ++ new.toArray ++ Builtin.zeroCells zv.cells (cap - (len + k)) = (old ++ new ++ (Builtin.zeroCells zv.cells (cap - (len + k))).toList).toArray := by simp
  rcases hd2 with ⟨e', rfl⟩ | rfl <;>
    simp only [Builtin.append_, h0, h1, List.getElem?_toArray, List.getElem?_cons_zero, List.getElem?_cons_succ, Sem.run_bind, hT.run_und hu, Result.andThen_ok, hT.run_size hs, run_underlying hd1, Sem.run_pure, hx, Bool.false_eq_true, if_false, if_neg hnc, hir, if_neg hi0, if_neg hcap, hch, hroom, hold, Bool.not_false, if_true, hnew, hzr, hsum, a1]

/-- The run of an append within the capacity. -/
theorem run_within (hT : TOk P T) {ty e : TypeId} {sz : Nat} (hu : T.und ty = some (.slice e)) (hs : T.size e = some sz)
    (tys : Array TypeId) (h0 : tys[0]? = some ty) {t1 : TypeId} {d1 : TypeDesc} (h1 : tys[1]? = some t1) (hd1 : P.underlying t1 = some d1) (hd2 : (∃ e', d1 = .slice e') ∨ d1 = .string) (rt : TypeId)
    {base : Option Addr} {len c k : Nat} {x : Value} {new : List Value} (hx : (Builtin.lenOf x).run P w = .ok k w) (hle : len + k ≤ c)
    (hnew : (Builtin.firstCells sz k x).run P w = .ok new.toArray w) {w' : World} (hst : ∀ a, base = some a → (storeCells (a.add (len * sz)) new).run P w = .ok () w') (hn : base = none → w' = w) :
    (Builtin.append_ tys rt #[.slice base len c, x]).run P w = .ok (.slice base (len + k) c) w' := by
  rcases hd2 with ⟨e', rfl⟩ | rfl
  all_goals
    simp only [Builtin.append_, h0, h1, List.getElem?_toArray, List.getElem?_cons_zero, List.getElem?_cons_succ, Sem.run_bind, hT.run_und hu, Result.andThen_ok, hT.run_size hs, run_underlying hd1, Sem.run_pure, hx, Bool.false_eq_true, if_false, if_pos hle, Bool.not_false, if_true, hnew]
    cases base with
    | none => simp [hn rfl]
    | some a => simp [hst a rfl]

theorem SR.kill (hS : SR T M ρ H w) (n : Nat) : SR T M ρ (H.set n none) w := by
  have hget : ∀ {m : Nat} {z : Blk}, (H.set n none)[m]? = some (some z) → H[m]? = some (some z) := by
    intro m z hm
    by_cases e : m = n
    · subst e
      rw [List.getElem?_set] at hm
      split at hm
      · split at hm
        · cases hm
        · cases hm
      · rename_i h; exact absurd rfl h
    · rw [List.getElem?_set_ne (fun h => e h.symm)] at hm
      exact hm
  exact ⟨hS.frozen, by simp [hS.len], fun m z hm => hS.blk m z (hget hm), fun m k x y b c c' hm hk => hS.inj m k x y b c c' (hget hm) (hget hk), hS.glob⟩

/-- A name given anew to a block whose elder name is struck. -/
theorem SR.rename (hS : SR T M ρ H w) {n : Nat} {blk : Blk} (hb : H[n]? = some (some blk)) {b c : Nat} (hr : ρ[n]? = some (b, c)) : SR T M (ρ ++ [(b, c)]) (H.set n none ++ [some blk]) w := by
  have hpre : ρ <+: ρ ++ [(b, c)] := List.prefix_append _ _
  obtain ⟨b', c', hr', hMb, hlt, hok⟩ := hS.blk n blk hb
  rw [hr] at hr'
  cases hr'
  have hK := hS.kill n
  have hget : ∀ {m : Nat} {z : Blk}, (H.set n none ++ [some blk])[m]? = some (some z) → ((H.set n none)[m]? = some (some z) ∧ m < H.length) ∨ (m = H.length ∧ z = blk) := by
    intro m z hm
    rcases Nat.lt_trichotomy m H.length with hlt | heq | hgt
    · rw [List.getElem?_append_left (by simpa using hlt)] at hm; exact .inl ⟨hm, hlt⟩
    · subst heq
      rw [List.getElem?_append_right (by simp)] at hm
      simp at hm
      exact .inr ⟨rfl, hm.symm⟩
    · rw [List.getElem?_eq_none (by simp; omega)] at hm; cases hm
  have hne : ∀ {m : Nat} {z : Blk}, (H.set n none)[m]? = some (some z) → m ≠ n ∧ H[m]? = some (some z) := by
    intro m z hm
    by_cases e : m = n
    · subst e
      have hlt := (List.getElem?_eq_some_iff.1 hb).1
      rw [List.getElem?_set_self hlt] at hm
      cases hm
    · rw [List.getElem?_set_ne (fun h => e h.symm)] at hm
      exact ⟨e, hm⟩
  refine ⟨hS.frozen, by simp [hS.len], ?_, ?_, ?_⟩
  · intro m z hm
    rcases hget hm with ⟨hm, _⟩ | ⟨rfl, rfl⟩
    · obtain ⟨b2, c2, h1, h2, h3, h4⟩ := hK.blk m z hm
      exact ⟨b2, c2, pre_get hpre h1, h2, h3, h4.mono (Mem.le.refl _) hpre⟩
    · exact ⟨b, c, by rw [← hS.len]; simp, hMb, hlt, hok.mono (Mem.le.refl _) hpre⟩
  · intro m k x y b2 c2 c3 hm hk h2 h3
    have hold : ∀ {j : Nat} {q : Nat}, j < H.length → (ρ ++ [(b, c)])[j]? = some (b2, q) → ρ[j]? = some (b2, q) := by
      intro j q hj hq
      rw [List.getElem?_append_left (by rw [hS.len]; exact hj)] at hq
      exact hq
    have hend : ∀ {q : Nat}, (ρ ++ [(b, c)])[H.length]? = some (b2, q) → b2 = b := by
      intro q hq
      rw [← hS.len] at hq
      simp at hq
      exact hq.1.symm
    rcases hget hm with ⟨hm', hml⟩ | ⟨em, zm⟩ <;> rcases hget hk with ⟨hk', hkl⟩ | ⟨ek, zk⟩
    · exact hK.inj m k x y b2 c2 c3 hm' hk' (hold hml h2) (hold hkl h3)
    · obtain ⟨g1, g2⟩ := hne hm'
      subst ek
      have := hend h3
      subst this
      exact absurd (hS.inj m n x blk b2 c2 c g2 hb (hold hml h2) hr) g1
    · obtain ⟨g1, g2⟩ := hne hk'
      subst em
      have := hend h2
      subst this
      exact absurd (hS.inj k n y blk b2 c3 c g2 hb (hold hkl h3) hr) g1
    · rw [em, ek]
  · intro g l hg
    obtain ⟨ds, ty', fr, hMg, hrel⟩ := hS.glob g l hg
    exact ⟨ds, ty', fr, hMg, relL_mono (Mem.le.refl _) hpre _ _ hrel⟩
theorem Ext.rename {b c : Nat} (h : ∃ c', (b, c') ∈ ρ) : Ext M ρ w M (ρ ++ [(b, c)]) w :=
  ⟨rfl, rfl, rfl, Nat.le_refl _, Mem.le.refl _, List.prefix_append _ _, fun _ _ _ => rfl, fun _ _ _ => rfl, fun b' c' h' => by
    simp only [List.mem_append, List.mem_singleton, Prod.mk.injEq] at h'
    rcases h' with h' | ⟨rfl, _⟩
    · exact .inl ⟨c', h'⟩
    · exact .inl h⟩

/-- A row that has room behind what is known of it: the cells behind are written and then known. -/
theorem SR.extend (hS : SR T M ρ H w) {n : Nat} {blk : Blk} (hb : cellsAt H n = some blk) {l : List V} {xs : List Value} (hl : relL M ρ l xs) {b c : Nat} (hr : ρ[n]? = some (b, c)) (hfit : blk.cells.length + l.length ≤ c) (hf : l.all flat = true) :
    ∃ w', (storeCells ⟨b, blk.cells.length, none⟩ xs).run P w = .ok () w' ∧ Ext M ρ w M ρ w' ∧ SR T M ρ (H.set n (some { blk with cells := blk.cells ++ l, kind := .more })) w' := by
  obtain ⟨hb0, hkind⟩ := cellsAt_some hb
  obtain ⟨b', c', cs, cs', hr', hMb, hc, hheap, hrel, hall⟩ := hS.cells hb
  rw [hr] at hr'
  cases hr'
  have hxl := relL_length hl
  have hcl := relL_length hrel
  obtain ⟨h1, h2⟩ := run_storeCells (P := P) xs blk.cells.length 0 w (cs ++ cs') hheap (by omega) (all_flat hl hf)
  simp only [Nat.add_zero] at h1 h2
  obtain ⟨s1, s2, s3, s4⟩ := putCells_size (b := b) xs blk.cells.length w
  refine ⟨_, h1, ⟨s2, s3, s4, by omega, Mem.le.refl _, List.prefix_refl _, fun k hk hn => putCells_ne (fun e => hn c (by rw [e]; exact List.mem_of_getElem? hr)) _ _ _, fun _ _ _ => rfl, fun _ q hq => .inl ⟨q, hq⟩⟩, ?_⟩
  refine hS.upd hb0 hr (fun k hk => putCells_ne hk _ _ _) s1 (BlkOK.of_cells (by simp) ⟨cs ++ xs, cs'.drop xs.length, ?_, ?_, relL_append hrel hl, fun e => by cases e⟩)
  · simp only [List.length_append, List.length_drop] at hc ⊢
    omega
  · rw [h2]
    have e1 : (cs ++ cs').take blk.cells.length = cs := by rw [← hcl]; simp
    have e2 : (cs ++ cs').drop (blk.cells.length + xs.length) = cs'.drop xs.length := by rw [← hcl]; simp [List.drop_append]
    rw [e1, e2]
end
end Go.Ev

namespace Go.Ev
open Go
section
variable {P : Program} {T : Tab} {M : Mem} {ρ : Ren} {w : World} {H : Heap}

theorem firstCells_named (hS : SR T M ρ H w) {n sz off len : Nat} {cap : Option Nat} {x : Value} (hx : rel M ρ (.sl n sz off len cap) x) {blk : Blk} (hb : cellsAt H n = some blk) {old : List V} (hc : cut blk.cells (off * sz) (len * sz) = some old) :
    ∃ cs, (Builtin.firstCells sz len x).run P w = .ok cs.toArray w ∧ relL M ρ old cs := by
  obtain ⟨cs, h1, _, h2, _⟩ := firstCells_ok (P := P) (T := T) hS (e := 0) (sz := sz) hx (new := old) (k := len) (by simp [appended, hb, hc])
  exact ⟨cs, h1, h2⟩

theorem evAppend_ok (hT : TOk P T) (hS : SR T M ρ H w) {ty : TypeId} {s q v : V} {H' : Heap} {x y : Value} (hx : rel M ρ s x) (hy : rel M ρ q y) (h : evAppend T ty s q H = .val v H')
    (tys : Array TypeId) (h0 : tys[0]? = some ty) {t1 : TypeId} {d1 : TypeDesc} (h1 : tys[1]? = some t1) (hd1 : P.underlying t1 = some d1) (hd2 : (∃ e', d1 = .slice e') ∨ d1 = .string) (rt : TypeId) :
    OpOK P T (Builtin.append_ tys rt #[x, y]) M ρ w v H' := by
  unfold evAppend at h
  simp only [newB_eq, setB_eq, setK_eq] at h
  split at h
  case h_2 => cases h
  rename_i e hu
  split at h
  case h_2 => cases h
  rename_i sz bs z hs hb hz
  split at h
  case h_2 => cases h
  rename_i new k hap
  split at h
  case isFalse => cases h
  rename_i hc
  obtain ⟨hpos, hzl, hbs1, hnf⟩ := hc
  obtain ⟨cs, f1, f2, f3, f4⟩ := firstCells_ok (P := P) hS hy hap
  have hSd : SR T M ρ H w.drew := hS.drew
  obtain ⟨csd, g1, _, g3, _⟩ := firstCells_ok (P := P) hSd hy hap
  split at h
  · -- nil
    simp only [rel] at hx
    subst hx
    split at h
    · rename_i hk
      cases h
      subst hk
      have hnil : cs = [] := by
        have := relL_length f3
        rw [f4] at this
        exact List.eq_nil_of_length_eq_zero (by simpa using this)
      subst hnil
      have hr := run_within hT hu hs tys h0 h1 hd1 hd2 rt (base := none) (len := 0) (c := 0) f2 (Nat.le_refl _) f1 (w' := w) (fun a ha => by cases ha) (fun _ => rfl)
      exact OpOK.pure hS hr (by simp [rel])
    · split at h
      · rename_i hk hbd
        cases h
        obtain ⟨cap, rest, c1, c2, c3⟩ := run_grow (w := w) hT hu hs hb hz hzl hbs1 tys h0 h1 hd1 hd2 rt (base := none) (len := 0) (c := 0) (old := []) f2 (by omega) (by simpa using hbd.1) (by simpa using hbd.2) (by simp [Builtin.firstCells]) g1
        have ha := hSd.alloc hSd.lt e .more (cs := csd) (cs' := rest) g3 (.inl rfl)
        have hcl := relL_length g3
        simp only [List.nil_append, Nat.zero_add] at c3 c1 c2
        refine ⟨_, _, _, c3, (Ext.drew M ρ w).trans (Ext.alloc M ρ w.drew _ (csd ++ rest).length), ?_, ha⟩
        simp only [rel]
        refine ⟨w.heap.size, (csd ++ rest).length, cap, by rw [← hS.len, List.getElem?_concat_length]; rfl, by simp, c1, fun q hq => (by cases hq), fun _ => ?_⟩
        rw [List.length_append, hcl, f4, c2, Nat.zero_add, ← Nat.add_mul]
        congr 1
        omega
      · cases h
  · -- a named row
    rename_i n z' off len cap
    split at h
    case isFalse => cases h
    rename_i hbd
    obtain ⟨rfl, hb1, hb2⟩ := hbd
    split at h
    case h_2 => cases h
    rename_i blk hblk
    split at h
    case h_2 => cases h
    rename_i old hold
    obtain ⟨os, o1, o2⟩ := firstCells_named (P := P) hSd hx hblk hold
    have hx0 := hx
    simp only [rel] at hx
    obtain ⟨b, c, q, hr, rfl, hlq, hcap, hfull⟩ := hx
    have hol := relL_length o2
    have hol2 := cut_length hold
    split at h
    · rename_i hk
      cases h
      subst hk
      have hnil : cs = [] := by
        have := relL_length f3
        rw [f4] at this
        exact List.eq_nil_of_length_eq_zero (by simpa using this)
      subst hnil
      have hrun := run_within (w' := w) hT hu hs tys h0 h1 hd1 hd2 rt (base := some ⟨b, off * z', none⟩) (len := len) (c := q) f2 (by omega) f1 (fun a ha => by simp [storeCells]) (fun ha => by cases ha)
      exact OpOK.pure hS hrun hx0
    · rename_i hk
      split at h
      · rename_i cc
        have hqc := hcap cc rfl
        subst hqc
        split at h
        · rename_i hle
          split at h
          · rename_i hfit
            cases h
            have hfit' : (off + len) * z' + new.length ≤ blk.cells.length := by rw [f4, ← Nat.add_mul]; exact hfit
            obtain ⟨w', s1, s2, s3⟩ := hS.splice (P := P) hblk f3 hfit' hnf hr
            have hrun := run_within (w' := w') hT hu hs tys h0 h1 hd1 hd2 rt (base := some ⟨b, off * z', none⟩) (len := len) (c := q) f2 hle f1 (fun a ha => by cases ha; rw [add_none, ← Nat.add_mul]; exact s1) (fun ha => by cases ha)
            refine ⟨_, w', ρ, hrun, s2, ?_, s3⟩
            simp only [rel]
            exact ⟨b, c, q, hr, rfl, hle, hcap, hfull⟩
          · cases h
        · rename_i hle
          cases h
          obtain ⟨cap, rest, c1, c2, c3⟩ := run_grow (w := w) hT hu hs hb hz hzl hbs1 tys h0 h1 hd1 hd2 rt f2 (by omega) hb1 hb2 o1 g1
          have ha := hSd.alloc hSd.lt e .more (cs := os ++ csd) (cs' := rest) (relL_append o2 g3) (.inl rfl)
          have hcl := relL_length g3
          refine ⟨_, _, _, c3, (Ext.drew M ρ w).trans (Ext.alloc M ρ w.drew _ (os ++ csd ++ rest).length), ?_, ha⟩
          simp only [rel]
          refine ⟨w.heap.size, (os ++ csd ++ rest).length, cap, by rw [← hS.len, List.getElem?_concat_length]; rfl, by simp, c1, fun q hq => (by cases hq), fun _ => ?_⟩
          rw [List.length_append, List.length_append, hcl, hol, hol2, f4, c2, Nat.zero_add, ← Nat.add_mul, ← Nat.add_mul]
          congr 1
          omega
      · split at h
        · rename_i hcond
          obtain ⟨rfl, hwhole, hty⟩ := hcond
          cases h
          have hfq := hfull rfl
          have hcold : old = blk.cells := by
            obtain ⟨rfl, _⟩ := cut_some hold
            rw [hwhole]
            simp
          by_cases hle : len + k ≤ q
          · obtain ⟨w', s1, s2, s3⟩ := hS.extend (P := P) hblk f3 hr (by rw [← hwhole, f4, ← Nat.add_mul, ← hfq, Nat.zero_add]; exact Nat.mul_le_mul_right _ hle) hnf
            have hrun := run_within (w' := w') hT hu hs tys h0 h1 hd1 hd2 rt (base := some ⟨b, 0 * z', none⟩) (len := len) (c := q) f2 hle f1 (fun a ha => by cases ha; rw [add_none, hwhole, Nat.zero_mul, Nat.zero_add]; exact s1) (fun ha => by cases ha)
            have hlt : n < H.length := (List.getElem?_eq_some_iff.1 (cellsAt_some hblk).1).1
            have s4 := s3.rename (n := n) (blk := { blk with cells := blk.cells ++ new, kind := .more }) (by rw [List.getElem?_set_self hlt]) hr
            rw [List.set_set] at s4
            refine ⟨_, w', ρ ++ [(b, c)], hrun, s2.trans (Ext.rename (b := b) (c := c) ⟨c, List.mem_of_getElem? hr⟩), ?_, ?_⟩
            · simp only [rel]
              exact ⟨b, c, q, by rw [← hS.len]; simp, rfl, hle, fun x hx => (by cases hx), fun _ => hfq⟩
            · rw [hcold, ← hty]
              exact s4
          · obtain ⟨cap, rest, c1, c2, c3⟩ := run_grow (w := w) hT hu hs hb hz hzl hbs1 tys h0 h1 hd1 hd2 rt f2 (by omega) hb1 hb2 o1 g1
            have hSk := hSd.kill n
            have ha := hSk.alloc hSk.lt e .more (cs := os ++ csd) (cs' := rest) (relL_append o2 g3) (.inl rfl)
            have hcl := relL_length g3
            refine ⟨_, _, _, c3, (Ext.drew M ρ w).trans (Ext.alloc M ρ w.drew _ (os ++ csd ++ rest).length), ?_, ha⟩
            simp only [rel]
            refine ⟨w.heap.size, (os ++ csd ++ rest).length, cap, by rw [← hS.len, List.getElem?_concat_length]; rfl, by simp, c1, fun q hq => (by cases hq), fun _ => ?_⟩
            rw [List.length_append, List.length_append, hcl, hol, hol2, f4, c2, Nat.zero_add, ← Nat.add_mul, ← Nat.add_mul]
            congr 1
            omega
        · cases h
  · cases h
end
end Go.Ev
