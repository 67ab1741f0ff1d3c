/- The same of the few operations on strings and slices that take an address of a cell. -/
import Derived.Test.YtddpjgoboboidaaGreatDoorEvMaps
namespace Go.Ev
open Go
section
variable {P : Program} {T : Tab} {M : Mem} {ρ : Ren} {w : World} {H : Heap}

theorem shape_of {b : Nat} {cs : Array Value} {ty : TypeId} {fr : Nat × Nat} (h : w.heap[b]? = some (.cells cs ty fr)) : (shape b).run P w = .ok (some (ty, cs.size)) w := by
  simp [shape, Sem.run, World.shape?, h]
theorem seenAt_of {b o : Nat} {cs : Array Value} {ty : TypeId} {fr : Nat × Nat} (h : w.heap[b]? = some (.cells cs ty fr)) : (Conv.seenAt ⟨b, o, none⟩).run P w = .ok ⟨b, o, none⟩ w := by
  have hs := shape_of (P := P) h
  have hv : (viewAt b).run P w = .ok none w := by simp [viewAt, hs]
  simp [Conv.seenAt, hv]

theorem evConvH_ok (hT : TOk P T) (hS : SR T M ρ H w) {src dst : TypeId} {p v : V} {x : Value} (hx : rel M ρ p x) (h : evConvH T H src dst p = some v) : ∃ y, (convert src dst x).run P w = .ok y w ∧ rel M ρ v y := by
  unfold evConvH at h
  split at h
  · rename_i e n off hs hd
    split at h
    · rename_i blk s hb hsz
      split at h
      · rename_i hc
        cases h
        have hx0 := hx
        simp only [rel] at hx
        obtain ⟨b, c, hr, rfl⟩ := hx
        obtain ⟨b', c', cs, cs', hr', _, _, hheap, hrel, _⟩ := hS.cells hb
        rw [hr] at hr'
        cases hr'
        refine ⟨_, ?_, hx0⟩
        have hsh := shape_of (P := P) hheap
        have hin : (cellsIn b).run P w = .ok (some (cs ++ cs').toArray.size) w := by simp [cellsIn, hsh]
        have hlt : ¬ ((cs ++ cs').toArray.size ≤ off) := by
          have := relL_length hrel
          simp only [List.size_toArray, List.length_append]
          omega
        simp only [List.size_toArray, List.length_append] at hin hlt
        simp [convert, hT.run_und hs, hT.run_und hd, Conv.unsafePointer, seenAt_of (P := P) hheap, hin, hlt, hT.run_size hsz, hc.1]
      · cases h
    · cases h
  · rename_i u n off hs hd
    split at h
    · rename_i blk s hb hsz
      split at h
      · rename_i hc
        obtain ⟨hs0, hall, hl⟩ := hc
        cases h
        have hx0 := hx
        simp only [rel] at hx
        obtain ⟨b, c, hr, rfl⟩ := hx
        obtain ⟨b', c', cs, cs', hr', _, _, hheap, hrel, hk⟩ := hS.cells hb
        rw [hr] at hr'
        cases hr'
        obtain rfl := hk hall
        rw [List.append_nil] at hheap
        refine ⟨_, ?_, hx0⟩
        have hsh := shape_of (P := P) hheap
        have hlies := hT.lies _ _ _ _ hl
        rw [← relL_length hrel] at hlies
        have hva : (variablesAt ⟨b, off, none⟩ u 1).run P w = .ok true w := by
          have hp : program.run P w = .ok P w := by simp [program, Sem.run]
          have hlies' : liesAt P P.depth blk.ty (cs.toArray.size / P.cellsOf blk.ty) off u 1 = true := by simpa using hlies
          simp only [variablesAt, Sem.run_bind, hp, Result.andThen_ok, hsh, Sem.run_pure, hlies']
        simp [convert, hT.run_und hs, hT.run_und hd, Conv.unsafePointer, seenAt_of (P := P) hheap, hva, hT.run_size hsz]
      · cases h
    · cases h
  · obtain ⟨y, hy, hr⟩ := evConv_ok hT hx h
    exact ⟨y, hy w, hr⟩

theorem evSliceData_ok {p v : V} {x : Value} (hx : rel M ρ p x) (h : evSliceData p = some v) (tys : Array TypeId) (rt : TypeId) : ∃ y, (∀ w, (Builtin.unsafeSliceData_ tys rt #[x]).run P w = .ok y w) ∧ rel M ρ v y := by
  unfold evSliceData at h
  split at h
  · cases h
    simp only [rel] at hx
    subst hx
    exact ⟨.pointer none, fun w => rfl, by simp [rel]⟩
  · rename_i n sz off len cap
    split at h
    · rename_i hl
      cases h
      simp only [rel] at hx
      obtain ⟨b, c, k, hr, rfl, hlk, _⟩ := hx
      have : ¬ k = 0 := by omega
      refine ⟨.pointer (some ⟨b, off * sz, none⟩), fun w => ?_, by simp only [rel]; exact ⟨b, c, hr, rfl⟩⟩
      show (if k ≠ 0 then (Pure.pure (.pointer (some ⟨b, off * sz, none⟩)) : Sem Value) else _).run P w = _
      rw [if_pos this]
      rfl
    · cases h
  · cases h

theorem run_loadBytes {b : Nat} : ∀ (r : List UInt8) (o : Nat) (acc : ByteArray) (cs : List Value), cs.length = r.length → (∀ (j : Nat) (x : Value), cs[j]? = some x → w.cell? ⟨b, o + j, none⟩ = some x ∧ ∃ n : Int, x = .int .u8 n ∧ r[j]? = some n.toNat.toUInt8) →
    (loadBytes ⟨b, o, none⟩ acc r.length).run P w = .ok ⟨acc.data ++ r.toArray⟩ w
  | [], o, acc, cs, _, _ => by simp [loadBytes]
  | c :: r, o, acc, [], hl, _ => by simp at hl
  | c :: r, o, acc, x :: cs, hl, h => by
    obtain ⟨h1, n, rfl, h2⟩ := h 0 _ rfl
    simp only [Nat.add_zero] at h1
    simp at h2
    have ih := run_loadBytes r (o + 1) (acc.push c) cs (by simpa using hl) (fun j y hj => by
      have := h (j + 1) y (by simpa using hj)
      rw [show o + (j + 1) = o + 1 + j from by omega] at this
      simpa using this)
    simp only [loadBytes, List.length_cons, add_none, load]
    simp only [Sem.run_bind]
    have hl1 : (Sem.load Mode.plain ⟨b, o, none⟩ Sem.pure).run P w = .ok (.int .u8 n) w := by simp [Sem.run, h1]
    rw [hl1]
    simp only [Result.andThen_ok]
    rw [show n.toNat.toUInt8 = c from h2.symm, ih]
    congr 2
    simp [ByteArray.push]

theorem bytesV_ok : ∀ {l : List V} {r : List UInt8} {cs : List Value}, bytesV l = some r → relL M ρ l cs → cs.length = r.length ∧ ∀ (j : Nat) (x : Value), cs[j]? = some x → ∃ n : Int, x = .int .u8 n ∧ r[j]? = some n.toNat.toUInt8
  | [], r, cs, h, hr => by
    simp only [bytesV, Option.some.injEq] at h
    subst h
    simp only [relL] at hr
    subst hr
    simp
  | v :: l, r, cs, h, hr => by
    unfold bytesV at h
    split at h
    · rename_i heq; cases heq
    · rename_i n l' heq
      cases heq
      split at h
      · rename_i r' hr'
        cases h
        simp only [relL] at hr
        obtain ⟨x, q, rfl, hx, hq⟩ := hr
        simp only [rel] at hx
        subst hx
        obtain ⟨h1, h2⟩ := bytesV_ok hr' hq
        refine ⟨by simp [h1], fun j x hj => ?_⟩
        cases j with
        | zero => simp at hj; subst hj; exact ⟨n, rfl, rfl⟩
        | succ j => exact h2 j x (by simpa using hj)
      · cases h
    · cases h

theorem evUnsafeString_ok (hT : TOk P T) (hS : SR T M ρ H w) {pt : TypeId} {p len v : V} {H' : Heap} {x y : Value} (hx : rel M ρ p x) (hy : rel M ρ len y) (h : evUnsafeString T pt p len H = .val v H') (tys : Array TypeId) (h0 : tys[0]? = some pt) (rt : TypeId) :
    OpOK P T (Builtin.unsafeString_ tys rt #[x, y]) M ρ w v H' := by
  unfold evUnsafeString at h
  simp only [setK_eq] at h
  split at h
  · cases h
    simp only [rel] at hx hy
    subst hx hy
    refine OpOK.pure hS (x := .string ⟨#[]⟩) ?_ (by simp [rel])
    change (asInt _ >>= _ : Sem Value).run P w = _
    simp [asInt, asIntOf, h0]
    rfl
  · rename_i n off k m
    simp only [rel] at hx hy
    subst hy
    obtain ⟨b, c, hr, rfl⟩ := hx
    split at h
    · rename_i hm
      cases h
      subst hm
      refine OpOK.pure hS (x := .string ⟨#[]⟩) ?_ (by simp [rel])
      change (asInt _ >>= _ : Sem Value).run P w = _
      simp [asInt, asIntOf, h0]
      rfl
    · rename_i hm0
      split at h
      case isFalse => cases h
      rename_i hm
      split at h
      case h_2 => cases h
      rename_i e blk hpt hb
      split at h
      case isFalse => cases h
      rename_i hc
      obtain ⟨hty, hsz⟩ := hc
      split at h
      case h_2 => cases h
      rename_i l hl
      split at h
      case h_2 => cases h
      rename_i r hbytes
      cases h
      obtain ⟨b', c', cs, cs', hr', hMb, _, hheap, hrel, _⟩ := hS.cells hb
      rw [hr] at hr'
      cases hr'
      have hm' : InMem M ρ w b off l := fun j u hj => by
        obtain ⟨z, hz, hzr⟩ := relL_get hrel (cut_get hl hj)
        refine ⟨z, ?_, hzr⟩
        rw [cell_of_heap hheap, List.getElem?_append_left (List.getElem?_eq_some_iff.1 hz).1]
        exact hz
      obtain ⟨ds, hds, hcell⟩ := hm'.vals
      obtain ⟨q1, q2⟩ := bytesV_ok hbytes hds
      have hll := cut_length hl
      have hrl : r.length = m.toNat := by rw [← q1, relL_length hds, hll]
      have hload := run_loadBytes (P := P) (w := w) (b := b) r off .empty ds q1 (fun j x hj => ⟨hcell j x hj, q2 j x hj⟩)
      rw [hrl] at hload
      have hsh := shape_of (P := P) hheap
      have hcells : P.cellsOf e = 1 := by
        obtain ⟨i, hi, h1⟩ := hT.size _ _ hsz
        simp [Program.cellsOf, hi, h1]
      have hlen : off + m.toNat ≤ (cs ++ cs').length := by
        have := (cut_some hl).2
        have h2 := relL_length hrel
        simp only [List.length_append]
        omega
      have hlen' := hlen
      simp only [List.length_append] at hlen'
      have hlies : liesAt P P.depth e ((cs ++ cs').length / 1) off e m.toNat = true := by
        have hrow : ∀ (fits : TypeId → Bool), fits e = true → rowAt P fits P.depth e ((cs ++ cs').length / 1) off m.toNat = true := by
          intro fits hf
          show rowAt P fits ((2 * (P.types.size + Made.depth) + 1) + 1) e _ off _ = true
          simp only [rowAt, hcells, Nat.div_one, Nat.mod_one, hf]
          simp; omega
        show liesAt P ((2 * (P.types.size + Made.depth) + 1) + 1) e _ off e _ = true
        simp only [liesAt]
        rw [hrow (fun t => sameLayout P P.depth t e) (by show sameLayout P ((2 * (P.types.size + Made.depth) + 1) + 1) e e = true; simp [sameLayout])]
        simp
      have hva : (variablesAt ⟨b, off, none⟩ e m.toNat).run P w = .ok true w := by
        have hp : program.run P w = .ok P w := by simp [program, Sem.run]
        have hl4 : liesAt P P.depth blk.ty ((cs ++ cs').toArray.size / P.cellsOf blk.ty) off e m.toNat = true := by rw [hty, hcells]; simpa using hlies
        simp only [variablesAt, Sem.run_bind, hp, Result.andThen_ok, hsh, Sem.run_pure, hl4]
      have hel : (elemOf pt).run P w = .ok e w := by simp [elemOf, hT.run_und hpt]
      refine ⟨.string ⟨r.toArray⟩, w.freeze ⟨b, off, none⟩ m.toNat, ρ, ?_, ?_, by simp [rel], ?_⟩
      · have h1 : ¬ m < 0 := by omega
        have h2 : ¬ 9223372036854775807 < m := by omega
        have h3 : (⟨ByteArray.empty.data ++ r.toArray⟩ : ByteArray) = ⟨r.toArray⟩ := by
          congr 1
          show #[] ++ r.toArray = r.toArray
          simp
        rw [h3] at hload
        change (asInt (.int k m) >>= _ : Sem Value).run P w = _
        simp [asInt, asIntOf, h0, h1, h2, hm0, hel, hva, hload, freeze, Sem.run]
      · have hn0 : ¬ m.toNat = 0 := by omega
        refine ⟨?_, ?_, ?_, ?_, Mem.le.refl _, List.prefix_refl _, fun k hk hn => ?_, fun _ _ _ => rfl, fun _ q hq => .inl ⟨q, hq⟩⟩ <;> simp only [World.freeze, if_neg hn0]
        · simp
        · rw [Array.getElem?_modify, if_neg (fun e => hn c (by rw [← e]; exact List.mem_of_getElem? hr))]
      · have hn0 : ¬ m.toNat = 0 := by omega
        have hK := hS.kill n
        have hother : ∀ k, k ≠ b → (w.freeze ⟨b, off, none⟩ m.toNat).heap[k]? = w.heap[k]? := by
          intro k hk
          simp only [World.freeze, if_neg hn0]
          rw [Array.getElem?_modify, if_neg (fun e => hk e.symm)]
        have hsz2 : (w.freeze ⟨b, off, none⟩ m.toNat).heap.size = w.heap.size := by simp only [World.freeze, if_neg hn0]; simp
        refine ⟨fun k o hk => ?_, hK.len, fun j z hj => ?_, hK.inj, hK.glob⟩
        · rw [hother k (fun e => by rw [e, hMb] at hk; cases hk)]
          exact hK.frozen k o hk
        · obtain ⟨b2, c2, h2, h3, h4, h5⟩ := hK.blk j z hj
          refine ⟨b2, c2, h2, h3, by omega, ?_⟩
          have hjn : j ≠ n ∧ H[j]? = some (some z) := by
            by_cases e : j = n
            · subst e
              have hlt := (List.getElem?_eq_some_iff.1 (cellsAt_some hb).1).1
              rw [List.getElem?_set_self hlt] at hj
              cases hj
            · rw [List.getElem?_set_ne (fun h => e h.symm)] at hj
              exact ⟨e, hj⟩
          rw [hother b2 (fun e => hjn.1 (hS.inj j n z blk b2 c2 c hjn.2 (cellsAt_some hb).1 h2 (e ▸ hr)))]
          exact h5
  · cases h
end
end Go.Ev
