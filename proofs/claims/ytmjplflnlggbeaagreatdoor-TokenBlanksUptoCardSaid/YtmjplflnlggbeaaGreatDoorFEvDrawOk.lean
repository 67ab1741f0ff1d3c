/- The same of the few operations on strings and slices that take an address of a cell. Lemmas. One statement of a region, a whole region, a whole function does what the evaluator says. A region in which the tape is drawn from does what the evaluator says on every tape. -/
import Derived.Test.YtmjplflnlggbeaaGreatDoorFEvMaps
import Derived.Laws.Cover4
import Derived.Laws.IdiomStrings
import Derived.Laws.CopyRow
namespace Go.Ev
open Go Go.Proofs
set_option linter.unusedSimpArgs false
set_option linter.unusedVariables false
set_option linter.unnecessarySimpa false
open Go
section
variable {P : Program} {T : Tab} {M : Mem} {ρ : Ren} {w : World} {H : Heap}

theorem shape_of {b : Nat} {cs : Array Value} {ty : TypeId} {fr : Nat × Nat} (h : w.heap[b]? = some (.cells cs ty fr)) : (shape b).run P w = .ok (some (ty, cs.size)) w := by
 simp [shape, Sem.run, World.shape?, h]
theorem seenAt_of {b o : Nat} {cs : Array Value} {ty : TypeId} {fr : Nat × Nat} (h : w.heap[b]? = some (.cells cs ty fr)) : (Conv.seenAt ⟨b, o, none⟩).run P w = .ok ⟨b, o, none⟩ w := by
 have hs := shape_of (P := P) h;have hv : (viewAt b).run P w = .ok none w := by simp [viewAt, hs]
 simp [Conv.seenAt, hv]
theorem evConvH_ok (hT : TOk P T) (hS : SR T M ρ H w) {src dst : TypeId} {p v : V} {x : Value} (hx : rel M ρ p x) (h : evConvH T H src dst p = some v) : ∃ y, (convert src dst x).run P w = .ok y w ∧ rel M ρ v y := by
 unfold evConvH at h;split at h
 ·rename_i e n off hs hd;split at h
  ·rename_i blk s hb hsz;split at h
   ·rename_i hc;cases h;have hx0 := hx;simp only [rel] at hx;obtain ⟨b, c, hr, rfl⟩ := hx;obtain ⟨b', c', cs, cs', hr', _, _, hheap, hrel, _⟩ := hS.cells hb;rw [hr] at hr';cases hr';refine ⟨_, ?_, hx0⟩;have hsh := shape_of (P := P) hheap;have hin : (cellsIn b).run P w = .ok (some (cs ++ cs').toArray.size) w := by simp [cellsIn, hsh]
    have hlt : ¬ ((cs ++ cs').toArray.size ≤ off) := by
     have := relL_length hrel;simp only [List.size_toArray, List.length_append];omega
    simp only [List.size_toArray, List.length_append] at hin hlt;simp [convert, hT.run_und hs, hT.run_und hd, Conv.unsafePointer, seenAt_of (P := P) hheap, hin, hlt, hT.run_size hsz, hc.1]
   ·cases h
  ·cases h
 ·rename_i u n off hs hd;split at h
  ·rename_i blk s hb hsz;split at h
   ·rename_i hc;obtain ⟨hs0, hall, hl⟩ := hc;cases h;have hx0 := hx;simp only [rel] at hx;obtain ⟨b, c, hr, rfl⟩ := hx;obtain ⟨b', c', cs, cs', hr', _, _, hheap, hrel, hk⟩ := hS.cells hb;rw [hr] at hr';cases hr';obtain rfl := hk hall;rw [List.append_nil] at hheap;refine ⟨_, ?_, hx0⟩;have hsh := shape_of (P := P) hheap;have hlies := hT.lies _ _ _ _ hl;rw [← relL_length hrel] at hlies;have hva : (variablesAt ⟨b, off, none⟩ u 1).run P w = .ok true w := by
     have hp : program.run P w = .ok P w := by simp [program, Sem.run]
     have hlies' : liesAt P P.depth blk.ty (cs.toArray.size / P.cellsOf blk.ty) off u 1 = true := by simpa using hlies
     simp only [variablesAt, Sem.run_bind, hp, Result.andThen_ok, hsh, Sem.run_pure, hlies']
    simp [convert, hT.run_und hs, hT.run_und hd, Conv.unsafePointer, seenAt_of (P := P) hheap, hva, hT.run_size hsz]
   ·cases h
  ·cases h
 ·obtain ⟨y, hy, hr⟩ := evConv_ok hT hx h;exact ⟨y, hy w, hr⟩
theorem evSliceData_ok {p v : V} {x : Value} (hx : rel M ρ p x) (h : evSliceData p = some v) (tys : Array TypeId) (rt : TypeId) : ∃ y, (∀ w, (Builtin.unsafeSliceData_ tys rt #[x]).run P w = .ok y w) ∧ rel M ρ v y := by
 unfold evSliceData at h;split at h
 ·cases h;simp only [rel] at hx;subst hx;exact ⟨.pointer none, fun w => rfl, by simp [rel]⟩
 ·rename_i n sz off len cap;split at h
  ·rename_i hl;cases h;simp only [rel] at hx;obtain ⟨b, c, k, hr, rfl, hlk, _⟩ := hx;have : ¬ k = 0 := by omega
   refine ⟨.pointer (some ⟨b, off * sz, none⟩), fun w => ?_, by simp only [rel]; exact ⟨b, c, hr, rfl⟩⟩;show (if k ≠ 0 then (Pure.pure (.pointer (some ⟨b, off * sz, none⟩)) : Sem Value) else _).run P w = _;rw [if_pos this];rfl
  ·cases h
 ·cases h
theorem run_loadBytes {b : Nat} : ∀ (r : List UInt8) (o : Nat) (acc : ByteArray) (cs : List Value), cs.length = r.length → (∀ (j : Nat) (x : Value), cs[j]? = some x → w.cell? ⟨b, o + j, none⟩ = some x ∧ ∃ n : Int, x = .int .u8 n ∧ r[j]? = some n.toNat.toUInt8) →
    (loadBytes ⟨b, o, none⟩ acc r.length).run P w = .ok ⟨acc.data ++ r.toArray⟩ w
  | [], o, acc, cs, _, _ => by simp [loadBytes]
  | c :: r, o, acc, [], hl, _ => by simp at hl
  | c :: r, o, acc, x :: cs, hl, h => by
    obtain ⟨h1, n, rfl, h2⟩ := h 0 _ rfl
    simp only [Nat.add_zero] at h1
    simp at h2
    have ih := run_loadBytes r (o + 1) (acc.push c) cs (by simpa using hl) (fun j y hj => by
      have := h (j + 1) y (by simpa using hj)
      rw [show o + (j + 1) = o + 1 + j from by omega] at this
      simpa using this)
    simp only [loadBytes, List.length_cons, add_none, load]
    simp only [Sem.run_bind]
    have hl1 : (Sem.load Mode.plain ⟨b, o, none⟩ Sem.pure).run P w = .ok (.int .u8 n) w := by simp [Sem.run, h1]
    rw [hl1]
    simp only [Result.andThen_ok]
    rw [show n.toNat.toUInt8 = c from h2.symm, ih]
    congr 2
    simp [ByteArray.push]

theorem bytesV_ok : ∀ {l : List V} {r : List UInt8} {cs : List Value}, bytesV l = some r → relL M ρ l cs → cs.length = r.length ∧ ∀ (j : Nat) (x : Value), cs[j]? = some x → ∃ n : Int, x = .int .u8 n ∧ r[j]? = some n.toNat.toUInt8
 | [], r, cs, h, hr => by
  simp only [bytesV, Option.some.injEq] at h;subst h;simp only [relL] at hr;subst hr;simp
 | v :: l, r, cs, h, hr => by
  unfold bytesV at h;split at h
  ·rename_i heq; cases heq
  ·rename_i n l' heq;cases heq;split at h
   ·rename_i r' hr';cases h;simp only [relL] at hr;obtain ⟨x, q, rfl, hx, hq⟩ := hr;simp only [rel] at hx;subst hx;obtain ⟨h1, h2⟩ := bytesV_ok hr' hq;refine ⟨by simp [h1], fun j x hj => ?_⟩;cases j with
    | zero => simp at hj; subst hj; exact ⟨n, rfl, rfl⟩
    | succ j => exact h2 j x (by simpa using hj)
   ·cases h
  ·cases h
theorem unsafeString_run (hT : TOk P T) {pt e : TypeId} (hpt : T.und pt = some (.pointer e)) (hsz : T.size e = some 1) {b off : Nat} {cs cs' : List Value} {ty : TypeId} {fr : Nat × Nat} (hheap : w.heap[b]? = some (.cells (cs ++ cs').toArray ty fr)) (hty : ty = e) {l l0 : List V} (hrel : relL M ρ l0 cs)
 {m : Int} {k : IntKind} (hm : 0 < m ∧ m ≤ 1099511627776) (hl : cut l0 off m.toNat = some l) {r : List UInt8} (hbytes : bytesV l = some r) (tys : Array TypeId) (h0 : tys[0]? = some pt) (rt : TypeId) :
 (Builtin.unsafeString_ tys rt #[.pointer (some ⟨b, off, none⟩), .int k m]).run P w = .ok (.string ⟨r.toArray⟩) (w.freeze ⟨b, off, none⟩ m.toNat) := by
 have hm0 : ¬ m = 0 := by omega
 have hm' : InMem M ρ w b off l := fun j u hj => by
  obtain ⟨z, hz, hzr⟩ := relL_get hrel (cut_get hl hj);refine ⟨z, ?_, hzr⟩;rw [cell_of_heap hheap, List.getElem?_append_left (List.getElem?_eq_some_iff.1 hz).1];exact hz
 obtain ⟨ds, hds, hcell⟩ := hm'.vals;obtain ⟨q1, q2⟩ := bytesV_ok hbytes hds;have hll := cut_length hl;have hrl : r.length = m.toNat := by rw [← q1, relL_length hds, hll]
 have hload := run_loadBytes (P := P) (w := w) (b := b) r off .empty ds q1 (fun j x hj => ⟨hcell j x hj, q2 j x hj⟩);rw [hrl] at hload;have hsh := shape_of (P := P) hheap;have hcells : P.cellsOf e = 1 := by
  obtain ⟨i, hi, h1⟩ := hT.size _ _ hsz;simp [Program.cellsOf, hi, h1]
 have hlen : off + m.toNat ≤ (cs ++ cs').length := by
  have := (cut_some hl).2;have h2 := relL_length hrel;simp only [List.length_append];omega
 have hlen' := hlen;simp only [List.length_append] at hlen';have hlies : liesAt P P.depth e ((cs ++ cs').length / 1) off e m.toNat = true := by
  have hrow : ∀ (fits : TypeId → Bool), fits e = true → rowAt P fits P.depth e ((cs ++ cs').length / 1) off m.toNat = true := by
   intro fits hf;show rowAt P fits ((2 * (P.types.size + Made.depth) + 1) + 1) e _ off _ = true;simp only [rowAt, hcells, Nat.div_one, Nat.mod_one, hf];simp; omega
  show liesAt P ((2 * (P.types.size + Made.depth) + 1) + 1) e _ off e _ = true;simp only [liesAt];rw [hrow (fun t => sameLayout P P.depth t e) (by show sameLayout P ((2 * (P.types.size + Made.depth) + 1) + 1) e e = true; simp [sameLayout])];simp
 have hva : (variablesAt ⟨b, off, none⟩ e m.toNat).run P w = .ok true w := by
  have hp : program.run P w = .ok P w := by simp [program, Sem.run]
  have hl4 : liesAt P P.depth ty ((cs ++ cs').toArray.size / P.cellsOf ty) off e m.toNat = true := by rw [hty, hcells]; simpa using hlies
  simp only [variablesAt, Sem.run_bind, hp, Result.andThen_ok, hsh, Sem.run_pure, hl4]
 have hel : (elemOf pt).run P w = .ok e w := by simp [elemOf, hT.run_und hpt]
 have h1 : ¬ m < 0 := by omega
 have h2 : ¬ 9223372036854775807 < m := by omega
 have h3 : (⟨ByteArray.empty.data ++ r.toArray⟩ : ByteArray) = ⟨r.toArray⟩ := by
  congr 1;show #[] ++ r.toArray = r.toArray;simp
 rw [h3] at hload;change (asInt (.int k m) >>= _ : Sem Value).run P w = _;simp [asInt, asIntOf, h0, h1, h2, hm0, hel, hva, hload, freeze, Sem.run]
theorem freeze_ok (hS : SR T M ρ H w) {n : Nat} {blk blk' : Blk} (hb : H[n]? = some (some blk)) {b c off : Nat} (hr : ρ[n]? = some (b, c)) {cs cs' : List Value} {fr : Nat × Nat} (hlen : (cs ++ cs').length = c) (hheap : w.heap[b]? = some (.cells (cs ++ cs').toArray blk'.ty fr)) {l0 : List V} (hrel : relL M ρ l0 cs) (hk : blk'.kind = .map) (hf : frzC blk'.cells = some l0) {m : Nat} (hm : m ≠ 0) :
 Ext M ρ w M ρ (w.freeze ⟨b, off, none⟩ m) ∧ SR T M ρ (H.set n (some blk')) (w.freeze ⟨b, off, none⟩ m) := by
 have hother : ∀ k, k ≠ b → (w.freeze ⟨b, off, none⟩ m).heap[k]? = w.heap[k]? := by
  intro k hk;simp only [World.freeze, if_neg hm];rw [Array.getElem?_modify, if_neg (fun e => hk e.symm)]
 refine ⟨?_, ?_⟩
 ·refine ⟨?_, ?_, ?_, ?_, Mem.le.refl _, List.prefix_refl _, fun k hk hn => hother k (fun e => hn c (by rw [e]; exact List.mem_of_getElem? hr)), fun _ _ _ => rfl, fun _ q hq => .inl ⟨q, hq⟩⟩ <;> simp only [World.freeze, if_neg hm];simp
 ·have hsz2 : (w.freeze ⟨b, off, none⟩ m).heap.size = w.heap.size := by simp only [World.freeze, if_neg hm]; simp
  refine hS.upd hb hr hother hsz2 ?_;unfold BlkOK;rw [hk];obtain ⟨fr', hfr⟩ : ∃ fr', (w.freeze ⟨b, off, none⟩ m).heap[b]? = some (.cells (cs ++ cs').toArray blk'.ty fr') := by
   simp only [World.freeze, if_neg hm];rw [Array.getElem?_modify, if_pos rfl, hheap];exact ⟨_, rfl⟩
  exact .inr ⟨l0, cs, cs', fr', hf, hlen, hfr, hrel⟩
theorem frzAt_some {n : Nat} {blk : Blk} (h : frzAt H n = some blk) : ∃ blk0 : Blk, H[n]? = some (some blk0) ∧ blk0.kind = .map ∧ frzC blk0.cells = some blk.cells ∧ blk.ty = blk0.ty := by
 unfold frzAt at h;split at h
 ·rename_i b hb;split at h
  ·rename_i hk;split at h
   ·rename_i l hl;cases h;exact ⟨b, hb, hk, hl, rfl⟩
   ·cases h
  ·cases h
 ·cases h
theorem evUnsafeString_ok (hT : TOk P T) (hS : SR T M ρ H w) {pt : TypeId} {p len v : V} {H' : Heap} {x y : Value} (hx : rel M ρ p x) (hy : rel M ρ len y) (h : evUnsafeString T pt p len H = .val v H') (tys : Array TypeId) (h0 : tys[0]? = some pt) (rt : TypeId) :
 OpOK P T (Builtin.unsafeString_ tys rt #[x, y]) M ρ w v H' := by
 unfold evUnsafeString at h;simp only [setK_eq] at h;split at h
 ·cases h;simp only [rel] at hx hy;subst hx hy;refine OpOK.pure hS (x := .string ⟨#[]⟩) ?_ (by simp [rel]);change (asInt _ >>= _ : Sem Value).run P w = _;simp [asInt, asIntOf, h0];rfl
 ·rename_i n off k m;simp only [rel] at hx hy;subst hy;obtain ⟨b, c, hr, rfl⟩ := hx;split at h
  ·rename_i hm;cases h;subst hm;refine OpOK.pure hS (x := .string ⟨#[]⟩) ?_ (by simp [rel]);change (asInt _ >>= _ : Sem Value).run P w = _;simp [asInt, asIntOf, h0];rfl
  ·rename_i hm0;split at h;case isFalse => cases h
   rename_i hm;have hn0 : m.toNat ≠ 0 := by omega
   split at h
   ·rename_i e blk hpt hb;split at h;case isFalse => cases h
    rename_i hc;obtain ⟨hty, hsz⟩ := hc;split at h;case h_2 => cases h
    rename_i l hl;split at h;case h_2 => cases h
    rename_i r hbytes;cases h;obtain ⟨b', c', cs, cs', hr', hMb, hlen, hheap, hrel, _⟩ := hS.cells hb;rw [hr] at hr';cases hr';obtain ⟨k1, k2⟩ := freeze_ok (off := off) (blk' := { ty := blk.ty, cells := .tup [] :: blk.cells, kind := .map }) hS (cellsAt_some hb).1 hr hlen hheap hrel rfl rfl hn0;exact ⟨.string ⟨r.toArray⟩, _, ρ, unsafeString_run hT hpt hsz hheap hty hrel hm hl hbytes tys h0 rt, k1, by simp [rel], k2⟩
   ·rename_i e hpt hb;split at h;case h_2 => cases h
    rename_i blk hfz;split at h;case isFalse => cases h
    rename_i hc;obtain ⟨hty, hsz⟩ := hc;split at h;case h_2 => cases h
    rename_i l hl;split at h;case h_2 => cases h
    rename_i r hbytes;cases h;obtain ⟨blk0, g1, g2, g3, g4⟩ := frzAt_some hfz;obtain ⟨b', c', hr', hMb, _, hok⟩ := hS.blk n blk0 g1;rw [hr] at hr';cases hr';unfold BlkOK at hok;rw [g2] at hok;have hnm : ∃ (cs cs' : List Value) (fr : Nat × Nat), (cs ++ cs').length = c ∧ w.heap[b]? = some (.cells (cs ++ cs').toArray blk0.ty fr) ∧ relL M ρ blk.cells cs := by
     rcases hok with ⟨es, clock, _, _, hrm, _⟩ | ⟨l', cs, cs', fr, h1, h2, h3, h4⟩
     ·rw [g3] at hrm;cases hrm
     ·rw [g3] at h1;cases h1;exact ⟨cs, cs', fr, h2, h3, h4⟩
    obtain ⟨cs, cs', fr, hlen, hheap, hrel⟩ := hnm;obtain ⟨k1, k2⟩ := freeze_ok (off := off) (blk' := blk0) hS g1 hr hlen hheap hrel g2 g3 hn0;rw [show H.set n (some blk0) = H from by
     obtain ⟨q1, q2⟩ := List.getElem?_eq_some_iff.1 g1;rw [← q2, List.set_getElem_self]] at k2
    exact ⟨.string ⟨r.toArray⟩, _, ρ, unsafeString_run hT hpt hsz hheap (g4.symm.trans hty) hrel hm hl hbytes tys h0 rt, k1, by simp [rel], k2⟩
   ·cases h
 ·cases h
theorem runesFrom_int (s : ByteArray) : ∀ (bound i : Nat) (acc : Array Value), (∀ v ∈ acc.toList, ∃ n, v = .int .i32 n) → ∀ v ∈ (Conv.runesFrom s bound i acc).toList, ∃ n, v = .int .i32 n
 | 0, _, acc, h => by simpa [Conv.runesFrom] using h
 | bound + 1, i, acc, h => by
  unfold Conv.runesFrom;split
  ·refine runesFrom_int s bound _ _ fun v hv => ?_;simp only [Array.toList_push, List.mem_append, List.mem_singleton] at hv;rcases hv with hv | rfl
   ·exact h v hv
   ·exact ⟨_, rfl⟩
  ·exact h
theorem relL_runes {M : Mem} {ρ : Ren} : ∀ {l : List Value}, (∀ v ∈ l, ∃ n, v = .int .i32 n) → relL M ρ (l.map fun v => match v with
 | .int k n => .i k n
 | _ => .tup []) l
 | [], _ => rfl
 | v :: l, h => by
  obtain ⟨n, rfl⟩ := h v (by simp);exact ⟨_, l, rfl, rfl, relL_runes fun v hv => h v (by simp [hv])⟩
theorem runesV_rel {M : Mem} {ρ : Ren} (l : List UInt8) : relL M ρ (runesV l) (Conv.runesFrom ⟨l.toArray⟩ l.length 0 #[]).toList :=
 relL_runes (runesFrom_int _ _ _ _ (by simp))
theorem runeNs_map {M : Mem} {ρ : Ren} : ∀ {l : List V} {ns : List Int} {cs : List Value}, runeNs l = some ns → relL M ρ l cs → cs = ns.map (Value.int .i32)
 | [], ns, cs, h, hr => by
  simp only [runeNs, Option.some.injEq] at h;subst h;simpa [relL] using hr
 | v :: l, ns, cs, h, hr => by
  unfold runeNs at h;split at h
  ·contradiction
  ·rename_i n l' he;cases he;split at h
   ·rename_i r hr';cases h;obtain ⟨x, r', rfl, hx, hl⟩ := hr;simp only [rel] at hx;subst hx;rw [runeNs_map hr' hl];rfl
   ·cases h
  ·cases h
theorem bytesNs_map {M : Mem} {ρ : Ren} : ∀ {l : List V} {r : List UInt8} {cs : List Value}, bytesV l = some r → relL M ρ l cs → ∃ ns : List Int, cs = ns.map (Value.int .u8) ∧ r = ns.map fun n => UInt8.ofNat n.toNat
 | [], r, cs, h, hr => by
  simp only [bytesV, Option.some.injEq] at h;subst h;simp only [relL] at hr;subst hr;exact ⟨[], rfl, rfl⟩
 | v :: l, r, cs, h, hr => by
  unfold bytesV at h;split at h
  ·contradiction
  ·rename_i n l' he;cases he;split at h
   ·rename_i r' hr';cases h;obtain ⟨x, q, rfl, hx, hl⟩ := hr;simp only [rel] at hx;subst hx;obtain ⟨ns, rfl, rfl⟩ := bytesNs_map hr' hl;exact ⟨n :: ns, rfl, rfl⟩
   ·cases h
  ·cases h
theorem pushBytes : ∀ (ns : List Int) (b : ByteArray), ns.foldl (fun r n => r.push (UInt8.ofNat n.toNat)) b = ⟨b.data ++ (ns.map fun n => UInt8.ofNat n.toNat).toArray⟩
 | [], b => by simp
 | n :: ns, b => by
  rw [List.foldl_cons, pushBytes ns];apply ByteArray.ext;simp [ByteArray.push]
theorem lift_inv {r : Option V} {H H' : Heap} {v : V} (h : lift r H = .val v H') : r = some v ∧ H' = H := by
 cases r with
 | none => cases h
 | some u => cases h; exact ⟨rfl, rfl⟩
theorem lift_no_pan {r : Option V} {H H' : Heap} {v : V} (h : lift r H = .pan v H') : False := by
 cases r <;> cases h
theorem bytes_relL {M : Mem} {ρ : Ren} : ∀ l : List UInt8, relL M ρ (l.map (fun c => V.i .u8 c.toNat)) (l.map fun c => Value.int .u8 c.toNat)
 | [] => by simp only [List.map_nil, relL]
 | c :: l => by
  simp only [List.map_cons];exact relL_cons (by simp only [rel]) (bytes_relL l)
theorem evConvO_ok (hT : TOk P T) (hS : SR T M ρ H w) {src dst : TypeId} {p v : V} {x : Value} {H' : Heap} (hx : rel M ρ p x) (h : evConvO T src dst p H = .val v H') : OpOK P T (convert src dst x) M ρ w v H' := by
 unfold evConvO at h;split at h
 ·rename_i e l hs hd;split at h
  ·rename_i he;split at h
   ·rename_i hc;rw [newB_eq] at h;cases h;simp only [rel] at hx;subst hx;have hrun := run_bytes_of_string w src dst e ⟨l.toArray⟩ (hT.und _ _ hs) (hT.und _ _ hd) (hT.und _ _ he);have hbs : (⟨l.toArray⟩ : ByteArray).size = l.length := by simp [ByteArray.size]
    rw [hbs] at hrun;have hge := grownCap_ge w l.length 0 e;have hSd : SR T M ρ H w.drew := hS.drew;have hrl : relL M ρ (l.map (fun c => V.i .u8 c.toNat)) (l.map fun c => Value.int .u8 c.toNat) := bytes_relL l;have ha := hSd.allocB hSd.lt (.cells (bytesRow ⟨l.toArray⟩ (grownCap w l.length 0 e)) e ((bytesRow ⟨l.toArray⟩ (grownCap w l.length 0 e)).size, (bytesRow ⟨l.toArray⟩ (grownCap w l.length 0 e)).size + 1)) { ty := e, cells := .tup [] :: l.map (fun c => .i .u8 c.toNat), kind := .map } (grownCap w l.length 0 e) (by
     unfold BlkOK;simp only;refine .inr ⟨l.map (fun c => .i .u8 c.toNat), l.map (fun c => Value.int .u8 c.toNat), List.replicate (grownCap w l.length 0 e - l.length) (.int .u8 0), ((bytesRow ⟨l.toArray⟩ (grownCap w l.length 0 e)).size, (bytesRow ⟨l.toArray⟩ (grownCap w l.length 0 e)).size + 1), rfl, by simp; omega, ?_, hrl⟩;congr 2;unfold bytesRow;apply Array.ext';simp [hbs])
    refine ⟨_, _, _, hrun, (Ext.drew M ρ w).trans (Ext.alloc M ρ w.drew _ _), ?_, ha⟩;simp only [rel];exact ⟨w.heap.size, _, grownCap w l.length 0 e, by rw [← hS.len, List.getElem?_concat_length]; rfl, by simp, hge, fun q hq => (by cases hq), fun _ => by simp⟩
   ·cases h
  ·rename_i he;split at h
   ·rename_i hc;rw [newB_eq] at h;cases h;simp only [rel] at hx;subst hx;have hsz := size_runesFrom ⟨l.toArray⟩ l.length 0 #[];simp only [List.size_toArray, List.length_nil, Nat.zero_add] at hsz;have hrun := run_runes_of_string w src dst e ⟨l.toArray⟩ (hT.und _ _ hs) (hT.und _ _ hd) (hT.und _ _ he) (by
     have : (⟨l.toArray⟩ : ByteArray).size = l.length := by simp [ByteArray.size]
     rw [this];have h0 : (#[] : Array Value).size = 0 := rfl;omega)
    have hbs : (⟨l.toArray⟩ : ByteArray).size = l.length := by simp [ByteArray.size]
    rw [hbs] at hrun;generalize hel : Conv.runesFrom ⟨l.toArray⟩ l.length 0 #[] = els at hrun;have hrl : relL M ρ (runesV l) els.toList := by rw [← hel]; exact runesV_rel l
    have hge := grownCap_ge w els.size 0 e;have hSd : SR T M ρ H w.drew := hS.drew;have ha := hSd.alloc hSd.lt e .more (cs' := List.replicate (grownCap w els.size 0 e - els.size) (.int .i32 0)) hrl (.inl rfl);have hcells : (els.toList ++ List.replicate (grownCap w els.size 0 e - els.size) (Value.int .i32 0)).toArray = els ++ Array.replicate (grownCap w els.size 0 e - els.size) (.int .i32 0) := by
     apply Array.ext';simp
    rw [hcells] at ha;refine ⟨_, _, _, hrun, (Ext.drew M ρ w).trans (Ext.alloc M ρ w.drew _ _), ?_, ha⟩;have hrl2 := relL_length hrl;simp only [rel];have hlen : (runesV l).length = els.size := by rw [← hrl2]; simp
    refine ⟨w.heap.size, _, grownCap w els.size 0 e, by rw [← hS.len, List.getElem?_concat_length]; rfl, by rw [hlen], by rw [hlen]; exact hge, fun q hq => (by cases hq), fun _ => ?_⟩;simp;omega
   ·cases h
  ·cases h
 ·rename_i e n sz off len cap hs hd;split at h
  ·rename_i blk he hblk;split at h
   ·rename_i hsz;subst hsz;split at h
    ·rename_i cs hcut;split at h
     ·rename_i ns hns;cases h;obtain ⟨ds, f1, f2⟩ := firstCells_named (P := P) hS (sz := 1) hx hblk (by simpa using hcut);have hm := runeNs_map hns f2;subst hm;simp only [rel] at hx;obtain ⟨b, c, k, hr, rfl, _⟩ := hx;have hload : (loadCells ⟨b, off * 1, none⟩ len).run P w = .ok (ns.map (Value.int .i32)).toArray w := by
       simpa [Builtin.firstCells] using f1
      refine OpOK.pure hS (x := .string (runesBytes ns)) ?_ (by simp [rel, runesS, runesBytes]);rw [run_convert_runes_string w src dst e _ _ _ (hT.und _ _ hs) (hT.und _ _ he) (hT.und _ _ hd)];exact run_runesToString w _ _ _ ns hload
     ·cases h
    ·cases h
   ·cases h
  ·rename_i blk he hblk;split at h
   ·rename_i hsz;subst hsz;split at h
    ·rename_i cs hcut;split at h
     ·rename_i r hr;cases h;obtain ⟨ds, f1, f2⟩ := firstCells_named (P := P) hS (sz := 1) hx hblk (by simpa using hcut);obtain ⟨ns, hm, hrb⟩ := bytesNs_map hr f2;subst hm;simp only [rel] at hx;obtain ⟨b, c, k, hr, rfl, _⟩ := hx;have hload : (loadCells ⟨b, off * 1, none⟩ len).run P w = .ok (ns.map (Value.int .u8)).toArray w := by
       simpa [Builtin.firstCells] using f1
      refine OpOK.pure hS (x := .string (ns.foldl (fun r n => r.push (UInt8.ofNat n.toNat)) ByteArray.empty)) ?_ ?_
      ·rw [run_convert_bytes_string w src dst e _ _ _ (hT.und _ _ hs) (hT.und _ _ he) (hT.und _ _ hd)];exact run_bytesToString w _ _ _ ns hload
      ·simp only [rel];rw [pushBytes, hrb];congr 2;show #[] ++ _ = _;simp
     ·cases h
    ·cases h
   ·cases h
  ·cases h
 ·obtain ⟨h1, rfl⟩ := lift_inv h;obtain ⟨y, hy, hr⟩ := evConvH_ok hT hS hx h1;exact OpOK.pure hS hy hr
theorem evConvO_no_pan {src dst : TypeId} {p v : V} {H' : Heap} : evConvO T src dst p H ≠ .pan v H' := by
 intro h;unfold evConvO at h;simp only [newB_eq] at h;repeat' (split at h)
 all_goals first
  | cases h
  | exact lift_no_pan h
end
open Go
section
variable {P : Program} {T : Tab} {M : Mem} {ρ : Ren} {H : Heap} {w : World}
theorem srcAt_mem (hS : SR T M ρ H w) {m : Nat} {cs : List V} (h : srcAt H m = some cs) {b c : Nat} (hr : ρ[m]? = some (b, c)) :
 ∃ (ds rest : List Value) (ty : TypeId) (fr : Nat × Nat), w.heap[b]? = some (.cells (ds ++ rest).toArray ty fr) ∧ relL M ρ cs ds := by
 unfold srcAt at h;split at h
 ·rename_i blk hb;cases h;obtain ⟨b', c', ds, rest, hr', _, _, hheap, hrel, _⟩ := hS.cells hb;rw [hr] at hr';cases hr';exact ⟨ds, rest, _, _, hheap, hrel⟩
 ·rw [Option.map_eq_some_iff] at h;obtain ⟨blk, hfz, rfl⟩ := h;obtain ⟨blk0, g1, g2, g3, g4⟩ := frzAt_some hfz;obtain ⟨b', c', hr', hMb, _, hok⟩ := hS.blk m blk0 g1;rw [hr] at hr';cases hr';unfold BlkOK at hok;rw [g2] at hok;rcases hok with ⟨es, clock, _, _, hrm, _⟩ | ⟨l', ds, rest, fr, h1, h2, h3, h4⟩
  ·rw [g3] at hrm;cases hrm
  ·rw [g3] at h1;cases h1;exact ⟨ds, rest, _, _, h3, h4⟩
theorem evCopy_no_pan {ty : TypeId} {d s v : V} {H' : Heap} : evCopy T ty d s H ≠ .pan v H' := by
 intro h;unfold evCopy at h;simp only [setB_eq] at h;repeat' (split at h)
 all_goals cases h
theorem evCopy_ok (hT : TOk P T) (hS : SR T M ρ H w) {ty : TypeId} {d s v : V} {H' : Heap} {x y : Value} (hx : rel M ρ d x) (hy : rel M ρ s y) (h : evCopy T ty d s H = .val v H') (tys : Array TypeId) (h0 : tys[0]? = some ty) (rt : TypeId) :
 OpOK P T (Builtin.copy_ tys rt #[x, y]) M ρ w v H' := by
 unfold evCopy at h;simp only [setB_eq] at h;split at h;case h_2 => cases h
 rename_i e n sz off len cap m sz2 off2 len2 cap2 hu;split at h;case h_2 => cases h
 rename_i blk cs hblk hsrc;split at h;case h_2 => cases h
 rename_i new hcut;split at h;case isFalse => cases h
 rename_i hc;obtain ⟨rfl, rfl, hsz, hnf, hfit⟩ := hc;cases h;have hx0 := hx;simp only [rel] at hx hy;obtain ⟨b, c, k, hr, rfl, hlk, _⟩ := hx;obtain ⟨b2, c2, k2, hr2, rfl, hlk2, _⟩ := hy;obtain ⟨ds, rest, ty2, fr, hheap, hrel⟩ := srcAt_mem hS hsrc hr2;have hcl := cut_length hcut;obtain ⟨hce, hcb⟩ := cut_some hcut;have hdl := relL_length hrel;have hnew : relL M ρ new ((ds.drop off2).take (Nat.min len2 len)) := by
  rw [hce];exact relL_take _ (relL_drop _ hrel)
 have hnl := relL_length hnew;have hload : (loadCells ⟨b2, off2 * 1, none⟩ (Nat.min len2 len)).run P w = .ok ((ds.drop off2).take (Nat.min len2 len)).toArray w := by
  have := run_loadCells_list (P := P) w ⟨b2, off2 * 1, none⟩ ((ds.drop off2).take (Nat.min len2 len)) (fun j v hj => by
   have hj2 : j < Nat.min len2 len := by
    have := (List.getElem?_eq_some_iff.1 hj).1;rw [List.length_take] at this;exact Nat.lt_of_lt_of_le this (Nat.min_le_left _ _)
   rw [List.getElem?_take_of_lt hj2, List.getElem?_drop] at hj;have ha : (⟨b2, off2 * 1, none⟩ : Addr).add j = ⟨b2, off2 + j, none⟩ := by
    unfold Addr.add;split
    ·rename_i h; subst h; simp
    ·simp
   rw [ha];have hlt : off2 + j < ds.length := (List.getElem?_eq_some_iff.1 hj).1;simp [World.cell?, hheap, List.getElem?_append_left hlt, hj])
  rw [hnl, hcl] at this;exact this
 obtain ⟨w', s1, s2, s3⟩ := hS.splice (P := P) hblk hnew hfit hnf hr;have hi : ∃ i, P.info? e = some i ∧ i.size = 1 := hT.size e 1 hsz;obtain ⟨i, hi, hi1⟩ := hi;refine ⟨goInt (Nat.min len2 len), w', ρ, ?_, s2, by rw [hcl]; simp [rel, goInt], s3⟩;have s1' : (storeCells ⟨b, off * 1, none⟩ ((ds.drop off2).take (Nat.min len2 len))).run P w = .ok () w' := by rw [Nat.mul_one]; exact s1
 simp only [Builtin.copy_, h0];simp [run_underlying (hT.und _ _ hu), Builtin.lenOf, Builtin.firstCells, sizeOf, typeInfo, hi, hi1];simp only [Nat.mul_one] at hload s1';rw [hload];simp only [Result.andThen_ok];rw [s1'];rfl
end
open Go
section
variable {P : Program} {T : Tab} {M : Mem} {ρ : Ren} {w : World} {H : Heap}

def CallOK (P : Program) (T : Tab) (f : FuncId) (args : Array Value) (M : Mem) (ρ : Ren) (w : World) : OR → Prop
 | .val v H' => Calls P f args w fun e w' => ∃ x M' ρ', e = .returned x ∧ Ext M ρ w M' ρ' w' ∧ rel M' ρ' v x ∧ SR T M' ρ' H' w'
 | .pan v H' => Calls P f args w fun e w' => ∃ x M' ρ', e = .panicked [{ v := x, recovered := false }] ∧ Ext M ρ w M' ρ' w' ∧ rel M' ρ' v x ∧ SR T M' ρ' H' w'
 | .no => True
def Direct (P : Program) (T : Tab) (f : FuncId) (vs : List V) (H : Heap) (r : OR) : Prop :=
 ∃ v H', r = .val v H' ∧ ∀ (M : Mem) (ρ : Ren) (w : World) (args : List Value), SR T M ρ H w → relL M ρ vs args → ∃ x M' ρ' w', (callFunc f args.toArray).run P w = .ok (.value x) w' ∧ Ext M ρ w M' ρ' w' ∧ rel M' ρ' v x ∧ SR T M' ρ' H' w'
def CallF.Sound (P : Program) (T : Tab) (call : CallF) : Prop :=
 ∀ f vs H r, call f vs H = r → r ≠ .no → (Go.Proofs.Enters P f ∧ ∀ M ρ w args, SR T M ρ H w → relL M ρ vs args → CallOK P T f args.toArray M ρ w r) ∨ Direct P T f vs H r
def StepOK (P : Program) (T : Tab) (o : Oper) (a : Act) (M : Mem) (ρ : Ren) (w : World) (Q : Exit → Act → World → Prop) (K : Act → World → Prop) : OR → Prop
 | .val v H' => (∀ x M' ρ' w', Ext M ρ w M' ρ' w' → rel M' ρ' v x → SR T M' ρ' H' w' → K (a.put o.dst x) w') → o.wp P a w K Q
 | .pan v H' => (∀ x M' ρ' w', Ext M ρ w M' ρ' w' → rel M' ρ' v x → SR T M' ρ' H' w' → Q (.panic [{ v := x, recovered := false }]) a w') → o.wp P a w K Q
 | .no => True
variable {Q : Exit → Act → World → Prop} {K : Act → World → Prop} {o : Oper} {a : Act}

theorem step_of_ok {s : Sem Value} (hexec : execOp a.eval o = (do Pure.pure (.value (← s)))) {v : V} {H' : Heap} (h : OpOK P T s M ρ w v H') : StepOK P T o a M ρ w Q K (.val v H') := by
 intro hK;obtain ⟨x, w', ρ', hr, he, hv, hS⟩ := h;unfold Oper.wp;rw [hexec];simp only [Sem.run_bind, hr, Result.andThen_ok, Sem.run_pure, Oper.upon];exact hK x M ρ' w' he hv hS
theorem step_of_pure {s : Sem Value} (hexec : execOp a.eval o = (do Pure.pure (.value (← s)))) (hS : SR T M ρ H w) {v : V} {x : Value} (hr : s.run P w = .ok x w) (hv : rel M ρ v x) : StepOK P T o a M ρ w Q K (.val v H) :=
 step_of_ok hexec (OpOK.pure hS hr hv)
theorem step_lift {s : Sem Value} (hexec : execOp a.eval o = (do Pure.pure (.value (← s)))) (hS : SR T M ρ H w) {r : Option V} (h : ∀ v, r = some v → ∃ x, s.run P w = .ok x w ∧ rel M ρ v x) : StepOK P T o a M ρ w Q K (lift r H) := by
 cases r with
 | none => trivial
 | some v =>
  obtain ⟨x, hx, hv⟩ := h v rfl;exact step_of_pure hexec hS hx hv
theorem call_step {call : CallF} (hcall : call.Sound P T) (hS : SR T M ρ H w) {g : FuncId} {vs : List V} {xs : List Value} {r : OR} (h : call g vs H = r) (hr : relL M ρ vs xs) (hexec : (execOp a.eval o).run P w = (callFunc g xs.toArray).run P w) : StepOK P T o a M ρ w Q K r := by
 by_cases hno : r = .no
 ·subst hno; trivial
 rcases hcall g vs H r h hno with ⟨hent, hok⟩ | ⟨v, H', rfl, hok⟩;case inr =>
  obtain ⟨x, M', ρ', w', hx, he, hv, hS'⟩ := hok M ρ w xs hS hr;intro hK;unfold Oper.wp;rw [hexec, hx];exact hK x M' ρ' w' he hv hS'
 have := hok M ρ w xs hS hr;have hexec : (execOp a.eval o).run P w = .ok (.enter g xs.toArray) w := hexec.trans (hent _ w);cases r with
 | no => trivial
 | val v H' =>
  intro hK;unfold Oper.wp;rw [hexec];refine Calls.mono this ?_;rintro e w' ⟨x, M', ρ', rfl, he, hv, hS'⟩;exact hK x M' ρ' w' he hv hS'
 | pan v H' =>
  intro hK;unfold Oper.wp;rw [hexec];refine Calls.mono this ?_;rintro e w' ⟨x, M', ρ', rfl, he, hv, hS'⟩;exact hK x M' ρ' w' he hv hS'
theorem evCall_ok (hT : TOk P T) {call : CallF} (hcall : call.Sound P T) (hS : SR T M ρ H w) {t : Env} (ht : relT M ρ t a.tmps) {c : Call} (ho : o.op = .call c) {r : OR} (h : evCall T call c t H = r) : StepOK P T o a M ρ w Q K r := by
 unfold evCall at h;split at h
 ·subst h; trivial
 rename_i args hargs;have hrel := evs_rel ht hargs;split at h
 ·rename_i f hf;split at h
  ·rename_i g cap hg;have hgv := ev1_rel ht hg;simp only [rel] at hgv;obtain ⟨cs, hval, hcs⟩ := hgv;split at h
   ·rename_i F hF;subst h;cases hv : F (args ++ cap) with
    | none => trivial
    | some v =>
     obtain ⟨x, hx, hxr⟩ := hT.ext g F hF M ρ _ _ v (relL_append hrel hcs) hv;intro hK;have hexec : (execOp a.eval o).run P w = .ok (.value x) w := by
      have : (callFunc g (c.args.map a.eval ++ cs.toArray)).run P w = .ok (.value x) w := by
       have h2 := hx w;have e : (c.args.toList.map a.eval ++ cs).toArray = c.args.map a.eval ++ cs.toArray := by apply Array.ext'; simp
       rwa [e] at h2
      simp [execOp, ho, resolve, hf, hval, Deferred.ofValue, invoke, this]
     unfold Oper.wp;rw [hexec];exact hK x M ρ w (Ext.refl _ _ _) hxr hS
   refine call_step hcall hS h (relL_append hrel hcs) ?_;have e : (c.args.toList.map a.eval ++ cs).toArray = c.args.map a.eval ++ cs.toArray := by apply Array.ext'; simp
   rw [e];simp [execOp, ho, resolve, hf, hval, Deferred.ofValue, invoke]
  ·rename_i g fs hg;have hgv := ev1_rel ht hg;simp only [rel] at hgv;obtain ⟨cs, hval, hcs⟩ := hgv;split at h
   ·subst h; trivial
   refine call_step hcall hS h (relL_append hcs hrel) ?_;have e : (cs ++ c.args.toList.map a.eval).toArray = cs.toArray ++ c.args.map a.eval := by apply Array.ext'; simp
   rw [e];simp [execOp, ho, resolve, hf, hval, Deferred.ofValue, invoke]
  ·subst h; trivial
 ·rename_i x name hf;split at h
  ·rename_i ty v hx;have hxv := ev1_rel ht hx;simp only [rel] at hxv;obtain ⟨y, hval, hy⟩ := hxv;split at h
   ·rename_i g hg;split at h
    ·subst h; trivial
    refine call_step hcall hS h (relL_cons hy hrel) ?_;have hm := hT.meth _ _ _ hg y;have e : (y :: c.args.toList.map a.eval).toArray = #[y] ++ c.args.map a.eval := by apply Array.ext'; simp
    rw [e];have e1 : (#[Value.iface ty y] ++ c.args.map a.eval)[0]? = some (.iface ty y) := by rw [Array.getElem?_append_left (by simp)]; rfl
    have e2 : (#[Value.iface ty y] ++ c.args.map a.eval).extract 1 (#[Value.iface ty y] ++ c.args.map a.eval).size = c.args.map a.eval := by
     apply Array.ext';simp;exact List.take_of_length_le (by simp)
    simp only [execOp, ho, resolve, hf, hval, Sem.run_bind, Sem.run_pure, Result.andThen_ok, invoke, e1, e2, callMethod];simp [hm]
   ·subst h; trivial
  ·subst h; trivial
 ·rename_i hf;split at h
  ·rename_i ty d q hty;obtain ⟨x, r1, hxs, hx, hr1⟩ : ∃ x r, c.args.toList.map a.eval = x :: r ∧ rel M ρ d x ∧ relL M ρ [q] r := by simpa only [relL] using hrel
   obtain ⟨y, r2, rfl, hy, rfl⟩ : ∃ y r, r1 = y :: r ∧ rel M ρ q y ∧ r = [] := by simpa only [relL] using hr1
   cases r with
   | no => trivial
   | pan v H' => exact absurd h evCopy_no_pan
   | val v H' =>
    refine step_of_ok (s := Builtin.copy_ c.argTypes o.type #[x, y]) ?_ (evCopy_ok hT hS hx hy h c.argTypes hty o.type);have e : c.args.map a.eval = #[x, y] := by apply Array.ext'; simpa using hxs
    simp [execOp, ho, resolve, hf, invoke, builtin, e]
  ·subst h; trivial
 ·rename_i hf;split at h
  ·rename_i x;subst h;simp only [relL] at hrel;obtain ⟨y, r', hy, hyr, hr'⟩ := hrel;subst hr';have hmap : c.args.map a.eval = #[y] := by apply Array.ext'; simpa using hy
   have hexec : execOp a.eval o = (do Pure.pure (.value (← Builtin.unsafeSliceData_ c.argTypes o.type #[y]))) := by
    simp [execOp, ho, resolve, hf, invoke, builtin, hmap]
   exact step_lift hexec hS fun v hv => by
    obtain ⟨z, hz, hzr⟩ := evSliceData_ok (P := P) hyr hv c.argTypes o.type;exact ⟨z, hz w, hzr⟩
  ·subst h; trivial
 ·rename_i hf;split at h
  ·rename_i ty p l h0;simp only [relL] at hrel;obtain ⟨y, r', hy, hyr, z, r2, rfl, hzr, rfl⟩ := hrel;have hmap : c.args.map a.eval = #[y, z] := by apply Array.ext'; simpa using hy
   have hexec : execOp a.eval o = (do Pure.pure (.value (← Builtin.unsafeString_ c.argTypes o.type #[y, z]))) := by
    simp [execOp, ho, resolve, hf, invoke, builtin, hmap]
   cases r with
   | no => trivial
   | val v H' => exact step_of_ok hexec (evUnsafeString_ok hT hS hyr hzr h c.argTypes h0 o.type)
   | pan v H' =>
    exfalso;unfold evUnsafeString at h;simp only [setK_eq] at h;repeat' (split at h)
    all_goals cases h
  ·subst h; trivial
 ·rename_i hf;split at h
  ·rename_i ty x h0;subst h;simp only [relL] at hrel;obtain ⟨y, r', hy, hyr, hr'⟩ := hrel;subst hr';have hmap : c.args.map a.eval = #[y] := by apply Array.ext'; simpa using hy
   have hexec : execOp a.eval o = (do Pure.pure (.value (← Builtin.len_ c.argTypes o.type #[y]))) := by
    simp [execOp, ho, resolve, hf, invoke, builtin, hmap]
   exact step_lift hexec hS fun v hv => by
    obtain ⟨z, hz, hzr⟩ := evLen_ok hT hyr hv c.argTypes h0 o.type;exact ⟨z, hz w, hzr⟩
  ·subst h; trivial
 ·rename_i hf;split at h
  ·rename_i ty ty2 s x h0 h1;simp only [relL] at hrel;obtain ⟨y, r', hy, hyr, z, r2, rfl, hzr, rfl⟩ := hrel;have hmap : c.args.map a.eval = #[y, z] := by apply Array.ext'; simpa using hy
   have hexec : execOp a.eval o = (do Pure.pure (.value (← Builtin.append_ c.argTypes o.type #[y, z]))) := by
    simp [execOp, ho, resolve, hf, invoke, builtin, hmap]
   have key : ∀ d1, P.underlying ty2 = some d1 → ((∃ e', d1 = TypeDesc.slice e') ∨ d1 = .string) → evAppend T ty s x H = r → StepOK P T o a M ρ w Q K r := by
    intro d1 hd1 hd2 hr;cases hr2 : r with
    | no => trivial
    | val v H' => exact step_of_ok hexec (evAppend_ok hT hS hyr hzr (hr.trans hr2) c.argTypes h0 h1 hd1 hd2 o.type)
    | pan v H' =>
     exfalso;rw [hr2] at hr;unfold evAppend at hr;simp only [newB_eq, setB_eq, setK_eq] at hr;repeat' (split at hr)
     all_goals cases hr
   split at h
   ·rename_i e' hu;exact key _ (hT.und _ _ hu) (.inl ⟨_, rfl⟩) h
   ·rename_i hu;exact key _ (hT.und _ _ hu) (.inr rfl) h
   ·subst h; trivial
  ·subst h; trivial
 ·rename_i hf;split at h
  ·rename_i x y;subst h;simp only [relL] at hrel;obtain ⟨y', r', hy, hyr, z, r2, rfl, hzr, rfl⟩ := hrel;have hmap : c.args.map a.eval = #[y', z] := by apply Array.ext'; simpa using hy
   have hexec : execOp a.eval o = (do Pure.pure (.value (← Builtin.max_ c.argTypes o.type #[y', z]))) := by
    simp [execOp, ho, resolve, hf, invoke, builtin, hmap]
   exact step_lift hexec hS fun v hv => by
    unfold evMax at hv;split at hv
    ·cases hv;simp only [rel] at hyr hzr;subst hyr hzr;rename_i k a' k' b' _;exact ⟨.int k (if b' > a' then b' else a'), by simp [Builtin.max_, Builtin.max2], by simp [rel]⟩
    ·rename_i heq; cases heq
    ·cases hv
  ·subst h; trivial
 ·rename_i hf;split at h
  ·rename_i x y;subst h;simp only [relL] at hrel;obtain ⟨y', r', hy, hyr, z, r2, rfl, hzr, rfl⟩ := hrel;have hmap : c.args.map a.eval = #[y', z] := by apply Array.ext'; simpa using hy
   have hexec : execOp a.eval o = (do Pure.pure (.value (← Builtin.min_ c.argTypes o.type #[y', z]))) := by
    simp [execOp, ho, resolve, hf, invoke, builtin, hmap]
   exact step_lift hexec hS fun v hv => by
    unfold evMax at hv;split at hv
    ·rename_i heq; cases heq
    ·cases hv;simp only [rel] at hyr hzr;subst hyr hzr;rename_i k a' k' b' _;exact ⟨.int k (if b' < a' then b' else a'), by simp [Builtin.min_, Builtin.min2], by simp [rel]⟩
    ·cases hv
  ·subst h; trivial
 ·subst h; trivial
end
open Go
section
variable {P : Program} {T : Tab} {M : Mem} {ρ : Ren} {w : World} {H : Heap} {Q : Exit → Act → World → Prop} {K : Act → World → Prop} {o : Oper} {a : Act}

theorem evAssert_ok (hT : TOk P T) {ty : TypeId} {ok : Bool} {p v : V} {x : Value} (hx : rel M ρ p x) (h : evAssert T ty ok p = some v) (xT : TypeId) : ∃ z, (∀ w, (Instr.typeAssert x xT ty ok).run P w = .ok z w) ∧ rel M ρ v z := by
 unfold evAssert at h;have zero : ∀ (h : (bif ok then (T.zero ty).map fun z => V.tup [z, .b false] else none) = some v), ok = true ∧ ∃ z, (∀ w, (zeroValue ty).run P w = .ok z w) ∧ rel M ρ v (.tuple #[z, .bool false]) := by
  intro h;cases ok with
  | false => cases h
  | true =>
   simp only [cond_true] at h;cases hz : T.zero ty with
   | none => rw [hz] at h; cases h
   | some z =>
    rw [hz] at h;cases h;obtain ⟨zv, h1, h2⟩ := hT.run_zero hz;refine ⟨rfl, zv, h2, ?_⟩;simp only [rel, relL];exact ⟨[zv, .bool false], rfl, zv, _, rfl, ofVal_rel h1, _, _, rfl, rfl, rfl⟩
 split at h
 ·cases h
 ·cases h
 ·rename_i d hni hd;have hu := run_underlying (hT.und _ _ hd);split at h
  ·rename_i t u;simp only [rel] at hx;obtain ⟨y, rfl, hy⟩ := hx;split at h
   ·rename_i e;subst e;refine ⟨if ok = true then .tuple #[y, .bool true] else y, fun w => ?_, ?_⟩
    ·cases d <;> first
      | exact absurd rfl (hni _)
      | (cases ok <;> simp [Instr.typeAssert, hu])
    ·cases ok with
     | true =>
      cases h;simp only [rel, relL];exact ⟨[y, .bool true], rfl, y, _, rfl, hy, _, _, rfl, rfl, rfl⟩
     | false => cases h; exact hy
   ·rename_i e;obtain ⟨rfl, z, h1, h2⟩ := zero h;refine ⟨_, fun w => ?_, h2⟩;cases d <;> first
     | exact absurd rfl (hni _)
     | simp [Instr.typeAssert, hu, e, h1]
  ·simp only [rel] at hx;subst hx;obtain ⟨rfl, z, h1, h2⟩ := zero h;refine ⟨_, fun w => ?_, h2⟩;cases d <;> first
    | exact absurd rfl (hni _)
    | simp [Instr.typeAssert, hu, h1]
  ·cases h
theorem evOp_ok (hT : TOk P T) {call : CallF} (hcall : call.Sound P T) (hS : SR T M ρ H w) {t : Env} (ht : relT M ρ t a.tmps) {r : OR} (h : evOp T call o t H = r) : StepOK P T o a M ρ w Q K r := by
  unfold evOp at h
  simp only [newB_eq] at h
  split at h
  case h_1 x ho => subst h; exact step_lift (s := Pure.pure (a.eval x)) (by simp [execOp, ho]) hS fun v hv => ⟨_, by simp, ev1_rel ht hv⟩
  case h_2 x ho => subst h; exact step_lift (s := Pure.pure (a.eval x)) (by simp [execOp, ho]) hS fun v hv => ⟨_, by simp, ev1_rel ht hv⟩
  case h_3 c x y ho =>
    split at h
    · rename_i hc
      have := ev1_rel ht hc
      simp only [rel] at this
      subst h
      exact step_lift (s := Pure.pure (a.eval x)) (by simp [execOp, ho, this, asBool]) hS fun v hv => ⟨_, by simp, ev1_rel ht hv⟩
    · rename_i hc
      have := ev1_rel ht hc
      simp only [rel] at this
      subst h
      exact step_lift (s := Pure.pure (a.eval y)) (by simp [execOp, ho, this, asBool]) hS fun v hv => ⟨_, by simp, ev1_rel ht hv⟩
    · subst h; trivial
  case h_4 e ho =>
    split at h
    · rename_i z hz
      subst h
      obtain ⟨zv, hzv, hzr⟩ := hT.run_zero hz
      have hc := rel_cells (ofVal_rel (M := M) (ρ := ρ) hzv)
      obtain ⟨a1, a2, a3⟩ := alloc_ok (P := P) hS e hc
      refine step_of_ok (s := Instr.alloc e true (.tuple #[])) (by simp [execOp, ho]) ⟨.pointer (some ⟨w.heap.size, 0, none⟩), _, _, ?_, a3, ?_, a2⟩
      · have a1' : (newRow e zv.cells).run P w = .ok ⟨w.heap.size, 0, none⟩ (w.alloc (.cells zv.cells.toList.toArray e)) := by simpa using a1
        simp [Instr.alloc, hzr, newVar, a1']
      · simp only [rel]
        exact ⟨w.heap.size, _, by rw [← hS.len, List.getElem?_concat_length], rfl⟩
    · subst h; trivial
  case h_5 e x ho =>
    split at h
    · rename_i v hv
      split at h
      · subst h
        have hc := rel_cells (ev1_rel ht hv)
        obtain ⟨a1, a2, a3⟩ := alloc_ok (P := P) hS e hc
        refine step_of_ok (s := Instr.box e (a.eval x)) (by simp [execOp, ho]) ⟨.pointer (some ⟨w.heap.size, 0, none⟩), _, _, ?_, a3, ?_, a2⟩
        · have a1' : (newRow e (a.eval x).cells).run P w = .ok ⟨w.heap.size, 0, none⟩ (w.alloc (.cells (a.eval x).cells.toList.toArray e)) := by simpa using a1
          simp [Instr.box, newVar, a1']
        · simp only [rel]
          exact ⟨w.heap.size, _, by rw [← hS.len, List.getElem?_concat_length], rfl⟩
      · subst h; trivial
    · subst h; trivial
  case h_6 ty parts ho =>
    split at h
    · rename_i ps hps
      have hp := evParts_rel ht hps
      subst h
      refine step_lift (s := Instr.build ty (parts.map fun (i, x) => (i, a.eval x))) (by simp [execOp, ho]) hS fun v hv => ?_
      obtain ⟨x, hx, hr⟩ := evBuild_ok hT hp hv
      have he : (parts.toList.map fun (i, x) => (i, a.eval x)).toArray = parts.map fun (i, x) => (i, a.eval x) := by apply Array.ext'; simp
      exact ⟨x, by rw [← he]; exact hx w, hr⟩
    · subst h; trivial
  case h_7 ty len parts ho =>
    split at h
    · rename_i ps hps
      have hp := evParts_rel ht hps
      have he : (parts.toList.map fun (i, x) => (i, a.eval x)).toArray = parts.map fun (i, x) => (i, a.eval x) := by apply Array.ext'; simp
      cases r with
      | no => trivial
      | val v H' =>
        have := evBuildSlice_ok hT hS hp h
        rw [he] at this
        exact step_of_ok (by simp [execOp, ho]) this
      | pan v H' =>
        exfalso
        unfold evBuildSlice at h
        simp only [newB_eq] at h
        repeat' (split at h)
        all_goals cases h
    · subst h; trivial
  case h_8 ty x ho =>
    split at h
    · rename_i p hp
      subst h
      refine step_lift (s := Instr.loadAt ty (a.eval x)) (by simp [execOp, ho]) hS fun v hv => ?_
      exact loadA_ok hT hS hv (ev1_rel ht hp)
    · subst h; trivial
  case h_9 ty x y ho =>
    split at h
    · rename_i p v hp hv
      split at h
      · rename_i H' hst
        subst h
        intro hK
        obtain ⟨w', h1, h2, h3⟩ := storeA_ok (P := P) hT hS hst (ev1_rel ht hp) (ev1_rel ht hv)
        unfold Oper.wp
        simp only [execOp, ho, Sem.run_bind, h1, Result.andThen_ok, Sem.run_pure, Oper.upon]
        exact hK undef M ρ w' h2 rel_undef h3
      · subst h; trivial
    · subst h; trivial
  case h_10 x ho =>
    split at h <;> first
      | (subst h; trivial)
      | (rename_i hp
         subst h
         have hr := ev1_rel ht hp
         have hr0 := hr
         simp only [rel] at hr
         refine step_of_pure (s := Pure.pure (a.eval x)) ?_ hS (x := a.eval x) (by simp) hr0
         first
           | (obtain ⟨_, _, _, hx⟩ := hr; simp [execOp, ho, hx]; done)
           | (obtain ⟨_, _, hx, _⟩ := hr; simp [execOp, ho, hx]; done)
           | (obtain ⟨_, hx, _⟩ := hr; simp [execOp, ho, hx])
           | (simp [execOp, ho, hr]))
  case h_11 op xT x y yT ho =>
    split at h
    · rename_i p q hp hq
      subst h
      refine step_lift (s := (do eqGuard op xT x y (a.eval x) (a.eval y); binOp op xT (a.eval x) (a.eval y))) (by simp [execOp, ho]) hS fun v hv => ?_
      obtain ⟨z, hz, hr⟩ := evBinO_ok hT x y (ev1_rel ht hp) (ev1_rel ht hq) hv
      exact ⟨z, hz w, hr⟩
    · subst h; trivial
  case h_12 op xT x ho =>
    split at h
    · rename_i p hp
      subst h
      refine step_lift (s := Op.unary op (a.eval x)) (by simp [execOp, ho]) hS fun v hv => ?_
      obtain ⟨z, hz, hr⟩ := evUn_ok (P := P) (ev1_rel ht hp) hv
      exact ⟨z, hz w, hr⟩
    · subst h; trivial
  case h_13 src dst x ho =>
    split at h
    · rename_i p hp
      cases r with
      | no => trivial
      | val v H' => exact step_of_ok (s := convert src dst (a.eval x)) (by simp [execOp, ho]) (evConvO_ok hT hS (ev1_rel ht hp) h)
      | pan v H' => exact absurd h evConvO_no_pan
    · subst h; trivial
  case h_14 ty x ho =>
    split at h
    · subst h; trivial
    · rename_i d v hnot hd hv
      subst h
      refine step_of_pure (s := Instr.makeInterface ty (a.eval x)) (by simp [execOp, ho]) hS (x := .iface ty (a.eval x)) ?_ (by simp only [rel]; exact ⟨_, rfl, ev1_rel ht hv⟩)
      simp only [Instr.makeInterface, Sem.run_bind, hT.run_und hd, Result.andThen_ok]
      simp
    · subst h; trivial
  case h_15 g first captured ho =>
    split at h
    · rename_i cs hf hc
      subst h
      have hr := evs_rel ht hc
      refine step_of_pure (s := Instr.makeFunc (.func g) (first.map a.eval) (captured.map a.eval)) (by simp [execOp, ho]) hS (x := .func (.func g) #[] (captured.map a.eval)) ?_ ?_
      · have : first = #[] := by apply Array.ext'; simpa using hf
        simp [Instr.makeFunc, this]
      · simp only [rel]
        exact ⟨captured.toList.map a.eval, by congr 1; apply Array.ext'; simp, hr⟩
    · rename_i q l hf hc
      split at h
      · rename_i fs hfs
        subst h
        have hr := evs_rel ht hfs
        have hc0 : captured.toList = [] := by
          cases hcl : captured.toList with
          | nil => rfl
          | cons x r =>
            rw [hcl] at hc
            unfold evs at hc
            repeat' (split at hc)
            all_goals cases hc
        have hce : captured = #[] := by apply Array.ext'; simpa using hc0
        refine step_of_pure (s := Instr.makeFunc (.func g) (first.map a.eval) (captured.map a.eval)) (by simp [execOp, ho]) hS (x := .func (.func g) (first.map a.eval) #[]) ?_ ?_
        · simp [Instr.makeFunc, hce]
        · simp only [rel]
          refine ⟨first.toList.map a.eval, by congr 1; apply Array.ext'; simp, ?_⟩
          rw [hf]
          exact hr
      · subst h; trivial
    · subst h; trivial
  case h_16 ty l c ho =>
    split at h
    · rename_i p q hp hq
      cases r with
      | no => trivial
      | val v H' => exact step_of_ok (by simp [execOp, ho]) (evMakeSlice_ok hT hS (ev1_rel ht hp) (ev1_rel ht hq) h)
      | pan v H' =>
        exfalso
        unfold evMakeSlice at h
        simp only [newB_eq] at h
        repeat' (split at h)
        all_goals cases h
    · subst h; trivial
  case h_17 ty x lo hi mx ho =>
    split at h
    · rename_i p hp
      subst h
      refine step_lift (s := Instr.sliceAt ty (a.eval x) (lo.map a.eval) (hi.map a.eval) (mx.map a.eval)) (by simp [execOp, ho]) hS fun v hv => ?_
      obtain ⟨z, hz, hr⟩ := evSlice_ok hT ht (ev1_rel ht hp) hv
      exact ⟨z, hz w, hr⟩
    · subst h; trivial
  case h_18 ty x f ho =>
    split at h
    · rename_i p hp
      subst h
      refine step_lift (s := Instr.fieldAt ty (a.eval x) f) (by simp [execOp, ho]) hS fun v hv => ?_
      obtain ⟨z, hz, hr⟩ := evFieldAddr_ok hT (ev1_rel ht hp) hv
      exact ⟨z, hz w, hr⟩
    · subst h; trivial
  case h_19 ty x f ho =>
    split at h
    · rename_i p hp
      subst h
      refine step_lift (s := Instr.field ty (a.eval x) f) (by simp [execOp, ho]) hS fun v hv => ?_
      obtain ⟨z, hz, hr⟩ := evField_ok hT (ev1_rel ht hp) hv
      exact ⟨z, hz w, hr⟩
    · subst h; trivial
  case h_20 ty x ix ho =>
    split at h
    · rename_i p q hp hq
      subst h
      refine step_lift (s := Instr.indexAt ty (a.eval x) (a.eval ix)) (by simp [execOp, ho]) hS fun v hv => ?_
      obtain ⟨z, hz, hr⟩ := evIndexAddr_ok hT (ev1_rel ht hp) (ev1_rel ht hq) hv
      exact ⟨z, hz w, hr⟩
    · subst h; trivial
  case h_21 ty x ix ho =>
    split at h
    · rename_i p q hp hq
      subst h
      refine step_lift (s := Instr.index ty (a.eval x) (a.eval ix)) (by simp [execOp, ho]) hS fun v hv => ?_
      obtain ⟨z, hz, hr⟩ := evIndex_ok hT (ev1_rel ht hp) (ev1_rel ht hq) hv
      exact ⟨z, hz w, hr⟩
    · subst h; trivial
  case h_22 x ix ho =>
    split at h
    · rename_i l hp
      have hr := ev1_rel ht hp
      simp only [rel] at hr
      obtain ⟨cs, hx, hcs⟩ := hr
      subst h
      refine step_lift (s := Instr.extract (a.eval x) ix) (by simp [execOp, ho]) hS fun v hv => ?_
      obtain ⟨y, hy, hyr⟩ := relL_get hcs hv
      exact ⟨y, by simp [Instr.extract, hx, hy], hyr⟩
    · subst h; trivial
  case h_23 ty r' ho =>
    have hnew : ∀ (rv : Option Value), (∀ x, rv = some x → ∃ k n d e, x = .int k n ∧ P.underlying ty = some (.map d e)) → execOp a.eval o = (do Pure.pure (.value (← Instr.makeMap ty rv))) → StepOK P T o a M ρ w Q K (.val (.mp H.length) (H ++ [some { ty, cells := [], kind := .map }])) := by
      intro rv hrv hexec
      have hok : BlkOK M ρ (some (.map #[] 0)) { ty, cells := [], kind := .map } 0 := by
        unfold BlkOK
        exact .inl ⟨[], 0, rfl, by simp [relM], rfl, by simp [StampOK]⟩
      have a2 := hS.allocB hS.lt (.map #[] 0) { ty, cells := [], kind := .map } 0 hok
      refine step_of_ok hexec ⟨.map (some w.heap.size), _, _, ?_, Ext.alloc M ρ w (.map #[] 0) 0, ?_, a2⟩
      · have hn : (newObj (.map #[] 0)).run P w = .ok w.heap.size (w.alloc (.map #[] 0)) := by simp [newObj, Sem.run]
        cases rv with
        | none => simp only [Instr.makeMap, Sem.run_bind, Sem.run_pure, Result.andThen_ok, hn]
        | some x =>
          obtain ⟨k, n, d, e, rfl, hu⟩ := hrv x rfl
          simp only [Instr.makeMap, Sem.run_bind, run_underlying hu, Result.andThen_ok, asInt, asIntOf, Sem.run_pure, hn]
      · simp only [rel]
        exact ⟨w.heap.size, 0, by rw [← hS.len, List.getElem?_concat_length], rfl⟩
    split at h
    · subst h
      exact hnew none (fun x hx => by cases hx) (by simp [execOp, ho])
    · rename_i rr
      split at h
      · rename_i d e k n hu hn
        subst h
        have hv := ev1_rel ht hn
        simp only [rel] at hv
        exact hnew (some (a.eval rr)) (fun x hx => by cases hx; exact ⟨_, _, _, _, hv, hT.und _ _ hu⟩) (by simp [execOp, ho])
      · subst h; trivial
  case h_24 ty m k v ho =>
    split at h
    · rename_i p q x hp hq hx
      cases r with
      | no => trivial
      | val u H' =>
        obtain ⟨rfl, w', h1, h2, h3⟩ := evMapSet_ok hT hS (ev1_rel ht hp) (ev1_rel ht hq) (ev1_rel ht hx) h
        intro hK
        unfold Oper.wp
        simp only [execOp, ho, Sem.run_bind, h1, Result.andThen_ok, Sem.run_pure, Oper.upon]
        exact hK undef M ρ w' h2 rel_undef h3
      | pan u H' =>
        exfalso
        unfold evMapSet at h
        simp only [setB_eq] at h
        repeat' (split at h)
        all_goals cases h
    · subst h; trivial
  case h_25 ty m k v ho =>
    split at h
    · rename_i p q x hp hq hx
      cases r with
      | no => trivial
      | val u H' =>
        obtain ⟨rfl, w', h1, h2, h3⟩ := evMapSet_ok hT hS (ev1_rel ht hp) (ev1_rel ht hq) (ev1_rel ht hx) h
        intro hK
        unfold Oper.wp
        simp only [execOp, ho, Sem.run_bind, h1, Result.andThen_ok, Sem.run_pure, Oper.upon]
        exact hK undef M ρ w' h2 rel_undef h3
      | pan u H' =>
        exfalso
        unfold evMapSet at h
        simp only [setB_eq] at h
        repeat' (split at h)
        all_goals cases h
    · subst h; trivial
  case h_26 ty m k ok ho =>
    split at h
    · rename_i p q hp hq
      subst h
      refine step_lift (s := Instr.lookup ty (a.eval m) (a.eval k) ok) (by simp [execOp, ho]) hS fun v hv => ?_
      exact evLookup_ok hT hS (ev1_rel ht hp) (ev1_rel ht hq) hv
    · subst h; trivial
  case h_27 c ho => exact evCall_ok hT hcall hS ht ho h
  case h_28 x ho =>
    split at h
    · rename_i ty v hp
      have hr := ev1_rel ht hp
      have hr0 := hr
      simp only [rel] at hr
      obtain ⟨y, hx, hyr⟩ := hr
      subst h
      intro hK
      unfold Oper.wp
      have : (execOp a.eval o).run P w = .halt (.panic (.iface ty y)) w := by
        simp [execOp, ho, hx, Instr.panic, goPanic, Sem.run]
      rw [this]
      exact hK _ M ρ w (Ext.refl _ _ _) (hx ▸ hr0) hS
    · subst h; trivial
  case h_29 x xT ty ok ho =>
    split at h
    · rename_i p hp
      subst h
      refine step_lift (s := Instr.typeAssert (a.eval x) xT ty ok) (by simp [execOp, ho]) hS fun v hv => ?_
      obtain ⟨z, hz, hr⟩ := evAssert_ok hT (ev1_rel ht hp) hv xT
      exact ⟨z, hz w, hr⟩
    · subst h; trivial
  case h_30 => subst h; trivial

def relTw (M : Mem) (ρ : Ren) (t : Tm) (tmps : Array Value) : Prop := ∀ k, t.get k = .un ∨ rel M ρ (t.get k) (tmps.getD k undef)
theorem relTm.weak {t : Tm} {tmps : Array Value} (h : relTm M ρ t tmps) : relTw M ρ t tmps := fun k => .inr (h.2 k)
theorem relTw_mono {M' : Mem} {ρ' : Ren} {t : Tm} {tmps : Array Value} (hM : M.le M') (hρ : ρ <+: ρ') (h : relTw M ρ t tmps) : relTw M' ρ' t tmps := fun k => (h k).imp id fun h => rel_mono hM hρ _ _ h
def OutOK (T : Tab) (M : Mem) (ρ : Ren) (w : World) (Q : Exit → Act → World → Prop) (ds : List Deferred) : Out → Prop
 | .norm t H' => ∀ a' w' M' ρ', Ext M ρ w M' ρ' w' → relTm M' ρ' t a'.tmps → SR T M' ρ' H' w' → a'.defers = ds → Q .normal a' w'
 | .exit id t H' => ∀ a' w' M' ρ', Ext M ρ w M' ρ' w' → relTm M' ρ' t a'.tmps → SR T M' ρ' H' w' → a'.defers = ds → Q (.exit id) a' w'
 | .ret t H' => ∀ a' w' M' ρ', Ext M ρ w M' ρ' w' → relTm M' ρ' t a'.tmps → SR T M' ρ' H' w' → a'.defers = ds → Q .ret a' w'
 | .pan v t H' => ∀ a' w' M' ρ' x, Ext M ρ w M' ρ' w' → relTw M' ρ' t a'.tmps → rel M' ρ' v x → SR T M' ρ' H' w' → a'.defers = ds → Q (.panic [{ v := x, recovered := false }]) a' w'
 | .no => False
theorem OutOK.later {M' : Mem} {ρ' : Ren} {w' : World} (he : Ext M ρ w M' ρ' w') {ds : List Deferred} {r : Out} (h : OutOK T M ρ w Q ds r) : OutOK T M' ρ' w' Q ds r := by
 cases r with
 | norm t H => exact fun a' w2 M2 ρ2 h1 => h a' w2 M2 ρ2 (he.trans h1)
 | exit id t H => exact fun a' w2 M2 ρ2 h1 => h a' w2 M2 ρ2 (he.trans h1)
 | ret t H => exact fun a' w2 M2 ρ2 h1 => h a' w2 M2 ρ2 (he.trans h1)
 | pan v t H => exact fun a' w2 M2 ρ2 x h1 => h a' w2 M2 ρ2 x (he.trans h1)
 | no => exact h
theorem wants_ok {ops : Array Oper} {t : Env} (ht : relT M ρ t a.tmps) {y : Bool} (h : wants ops o t = some y) : Region.wanted o (yielded ops a.tmps) = y := by
 unfold wants at h;unfold Region.wanted;split at h
 ·rename_i hg; rw [hg]; cases h; rfl
 ·rename_i j want hg;rw [hg];simp only;unfold yielded;split at h
  ·rename_i hd;rw [hd];cases h;rfl
  ·rename_i d hd;rw [hd];have hr := ht d;split at h
   ·rename_i z hz;rw [hz] at hr;simp only [rel] at hr;have : a.tmps[d]? = some (.bool z) := by
     rw [Array.getD_eq_getD_getElem?] at hr;cases hx : a.tmps[d]? with
     | none => rw [hx] at hr; cases hr
     | some y => rw [hx] at hr; simpa using hr
    cases h;simp only [Option.bind_some, this];cases z <;> cases want <;> rfl
   ·rename_i hz;rw [hz] at hr;simp only [rel, relL] at hr;obtain ⟨cs, hr, rfl⟩ := hr;cases h;rw [Array.getD_eq_getD_getElem?] at hr;simp only [Option.bind_some];cases hx : a.tmps[d]? with
    | none => simp
    | some y =>
     rw [hx] at hr;simp at hr;subst hr;simp
   ·cases h
theorem put_defers' (a : Act) (d : Option Tmp) (x : Value) : (a.put d x).defers = a.defers := by cases d <;> rfl
theorem evSeq_ok (hT : TOk P T) {call : CallF} (hcall : call.Sound P T) (ops : Array Oper) : ∀ (l : List Oper) (t : Tm) (H : Heap) (a : Act) (w : World) (M : Mem) (ρ : Ren), SR T M ρ H w → relTm M ρ t a.tmps →
    OutOK T M ρ w Q a.defers (evSeq (evOp T call) ops l t H) → wpList P ops Q l a w
  | [], t, H, a, w, M, ρ, hS, ht, h => wpList_nil (h a w M ρ (Ext.refl _ _ _) ht hS rfl)
  | o :: r, t, H, a, w, M, ρ, hS, ht, h => by
    refine wpList_step fun K hK => ?_
    simp only [evSeq, putK_eq, opened_eq] at h
    split at h
    · rename_i hw
      rw [wants_ok ht.2 hw]
      simp only [if_true]
      split at h
      · rename_i v H' hv
        split at h
        · rename_i hfit
          refine evOp_ok hT hcall hS ht.2 (r := .val v H') hv ?_
          intro x M' ρ' w' he hx hS'
          refine hK _ _ (evSeq_ok hT hcall ops r _ H' _ w' M' ρ' hS' (put_rel (relTm_mono he.mem he.pre ht) hx o.dst hfit) ?_)
          rw [put_defers']
          exact h.later he
        · exact h.elim
      · rename_i v H' hv
        refine evOp_ok hT hcall hS ht.2 (r := .pan v H') hv ?_
        intro x M' ρ' w' he hx hS'
        exact h a w' M' ρ' x he (relTm.weak (relTm_mono he.mem he.pre ht)) hx hS' rfl
      · exact h.elim
    · rename_i hw
      rw [wants_ok ht.2 hw]
      simp only [Bool.false_eq_true, if_false]
      split at h
      · rename_i hfit
        refine hK _ _ (evSeq_ok hT hcall ops r _ H _ w M ρ hS (put_rel ht rel_undef o.dst hfit) ?_)
        rw [put_defers']
        exact h
      · exact h.elim
    · exact h.elim

def LoopWp (P : Program) (c : Code) (Q : Exit → Act → World → Prop) (a : Act) (w : World) : Prop :=
 ∀ (b : Frame) (k : List Item) (cs : List Frame), ∃ e a' w', Q e a' w' ∧ Arrives P (lone (b.at a (.code c :: .inLoop c :: k)) cs w) b k cs e a' w'
theorem wp_of_loopWp {c : Code} {a : Act} {w : World} (h : LoopWp P c Q a w) : (Code.loop c).wp P Q a w := fun b k cs =>
 let ⟨e, a', w', q, r⟩ := h b k cs; ⟨e, a', w', q, .of_steps (.one step_loop) r⟩
theorem loopWp_round {c : Code} {a : Act} {w : World} (h : c.wp P (Exit.then (LoopWp P c Q) Q) a w) : LoopWp P c Q a w := by
 intro b k cs;obtain ⟨e, a₁, w₁, hq, harr⟩ := h b (.inLoop c :: k) cs;cases e with
 | normal =>
  obtain ⟨e₂, a₂, w₂, hq₂, harr₂⟩ := hq b k cs;exact ⟨e₂, a₂, w₂, hq₂, .of_steps (Steps.trans harr (.one step_inLoop)) harr₂⟩
 | exit id => exact ⟨_, a₁, w₁, hq, .pass (x := .inLoop c) rfl (fun _ _ => .inl (by simp)) harr⟩
 | goto l => exact ⟨_, a₁, w₁, hq, .pass (x := .inLoop c) rfl (fun _ _ => .inl (by simp)) harr⟩
 | ret => exact ⟨_, a₁, w₁, hq, .pass (x := .inLoop c) rfl (fun _ _ => .inl (by simp)) harr⟩
 | panic ch => exact ⟨_, a₁, w₁, hq, .pass (x := .inLoop c) rfl (fun _ _ => .inl (by simp)) harr⟩
 | outgrown => exact ⟨_, a₁, w₁, hq, .pass (x := .inLoop c) rfl (fun _ _ => .inl (by simp)) harr⟩
abbrev RegF := Array Oper → Bool → Tm → Heap → Out
abbrev LoopF := Code → Tm → Heap → Out
def RegF.Sound (P : Program) (T : Tab) (reg : RegF) : Prop :=
 ∀ id ops d t H a w M ρ Q, SR T M ρ H w → relTm M ρ t a.tmps → OutOK T M ρ w Q a.defers (reg ops d t H) → (Code.region id ops d).wp P Q a w
def LoopF.Sound (P : Program) (T : Tab) (loop : LoopF) : Prop :=
 ∀ c t H a w M ρ Q, SR T M ρ H w → relTm M ρ t a.tmps → OutOK T M ρ w Q a.defers (loop c t H) → LoopWp P c Q a w
theorem evCode_ok {reg : RegF} {loop : LoopF} (hreg : reg.Sound P T) (hloop : loop.Sound P T) : ∀ (c : Code) (t : Tm) (H : Heap) (a : Act) (w : World) (M : Mem) (ρ : Ren) (Q : Exit → Act → World → Prop), SR T M ρ H w → relTm M ρ t a.tmps →
    OutOK T M ρ w Q a.defers (evCode reg loop c t H) → c.wp P Q a w ∧ (∀ d, c = .loop d → LoopWp P d Q a w)
  | .skip, t, H, a, w, M, ρ, Q, hS, ht, h => ⟨wp_skip (h a w M ρ (Ext.refl _ _ _) ht hS rfl), fun d e => by cases e⟩
  | .label _, t, H, a, w, M, ρ, Q, hS, ht, h => ⟨wp_label (h a w M ρ (Ext.refl _ _ _) ht hS rfl), fun d e => by cases e⟩
  | .exit id, t, H, a, w, M, ρ, Q, hS, ht, h => ⟨wp_exit (h a w M ρ (Ext.refl _ _ _) ht hS rfl), fun d e => by cases e⟩
  | .ret, t, H, a, w, M, ρ, Q, hS, ht, h => ⟨wp_ret (h a w M ρ (Ext.refl _ _ _) ht hS rfl), fun d e => by cases e⟩
  | .region id ops d, t, H, a, w, M, ρ, Q, hS, ht, h => ⟨hreg id ops d t H a w M ρ Q hS ht h, fun d e => by cases e⟩
  | .seq x y, t, H, a, w, M, ρ, Q, hS, ht, h => by
    refine ⟨wp_seq ((evCode_ok hreg hloop x t H a w M ρ _ hS ht ?_).1), fun d e => by cases e⟩
    simp only [evCode] at h
    split at h
    · rename_i t' H' hx
      rw [hx]
      intro a' w' M' ρ' he ht' hS' hd
      refine (evCode_ok hreg hloop y t' H' a' w' M' ρ' Q hS' ht' ?_).1
      rw [hd]
      exact h.later he
    · rename_i hne
      cases hx : evCode reg loop x t H with
      | norm t' H' => exact absurd hx (hne t' H')
      | exit id t' H' => rw [hx] at h; exact h
      | ret t' H' => rw [hx] at h; exact h
      | pan v t' H' => rw [hx] at h; exact h
      | no => rw [hx] at h; exact h.elim
  | .cond c x y, t, H, a, w, M, ρ, Q, hS, ht, h => by
    refine ⟨?_, fun d e => by cases e⟩
    simp only [evCode] at h
    split at h
    · rename_i hc
      have := ev1_rel ht.2 hc
      simp only [rel] at this
      exact wp_cond_true this (evCode_ok hreg hloop x t H a w M ρ Q hS ht h).1
    · rename_i hc
      have := ev1_rel ht.2 hc
      simp only [rel] at this
      exact wp_cond_false this (evCode_ok hreg hloop y t H a w M ρ Q hS ht h).1
    · exact h.elim
  | .block id c, t, H, a, w, M, ρ, Q, hS, ht, h => by
    refine ⟨wp_block ((evCode_ok hreg hloop c t H a w M ρ _ hS ht ?_).1), fun d e => by cases e⟩
    simp only [evCode] at h
    cases hx : evCode reg loop c t H with
    | norm t' H' => rw [hx] at h; exact h
    | exit j t' H' =>
      rw [hx] at h
      simp only at h
      intro a' w' M' ρ' he ht' hS' hd
      simp only [Exit.inBlock]
      split at h
      · rename_i e
        rw [if_pos e]
        exact h a' w' M' ρ' he ht' hS' hd
      · rename_i e
        rw [if_neg e]
        exact h a' w' M' ρ' he ht' hS' hd
    | ret t' H' => rw [hx] at h; exact h
    | pan v t' H' => rw [hx] at h; exact h
    | no => rw [hx] at h; exact h.elim
  | .loop c, t, H, a, w, M, ρ, Q, hS, ht, h => by
    have key : LoopWp P c Q a w := by
      refine loopWp_round ((evCode_ok hreg hloop c t H a w M ρ _ hS ht ?_).1)
      simp only [evCode] at h
      split at h
      · rename_i t' H' hx
        rw [hx]
        intro a' w' M' ρ' he ht' hS' hd
        refine hloop c t' H' a' w' M' ρ' Q hS' ht' ?_
        rw [hd]
        exact h.later he
      · rename_i hne
        cases hx : evCode reg loop c t H with
        | norm t' H' => exact absurd hx (hne t' H')
        | exit id t' H' => rw [hx] at h; exact h
        | ret t' H' => rw [hx] at h; exact h
        | pan v t' H' => rw [hx] at h; exact h
        | no => rw [hx] at h; exact h.elim
    exact ⟨wp_of_loopWp key, fun d e => by cases e; exact key⟩
  | .rangeFunc .., _, _, _, _, _, _, _, _, _, h => h.elim
  | .scope .., _, _, _, _, _, _, _, _, _, h => h.elim
  | .goto .., _, _, _, _, _, _, _, _, _, h => h.elim
  | .refuse .., _, _, _, _, _, _, _, _, _, h => h.elim

theorem evLoop_ok {reg : RegF} (hreg : reg.Sound P T) : ∀ n, LoopF.Sound P T (evLoop reg n)
 | 0 => fun _ _ _ _ _ _ _ _ _ _ h => h.elim
 | n + 1 => fun c t H a w M ρ Q hS ht h => (evCode_ok hreg (evLoop_ok hreg n) (.loop c) t H a w M ρ Q hS ht h).2 c rfl
theorem evResult_ok (hT : TOk P T) (hS : SR T M ρ H w) {t : Env} {tmps : Array Value} (ht : relT M ρ t tmps) {r : ResultVar} {v : V} (h : evResult T t H r = some v) :
 ∃ x, (match r with | .tmp k => Pure.pure (tmps.getD k undef) | .cell b ty => do loadVar ty (← asAddr (tmps.getD b undef)) : Sem Value).run P w = .ok x w ∧ rel M ρ v x := by
 cases r with
 | tmp k =>
  simp only [evResult, Option.some.injEq] at h;subst h;exact ⟨_, by simp, ht k⟩
 | cell b ty =>
  simp only [evResult] at h;obtain ⟨y, hy, hr⟩ := loadA_ok hT hS h (ht b);refine ⟨y, ?_, hr⟩;have hx := ht b;simp only [Instr.loadAt, Sem.run_bind] at hy ⊢;cases hv : tmps.getD b undef with
  | pointer ad =>
   rw [hv] at hy;cases ad with
   | none => simp [Instr.sureAddr, stuck] at hy
   | some ad => simpa [Instr.sureAddr, asAddr] using hy
  | _ => rw [hv] at hy; simp [Instr.sureAddr, stuck] at hy
def isCell : ResultVar → Bool
 | .cell .. => true
 | _ => false
theorem evResult_okw (hT : TOk P T) (hS : SR T M ρ H w) {t : Tm} {tmps : Array Value} (ht : relTw M ρ t tmps) {r : ResultVar} (hc : isCell r = true) {v : V} (h : evResult T t.get H r = some v) :
 ∃ x, (match r with | .tmp k => Pure.pure (tmps.getD k undef) | .cell b ty => do loadVar ty (← asAddr (tmps.getD b undef)) : Sem Value).run P w = .ok x w ∧ rel M ρ v x := by
 cases r with
 | tmp k => cases hc
 | cell b ty =>
  rcases ht b with hb | hb
  ·simp only [evResult, hb] at h;simp [loadA] at h
  ·refine evResult_ok (P := P) (r := .cell 0 ty) (t := fun k => if k = 0 then t.get b else .un) (tmps := #[tmps.getD b undef]) hT hS (fun k => ?_) (v := v) (by simpa [evResult] using h);by_cases hk : k = 0
   ·subst hk; simpa using hb
   ·show rel M ρ (if k = 0 then t.get b else .un) _;rw [if_neg hk];have : (#[tmps.getD b undef] : Array Value).getD k undef = undef := by
     rw [Array.getD_eq_getD_getElem?, Array.getElem?_eq_none (by simp; omega)];rfl
    rw [this];exact rel_undef
theorem evResults_okw (hT : TOk P T) (hS : SR T M ρ H w) {t : Tm} {tmps : Array Value} (ht : relTw M ρ t tmps) : ∀ {l : List ResultVar} {vs : List V}, l.all isCell = true → evResults T t.get H l = some vs →
    ∃ xs, (l.mapM (m := Sem) fun r => match r with | .tmp k => Pure.pure (tmps.getD k undef) | .cell b ty => do loadVar ty (← asAddr (tmps.getD b undef))).run P w = .ok xs w ∧ relL M ρ vs xs
  | [], vs, _, h => by simp only [evResults, Option.some.injEq] at h; subst h; exact ⟨[], by simp, by simp [relL]⟩
  | r :: l, vs, hc, h => by
    simp only [evResults] at h
    simp only [List.all_cons, Bool.and_eq_true] at hc
    split at h
    · rename_i x l' hx hl
      cases h
      obtain ⟨y, hy, hr⟩ := evResult_okw hT hS ht hc.1 hx
      obtain ⟨ys, hys, hrs⟩ := evResults_okw hT hS ht hc.2 hl
      refine ⟨y :: ys, ?_, relL_cons hr hrs⟩
      simp only [List.mapM_cons, Sem.run_bind, hy, Result.andThen_ok, hys, Sem.run_pure]
    · cases h
theorem evResults_ok (hT : TOk P T) (hS : SR T M ρ H w) {t : Env} {tmps : Array Value} (ht : relT M ρ t tmps) : ∀ {l : List ResultVar} {vs : List V}, evResults T t H l = some vs →
    ∃ xs, (l.mapM (m := Sem) fun r => match r with | .tmp k => Pure.pure (tmps.getD k undef) | .cell b ty => do loadVar ty (← asAddr (tmps.getD b undef))).run P w = .ok xs w ∧ relL M ρ vs xs
  | [], vs, h => by simp only [evResults, Option.some.injEq] at h; subst h; exact ⟨[], by simp, by simp [relL]⟩
  | r :: l, vs, h => by
    simp only [evResults] at h
    split at h
    · rename_i x l' hx hl
      cases h
      obtain ⟨y, hy, hr⟩ := evResult_ok hT hS ht hx
      obtain ⟨ys, hys, hrs⟩ := evResults_ok hT hS ht hl
      refine ⟨y :: ys, ?_, relL_cons hr hrs⟩
      simp only [List.mapM_cons, Sem.run_bind, hy, Result.andThen_ok, hys, Sem.run_pure]
    · cases h
end
open Go
section
variable {P : Program} {T : Tab}

def Gam.Sound (P : Program) (T : Tab) (G : Gam) : Prop :=
 ∀ f vs H r, G f vs H = some r → r ≠ .no → Go.Proofs.Enters P f ∧ ∀ M ρ w args, SR T M ρ H w → relL M ρ vs args → CallOK P T f args.toArray M ρ w r
theorem results_of {M : Mem} {ρ : Ren} {w : World} {H : Heap} {t : Env} {tmps : Array Value} {fn : Func} (hall : ∀ vs, evResults T t H fn.results.toList = some vs → ∃ xs, (fn.results.toList.mapM (m := Sem) fun r => match r with | .tmp k => Pure.pure (tmps.getD k undef) | .cell b ty => do loadVar ty (← asAddr (tmps.getD b undef))).run P w = .ok xs w ∧ relL M ρ vs xs) {v : V} {H' : Heap} (h : finish T fn t H = .val v H') :
    H' = H ∧ ∃ x, (results fn tmps).run P w = .ok x w ∧ rel M ρ v x := by
  unfold finish at h
  have hmm : ∀ {xs : List Value}, (fn.results.toList.mapM (m := Sem) fun r => match r with | .tmp k => Pure.pure (tmps.getD k undef) | .cell b ty => do loadVar ty (← asAddr (tmps.getD b undef))).run P w = .ok xs w →
      (results fn tmps).run P w = .ok (if h : xs.toArray.size = 1 then xs.toArray[0] else .tuple xs.toArray) w := by
    intro xs hxs
    simp only [results, Array.mapM_eq_mapM_toList, Sem.run_bind]
    refine (congrArg (fun r => Result.andThen r _) (run_fmap List.toArray _ hxs)).trans ?_
    rfl
  split at h
  · rename_i y hy
    cases h
    obtain ⟨xs, hxs, hr⟩ := hall _ hy
    simp only [relL] at hr
    obtain ⟨x, r, rfl, hx, rfl⟩ := hr
    exact ⟨rfl, x, by simpa using hmm hxs, hx⟩
  · rename_i l hl hy
    cases h
    obtain ⟨xs, hxs, hr⟩ := hall _ hy
    have hlen := relL_length hr
    have hne : ¬ xs.toArray.size = 1 := by
      intro h1
      simp at h1
      rw [hlen] at h1
      obtain ⟨z, rfl⟩ := List.length_eq_one_iff.1 h1
      exact hl z rfl
    refine ⟨rfl, .tuple xs.toArray, ?_, by simp only [rel]; exact ⟨xs, rfl, hr⟩⟩
    have := hmm hxs
    rwa [dif_neg hne] at this
  · cases h
theorem results_ok (hT : TOk P T) {M : Mem} {ρ : Ren} {w : World} {H : Heap} (hS : SR T M ρ H w) {t : Env} {tmps : Array Value} (ht : relT M ρ t tmps) {fn : Func} {v : V} {H' : Heap} (h : finish T fn t H = .val v H') :
 H' = H ∧ ∃ x, (results fn tmps).run P w = .ok x w ∧ rel M ρ v x := results_of (fun _ hy => evResults_ok hT hS ht hy) h
theorem results_okw (hT : TOk P T) {M : Mem} {ρ : Ren} {w : World} {H : Heap} (hS : SR T M ρ H w) {t : Tm} {tmps : Array Value} (ht : relTw M ρ t tmps) {fn : Func} (hc : fn.results.toList.all isCell = true) {v : V} {H' : Heap} (h : finish T fn t.get H = .val v H') :
 H' = H ∧ ∃ x, (results fn tmps).run P w = .ok x w ∧ rel M ρ v x := results_of (fun _ hy => evResults_okw hT hS ht hc hy) h
theorem finish_no_pan {T : Tab} {fn : Func} {t : Env} {H H' : Heap} {v : V} : finish T fn t H ≠ .pan v H' := by
 unfold finish;split <;> simp
def CallF.SoundE (P : Program) (T : Tab) (call : CallF) : Prop :=
 ∀ f vs H r, call f vs H = r → r ≠ .no → Go.Proofs.Enters P f ∧ ∀ M ρ w args, SR T M ρ H w → relL M ρ vs args → CallOK P T f args.toArray M ρ w r
theorem CallF.SoundE.sound {call : CallF} (h : call.SoundE P T) : call.Sound P T := fun f vs H r h1 h2 => .inl (h f vs H r h1 h2)
theorem evFunR_ok (hT : TOk P T) {reg : CallF → RegF} (hreg : ∀ call : CallF, call.Sound P T → RegF.Sound P T (reg call)) {G : Gam} (hG : G.Sound P T) : ∀ n, CallF.SoundE P T (evFunR T reg G n)
 | 0 => fun f vs H r h hr => absurd h.symm hr
 | n + 1 => by
  have ih := (evFunR_ok hT hreg hG n).sound;intro f vs H r h hr;simp only [evFunR] at h;split at h
  ·rename_i r' hg;subst h;exact hG f vs H _ hg hr
  ·split at h
   ·exact absurd h.symm hr
   ·rename_i fn hfn;split at h
    ·exact absurd h.symm hr
    ·rename_i c hc;obtain ⟨hf, hent⟩ := hT.func f fn c hfn hc;refine ⟨hent, fun M ρ w args hS hargs => ?_⟩;have hR := hreg _ ih;have hL := evLoop_ok (P := P) (T := T) hR n;cases hw : Nat.ble vs.length fn.ntmps with
     | false => rw [hw] at h; exact absurd h.symm hr
     | true =>
     rw [hw] at h;simp only [cond_true] at h;have hle : vs.length ≤ fn.ntmps := Nat.le_of_ble_eq_true hw;have hl := relL_length hargs;have htm : relTm M ρ (Tm.init fn.ntmps vs) (args.toArray ++ Array.replicate (fn.ntmps - args.toArray.size) undef) := by
      refine ⟨by simp [Tm.init]; omega, fun k => ?_⟩;simp only [Tm.init, Tm.get];rw [Tr.get_fill, if_pos (Nat.zero_le _), Nat.sub_zero];simp only [Tr.get, Array.getD_eq_getD_getElem?];by_cases hk : k < vs.length
      ·rw [Array.getElem?_append_left (by simp; omega)];obtain ⟨x, hx, hxr⟩ := relL_get hargs (i := k) (v := vs[k]) (List.getElem?_eq_getElem hk);rw [List.getElem?_eq_getElem hk];simp only [List.getElem?_toArray, hx, Option.getD_some];exact hxr
      ·rw [List.getElem?_eq_none (by omega)];have : ((args.toArray ++ Array.replicate (fn.ntmps - args.toArray.size) undef)[k]?).getD undef = undef := by
        rw [Array.getElem?_append_right (by simp; omega), Array.getElem?_replicate];split <;> rfl
       rw [this];exact rel_undef
     have key := fun R => evCode_ok (P := P) (T := T) hR hL c (Tm.init fn.ntmps vs) H { tmps := args.toArray ++ Array.replicate (fn.ntmps - args.toArray.size) undef, defers := [] } w M ρ (bodyPost P fn R) hS htm;cases hev : evCode (reg (evFunR T reg G n)) (evLoop (reg (evFunR T reg G n)) n) c (Tm.init fn.ntmps vs) H with
     | norm t' H' =>
      rw [hev] at h;simp only at h;cases r with
      | no => trivial
      | pan v H2 => exact absurd h finish_no_pan
      | val v H2 =>
       refine calls_of_wp hf hc ((key _ ?_).1);rw [hev];intro a' w' M' ρ' he ht' hS' hd;obtain ⟨rfl, x, hx, hxr⟩ := results_ok hT hS' ht'.2 h;exact ⟨hd, x, hx, x, M', ρ', rfl, he, hxr, hS'⟩
     | ret t' H' =>
      rw [hev] at h;simp only at h;cases r with
      | no => trivial
      | pan v H2 => exact absurd h finish_no_pan
      | val v H2 =>
       refine calls_of_wp hf hc ((key _ ?_).1);rw [hev];intro a' w' M' ρ' he ht' hS' hd;obtain ⟨rfl, x, hx, hxr⟩ := results_ok hT hS' ht'.2 h;exact ⟨hd, x, hx, x, M', ρ', rfl, he, hxr, hS'⟩
     | pan v t' H' =>
      rw [hev] at h;simp only at h;subst h;refine calls_of_wp hf hc ((key _ ?_).1);rw [hev];intro a' w' M' ρ' x he _ hx hS' hd;exact ⟨hd, x, M', ρ', rfl, he, hx, hS'⟩
     | exit id t' H' => rw [hev] at h; exact absurd h.symm hr
     | no => rw [hev] at h; exact absurd h.symm hr
theorem evSeqReg_ok (hT : TOk P T) {call : CallF} (hcall : call.Sound P T) {id : Nat} {ops : Array Oper} {t : Tm} {H : Heap} {a : Act} {w : World} {M : Mem} {ρ : Ren} {Q : Exit → Act → World → Prop} (hS : SR T M ρ H w) (ht : relTm M ρ t a.tmps)
    (h : OutOK T M ρ w Q a.defers (evSeq (evOp T call) ops ops.toList t H)) : (Code.region id ops false).wp P Q a w :=
  wp_region_list (evSeq_ok hT hcall ops ops.toList t H a w M ρ hS ht h)
end
open Go

mutual
def V.beq : V → V → Bool
  | .i k n, .i k' n' => decide (k = k') && decide (n = n')
  | .b x, .b y => x == y
  | .s l, .s l' => decide (l = l')
  | .agg l, .agg l' => V.beqL l l'
  | .tup l, .tup l' => V.beqL l l'
  | .nilp, .nilp => true
  | .nils, .nils => true
  | .nilf, .nilf => true
  | .nili, .nili => true
  | .nilm, .nilm => true
  | .emp, .emp => true
  | .ptr n o, .ptr n' o' => n == n' && o == o'
  | .sl n z o l c, .sl n' z' o' l' c' => n == n' && z == z' && o == o' && l == l' && decide (c = c')
  | .fn g l, .fn g' l' => g == g' && V.beqL l l'
  | .ifc t v, .ifc t' v' => t == t' && V.beq v v'
  | .isl z l, .isl z' l' => z == z' && V.beqL l l'
  | .ipt z l j o, .ipt z' l' j' o' => z == z' && V.beqL l l' && j == j' && o == o'
  | .gp g o, .gp g' o' => g == g' && o == o'
  | .mp n, .mp n' => n == n'
  | .yld n, .yld n' => n == n'
  | .itr n, .itr n' => n == n'
  | .bfn g l, .bfn g' l' => g == g' && V.beqL l l'
  | _, _ => false
def V.beqL : List V → List V → Bool
  | [], [] => true
  | v :: l, v' :: l' => V.beq v v' && V.beqL l l'
  | _, _ => false
end
mutual
theorem V.beq_refl : ∀ v : V, V.beq v v = true
  | .i .. => by simp [V.beq]
  | .b .. => by simp [V.beq]
  | .s .. => by simp [V.beq]
  | .agg l => by simp [V.beq, V.beqL_refl l]
  | .tup l => by simp [V.beq, V.beqL_refl l]
  | .nilp => by simp [V.beq]
  | .nils => by simp [V.beq]
  | .nilf => by simp [V.beq]
  | .nili => by simp [V.beq]
  | .nilm => by simp [V.beq]
  | .emp => by simp [V.beq]
  | .ptr .. => by simp [V.beq]
  | .sl .. => by simp [V.beq]
  | .fn g l => by simp [V.beq, V.beqL_refl l]
  | .ifc t v => by simp [V.beq, V.beq_refl v]
  | .isl z l => by simp [V.beq, V.beqL_refl l]
  | .ipt z l j o => by simp [V.beq, V.beqL_refl l]
  | .gp .. => by simp [V.beq]
  | .mp .. => by simp [V.beq]
  | .yld .. => by simp [V.beq]
  | .itr .. => by simp [V.beq]
  | .bfn g l => by simp [V.beq, V.beqL_refl l]
theorem V.beqL_refl : ∀ l : List V, V.beqL l l = true
  | [] => by simp [V.beqL]
  | v :: l => by simp [V.beqL, V.beq_refl v, V.beqL_refl l]
end
mutual
theorem V.beq_eq : ∀ (v u : V), V.beq v u = true → v = u := fun v u h => by
  cases v <;> cases u <;> simp [V.beq] at h <;> first
    | rfl
    | (obtain ⟨rfl, rfl⟩ := h; rfl)
    | (subst h; rfl)
    | (obtain ⟨⟨⟨⟨rfl, rfl⟩, rfl⟩, rfl⟩, rfl⟩ := h; rfl)
    | (rename_i l l'; rw [V.beqL_eq l l' h])
    | (rename_i g l g' l'; obtain ⟨rfl, h⟩ := h; rw [V.beqL_eq l l' h])
    | (rename_i t v t' v'; obtain ⟨rfl, h⟩ := h; rw [V.beq_eq v v' h])
    | (rename_i z l j o z' l' j' o'; obtain ⟨⟨⟨rfl, h⟩, rfl⟩, rfl⟩ := h; rw [V.beqL_eq l l' h])
theorem V.beqL_eq : ∀ (l l' : List V), V.beqL l l' = true → l = l'
  | [], [], _ => rfl
  | [], _ :: _, h => by simp [V.beqL] at h
  | _ :: _, [], h => by simp [V.beqL] at h
  | v :: l, v' :: l', h => by
    simp [V.beqL] at h
    rw [V.beq_eq v v' h.1, V.beqL_eq l l' h.2]
end

def Heap.beq : Heap → Heap → Bool
 | [], [] => true
 | none :: l, none :: l' => Heap.beq l l'
 | some x :: l, some y :: l' => x.ty == y.ty && V.beqL x.cells y.cells && decide (x.kind = y.kind) && Heap.beq l l'
 | _, _ => false
theorem Heap.beq_refl : ∀ H : Heap, Heap.beq H H = true
 | [] => rfl
 | none :: l => by simp [Heap.beq, Heap.beq_refl l]
 | some x :: l => by simp [Heap.beq, V.beqL_refl, Heap.beq_refl l]
theorem Heap.beq_eq : ∀ (H H' : Heap), Heap.beq H H' = true → H = H'
 | [], [], _ => rfl
 | [], _ :: _, h => by simp [Heap.beq] at h
 | _ :: _, [], h => by simp [Heap.beq] at h
 | none :: l, none :: l', h => by simp [Heap.beq] at h; rw [Heap.beq_eq l l' h]
 | none :: l, some _ :: l', h => by simp [Heap.beq] at h
 | some _ :: l, none :: l', h => by simp [Heap.beq] at h
 | some x :: l, some y :: l', h => by
  obtain ⟨tx, cx, kx⟩ := x;obtain ⟨ty, cy, ky⟩ := y;simp [Heap.beq] at h;obtain ⟨⟨⟨rfl, h1⟩, rfl⟩, h2⟩ := h;rw [V.beqL_eq _ _ h1, Heap.beq_eq l l' h2]
def isEff : Op → Bool
 | .alloc _ | .box .. | .buildSlice .. | .makeSlice .. | .store .. | .panic _ | .makeMap .. | .mapUpdate .. | .insert .. => true
 | .convert src _ _ => Nat.beq src 9
 | .call { callee := .builtin .len, .. } | .call { callee := .builtin .max, .. } | .call { callee := .builtin .min, .. } => false
 | .call _ => true
 | _ => false
def looks : Op → Bool
 | .load .. | .convert .. | .lookup .. => true
 | op => isEff op
structure Rec where
  o : Oper
  t : Env
  v : V
  w : Bool
  e : Bool

noncomputable def drawRun (step : Oper → Env → Heap → OR) (ops : Array Oper) : List Oper → Tm → Heap → Option (List Rec × List Heap × Tm)
 | [], t, H => some ([], [H], t)
 | o :: r, t, H => match wants ops o t.get with
  | some true => match step o t.get H with
   | .val v H' => opened o.op v fun v => match putK t o.dst v none fun t' => drawRun step ops r t' H' with
    | some (rs, Hs, tf) => if isEff o.op && !Heap.beq H' H then some (⟨o, t.get, v, true, true⟩ :: rs, H :: Hs, tf) else some (⟨o, t.get, v, true, false⟩ :: rs, Hs, tf)
    | none => none
   | _ => none
  | some false => match putK t o.dst .un none fun t' => drawRun step ops r t' H with
   | some (rs, Hs, tf) => some (⟨o, t.get, .un, false, false⟩ :: rs, Hs, tf)
   | none => none
  | none => none
def edges (o : Oper) : List Nat := (o.after.toList.filter fun e => Region.binds .any e).map (·.on)
def masks : List Oper → List Nat → List Nat
 | [], acc => acc
 | o :: r, acc => masks r (acc ++ [(edges o).foldl (fun s e => s ||| 2 ^ e ||| acc.getD e 0) 0])
def slots (ops : Array Oper) (o : Oper) : List Nat := o.looksAt ops
def sameOR (r : OR) (v : V) (H : Heap) : Bool :=
 match r with
 | .val u H' => V.beq u v && Heap.beq H' H
 | _ => false
def effsFrom : List Rec → Nat → List Nat
 | [], _ => []
 | r :: rs, k => if r.e then k :: effsFrom rs (k + 1) else effsFrom rs (k + 1)
def effs (rs : List Rec) : List Nat := effsFrom rs 0
def drawStat (l : List Oper) (ops : Array Oper) (ms : List Nat) : Bool :=
 let n := l.length
 let bef := fun i j => (ms.getD i 0).testBit j
 (List.range n).all fun i => match l[i]? with
  | none => false
  | some oi =>
   (edges oi).all (fun e => decide (e < i)) &&
   (List.range n).all (fun j => i == j || match l[j]? with
    | none => false
    | some oj => match oj.dst with
     | none => true
     | some d => decide (oi.dst ≠ some d) && (!(slots ops oi).contains d || (if j < i then bef i j else bef j i)))
def drawDyn (step : Oper → Env → Heap → OR) (ms : List Nat) (rs : List Rec) (Hs : List Heap) : Bool :=
 let n := rs.length
 let bef := fun i j => (ms.getD i 0).testBit j
 let es := effs rs
 (List.range n).all fun i => match rs[i]? with
  | none => false
  | some ri =>
   (if ri.e then es.all (fun p => decide (p ≤ i ∨ bef p i = true))
    else !(looks ri.o.op && ri.w) || (List.range (es.length + 1)).all (fun q =>
     !(decide ((es.filter fun p => bef i p).length ≤ q) && decide (q ≤ (es.filter fun p => !bef p i).length)) ||
     match Hs[q]? with
     | some Hq => sameOR (step ri.o ri.t Hq) ri.v Hq
     | none => false))
noncomputable def evDraw (step : Oper → Env → Heap → OR) (ops : Array Oper) (t : Tm) (H : Heap) : Out :=
  match drawRun step ops ops.toList t H with
  | some (rs, Hs, tf) => if (drawStat ops.toList ops (masks ops.toList []) && ((effs rs).isEmpty || drawDyn step (masks ops.toList []) rs Hs)) = true then match Hs.getLast? with
      | some H' => .norm tf H'
      | none => .no
    else .no
  | none => .no


def curs (t : Env) : List Rec → (Nat → Bool) → Env
 | [], _ => t
 | r :: rs, L => curs (if L 0 then put t r.o.dst r.v else t) rs (fun j => L (j + 1))
theorem curs_congr : ∀ (rs : List Rec) (t : Env) (L L' : Nat → Bool) (d : Nat), (∀ (j : Nat) (r : Rec), rs[j]? = some r → r.o.dst = some d → L j = L' j) → (∀ t' : Env, t' d = t d → (curs t rs L) d = (curs t' rs L') d)
 | [], t, L, L', d, h, t', ht => ht.symm
 | r :: rs, t, L, L', d, h, t', ht => by
  simp only [curs];refine curs_congr rs _ _ _ d (fun j r' hj hd => h (j + 1) r' (by simpa using hj) hd) _ ?_;cases hd : r.o.dst with
  | none => simp [put, ht]
  | some e =>
   by_cases he : e = d
   ·subst he;have := h 0 r rfl hd;rw [this];cases L' 0 with
    | false => simpa using ht
    | true => simp [put]
   ·have he' : ¬ d = e := fun h => he h.symm;have e1 : (if L 0 then put t (some e) r.v else t) d = t d := by split <;> simp [put, he']
    have e2 : (if L' 0 then put t' (some e) r.v else t') d = t' d := by split <;> simp [put, he']
    rw [e1, e2, ht]
theorem put_comm (t : Env) {d e : Nat} (h : e ≠ d) (v u : V) : put (put t (some d) v) (some e) u = put (put t (some e) u) (some d) v := by
 funext k;simp only [put];by_cases h1 : k = d
 ·subst h1;have : ¬ k = e := fun e' => h e'.symm;simp [this]
 ·simp [h1]
theorem curs_put : ∀ (rs : List Rec) (t : Env) (L : Nat → Bool) (d : Nat) (v : V), (∀ (j : Nat) (r : Rec), rs[j]? = some r → r.o.dst ≠ some d) → curs (put t (some d) v) rs L = put (curs t rs L) (some d) v
 | [], t, L, d, v, h => rfl
 | r :: rs, t, L, d, v, h => by
  simp only [curs];have h0 := h 0 r rfl;have : (if L 0 then put (put t (some d) v) r.o.dst r.v else put t (some d) v) = put (if L 0 then put t r.o.dst r.v else t) (some d) v := by
   split
   ·cases hd : r.o.dst with
    | none => rfl
    | some e =>
     have : e ≠ d := fun e' => h0 (by rw [hd, e']);exact put_comm t this v r.v
   ·rfl
  rw [this, curs_put rs _ _ d v (fun j r' hj => h (j + 1) r' (by simpa using hj))]
theorem curs_add : ∀ (rs : List Rec) (t : Env) (L L' : Nat → Bool) (i : Nat) (r : Rec), rs[i]? = some r → L i = false → (∀ j, L' j = (L j || j == i)) → (∀ (j : Nat) (q : Rec), j ≠ i → rs[j]? = some q → ∀ d, q.o.dst = some d → r.o.dst ≠ some d) →
    curs t rs L' = put (curs t rs L) r.o.dst r.v
  | [], t, L, L', i, r, hi, _, _, _ => by simp at hi
  | q :: rs, t, L, L', 0, r, hi, hL, hL', hd => by
    simp at hi
    subst hi
    simp only [curs, hL, hL' 0, Bool.false_or, beq_self_eq_true, if_true, Bool.false_eq_true, if_false]
    have : (fun j => L' (j + 1)) = fun j => L (j + 1) := by funext j; simp [hL' (j + 1)]
    rw [this]
    cases hq : q.o.dst with
    | none => rfl
    | some d =>
      exact curs_put rs t _ d q.v (fun j r' hj e => hd (j + 1) r' (by omega) (by simpa using hj) d e hq)
  | q :: rs, t, L, L', i + 1, r, hi, hL, hL', hd => by
    simp only [curs]
    have h0 : L' 0 = L 0 := by rw [hL' 0]; simp
    rw [h0]
    exact curs_add rs _ (fun j => L (j + 1)) (fun j => L' (j + 1)) i r (by simpa using hi) hL (fun j => by rw [hL' (j + 1)]; congr 1; simp) (fun j q' hj hq => hd (j + 1) q' (by omega) (by simpa using hq))

def cnt (rs : List Rec) (i : Nat) : Nat := ((rs.take i).filter (·.e)).length
theorem effsFrom_cnt : ∀ (rs : List Rec) (k i : Nat), ((effsFrom rs k).filter fun p => decide (p < k + i)).length = cnt rs i
 | [], k, i => by simp [effsFrom, cnt]
 | r :: rs, k, 0 => by
  have h : ∀ (rs : List Rec) (m : Nat), ∀ p ∈ effsFrom rs m, m ≤ p := by
   intro rs;induction rs with
   | nil => intro m p hp; simp [effsFrom] at hp
   | cons r rs ih =>
    intro m p hp;simp only [effsFrom] at hp;split at hp
    ·simp at hp;rcases hp with rfl | hp
     ·exact Nat.le_refl _
     ·have := ih (m + 1) p hp; omega
    ·have := ih (m + 1) p hp; omega
  have : (effsFrom (r :: rs) k).filter (fun p => decide (p < k + 0)) = [] := by
   rw [List.filter_eq_nil_iff];intro p hp;have := h _ _ p hp;simp; omega
  rw [this];simp [cnt]
 | r :: rs, k, i + 1 => by
  have ih := effsFrom_cnt rs (k + 1) i;have e : (fun p => decide (p < k + (i + 1))) = fun p => decide (p < k + 1 + i) := by funext p; congr 1; simp; omega
  rw [e];simp only [effsFrom, cnt, List.take_succ_cons, List.filter_cons];split
  ·rename_i hr;rw [List.filter_cons, if_pos (by simp; omega), List.length_cons, List.length_cons, ih];rfl
  ·rename_i hr;rw [ih];rfl
structure Ran (step : Oper → Env → Heap → OR) (ops : Array Oper) (t : Tm) (H : Heap) (l : List Oper) (rs : List Rec) (Hs : List Heap) (tf : Tm) : Prop where
  opers : rs.map (·.o) = l
  seen : ∀ (i : Nat) (r : Rec), rs[i]? = some r → r.t = curs t.get rs (fun j => decide (j < i))
  last : tf.get = curs t.get rs (fun _ => true)
  wide : tf.wid = t.wid
  fits : ∀ (i : Nat) (r : Rec), rs[i]? = some r → t.fits r.o.dst = true
  off : ∀ (i : Nat) (r : Rec), rs[i]? = some r → r.w = false → wants ops r.o r.t = some false ∧ r.v = .un ∧ r.e = false
  on : ∀ (i : Nat) (r : Rec), rs[i]? = some r → r.w = true → wants ops r.o r.t = some true ∧ ∃ Hk H', Hs[cnt rs i]? = some Hk ∧ step r.o r.t Hk = .val r.v H' ∧ (r.e = true → Hs[cnt rs i + 1]? = some H') ∧ (r.e = false → H' = Hk)
  heaps : Hs.length = cnt rs rs.length + 1
  first : Hs[0]? = some H

theorem drawRun_ran {step : Oper → Env → Heap → OR} {ops : Array Oper} (hq : ∀ o t H v H', isEff o.op = false → step o t H = .val v H' → H' = H) : ∀ (l : List Oper) (t : Tm) (H : Heap) (rs : List Rec) (Hs : List Heap) (tf : Tm), drawRun step ops l t H = some (rs, Hs, tf) → Ran step ops t H l rs Hs tf
  | [], t, H, rs, Hs, tf, h => by
    simp only [drawRun, Option.some.injEq, Prod.mk.injEq] at h
    obtain ⟨rfl, rfl, rfl⟩ := h
    exact ⟨rfl, by simp, rfl, rfl, by simp, by simp, by simp, by simp [cnt], rfl⟩
  | o :: r, t, H, rs, Hs, tf, h => by
    have build : ∀ (v : V) (w e : Bool) (H' : Heap) (rs' : List Rec) (Hs' : List Heap), t.fits o.dst = true → Ran step ops (t.put o.dst v) H' r rs' Hs' tf → (w = false → wants ops o t.get = some false ∧ v = .un ∧ e = false) → (w = true → wants ops o t.get = some true ∧ step o t.get H = .val v H') → (e = false → H' = H) →
        Ran step ops t H (o :: r) (⟨o, t.get, v, w, e⟩ :: rs') (if e then H :: Hs' else Hs') tf := by
      intro v w e H' rs' Hs' hfit ih hoff hon he
      have hcnt : ∀ i, cnt (⟨o, t.get, v, w, e⟩ :: rs') (i + 1) = (if e then 1 else 0) + cnt rs' i := by
        intro i
        simp only [cnt, List.take_succ_cons, List.filter_cons]
        cases e <;> simp; omega
      have hget : ∀ k, (if e then H :: Hs' else Hs')[(if e then 1 else 0) + k]? = Hs'[k]? := by
        intro k
        cases e
        · simp
        · simp [Nat.add_comm 1 k]
      refine ⟨by simp [ih.opers], ?_, ?_, by rw [ih.wide, Tm.wid_put], ?_, ?_, ?_, ?_, ?_⟩
      · intro i q hi
        cases i with
        | zero =>
          simp at hi
          subst hi
          have : ∀ (rs : List Rec) (t : Env), curs t rs (fun _ => false) = t := by
            intro rs
            induction rs with
            | nil => intro t; rfl
            | cons r rs ih => intro t; simp only [curs]; exact ih t
          simp only [Nat.not_lt_zero, decide_false]
          exact (this _ _).symm
        | succ i =>
          have := ih.seen i q (by simpa using hi)
          rw [this, Tm.get_put]
          simp only [curs, Nat.zero_lt_succ, decide_true, if_true, Nat.add_lt_add_iff_right]
      · rw [ih.last, Tm.get_put]
        simp [curs]
      · intro i q hi
        cases i with
        | zero => simp at hi; subst hi; exact hfit
        | succ i =>
          have := ih.fits i q (by simpa using hi)
          cases hq : q.o.dst with
          | none => rfl
          | some d => rw [hq] at this; simpa [Tm.fits] using this
      · intro i q hi hw
        cases i with
        | zero => simp at hi; subst hi; exact hoff hw
        | succ i => exact ih.off i q (by simpa using hi) hw
      · intro i q hi hw
        cases i with
        | zero =>
          simp at hi
          subst hi
          obtain ⟨h1, h2⟩ := hon hw
          refine ⟨h1, H, H', ?_, h2, ?_, he⟩
          · cases e with
            | false => simp [cnt]; rw [ih.first, he rfl]
            | true => simp [cnt]
          · intro he'
            subst he'
            simp [cnt, ih.first]
        | succ i =>
          obtain ⟨h1, Hk, H2, h2, h3, h4, h5⟩ := ih.on i q (by simpa using hi) hw
          refine ⟨h1, Hk, H2, by rw [hcnt, hget, h2], h3, fun hh => ?_, h5⟩
          rw [hcnt, Nat.add_assoc, hget]
          exact h4 hh
      · simp only [List.length_cons]
        rw [hcnt]
        have := ih.heaps
        cases e <;> simp [this]; omega
      · cases e with
        | false => simp [ih.first, he rfl]
        | true => simp
    simp only [drawRun, putK_eq, opened_eq] at h
    split at h
    · rename_i hw
      split at h
      · rename_i v H' hv
        split at h
        · rename_i rs' Hs' tf' hr
          split at hr
          case isFalse => cases hr
          rename_i hfit
          have ih := drawRun_ran hq r _ _ _ _ _ hr
          split at h
          · cases h
            have := build v true true H' rs' Hs' hfit ih (by simp) (fun _ => ⟨hw, hv⟩) (by simp)
            simpa using this
          · rename_i hne
            cases h
            have := build v true false H' rs' Hs hfit ih (by simp) (fun _ => ⟨hw, hv⟩) (fun _ => by
              by_cases hE : isEff o.op = true
              · simp only [hE, Bool.true_and, Bool.not_eq_true'] at hne
                exact Heap.beq_eq _ _ (by simpa using hne)
              · exact hq o t.get H v H' (by simpa using hE) hv)
            simpa using this
        · cases h
      · cases h
    · rename_i hw
      split at h
      · rename_i rs' Hs' tf' hr
        split at hr
        case isFalse => cases hr
        rename_i hfit
        have ih := drawRun_ran hq r _ _ _ _ _ hr
        cases h
        have := build .un false false H rs' Hs hfit ih (fun _ => ⟨hw, rfl, rfl⟩) (by simp) (fun _ => rfl)
        simpa using this
      · cases h
    · cases h

noncomputable def evReg (T : Tab) (call : CallF) : RegF := fun ops d t H => if d then evDraw (evOp T call) ops t H else evSeq (evOp T call) ops ops.toList t H
noncomputable def evFun (T : Tab) (G : Gam) : Nat → CallF := evFunR T (evReg T) G
open Go
section
variable {P : Program} {T : Tab}

theorem evs_congr {t t' : Env} : ∀ {l : List Operand}, (∀ x ∈ l, ev1 t x = ev1 t' x) → evs t l = evs t' l
 | [], _ => rfl
 | o :: r, h => by simp only [evs, h o (by simp), evs_congr (l := r) (fun x hx => h x (by simp [hx]))]
theorem evParts_congr {t t' : Env} : ∀ {l : List (Nat × Operand)}, (∀ x ∈ l.map (·.2), ev1 t x = ev1 t' x) → evParts t l = evParts t' l
 | [], _ => rfl
 | (i, o) :: r, h => by simp only [evParts, h o (by simp), evParts_congr (l := r) (fun x hx => h x (by simp at hx ⊢; exact .inr hx))]
theorem bound_congr {t t' : Env} {m d : Nat} : ∀ {o : Option Operand}, (∀ x ∈ o.toList, ev1 t x = ev1 t' x) → bound t m d o = bound t' m d o
 | none, _ => rfl
 | some o, h => by simp only [bound, h o (by simp)]
theorem evSlice_congr {t t' : Env} {ty : TypeId} {p : V} {lo hi mx : Option Operand} (h1 : ∀ x ∈ lo.toList, ev1 t x = ev1 t' x) (h2 : ∀ x ∈ hi.toList, ev1 t x = ev1 t' x) : evSlice T ty t p lo hi mx = evSlice T ty t' p lo hi mx := by
 unfold evSlice;simp only [bound_congr h1, bound_congr h2]
theorem evCall_congr {call : CallF} {c : Call} {t t' : Env} {H : Heap} (h : ∀ x ∈ c.operands, ev1 t x = ev1 t' x) : evCall T call c t H = evCall T call c t' H := by
 have h1 : evs t c.args.toList = evs t' c.args.toList := evs_congr fun x hx => h x (by simp only [Call.operands, Array.mem_append]; exact .inr (by simpa using hx));unfold evCall;rw [h1];cases hc : c.callee with
 | value f =>
  have := h f (by simp [Call.operands, hc]);simp only [this]
 | builtin b => cases b <;> rfl
 | invoke r m =>
  have := h r (by simp [Call.operands, hc]);simp only [this]
theorem evOp_congr {call : CallF} {o : Oper} {t t' : Env} {H : Heap} (h : ∀ x ∈ o.op.operands, ev1 t x = ev1 t' x) : evOp T call o t H = evOp T call o t' H := by
  unfold evOp
  cases ho : o.op <;> rw [ho] at h <;> simp only [Op.operands] at h
  case build ty ps => simp only [evParts_congr (l := ps.toList) (fun x hx => h x (by simpa using hx))]
  case buildSlice ty n ps => simp only [evParts_congr (l := ps.toList) (fun x hx => h x (by simpa using hx))]
  case call c => exact evCall_congr h
  case makeMap ty r =>
    cases r with
    | none => rfl
    | some o => simp only [h o (by simp)]
  case makeFunc fn first captured =>
    cases fn with
    | func g =>
      simp only [evs_congr (l := captured.toList) (fun x hx => h x (by simp only [Array.mem_append]; exact .inr (by simpa using hx)))]
      split
      · rfl
      · rename_i x r hf _
        rw [← hf, evs_congr (l := first.toList) (fun x hx => h x (by simp only [Array.mem_append]; exact .inl (by simpa using hx)))]
      · rfl
    | _ => rfl
  case slice ty x lo hi mx =>
    have hx := h x (by simp)
    have h1 : ∀ y ∈ lo.toList, ev1 t y = ev1 t' y := fun y hy => h y (by simp at hy ⊢; simp [hy])
    have h2 : ∀ y ∈ hi.toList, ev1 t y = ev1 t' y := fun y hy => h y (by simp at hy ⊢; simp [hy])
    have h3 : ∀ p, evSlice T ty t p lo hi mx = evSlice T ty t' p lo hi mx := fun p => evSlice_congr h1 h2
    simp only [hx, h3]
  all_goals first
    | rfl
    | (simp only [List.mem_toArray, List.mem_cons, List.not_mem_nil, or_false, forall_eq_or_imp, forall_eq] at h
       first
         | (obtain ⟨h1, h2, h3⟩ := h; simp only [h1, h2, h3]; done)
         | (obtain ⟨h1, h2⟩ := h; simp only [h1, h2]; done)
         | (simp only [h]; done))

theorem looks_congr {ops : Array Oper} {o : Oper} {t t' : Env} (h : ∀ d ∈ o.looksAt ops, t d = t' d) : ∀ x ∈ o.op.operands, ev1 t x = ev1 t' x := by
 intro x hx;cases x with
 | tmp d => exact congrArg some <| h d (List.mem_append_left _ (List.mem_filterMap.2 ⟨.tmp d, by simpa using hx, rfl⟩))
 | _ => rfl
theorem wants_congr {ops : Array Oper} {o : Oper} {t t' : Env} (h : ∀ d ∈ o.looksAt ops, t d = t' d) : wants ops o t = wants ops o t' := by
 unfold wants;cases hg : o.guard with
 | none => rfl
 | some gw =>
  obtain ⟨g, want⟩ := gw;simp only;cases hd : (ops[g]?).bind (·.dst) with
  | none => rfl
  | some d =>
   have := h d (List.mem_append_right _ (by simp [hg, hd]));simp only [this]
theorem lift_val {r : Option V} {H H' : Heap} {v : V} (h : lift r H = .val v H') : r = some v ∧ H' = H := by
 cases r with
 | none => cases h
 | some u => cases h; exact ⟨rfl, rfl⟩
theorem evConvO_quiet {src dst : TypeId} {p v : V} {H H' : Heap} (hq : Nat.beq src 9 = false) (h : evConvO T src dst p H = .val v H') : H' = H := by
 unfold evConvO at h;repeat' (split at h)
 all_goals first
  | exact (lift_val h).2
  | (cases h; rfl)
  | (rename_i hc; rw [hq] at hc; exact absurd hc.1 (by simp))
  | (rename_i hc; rw [hq] at hc; cases hc)
  | cases h
theorem quiet_heap {call : CallF} {o : Oper} {t : Env} {H H' : Heap} {v : V} (hq : isEff o.op = false) (h : evOp T call o t H = .val v H') : H' = H := by
 unfold evOp at h;split at h;all_goals first
  | (rename_i ho; rw [ho] at hq; simp [isEff] at hq; done)
  | skip
 case h_13 src dst x ho =>
  rw [ho] at hq;split at h
  ·exact evConvO_quiet hq h
  ·cases h
 case h_27 c ho =>
  rw [ho] at hq;unfold evCall at h;split at h
  ·cases h
  ·split at h;all_goals first
    | (rename_i hc; obtain ⟨cal, cargs, cty⟩ := c; simp only at hc; subst hc; simp [isEff] at hq; done)
    | skip
   all_goals
    repeat' (split at h)
    all_goals first
     | exact (lift_val h).2
     | cases h
 all_goals
  repeat' (split at h)
  all_goals first
   | exact (lift_val h).2
   | (cases h; rfl)
   | cases h
theorem pure_heap {call : CallF} {o : Oper} {t : Env} {H H' : Heap} {v : V} (hq : looks o.op = false) (h : evOp T call o t H = .val v H') (H2 : Heap) : evOp T call o t H2 = .val v H2 := by
 unfold evOp at h ⊢;split at h;all_goals first
  | (rename_i ho; rw [ho] at hq; simp [looks, isEff] at hq; done)
  | skip
 case h_27 c ho =>
  rw [ho] at hq;unfold evCall at h ⊢;split at h
  ·cases h
  ·split at h;all_goals first
    | (rename_i hc; obtain ⟨cal, cargs, cty⟩ := c; simp only at hc; subst hc; simp [looks, isEff] at hq; done)
    | skip
   all_goals
    repeat' (split at h)
    all_goals first
     | (simp only [(lift_val h).1, lift]; done)
     | cases h
 all_goals
  repeat' (split at h)
  all_goals first
   | (simp only [(lift_val h).1, lift]; done)
   | (cases h; rfl)
   | cases h
end
end Go.Ev
