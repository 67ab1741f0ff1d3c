/- The same of maps: a look-up and a store do what the evaluator says. -/
import Derived.Test.YtddpjgoboboidaaGreatDoorEvOps
namespace Go.Ev
open Go
section
variable {P : Program} {T : Tab} {M : Mem} {ρ : Ren} {w : World} {H : Heap}

theorem mapAt_some {n : Nat} {blk : Blk} (h : mapAt H n = some blk) : H[n]? = some (some blk) ∧ blk.kind = .map := by
  unfold mapAt at h
  split at h
  · rename_i b hb
    split at h
    · rename_i hk; cases h; exact ⟨hb, hk⟩
    · cases h
  · cases h
theorem SR.map (hS : SR T M ρ H w) {n : Nat} {blk : Blk} (hb : mapAt H n = some blk) : ∃ b c, ∃ (es : List MapEntry) (clock : Nat), ρ[n]? = some (b, c) ∧ M b = none ∧ w.heap[b]? = some (.map es.toArray clock) ∧ relM M ρ blk.cells es := by
  obtain ⟨h1, h2⟩ := mapAt_some hb
  obtain ⟨b, c, hr, hM, _, hok⟩ := hS.blk n blk h1
  unfold BlkOK at hok
  rw [h2] at hok
  obtain ⟨es, clock, h3, h4⟩ := hok
  exact ⟨b, c, es, clock, hr, hM, h3, h4⟩

/-- A key of a plain kind. -/
theorem goodKey_check {kt : TypeId} {k : V} {x : Value} {d : TypeDesc} (hd : P.underlying kt = some d) (hx : rel M ρ k x) (h : goodKey (some d) k = true) (e : Bool) (w : World) : (Instr.checkKey e 10000 kt x).run P w = .ok () w := by
  have key : ∀ n, (Instr.checkKey e (n + 1) kt x).run P w = .ok () w := by
    intro n
    unfold goodKey at h
    split at h
    · rename_i heq; cases heq
      simp only [rel] at hx; subst hx
      simp [Instr.checkKey, run_underlying hd]
    · rename_i heq; cases heq
      simp only [rel] at hx; subst hx
      simp [Instr.checkKey, run_underlying hd]
    · rename_i heq; cases heq
      simp only [rel] at hx; subst hx
      simp [Instr.checkKey, run_underlying hd]
    · cases h
  exact key 9999
theorem bytes_eq (a b : List UInt8) : ((⟨a.toArray⟩ : ByteArray) == ⟨b.toArray⟩) = (a == b) := by
  show (a.toArray == b.toArray) = (a == b)
  simp
theorem sameKey_ok {d : TypeDesc} {k k' : V} {x y : Value} {r : Bool} (hx : rel M ρ k x) (hy : rel M ρ k' y) (h : sameKey (some d) k k' = some r) : Instr.sameNow d x y = some r ∧ (r = true → ∀ n, Instr.sameBits n y x = true) := by
  simp only [sameKey, eqU_eq] at h
  split at h
  · rename_i heq; cases heq; cases h
    simp only [rel] at hx hy; subst hx hy
    refine ⟨by simp [Instr.sameNow, bytes_eq], fun he n => ?_⟩
    simp at he
    subst he
    cases n <;> simp [Instr.sameBits, bytes_eq]
  · rename_i heq; cases heq
    split at h
    · rename_i hk
      cases h
      subst hk
      simp only [rel] at hx hy; subst hx hy
      refine ⟨by simp [Instr.sameNow], fun he n => ?_⟩
      simp at he
      subst he
      cases n <;> simp [Instr.sameBits]
    · cases h
  · rename_i heq; cases heq; cases h
    simp only [rel] at hx hy; subst hx hy
    refine ⟨by simp [Instr.sameNow], fun he n => ?_⟩
    simp at he
    subst he
    cases n <;> simp [Instr.sameBits]
  · cases h

theorem mapGet_ok {d : TypeDesc} {k : V} {x : Value} (hx : rel M ρ k x) : ∀ {l : List V} {es : List MapEntry} {i : Nat} {r : Option V}, relM M ρ l es → mapGet (some d) k l = some r →
    match r with
    | some v => ∃ j y, Instr.findNow d x es i = some (some (j, y)) ∧ rel M ρ v y
    | none => Instr.findNow d x es i = some none
  | k' :: v' :: l, es, i, r, hm, h => by
    simp only [relM] at hm
    obtain ⟨e, q, rfl, hk, hv, hr⟩ := hm
    simp only [mapGet] at h
    split at h
    · rename_i hs
      cases h
      obtain ⟨h1, _⟩ := sameKey_ok hx hk hs
      exact ⟨i, e.val, by simp [Instr.findNow, h1], hv⟩
    · rename_i hs
      obtain ⟨h1, _⟩ := sameKey_ok hx hk hs
      have ih := mapGet_ok hx (i := i + 1) hr h
      cases r with
      | none => simp only at ih ⊢; simp [Instr.findNow, h1, ih]
      | some v =>
        simp only at ih ⊢
        obtain ⟨j, y, h2, h3⟩ := ih
        exact ⟨j, y, by simp [Instr.findNow, h1, h2], h3⟩
    · cases h
  | [_], _, _, _, _, h => by simp [mapGet] at h
  | [], es, i, r, hm, h => by
    simp only [relM] at hm
    subst hm
    simp only [mapGet, Option.some.injEq] at h
    subst h
    simp [Instr.findNow]

theorem mapSet_ok {d : TypeDesc} {k v : V} {x y : Value} (hx : rel M ρ k x) (hy : rel M ρ v y) : ∀ {l : List V} {es : List MapEntry} (i : Nat) {r : List V}, relM M ρ l es → mapSet (some d) k v l = some r →
    (∃ j z, ∃ e0 : MapEntry, Instr.findNow d x es i = some (some (i + j, z)) ∧ es[j]? = some e0 ∧ (∀ n, Instr.sameBits n e0.key x = true) ∧ relM M ρ r (es.modify j fun e => { e with key := x, val := y })) ∨
      (Instr.findNow d x es i = some none ∧ ∀ b, relM M ρ r (es ++ [{ key := x, val := y, born := b }]))
  | k' :: v' :: l, es, i, r, hm, h => by
    simp only [relM] at hm
    obtain ⟨e, q, rfl, hk, hv, hr⟩ := hm
    simp only [mapSet] at h
    split at h
    · rename_i hs
      cases h
      obtain ⟨h1, h2⟩ := sameKey_ok hx hk hs
      refine .inl ⟨0, e.val, e, by simp [Instr.findNow, h1], rfl, h2 rfl, ?_⟩
      simp only [List.modify_zero_cons, relM]
      exact ⟨_, q, rfl, hx, hy, hr⟩
    · rename_i hs
      obtain ⟨h1, _⟩ := sameKey_ok hx hk hs
      split at h
      · rename_i r' hr'
        cases h
        rcases mapSet_ok hx hy (i + 1) hr hr' with ⟨j, z, e0, h2, h3, h4, h5⟩ | ⟨h2, h3⟩
        · refine .inl ⟨j + 1, z, e0, ?_, by simpa using h3, h4, ?_⟩
          · simp only [Instr.findNow, h1, h2]
            congr 3
            omega
          · simp only [List.modify_succ_cons, relM]
            exact ⟨e, _, rfl, hk, hv, h5⟩
        · refine .inr ⟨by simp [Instr.findNow, h1, h2], fun b => ?_⟩
          simp only [List.cons_append, relM]
          exact ⟨e, _, rfl, hk, hv, h3 b⟩
      · cases h
    · cases h
  | [_], _, _, _, _, h => by simp [mapSet] at h
  | [], es, i, r, hm, h => by
    simp only [relM] at hm
    subst hm
    simp only [mapSet, Option.some.injEq] at h
    subst h
    refine .inr ⟨by simp [Instr.findNow], fun b => ?_⟩
    simp only [List.nil_append, relM]
    exact ⟨_, [], rfl, hx, hy, rfl⟩

theorem heap_put_other (w : World) (b : Nat) (o : Obj) (k : Nat) (h : k ≠ b) : ({ w with heap := w.heap.setIfInBounds b o } : World).heap[k]? = w.heap[k]? := by
  show (w.heap.setIfInBounds b o)[k]? = _
  rw [Array.getElem?_setIfInBounds, if_neg (fun e => h e.symm)]
theorem heap_put_same (w : World) (b : Nat) (o : Obj) (h : b < w.heap.size) : ({ w with heap := w.heap.setIfInBounds b o } : World).heap[b]? = some o := by
  show (w.heap.setIfInBounds b o)[b]? = _
  simp [h]

theorem evMapSet_ok (hT : TOk P T) (hS : SR T M ρ H w) {ty : TypeId} {m k v u : V} {H' : Heap} {xm x y : Value} (hm : rel M ρ m xm) (hx : rel M ρ k x) (hy : rel M ρ v y) (h : evMapSet T ty m k v H = .val u H') :
    u = .un ∧ ∃ w', (Instr.mapUpdate ty xm x y).run P w = .ok () w' ∧ Ext M ρ w M ρ w' ∧ SR T M ρ H' w' := by
  unfold evMapSet at h
  simp only [setB_eq] at h
  split at h
  case h_2 => cases h
  rename_i kt et n hu
  split at h
  case h_2 => cases h
  rename_i blk hblk
  split at h
  case isFalse => cases h
  rename_i hgood
  split at h
  case h_2 => cases h
  rename_i l hl
  cases h
  refine ⟨rfl, ?_⟩
  obtain ⟨b, c, es, clock, hr, hMb, hheap, hrel⟩ := hS.map hblk
  simp only [rel] at hm
  obtain ⟨b', c', hr', rfl⟩ := hm
  rw [hr] at hr'
  cases hr'
  have hlt : b < w.heap.size := (Array.getElem?_eq_some_iff.1 hheap).1
  cases hd : T.und kt with
  | none => simp [hd, goodKey] at hgood
  | some d =>
    rw [hd] at hgood hl
    have hdP := hT.und _ _ hd
    have hck := fun e w => goodKey_check (P := P) hdP hx hgood e w
    have hget : (getObj b).run P w = .ok (.map es.toArray clock) w := by simp [getObj, Sem.run, hheap]
    have hset : ∀ o, (setObj b o).run P w = .ok () { w with heap := w.heap.setIfInBounds b o } := fun o => by simp [setObj, Sem.run, hheap]
    have hblk0 := (mapAt_some hblk).1
    have hstate : ∀ (es' : List MapEntry) (clock' : Nat), relM M ρ l es' → Ext M ρ w M ρ { w with heap := w.heap.setIfInBounds b (.map es'.toArray clock') } ∧ SR T M ρ (H.set n (some { blk with cells := l })) { w with heap := w.heap.setIfInBounds b (.map es'.toArray clock') } := by
      intro es' clock' hl'
      refine ⟨⟨rfl, rfl, rfl, by simp, Mem.le.refl _, List.prefix_refl _, fun k _ hn => heap_put_other w b _ k (fun e => hn c (by rw [e]; exact List.mem_of_getElem? hr)), fun _ _ _ => rfl, fun _ q hq => .inl ⟨q, hq⟩⟩, ?_⟩
      refine hS.upd hblk0 hr (fun k hk => heap_put_other w b _ k hk) (by simp) ?_
      rw [heap_put_same w b _ hlt]
      unfold BlkOK
      simp only [(mapAt_some hblk).2]
      exact ⟨es', clock', rfl, hl'⟩
    rcases mapSet_ok hx hy 0 hrel hl with ⟨j, z, e0, h1, h2, h3, h4⟩ | ⟨h1, h2⟩
    · obtain ⟨s1, s2⟩ := hstate _ clock h4
      refine ⟨_, ?_, s1, s2⟩
      have hf : (Instr.findKey kt x es).run P w = .ok (some (0 + j, z)) w := by simp [Instr.findKey, run_underlying hdP, h1]
      have hk : (Instr.keyThatStays (((es.toArray[0 + j]?).map (·.key)).getD x) x).run P w = .ok x w := by
        have : es.toArray[0 + j]? = some e0 := by simpa using h2
        rw [this]
        simp [Instr.keyThatStays, h3 10000]
      have hmod : es.toArray.modify (0 + j) (fun e => { e with key := x, val := y }) = (es.modify j fun e => { e with key := x, val := y }).toArray := by simp
      simp only [Instr.mapUpdate, Sem.run_bind, hT.run_und hu, Result.andThen_ok, hget, hck, hf, hk, hmod, hset]
    · obtain ⟨s1, s2⟩ := hstate _ (clock + 1) (h2 clock)
      refine ⟨_, ?_, s1, s2⟩
      have hf : (Instr.findKey kt x es).run P w = .ok none w := by simp [Instr.findKey, run_underlying hdP, h1]
      have hpush : es.toArray.push ({ key := x, val := y, born := clock } : MapEntry) = (es ++ [({ key := x, val := y, born := clock } : MapEntry)]).toArray := by simp
      simp only [Instr.mapUpdate, Sem.run_bind, hT.run_und hu, Result.andThen_ok, hget, hck, hf, hpush, hset]

theorem evLookup_ok (hT : TOk P T) (hS : SR T M ρ H w) {ty : TypeId} {m k v : V} {ok : Bool} {xm x : Value} (hm : rel M ρ m xm) (hx : rel M ρ k x) (h : evLookup T ty m k ok H = some v) :
    ∃ y, (Instr.lookup ty xm x ok).run P w = .ok y w ∧ rel M ρ v y := by
  unfold evLookup at h
  split at h
  case h_2 => cases h
  rename_i kt et n hu
  split at h
  case h_2 => cases h
  rename_i blk hblk
  split at h
  case isFalse => cases h
  rename_i hgood
  obtain ⟨b, c, es, clock, hr, hMb, hheap, hrel⟩ := hS.map hblk
  simp only [rel] at hm
  obtain ⟨b', c', hr', rfl⟩ := hm
  rw [hr] at hr'
  cases hr'
  have htup : ∀ {u : V} {y : Value} (q : Bool), rel M ρ u y → rel M ρ (if ok then .tup [u, .b q] else u) (if ok then .tuple #[y, .bool q] else y) := by
    intro u y q hy
    cases ok with
    | false => exact hy
    | true =>
      simp only [if_true, rel]
      exact ⟨[y, .bool q], rfl, relL_cons hy (relL_cons (by simp [rel]) relL_nil)⟩
  cases hd : T.und kt with
  | none => simp [hd, goodKey] at hgood
  | some d =>
    rw [hd] at hgood h
    have hdP := hT.und _ _ hd
    have hck := fun e w => goodKey_check (P := P) hdP hx hgood e w
    have hget : (getObj b).run P w = .ok (.map es.toArray clock) w := by simp [getObj, Sem.run, hheap]
    split at h
    · rename_i u hu2
      cases h
      obtain ⟨j, y, h1, h2⟩ := mapGet_ok hx (i := 0) hrel hu2
      have hf : (Instr.findKey kt x es.toArray.toList).run P w = .ok (some (j, y)) w := by simp [Instr.findKey, run_underlying hdP, h1]
      refine ⟨_, ?_, htup true h2⟩
      simp only [Instr.lookup, Sem.run_bind, hT.run_und hu, Result.andThen_ok, hget, Sem.run_pure, hck, hf]
    · rename_i hu2
      have h1 : Instr.findNow d x es 0 = some none := mapGet_ok hx (i := 0) hrel hu2
      have hf : (Instr.findKey kt x es.toArray.toList).run P w = .ok none w := by simp [Instr.findKey, run_underlying hdP, h1]
      split at h
      · rename_i z hz
        cases h
        obtain ⟨zv, hzv, hzr⟩ := hT.run_zero hz
        refine ⟨_, ?_, htup false (ofVal_rel hzv)⟩
        simp only [Instr.lookup, Sem.run_bind, hT.run_und hu, Result.andThen_ok, hget, Sem.run_pure, hck, hf, hzr]
      · cases h
    · cases h
end
end Go.Ev
