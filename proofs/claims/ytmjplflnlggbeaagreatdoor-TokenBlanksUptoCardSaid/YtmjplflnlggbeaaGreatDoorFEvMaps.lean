/- Each operation of the machine does on related values what the evaluator says, for every world in the relation. The same of maps: a look-up and a store do what the evaluator says. -/
import Derived.Test.YtmjplflnlggbeaaGreatDoorFEvOps2
import Derived.Lib.Strings
namespace Go.Ev
open Go Go.Proofs
set_option linter.unusedSimpArgs false
set_option linter.unusedVariables false
set_option linter.unnecessarySimpa false
open Go
section
variable {P : Program} {T : Tab} {M : Mem} {ρ : Ren} {w : World} {H : Heap}

def relPs (M : Mem) (ρ : Ren) : List (Nat × V) → List (Nat × Value) → Prop
 | [], qs => qs = []
 | (i, v) :: ps, qs => ∃ x r, qs = (i, x) :: r ∧ rel M ρ v x ∧ relPs M ρ ps r
theorem evParts_rel {t : Env} {a : Act} (h : relT M ρ t a.tmps) : ∀ {l : List (Nat × Operand)} {ps : List (Nat × V)}, evParts t l = some ps → relPs M ρ ps (l.map fun (i, x) => (i, a.eval x))
 | [], ps, e => by simp only [evParts, Option.some.injEq] at e; subst e; simp [relPs]
 | (i, o) :: r, ps, e => by
  simp only [evParts] at e;split at e
  ·rename_i x l hx hl;cases e;simp only [relPs, List.map_cons];exact ⟨_, _, rfl, ev1_rel h hx, evParts_rel h hl⟩
  ·cases e
theorem foldl_put (off : Nat) : ∀ (xs cs : List Value) (k : Nat), off + k + xs.length ≤ cs.length →
    (xs.zipIdx k).foldl (fun (c : Array Value) (p : Value × Nat) => c.setIfInBounds (off + p.2) p.1) cs.toArray = (cs.take (off + k) ++ xs ++ cs.drop (off + k + xs.length)).toArray
  | [], cs, k, _ => by simp
  | x :: xs, cs, k, h => by
    have hlt : off + k < cs.length := by simp at h; omega
    rw [List.zipIdx_cons, List.foldl_cons]
    simp only [List.setIfInBounds_toArray]
    rw [foldl_put off xs (cs.set (off + k) x) (k + 1) (by simp at h ⊢; omega)]
    have := splice_cons cs (off + k) x xs hlt
    rw [show off + (k + 1) = off + k + 1 from by omega, this]
theorem foldl_cells (off : Nat) (xs : Array Value) (cs : List Value) (h : off + xs.size ≤ cs.length) :
 xs.zipIdx.foldl (fun (c : Array Value) (p : Value × Nat) => c.setIfInBounds (off + p.2) p.1) cs.toArray = (cs.take off ++ xs.toList ++ cs.drop (off + xs.size)).toArray := by
 have := foldl_put off xs.toList cs 0 (by simpa using h);rw [← Array.foldl_toList];simpa using this
theorem fillV_ok {pl : Nat → Option (Nat × Nat)} : ∀ {ps : List (Nat × V)} {qs : List (Nat × Value)} {cells r : List V} {cs : List Value}, relPs M ρ ps qs → relL M ρ cells cs → fillV pl cells ps = some r →
    ∃ rs, Instr.fill pl cs.toArray qs = some rs.toArray ∧ relL M ρ r rs
  | [], qs, cells, r, cs, hp, hc, h => by
    simp only [relPs] at hp
    subst hp
    simp only [fillV, Option.some.injEq] at h
    subst h
    exact ⟨cs, rfl, hc⟩
  | (i, v) :: ps, qs, cells, r, cs, hp, hc, h => by
    simp only [relPs] at hp
    obtain ⟨x, q, rfl, hv, hp⟩ := hp
    simp only [fillV] at h
    split at h
    · cases h
    · rename_i off size hpl
      split at h
      · rename_i hfit
        have hcells := rel_cells hv
        have hxl := relL_length hcells
        have hcl := relL_length hc
        have hx1 : x.cells.size = v.cells.length := by simpa using hxl
        have hs := relL_splice off hc hcells
        obtain ⟨rs, h1, h2⟩ := fillV_ok hp hs h
        refine ⟨rs, ?_, h2⟩
        unfold Instr.fill
        simp only [hpl]
        rw [if_neg (by simp; omega)]
        have := foldl_cells off x.cells cs (by omega)
        rw [this]
        simpa using h1
      · cases h

theorem placesOf_ok (hT : TOk P T) : ∀ {fs : List Field} {pl : List (Nat × Nat)}, placesOf T fs = some pl → ∀ w, (fs.mapM (m := Sem) fun f => Prod.mk f.offset <$> sizeOf f.type).run P w = .ok pl w
 | [], pl, h, w => by simp only [placesOf, Option.some.injEq] at h; subst h; simp
 | f :: r, pl, h, w => by
  simp only [placesOf] at h;split at h
  ·rename_i n l hn hl;cases h;have := placesOf_ok hT hl w;simp [List.mapM_cons, hT.run_size hn, this]
  ·cases h
theorem run_fmap {α β : Type} (f : α → β) (s : Sem α) {a : α} {w w' : World} (h : s.run P w = .ok a w') : (f <$> s).run P w = .ok (f a) w' := by
 rw [← bind_pure_comp];simp [h]
theorem evBuild_ok (hT : TOk P T) {ty : TypeId} {ps : List (Nat × V)} {qs : List (Nat × Value)} {v : V} (hp : relPs M ρ ps qs) (h : evBuild T ty ps = some v) :
 ∃ x, (∀ w, (Instr.build ty qs.toArray).run P w = .ok x w) ∧ rel M ρ v x := by
 unfold evBuild at h;split at h
 ·rename_i z fs hz hu;split at h
  ·rename_i pl hpl;obtain ⟨zv, hzv, hzr⟩ := hT.run_zero hz;have hzc := rel_cells (ofVal_rel (M := M) (ρ := ρ) hzv);cases hf : fillV (fun i => pl[i]?) z.cells ps with
   | none => simp [hf] at h
   | some r =>
    simp [hf] at h;subst h;obtain ⟨rs, h1, h2⟩ := fillV_ok hp hzc hf;refine ⟨.agg rs.toArray, fun w => ?_, by simp only [rel]; exact ⟨rs, rfl, h2⟩⟩;have hm := placesOf_ok hT hpl w;simp only [Array.toArray_toList] at h1;simp [Instr.build, hzr, hT.run_und hu, Array.mapM_eq_mapM_toList, hm, h1]
  ·cases h
 ·rename_i z n e hz hu;split at h
  ·rename_i sz hsz;obtain ⟨zv, hzv, hzr⟩ := hT.run_zero hz;have hzc := rel_cells (ofVal_rel (M := M) (ρ := ρ) hzv);cases hf : fillV (fun i => some (i * sz, sz)) z.cells ps with
   | none => simp [hf] at h
   | some r =>
    simp [hf] at h;subst h;obtain ⟨rs, h1, h2⟩ := fillV_ok hp hzc hf;refine ⟨.agg rs.toArray, fun w => ?_, by simp only [rel]; exact ⟨rs, rfl, h2⟩⟩;simp only [Array.toArray_toList] at h1;simp [Instr.build, hzr, hT.run_und hu, hT.run_size hsz, h1]
  ·cases h
 ·cases h
theorem reps_range {α : Type} [Inhabited α] (l : List α) : ∀ n : Nat, (List.range (n * l.length)).map (fun i => l[i % l.length]!) = reps n l
 | 0 => by simp [reps]
 | n + 1 => by
  rw [Nat.succ_mul, Nat.add_comm, List.range_add, List.map_append, reps];congr 1
  ·apply List.ext_getElem
   ·simp
   ·intro i h1 h2;simp at h1;simp [Nat.mod_eq_of_lt h1, h1]
  ·rw [← reps_range l n];simp [List.map_map, Function.comp_def]
theorem reps_rel {l : List V} {cs : List Value} (h : relL M ρ l cs) : ∀ n : Nat, relL M ρ (reps n l) (reps n cs)
 | 0 => by simp [reps, relL]
 | n + 1 => by simp only [reps]; exact relL_append h (reps_rel h n)
theorem made_cells (z : Array Value) (n : Nat) : (Array.range (n * z.size)).map (fun i => z[i % z.size]!) = (reps n z.toList).toArray := by
 have := reps_range z.toList n;rw [Array.length_toList] at this;rw [← this];apply Array.ext';simp [Array.getElem!_eq_getD, Array.getD_eq_getD_getElem?]
def OpOK (P : Program) (T : Tab) (s : Sem Value) (M : Mem) (ρ : Ren) (w : World) (v : V) (H' : Heap) : Prop :=
 ∃ x w' ρ', s.run P w = .ok x w' ∧ Ext M ρ w M ρ' w' ∧ rel M ρ' v x ∧ SR T M ρ' H' w'
theorem OpOK.pure {s : Sem Value} {x : Value} {v : V} (hS : SR T M ρ H w) (h : s.run P w = .ok x w) (hv : rel M ρ v x) : OpOK P T s M ρ w v H := ⟨x, w, ρ, h, Ext.refl _ _ _, hv, hS⟩
theorem alloc_ok (hS : SR T M ρ H w) (e : TypeId) {l : List V} {cs : List Value} (hl : relL M ρ l cs) :
 (newRow e cs.toArray).run P w = .ok ⟨w.heap.size, 0, none⟩ (w.alloc (.cells cs.toArray e)) ∧
  SR T M (ρ ++ [(w.heap.size, cs.length)]) (H ++ [some { ty := e, cells := l, kind := .all }]) (w.alloc (.cells cs.toArray e)) ∧ Ext M ρ w M (ρ ++ [(w.heap.size, cs.length)]) (w.alloc (.cells cs.toArray e)) := by
 refine ⟨by simp [newRow, newObj, Sem.run], ?_, Ext.alloc _ _ _ _ _⟩;have := hS.alloc hS.lt e .all (cs' := []) hl (.inr ⟨rfl, rfl⟩);simpa using this
theorem evBuildSlice_ok (hT : TOk P T) (hS : SR T M ρ H w) {ty : TypeId} {len : Nat} {ps : List (Nat × V)} {qs : List (Nat × Value)} {v : V} {H' : Heap} (hp : relPs M ρ ps qs) (h : evBuildSlice T ty len ps H = .val v H') :
 OpOK P T (Instr.buildSlice ty len qs.toArray) M ρ w v H' := by
 unfold evBuildSlice at h;simp only [newB_eq] at h;split at h
 ·rename_i e hu;split at h
  ·rename_i n z hn hz;split at h
   ·rename_i hc;obtain ⟨hzn, hpos, hle⟩ := hc;split at h
    ·rename_i cells hf;cases h;obtain ⟨zv, hzv, hzr⟩ := hT.run_zero hz;have hzc := rel_cells (ofVal_rel (M := M) (ρ := ρ) hzv);have hzl : zv.cells.size = n := by have := relL_length hzc; simp at this; omega
     obtain ⟨rs, h1, h2⟩ := fillV_ok hp (reps_rel hzc len) hf;obtain ⟨a1, a2, a3⟩ := alloc_ok (P := P) hS e h2;refine ⟨.slice (some ⟨w.heap.size, 0, none⟩) len len, _, _, ?_, a3, ?_, a2⟩
     ·by_cases h0 : len * n = 0
      ·have hl0 : len = 0 := by rcases Nat.mul_eq_zero.1 h0 with h | h <;> omega
       have h1' : Instr.fill (fun i => some (i * n, n)) #[] qs = some rs.toArray := by subst hl0; simpa [reps] using h1
       simp [Instr.buildSlice, hT.run_und hu, hT.run_size hn, h0, show Array.range 0 = #[] from rfl, h1', run_fmap _ _ a1]
      ·have hm : (Array.range (len * n)).map (fun i => zv.cells[i % zv.cells.size]!) = (reps len zv.cells.toList).toArray := by
        rw [← hzl];exact made_cells _ _
       simp only [Instr.buildSlice, Sem.run_bind, hT.run_und hu, Result.andThen_ok, hT.run_size hn, if_neg (show ¬ len * n > 2 ^ 24 by omega), if_neg h0, hzr, Sem.run_pure, hm, h1, a1]
     ·simp only [rel];refine ⟨w.heap.size, rs.length, len, by rw [← hS.len]; simp, by simp, Nat.le_refl _, fun q hq => by cases hq; rfl, fun hq => by cases hq⟩
    ·cases h
   ·cases h
  ·cases h
 ·cases h
end
open Go
section
variable {P : Program} {T : Tab} {M : Mem} {ρ : Ren} {w : World} {H : Heap}

theorem wrap64_id {n : Int} (h0 : 0 ≤ n) (h1 : n ≤ 1099511627776) : IntKind.i64.wrap n = n := by
 have := IntWalk.i64_in n;exact this (by omega)
theorem evMakeSlice_ok (hT : TOk P T) (hS : SR T M ρ H w) {ty : TypeId} {l c v : V} {H' : Heap} {x y : Value} (hx : rel M ρ l x) (hy : rel M ρ c y) (h : evMakeSlice T ty l c H = .val v H') :
 OpOK P T (Instr.makeSlice ty x y) M ρ w v H' := by
 unfold evMakeSlice at h;simp only [newB_eq] at h;split at h
 ·rename_i e kl l kc c hu;split at h
  ·rename_i n z bs hn hz hb;split at h
   ·rename_i hc;obtain ⟨hzn, hpos, h0, hlc, hbs, hcs⟩ := hc;cases h;simp only [rel] at hx hy;subst hx hy;obtain ⟨zv, hzv, hzr⟩ := hT.run_zero hz;have hzc := rel_cells (ofVal_rel (M := M) (ρ := ρ) hzv);have hzl : zv.cells.size = n := by have := relL_length hzc; simp at this; omega
    obtain ⟨i, hi, hir⟩ := hT.run_info hb;have h2 := reps_rel hzc c.toNat
    obtain ⟨a1, a2, a3⟩ := alloc_ok (P := P) hS e h2;refine ⟨.slice (some ⟨w.heap.size, 0, none⟩) l.toNat c.toNat, _, _, ?_, a3, ?_, a2⟩
    ·have hwl := wrap64_id h0 (by omega);have hwc := wrap64_id (n := c) (by omega) hcs;have hneg : ¬ c < 0 := by omega
     have hneg2 : ¬ l < 0 := by omega
     have hlc2 : ¬ c < l := by omega
     by_cases h00 : c.toNat * n = 0
     ·have hc0 : c.toNat = 0 := by rcases Nat.mul_eq_zero.1 h00 with h | h <;> omega
      have hr : reps c.toNat zv.cells.toList = [] := by rw [hc0]; rfl
      rw [hr] at a1 ⊢;simp [Instr.makeSlice, hT.run_und hu, asInt, asIntOf, hir, hi, hwl, hwc, hneg, hneg2, hlc2, askRoom, hT.run_size hn, h00, show Array.range 0 = #[] from rfl];rw [if_neg (by rw [Int.mul_comm]; omega), a1];rfl
     ·have hm : (Array.range (c.toNat * n)).map (fun i => zv.cells[i % zv.cells.size]!) = (reps c.toNat zv.cells.toList).toArray := by
       rw [← hzl];exact made_cells _ _
      simp [Instr.makeSlice, hT.run_und hu, asInt, asIntOf, hir, hi, hwl, hwc, hneg, hneg2, hlc2, askRoom, hT.run_size hn, h00, hm, hzr];rw [if_neg (by rw [Int.mul_comm]; omega), a1];rfl
    ·simp only [rel];refine ⟨w.heap.size, (reps c.toNat zv.cells.toList).length, c.toNat, by rw [← hS.len]; simp, by simp, by omega, fun q hq => by cases hq; rfl, fun hq => by cases hq⟩
   ·cases h
  ·cases h
 ·cases h
theorem bound_ok {t : Env} {a : Act} (ht : relT M ρ t a.tmps) {most d k : Nat} {o : Operand} (h : bound t most d (some o) = some k) (code : BoundsCode) :
 k ≤ most ∧ ∀ w, (Instr.sliceBound (a.eval o) most code).run P w = .ok k w := by
 simp only [bound] at h;split at h
 ·rename_i kk n he;split at h
  ·rename_i hn;cases h;have := ev1_rel ht he;simp only [rel] at this;rw [this];exact ⟨by omega, fun w => by simp [Instr.sliceBound, asIntOf, hn]⟩
  ·cases h
 ·cases h
theorem bounds_ok {t : Env} {a : Act} (ht : relT M ρ t a.tmps) {isSlice : Bool} {len cap h l : Nat} {lo hi : Option Operand} (hlc : len ≤ cap)
 (hh : bound t cap len hi = some h) (hl : bound t h 0 lo = some l) :
 l ≤ h ∧ h ≤ cap ∧ ∀ w, (Instr.sliceBounds isSlice len cap (lo.map a.eval) (hi.map a.eval) none).run P w = .ok (l, h, cap) w := by
 cases hi with
 | none =>
  simp only [bound, Option.some.injEq] at hh;subst hh;cases lo with
  | none =>
   simp only [bound, Option.some.injEq] at hl;subst hl;exact ⟨by omega, hlc, fun w => by simp [Instr.sliceBounds]⟩
  | some o =>
   obtain ⟨h1, h2⟩ := bound_ok (P := P) ht hl .sliceB;exact ⟨h1, hlc, fun w => by simp [Instr.sliceBounds, h2]⟩
 | some oh =>
  obtain ⟨h1, h2⟩ := bound_ok (P := P) ht hh (if isSlice then .sliceAcap else .sliceAlen);cases lo with
  | none =>
   simp only [bound, Option.some.injEq] at hl;subst hl;exact ⟨by omega, h1, fun w => by simp [Instr.sliceBounds, h2]⟩
  | some o =>
   obtain ⟨h3, h4⟩ := bound_ok (P := P) ht hl .sliceB;exact ⟨h3, h1, fun w => by simp [Instr.sliceBounds, h2, h4]⟩
theorem relRow_drop {sz : Nat} : ∀ (k : Nat) {l : List V} {b o : Nat}, relRow M ρ sz l b o → relRow M ρ sz (l.drop k) b (o + k * sz)
 | 0, l, b, o, h => by simpa using h
 | k + 1, [], b, o, _ => by simp [relRow]
 | k + 1, v :: l, b, o, h => by
  simp only [relRow] at h;have := relRow_drop k h.2;rw [show o + (k + 1) * sz = o + sz + k * sz from by rw [Nat.succ_mul]; omega];simpa using this
theorem relRow_take {sz : Nat} : ∀ (k : Nat) {l : List V} {b o : Nat}, relRow M ρ sz l b o → relRow M ρ sz (l.take k) b o
 | 0, l, b, o, _ => by simp [relRow]
 | k + 1, [], b, o, _ => by simp [relRow]
 | k + 1, v :: l, b, o, h => by
  simp only [relRow, List.take_succ_cons] at h ⊢;exact ⟨h.1, relRow_take k h.2⟩
theorem evSlice_ok (hT : TOk P T) {t : Env} {a : Act} (ht : relT M ρ t a.tmps) {ty : TypeId} {p v : V} {lo hi mx : Option Operand} {x : Value} (hx : rel M ρ p x) (h : evSlice T ty t p lo hi mx = some v) :
 ∃ y, (∀ w, (Instr.sliceAt ty x (lo.map a.eval) (hi.map a.eval) (mx.map a.eval)).run P w = .ok y w) ∧ rel M ρ v y := by
 simp only [evSlice, subU_eq] at h;split at h
 ·cases h
 split at h
 ·rename_i l;split at h
  ·rename_i hu;split at h
   ·rename_i hh hbh;split at h
    ·rename_i k hbl;cases h;simp only [rel] at hx;subst hx;obtain ⟨b1, b2, b3⟩ := bounds_ok (P := P) ht (isSlice := false) (len := l.length) (Nat.le_refl _) hbh hbl;refine ⟨.string ⟨((l.take hh).drop k).toArray⟩, fun w => ?_, by simp [rel]⟩;have hsz : (ByteArray.mk l.toArray).size = l.length := by simp [ByteArray.size]
     have hex : (ByteArray.mk l.toArray).extract k hh = ⟨((l.take hh).drop k).toArray⟩ := by
      rw [Lib.extract_eq, List.drop_take]
     simp [Instr.sliceAt, hT.run_und hu, Instr.slice, hsz, b3, hex]
    ·cases h
   ·cases h
  ·cases h
 ·rename_i sz l;split at h
  ·rename_i e hu;split at h
   ·rename_i hsz;split at h
    ·rename_i hh hbh;split at h
     ·rename_i k hbl;cases h;simp only [rel] at hx;obtain ⟨ad, c, rfl, hlc, hrow⟩ := hx;have hbh' : bound t c l.length hi = some hh := by
       cases hi with
       | none => exact hbh
       | some o =>
        simp only [bound] at hbh ⊢;split at hbh
        ·rename_i n hn;split at hbh
         ·rename_i hc;rw [if_pos (by omega)];exact hbh
         ·cases hbh
        ·cases hbh
      have hhl : hh ≤ l.length := by
       cases hi with
       | none => simp only [bound, Option.some.injEq] at hbh; omega
       | some o => exact (bound_ok (P := P) ht hbh .sliceB).1
      obtain ⟨b1, b2, b3⟩ := bounds_ok (P := P) ht (isSlice := true) hlc hbh' hbl;have hll : ((l.take hh).drop k).length = hh - k := by simp; omega
      refine ⟨.slice (if c = k then ad else ad.map (·.add (k * sz))) (hh - k) (c - k), fun w => by simp [Instr.sliceAt, hT.run_und hu, Instr.slice, b3, hT.run_size hsz], ?_⟩;simp only [rel];refine ⟨_, _, by rw [hll], by rw [hll]; omega, fun hne => ?_⟩;have hpos : 0 < hh - k := by rw [← hll]; exact List.length_pos_iff.2 hne
      obtain ⟨b, o, rfl, hr⟩ := hrow (fun e0 => by subst e0; simp at hhl; omega);rw [if_neg (by omega)];exact ⟨b, o + k * sz, by simp [add_none], relRow_drop k (relRow_take hh hr)⟩
     ·cases h
    ·cases h
   ·cases h
  ·cases h
 ·split at h
  ·rename_i e hu;split at h
   ·rename_i n hsz hbh hbl;cases h;simp only [rel] at hx;subst hx;obtain ⟨b1, b2, b3⟩ := bounds_ok (P := P) ht (isSlice := true) (Nat.le_refl 0) hbh hbl;exact ⟨.slice none 0 0, fun w => by simp [Instr.sliceAt, hT.run_und hu, Instr.slice, b3, hT.run_size hsz], by simp [rel]⟩
   ·cases h
  ·cases h
 ·rename_i n sz off len cap;split at h
  ·rename_i e hu;split at h
   ·rename_i hsz;split at h
    ·rename_i hh hbh;split at h
     ·rename_i k hbl;simp only [rel] at hx;obtain ⟨b, c, q, hr, rfl, hlq, hcap, hfull⟩ := hx;have hbh' : bound t q len hi = some hh := by
       cases hi with
       | none => exact hbh
       | some o =>
        simp only [bound] at hbh ⊢;split at hbh
        ·rename_i kk nn hn;split at hbh
         ·rename_i hc;have : cap.getD len ≤ q := by
           cases cap with
           | none => exact hlq
           | some z => have := hcap z rfl; simp; omega
          rw [if_pos (by omega)];exact hbh
         ·cases hbh
        ·cases hbh
      obtain ⟨b1, b2, b3⟩ := bounds_ok (P := P) ht (isSlice := true) hlq hbh' hbl;have hrun : ∀ w, (Instr.sliceAt ty (.slice (some ⟨b, off * sz, none⟩) len q) (lo.map a.eval) (hi.map a.eval) none).run P w = .ok (.slice (if q = k then some ⟨b, off * sz, none⟩ else some ⟨b, (off + k) * sz, none⟩) (hh - k) (q - k)) w := fun w => by
       simp [Instr.sliceAt, hT.run_und hu, Instr.slice, b3, hT.run_size hsz];split <;> simp [add_none, Nat.add_mul]
      refine ⟨_, hrun, ?_⟩;split at h
      ·rename_i z;have hz := hcap z rfl;subst hz;split at h
       ·rename_i e0;cases h;rw [if_pos e0];simp only [rel];exact ⟨b, c, q - k, hr, rfl, by omega, fun x hx => by cases hx; omega, fun hx => by cases hx⟩
       ·rename_i e0;cases h;rw [if_neg e0];simp only [rel];exact ⟨b, c, q - k, hr, rfl, by omega, fun x hx => by cases hx; omega, fun hx => by cases hx⟩
      ·have hf := hfull rfl;split at h
       ·rename_i e0;cases h;simp only [rel];have h00 : hh - k = 0 := by omega
        rw [h00];split
        ·exact ⟨_, _, rfl⟩
        ·exact ⟨_, _, rfl⟩
       ·rename_i e0;cases h;simp only [rel];by_cases hqk : q = k
        ·have hk0 : k = 0 := by
          rcases Nat.eq_zero_or_pos k with h | h
          ·exact h
          ·exact absurd ⟨by omega, h⟩ e0
         subst hk0;rw [if_pos hqk];exact ⟨b, c, q - 0, hr, by simp, by omega, fun x hx => (by cases hx), fun _ => by simpa using hf⟩
        ·rw [if_neg hqk];exact ⟨b, c, q - k, hr, rfl, by omega, fun x hx => (by cases hx), fun _ => by rw [← hf]; congr 1; omega⟩
     ·cases h
    ·cases h
   ·cases h
  ·cases h
 ·rename_i n off;split at h
  ·rename_i m e hu;split at h
   ·rename_i sz hsz;split at h
    ·rename_i hc;split at h
     ·rename_i hh hbh;split at h
      ·rename_i k hbl;split at h
       ·cases h
       ·rename_i hmk;cases h;simp only [rel] at hx;obtain ⟨b, c, hr, rfl⟩ := hx;obtain ⟨b1, b2, b3⟩ := bounds_ok (P := P) ht (isSlice := false) (Nat.le_refl m) hbh hbl;have hoff : off = off / sz * sz := by
         have := Nat.div_add_mod off sz;rw [hc.2, Nat.add_zero, Nat.mul_comm] at this;exact this.symm
        refine ⟨.slice (some ⟨b, (off / sz + k) * sz, none⟩) (hh - k) (m - k), fun w => ?_, ?_⟩
        ·simp [Instr.sliceAt, hT.run_und hu, Instr.sureAddr, b3, hT.run_size hsz, hmk, add_none];rw [Nat.add_mul, ← hoff]
        ·simp only [rel];exact ⟨b, c, m - k, hr, rfl, by omega, fun x hx => by cases hx; rfl, fun hx => by cases hx⟩
      ·cases h
     ·cases h
    ·cases h
   ·cases h
  ·cases h
 ·cases h
end
open Go
section
variable {P : Program} {T : Tab} {M : Mem} {ρ : Ren} {w : World} {H : Heap}

theorem addOff_ok {d : Nat} {p v : V} {x : Value} (hx : rel M ρ p x) (h : addOff d p = some v) : ∃ b o, x = .pointer (some ⟨b, o, none⟩) ∧ rel M ρ v (.pointer (some ⟨b, o + d, none⟩)) := by
 unfold addOff at h;split at h
 ·cases h;simp only [rel] at hx ⊢;obtain ⟨b, c, hr, rfl⟩ := hx;exact ⟨b, _, rfl, b, c, hr, rfl⟩
 ·cases h;simp only [rel] at hx ⊢;obtain ⟨b, o, rfl, hr⟩ := hx;exact ⟨b, _, rfl, b, o, by rw [Nat.add_assoc _ _ d], hr⟩
 ·cases h;simp only [rel] at hx ⊢;subst hx;exact ⟨_, _, rfl, rfl⟩
 ·cases h
theorem evFieldAddr_ok (hT : TOk P T) {ty : TypeId} {p v : V} {f : Nat} {x : Value} (hx : rel M ρ p x) (h : evFieldAddr T ty p f = some v) :
 ∃ y, (∀ w, (Instr.fieldAt ty x f).run P w = .ok y w) ∧ rel M ρ v y := by
 unfold evFieldAddr at h;split at h
 ·rename_i fs hu;split at h
  ·rename_i fd hfd;split at h
   ·rename_i n hn;split at h
    ·cases h
    ·rename_i hn0;obtain ⟨b, o, rfl, hr⟩ := addOff_ok hx h;refine ⟨_, fun w => ?_, hr⟩;simp [Instr.fieldAt, hT.run_und hu, hfd, Instr.sureAddr, fieldPlace, hT.run_size hn, hn0, add_none]
   ·cases h
  ·cases h
 ·cases h
theorem evField_ok (hT : TOk P T) {ty : TypeId} {p v : V} {f : Nat} {x : Value} (hx : rel M ρ p x) (h : evField T ty p f = some v) :
 ∃ y, (∀ w, (Instr.field ty x f).run P w = .ok y w) ∧ rel M ρ v y := by
 unfold evField at h;split at h
 ·rename_i fs l hu;split at h
  ·rename_i fd hfd;simp only [rel] at hx;obtain ⟨cs, rfl, hcs⟩ := hx;obtain ⟨y, hy, hr⟩ := pickAt_part hT h hcs;exact ⟨y, fun w => by simp [Instr.field, hT.run_und hu, hfd, asAgg, hy], hr⟩
  ·cases h
 ·cases h
theorem evIndexAddr_ok (hT : TOk P T) {ty : TypeId} {p q v : V} {x z : Value} (hx : rel M ρ p x) (hz : rel M ρ q z) (h : evIndexAddr T ty p q = some v) :
 ∃ y, (∀ w, (Instr.indexAt ty x z).run P w = .ok y w) ∧ rel M ρ v y := by
 unfold evIndexAddr at h;split at h
 ·rename_i e n sz off len cap k j hu;split at h
  ·rename_i hc;cases h;simp only [rel] at hx hz;subst hz;obtain ⟨b, c, q, hr, rfl, hlq, hcap, hfull⟩ := hx;refine ⟨.pointer (some ⟨b, (off + j.toNat) * sz, none⟩), fun w => ?_, by simp only [rel]; exact ⟨b, c, hr, rfl⟩⟩;simp [Instr.indexAt, asIntOf, hT.run_und hu, hc.2.1, hc.2.2, hT.run_size hc.1, add_none, Nat.add_mul]
  ·cases h
 ·rename_i e sz l k j hu;split at h
  ·rename_i hc;cases h;simp only [rel] at hx hz;subst hz;obtain ⟨ad, c, rfl, hlc, hrow⟩ := hx;obtain ⟨b, o, rfl, hr⟩ := hrow (fun e0 => by subst e0; have := hc.2; simp at this; omega);refine ⟨.pointer (some ⟨b, o + j.toNat * sz + 0, none⟩), fun w => ?_, by simp only [rel]; exact ⟨b, o, rfl, hr⟩⟩;simp [Instr.indexAt, asIntOf, hT.run_und hu, hc.2.1, hc.2.2, hT.run_size hc.1, add_none]
  ·cases h
 ·rename_i len e x' k j hu;split at h
  ·rename_i n hn;split at h
   ·rename_i hc;simp only [rel] at hz;subst hz;obtain ⟨b, o, rfl, hr⟩ := addOff_ok hx h;refine ⟨_, fun w => ?_, hr⟩;simp [Instr.indexAt, asIntOf, hT.run_und hu, Instr.sureAddr, hc.1, hc.2, hT.run_size hn, add_none]
   ·cases h
  ·cases h
 ·cases h
theorem evIndex_ok (hT : TOk P T) {ty : TypeId} {p q v : V} {x z : Value} (hx : rel M ρ p x) (hz : rel M ρ q z) (h : evIndex T ty p q = some v) :
 ∃ y, (∀ w, (Instr.index ty x z).run P w = .ok y w) ∧ rel M ρ v y := by
 simp only [evIndex, nthU_eq] at h;split at h
 ·rename_i len e l k j hu;split at h
  ·rename_i n hn;split at h
   ·rename_i hc;simp only [rel] at hx hz;subst hz;obtain ⟨cs, rfl, hcs⟩ := hx;obtain ⟨y, hy, hr⟩ := pickAt_part hT h hcs;exact ⟨y, fun w => by simp [Instr.index, asIntOf, hT.run_und hu, hc.1, hc.2, hT.run_size hn, hy], hr⟩
   ·cases h
  ·cases h
 ·rename_i l k j hu;split at h
  ·rename_i hc;simp only [rel] at hx hz;subst hx hz;cases hl : l[j.toNat]? with
   | none => simp [hl] at h
   | some c =>
    simp [hl] at h;subst h;refine ⟨.int .u8 c.toNat, fun w => ?_, by simp [rel]⟩;have : (ByteArray.mk l.toArray)[j.toNat]? = some c := by
     have hlt := (List.getElem?_eq_some_iff.1 hl).1;have hsz : j.toNat < (ByteArray.mk l.toArray).size := by simpa [ByteArray.size] using hlt
     rw [getElem?_pos (ByteArray.mk l.toArray) j.toNat hsz];have := (List.getElem?_eq_some_iff.1 hl).2;rw [← this];rfl
    simp [Instr.index, asIntOf, hT.run_und hu, hc, this]
  ·cases h
 ·cases h
theorem evLen_ok (hT : TOk P T) {ty : TypeId} {p v : V} {x : Value} (hx : rel M ρ p x) (h : evLen T ty p = some v) (tys : Array TypeId) (h0 : tys[0]? = some ty) (rt : TypeId) :
 ∃ y, (∀ w, (Builtin.len_ tys rt #[x]).run P w = .ok y w) ∧ rel M ρ v y := by
 unfold evLen at h;split at h
 ·rename_i l hu;cases h;simp only [rel] at hx;subst hx;exact ⟨.int .i64 l.length, fun w => by simp [Builtin.len_, h0, hT.run_und hu, goInt]; rfl, by simp [rel]⟩
 ·rename_i _ n _ hu;cases h;exact ⟨.int .i64 n, fun w => by simp [Builtin.len_, h0, hT.run_und hu, goInt], by simp [rel]⟩
 ·rename_i e n sz off len cap hu;cases h;simp only [rel] at hx;obtain ⟨b, c, k, hr, rfl, _⟩ := hx;exact ⟨.int .i64 len, fun w => by simp [Builtin.len_, h0, hT.run_und hu, goInt], by simp [rel]⟩
 ·rename_i e sz l hu;cases h;simp only [rel] at hx;obtain ⟨ad, k, rfl, _⟩ := hx;exact ⟨.int .i64 l.length, fun w => by simp [Builtin.len_, h0, hT.run_und hu, goInt], by simp [rel]⟩
 ·rename_i e hu;cases h;simp only [rel] at hx;subst hx;exact ⟨.int .i64 0, fun w => by simp [Builtin.len_, h0, hT.run_und hu, goInt], by simp [rel]⟩
 ·rename_i e hu;cases h;simp only [rel] at hx;obtain ⟨a, c, rfl⟩ := hx;exact ⟨.int .i64 0, fun w => by simp [Builtin.len_, h0, hT.run_und hu, goInt], by simp [rel]⟩
 ·cases h
theorem evUn_ok {op : UnOp} {p v : V} {x : Value} (hx : rel M ρ p x) (h : evUn op p = some v) : ∃ y, (∀ w, (Op.unary op x).run P w = .ok y w) ∧ rel M ρ v y := by
 unfold evUn at h;split at h
 ·cases h;simp only [rel] at hx;subst hx;rename_i y;exact ⟨.bool (!y), fun w => by simp [Op.unary], by simp [rel]⟩
 ·cases h;simp only [rel] at hx;subst hx;rename_i k n;exact ⟨.int k (k.wrap (0 - n)), fun w => by simp [Op.unary, Op.intArith], by simp [rel]⟩
 ·rename_i k n;simp only [rel] at hx;subst hx;simp only [evInt] at h;split at h
  ·rename_i u hu;exact ⟨u, fun w => by simp [Op.unary, hu], ofSc_rel h⟩
  ·cases h
 ·cases h
theorem evConv_ok (hT : TOk P T) {src dst : TypeId} {p v : V} {x : Value} (hx : rel M ρ p x) (h : evConv T src dst p = some v) : ∃ y, (∀ w, (convert src dst x).run P w = .ok y w) ∧ rel M ρ v y := by
 unfold evConv at h;split at h
 ·rename_i d k kk n hs hd;cases h;simp only [rel] at hx;subst hx;exact ⟨.int k (k.wrap n), fun w => by simp [convert, hT.run_und hs, hT.run_und hd, Conv.intToInt], by simp [rel]⟩
 ·rename_i d kk n hs hd;cases h;simp only [rel] at hx;subst hx;refine ⟨.string (Utf8.encode n), fun w => ?_, by simp [rel]⟩;simp [convert, hT.run_und hs, hT.run_und hd, Conv.intToString]
 ·rename_i d l hs hd;cases h;simp only [rel] at hx;subst hx;refine ⟨.string ⟨l.toArray⟩, fun w => ?_, by simp [rel]⟩;simp [convert, hT.run_und hs, hT.run_und hd]
 ·cases h
end
open Go
section
variable {P : Program} {T : Tab} {M : Mem} {ρ : Ren} {w : World} {H : Heap}

theorem evInt_ok {op : BinOp} {k : IntKind} {a b : Int} {v : V} (hop : op ≠ .shl ∧ op ≠ .shr) (h : evInt op k a b = some v) (xT : TypeId) :
    ∃ y, (∀ w, (binOp op xT (.int k a) (.int k b)).run P w = .ok y w) ∧ rel M ρ v y := by
  unfold evInt at h
  split at h
  case h_1 => cases h; exact ⟨.int k (k.wrap (a + b)), fun w => by simp [binOp, Op.intArith], by simp [rel]⟩
  case h_2 => cases h; exact ⟨.int k (k.wrap (a - b)), fun w => by simp [binOp, Op.intArith], by simp [rel]⟩
  case h_3 => cases h; exact ⟨.int k (k.wrap (a * b)), fun w => by simp [binOp, Op.intArith], by simp [rel]⟩
  case h_4 => cases h; exact ⟨.bool (a == b), fun w => by simp [binOp, Op.intCmp], by simp [rel]⟩
  case h_5 => cases h; exact ⟨.bool (a != b), fun w => by simp [binOp, Op.intCmp], by simp [rel]⟩
  case h_6 => cases h; exact ⟨.bool (decide (a < b)), fun w => by simp [binOp, Op.intCmp], by simp [rel]⟩
  case h_7 => cases h; exact ⟨.bool (decide (a ≤ b)), fun w => by simp [binOp, Op.intCmp], by simp [rel]⟩
  case h_8 => cases h; exact ⟨.bool (decide (a > b)), fun w => by simp [binOp, Op.intCmp], by simp [rel]⟩
  case h_9 => cases h; exact ⟨.bool (decide (a ≥ b)), fun w => by simp [binOp, Op.intCmp], by simp [rel]⟩
  case h_16 => cases h
  all_goals
    first
      | (split at h
         · cases h
         · split at h
           · rename_i u hu
             exact ⟨u, fun w => by simp [binOp, hu], ofSc_rel h⟩
           · cases h)
      | (split at h
         · rename_i u hu
           exact ⟨u, fun w => by simp [binOp, hu], ofSc_rel h⟩
         · cases h)

theorem evShift_ok {op : BinOp} {k k' : IntKind} {a b : Int} {v : V} (hop : op = .shl ∨ op = .shr) (h : evShift op k a k' b = some v) (xT : TypeId) :
 ∃ y, (∀ w, (binOp op xT (.int k a) (.int k' b)).run P w = .ok y w) ∧ rel M ρ v y := by
 unfold evShift at h;split at h
 ·rename_i u hu;refine ⟨u, fun w => ?_, ofSc_rel h⟩;rcases hop with rfl | rfl <;> simp [binOp, hu]
 ·cases h
theorem evStr_ok {op : BinOp} {a b : List UInt8} {v : V} (h : evStr op a b = some v) (xT : TypeId) :
 ∃ y, (∀ w, (binOp op xT (.string ⟨a.toArray⟩) (.string ⟨b.toArray⟩)).run P w = .ok y w) ∧ rel M ρ v y := by
 simp only [evStr, eqU_eq] at h;split at h
 ·split at h
  ·rename_i hc;have hc := Nat.le_of_ble_eq_true hc;cases h;refine ⟨.string ⟨(a ++ b).toArray⟩, fun w => ?_, by simp [rel]⟩;have h1 : (ByteArray.mk a.toArray).size = a.length := rfl;have h2 : (ByteArray.mk b.toArray).size = b.length := rfl;have h3 : (ByteArray.mk a.toArray) ++ (ByteArray.mk b.toArray) = ⟨(a ++ b).toArray⟩ := by
    apply ByteArray.ext;simp
   have h4 : ¬ ((a.length + b.length : Nat) : Int) > IntKind.i64.max := by
    rw [show IntKind.i64.max = 9223372036854775807 from rfl]; omega
   simp only [binOp, Op.stringOp, h1, h2, if_neg h4, h3, Sem.run_pure]
  ·cases h
 all_goals first
  | (cases h; refine ⟨.bool _, fun w => ?_, by simp only [rel]; rfl⟩; simp [binOp, Op.stringOp]; done)
  | cases h
theorem eqGuard_ok {op : BinOp} {t : TypeId} {x y : Operand} {a b : Value} (h1 : ¬ (a = .nilIface ∧ b = .nilIface)) (h2 : ∀ c d, ¬ (a = .agg c ∧ b = .agg d)) (w : World) : (eqGuard op t x y a b).run P w = .ok () w := by
 have key : ∀ (X : Sem Unit) (Y : Array Value → Array Value → Sem Unit), (match a, b with | .nilIface, .nilIface => X | .agg c, .agg d => Y c d | _, _ => (Pure.pure () : Sem Unit)).run P w = .ok () w := by
  intro X Y;split
  ·exact absurd ⟨rfl, rfl⟩ h1
  ·exact absurd ⟨rfl, rfl⟩ (h2 _ _)
  ·simp
 unfold eqGuard;split;all_goals first
  | (simp; done)
  | (simp only [Bool.not_true, Bool.false_eq_true, if_false]; exact key _ (fun _ _ => _))
theorem evEq_ok {t : TypeId} {d : TypeDesc} (hd : P.underlying t = some d) {p q : V} {r : Bool} {x y : Value} (hx : rel M ρ p x) (hy : rel M ρ q y) (h : evEq (some d) p q = some r) :
    (∀ w, (Op.equal t x y).run P w = .ok r w) ∧ ¬ (x = .nilIface ∧ y = .nilIface) ∧ (∀ c d, ¬ (x = .agg c ∧ y = .agg d)) ∧ (∀ k n, x ≠ .int k n) ∧ (∀ l, x ≠ .string l) ∧ (∀ k n, x ≠ .float k n) ∧ (∀ k n m, x ≠ .complex k n m) := by
  unfold evEq at h
  have run1 : ∀ {a b : Value} {r : Bool}, (∀ d w, (Op.equalIn (d + 1) t a b).run P w = .ok r w) → ∀ w, (Op.equal t a b).run P w = .ok r w := fun hh w => hh 9999 w
  split at h <;> first
    | (cases h; done)
    | (split at h
       · cases h
       · rename_i heq hne
         cases heq
         cases h
         simp only [rel] at hx hy
         first
           | (subst hx; obtain ⟨_, _, rfl, _, h3⟩ := hy; obtain ⟨_, _, rfl, _⟩ := h3 (by simpa using hne); exact ⟨run1 fun d w => by simp [Op.equalIn, run_underlying hd], by simp, by simp, by simp, by simp, by simp, by simp⟩)
           | (subst hy; obtain ⟨_, _, rfl, _, h3⟩ := hx; obtain ⟨_, _, rfl, _⟩ := h3 (by simpa using hne); exact ⟨run1 fun d w => by simp [Op.equalIn, run_underlying hd], by simp, by simp, by simp, by simp, by simp, by simp⟩))
    | (rename_i heq; cases heq; cases h
       simp only [rel] at hx hy
       first
         | (subst hx hy; exact ⟨run1 fun d w => by simp [Op.equalIn, run_underlying hd], by simp, by simp, by simp, by simp, by simp, by simp⟩)
         | (subst hx; obtain ⟨_, _, rfl⟩ := hy; exact ⟨run1 fun d w => by simp [Op.equalIn, run_underlying hd], by simp, by simp, by simp, by simp, by simp, by simp⟩)
         | (subst hx; obtain ⟨_, _, rfl, _⟩ := hy; exact ⟨run1 fun d w => by simp [Op.equalIn, run_underlying hd], by simp, by simp, by simp, by simp, by simp, by simp⟩)
         | (subst hy; obtain ⟨_, _, rfl⟩ := hx; exact ⟨run1 fun d w => by simp [Op.equalIn, run_underlying hd], by simp, by simp, by simp, by simp, by simp, by simp⟩)
         | (subst hy; obtain ⟨_, _, rfl, _⟩ := hx; exact ⟨run1 fun d w => by simp [Op.equalIn, run_underlying hd], by simp, by simp, by simp, by simp, by simp, by simp⟩)
         | (subst hx; obtain ⟨_, _, _, rfl⟩ := hy; exact ⟨run1 fun d w => by simp [Op.equalIn, run_underlying hd], by simp, by simp, by simp, by simp, by simp, by simp⟩)
         | (subst hy; obtain ⟨_, _, _, rfl⟩ := hx; exact ⟨run1 fun d w => by simp [Op.equalIn, run_underlying hd], by simp, by simp, by simp, by simp, by simp, by simp⟩)
         | (subst hx; obtain ⟨_, _, _, _, rfl, _⟩ := hy; exact ⟨run1 fun d w => by simp [Op.equalIn, run_underlying hd], by simp, by simp, by simp, by simp, by simp, by simp⟩)
         | (subst hy; obtain ⟨_, _, _, _, rfl, _⟩ := hx; exact ⟨run1 fun d w => by simp [Op.equalIn, run_underlying hd], by simp, by simp, by simp, by simp, by simp, by simp⟩)
         | (subst hx; obtain ⟨_, rfl, _⟩ := hy; exact ⟨run1 fun d w => by simp [Op.equalIn, run_underlying hd], by simp, by simp, by simp, by simp, by simp, by simp⟩)
         | (subst hy; obtain ⟨_, rfl, _⟩ := hx; exact ⟨run1 fun d w => by simp [Op.equalIn, run_underlying hd], by simp, by simp, by simp, by simp, by simp, by simp⟩))

theorem bytes_beq (a b : List UInt8) : ((⟨a.toArray⟩ : ByteArray) == ⟨b.toArray⟩) = (a == b) := by
 show (a.toArray == b.toArray) = _;simp
theorem eq1_ok (hT : TOk P T) {t : TypeId} {d : TypeDesc} (hd : T.und t = some d) {xs ys : List V} {cs ds : List Value} (hx : relL M ρ xs cs) (hy : relL M ρ ys ds) {o : Nat} {r : Bool} (h : eq1 (some d) xs[o]? ys[o]? = some r) :
    ∃ x y, (∀ w, (part t cs.toArray o).run P w = .ok x w) ∧ (∀ w, (part t ds.toArray o).run P w = .ok y w) ∧ ∀ n w, (Op.equalIn (n + 1) t x y).run P w = .ok r w := by
  cases hp : xs[o]? with
  | none => rw [hp] at h; unfold eq1 at h; split at h <;> simp_all
  | some p =>
    cases hq : ys[o]? with
    | none => rw [hq] at h; unfold eq1 at h; split at h <;> simp_all
    | some q =>
      obtain ⟨x, hx1, hx2⟩ := relL_get hx hp
      obtain ⟨y, hy1, hy2⟩ := relL_get hy hq
      rw [hp, hq] at h
      have hu := run_underlying (hT.und _ _ hd)
      refine ⟨x, y, ?_, ?_, ?_⟩
      · intro w
        unfold eq1 at h
        split at h <;> first
          | (cases h; done)
          | (rename_i e1 _ _; cases e1; simp [part, isAgg, hu, hx1])
      · intro w
        unfold eq1 at h
        split at h <;> first
          | (cases h; done)
          | (rename_i e1 _ _; cases e1; simp [part, isAgg, hu, hy1])
      · intro n w
        unfold eq1 at h
        split at h <;> first
          | (cases h; done)
          | (rename_i e1 e2 e3
             cases e1; cases e2; cases e3
             simp only [rel] at hx2 hy2
             subst hx2 hy2
             first
               | (split at h
                  · rename_i hk; subst hk; cases h; simp [Op.equalIn, hu]
                  · cases h)
               | (cases h; simp [Op.equalIn, hu, bytes_beq, eqU_eq]))
theorem eqFs_ok (hT : TOk P T) {xs ys : List V} {cs ds : List Value} (hx : relL M ρ xs cs) (hy : relL M ρ ys ds) (n : Nat) (w : World) : ∀ (l : List Field) (r : Bool), (∀ f ∈ l, f.name ≠ "_") → eqFs T xs ys l = some r →
    (forIn l ((none, ()) : Option Bool × Unit) (fun f _ => if f.name ≠ "_" then (do
        if !(← Op.equalIn (n + 1) f.type (← part f.type cs.toArray f.offset) (← part f.type ds.toArray f.offset)) then pure (ForInStep.done (some false, ())) else pure (ForInStep.yield (none, ())))
      else pure (ForInStep.yield (none, ()))) : Sem (Option Bool × Unit)).run P w = .ok (if r = true then (none, ()) else (some false, ())) w
  | [], r, _, h => by
    simp only [eqFs, Option.some.injEq] at h
    subst h
    simp
  | f :: l, r, hn, h => by
    simp only [eqFs] at h
    cases hd : T.und f.type with
    | none => rw [hd] at h; simp [eq1] at h
    | some d =>
      rw [hd] at h
      cases he : eq1 (some d) xs[f.offset]? ys[f.offset]? with
      | none => rw [he] at h; cases h
      | some q =>
        obtain ⟨x, y, h1, h2, h3⟩ := eq1_ok hT hd hx hy he
        have h0 := hn f (by simp)
        rw [he] at h
        cases q with
        | true =>
          have ih := eqFs_ok hT hx hy n w l r (fun g hg => hn g (by simp [hg])) h
          simp only [ne_eq, ite_not] at ih
          simp [h0, h1, h2, h3] at ih ⊢
          exact ih
        | false => cases h; simp [h0, h1, h2, h3]
theorem evEqA_ok (hT : TOk P T) {t : TypeId} {fs : Array Field} (hu : T.und t = some (.struct fs)) (hq : T.eqs t = true) {xs ys : List V} {cs ds : List Value} {r : Bool} (hx : relL M ρ xs cs) (hy : relL M ρ ys ds) (h : eqFs T xs ys fs.toList = some r) :
 (∀ w, (Op.equal t (.agg cs.toArray) (.agg ds.toArray)).run P w = .ok r w) ∧ ∀ op ox oy w, (eqGuard op t ox oy (.agg cs.toArray) (.agg ds.toArray)).run P w = .ok () w := by
 obtain ⟨h1, h2, h3⟩ := hT.eqs t hq;have hun := run_underlying (hT.und _ _ hu);constructor
 ·intro w;have := eqFs_ok hT hx hy 9998 w fs.toList r (h3 fs (hT.und _ _ hu)) h;simp only [ne_eq, ite_not, Bool.not_eq_true'] at this;show (Op.equalIn (9999 + 1) t (.agg cs.toArray) (.agg ds.toArray)).run P w = _;rw [Op.equalIn];simp [hun, h1];rw [← Array.forIn_toList, this];cases r <;> simp
 ·intro op ox oy w;unfold eqGuard;simp [h2]
theorem evEqT_ok (hT : TOk P T) {t : TypeId} {p q : V} {r : Bool} {x y : Value} (hx : rel M ρ p x) (hy : rel M ρ q y) (h : evEqT T t p q = some r) :
 (∀ w, (Op.equal t x y).run P w = .ok r w) ∧ (∀ op ox oy w, (eqGuard op t ox oy x y).run P w = .ok () w) ∧ (∀ k n, x ≠ .int k n) ∧ (∀ l, x ≠ .string l) ∧ (∀ k n, x ≠ .float k n) ∧ (∀ k n m, x ≠ .complex k n m) := by
 unfold evEqT at h;split at h
 ·rename_i xs ys;split at h
  ·rename_i fs hu;split at h
   ·rename_i hq;simp only [rel] at hx hy;obtain ⟨cs, rfl, hx⟩ := hx;obtain ⟨ds, rfl, hy⟩ := hy;obtain ⟨h1, h2⟩ := evEqA_ok hT hu hq hx hy h;exact ⟨h1, h2, by simp, by simp, by simp, by simp⟩
   ·cases h
  ·cases h
 ·rename_i n o m q;split at h
  ·rename_i e hu;split at h
   ·rename_i s hs;split at h
    ·rename_i hc;obtain ⟨hs0, rfl⟩ := hc;cases h;simp only [rel] at hx hy;obtain ⟨b, c, hr, rfl⟩ := hx;obtain ⟨b', c', hr', rfl⟩ := hy;rw [hr] at hr';cases hr';refine ⟨fun w => ?_, fun op ox oy w => eqGuard_ok (by simp) (by simp) w, by simp, by simp, by simp, by simp⟩;have : ∀ d w, (Op.equalIn (d + 1) t (.pointer (some ⟨b, o, none⟩)) (.pointer (some ⟨b, q, none⟩))).run P w = .ok (o == q) w := by
      intro d w;have he : ((⟨b, o, none⟩ : Addr) == ⟨b, q, none⟩) = (o == q) := by
       rw [Bool.eq_iff_iff];simp
      simp [Op.equalIn, run_underlying (hT.und _ _ hu), hT.run_size hs, hs0, sameAddr, he]
     exact this 9999 w
    ·cases h
   ·cases h
  ·cases h
 ·cases hd : T.und t with
  | none => simp [hd, evEq] at h
  | some d =>
   rw [hd] at h;obtain ⟨e1, e2, e3, e4⟩ := evEq_ok (hT.und _ _ hd) hx hy h;exact ⟨e1, fun op ox oy w => eqGuard_ok e2 e3 w, e4⟩
theorem evBin_ok (hT : TOk P T) {op : BinOp} {xT : TypeId} {p q v : V} {x y : Value} (hx : rel M ρ p x) (hy : rel M ρ q y) (h : evBin T op xT p q = some v) (ox oy : Operand) :
 ∃ z, (∀ w, (do eqGuard op xT ox oy x y; binOp op xT x y : Sem Value).run P w = .ok z w) ∧ rel M ρ v z := by
 unfold evBin at h;split at h
 ·rename_i k a k' b;simp only [rel] at hx hy;subst hx hy;have hg := fun w => eqGuard_ok (P := P) (op := op) (t := xT) (x := ox) (y := oy) (a := .int k a) (b := .int k' b) (by simp) (by simp) w;split at h
  ·obtain ⟨z, hz, hr⟩ := evShift_ok (P := P) (M := M) (ρ := ρ) (.inl rfl) h xT;exact ⟨z, fun w => by simp [hg, hz], hr⟩
  ·obtain ⟨z, hz, hr⟩ := evShift_ok (P := P) (M := M) (ρ := ρ) (.inr rfl) h xT;exact ⟨z, fun w => by simp [hg, hz], hr⟩
  ·rename_i h1 h2;split at h
   ·rename_i hk;subst hk;obtain ⟨z, hz, hr⟩ := evInt_ok (P := P) (M := M) (ρ := ρ) ⟨fun e => h1 e, fun e => h2 e⟩ h xT;exact ⟨z, fun w => by simp [hg, hz], hr⟩
   ·cases h
 ·rename_i a b;simp only [rel] at hx hy;subst hx hy;have hg := fun w => eqGuard_ok (P := P) (op := op) (t := xT) (x := ox) (y := oy) (a := .string ⟨a.toArray⟩) (b := .string ⟨b.toArray⟩) (by simp) (by simp) w;obtain ⟨z, hz, hr⟩ := evStr_ok (P := P) (M := M) (ρ := ρ) h xT;exact ⟨z, fun w => by simp [hg, hz], hr⟩
 ·have hb : ∀ {op' : BinOp} {r : Bool}, (op' = .eql ∨ op' = .neq) → evEqT T xT p q = some r → (∀ w, (Op.equal xT x y).run P w = .ok r w) ∧ (∀ w, (eqGuard op' xT ox oy x y).run P w = .ok () w) ∧ (binOp .eql xT x y = do Pure.pure (.bool (← Op.equal xT x y))) ∧ (binOp .neq xT x y = do Pure.pure (.bool (!(← Op.equal xT x y)))) := by
   intro op' r hop he;obtain ⟨e1, e2, e4, e5, e6, e7⟩ := evEqT_ok hT hx hy he;refine ⟨e1, fun w => e2 op' ox oy w, ?_, ?_⟩
   ·unfold binOp;cases x <;> first | (exfalso; exact e4 _ _ rfl) | (exfalso; exact e5 _ rfl) | (exfalso; exact e6 _ _ rfl) | (exfalso; exact e7 _ _ _ rfl) | rfl
   ·unfold binOp;cases x <;> first | (exfalso; exact e4 _ _ rfl) | (exfalso; exact e5 _ rfl) | (exfalso; exact e6 _ _ rfl) | (exfalso; exact e7 _ _ _ rfl) | rfl
  split at h
  ·cases he : evEqT T xT p q with
   | none => simp [he] at h
   | some r =>
    simp [he] at h;subst h;obtain ⟨e1, e2, e3, _⟩ := hb (.inl rfl) he;exact ⟨.bool r, fun w => by rw [e3]; simp [e1, e2], by simp [rel]⟩
  ·cases he : evEqT T xT p q with
   | none => simp [he] at h
   | some r =>
    simp [he] at h;subst h;obtain ⟨e1, e2, _, e4⟩ := hb (.inr rfl) he;exact ⟨.bool (!r), fun w => by rw [e4]; simp [e1, e2], by simp [rel]⟩
  ·cases h
theorem evBinO_ok (hT : TOk P T) {op : BinOp} {xT : TypeId} {p q v : V} {x y : Value} (ox oy : Operand) (hx : rel M ρ p x) (hy : rel M ρ q y) (h : evBinO T op xT oy p q = some v) :
 ∃ z, (∀ w, (do eqGuard op xT ox oy x y; binOp op xT x y : Sem Value).run P w = .ok z w) ∧ rel M ρ v z := by
 unfold evBinO at h;split at h
 ·rename_i c;simp only [rel] at hx hy;subst hx hy;split at h
  ·rename_i l hu;cases h;refine ⟨.bool true, fun w => ?_, by simp [rel]⟩;have := run_underlying (hT.und _ _ hu);have e : ∀ d w, (Op.equalIn (d + 1) xT .nilIface .nilIface).run P w = .ok true w := fun d w => by simp [Op.equalIn, this]
   have e2 : (Op.equal xT .nilIface .nilIface).run P w = .ok true w := e 9999 w;simp [eqGuard, binOp, e2]
  ·rename_i l hu;cases h;refine ⟨.bool false, fun w => ?_, by simp [rel]⟩;have := run_underlying (hT.und _ _ hu);have e : ∀ d w, (Op.equalIn (d + 1) xT .nilIface .nilIface).run P w = .ok true w := fun d w => by simp [Op.equalIn, this]
   have e2 : (Op.equal xT .nilIface .nilIface).run P w = .ok true w := e 9999 w;simp [eqGuard, binOp, e2]
  ·cases h
 ·exact evBin_ok hT hx hy h ox oy
end
open Go
section
variable {P : Program} {T : Tab} {M : Mem} {ρ : Ren} {w : World} {H : Heap}

theorem firstCells_ok (hS : SR T M ρ H w) {e : TypeId} {sz : Nat} {q : V} {x : Value} (hx : rel M ρ q x) {new : List V} {k : Nat} (h : appended T e sz H q = some (new, k)) :
 ∃ cs, (Builtin.firstCells sz k x).run P w = .ok cs.toArray w ∧ (Builtin.lenOf x).run P w = .ok k w ∧ relL M ρ new cs ∧ new.length = k * sz := by
 unfold appended at h;split at h
 ·rename_i n s off len cap;split at h
  ·rename_i hs;subst hs;split at h
   ·rename_i blk hb;cases hc : cut blk.cells (off * s) (len * s) with
    | none => simp [hc] at h
    | some c =>
     simp [hc] at h;obtain ⟨rfl, rfl⟩ := h;simp only [rel] at hx;obtain ⟨b, c', q, hr, rfl, _⟩ := hx;obtain ⟨b', c'', cs, cs', hr', _, _, hheap, hrel, _⟩ := hS.cells hb;rw [hr] at hr';cases hr';have hm : InMem M ρ w b (off * s) c := fun j u hj => by
      obtain ⟨y, hy, hyr⟩ := relL_get hrel (cut_get hc hj);refine ⟨y, ?_, hyr⟩;rw [cell_of_heap hheap, List.getElem?_append_left (List.getElem?_eq_some_iff.1 hy).1];exact hy
     obtain ⟨ds, hds, hcell⟩ := hm.vals;have hl := cut_length hc;exact ⟨ds, by simpa [Builtin.firstCells] using run_loadCells (P := P) b (off * s) (len * s) ds (by rw [relL_length hds, hl]) hcell, by simp [Builtin.lenOf], hds, hl⟩
   ·cases h
  ·cases h
 ·rename_i s l;split at h
  ·rename_i hc;obtain ⟨rfl, hall⟩ := hc;cases h;simp only [rel] at hx;obtain ⟨a, k, rfl, hlk, hrow⟩ := hx;by_cases hl : l = []
   ·subst hl;refine ⟨[], ?_, by simp [Builtin.lenOf], by simp [relL], by simp⟩;cases a <;> simp [Builtin.firstCells, loadCells, loadCellsFrom]
   ·obtain ⟨b, o, rfl, hr⟩ := hrow hl;have hlen : ∀ l : List V, l.all (fun v => v.cells.length = s) = true → (l.flatMap V.cells).length = l.length * s := by
     intro l;induction l with
     | nil => simp
     | cons v l ih =>
      intro h;simp only [List.all_cons, Bool.and_eq_true, decide_eq_true_eq] at h;simp only [List.flatMap_cons, List.length_append, h.1, ih h.2, List.length_cons];rw [Nat.succ_mul]; omega
    have hin : ∀ (l : List V) (o : Nat), l.all (fun v => v.cells.length = s) = true → relRow M ρ s l b o → InMem M ρ w b o (l.flatMap V.cells) := by
     intro l;induction l with
     | nil => intro o _ _ j u hj; simp at hj
     | cons v l ih =>
      intro o hall hrow j u hj;simp only [List.all_cons, Bool.and_eq_true, decide_eq_true_eq] at hall;simp only [relRow] at hrow;obtain ⟨⟨x, hx, hsz, hcell⟩, hrest⟩ := hrow;simp only [List.flatMap_cons] at hj;by_cases hlt : j < v.cells.length
      ·rw [List.getElem?_append_left hlt] at hj;obtain ⟨z, hz, hzr⟩ := relL_get (rel_cells hx) hj;exact ⟨z, frozen_cell hS (hcell j z (by simpa using hz)), hzr⟩
      ·rw [List.getElem?_append_right (by omega)] at hj;obtain ⟨z, hz, hzr⟩ := ih (o + s) hall.2 hrest (j - v.cells.length) u hj;refine ⟨z, ?_, hzr⟩;rw [← hz];congr 2;omega
    obtain ⟨ds, hds, hcell⟩ := (hin l o hall hr).vals;have hl2 := hlen l hall;exact ⟨ds, by simpa [Builtin.firstCells] using run_loadCells (P := P) b o (l.length * s) ds (by rw [relL_length hds, hl2]) hcell, by simp [Builtin.lenOf], hds, hl2⟩
  ·cases h
 ·cases h;simp only [rel] at hx;subst hx;exact ⟨[], by simp [Builtin.firstCells], by simp [Builtin.lenOf], by simp [relL], by simp⟩
 ·cases h;simp only [rel] at hx;obtain ⟨a, c, rfl⟩ := hx;exact ⟨[], by simp [Builtin.firstCells, loadCells, loadCellsFrom], by simp [Builtin.lenOf], by simp [relL], by simp⟩
 ·rename_i l;split at h
  ·rename_i hsz;cases h;subst hsz;simp only [rel] at hx;subst hx;refine ⟨l.map fun c => .int .u8 c.toNat, ?_, by simp [Builtin.lenOf, ByteArray.size], ?_, by simp⟩
   ·have : (ByteArray.mk l.toArray).extract 0 l.length = ⟨l.toArray⟩ := by rw [Lib.extract_eq]; simp
    simp [Builtin.firstCells, this]
   ·have : ∀ l : List UInt8, relL M ρ (l.map fun c => V.i .u8 c.toNat) (l.map fun c => Value.int .u8 c.toNat) := by
     intro l;induction l with
     | nil => simp [relL]
     | cons c l ih => exact relL_cons (by simp [rel]) ih
    exact this l
  ·cases h
 ·cases h
theorem nextcap_le (need cap : Nat) (h : cap < need) : Builtin.nextslicecap need cap ≤ 2 * need + 2000 := by
 unfold Builtin.nextslicecap;split
 ·omega
 ·split
  ·omega
  ·have : ∀ (n c : Nat), c ≤ need → Builtin.growBy need n c ≤ 2 * need + 2000 := by
    intro n;induction n with
    | zero => intro c hc; simp only [Builtin.growBy]; omega
    | succ n ih =>
     intro c hc;simp only [Builtin.growBy];split
     ·omega
     ·by_cases hle : c + (c + 768) / 4 ≤ need
      ·exact ih _ hle
      ·cases n with
       | zero => simp only [Builtin.growBy]; omega
       | succ n =>
        simp only [Builtin.growBy];rw [if_pos (by omega)];omega
   exact this 4 cap (by omega)
theorem run_grow (hT : TOk P T) {ty e : TypeId} {sz bs : Nat} {z : V} (hu : T.und ty = some (.slice e)) (hs : T.size e = some sz) (hb : T.bytes e = some bs) (hz : T.zero e = some z) (hzl : z.cells.length = sz) (hbs1 : bs ≤ 1000000)
 (tys : Array TypeId) (h0 : tys[0]? = some ty) {t1 : TypeId} {d1 : TypeDesc} (h1 : tys[1]? = some t1) (hd1 : P.underlying t1 = some d1) (hd2 : (∃ e', d1 = .slice e') ∨ d1 = .string) (rt : TypeId)
 {base : Option Addr} {len c k : Nat} {x : Value} {old new : List Value} (hx : (Builtin.lenOf x).run P w = .ok k w) (hgt : c < len + k) (hbs : (len + k) * bs ≤ 1099511627776) (hle : len + k ≤ 1099511627776)
 (hold : (Builtin.firstCells sz len (.slice base len c)).run P w.drew = .ok old.toArray w.drew) (hnew : (Builtin.firstCells sz k x).run P w.drew = .ok new.toArray w.drew) :
 ∃ (cap : Nat) (rest : List Value), len + k ≤ cap ∧ rest.length = (cap - (len + k)) * sz ∧
  (Builtin.append_ tys rt #[.slice base len c, x]).run P w = .ok (.slice (some ⟨w.heap.size, 0, none⟩) (len + k) cap) (w.drew.alloc (.cells (old ++ new ++ rest).toArray e)) := by
 obtain ⟨zv, hzv, hzr⟩ := hT.run_zero hz;obtain ⟨i, hi, hir⟩ := hT.run_info hb;have hzsz : zv.cells.size = sz := by
  have := relL_length (rel_cells (ofVal_rel (M := fun _ => none) (ρ := []) hzv));simp at this;omega
 have hn := nextcap_le (len + k) c hgt;have hcap : ¬ Builtin.nextslicecap (len + k) c * i.bytes > 2 ^ 48 := by
  rw [hi];have : Builtin.nextslicecap (len + k) c * bs ≤ (2 * (len + k) + 2000) * bs := Nat.mul_le_mul_right _ hn;have h2 : (2 * (len + k) + 2000) * bs = 2 * ((len + k) * bs) + 2000 * bs := by rw [Nat.add_mul, Nat.mul_assoc]
  omega
 have hnc : ¬ len + k ≤ c := by omega
 have hmax : ¬ (((len + k : Nat) : Int) > IntKind.i64.max) := by
  rw [show IntKind.i64.max = 9223372036854775807 from rfl]; omega
 let cap := (Question.appendCap (len + k) c e).cut (w.tape w.drawn (.appendCap (len + k) c e));have hc1 : len + k ≤ cap := by show len + k ≤ len + k + _; omega
 refine ⟨cap, (Builtin.zeroCells zv.cells (cap - (len + k))).toList, hc1, by simp [Builtin.zeroCells, hzsz], ?_⟩;have hroom : ∀ n w, (askRoom n).run P w = .ok () w := by
  intro n w;unfold askRoom;split <;> simp [mark, Sem.run]
 have hch : (choose (.appendCap (len + k) c e)).run P w = .ok cap w.drew := by simp [choose, Sem.run, Question.forced]; rfl
 have hi0 : ¬ (((len + k : Nat) : Int) > IntKind.i64.max ∧ (False ∨ i.bytes = 0)) := fun h => hmax h.1;obtain ⟨a1, _, _⟩ : (newRow e (old ++ new ++ (Builtin.zeroCells zv.cells (cap - (len + k))).toList).toArray).run P w.drew = .ok ⟨w.heap.size, 0, none⟩ (w.drew.alloc (.cells (old ++ new ++ (Builtin.zeroCells zv.cells (cap - (len + k))).toList).toArray e)) ∧ True ∧ True := ⟨by simp [newRow, newObj, Sem.run]; rfl, trivial, trivial⟩;have hsum : old.toArray ++ new.toArray ++ Builtin.zeroCells zv.cells (cap - (len + k)) = (old ++ new ++ (Builtin.zeroCells zv.cells (cap - (len + k))).toList).toArray := by simp
 rcases hd2 with ⟨e', rfl⟩ | rfl <;>
  simp only [Builtin.append_, h0, h1, List.getElem?_toArray, List.getElem?_cons_zero, List.getElem?_cons_succ, Sem.run_bind, hT.run_und hu, Result.andThen_ok, hT.run_size hs, run_underlying hd1, Sem.run_pure, hx, Bool.false_eq_true, if_false, if_neg hnc, hir, if_neg hi0, if_neg hcap, hch, hroom, hold, Bool.not_false, if_true, hnew, hzr, hsum, a1]
theorem run_within (hT : TOk P T) {ty e : TypeId} {sz : Nat} (hu : T.und ty = some (.slice e)) (hs : T.size e = some sz)
 (tys : Array TypeId) (h0 : tys[0]? = some ty) {t1 : TypeId} {d1 : TypeDesc} (h1 : tys[1]? = some t1) (hd1 : P.underlying t1 = some d1) (hd2 : (∃ e', d1 = .slice e') ∨ d1 = .string) (rt : TypeId)
 {base : Option Addr} {len c k : Nat} {x : Value} {new : List Value} (hx : (Builtin.lenOf x).run P w = .ok k w) (hle : len + k ≤ c)
 (hnew : (Builtin.firstCells sz k x).run P w = .ok new.toArray w) {w' : World} (hst : ∀ a, base = some a → (storeCells (a.add (len * sz)) new).run P w = .ok () w') (hn : base = none → w' = w) :
 (Builtin.append_ tys rt #[.slice base len c, x]).run P w = .ok (.slice base (len + k) c) w' := by
 rcases hd2 with ⟨e', rfl⟩ | rfl;all_goals
  simp only [Builtin.append_, h0, h1, List.getElem?_toArray, List.getElem?_cons_zero, List.getElem?_cons_succ, Sem.run_bind, hT.run_und hu, Result.andThen_ok, hT.run_size hs, run_underlying hd1, Sem.run_pure, hx, Bool.false_eq_true, if_false, if_pos hle, Bool.not_false, if_true, hnew];cases base with
  | none => simp [hn rfl]
  | some a => simp [hst a rfl]
theorem SR.kill (hS : SR T M ρ H w) (n : Nat) : SR T M ρ (H.set n none) w := by
 have hget : ∀ {m : Nat} {z : Blk}, (H.set n none)[m]? = some (some z) → H[m]? = some (some z) := by
  intro m z hm;by_cases e : m = n
  ·subst e;rw [List.getElem?_set] at hm;split at hm
   ·split at hm
    ·cases hm
    ·cases hm
   ·rename_i h; exact absurd rfl h
  ·rw [List.getElem?_set_ne (fun h => e h.symm)] at hm;exact hm
 exact ⟨hS.frozen, by simp [hS.len], fun m z hm => hS.blk m z (hget hm), fun m k x y b c c' hm hk => hS.inj m k x y b c c' (hget hm) (hget hk), hS.glob, hS.gint⟩
theorem SR.rename (hS : SR T M ρ H w) {n : Nat} {blk : Blk} (hb : H[n]? = some (some blk)) {b c : Nat} (hr : ρ[n]? = some (b, c)) : SR T M (ρ ++ [(b, c)]) (H.set n none ++ [some blk]) w := by
 have hpre : ρ <+: ρ ++ [(b, c)] := List.prefix_append _ _;obtain ⟨b', c', hr', hMb, hlt, hok⟩ := hS.blk n blk hb;rw [hr] at hr';cases hr';have hK := hS.kill n;have hget : ∀ {m : Nat} {z : Blk}, (H.set n none ++ [some blk])[m]? = some (some z) → ((H.set n none)[m]? = some (some z) ∧ m < H.length) ∨ (m = H.length ∧ z = blk) := by
  intro m z hm;rcases Nat.lt_trichotomy m H.length with hlt | heq | hgt
  ·rw [List.getElem?_append_left (by simpa using hlt)] at hm; exact .inl ⟨hm, hlt⟩
  ·subst heq;rw [List.getElem?_append_right (by simp)] at hm;simp at hm;exact .inr ⟨rfl, hm.symm⟩
  ·rw [List.getElem?_eq_none (by simp; omega)] at hm; cases hm
 have hne : ∀ {m : Nat} {z : Blk}, (H.set n none)[m]? = some (some z) → m ≠ n ∧ H[m]? = some (some z) := by
  intro m z hm;by_cases e : m = n
  ·subst e;have hlt := (List.getElem?_eq_some_iff.1 hb).1;rw [List.getElem?_set_self hlt] at hm;cases hm
  ·rw [List.getElem?_set_ne (fun h => e h.symm)] at hm;exact ⟨e, hm⟩
 refine ⟨hS.frozen, by simp [hS.len], ?_, ?_, ?_, hS.gint⟩
 ·intro m z hm;rcases hget hm with ⟨hm, _⟩ | ⟨rfl, rfl⟩
  ·obtain ⟨b2, c2, h1, h2, h3, h4⟩ := hK.blk m z hm;exact ⟨b2, c2, pre_get hpre h1, h2, h3, h4.mono (Mem.le.refl _) hpre⟩
  ·exact ⟨b, c, by rw [← hS.len]; simp, hMb, hlt, hok.mono (Mem.le.refl _) hpre⟩
 ·intro m k x y b2 c2 c3 hm hk h2 h3;have hold : ∀ {j : Nat} {q : Nat}, j < H.length → (ρ ++ [(b, c)])[j]? = some (b2, q) → ρ[j]? = some (b2, q) := by
   intro j q hj hq;rw [List.getElem?_append_left (by rw [hS.len]; exact hj)] at hq;exact hq
  have hend : ∀ {q : Nat}, (ρ ++ [(b, c)])[H.length]? = some (b2, q) → b2 = b := by
   intro q hq;rw [← hS.len] at hq;simp at hq;exact hq.1.symm
  rcases hget hm with ⟨hm', hml⟩ | ⟨em, zm⟩ <;> rcases hget hk with ⟨hk', hkl⟩ | ⟨ek, zk⟩
  ·exact hK.inj m k x y b2 c2 c3 hm' hk' (hold hml h2) (hold hkl h3)
  ·obtain ⟨g1, g2⟩ := hne hm';subst ek;have := hend h3;subst this;exact absurd (hS.inj m n x blk b2 c2 c g2 hb (hold hml h2) hr) g1
  ·obtain ⟨g1, g2⟩ := hne hk';subst em;have := hend h2;subst this;exact absurd (hS.inj k n y blk b2 c3 c g2 hb (hold hkl h3) hr) g1
  ·rw [em, ek]
 ·intro g l hg;obtain ⟨ds, ty', fr, hMg, hrel⟩ := hS.glob g l hg;exact ⟨ds, ty', fr, hMg, relL_mono (Mem.le.refl _) hpre _ _ hrel⟩
theorem Ext.rename {b c : Nat} (h : ∃ c', (b, c') ∈ ρ) : Ext M ρ w M (ρ ++ [(b, c)]) w :=
 ⟨rfl, rfl, rfl, Nat.le_refl _, Mem.le.refl _, List.prefix_append _ _, fun _ _ _ => rfl, fun _ _ _ => rfl, fun b' c' h' => by
 simp only [List.mem_append, List.mem_singleton, Prod.mk.injEq] at h';rcases h' with h' | ⟨rfl, _⟩
 ·exact .inl ⟨c', h'⟩
 ·exact .inl h⟩
theorem SR.extend (hS : SR T M ρ H w) {n : Nat} {blk : Blk} (hb : cellsAt H n = some blk) {l : List V} {xs : List Value} (hl : relL M ρ l xs) {b c : Nat} (hr : ρ[n]? = some (b, c)) (hfit : blk.cells.length + l.length ≤ c) (hf : l.all flat = true) :
 ∃ w', (storeCells ⟨b, blk.cells.length, none⟩ xs).run P w = .ok () w' ∧ Ext M ρ w M ρ w' ∧ SR T M ρ (H.set n (some { blk with cells := blk.cells ++ l, kind := .more })) w' := by
 obtain ⟨hb0, hkind⟩ := cellsAt_some hb;obtain ⟨b', c', cs, cs', hr', hMb, hc, hheap, hrel, hall⟩ := hS.cells hb;rw [hr] at hr';cases hr';have hxl := relL_length hl;have hcl := relL_length hrel;obtain ⟨h1, h2⟩ := run_storeCells (P := P) xs blk.cells.length 0 w (cs ++ cs') hheap (by omega) (all_flat hl hf);simp only [Nat.add_zero] at h1 h2;obtain ⟨s1, s2, s3, s4⟩ := putCells_size (b := b) xs blk.cells.length w;refine ⟨_, h1, ⟨s2, s3, s4, by omega, Mem.le.refl _, List.prefix_refl _, fun k hk hn => putCells_ne (fun e => hn c (by rw [e]; exact List.mem_of_getElem? hr)) _ _ _, fun _ _ _ => rfl, fun _ q hq => .inl ⟨q, hq⟩⟩, ?_⟩;refine hS.upd hb0 hr (fun k hk => putCells_ne hk _ _ _) s1 (BlkOK.of_cells (by simp) ⟨cs ++ xs, cs'.drop xs.length, ?_, ?_, relL_append hrel hl, fun e => by cases e⟩)
 ·simp only [List.length_append, List.length_drop] at hc ⊢;omega
 ·rw [h2];have e1 : (cs ++ cs').take blk.cells.length = cs := by rw [← hcl]; simp
  have e2 : (cs ++ cs').drop (blk.cells.length + xs.length) = cs'.drop xs.length := by rw [← hcl]; simp [List.drop_append]
  rw [e1, e2]
end
open Go
section
variable {P : Program} {T : Tab} {M : Mem} {ρ : Ren} {w : World} {H : Heap}

theorem firstCells_named (hS : SR T M ρ H w) {n sz off len : Nat} {cap : Option Nat} {x : Value} (hx : rel M ρ (.sl n sz off len cap) x) {blk : Blk} (hb : cellsAt H n = some blk) {old : List V} (hc : cut blk.cells (off * sz) (len * sz) = some old) :
 ∃ cs, (Builtin.firstCells sz len x).run P w = .ok cs.toArray w ∧ relL M ρ old cs := by
 obtain ⟨cs, h1, _, h2, _⟩ := firstCells_ok (P := P) (T := T) hS (e := 0) (sz := sz) hx (new := old) (k := len) (by simp [appended, hb, hc]);exact ⟨cs, h1, h2⟩
theorem evAppend_ok (hT : TOk P T) (hS : SR T M ρ H w) {ty : TypeId} {s q v : V} {H' : Heap} {x y : Value} (hx : rel M ρ s x) (hy : rel M ρ q y) (h : evAppend T ty s q H = .val v H')
 (tys : Array TypeId) (h0 : tys[0]? = some ty) {t1 : TypeId} {d1 : TypeDesc} (h1 : tys[1]? = some t1) (hd1 : P.underlying t1 = some d1) (hd2 : (∃ e', d1 = .slice e') ∨ d1 = .string) (rt : TypeId) :
 OpOK P T (Builtin.append_ tys rt #[x, y]) M ρ w v H' := by
 unfold evAppend at h;simp only [newB_eq, setB_eq, setK_eq] at h;split at h;case h_2 => cases h
 rename_i e hu;split at h;case h_2 => cases h
 rename_i sz bs z hs hb hz;split at h;case h_2 => cases h
 rename_i new k hap;split at h;case isFalse => cases h
 rename_i hc;obtain ⟨hpos, hzl, hbs1, hnf⟩ := hc;obtain ⟨cs, f1, f2, f3, f4⟩ := firstCells_ok (P := P) hS hy hap;have hSd : SR T M ρ H w.drew := hS.drew;obtain ⟨csd, g1, _, g3, _⟩ := firstCells_ok (P := P) hSd hy hap;split at h
 ·simp only [rel] at hx;subst hx;split at h
  ·rename_i hk;cases h;subst hk;have hnil : cs = [] := by
    have := relL_length f3;rw [f4] at this;exact List.eq_nil_of_length_eq_zero (by simpa using this)
   subst hnil;have hr := run_within hT hu hs tys h0 h1 hd1 hd2 rt (base := none) (len := 0) (c := 0) f2 (Nat.le_refl _) f1 (w' := w) (fun a ha => by cases ha) (fun _ => rfl);exact OpOK.pure hS hr (by simp [rel])
  ·split at h
   ·rename_i hk hbd;cases h;obtain ⟨cap, rest, c1, c2, c3⟩ := run_grow (w := w) hT hu hs hb hz hzl hbs1 tys h0 h1 hd1 hd2 rt (base := none) (len := 0) (c := 0) (old := []) f2 (by omega) (by simpa using hbd.1) (by simpa using hbd.2) (by simp [Builtin.firstCells]) g1;have ha := hSd.alloc hSd.lt e .more (cs := csd) (cs' := rest) g3 (.inl rfl);have hcl := relL_length g3;simp only [List.nil_append, Nat.zero_add] at c3 c1 c2;refine ⟨_, _, _, c3, (Ext.drew M ρ w).trans (Ext.alloc M ρ w.drew _ (csd ++ rest).length), ?_, ha⟩;simp only [rel];refine ⟨w.heap.size, (csd ++ rest).length, cap, by rw [← hS.len, List.getElem?_concat_length]; rfl, by simp, c1, fun q hq => (by cases hq), fun _ => ?_⟩;rw [List.length_append, hcl, f4, c2, Nat.zero_add, ← Nat.add_mul];congr 1;omega
   ·cases h
 ·rename_i n z' off len cap;split at h;case isFalse => cases h
  rename_i hbd;obtain ⟨rfl, hb1, hb2⟩ := hbd;split at h;case h_2 => cases h
  rename_i blk hblk;split at h;case h_2 => cases h
  rename_i old hold;obtain ⟨os, o1, o2⟩ := firstCells_named (P := P) hSd hx hblk hold;have hx0 := hx;simp only [rel] at hx;obtain ⟨b, c, q, hr, rfl, hlq, hcap, hfull⟩ := hx;have hol := relL_length o2;have hol2 := cut_length hold;split at h
  ·rename_i hk;cases h;subst hk;have hnil : cs = [] := by
    have := relL_length f3;rw [f4] at this;exact List.eq_nil_of_length_eq_zero (by simpa using this)
   subst hnil;have hrun := run_within (w' := w) hT hu hs tys h0 h1 hd1 hd2 rt (base := some ⟨b, off * z', none⟩) (len := len) (c := q) f2 (by omega) f1 (fun a ha => by simp [storeCells]) (fun ha => by cases ha);exact OpOK.pure hS hrun hx0
  ·rename_i hk;split at h
   ·rename_i cc;have hqc := hcap cc rfl;subst hqc;split at h
    ·rename_i hle;split at h
     ·rename_i hfit;cases h;have hfit' : (off + len) * z' + new.length ≤ blk.cells.length := by rw [f4, ← Nat.add_mul]; exact hfit
      obtain ⟨w', s1, s2, s3⟩ := hS.splice (P := P) hblk f3 hfit' hnf hr;have hrun := run_within (w' := w') hT hu hs tys h0 h1 hd1 hd2 rt (base := some ⟨b, off * z', none⟩) (len := len) (c := q) f2 hle f1 (fun a ha => by cases ha; rw [add_none, ← Nat.add_mul]; exact s1) (fun ha => by cases ha);refine ⟨_, w', ρ, hrun, s2, ?_, s3⟩;simp only [rel];exact ⟨b, c, q, hr, rfl, hle, hcap, hfull⟩
     ·cases h
    ·rename_i hle;cases h;obtain ⟨cap, rest, c1, c2, c3⟩ := run_grow (w := w) hT hu hs hb hz hzl hbs1 tys h0 h1 hd1 hd2 rt f2 (by omega) hb1 hb2 o1 g1;have ha := hSd.alloc hSd.lt e .more (cs := os ++ csd) (cs' := rest) (relL_append o2 g3) (.inl rfl);have hcl := relL_length g3;refine ⟨_, _, _, c3, (Ext.drew M ρ w).trans (Ext.alloc M ρ w.drew _ (os ++ csd ++ rest).length), ?_, ha⟩;simp only [rel];refine ⟨w.heap.size, (os ++ csd ++ rest).length, cap, by rw [← hS.len, List.getElem?_concat_length]; rfl, by simp, c1, fun q hq => (by cases hq), fun _ => ?_⟩;rw [List.length_append, List.length_append, hcl, hol, hol2, f4, c2, Nat.zero_add, ← Nat.add_mul, ← Nat.add_mul];congr 1;omega
   ·split at h
    ·rename_i hcond;obtain ⟨rfl, hwhole, hty⟩ := hcond;cases h;have hfq := hfull rfl;have hcold : old = blk.cells := by
      obtain ⟨rfl, _⟩ := cut_some hold;rw [hwhole];simp
     by_cases hle : len + k ≤ q
     ·obtain ⟨w', s1, s2, s3⟩ := hS.extend (P := P) hblk f3 hr (by rw [← hwhole, f4, ← Nat.add_mul, ← hfq, Nat.zero_add]; exact Nat.mul_le_mul_right _ hle) hnf;have hrun := run_within (w' := w') hT hu hs tys h0 h1 hd1 hd2 rt (base := some ⟨b, 0 * z', none⟩) (len := len) (c := q) f2 hle f1 (fun a ha => by cases ha; rw [add_none, hwhole, Nat.zero_mul, Nat.zero_add]; exact s1) (fun ha => by cases ha);have hlt : n < H.length := (List.getElem?_eq_some_iff.1 (cellsAt_some hblk).1).1;have s4 := s3.rename (n := n) (blk := { blk with cells := blk.cells ++ new, kind := .more }) (by rw [List.getElem?_set_self hlt]) hr;rw [List.set_set] at s4;refine ⟨_, w', ρ ++ [(b, c)], hrun, s2.trans (Ext.rename (b := b) (c := c) ⟨c, List.mem_of_getElem? hr⟩), ?_, ?_⟩
      ·simp only [rel];exact ⟨b, c, q, by rw [← hS.len]; simp, rfl, hle, fun x hx => (by cases hx), fun _ => hfq⟩
      ·rw [hcold, ← hty];exact s4
     ·obtain ⟨cap, rest, c1, c2, c3⟩ := run_grow (w := w) hT hu hs hb hz hzl hbs1 tys h0 h1 hd1 hd2 rt f2 (by omega) hb1 hb2 o1 g1;have hSk := hSd.kill n;have ha := hSk.alloc hSk.lt e .more (cs := os ++ csd) (cs' := rest) (relL_append o2 g3) (.inl rfl);have hcl := relL_length g3;refine ⟨_, _, _, c3, (Ext.drew M ρ w).trans (Ext.alloc M ρ w.drew _ (os ++ csd ++ rest).length), ?_, ha⟩;simp only [rel];refine ⟨w.heap.size, (os ++ csd ++ rest).length, cap, by rw [← hS.len, List.getElem?_concat_length]; rfl, by simp, c1, fun q hq => (by cases hq), fun _ => ?_⟩;rw [List.length_append, List.length_append, hcl, hol, hol2, f4, c2, Nat.zero_add, ← Nat.add_mul, ← Nat.add_mul];congr 1;omega
    ·cases h
 ·cases h
end
open Go
section
variable {P : Program} {T : Tab} {M : Mem} {ρ : Ren} {w : World} {H : Heap}

theorem mapAt_some {n : Nat} {blk : Blk} (h : mapAt H n = some blk) : H[n]? = some (some blk) ∧ blk.kind = .map := by
 unfold mapAt at h;split at h
 ·rename_i b hb;split at h
  ·rename_i hk; cases h; exact ⟨hb, hk.1⟩
  ·cases h
 ·cases h
theorem mapAt_frz {n : Nat} {blk : Blk} (h : mapAt H n = some blk) : (frzC blk.cells).isNone = true := by
 unfold mapAt at h;split at h
 ·rename_i b hb;split at h
  ·rename_i hk; cases h; exact hk.2
  ·cases h
 ·cases h
theorem mapSet_frz {d : Option TypeDesc} {k v : V} (hk : goodKey d k = true) : ∀ {l r : List V}, (frzC l).isNone = true → mapSet d k v l = some r → (frzC r).isNone = true := by
 have hkk : ∀ r, (frzC (k :: r)).isNone = true := fun r => by
  unfold goodKey at hk;split at hk <;> first | rfl | cases hk
 intro l r h0 h;unfold mapSet at h;split at h
 ·rename_i k' v' l';split at h
  ·cases h; exact hkk _
  ·split at h
   ·cases h;unfold frzC at h0 ⊢;cases k' with
    | tup q => cases q <;> first | exact h0 | rfl
    | _ => rfl
   ·cases h
  ·cases h
 ·cases h
 ·cases h; exact hkk _
theorem SR.map (hS : SR T M ρ H w) {n : Nat} {blk : Blk} (hb : mapAt H n = some blk) : ∃ b c, ∃ (es : List MapEntry) (clock : Nat), ρ[n]? = some (b, c) ∧ M b = none ∧ w.heap[b]? = some (.map es.toArray clock) ∧ relM M ρ blk.cells es ∧ StampOK es clock := by
 obtain ⟨h1, h2⟩ := mapAt_some hb;obtain ⟨b, c, hr, hM, _, hok⟩ := hS.blk n blk h1;unfold BlkOK at hok;rw [h2] at hok;rcases hok with ⟨es, clock, h3, h4, _, h5⟩ | ⟨l, cs, cs', fr, h3, _⟩
 ·exact ⟨b, c, es, clock, hr, hM, h3, h4, h5⟩
 ·have := mapAt_frz hb;rw [h3] at this;cases this
theorem goodKey_check {kt : TypeId} {k : V} {x : Value} {d : TypeDesc} (hd : P.underlying kt = some d) (hx : rel M ρ k x) (h : goodKey (some d) k = true) (e : Bool) (w : World) : (Instr.checkKey e 10000 kt x).run P w = .ok () w := by
 have key : ∀ n, (Instr.checkKey e (n + 1) kt x).run P w = .ok () w := by
  intro n;unfold goodKey at h;split at h
  ·rename_i heq; cases heq;simp only [rel] at hx; subst hx;simp [Instr.checkKey, run_underlying hd]
  ·rename_i heq; cases heq;simp only [rel] at hx; subst hx;simp [Instr.checkKey, run_underlying hd]
  ·rename_i heq; cases heq;simp only [rel] at hx; subst hx;simp [Instr.checkKey, run_underlying hd]
  ·cases h
 exact key 9999
theorem bytes_eq (a b : List UInt8) : ((⟨a.toArray⟩ : ByteArray) == ⟨b.toArray⟩) = (a == b) := by
 show (a.toArray == b.toArray) = (a == b);simp
theorem sameKey_ok {d : TypeDesc} {k k' : V} {x y : Value} {r : Bool} (hx : rel M ρ k x) (hy : rel M ρ k' y) (h : sameKey (some d) k k' = some r) : Instr.sameNow d x y = some r ∧ (r = true → ∀ n, Instr.sameBits n y x = true) := by
 simp only [sameKey, eqU_eq] at h;split at h
 ·rename_i heq; cases heq; cases h;simp only [rel] at hx hy; subst hx hy;refine ⟨by simp [Instr.sameNow, bytes_eq], fun he n => ?_⟩;simp at he;subst he;cases n <;> simp [Instr.sameBits, bytes_eq]
 ·rename_i heq; cases heq;split at h
  ·rename_i hk;cases h;subst hk;simp only [rel] at hx hy; subst hx hy;refine ⟨by simp [Instr.sameNow], fun he n => ?_⟩;simp at he;subst he;cases n <;> simp [Instr.sameBits]
  ·cases h
 ·rename_i heq; cases heq; cases h;simp only [rel] at hx hy; subst hx hy;refine ⟨by simp [Instr.sameNow], fun he n => ?_⟩;simp at he;subst he;cases n <;> simp [Instr.sameBits]
 ·cases h
theorem mapGet_ok {d : TypeDesc} {k : V} {x : Value} (hx : rel M ρ k x) : ∀ {l : List V} {es : List MapEntry} {i : Nat} {r : Option V}, relM M ρ l es → mapGet (some d) k l = some r →
    match r with
    | some v => ∃ j y, Instr.findNow d x es i = some (some (j, y)) ∧ rel M ρ v y
    | none => Instr.findNow d x es i = some none
  | k' :: v' :: l, es, i, r, hm, h => by
    simp only [relM] at hm
    obtain ⟨e, q, rfl, hk, hv, hr⟩ := hm
    simp only [mapGet] at h
    split at h
    · rename_i hs
      cases h
      obtain ⟨h1, _⟩ := sameKey_ok hx hk hs
      exact ⟨i, e.val, by simp [Instr.findNow, h1], hv⟩
    · rename_i hs
      obtain ⟨h1, _⟩ := sameKey_ok hx hk hs
      have ih := mapGet_ok hx (i := i + 1) hr h
      cases r with
      | none => simp only at ih ⊢; simp [Instr.findNow, h1, ih]
      | some v =>
        simp only at ih ⊢
        obtain ⟨j, y, h2, h3⟩ := ih
        exact ⟨j, y, by simp [Instr.findNow, h1, h2], h3⟩
    · cases h
  | [_], _, _, _, _, h => by simp [mapGet] at h
  | [], es, i, r, hm, h => by
    simp only [relM] at hm
    subst hm
    simp only [mapGet, Option.some.injEq] at h
    subst h
    simp [Instr.findNow]

theorem mapSet_ok {d : TypeDesc} {k v : V} {x y : Value} (hx : rel M ρ k x) (hy : rel M ρ v y) : ∀ {l : List V} {es : List MapEntry} (i : Nat) {r : List V}, relM M ρ l es → mapSet (some d) k v l = some r →
    (∃ j z, ∃ e0 : MapEntry, Instr.findNow d x es i = some (some (i + j, z)) ∧ es[j]? = some e0 ∧ (∀ n, Instr.sameBits n e0.key x = true) ∧ relM M ρ r (es.modify j fun e => { e with key := x, val := y })) ∨
      (Instr.findNow d x es i = some none ∧ ∀ b, relM M ρ r (es ++ [{ key := x, val := y, born := b }]))
  | k' :: v' :: l, es, i, r, hm, h => by
    simp only [relM] at hm
    obtain ⟨e, q, rfl, hk, hv, hr⟩ := hm
    simp only [mapSet] at h
    split at h
    · rename_i hs
      cases h
      obtain ⟨h1, h2⟩ := sameKey_ok hx hk hs
      refine .inl ⟨0, e.val, e, by simp [Instr.findNow, h1], rfl, h2 rfl, ?_⟩
      simp only [List.modify_zero_cons, relM]
      exact ⟨_, q, rfl, hx, hy, hr⟩
    · rename_i hs
      obtain ⟨h1, _⟩ := sameKey_ok hx hk hs
      split at h
      · rename_i r' hr'
        cases h
        rcases mapSet_ok hx hy (i + 1) hr hr' with ⟨j, z, e0, h2, h3, h4, h5⟩ | ⟨h2, h3⟩
        · refine .inl ⟨j + 1, z, e0, ?_, by simpa using h3, h4, ?_⟩
          · simp only [Instr.findNow, h1, h2]
            congr 3
            omega
          · simp only [List.modify_succ_cons, relM]
            exact ⟨e, _, rfl, hk, hv, h5⟩
        · refine .inr ⟨by simp [Instr.findNow, h1, h2], fun b => ?_⟩
          simp only [List.cons_append, relM]
          exact ⟨e, _, rfl, hk, hv, h3 b⟩
      · cases h
    · cases h
  | [_], _, _, _, _, h => by simp [mapSet] at h
  | [], es, i, r, hm, h => by
    simp only [relM] at hm
    subst hm
    simp only [mapSet, Option.some.injEq] at h
    subst h
    refine .inr ⟨by simp [Instr.findNow], fun b => ?_⟩
    simp only [List.nil_append, relM]
    exact ⟨_, [], rfl, hx, hy, rfl⟩

theorem heap_put_other (w : World) (b : Nat) (o : Obj) (k : Nat) (h : k ≠ b) : ({ w with heap := w.heap.setIfInBounds b o } : World).heap[k]? = w.heap[k]? := by
 show (w.heap.setIfInBounds b o)[k]? = _;rw [Array.getElem?_setIfInBounds, if_neg (fun e => h e.symm)]
theorem heap_put_same (w : World) (b : Nat) (o : Obj) (h : b < w.heap.size) : ({ w with heap := w.heap.setIfInBounds b o } : World).heap[b]? = some o := by
 show (w.heap.setIfInBounds b o)[b]? = _;simp [h]
theorem stamp_mod {es : List MapEntry} {clock : Nat} (h : StampOK es clock) (j : Nat) (x y : Value) : StampOK (es.modify j fun e => { e with key := x, val := y }) clock := by
 have e : (es.modify j fun e => { e with key := x, val := y }).map (·.born) = es.map (·.born) := by
  apply List.ext_getElem?;intro i;simp only [List.getElem?_map, List.getElem?_modify];cases es[i]? with
  | none => rfl
  | some e => by_cases hj : j = i <;> simp [hj]
 refine ⟨fun e' he' => ?_, by rw [e]; exact h.2⟩;have : e'.born ∈ es.map (·.born) := by rw [← e]; exact List.mem_map_of_mem he'
 obtain ⟨e0, h1, h2⟩ := List.mem_map.1 this;rw [← h2]; exact h.1 e0 h1
theorem stamp_push {es : List MapEntry} {clock : Nat} (h : StampOK es clock) (x y : Value) : StampOK (es ++ [{ key := x, val := y, born := clock }]) (clock + 1) := by
 refine ⟨fun e he => ?_, ?_⟩
 ·rcases List.mem_append.1 he with he | he
  ·have := h.1 e he; omega
  ·simp at he; subst he; show clock < clock + 1; omega
 ·rw [List.map_append, List.nodup_append];refine ⟨h.2, by simp, fun a ha b hb => ?_⟩;obtain ⟨e0, h1, rfl⟩ := List.mem_map.1 ha;simp at hb;subst hb;have := h.1 e0 h1;omega
theorem evMapSet_ok (hT : TOk P T) (hS : SR T M ρ H w) {ty : TypeId} {m k v u : V} {H' : Heap} {xm x y : Value} (hm : rel M ρ m xm) (hx : rel M ρ k x) (hy : rel M ρ v y) (h : evMapSet T ty m k v H = .val u H') :
 u = .un ∧ ∃ w', (Instr.mapUpdate ty xm x y).run P w = .ok () w' ∧ Ext M ρ w M ρ w' ∧ SR T M ρ H' w' := by
 unfold evMapSet at h;simp only [setB_eq] at h;split at h;case h_2 => cases h
 rename_i kt et n hu;split at h;case h_2 => cases h
 rename_i blk hblk;split at h;case isFalse => cases h
 rename_i hgood;split at h;case h_2 => cases h
 rename_i l hl;cases h;refine ⟨rfl, ?_⟩;obtain ⟨b, c, es, clock, hr, hMb, hheap, hrel, hst⟩ := hS.map hblk;simp only [rel] at hm;obtain ⟨b', c', hr', rfl⟩ := hm;rw [hr] at hr';cases hr';have hlt : b < w.heap.size := (Array.getElem?_eq_some_iff.1 hheap).1;cases hd : T.und kt with
 | none => simp [hd, goodKey] at hgood
 | some d =>
  rw [hd] at hgood hl;have hdP := hT.und _ _ hd;have hck := fun e w => goodKey_check (P := P) hdP hx hgood e w;have hget : (getObj b).run P w = .ok (.map es.toArray clock) w := by simp [getObj, Sem.run, hheap]
  have hset : ∀ o, (setObj b o).run P w = .ok () { w with heap := w.heap.setIfInBounds b o } := fun o => by simp [setObj, Sem.run, hheap]
  have hblk0 := (mapAt_some hblk).1;have hstate : ∀ (es' : List MapEntry) (clock' : Nat), relM M ρ l es' → StampOK es' clock' → Ext M ρ w M ρ { w with heap := w.heap.setIfInBounds b (.map es'.toArray clock') } ∧ SR T M ρ (H.set n (some { blk with cells := l })) { w with heap := w.heap.setIfInBounds b (.map es'.toArray clock') } := by
   intro es' clock' hl' hst';refine ⟨⟨rfl, rfl, rfl, by simp, Mem.le.refl _, List.prefix_refl _, fun k _ hn => heap_put_other w b _ k (fun e => hn c (by rw [e]; exact List.mem_of_getElem? hr)), fun _ _ _ => rfl, fun _ q hq => .inl ⟨q, hq⟩⟩, ?_⟩;refine hS.upd hblk0 hr (fun k hk => heap_put_other w b _ k hk) (by simp) ?_;rw [heap_put_same w b _ hlt];unfold BlkOK;simp only [(mapAt_some hblk).2];exact .inl ⟨es', clock', rfl, hl', mapSet_frz hgood (mapAt_frz hblk) hl, hst'⟩
  rcases mapSet_ok hx hy 0 hrel hl with ⟨j, z, e0, h1, h2, h3, h4⟩ | ⟨h1, h2⟩
  ·obtain ⟨s1, s2⟩ := hstate _ clock h4 (stamp_mod hst j x y);refine ⟨_, ?_, s1, s2⟩;have hf : (Instr.findKey kt x es).run P w = .ok (some (0 + j, z)) w := by simp [Instr.findKey, run_underlying hdP, h1]
   have hk : (Instr.keyThatStays (((es.toArray[0 + j]?).map (·.key)).getD x) x).run P w = .ok x w := by
    have : es.toArray[0 + j]? = some e0 := by simpa using h2
    rw [this];simp [Instr.keyThatStays, h3 10000]
   have hmod : es.toArray.modify (0 + j) (fun e => { e with key := x, val := y }) = (es.modify j fun e => { e with key := x, val := y }).toArray := by simp
   simp only [Instr.mapUpdate, Sem.run_bind, hT.run_und hu, Result.andThen_ok, hget, hck, hf, hk, hmod, hset]
  ·obtain ⟨s1, s2⟩ := hstate _ (clock + 1) (h2 clock) (stamp_push hst x y);refine ⟨_, ?_, s1, s2⟩;have hf : (Instr.findKey kt x es).run P w = .ok none w := by simp [Instr.findKey, run_underlying hdP, h1]
   have hpush : es.toArray.push ({ key := x, val := y, born := clock } : MapEntry) = (es ++ [({ key := x, val := y, born := clock } : MapEntry)]).toArray := by simp
   simp only [Instr.mapUpdate, Sem.run_bind, hT.run_und hu, Result.andThen_ok, hget, hck, hf, hpush, hset]
theorem evLookup_ok (hT : TOk P T) (hS : SR T M ρ H w) {ty : TypeId} {m k v : V} {ok : Bool} {xm x : Value} (hm : rel M ρ m xm) (hx : rel M ρ k x) (h : evLookup T ty m k ok H = some v) :
 ∃ y, (Instr.lookup ty xm x ok).run P w = .ok y w ∧ rel M ρ v y := by
 unfold evLookup at h;split at h;case h_2 => cases h
 rename_i kt et n hu;split at h;case h_2 => cases h
 rename_i blk hblk;split at h;case isFalse => cases h
 rename_i hgood;obtain ⟨b, c, es, clock, hr, hMb, hheap, hrel, hst⟩ := hS.map hblk;simp only [rel] at hm;obtain ⟨b', c', hr', rfl⟩ := hm;rw [hr] at hr';cases hr';have htup : ∀ {u : V} {y : Value} (q : Bool), rel M ρ u y → rel M ρ (if ok then .tup [u, .b q] else u) (if ok then .tuple #[y, .bool q] else y) := by
  intro u y q hy;cases ok with
  | false => exact hy
  | true =>
   simp only [if_true, rel];exact ⟨[y, .bool q], rfl, relL_cons hy (relL_cons (by simp [rel]) relL_nil)⟩
 cases hd : T.und kt with
 | none => simp [hd, goodKey] at hgood
 | some d =>
  rw [hd] at hgood h;have hdP := hT.und _ _ hd;have hck := fun e w => goodKey_check (P := P) hdP hx hgood e w;have hget : (getObj b).run P w = .ok (.map es.toArray clock) w := by simp [getObj, Sem.run, hheap]
  split at h
  ·rename_i u hu2;cases h;obtain ⟨j, y, h1, h2⟩ := mapGet_ok hx (i := 0) hrel hu2;have hf : (Instr.findKey kt x es.toArray.toList).run P w = .ok (some (j, y)) w := by simp [Instr.findKey, run_underlying hdP, h1]
   refine ⟨_, ?_, htup true h2⟩;simp only [Instr.lookup, Sem.run_bind, hT.run_und hu, Result.andThen_ok, hget, Sem.run_pure, hck, hf]
  ·rename_i hu2;have h1 : Instr.findNow d x es 0 = some none := mapGet_ok hx (i := 0) hrel hu2;have hf : (Instr.findKey kt x es.toArray.toList).run P w = .ok none w := by simp [Instr.findKey, run_underlying hdP, h1]
   split at h
   ·rename_i z hz;cases h;obtain ⟨zv, hzv, hzr⟩ := hT.run_zero hz;refine ⟨_, ?_, htup false (ofVal_rel hzv)⟩;simp only [Instr.lookup, Sem.run_bind, hT.run_und hu, Result.andThen_ok, hget, Sem.run_pure, hck, hf, hzr]
   ·cases h
  ·cases h
end
end Go.Ev
