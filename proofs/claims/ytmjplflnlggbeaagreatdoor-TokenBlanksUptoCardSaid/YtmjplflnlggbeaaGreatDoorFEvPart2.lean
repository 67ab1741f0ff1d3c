/- Lemmas. What holds at a small heap holds at a great one. -/
import Derived.Test.YtmjplflnlggbeaaGreatDoorFEvFunX
import Derived.Laws.LoneSync
import Derived.Test.YtmjplflnlggbeaaGreatDoorFEvWP
import Derived.Test.YtmjplflnlggbeaaGreatDoorFSy3
namespace Go.Ev
open Go Go.Proofs
set_option linter.unusedSimpArgs false
set_option linter.unusedVariables false
set_option linter.unnecessarySimpa false
open Go Go.RowKit
section
variable {P : Program} {T : Tab} {M : Mem} {ρ : Ren} {w : World} {H : Heap} {f : FuncId} {fn : Func}
theorem SR.cellOf (hS : SR T M ρ H w) {n off : Nat} {blk : Blk} {v : V} {x : Value} (hb : cellsAt H n = some blk) (hv : blk.cells[off]? = some v) (hx : rel M ρ (.ptr n off) x) :
 ∃ b c y, ρ[n]? = some (b, c) ∧ x = .pointer (some ⟨b, off, none⟩) ∧ w.cell? ⟨b, off, none⟩ = some y ∧ w.frozen? ⟨b, off, none⟩ = false ∧ rel M ρ v y := by
 obtain ⟨b, c, cs, cs', hr, hM, hlen, hheap, hrel, _⟩ := hS.cells hb;simp only [rel] at hx;obtain ⟨b', c', hr', rfl⟩ := hx;rw [hr] at hr';cases hr';obtain ⟨y, hy, hyr⟩ := relL_get hrel hv;refine ⟨b, c, y, hr, rfl, ?_, ?_, hyr⟩
 ·simp only [World.cell?, hheap];have := (List.getElem?_eq_some_iff.1 hy).1;simp [List.getElem?_append_left this, hy]
 ·simp [World.frozen?, hheap]
theorem SR.setCell (hS : SR T M ρ H w) {n off : Nat} {blk : Blk} {v v' : V} {b c : Nat} {y : Value} (hb : cellsAt H n = some blk) (hv : blk.cells[off]? = some v) (hr : ρ[n]? = some (b, c)) (hy : rel M ρ v' y) :
 Ext M ρ w M ρ (w.setCell ⟨b, off, none⟩ y) ∧ SR T M ρ (H.set n (some { blk with cells := blk.cells.set off v' })) (w.setCell ⟨b, off, none⟩ y) := by
 obtain ⟨b', c', cs, cs', hr', hM, hlen, hheap, hrel, hall⟩ := hS.cells hb;rw [hr] at hr';cases hr';obtain ⟨hb0, hk⟩ := cellsAt_some hb;have hother : ∀ k, k ≠ b → (w.setCell ⟨b, off, none⟩ y).heap[k]? = w.heap[k]? := fun k hk => by
  simp only [World.setCell];rw [Array.getElem?_modify, if_neg (fun e => hk e.symm)]
 have hsz : (w.setCell ⟨b, off, none⟩ y).heap.size = w.heap.size := by simp [World.setCell]
 have hoff : off < cs.length := by
  rw [relL_length hrel];exact (List.getElem?_eq_some_iff.1 hv).1
 refine ⟨⟨rfl, rfl, rfl, by omega, Mem.le.refl _, List.prefix_refl _, fun k _ hn => hother k (fun e => hn c (by rw [e]; exact List.mem_of_getElem? hr)), fun _ _ _ => rfl, fun _ q hq => .inl ⟨q, hq⟩⟩, ?_⟩;refine hS.upd hb0 hr hother hsz (BlkOK.of_cells hk ⟨cs.set off y, cs', by simpa using hlen, ?_, relL_set off hrel hy, hall⟩);simp only [World.setCell];rw [Array.getElem?_modify, if_pos rfl, hheap];simp only [Option.map_some, Option.isSome_none, Bool.false_eq_true, if_false];congr 2;apply Array.ext';simp [List.set_append_left _ _ hoff]
def atLoad (k : IntKind) : Spec := fun vs H => match vs with
 | [.ptr n off] => (match cellsAt H n with
  | some blk => (match blk.cells[off]? with
   | some (.i j x) => if j = k then .val (.i k x) H else .no
   | _ => .no)
  | none => .no)
 | _ => .no
def atStore (k : IntKind) : Spec := fun vs H => match vs with
 | [.ptr n off, .i j y] => (match cellsAt H n with
  | some blk => (match blk.cells[off]? with
   | some _ => if j = k then .val .un (H.set n (some { blk with cells := blk.cells.set off (.i k y) })) else .no
   | none => .no)
  | none => .no)
 | _ => .no
def atCas (k : IntKind) : Spec := fun vs H => match vs with
 | [.ptr n off, .i j x, .i j' y] => (match cellsAt H n with
  | some blk => (match blk.cells[off]? with
   | some (.i j2 z) => if j = k ∧ j' = k ∧ j2 = k ∧ z = x then .val (.b true) (H.set n (some { blk with cells := blk.cells.set off (.i k y) })) else .no
   | _ => .no)
  | none => .no)
 | _ => .no
def atAdd (k : IntKind) : Spec := fun vs H => match vs with
 | [.ptr n off, .i j y] => (match cellsAt H n with
  | some blk => (match blk.cells[off]? with
   | some (.i j2 x) => if j = k ∧ j2 = k then .val (.i k (k.wrap (x + y))) (H.set n (some { blk with cells := blk.cells.set off (.i k (k.wrap (x + y))) })) else .no
   | _ => .no)
  | none => .no)
 | _ => .no
theorem atLoad_ok (k : IntKind) (hf : P.funcs[f]? = some fn) (hname : (fn.name == "runtime.NumGoroutine") = false) (hb : fn.body.isNone = true) (hn : Extern.findNext fn = none) (he : Extern.find fn = some (Extern.Atomic.loadT (.int k))) : SpecD P T f (atLoad k) := by
  intro vs H r h hne
  unfold atLoad at h
  split at h
  case h_2 => exact absurd h.symm hne
  rename_i n off
  split at h
  case h_2 => exact absurd h.symm hne
  rename_i blk hblk
  split at h
  case h_2 => exact absurd h.symm hne
  rename_i j x hx
  split at h
  case isFalse => exact absurd h.symm hne
  rename_i hj
  subst hj
  subst h
  refine ⟨_, _, rfl, fun M ρ w args hS hr => ?_⟩
  simp only [relL] at hr
  obtain ⟨p, r, rfl, hp, rfl⟩ := hr
  obtain ⟨b, c, y, hr, rfl, hc, hz, hy⟩ := hS.cellOf hblk hx hp
  simp only [rel] at hy
  subst hy
  exact ⟨_, M, ρ, w, run_call_load hf hname hb hn _ he hc, Ext.refl _ _ _, by simp only [rel], hS⟩
theorem atStore_ok (k : IntKind) (hf : P.funcs[f]? = some fn) (hname : (fn.name == "runtime.NumGoroutine") = false) (hb : fn.body.isNone = true) (hn : Extern.findNext fn = none) (he : Extern.find fn = some Extern.Atomic.storeT) : SpecD P T f (atStore k) := by
  intro vs H r h hne
  unfold atStore at h
  split at h
  case h_2 => exact absurd h.symm hne
  rename_i n off j y
  split at h
  case h_2 => exact absurd h.symm hne
  rename_i blk hblk
  split at h
  case h_2 => exact absurd h.symm hne
  rename_i v hx
  split at h
  case isFalse => exact absurd h.symm hne
  rename_i hj
  subst hj
  subst h
  refine ⟨_, _, rfl, fun M ρ w args hS hr => ?_⟩
  simp only [relL] at hr
  obtain ⟨p, r, rfl, hp, q, r2, rfl, hq, rfl⟩ := hr
  obtain ⟨b, c, z, hr, rfl, hc, hz, hy⟩ := hS.cellOf hblk hx hp
  have hq' := hq
  simp only [rel] at hq
  subst hq
  obtain ⟨e1, e2⟩ := hS.setCell hblk hx hr hq'
  exact ⟨_, M, ρ, _, run_call_store hf hname hb hn he hc hz, e1, by simp [rel, relL], e2⟩
theorem atCas_ok (k : IntKind) (hf : P.funcs[f]? = some fn) (hname : (fn.name == "runtime.NumGoroutine") = false) (hb : fn.body.isNone = true) (hn : Extern.findNext fn = none) (he : Extern.find fn = some (Extern.Atomic.casT (.int k))) : SpecD P T f (atCas k) := by
  intro vs H r h hne
  unfold atCas at h
  split at h
  case h_2 => exact absurd h.symm hne
  rename_i n off j x j' y
  split at h
  case h_2 => exact absurd h.symm hne
  rename_i blk hblk
  split at h
  case h_2 => exact absurd h.symm hne
  rename_i j2 z hx
  split at h
  case isFalse => exact absurd h.symm hne
  rename_i hj
  obtain ⟨rfl, rfl, rfl, rfl⟩ := hj
  subst h
  refine ⟨_, _, rfl, fun M ρ w args hS hr => ?_⟩
  simp only [relL] at hr
  obtain ⟨p, r, rfl, hp, q, r2, rfl, hq, s, r3, rfl, hs, rfl⟩ := hr
  obtain ⟨b, c, u, hr, rfl, hc, hz, hy⟩ := hS.cellOf hblk hx hp
  have hs' := hs
  simp only [rel] at hq hs hy
  subst hq hs hy
  obtain ⟨e1, e2⟩ := hS.setCell hblk hx hr hs'
  exact ⟨_, M, ρ, _, run_call_cas_hit hf hname hb hn _ he hc hz, e1, by simp only [rel], e2⟩
theorem atAdd_ok (k : IntKind) (hf : P.funcs[f]? = some fn) (hname : (fn.name == "runtime.NumGoroutine") = false) (hb : fn.body.isNone = true) (hn : Extern.findNext fn = none) (he : Extern.find fn = some (Extern.Atomic.update (Op.intArith .add) k true)) : SpecD P T f (atAdd k) := by
  intro vs H r h hne
  unfold atAdd at h
  split at h
  case h_2 => exact absurd h.symm hne
  rename_i n off j y
  split at h
  case h_2 => exact absurd h.symm hne
  rename_i blk hblk
  split at h
  case h_2 => exact absurd h.symm hne
  rename_i j2 x hx
  split at h
  case isFalse => exact absurd h.symm hne
  rename_i hj
  obtain ⟨rfl, rfl⟩ := hj
  subst h
  refine ⟨_, _, rfl, fun M ρ w args hS hr => ?_⟩
  simp only [relL] at hr
  obtain ⟨p, r, rfl, hp, q, r2, rfl, hq, rfl⟩ := hr
  obtain ⟨b, c, u, hr, rfl, hc, hz, hy⟩ := hS.cellOf hblk hx hp
  simp only [rel] at hq hy
  subst hq hy
  obtain ⟨e1, e2⟩ := hS.setCell (v' := .i j2 (j2.wrap (x + y))) (y := .int j2 (j2.wrap (x + y))) hblk hx hr (by simp only [rel])
  exact ⟨_, M, ρ, _, run_call_add hf hname hb hn _ he hc hz (by simp [Op.intArith, Sem.run]), e1, by simp only [rel], e2⟩
theorem atMark0_ok (hf : P.funcs[f]? = some fn) (hname : (fn.name == "runtime.NumGoroutine") = false) (hb : fn.body.isNone = true) (hn : Extern.findNext fn = none) (m : Mark) (he : Extern.find fn = some (fun _ => do Go.mark m; pure Extern.Race.none_)) : SpecD P T f (fun vs H => match vs with | [] => .val .un H | _ => .no) := by
  intro vs H r h hne
  simp only at h
  split at h
  case h_2 => exact absurd h.symm hne
  subst h
  refine ⟨_, _, rfl, fun M ρ w args hS hr => ?_⟩
  simp only [relL] at hr
  subst hr
  exact ⟨_, M, ρ, w, run_call_mark0 hf hname hb hn m he w, Ext.refl _ _ _, by simp [rel, relL], hS⟩
theorem atMark_ok (hf : P.funcs[f]? = some fn) (hname : (fn.name == "runtime.NumGoroutine") = false) (hb : fn.body.isNone = true) (hn : Extern.findNext fn = none) (m : Addr → Mark) (he : Extern.find fn = some (Extern.Race.marked m)) : SpecD P T f (fun vs H => match vs with | [.ptr n off] => .val .un H | _ => .no) := by
  intro vs H r h hne
  simp only at h
  split at h
  case h_2 => exact absurd h.symm hne
  subst h
  refine ⟨_, _, rfl, fun M ρ w args hS hr => ?_⟩
  simp only [relL, rel] at hr
  obtain ⟨p, r, rfl, ⟨b, c, _, rfl⟩, rfl⟩ := hr
  exact ⟨_, M, ρ, w, run_call_marked hf hname hb hn m he _ w, Ext.refl _ _ _, by simp [rel, relL], hS⟩
end
open Go
section
variable {P : Program} {T : Tab}
theorem XBody.of_run (hT : TOk P T) {G : Gam} (hG : G.SoundX P T) {n : Nat} {f : FuncId} {vs : List V} {H : Heap} {r : OR} (hg : G f vs H = none) (h : evFun T G (n + 1) f vs H = r) (hr : r ≠ .no) : XBody P T f vs H fun r' => r' = r := by
 have ih := evFunR_okX hT (reg := evReg T) (fun _ h => evReg_ok hT h) hG n;have hR := evReg_ok hT ih;have hL := evLoop_ok (P := P) (T := T) hR n;simp only [evFun, evFunR, hg] at h;split at h
 ·exact absurd h.symm hr
 ·rename_i fn hfn;split at h
  ·exact absurd h.symm hr
  ·rename_i c hc;cases hw : Nat.ble vs.length fn.ntmps with
   | false => rw [hw] at h; exact absurd h.symm hr
   | true =>
    rw [hw] at h;simp only [cond_true] at h;refine ⟨fn, c, hfn, hc, Nat.le_of_ble_eq_true hw, evCode (evReg T (evFunR T (evReg T) G n)) (evLoop (evReg T (evFunR T (evReg T) G n)) n) c (Tm.init fn.ntmps vs) H, ?_, fun a w M ρ R hS ht k => (evCode_ok hR hL c _ H a w M ρ R hS ht k).1⟩;have fin : ∀ {t : Tm} {H' : Heap}, finish T fn t.get H' = r → ∃ v, OR.val v H' = r ∧ finish T fn t.get H' = .val v H' := fun {t H'} e => by
     unfold finish at e ⊢;split at e
     ·exact ⟨_, e, rfl⟩
     ·exact ⟨_, e, rfl⟩
     ·exact absurd e.symm hr
    cases hev : evCode (evReg T (evFunR T (evReg T) G n)) (evLoop (evReg T (evFunR T (evReg T) G n)) n) c (Tm.init fn.ntmps vs) H with
    | norm t H' => rw [hev] at h; exact fin h
    | ret t H' => rw [hev] at h; exact fin h
    | pan v t H' => rw [hev] at h; exact h
    | exit id t H' => rw [hev] at h; exact absurd h.symm hr
    | no => rw [hev] at h; exact absurd h.symm hr
theorem TriD.condT {g : Operand} {x y : Code} {o : Option V} {t : Tm} {H : Heap} {g0 : List (Nat × List V)} {Q : Out → List (Nat × List V) → Prop} (hg : ev1 t.get g = o) (ho : o = some (.b true)) (h : TriD P T x t H g0 Q) : TriD P T (.cond g x y) t H g0 Q := by
 subst ho;obtain ⟨o, g', h1, h2⟩ := h;refine ⟨o, g', h1, fun a w M ρ R hS ht hd k => ?_⟩;have := ev1_rel ht.2 hg;simp only [rel] at this;exact wp_cond_true this (h2 a w M ρ R hS ht hd k)
def spAt (vs : List V) (H0 : Heap) (r : OR) : Spec := fun us H => if (V.beqL us vs && Heap.beq H H0) = true then r else .no
theorem spAt_at (vs : List V) (H0 : Heap) (r : OR) : spAt vs H0 r vs H0 = r := by
 unfold spAt;rw [V.beqL_refl, Heap.beq_refl];rfl
theorem spAt_ok {F : FuncId} {vs : List V} {H0 : Heap} {r : OR} (h : r ≠ .no → Go.Proofs.Enters P F ∧ ∀ M ρ w args, SR T M ρ H0 w → relL M ρ vs args → CallOK P T F args.toArray M ρ w r) : SpecOK P T F (spAt vs H0 r) := by
 intro us H x hx hne;unfold spAt at hx;split at hx
 ·rename_i hb;rw [Bool.and_eq_true] at hb;have e1 := V.beqL_eq _ _ hb.1;have e2 := Heap.beq_eq _ _ hb.2;subst e1 e2 hx;exact h hne
 ·exact absurd hx.symm hne
end
open Go
mutual
/-- Other names. -/
def V.ren (f : Nat → Nat) : V → V
  | .agg l => .agg (V.renL f l)
  | .tup l => .tup (V.renL f l)
  | .fn g l => .fn g (V.renL f l)
  | .bfn g l => .bfn g (V.renL f l)
  | .ifc t v => .ifc t (V.ren f v)
  | .isl z l => .isl z (V.renL f l)
  | .ipt z l j o => .ipt z (V.renL f l) j o
  | .ptr n o => .ptr (f n) o
  | .sl n z o l c => .sl (f n) z o l c
  | .mp n => .mp (f n)
  | v => v
def V.renL (f : Nat → Nat) : List V → List V
  | [] => []
  | v :: l => V.ren f v :: V.renL f l
end
mutual
/-- All names are less than k. -/
def V.lt (k : Nat) : V → Bool
  | .agg l => V.ltL k l
  | .tup l => V.ltL k l
  | .fn _ l => V.ltL k l
  | .bfn _ l => V.ltL k l
  | .ifc _ v => V.lt k v
  | .isl _ l => V.ltL k l
  | .ipt _ l _ _ => V.ltL k l
  | .ptr n _ => Nat.blt n k
  | .sl n _ _ _ _ => Nat.blt n k
  | .mp n => Nat.blt n k
  | _ => true
def V.ltL (k : Nat) : List V → Bool
  | [] => true
  | v :: l => V.lt k v && V.ltL k l
end
theorem renL_length (f : Nat → Nat) : ∀ l : List V, (V.renL f l).length = l.length
 | [] => rfl
 | v :: l => by simp only [V.renL, List.length_cons, renL_length f l]
section
variable {M : Mem} {ρ σ : Ren} {f : Nat → Nat} {k : Nat}
mutual
theorem rel_ren (h : ∀ n, n < k → σ[f n]? = ρ[n]?) : ∀ (v : V) (x : Value), V.lt k v = true → (rel M σ (v.ren f) x ↔ rel M ρ v x)
  | .i .., x, _ => by simp only [V.ren, rel]
  | .b .., x, _ => by simp only [V.ren, rel]
  | .s .., x, _ => by simp only [V.ren, rel]
  | .nilp, x, _ => by simp only [V.ren, rel]
  | .nils, x, _ => by simp only [V.ren, rel]
  | .nilf, x, _ => by simp only [V.ren, rel]
  | .nili, x, _ => by simp only [V.ren, rel]
  | .nilm, x, _ => by simp only [V.ren, rel]
  | .emp, x, _ => by simp only [V.ren, rel]
  | .gp .., x, _ => by simp only [V.ren, rel]
  | .yld .., x, _ => by simp only [V.ren, rel]
  | .itr .., x, _ => by simp only [V.ren, rel]
  | .ptr n o, x, hl => by
    have e := h n (by simpa [V.lt, Nat.blt_eq] using hl)
    simp only [V.ren, rel, e]
  | .sl n z o l c, x, hl => by
    have e := h n (by simpa [V.lt, Nat.blt_eq] using hl)
    simp only [V.ren, rel, e]
  | .mp n, x, hl => by
    have e := h n (by simpa [V.lt, Nat.blt_eq] using hl)
    simp only [V.ren, rel, e]
  | .agg l, x, hl => by
    have ih := fun cs => relL_ren h l cs (by simpa only [V.lt] using hl)
    simp only [V.ren, rel, ih]
  | .tup l, x, hl => by
    have ih := fun cs => relL_ren h l cs (by simpa only [V.lt] using hl)
    simp only [V.ren, rel, ih]
  | .fn g l, x, hl => by
    have ih := fun cs => relL_ren h l cs (by simpa only [V.lt] using hl)
    simp only [V.ren, rel, ih]
  | .bfn g l, x, hl => by
    have ih := fun cs => relL_ren h l cs (by simpa only [V.lt] using hl)
    simp only [V.ren, rel, ih]
  | .ifc t v, x, hl => by
    have ih := fun y => rel_ren h v y (by simpa only [V.lt] using hl)
    simp only [V.ren, rel, ih]
  | .isl z l, x, hl => by
    have ih := fun b o => relRow_ren h z l b o (by simpa only [V.lt] using hl)
    have el := renL_length f l
    have en : V.renL f l ≠ [] ↔ l ≠ [] := by
      cases l <;> simp [V.renL]
    simp only [V.ren, rel, ih, el, en]
  | .ipt z l j o, x, hl => by
    have ih := fun b o => relRow_ren h z l b o (by simpa only [V.lt] using hl)
    simp only [V.ren, rel, ih]
theorem relL_ren (h : ∀ n, n < k → σ[f n]? = ρ[n]?) : ∀ (l : List V) (cs : List Value), V.ltL k l = true → (relL M σ (V.renL f l) cs ↔ relL M ρ l cs)
  | [], cs, _ => by simp only [V.renL, relL]
  | v :: l, cs, hl => by
    simp only [V.ltL, Bool.and_eq_true] at hl
    have i1 := fun x => rel_ren h v x hl.1
    have i2 := fun cs => relL_ren h l cs hl.2
    simp only [V.renL, relL, i1, i2]
theorem relRow_ren (h : ∀ n, n < k → σ[f n]? = ρ[n]?) (sz : Nat) : ∀ (l : List V) (b o : Nat), V.ltL k l = true → (relRow M σ sz (V.renL f l) b o ↔ relRow M ρ sz l b o)
  | [], b, o, _ => by simp only [V.renL, relRow]
  | v :: l, b, o, hl => by
    simp only [V.ltL, Bool.and_eq_true] at hl
    have i1 := fun x => rel_ren h v x hl.1
    have i2 := fun b o => relRow_ren h sz l b o hl.2
    simp only [V.renL, relRow, i1, i2]
end
theorem relM_ren (h : ∀ n, n < k → σ[f n]? = ρ[n]?) : ∀ (l : List V) (es : List MapEntry), V.ltL k l = true → (relM M σ (V.renL f l) es ↔ relM M ρ l es)
 | [], es, _ => by simp only [V.renL, relM]
 | [v], es, _ => by simp only [V.renL, relM]
 | a :: v :: l, es, hl => by
  simp only [V.ltL, Bool.and_eq_true] at hl;have i1 := fun x => rel_ren (M := M) h a x hl.1;have i2 := fun x => rel_ren (M := M) h v x hl.2.1;have i3 := fun es => relM_ren h l es hl.2.2;simp only [V.renL, relM, i1, i2, i3]
theorem frzC_ren (l : List V) : frzC (V.renL f l) = (frzC l).map (V.renL f) := by
  cases l with
  | nil => rfl
  | cons v l =>
    cases v <;> try rfl
    rename_i r
    cases r <;> rfl
def Blk.ren (f : Nat → Nat) (b : Blk) : Blk := { b with cells := V.renL f b.cells }
theorem frzC_lt {l r : List V} (hl : V.ltL k l = true) (h : frzC l = some r) : V.ltL k r = true := by
 unfold frzC at h;split at h
 ·cases h;simp only [V.ltL, Bool.and_eq_true] at hl;exact hl.2
 ·cases h
theorem BlkOK.ren (h : ∀ n, n < k → σ[f n]? = ρ[n]?) {ob : Option Obj} {blk : Blk} {c : Nat} (hl : V.ltL k blk.cells = true) : BlkOK M σ ob (blk.ren f) c ↔ BlkOK M ρ ob blk c := by
 obtain ⟨ty, cells, kind⟩ := blk;simp only at hl;have i1 := fun cs => relL_ren (M := M) h cells cs hl;have i2 := fun es => relM_ren (M := M) h cells es hl;unfold BlkOK Blk.ren;simp only [frzC_ren];split
 ·rw [show ((frzC cells).map (V.renL f)).isNone = (frzC cells).isNone from by cases frzC cells <;> rfl];constructor
  ·rintro (⟨es, clock, h1, h2, h3⟩ | ⟨l, cs, cs', fr, h1, h2, h3, h4⟩)
   ·exact .inl ⟨es, clock, h1, (i2 _).1 h2, h3⟩
   ·rw [Option.map_eq_some_iff] at h1;obtain ⟨l0, h1, rfl⟩ := h1;exact .inr ⟨l0, cs, cs', fr, h1, h2, h3, (relL_ren h l0 cs (frzC_lt hl h1)).1 h4⟩
  ·rintro (⟨es, clock, h1, h2, h3⟩ | ⟨l, cs, cs', fr, h1, h2, h3, h4⟩)
   ·exact .inl ⟨es, clock, h1, (i2 _).2 h2, h3⟩
   ·exact .inr ⟨V.renL f l, cs, cs', fr, by rw [h1]; rfl, h2, h3, (relL_ren h l cs (frzC_lt hl h1)).2 h4⟩
 ·simp only [i1]
end
def Heap.under (k : Nat) (H : Heap) : Bool := H.all fun b => match b with | some b => V.ltL k b.cells | none => true
theorem Heap.under_at {k : Nat} {H : Heap} (h : Heap.under k H = true) {n : Nat} {b : Blk} (hb : H[n]? = some (some b)) : V.ltL k b.cells = true := List.all_eq_true.1 h (some b) (List.mem_of_getElem? hb)
section
variable {P : Program} {T : Tab}
structure PartOK (H H0 H1 B : Heap) (g : Nat → Nat) : Prop where
  len : B.length = H.length + (H1.length - H0.length)
  old : ∀ k, k < H0.length → B[g k]? = (H1[k]?).map fun b => b.map (Blk.ren fun n => if n < H0.length then g n else H.length + (n - H0.length))
  new : ∀ k, H0.length ≤ k → k < H1.length → B[H.length + (k - H0.length)]? = (H1[k]?).map fun b => b.map (Blk.ren fun n => if n < H0.length then g n else H.length + (n - H0.length))
  rest : ∀ j, j < H.length → (∀ k, k < H0.length → j ≠ g k) → B[j]? = H[j]?
theorem CallOK.part {M : Mem} {ρ : Ren} {w : World} {F : FuncId} {args : List Value} {vs : List V} {v : V} {H H0 H1 B : Heap} {g : Nat → Nat} (hp : T.Plain)
 (hg : ∀ k, k < H0.length → g k < H.length) (hi : ∀ k j, k < H0.length → j < H0.length → g k = g j → k = j) (hin : ∀ k, k < H0.length → ∃ b, H0[k]? = some (some b) ∧ H[g k]? = some (some (b.ren g)))
 (h0 : Heap.under H0.length H0 = true) (h1 : Heap.under H1.length H1 = true) (hle : H0.length ≤ H1.length) (hvs : V.ltL H0.length vs = true) (hv : V.lt H1.length v = true) (hB : PartOK H H0 H1 B g)
 (h : ∀ (M : Mem) (ρ : Ren) (w : World) (args : List Value), SR T M ρ H0 w → relL M ρ vs args → CallOK P T F args.toArray M ρ w (.val v H1))
 (hS : SR T M ρ H w) (hr : relL M ρ (V.renL g vs) args) : CallOK P T F args.toArray M ρ w (.val (v.ren fun n => if n < H0.length then g n else H.length + (n - H0.length)) B) := by
 let ρ0 : Ren := (List.range H0.length).map fun k => (ρ[g k]?).getD (0, 0)
 have hρl : ρ.length = H.length := hS.len;have e0 : ∀ n, n < H0.length → ρ[g n]? = ρ0[n]? := fun n hn => by
  have h2 : g n < ρ.length := by rw [hρl]; exact hg n hn
  show _ = ((List.range H0.length).map fun k => (ρ[g k]?).getD (0, 0))[n]?;rw [List.getElem?_map, List.getElem?_range hn, Option.map_some, List.getElem?_eq_getElem h2, Option.getD_some]
 have l0 : ρ0.length = H0.length := by show ((List.range H0.length).map _).length = _; simp
 have sub : ∀ b c, (b, c) ∈ ρ0 → ∃ n, n < H0.length ∧ ρ[g n]? = some (b, c) := fun b c hm => by
  obtain ⟨n, hn⟩ := List.getElem?_of_mem hm;have hlt : n < H0.length := by rw [← l0]; exact (List.getElem?_eq_some_iff.1 hn).1
  exact ⟨n, hlt, (e0 n hlt).trans hn⟩
 have hS0 : SR T M ρ0 H0 w := by
  refine ⟨hS.frozen, l0, fun n blk hn => ?_, fun n m x y b c c' hn hm hb hc => ?_, fun gl l hl => ?_, hS.gint⟩
  ·have hlt : n < H0.length := (List.getElem?_eq_some_iff.1 hn).1;obtain ⟨b0, hb0, hb1⟩ := hin n hlt;rw [hn] at hb0;cases hb0;obtain ⟨b, c, q1, q2, q3, q4⟩ := hS.blk _ _ hb1;exact ⟨b, c, (e0 n hlt).symm.trans q1, q2, q3, (BlkOK.ren e0 (Heap.under_at h0 hn)).1 q4⟩
  ·have hlt : n < H0.length := (List.getElem?_eq_some_iff.1 hn).1;have hlt2 : m < H0.length := (List.getElem?_eq_some_iff.1 hm).1;obtain ⟨b0, hb0, hb1⟩ := hin n hlt;obtain ⟨b2, hb2, hb3⟩ := hin m hlt2;exact hi n m hlt hlt2 (hS.inj _ _ _ _ b c c' hb1 hb3 ((e0 n hlt).trans hb) ((e0 m hlt2).trans hc))
  ·obtain ⟨cs, ty, fr, q1, q2⟩ := hS.glob gl l hl;exact ⟨cs, ty, fr, q1, nlL_rel l cs (hp gl l hl) q2⟩
 have hr0 : relL M ρ0 vs args := (relL_ren e0 vs args hvs).1 hr;refine Calls.mono (h M ρ0 w args hS0 hr0) ?_;rintro e w' ⟨x, M', ρ1, rfl, he, hx, hk⟩;have l1 : ρ1.length = H1.length := hk.len;obtain ⟨tl, htl⟩ := he.pre;let f : Nat → Nat := fun n => if n < H0.length then g n else H.length + (n - H0.length)
 let ρ' : Ren := ρ ++ ρ1.drop H0.length;have e1 : ∀ n, n < H1.length → ρ'[f n]? = ρ1[n]? := fun n hn => by
  show (ρ ++ ρ1.drop H0.length)[if n < H0.length then g n else H.length + (n - H0.length)]? = _;by_cases hlt : n < H0.length
  ·rw [if_pos hlt, List.getElem?_append_left (by rw [hρl]; exact hg n hlt), e0 n hlt];have hn0 : ρ0[n]? = some ρ0[n] := List.getElem?_eq_getElem (by rw [l0]; exact hlt);rw [pre_get he.pre hn0, hn0]
  ·rw [if_neg hlt, List.getElem?_append_right (by omega), List.getElem?_drop];congr 1;omega
 have hρ' : ρ'.length = B.length := by
  show (ρ ++ ρ1.drop H0.length).length = _;rw [List.length_append, List.length_drop, hρl, l1, hB.len]
 have fin : ∀ n, n < H1.length → f n < B.length ∧ B[f n]? = (H1[n]?).map fun b => b.map (Blk.ren f) := fun n hn => by
  by_cases hlt : n < H0.length
  ·have ef : f n = g n := if_pos hlt;rw [ef];exact ⟨by rw [hB.len]; have := hg n hlt; omega, hB.old n hlt⟩
  ·have ef : f n = H.length + (n - H0.length) := if_neg hlt;rw [ef];exact ⟨by rw [hB.len]; omega, hB.new n (by omega) hn⟩
 have cases_ : ∀ m, m < B.length → (∃ n, n < H1.length ∧ m = f n) ∨ (m < H.length ∧ ∀ n, n < H0.length → m ≠ g n) := fun m hm => by
  by_cases hlt : m < H.length
  ·by_cases hx : ∃ n, n < H0.length ∧ m = g n
   ·obtain ⟨n, hn, rfl⟩ := hx;exact .inl ⟨n, by omega, (if_pos hn : f n = g n).symm⟩
   ·exact .inr ⟨hlt, fun n hn e => hx ⟨n, hn, e⟩⟩
  ·refine .inl ⟨H0.length + (m - H.length), by rw [hB.len] at hm; omega, ?_⟩;have : f (H0.length + (m - H.length)) = H.length + (H0.length + (m - H.length) - H0.length) := if_neg (by omega);rw [this];omega
 have rest_ : ∀ m, m < H.length → (∀ n, n < H0.length → m ≠ g n) → ρ'[m]? = ρ[m]? := fun m hm _ => by
  show (ρ ++ ρ1.drop H0.length)[m]? = _;rw [List.getElem?_append_left (by rw [hρl]; exact hm)]
 have apart : ∀ m (y : Blk) b c, H[m]? = some (some y) → (∀ n, n < H0.length → m ≠ g n) → ρ[m]? = some (b, c) → ∀ c', (b, c') ∉ ρ0 := fun m y b c hy hne hb c' hm => by
  obtain ⟨n, hn, q⟩ := sub b c' hm;obtain ⟨b0, _, q2⟩ := hin n hn;exact hne n hn (hS.inj _ _ _ _ b c c' hy q2 hb q)
 have hpre : ρ <+: ρ' := List.prefix_append _ _;have memN : ∀ b c, (b, c) ∈ ρ' → (∃ c', (b, c') ∈ ρ) ∨ w.heap.size ≤ b := fun b c hm => by
  rcases List.mem_append.1 hm with hm | hm
  ·exact .inl ⟨c, hm⟩
  ·rcases he.newR b c (List.mem_of_mem_drop hm) with ⟨c', hc'⟩ | hge
   ·obtain ⟨n, _, q⟩ := sub b c' hc';exact .inl ⟨c', List.mem_of_getElem? q⟩
   ·exact .inr hge
 have notin : ∀ b, (∀ c, (b, c) ∉ ρ) → ∀ c, (b, c) ∉ ρ0 := fun b hb c hm => by
  obtain ⟨n, _, q⟩ := sub b c hm;exact hb c (List.mem_of_getElem? q)
 refine ⟨x, M', ρ', rfl, ⟨he.os, he.tape, he.output, he.size, he.mem, hpre, fun b hb hn => he.frame b hb (notin b hn), fun b hb hn => he.newM b hb (notin b hn), memN⟩, (rel_ren e1 v x hv).2 hx, ?_⟩;refine ⟨hk.frozen, hρ', fun m blk hm => ?_, fun m m2 y y2 b c c' hm hm2 hb hb2 => ?_, fun gl l hl => ?_, hk.gint⟩
 ·have hlt : m < B.length := (List.getElem?_eq_some_iff.1 hm).1;rcases cases_ m hlt with ⟨n, hn, rfl⟩ | ⟨hlt2, hne⟩
  ·have hq := (fin n hn).2;rw [hm] at hq;rcases hb : H1[n]? with _ | b1
   ·rw [List.getElem?_eq_none_iff] at hb; omega
   ·rw [hb] at hq;cases b1 with
    | none => cases hq
    | some b1 =>
     simp only [Option.map_some, Option.some.injEq] at hq;subst hq;obtain ⟨b, c, q1, q2, q3, q4⟩ := hk.blk n b1 hb;exact ⟨b, c, (e1 n hn).trans q1, q2, q3, (BlkOK.ren e1 (Heap.under_at h1 hb)).2 q4⟩
  ·rw [hB.rest m hlt2 hne] at hm;obtain ⟨b, c, q1, q2, q3, q4⟩ := hS.blk m blk hm;have ha := apart m blk b c hm hne q1;refine ⟨b, c, (rest_ m hlt2 hne).trans q1, (he.newM b q3 ha).trans q2, Nat.lt_of_lt_of_le q3 he.size, ?_⟩;rw [he.frame b q3 ha];exact q4.mono he.mem hpre
 ·have hlt : m < B.length := (List.getElem?_eq_some_iff.1 hm).1;have hlt2 : m2 < B.length := (List.getElem?_eq_some_iff.1 hm2).1;have live : ∀ n, n < H1.length → ∀ z : Blk, B[f n]? = some (some z) → ∃ z1, H1[n]? = some (some z1) := fun n hn z hz => by
   have hq := (fin n hn).2;rw [hz] at hq;rcases hb : H1[n]? with _ | b1
   ·rw [List.getElem?_eq_none_iff] at hb; omega
   ·rw [hb] at hq;cases b1 with
    | none => cases hq
    | some b1 => exact ⟨b1, rfl⟩
  have mix : ∀ (n m : Nat) (z z2 : Blk) (b c c' : Nat), n < H1.length → B[f n]? = some (some z) → m < H.length → (∀ n, n < H0.length → m ≠ g n) → B[m]? = some (some z2) → ρ'[f n]? = some (b, c) → ρ'[m]? = some (b, c') → False := fun n m z z2 b c c' hn hz hm hne hz2 hb hb2 => by
   rw [hB.rest m hm hne] at hz2;rw [rest_ m hm hne] at hb2;rw [e1 n hn] at hb;obtain ⟨b', c2, q1, q2, q3, q4⟩ := hS.blk m z2 hz2;rw [hb2] at q1;cases q1;rcases he.newR b c (List.mem_of_getElem? hb) with ⟨c3, hc3⟩ | hge
   ·exact apart m z2 b c' hz2 hne hb2 c3 hc3
   ·omega
  rcases cases_ m hlt with ⟨n, hn, rfl⟩ | ⟨hl1, hne⟩
  ·rcases cases_ m2 hlt2 with ⟨n2, hn2, rfl⟩ | ⟨hl2, hne2⟩
   ·obtain ⟨z, hz⟩ := live n hn y hm;obtain ⟨z2, hz2⟩ := live n2 hn2 y2 hm2;rw [hk.inj n n2 z z2 b c c' hz hz2 ((e1 n hn).symm.trans hb) ((e1 n2 hn2).symm.trans hb2)]
   ·exact absurd (mix n m2 y y2 b c c' hn hm hl2 hne2 hm2 hb hb2) id
  ·rcases cases_ m2 hlt2 with ⟨n2, hn2, rfl⟩ | ⟨hl2, hne2⟩
   ·exact absurd (mix n2 m y2 y b c' c hn2 hm2 hl1 hne hm hb2 hb) id
   ·rw [hB.rest m hl1 hne] at hm;rw [hB.rest m2 hl2 hne2] at hm2;exact hS.inj m m2 y y2 b c c' hm hm2 ((rest_ m hl1 hne).symm.trans hb) ((rest_ m2 hl2 hne2).symm.trans hb2)
 ·obtain ⟨cs, ty, fr, q1, q2⟩ := hk.glob gl l hl;exact ⟨cs, ty, fr, q1, nlL_rel l cs (hp gl l hl) q2⟩
end
open Go
def partF (N n0 : Nat) (g : Nat → Nat) : Nat → Nat := fun n => if n < n0 then g n else N + (n - n0)
def partB (H H0 H1 : Heap) (g : Nat → Nat) : Heap := (List.range (H.length + (H1.length - H0.length))).map fun j =>
 if j < H.length then (match (List.range H0.length).find? (fun k => g k == j) with
  | some k => ((H1[k]?).getD none).map (Blk.ren (partF H.length H0.length g))
  | none => (H[j]?).getD none)
 else ((H1[H0.length + (j - H.length)]?).getD none).map (Blk.ren (partF H.length H0.length g))
theorem partB_ok {H H0 H1 : Heap} {g : Nat → Nat} (hg : ∀ k, k < H0.length → g k < H.length) (hi : ∀ k j, k < H0.length → j < H0.length → g k = g j → k = j) (hle : H0.length ≤ H1.length) : PartOK H H0 H1 (partB H H0 H1 g) g := by
  have at_ : ∀ j, j < H.length + (H1.length - H0.length) → (partB H H0 H1 g)[j]? = some (if j < H.length then (match (List.range H0.length).find? (fun k => g k == j) with
    | some k => ((H1[k]?).getD none).map (Blk.ren (partF H.length H0.length g))
    | none => (H[j]?).getD none)
    else ((H1[H0.length + (j - H.length)]?).getD none).map (Blk.ren (partF H.length H0.length g))) := fun j hj => by
    unfold partB
    rw [List.getElem?_map, List.getElem?_range hj, Option.map_some]
  refine ⟨by unfold partB; simp, fun k hk => ?_, fun k h1 h2 => ?_, fun j hj hne => ?_⟩
  · have hgk := hg k hk
    rw [at_ (g k) (by omega), if_pos hgk]
    have hf : (List.range H0.length).find? (fun k' => g k' == g k) = some k := by
      cases hx : (List.range H0.length).find? (fun k' => g k' == g k) with
      | none =>
        have := List.find?_eq_none.1 hx k (List.mem_range.2 hk)
        simp at this
      | some k' =>
        have h1 := List.find?_some hx
        have h2 := List.mem_range.1 (List.mem_of_find?_eq_some hx)
        rw [hi k' k h2 hk (by simpa using h1)]
    rw [hf]
    have hlt : k < H1.length := by omega
    show some (((H1[k]?).getD none).map (Blk.ren (partF H.length H0.length g))) = _
    rw [List.getElem?_eq_getElem hlt]
    rfl
  · rw [at_ _ (by omega), if_neg (by omega), show H0.length + (H.length + (k - H0.length) - H.length) = k from by omega, List.getElem?_eq_getElem h2]
    rfl
  · rw [at_ j (by omega), if_pos hj]
    have hf : (List.range H0.length).find? (fun k' => g k' == j) = none := by
      rw [List.find?_eq_none]
      intro k hk
      have := hne k (List.mem_range.1 hk)
      simp
      exact fun e => this e.symm
    rw [hf, List.getElem?_eq_getElem hj]
    rfl
section
variable {P : Program} {T : Tab}
theorem XFact.part (hp : T.Plain) {F : FuncId} {vs : List V} {v : V} {H H0 H1 : Heap} {g : Nat → Nat}
 (hg : ∀ k, k < H0.length → g k < H.length) (hi : ∀ k j, k < H0.length → j < H0.length → g k = g j → k = j) (hin : ∀ k, k < H0.length → ∃ b, H0[k]? = some (some b) ∧ H[g k]? = some (some (b.ren g)))
 (h0 : Heap.under H0.length H0 = true) (h1 : Heap.under H1.length H1 = true) (hle : H0.length ≤ H1.length) (hvs : V.ltL H0.length vs = true) (hv : V.lt H1.length v = true)
 (h : XFact P T F vs H0 fun r => r = .val v H1) : XFact P T F (V.renL g vs) H fun r => r = .val (v.ren (partF H.length H0.length g)) (partB H H0 H1 g) := by
 obtain ⟨r, rfl, hne, hent, hc⟩ := h;exact ⟨_, rfl, by simp, hent, fun M ρ w args hS hr => CallOK.part hp hg hi hin h0 h1 hle hvs hv (partB_ok hg hi hle) hc hS hr⟩
end
end Go.Ev
