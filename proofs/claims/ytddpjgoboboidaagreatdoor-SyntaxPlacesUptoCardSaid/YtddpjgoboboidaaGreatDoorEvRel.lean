/- The relation between the values of the evaluator and those of the machine, for every memory and every renaming of places. -/
import Derived.Test.YtddpjgoboboidaaGreatDoorEvDefs
namespace Go.Ev
open Go

/-- What is frozen: blocks that nobody writes any more. -/
abbrev Mem := Nat → Option Obj
def Mem.cell (M : Mem) (b o : Nat) : Option Value :=
  match M b with
  | some (.cells cs _ _) => cs[o]?
  | _ => none
/-- A name's block, and how many cells it has. -/
abbrev Ren := List (Nat × Nat)

mutual
def rel (M : Mem) (ρ : Ren) : V → Value → Prop
  | .i k n, x => x = .int k n
  | .b y, x => x = .bool y
  | .s l, x => x = .string ⟨l.toArray⟩
  | .agg l, x => ∃ cs : List Value, x = .agg cs.toArray ∧ relL M ρ l cs
  | .tup l, x => ∃ cs : List Value, x = .tuple cs.toArray ∧ relL M ρ l cs
  | .nilp, x => x = .pointer none
  | .nils, x => x = .slice none 0 0
  | .nilf, x => x = .nilFunc
  | .nili, x => x = .nilIface
  | .nilm, x => x = .map none
  | .ptr n off, x => ∃ b c, ρ[n]? = some (b, c) ∧ x = .pointer (some ⟨b, off, none⟩)
  | .sl n sz off len cap, x => ∃ b c k, ρ[n]? = some (b, c) ∧ x = .slice (some ⟨b, off * sz, none⟩) len k ∧ len ≤ k ∧ (∀ q, cap = some q → k = q) ∧ (cap = none → (off + k) * sz = c)
  | .emp, x => ∃ a c, x = .slice (some a) 0 c
  | .fn g cap, x => ∃ cs : List Value, x = .func (.func g) #[] cs.toArray ∧ relL M ρ cap cs
  | .ifc t v, x => ∃ y, x = .iface t y ∧ rel M ρ v y
  | .isl sz l, x => ∃ a k, x = .slice a l.length k ∧ l.length ≤ k ∧ (l ≠ [] → ∃ b o, a = some ⟨b, o, none⟩ ∧ relRow M ρ sz l b o)
  | .ipt sz l i off, x => ∃ b o, x = .pointer (some ⟨b, o + i * sz + off, none⟩) ∧ relRow M ρ sz l b o
  | .gp g off, x => x = .pointer (some ⟨g, off, none⟩)
  | .mp n, x => ∃ b c, ρ[n]? = some (b, c) ∧ x = .map (some b)
  | .yld l, x => x = .func (.yield l) #[] #[]
def relL (M : Mem) (ρ : Ren) : List V → List Value → Prop
  | [], cs => cs = []
  | v :: l, cs => ∃ x r, cs = x :: r ∧ rel M ρ v x ∧ relL M ρ l r
def relRow (M : Mem) (ρ : Ren) (sz : Nat) : List V → Nat → Nat → Prop
  | [], _, _ => True
  | v :: l, b, o => (∃ x : Value, rel M ρ v x ∧ x.cells.size = sz ∧ ∀ j c, x.cells[j]? = some c → M.cell b (o + j) = some c) ∧ relRow M ρ sz l b (o + sz)
end

def Mem.le (M M' : Mem) : Prop := ∀ b o, M b = some o → M' b = some o
theorem Mem.le.refl (M : Mem) : M.le M := fun _ _ h => h
theorem Mem.le.trans {A B C : Mem} (h : A.le B) (k : B.le C) : A.le C := fun b o e => k b o (h b o e)
theorem Mem.le.cell {M M' : Mem} (h : M.le M') {b o : Nat} {c : Value} (e : M.cell b o = some c) : M'.cell b o = some c := by
  unfold Mem.cell at *
  cases hb : M b with
  | none => simp [hb] at e
  | some ob => rw [h b ob hb]; rw [hb] at e; exact e

theorem pre_get {ρ ρ' : Ren} (h : ρ <+: ρ') {n : Nat} {x : Nat × Nat} (e : ρ[n]? = some x) : ρ'[n]? = some x := by
  obtain ⟨t, rfl⟩ := h
  have hn : n < ρ.length := (List.getElem?_eq_some_iff.1 e).1
  rw [List.getElem?_append_left hn]; exact e

section
variable {M M' : Mem} {ρ ρ' : Ren}
mutual
theorem rel_mono (hM : M.le M') (hρ : ρ <+: ρ') : ∀ (v : V) (x : Value), rel M ρ v x → rel M' ρ' v x
  | .i .., _, h => by simpa [rel] using h
  | .b .., _, h => by simpa [rel] using h
  | .s .., _, h => by simpa [rel] using h
  | .nilp, _, h => by simpa [rel] using h
  | .nils, _, h => by simpa [rel] using h
  | .nilf, _, h => by simpa [rel] using h
  | .nili, _, h => by simpa [rel] using h
  | .nilm, _, h => by simpa [rel] using h
  | .emp, _, h => by simpa [rel] using h
  | .gp .., _, h => by simpa [rel] using h
  | .yld .., _, h => by simpa [rel] using h
  | .agg l, x, h => by
    simp only [rel] at h ⊢
    obtain ⟨cs, e, k⟩ := h
    exact ⟨cs, e, relL_mono hM hρ l cs k⟩
  | .tup l, x, h => by
    simp only [rel] at h ⊢
    obtain ⟨cs, e, k⟩ := h
    exact ⟨cs, e, relL_mono hM hρ l cs k⟩
  | .fn g l, x, h => by
    simp only [rel] at h ⊢
    obtain ⟨cs, e, k⟩ := h
    exact ⟨cs, e, relL_mono hM hρ l cs k⟩
  | .ptr n off, x, h => by
    simp only [rel] at h ⊢
    obtain ⟨b, c, e, k⟩ := h
    exact ⟨b, c, pre_get hρ e, k⟩
  | .mp n, x, h => by
    simp only [rel] at h ⊢
    obtain ⟨b, c, e, k⟩ := h
    exact ⟨b, c, pre_get hρ e, k⟩
  | .sl n sz off len cap, x, h => by
    simp only [rel] at h ⊢
    obtain ⟨b, c, k, e, r⟩ := h
    exact ⟨b, c, k, pre_get hρ e, r⟩
  | .ifc t v, x, h => by
    simp only [rel] at h ⊢
    obtain ⟨y, e, k⟩ := h
    exact ⟨y, e, rel_mono hM hρ v y k⟩
  | .isl sz l, x, h => by
    simp only [rel] at h ⊢
    obtain ⟨a, k, e, hk, hr⟩ := h
    refine ⟨a, k, e, hk, fun hl => ?_⟩
    obtain ⟨b, o, ha, hr⟩ := hr hl
    exact ⟨b, o, ha, relRow_mono hM hρ sz l b o hr⟩
  | .ipt sz l i off, x, h => by
    simp only [rel] at h ⊢
    obtain ⟨b, o, ha, hr⟩ := h
    exact ⟨b, o, ha, relRow_mono hM hρ sz l b o hr⟩
theorem relL_mono (hM : M.le M') (hρ : ρ <+: ρ') : ∀ (l : List V) (cs : List Value), relL M ρ l cs → relL M' ρ' l cs
  | [], _, h => by simpa [relL] using h
  | v :: l, cs, h => by
    simp only [relL] at h ⊢
    obtain ⟨x, r, e, hx, hr⟩ := h
    exact ⟨x, r, e, rel_mono hM hρ v x hx, relL_mono hM hρ l r hr⟩
theorem relRow_mono (hM : M.le M') (hρ : ρ <+: ρ') (sz : Nat) : ∀ (l : List V) (b o : Nat), relRow M ρ sz l b o → relRow M' ρ' sz l b o
  | [], _, _, _ => by simp [relRow]
  | v :: l, b, o, h => by
    simp only [relRow] at h ⊢
    obtain ⟨⟨x, hx, hs, hc⟩, hr⟩ := h
    exact ⟨⟨x, rel_mono hM hρ v x hx, hs, fun j c hj => hM.cell (hc j c hj)⟩, relRow_mono hM hρ sz l b (o + sz) hr⟩
end

theorem relL_length : ∀ {l : List V} {cs : List Value}, relL M ρ l cs → cs.length = l.length
  | [], cs, h => by simp only [relL] at h; subst h; rfl
  | v :: l, cs, h => by
    simp only [relL] at h
    obtain ⟨x, r, rfl, _, hr⟩ := h
    simp [relL_length hr]
theorem relL_nil : relL M ρ [] [] := by simp [relL]
theorem relL_cons {v : V} {x : Value} {l : List V} {cs : List Value} (h : rel M ρ v x) (k : relL M ρ l cs) : relL M ρ (v :: l) (x :: cs) := by
  simp only [relL]; exact ⟨x, cs, rfl, h, k⟩
theorem relL_cons_inv {v : V} {x : Value} {l : List V} {cs : List Value} (h : relL M ρ (v :: l) (x :: cs)) : rel M ρ v x ∧ relL M ρ l cs := by
  simp only [relL] at h
  obtain ⟨y, r, e, hx, hr⟩ := h
  cases e
  exact ⟨hx, hr⟩
theorem relL_get : ∀ {l : List V} {cs : List Value} (_ : relL M ρ l cs) {i : Nat} {v : V}, l[i]? = some v → ∃ x, cs[i]? = some x ∧ rel M ρ v x
  | [], _, _, i, v, e => by simp at e
  | u :: l, cs, h, i, v, e => by
    simp only [relL] at h
    obtain ⟨x, r, rfl, hx, hr⟩ := h
    cases i with
    | zero => simp at e; subst e; exact ⟨x, rfl, hx⟩
    | succ i => simp at e ⊢; exact relL_get hr e
theorem relL_append : ∀ {l l' : List V} {cs cs' : List Value}, relL M ρ l cs → relL M ρ l' cs' → relL M ρ (l ++ l') (cs ++ cs')
  | [], _, cs, _, h, k => by simp only [relL] at h; subst h; simpa using k
  | v :: l, l', cs, cs', h, k => by
    simp only [relL] at h
    obtain ⟨x, r, rfl, hx, hr⟩ := h
    exact relL_cons hx (relL_append hr k)
theorem relL_drop : ∀ (n : Nat) {l : List V} {cs : List Value}, relL M ρ l cs → relL M ρ (l.drop n) (cs.drop n)
  | 0, _, _, h => by simpa using h
  | n + 1, [], cs, h => by simp only [relL] at h; subst h; simp [relL]
  | n + 1, v :: l, cs, h => by
    simp only [relL] at h
    obtain ⟨x, r, rfl, hx, hr⟩ := h
    simpa using relL_drop n hr
theorem relL_take : ∀ (n : Nat) {l : List V} {cs : List Value}, relL M ρ l cs → relL M ρ (l.take n) (cs.take n)
  | 0, _, _, h => by simp [relL]
  | n + 1, [], cs, h => by simp only [relL] at h; subst h; simp [relL]
  | n + 1, v :: l, cs, h => by
    simp only [relL] at h
    obtain ⟨x, r, rfl, hx, hr⟩ := h
    simpa using relL_cons hx (relL_take n hr)
theorem relL_set : ∀ (n : Nat) {l : List V} {cs : List Value} {v : V} {x : Value}, relL M ρ l cs → rel M ρ v x → relL M ρ (l.set n v) (cs.set n x)
  | _, [], cs, v, x, h, _ => by simp only [relL] at h; subst h; simp [relL]
  | 0, u :: l, cs, v, x, h, hv => by
    simp only [relL] at h
    obtain ⟨y, r, rfl, hy, hr⟩ := h
    exact relL_cons hv hr
  | n + 1, u :: l, cs, v, x, h, hv => by
    simp only [relL] at h
    obtain ⟨y, r, rfl, hy, hr⟩ := h
    exact relL_cons hy (relL_set n hr hv)
theorem relL_replicate (n : Nat) {v : V} {x : Value} (h : rel M ρ v x) : relL M ρ (List.replicate n v) (List.replicate n x) := by
  induction n with
  | zero => simp [relL]
  | succ n ih => exact relL_cons h ih
theorem relL_splice {l x : List V} {cs ys : List Value} (off : Nat) (h : relL M ρ l cs) (k : relL M ρ x ys) : relL M ρ (splice l off x) (cs.take off ++ ys ++ cs.drop (off + ys.length)) := by
  unfold splice
  rw [relL_length k]
  exact relL_append (relL_append (relL_take off h) k) (relL_drop _ h)
theorem relL_of_get : ∀ {l : List V} {cs : List Value}, cs.length = l.length → (∀ (i : Nat) (v : V) (x : Value), l[i]? = some v → cs[i]? = some x → rel M ρ v x) → relL M ρ l cs
  | [], cs, hl, _ => by simp only [relL]; exact List.eq_nil_of_length_eq_zero hl
  | v :: l, [], hl, _ => by simp at hl
  | v :: l, x :: cs, hl, h => relL_cons (h 0 v x rfl rfl) (relL_of_get (by simpa using hl) (fun i v x hi hx => h (i + 1) v x (by simpa using hi) (by simpa using hx)))

theorem rel_undef : rel M ρ .un undef := by simp only [rel]; exact ⟨[], rfl, relL_nil⟩

theorem ofSc_rel {v : Value} {x : V} (h : ofSc v = some x) : rel M ρ x v := by
  unfold ofSc at h
  split at h <;> first | (cases h; simp [rel, relL]) | cases h
theorem ofScs_rel : ∀ {l : List Value} {xs : List V}, ofScs l = some xs → relL M ρ xs l
  | [], xs, h => by simp only [ofScs, Option.some.injEq] at h; subst h; simp [relL]
  | v :: r, xs, h => by
    simp only [ofScs] at h
    split at h
    · rename_i x l hx hl
      cases h
      exact relL_cons (ofSc_rel hx) (ofScs_rel hl)
    · cases h
theorem ofVal_rel {v : Value} {x : V} (h : ofVal v = some x) : rel M ρ x v := by
  unfold ofVal at h
  split at h
  · rename_i cs
    cases hc : ofScs cs.toList with
    | none => simp [hc] at h
    | some l =>
      simp [hc] at h
      subst h
      simp only [rel]
      exact ⟨cs.toList, by simp, ofScs_rel hc⟩
  · exact ofSc_rel h

/-- What the temporaries hold is what the frame's hold. -/
def relT (M : Mem) (ρ : Ren) (t : Env) (tmps : Array Value) : Prop := ∀ k, rel M ρ (t k) (tmps.getD k undef)
theorem relT_mono (hM : M.le M') (hρ : ρ <+: ρ') {t : Env} {tmps : Array Value} (h : relT M ρ t tmps) : relT M' ρ' t tmps := fun k => rel_mono hM hρ _ _ (h k)
def relTm (M : Mem) (ρ : Ren) (t : Tm) (tmps : Array Value) : Prop := t.wid = tmps.size ∧ relT M ρ t.get tmps
theorem relTm_mono (hM : M.le M') (hρ : ρ <+: ρ') {t : Tm} {tmps : Array Value} (h : relTm M ρ t tmps) : relTm M' ρ' t tmps := ⟨h.1, relT_mono hM hρ h.2⟩
theorem ev1_rel {t : Env} {a : Act} (h : relT M ρ t a.tmps) {o : Operand} {v : V} (e : ev1 t o = some v) : rel M ρ v (a.eval o) := by
  cases o with
  | tmp k =>
    simp only [ev1, Option.some.injEq] at e
    subst e
    exact h k
  | const v => exact ofVal_rel e
  | global g => simp only [ev1, Option.some.injEq] at e; subst e; simp [rel, Act.eval]
  | func f => simp only [ev1, Option.some.injEq] at e; subst e; simp [rel, Act.eval, relL]
theorem evs_rel {t : Env} {a : Act} (h : relT M ρ t a.tmps) : ∀ {l : List Operand} {vs : List V}, evs t l = some vs → relL M ρ vs (l.map a.eval)
  | [], vs, e => by simp only [evs, Option.some.injEq] at e; subst e; simp [relL]
  | o :: r, vs, e => by
    simp only [evs] at e
    split at e
    · rename_i x l hx hl
      cases e
      exact relL_cons (ev1_rel h hx) (evs_rel h hl)
    · cases e
theorem put_relT {t : Env} {a : Act} (h : relT M ρ t a.tmps) {v : V} {x : Value} (hv : rel M ρ v x) (d : Option Tmp) (hd : ∀ e, d = some e → e < a.tmps.size) : relT M ρ (put t d v) (a.put d x).tmps := by
  cases d with
  | none => exact h
  | some d =>
    intro k
    have hd := hd d rfl
    simp only [put, Act.put, Array.getD_eq_getD_getElem?, Array.getElem?_setIfInBounds]
    by_cases e : k = d
    · subst e; simpa [hd] using hv
    · have e' : ¬ d = k := fun h => e h.symm
      simpa [e, e', Array.getD_eq_getD_getElem?] using h k
theorem fits_lt {t : Tm} {d : Option Tmp} (h : t.fits d = true) : ∀ e, d = some e → e < t.wid := by
  intro e he
  subst he
  simpa [Tm.fits, Nat.blt_eq] using h
theorem put_rel {t : Tm} {a : Act} (h : relTm M ρ t a.tmps) {v : V} {x : Value} (hv : rel M ρ v x) (d : Option Tmp) (hd : t.fits d = true) : relTm M ρ (t.put d v) (a.put d x).tmps := by
  refine ⟨?_, ?_⟩
  · rw [Tm.wid_put, h.1]; cases d <;> simp [Act.put]
  · rw [Tm.get_put]; exact put_relT h.2 hv d (by have := fits_lt hd; rwa [h.1] at this)

/-- The cells of a value. -/
theorem rel_cells {v : V} {x : Value} (h : rel M ρ v x) : relL M ρ v.cells x.cells.toList := by
  cases v with
  | agg l =>
    simp only [rel] at h
    obtain ⟨cs, rfl, h⟩ := h
    simpa [V.cells, Value.cells] using h
  | _ =>
    have : x.cells = #[x] := by
      simp only [rel] at h
      first
        | (subst h; rfl)
        | (obtain ⟨_, rfl, _⟩ := h; rfl)
        | (obtain ⟨_, _, _, rfl⟩ := h; rfl)
        | (obtain ⟨_, _, _, _, rfl, _⟩ := h; rfl)
        | (obtain ⟨_, _, rfl⟩ := h; rfl)
        | (obtain ⟨_, _, rfl, _⟩ := h; rfl)
    rw [this]
    exact relL_cons h relL_nil
/-- What is flat is no struct and no tuple. -/
theorem flat_one {v : V} {x : Value} (h : rel M ρ v x) (hf : flat v = true) : (∀ cs, x ≠ .agg cs) ∧ ∀ cs, x ≠ .tuple cs := by
  cases v <;> simp only [rel] at h <;> first
    | (simp [flat] at hf; done)
    | (subst h; simp)
    | (obtain ⟨_, rfl, _⟩ := h; simp)
    | (obtain ⟨_, _, _, rfl⟩ := h; simp)
    | (obtain ⟨_, _, _, _, rfl, _⟩ := h; simp)
    | (obtain ⟨_, _, rfl⟩ := h; simp)
    | (obtain ⟨_, _, rfl, _⟩ := h; simp)
end

/-- The entries of a map. -/
def relM (M : Mem) (ρ : Ren) : List V → List MapEntry → Prop
  | k :: v :: l, es => ∃ e r, es = e :: r ∧ rel M ρ k e.key ∧ rel M ρ v e.val ∧ relM M ρ l r
  | [_], _ => False
  | [], es => es = []
theorem relM_mono {M M' : Mem} {ρ ρ' : Ren} (hM : M.le M') (hρ : ρ <+: ρ') : ∀ (l : List V) (es : List MapEntry), relM M ρ l es → relM M' ρ' l es
  | k :: v :: l, es, h => by
    simp only [relM] at h ⊢
    obtain ⟨e, r, he, hk, hv, hr⟩ := h
    exact ⟨e, r, he, rel_mono hM hρ _ _ hk, rel_mono hM hρ _ _ hv, relM_mono hM hρ l r hr⟩
  | [_], _, h => by simp only [relM] at h
  | [], es, h => by simpa [relM] using h
/-- A block in memory. -/
def BlkOK (M : Mem) (ρ : Ren) (ob : Option Obj) (blk : Blk) (c : Nat) : Prop :=
  match blk.kind with
  | .map => ∃ (es : List MapEntry) (clock : Nat), ob = some (.map es.toArray clock) ∧ relM M ρ blk.cells es
  | k => ∃ cs cs' : List Value, (cs ++ cs').length = c ∧ ob = some (.cells (cs ++ cs').toArray blk.ty (0, 0)) ∧ relL M ρ blk.cells cs ∧ (k = .all → cs' = [])
theorem BlkOK.mono {M M' : Mem} {ρ ρ' : Ren} (hM : M.le M') (hρ : ρ <+: ρ') {ob : Option Obj} {blk : Blk} {c : Nat} (h : BlkOK M ρ ob blk c) : BlkOK M' ρ' ob blk c := by
  unfold BlkOK at h ⊢
  split at h
  · obtain ⟨es, clock, h1, h2⟩ := h
    exact ⟨es, clock, h1, relM_mono hM hρ _ _ h2⟩
  · obtain ⟨cs, cs', h1, h2, h3, h4⟩ := h
    exact ⟨cs, cs', h1, h2, relL_mono hM hρ _ _ h3, h4⟩
theorem BlkOK.cells {M : Mem} {ρ : Ren} {ob : Option Obj} {blk : Blk} {c : Nat} (h : BlkOK M ρ ob blk c) (hk : blk.kind ≠ .map) :
    ∃ cs cs' : List Value, (cs ++ cs').length = c ∧ ob = some (.cells (cs ++ cs').toArray blk.ty (0, 0)) ∧ relL M ρ blk.cells cs ∧ (blk.kind = .all → cs' = []) := by
  unfold BlkOK at h
  split at h
  · rename_i e; exact absurd e hk
  · exact h
theorem BlkOK.of_cells {M : Mem} {ρ : Ren} {ob : Option Obj} {blk : Blk} {c : Nat} (hk : blk.kind ≠ .map) (h : ∃ cs cs' : List Value, (cs ++ cs').length = c ∧ ob = some (.cells (cs ++ cs').toArray blk.ty (0, 0)) ∧ relL M ρ blk.cells cs ∧ (blk.kind = .all → cs' = [])) : BlkOK M ρ ob blk c := by
  unfold BlkOK
  split
  · rename_i e; exact absurd e hk
  · exact h

/-- The world holds what the abstract heap says. -/
structure SR (T : Tab) (M : Mem) (ρ : Ren) (H : Heap) (w : World) : Prop where
  frozen : ∀ b o, M b = some o → w.heap[b]? = some o
  len : ρ.length = H.length
  blk : ∀ (n : Nat) (blk : Blk), H[n]? = some (some blk) → ∃ b c, ρ[n]? = some (b, c) ∧ M b = none ∧ b < w.heap.size ∧ BlkOK M ρ w.heap[b]? blk c
  inj : ∀ (n m : Nat) (x y : Blk) (b c c' : Nat), H[n]? = some (some x) → H[m]? = some (some y) → ρ[n]? = some (b, c) → ρ[m]? = some (b, c') → n = m
  glob : ∀ g l, T.glob g = some l → ∃ (cs : List Value) (ty : TypeId) (fr : Nat × Nat), M g = some (.cells cs.toArray ty fr) ∧ relL M ρ l cs
theorem cellsAt_some {H : Heap} {n : Nat} {blk : Blk} (h : cellsAt H n = some blk) : H[n]? = some (some blk) ∧ blk.kind ≠ .map := by
  unfold cellsAt at h
  split at h
  · rename_i b hb
    split at h
    · cases h
    · rename_i hk; cases h; exact ⟨hb, hk⟩
  · cases h
theorem cellsAt_of {H : Heap} {n : Nat} {blk : Blk} (h : H[n]? = some (some blk)) (hk : blk.kind ≠ .map) : cellsAt H n = some blk := by simp [cellsAt, h, hk]
theorem SR.cells {T : Tab} {M : Mem} {ρ : Ren} {H : Heap} {w : World} (h : SR T M ρ H w) {n : Nat} {blk : Blk} (hb : cellsAt H n = some blk) : ∃ b c, ∃ cs cs' : List Value, ρ[n]? = some (b, c) ∧ M b = none ∧ (cs ++ cs').length = c ∧
    w.heap[b]? = some (.cells (cs ++ cs').toArray blk.ty (0, 0)) ∧ relL M ρ blk.cells cs ∧ (blk.kind = .all → cs' = []) := by
  obtain ⟨h1, h2⟩ := cellsAt_some hb
  obtain ⟨b, c, hr, hM, _, hok⟩ := h.blk n blk h1
  obtain ⟨cs, cs', h3, h4, h5, h6⟩ := hok.cells h2
  exact ⟨b, c, cs, cs', hr, hM, h3, h4, h5, h6⟩

/-- From one state to a later one. -/
structure Ext (M : Mem) (ρ : Ren) (w : World) (M' : Mem) (ρ' : Ren) (w' : World) : Prop where
  os : w'.os = w.os
  tape : w'.tape = w.tape
  output : w'.output = w.output
  size : w.heap.size ≤ w'.heap.size
  mem : M.le M'
  pre : ρ <+: ρ'
  frame : ∀ b, b < w.heap.size → (∀ c, (b, c) ∉ ρ) → w'.heap[b]? = w.heap[b]?
  newM : ∀ b, b < w.heap.size → (∀ c, (b, c) ∉ ρ) → M' b = M b
  newR : ∀ b c, (b, c) ∈ ρ' → (∃ c', (b, c') ∈ ρ) ∨ w.heap.size ≤ b

theorem Ext.refl (M : Mem) (ρ : Ren) (w : World) : Ext M ρ w M ρ w :=
  ⟨rfl, rfl, rfl, Nat.le_refl _, Mem.le.refl _, List.prefix_refl _, fun _ _ _ => rfl, fun _ _ _ => rfl, fun _ c h => .inl ⟨c, h⟩⟩
theorem Ext.trans {M M' M'' : Mem} {ρ ρ' ρ'' : Ren} {w w' w'' : World} (h : Ext M ρ w M' ρ' w') (k : Ext M' ρ' w' M'' ρ'' w'') : Ext M ρ w M'' ρ'' w'' where
  os := k.os.trans h.os
  tape := k.tape.trans h.tape
  output := k.output.trans h.output
  size := Nat.le_trans h.size k.size
  mem := h.mem.trans k.mem
  pre := h.pre.trans k.pre
  frame b hb hn := (k.frame b (Nat.lt_of_lt_of_le hb h.size) (fun c hc => by
    rcases h.newR b c hc with ⟨c', h'⟩ | h'
    · exact hn c' h'
    · omega)).trans (h.frame b hb hn)
  newM b hb hn := (k.newM b (Nat.lt_of_lt_of_le hb h.size) (fun c hc => by
    rcases h.newR b c hc with ⟨c', h'⟩ | h'
    · exact hn c' h'
    · omega)).trans (h.newM b hb hn)
  newR b c hc := by
    rcases k.newR b c hc with ⟨c', h'⟩ | h'
    · exact h.newR b c' h'
    · exact .inr (Nat.le_trans h.size h')
theorem Ext.drew (M : Mem) (ρ : Ren) (w : World) : Ext M ρ w M ρ { w with drawn := w.drawn + 1 } :=
  ⟨rfl, rfl, rfl, Nat.le_refl _, Mem.le.refl _, List.prefix_refl _, fun _ _ _ => rfl, fun _ _ _ => rfl, fun _ c h => .inl ⟨c, h⟩⟩
theorem SR.drew {T : Tab} {M : Mem} {ρ : Ren} {H : Heap} {w : World} (h : SR T M ρ H w) : SR T M ρ H { w with drawn := w.drawn + 1 } := ⟨h.frozen, h.len, h.blk, h.inj, h.glob⟩

end Go.Ev
