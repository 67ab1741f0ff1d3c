/- Triples for loops over functions, facts of functions on heaps, regions that draw their order and turn the heap. Facts of functions that return a number or a truth. Small and Equal, for all trees. Walks over the copying of a tree. A copy of a tree is the tree. Walks over the steps along a path. -/
import Derived.Test.YtddpjgoboboidaaGreatDoorKEvIter2
import Derived.ProofKit
namespace Go.Ev
open Go Go.Proofs
set_option linter.unusedSimpArgs false
set_option linter.unusedVariables false
set_option maxRecDepth 100000
open Go Go.RowKit
section
variable {P : Program} {T : Tab} {M0 M M' : Mem} {ρ0 ρ ρ' : Ren} {w0 w w' : World} {ms : List Nat} {t t' : Tm} {H H' : Heap} {hs hs' xs : List HE} {a a' : Act} {r : Option Nat} {c x y : Code} {id : Nat} {Q : Out → List HE → Prop}
theorem StX.take {D : Nat} (h : StX T M0 ρ0 w0 M ρ (D :: ms) t H hs a w) (hd : a'.defers = ms.map mark) (ht : a'.tmps = a.tmps) : StX T M0 ρ0 w0 M ρ ms t H hs a' (w.putObj D (.deferred none)) := by
  obtain ⟨k1, k2⟩ := h.marks D (by simp)
  have hnd := h.nd
  rw [List.cons_append, List.nodup_cons] at hnd
  refine ⟨ext_put h.ext k1, sr_put h.sr k2, ht ▸ h.tm, ?_, hd, ?_, hnd.2⟩
  · intro e he
    obtain ⟨j1, j2, j3⟩ := h.hid e he
    refine ⟨j1, j2.other ?_, j3⟩
    intro e2
    exact hnd.1 (List.mem_append_right _ (e2 ▸ List.mem_map_of_mem he))
  · intro D' hD'
    obtain ⟨j1, j2⟩ := h.marks D' (by simp [hD'])
    refine ⟨j1, j2.other ?_⟩
    intro e2
    exact hnd.1 (List.mem_append_left _ (e2 ▸ hD'))
def PostC (T : Tab) (M0 : Mem) (ρ0 : Ren) (w0 : World) (M : Mem) (ρ : Ren) (v : V) (H : Heap) (hs : List HE) (e : Ending) (w' : World) : Prop :=
  ∃ x M' ρ', e = .returned x ∧ M.le M' ∧ ρ <+: ρ' ∧ rel M' ρ' v x ∧ StX T M0 ρ0 w0 M' ρ' [] (Tm.init 0 []) H hs { tmps := #[], defers := [] } w'
theorem leaves_marks (hT : TOk P T) {n : Nat} {fn : Func} {v : V} (hf : finish T fn t.get H = .val v H) (h1 : M.le M') (h2 : ρ <+: ρ') : ∀ (ms : List Nat) (a : Act) (w : World), StX T M0 ρ0 w0 M' ρ' ms t H hs a w →
    LeavesInM (FR none) n P fn a.tmps (PostC T M0 ρ0 w0 M ρ v H hs) a.defers .returning w
  | [], a, w, s => by
    rw [s.defs]
    obtain ⟨_, x, hx, hr⟩ := results_ok hT s.sr s.tm.2 hf
    exact ⟨x, hx, x, M', ρ', rfl, h1, h2, hr, ⟨s.ext, s.sr, relTm_zero, s.hid, rfl, by simp, s.nd⟩⟩
  | D :: ms, a, w, s => by
    have k := s.marks D (by simp)
    have ih := leaves_marks (n := n) hT hf h1 h2 ms { a with defers := ms.map mark } _ (s.take rfl rfl)
    rw [s.defs]
    exact ⟨by simp, .inl ⟨D, _, rfl, run_takeDeferred k.2.at_, ih⟩⟩
theorem calls_of_triGX (hT : TOk P T) {f : FuncId} {fn : Func} {vs : List V} {args : List Value} {o : Out} {v : V} {n : Nat} (hf : P.funcs[f]? = some fn) (hb : fn.body = some c) (hle : vs.length ≤ fn.ntmps)
    (h : TriGX P T none hs c (Tm.init fn.ntmps vs) H o hs') (ho : (∃ tI, (o = .norm tI H' ∨ o = .ret tI H') ∧ finish T fn tI.get H' = .val v H')) (hr : relL M ρ vs args)
    (s : StX T M0 ρ0 w0 M ρ [] t H (hs ++ xs) a w) : CallsIn (FR none) n P f args.toArray w (PostC T M0 ρ0 w0 M ρ v H' (hs' ++ xs)) := by
  obtain ⟨tI, ho, hfin⟩ := ho
  refine callsIn_of_wp_marks hf hb trivial ?_ rfl
  have ht0 := relTm_init (M := M) (ρ := ρ) hr hle
  refine wpIn_mono (h n M0 ρ0 w0 M ρ [] xs _ w ⟨s.ext, s.sr, ht0, s.hid, rfl, by simp, s.nd⟩) ?_
  intro e a' w' hp
  have key : Behind T M0 ρ0 w0 M ρ tI H' (hs' ++ xs) a' w' → LeavesInM (FR none) n P fn a'.tmps (PostC T M0 ρ0 w0 M ρ v H' (hs' ++ xs)) a'.defers .returning w' := by
    rintro ⟨M', ρ', ms, h1, h2, s'⟩
    exact leaves_marks hT hfin h1 h2 ms a' w' s'
  rcases ho with rfl | rfl
  · cases e <;> first
      | exact hp.elim
      | exact key hp
  · cases e <;> first
      | exact hp.elim
      | exact key hp
def HLe (H2 H : Heap) : Prop := H2.length = H.length ∧ ∀ (i : Nat) (b : Blk), H2[i]? = some (some b) → H[i]? = some (some b)
theorem HLe.refl (H : Heap) : HLe H H := ⟨rfl, fun _ _ h => h⟩
theorem SR.less {H2 : Heap} (h : HLe H2 H) (hS : SR T M ρ H w) : SR T M ρ H2 w where
  frozen := hS.frozen
  len := hS.len.trans h.1.symm
  blk n b hn := hS.blk n b (h.2 n b hn)
  inj n m x y b c c' h1 h2 := hS.inj n m x y b c c' (h.2 n x h1) (h.2 m y h2)
  glob := hS.glob
theorem StX.less {H2 : Heap} (h : HLe H2 H) (s : StX T M0 ρ0 w0 M ρ ms t H hs a w) : StX T M0 ρ0 w0 M ρ ms t H2 hs a w := ⟨s.ext, SR.less h s.sr, s.tm, s.hid, s.defs, s.marks, s.nd⟩
def RangeQ (T : Tab) (fn : Func) (l : Nat) (ts : Array Value) (t : Tm) (oz : Out) (hsz : List HE) : Out → List HE → Prop := fun o hs' =>
  ∃ (rec : Loop) (HI H2 : Heap) (v : V), HLe H2 HI ∧ (∃ tI, (o = .norm tI HI ∨ o = .ret tI HI) ∧ finish T fn tI.get HI = .val v HI) ∧ hs' = ⟨l, .loop rec, t, ts⟩ :: hsz ∧ rec.state ≠ .busy ∧
    ((rec.pending = none ∧ oz = .norm t H2) ∨ (rec.pending = some .ret ∧ oz = .ret t H2) ∨ ∃ id, rec.pending = some (.exit id) ∧ oz = .exit id t H2)
theorem unused (hS : SR T M ρ H w) (hH : H.all Option.isSome = true) : ∀ k, w.heap.size ≤ k → M k = none ∧ ∀ c, (k, c) ∉ ρ := by
  intro k hk
  refine ⟨?_, fun c hc => ?_⟩
  · cases h : M k with
    | none => rfl
    | some o =>
      have := hS.frozen k o h
      rw [Array.getElem?_eq_none hk] at this
      cases this
  · obtain ⟨i, hi⟩ := List.mem_iff_getElem?.1 hc
    have hil : i < H.length := by rw [← hS.len]; exact (List.getElem?_eq_some_iff.1 hi).1
    have h2 := List.all_eq_true.1 hH _ (List.getElem_mem hil)
    obtain ⟨blk, hb⟩ := Option.isSome_iff_exists.1 h2
    obtain ⟨b, c', h3, _, h4, _⟩ := hS.blk i blk (by rw [List.getElem?_eq_getElem hil, hb])
    rw [hi] at h3
    cases h3
    omega
theorem TriG.range (hT : TOk P T) {g : Operand} {ps : Array Nat} {assign body cf : Code} {f : FuncId} {caps : List V} {fnf : Func} {gv : Option V} (hg : ev1 t.get g = gv) (hgv : gv = some (.fn f caps)) (hf : P.funcs[f]? = some fnf) (hb : fnf.body = some cf) (hent : Go.Proofs.Enters P f)
    (hle : caps.length + 1 ≤ fnf.ntmps) (hH : H.all Option.isSome = true) {oz : Out} {hsz : List HE} (hQ : Q oz hsz)
    (h : ∀ (l : Nat) (rec : Loop), rec.state = .ready → rec.pending = none → rec.params = ps → rec.assign = assign → rec.body = body → TriG P T none (⟨l, .loop rec, t, rec.tmps⟩ :: hs) cf (Tm.init fnf.ntmps (.yld l :: caps)) H (RangeQ T fnf l rec.tmps t oz hsz)) :
    TriG P T none hs (.rangeFunc g ps assign body) t H Q := by
  subst hgv
  refine ⟨oz, hsz, hQ, fun n M0 ρ0 w0 M ρ ms xs a w s => wpIn_rangeFunc fun fn _ => ?_⟩
  have hv := ev1_rel s.tm.2 hg
  simp only [rel] at hv
  obtain ⟨cs, hcv, hcs⟩ := hv
  obtain ⟨rec, hrec⟩ : ∃ rec : Loop, rec = { state := .ready, pending := none, fn, tmps := a.tmps, params := ps, assign, body, defers := w.heap.size } := ⟨_, rfl⟩
  obtain ⟨l, hl⟩ : ∃ l, w.heap.size + 1 = l := ⟨_, rfl⟩
  obtain ⟨W1, hW1⟩ : ∃ W1, (w.alloc (.deferred (some []))).alloc (.loop rec) = W1 := ⟨_, rfl⟩
  have nun := unused s.sr hH
  have hS1 : SR T M ρ H W1 := by rw [← hW1]; exact sr_alloc (sr_alloc s.sr _) _
  have E1 : Ext M ρ w M ρ W1 := by rw [← hW1]; exact (ext_alloc _).trans (ext_alloc _)
  have hL : Hid l (.loop rec) M ρ W1 := ⟨by
    rw [← hW1, ← hl]
    have := World.alloc_heap_new (w.alloc (.deferred (some []))) (.loop rec)
    rwa [World.size_alloc] at this, (nun l (by omega)).1, (nun l (by omega)).2⟩
  have hK : Hid w.heap.size (.deferred (some [])) M ρ W1 := ⟨by
    rw [← hW1]; exact (Below.heap_alloc _ _ _ (by simp)).trans (World.alloc_heap_new w _), (nun _ (Nat.le_refl _)).1, (nun _ (Nat.le_refl _)).2⟩
  have hw0 : w0.heap.size ≤ w.heap.size := s.ext.size
  have s1 : StX T M0 ρ0 w0 M ρ [] (Tm.init 0 []) H ((⟨l, .loop rec, t, rec.tmps⟩ :: hs) ++ (xs ++ (w.heap.size :: ms).map mE)) { tmps := #[], defers := [] } W1 := by
    have s0 := (s.step E1 (relTm_mono E1.mem E1.pre s.tm) hS1 (a' := a) rfl).down (t' := Tm.init 0 []) (a' := { tmps := #[], defers := [] }) relTm_zero rfl
    have old : ∀ k ∈ ((hs ++ xs) ++ ms.map mE).map HE.l, k < w.heap.size := by
      intro k hk
      rw [List.mem_map] at hk
      obtain ⟨e, he, rfl⟩ := hk
      rcases List.mem_append.1 he with he | he
      · exact (s.hid e he).2.1.lt
      · obtain ⟨D, hD, rfl⟩ := List.mem_map.1 he
        exact (s.marks D hD).2.lt
    refine ⟨s0.ext, s0.sr, s0.tm, ?_, rfl, by simp, ?_⟩
    · intro e he
      simp only [List.cons_append, List.mem_cons, List.mem_append, List.map_cons] at he
      rcases he with rfl | he | he | rfl | he
      · exact ⟨by show w0.heap.size ≤ l; omega, hL, by rw [hrec]; exact s.tm⟩
      · exact s0.hid e (by simp [he])
      · exact s0.hid e (by simp [he])
      · exact ⟨hw0, hK, relTm_zero⟩
      · exact s0.hid e (List.mem_append_right _ he)
    · have hn := s0.nd
      simp only [List.nil_append] at hn ⊢
      have p1 : (((⟨l, .loop rec, t, rec.tmps⟩ :: hs) ++ (xs ++ (w.heap.size :: ms).map mE)).map HE.l).Perm (l :: w.heap.size :: ((hs ++ xs) ++ ms.map mE).map HE.l) := by
        simp only [List.cons_append, List.map_cons, List.map_append, mE]
        refine List.Perm.cons _ ?_
        rw [← List.append_assoc]
        exact List.perm_middle
      rw [p1.nodup_iff, List.nodup_cons, List.nodup_cons]
      refine ⟨?_, ?_, hn⟩
      · intro hm
        rcases List.mem_cons.1 hm with e | hm
        · omega
        · have := old _ hm; omega
      · intro hm
        have := old _ hm; omega
  refine ⟨l, [{ target := .collected w.heap.size, args := #[] }], W1, { target := .fn (.func f) cs.toArray, args := #[.func (.yield l) #[] #[]] }, W1, f,
    #[.func (.yield l) #[] #[]] ++ cs.toArray, W1, ?_, ?_, fun _ _ => trivial, ?_, fun e => (by cases e), ?_⟩
  · rw [← hW1, hrec, ← hl]; exact run_enterLoop_outer _ _ _ _ _
  · have hev : a.eval g = .func (.func f) #[] cs.toArray := hcv
    simp [resolve, hev, Deferred.ofValue]; rfl
  · have := hent (#[.func (.yield l) #[] #[]] ++ cs.toArray) W1
    simpa [invoke] using this
  · obtain ⟨o, hs', ⟨rec', HI, H2, v, hless, hfin, rfl, hbusy, hpend⟩, hbody⟩ := h l rec (by rw [hrec]) (by rw [hrec]) (by rw [hrec]) (by rw [hrec]) (by rw [hrec])
    have hrelI : relL M ρ (.yld l :: caps) (.func (.yield l) #[] #[] :: cs) := relL_cons (by simp only [rel]) hcs
    have hargs : (#[.func (.yield l) #[] #[]] ++ cs.toArray : Array Value) = (.func (.yield l) #[] #[] :: cs).toArray := by apply Array.ext'; simp
    show CallsIn (FR none) (n - 1) P f _ W1 _
    rw [hargs]
    refine CallsIn.mono (calls_of_triGX hT hf hb (by simpa using hle) hbody hfin hrelI s1) ?_
    rintro e w3 ⟨x, M', ρ', rfl, h1, h2, _, s3⟩
    rw [List.cons_append] at s3
    have hE := s3.hid ⟨l, .loop rec', t, rec.tmps⟩ (by simp)
    refine ⟨rec'.pending, _, run_endLoop hE.2.1.at_ hbusy, ?_⟩
    have s4 := s3.turn (.loop { rec' with state := .exhausted })
    have s5 : StX T M0 ρ0 w0 M' ρ' [] (Tm.init 0 []) HI ((hsz ++ xs) ++ (w.heap.size :: ms).map mE) { tmps := #[], defers := [] } (w3.putObj l (.loop { rec' with state := .exhausted })) := by
      rw [List.append_assoc]
      exact StX.sub (k := [_]) s4
    have s6 := s5.up (t' := t) (a' := { a with defers := { target := .collected w.heap.size, args := #[] } :: a.defers }) (relTm_mono h1 h2 s.tm) (by
      show mark w.heap.size :: a.defers = _
      rw [s.defs]; rfl)
    replace s6 := s6.less hless
    obtain ⟨W4, hW4⟩ : ∃ W4, w3.putObj l (.loop { rec' with state := .exhausted }) = W4 := ⟨_, rfl⟩
    rw [hW4] at s6
    show match rec'.pending with | none => _ | some c => _
    rw [hW4]
    rcases hpend with ⟨e, rfl⟩ | ⟨e, rfl⟩ | ⟨id, e, rfl⟩
    · rw [e]
      exact ⟨M', ρ', _, h1, h2, s6⟩
    · rw [e]
      exact wpIn_ret ⟨M', ρ', _, h1, h2, s6⟩
    · rw [e]
      exact wpIn_exit ⟨rfl, M', ρ', _, h1, h2, s6⟩
theorem TriG.range_norm (hT : TOk P T) (Hw : Heap) {g : Operand} {ps : Array Nat} {assign body cf : Code} {f : FuncId} {caps : List V} {fnf : Func} {gv : Option V} (hg : ev1 t.get g = gv) (hgv : gv = some (.fn f caps)) (hf : P.funcs[f]? = some fnf) (hb : fnf.body = some cf) (hent : Go.Proofs.Enters P f)
    (hle : caps.length + 1 ≤ fnf.ntmps) (hH : H.all Option.isSome = true) {hsz : List HE}
    (h : ∀ (l : Nat) (rec : Loop), rec.state = .ready → rec.pending = none → rec.params = ps → rec.assign = assign → rec.body = body → TriG P T none (⟨l, .loop rec, t, rec.tmps⟩ :: hs) cf (Tm.init fnf.ntmps (.yld l :: caps)) H (RangeQ T fnf l rec.tmps t (.norm t Hw) hsz)) (hQ : Q (.norm t Hw) hsz) :
    TriG P T none hs (.rangeFunc g ps assign body) t H Q :=
  TriG.range hT hg hgv hf hb hent hle hH hQ h
theorem TriG.range_ret (hT : TOk P T) (Hw : Heap) {g : Operand} {ps : Array Nat} {assign body cf : Code} {f : FuncId} {caps : List V} {fnf : Func} {gv : Option V} (hg : ev1 t.get g = gv) (hgv : gv = some (.fn f caps)) (hf : P.funcs[f]? = some fnf) (hb : fnf.body = some cf) (hent : Go.Proofs.Enters P f)
    (hle : caps.length + 1 ≤ fnf.ntmps) (hH : H.all Option.isSome = true) {hsz : List HE}
    (h : ∀ (l : Nat) (rec : Loop), rec.state = .ready → rec.pending = none → rec.params = ps → rec.assign = assign → rec.body = body → TriG P T none (⟨l, .loop rec, t, rec.tmps⟩ :: hs) cf (Tm.init fnf.ntmps (.yld l :: caps)) H (RangeQ T fnf l rec.tmps t (.ret t Hw) hsz)) (hQ : Q (.ret t Hw) hsz) :
    TriG P T none hs (.rangeFunc g ps assign body) t H Q :=
  TriG.range hT hg hgv hf hb hent hle hH hQ h
end
open Go Go.RowKit
section
variable {P : Program} {T : Tab} {F : FuncId}
def HFact (P : Program) (T : Tab) (F : FuncId) (vs : List V) (H : Heap) (R : V → Heap → Prop) : Prop :=
  ∃ v H', R v H' ∧ Go.Proofs.Enters P F ∧ ∀ (M : Mem) (ρ : Ren) (w : World) (args : List Value), SR T M ρ H w → relL M ρ vs args → CallOK P T F args.toArray M ρ w (.val v H')
theorem HFact.mono {vs : List V} {H : Heap} {R R' : V → Heap → Prop} (h : HFact P T F vs H R) (hr : ∀ v H', R v H' → R' v H') : HFact P T F vs H R' := by
  obtain ⟨v, H', h1, h2⟩ := h
  exact ⟨v, H', hr v H' h1, h2⟩
def EndsG (T : Tab) (fn : Func) (R : V → Heap → Prop) : Out → List HE → Prop := fun o hs' => ∃ v H', (∃ tI, (o = .norm tI H' ∨ o = .ret tI H') ∧ finish T fn tI.get H' = .val v H') ∧ R v H'
def GBody (P : Program) (T : Tab) (F : FuncId) (vs : List V) (H : Heap) (R : V → Heap → Prop) : Prop :=
  ∃ fn c, T.func F = some fn ∧ fn.body = some c ∧ vs.length ≤ fn.ntmps ∧ TriG P T none [] c (Tm.init fn.ntmps vs) H (EndsG T fn R)
theorem GBody.fact (hT : TOk P T) {vs : List V} {H : Heap} {R : V → Heap → Prop} (h : GBody P T F vs H R) : HFact P T F vs H R := by
  obtain ⟨fn, c, hfn, hc, hle, o, hs', ⟨v, H', ho, hR⟩, hx⟩ := h
  obtain ⟨hf, hent⟩ := hT.func F fn c hfn hc
  refine ⟨v, H', hR, hent, fun M ρ w args hS hr => ?_⟩
  have s : StX T M ρ w M ρ [] (Tm.init 0 []) H ([] ++ []) { tmps := #[], defers := [] } w := ⟨Ext.refl _ _ _, hS, relTm_zero, by simp, rfl, by simp, by simp⟩
  have := calls_of_triGX (n := 0) hT hf hc hle hx ho hr s
  refine Calls.mono (callsIn_wide.1 (by rw [FRw'] at this; exact this)) ?_
  rintro e w' ⟨x, M', ρ', rfl, _, _, hv, s'⟩
  exact ⟨x, M', ρ', rfl, s'.ext, hv, s'.sr⟩
theorem HBody.fact (hT : TOk P T) {vs : List V} {H : Heap} {R : V → Heap → Prop} (h : HBody P T F vs H R) : HFact P T F vs H R := hbody_fact hT h
theorem spec_fact (hT : TOk P T) (F : FuncId) (D : Nat → List V → Heap → Prop) (R : List V → Heap → V → Heap → Prop)
    (h : ∀ k vs H, D k vs H → ∀ g, SpecOK P T F g → (∀ j, j < k → ∀ us J, D j us J → ∃ v J', R us J v J' ∧ g us J = .val v J') → HFact P T F vs H (R vs H)) (K : Nat) :
    ∃ g, SpecOK P T F g ∧ ∀ j, j < K → ∀ vs H, D j vs H → ∃ v H', R vs H v H' ∧ g vs H = .val v H' := by
  classical
  induction K with
  | zero => exact ⟨fun _ _ => .no, fun _ _ _ e hr => absurd e.symm hr, fun j hj => absurd hj (Nat.not_lt_zero j)⟩
  | succ K ih =>
    obtain ⟨g, hg, hgs⟩ := ih
    have hx : ∀ vs H, D K vs H → ∃ p : V × Heap, R vs H p.1 p.2 ∧ Go.Proofs.Enters P F ∧ ∀ (M : Mem) (ρ : Ren) (w : World) (args : List Value), SR T M ρ H w → relL M ρ vs args → CallOK P T F args.toArray M ρ w (.val p.1 p.2) := fun vs H hd => by
      obtain ⟨v, H', h1, h2⟩ := h K vs H hd g hg hgs
      exact ⟨(v, H'), h1, h2⟩
    refine ⟨fun vs H => if hd : D K vs H then .val (hx vs H hd).choose.1 (hx vs H hd).choose.2 else g vs H, ?_, ?_⟩
    · intro vs H r hr hne
      simp only at hr
      split at hr
      · rename_i hd
        obtain ⟨_, h2⟩ := (hx vs H hd).choose_spec
        subst hr
        exact h2
      · exact hg vs H r hr hne
    · intro j hj vs H hd
      by_cases hk : D K vs H
      · exact ⟨_, _, (hx vs H hk).choose_spec.1, dif_pos hk⟩
      · have : j < K := by
          rcases Nat.lt_succ_iff_lt_or_eq.1 hj with h1 | h1
          · exact h1
          · subst h1; exact absurd hd hk
        obtain ⟨v, H', h1, h2⟩ := hgs j this vs H hd
        exact ⟨v, H', h1, (dif_neg hk).trans h2⟩
theorem spec_frz (hp : T.Plain) {g : Spec} (hg : SpecOK P T F g) (D : List V → Prop) (R : List V → V → Prop)
    (h : ∀ vs, D vs → nlL vs = true ∧ ∃ v J k v', g vs [] = .val v J ∧ fz J k v = some v' ∧ R vs v') : ∃ g', SpecOK P T F g' ∧ ∀ vs, D vs → ∃ v', R vs v' ∧ ∀ H, g' vs H = .val v' H := by
  classical
  have hx : ∀ vs, D vs → ∃ v', (∃ v J k, g vs [] = .val v J ∧ fz J k v = some v') ∧ R vs v' := fun vs hd => by
    obtain ⟨_, v, J, k, v', h1, h2, h3⟩ := h vs hd
    exact ⟨v', ⟨v, J, k, h1, h2⟩, h3⟩
  refine ⟨fun vs H => if hd : D vs then .val (hx vs hd).choose H else .no, ?_, ?_⟩
  · intro vs H r hr hne
    simp only at hr
    split at hr
    · rename_i hd
      obtain ⟨⟨v, J, k, h1, h2⟩, _⟩ := (hx vs hd).choose_spec
      obtain ⟨k1, k2⟩ := hg vs [] _ h1 (by simp)
      subst hr
      exact ⟨k1, fun M ρ w args hS hr => CallOK.frame_fz hp hS (k2 M [] w args (hS.forget hp) (nlL_rel vs args (h vs hd).1 hr)) h2⟩
    · exact absurd hr.symm hne
  · intro vs hd
    exact ⟨_, (hx vs hd).choose_spec.2, fun H => dif_pos hd⟩
theorem HFact.spec (hT : TOk P T) {D : List V → Heap → Prop} {R : List V → Heap → V → Heap → Prop} (h : ∀ vs H, D vs H → HFact P T F vs H (R vs H)) : ∃ g, SpecOK P T F g ∧ ∀ vs H, D vs H → ∃ v H', R vs H v H' ∧ g vs H = .val v H' := by
  obtain ⟨g, h1, h2⟩ := spec_fact (P := P) (T := T) hT F (fun _ => D) R (fun _ vs H hd _ _ _ => h vs H hd) 1
  exact ⟨g, h1, h2 0 (by omega)⟩
end
section
variable {P : Program} {T : Tab}
theorem Body.bool {F : FuncId} {vs : List V} {b : Bool} (h : Body P T F vs (.val (.b b))) : EBody P T F vs (fun r => ∃ b : Bool, r = .val (.b b)) := by
  obtain ⟨fn, c, h1, h2, h3, o, ho, hx⟩ := h
  exact ⟨fn, c, h1, h2, h3, o, ⟨_, ⟨b, rfl⟩, ho⟩, hx⟩
theorem EBody.mono {F : FuncId} {vs : List V} {R R' : Res → Prop} (h : EBody P T F vs R) (hr : ∀ r, R r → R' r) : EBody P T F vs R' := by
  obtain ⟨fn, c, h1, h2, h3, o, ⟨r, k1, k2⟩, hx⟩ := h
  exact ⟨fn, c, h1, h2, h3, o, ⟨r, hr r k1, k2⟩, hx⟩
theorem spec_val (hT : TOk P T) (hp : T.Plain) (F : FuncId) {α : Type} (args : α → List V) (ok : α → Prop) (f : α → V) (hnl : ∀ a, ok a → nlL (args a) = true) (hf : ∀ a, nl (f a) = true) (hinj : ∀ a b, args a = args b → f a = f b) (h : ∀ a, ok a → Body P T F (args a) (.val (f a))) :
    ∃ g, SpecOK P T F g ∧ ∀ a, ok a → ∀ H, g (args a) H = .val (f a) H := by
  obtain ⟨g, hg, hs⟩ := spec_pure hT hp F (fun vs => ∃ a, ok a ∧ vs = args a) (fun vs r => ∃ a, args a = vs ∧ r = .val (f a)) (by
    rintro vs ⟨a, ha, rfl⟩
    refine ⟨hnl a ha, by rintro r ⟨b, _, rfl⟩; exact hf b, (h a ha).ex.mono ?_⟩
    rintro r rfl
    exact ⟨a, rfl, rfl⟩)
  refine ⟨g, hg, fun a ha H => ?_⟩
  obtain ⟨r, ⟨b, e, rfl⟩, hr⟩ := hs (args a) ⟨a, ha, rfl⟩
  rw [hr H, hinj b a e]
  rfl
end
abbrev NT : Nat := 1090000
theorem w_here (call : CallF) (F : FuncId) (g : Spec) : ∀ vs H, call.with F g F vs H = g vs H := fun vs H => CallF.with_here call F g vs H
theorem w_other (call : CallF) (F f : FuncId) (g : Spec) (h : (f == F) = false) : ∀ vs H, call.with F g f vs H = call f vs H := fun vs H => CallF.with_other call g vs H h
theorem n0 : CallF.none.Sound Tryz.prog TT := CallF.none_sound
theorem ws {call : CallF} (hc : call.Sound Tryz.prog TT) {F : FuncId} {g : Spec} (hg : SpecOK Tryz.prog TT F g) : (call.with F g).Sound Tryz.prog TT := CallF.with_sound hc hg
theorem sp9 : ∃ g, SpecOK Tryz.prog TT 24 g ∧ ∀ (x : Nd) (m : Int), x.num < NT → ∀ H, g [x.enc, .i .i64 m] H = .val (.i .i64 (sz x m)) H := by
  obtain ⟨g, hg, hs⟩ := spec_rec TT_ok TT_plain 24 (fun k vs => ∃ (x : Nd) (m : Int), x.num = k ∧ x.num < NT ∧ vs = [x.enc, .i .i64 m]) (fun vs r => ∃ (x : Nd) (m : Int), vs = [x.enc, .i .i64 m] ∧ r = .val (.i .i64 (sz x m))) (by
    rintro k vs ⟨x, m, rfl, hx, rfl⟩
    refine ⟨by simp [nlL, nl, Nd.enc_nl], by rintro r ⟨_, _, _, rfl⟩; rfl, fun g hg hrec => ?_⟩
    have hnum := x.num_eq
    have hlen := Nd.numL_length x.kids
    have hN : NT = 1090000 := rfl
    refine (body_9 (ws n0 hg) x m (by omega) (fun y hy q H => ?_)).ex.mono ?_
    · have := Nd.num_mem hy
      obtain ⟨r, ⟨x', m', e, rfl⟩, h⟩ := hrec y.num (by omega) [y.enc, .i .i64 q] ⟨y, q, rfl, by omega, rfl⟩
      simp only [List.cons.injEq, V.i.injEq, and_true, true_and] at e
      have := Nd.enc_inj _ _ e.1
      subst this
      rw [w_here, h, e.2]
      rfl
    · rintro r rfl
      exact ⟨x, m, rfl, rfl⟩) NT
  refine ⟨g, hg, fun x m hx H => ?_⟩
  obtain ⟨r, ⟨x', m', e, rfl⟩, h⟩ := hs x.num hx [x.enc, .i .i64 m] ⟨x, m, rfl, hx, rfl⟩
  simp only [List.cons.injEq, V.i.injEq, and_true, true_and] at e
  have := Nd.enc_inj _ _ e.1
  subst this
  rw [h, e.2]
  rfl
theorem sp7 : ∃ g, SpecOK Tryz.prog TT 15 g ∧ ∀ x : Nd, x.num < NT → ∀ H, g [x.enc] H = .val (.tup [.i .i64 x.num, .i .i64 x.dep]) H := by
  obtain ⟨g, hg, hs⟩ := spec_rec TT_ok TT_plain 15 (fun k vs => ∃ x : Nd, x.num = k ∧ x.num < NT ∧ vs = [x.enc]) (fun vs r => ∃ x : Nd, vs = [x.enc] ∧ r = .val (.tup [.i .i64 x.num, .i .i64 x.dep])) (by
    rintro k vs ⟨x, rfl, hx, rfl⟩
    refine ⟨by simp [nlL, nl, Nd.enc_nl], by rintro r ⟨_, _, rfl⟩; rfl, fun g hg hrec => ?_⟩
    have hnum := x.num_eq
    have hlen := Nd.numL_length x.kids
    have hN : NT = 1090000 := rfl
    refine (body_7 (ws n0 hg) x (by omega) (fun y hy H => ?_)).ex.mono ?_
    · have := Nd.num_mem hy
      obtain ⟨r, ⟨x', e, rfl⟩, h⟩ := hrec y.num (by omega) [y.enc] ⟨y, rfl, by omega, rfl⟩
      simp only [List.cons.injEq, and_true] at e
      have := Nd.enc_inj _ _ e
      subst this
      rw [w_here, h]
      rfl
    · rintro r rfl
      exact ⟨x, rfl, rfl⟩) NT
  refine ⟨g, hg, fun x hx H => ?_⟩
  obtain ⟨r, ⟨x', e, rfl⟩, h⟩ := hs x.num hx [x.enc] ⟨x, rfl, hx, rfl⟩
  simp only [List.cons.injEq, and_true] at e
  have := Nd.enc_inj _ _ e
  subst this
  rw [h]
  rfl
def cellsN : List Nd → List V
  | [] => []
  | .mk k s l :: r => .i .i64 k :: .s s :: .isl 3 (Nd.encL l) :: cellsN r
theorem cellsN_eq : ∀ l : List Nd, (Nd.encL l).flatMap V.cells = cellsN l
  | [] => rfl
  | .mk k s l :: r => by
    have ih := cellsN_eq r
    simp only [Nd.encL, Nd.enc, List.flatMap_cons, V.cells, cellsN, ih]
    rfl
theorem cellsN_flat : ∀ l : List Nd, (cellsN l).all flat = true
  | [] => rfl
  | .mk k s l :: r => by
    have ih := cellsN_flat r
    simp [cellsN, flat, ih]
theorem encL_three (l : List Nd) : ((Nd.encL l).all fun v => decide (v.cells.length = 3)) = true := by
  induction l with
  | nil => rfl
  | cons x l ih => cases x; simpa [Nd.encL, Nd.enc, V.cells] using ih
theorem build_none (H : Heap) : evBuildSlice TT 22 0 [] H = .val (.sl H.length 3 0 0 (some 0)) (H ++ [some ⟨24, [], .all⟩]) := by
  simp only [evBuildSlice, tU, Tryz.underlying22, tS24, tZ24]
  simp [reps, fillV, newB_eq, V.cells]
theorem append_enc (H : Heap) (l : List Nd) (hl : l ≠ []) (hlen : l.length < 1100000) : evAppend TT 22 (.sl H.length 3 0 0 (some 0)) (.isl 3 (Nd.encL l)) (H ++ [some ⟨24, [], .all⟩]) = .val (.sl (H.length + 1) 3 0 l.length none) (H ++ [some ⟨24, [], .all⟩, some ⟨24, cellsN l, .more⟩]) := by
  have h1 := encL_three l
  have h2 := cellsN_flat l
  have h3 := cellsN_eq l
  have h4 : l.length ≠ 0 := by simpa using hl
  have h5 : l.length * 48 ≤ 1099511627776 := by omega
  have h6 : l.length ≤ 1099511627776 := by omega
  have hA : appended TT 24 3 (H ++ [some ⟨24, [], .all⟩]) (.isl 3 (Nd.encL l)) = some (cellsN l, l.length) := by
    simp only [appended, h1, h3, Nd.encL_length, and_self, if_true]
  have hc : cellsAt (H ++ [some ⟨24, [], .all⟩]) H.length = some ⟨24, [], .all⟩ := by simp [cellsAt]
  simp only [evAppend, tU, Tryz.underlying22, tS24, tB24, tZ24, hA, h2]
  rw [if_pos ⟨by decide, rfl, by decide, trivial⟩]
  rw [if_pos ⟨trivial, by omega, by omega⟩]
  simp only [hc, cut, newB_eq]
  have e : ¬ (0 + l.length ≤ 0) := by omega
  simp [h4, e]
theorem body_46n {call : CallF} (hC : call.Sound Tryz.prog TT) (x : Nd) (l : List Nd) (H : Heap) (hap : evAppend TT 22 (.sl H.length 3 0 0 (some 0)) (.isl 3 (Nd.encL (x :: l))) (H ++ [some ⟨24, [], .all⟩]) = .val (.sl (H.length + 1) 3 0 (l.length + 1) none) (H ++ [some ⟨24, [], .all⟩, some ⟨24, cellsN (x :: l), .more⟩]))  : HBody Tryz.prog TT 36 [.isl 3 (Nd.encL (x :: l))] H (fun v K => v = .sl (H.length + 1) 3 0 (l.length + 1) none ∧ K = H ++ [some ⟨24, [], .all⟩, some ⟨24, cellsN (x :: l), .more⟩]) := by
 refine en Tryz.f36 rfl rfl (by simp [Tryz.f36]) 8 rfl fun t hw hg => ?_
 have h0 := hg 0 _ rfl
 clear hg
 try simp only [Nd.enc_eq] at *
 apply rS hC
 · refine gO (by simp [h0, build_none, hap] <;> rfl) ?_
   rfl
 apply sQ
 apply rS hC
 · iterate 2 refine gO (by simp [h0, build_none, hap] <;> rfl) ?_
   rfl
 refine cF (by simp [h0, build_none, hap] <;> rfl) ?_
 apply Tri.skip
 apply sN
 apply rS hC
 · iterate 4 refine gO (by simp [h0, build_none, hap] <;> rfl) ?_
   rfl
 apply Tri.ret
 refine ⟨_, ⟨rfl, rfl⟩, ?_⟩
 simp [Tryz.f36]
theorem body_46e {call : CallF} (hC : call.Sound Tryz.prog TT) (H : Heap) (hap : evAppend TT 22 (.sl H.length 3 0 0 (some 0)) .emp (H ++ [some ⟨24, [], .all⟩]) = .val (.sl H.length 3 0 0 (some 0)) (H ++ [some ⟨24, [], .all⟩]))  : HBody Tryz.prog TT 36 [.emp] H (fun v K => v = .sl H.length 3 0 0 (some 0) ∧ K = H ++ [some ⟨24, [], .all⟩]) := by
 refine en Tryz.f36 rfl rfl (by simp [Tryz.f36]) 8 rfl fun t hw hg => ?_
 have h0 := hg 0 _ rfl
 clear hg
 try simp only [Nd.enc_eq] at *
 apply rS hC
 · refine gO (by simp [h0, build_none, hap] <;> rfl) ?_
   rfl
 apply sQ
 apply rS hC
 · iterate 2 refine gO (by simp [h0, build_none, hap] <;> rfl) ?_
   rfl
 refine cF (by simp [h0, build_none, hap] <;> rfl) ?_
 apply Tri.skip
 apply sN
 apply rS hC
 · iterate 4 refine gO (by simp [h0, build_none, hap] <;> rfl) ?_
   rfl
 apply Tri.ret
 refine ⟨_, ⟨rfl, rfl⟩, ?_⟩
 simp [Tryz.f36]
theorem body_46z {call : CallF} (hC : call.Sound Tryz.prog TT) (H : Heap)  : HBody Tryz.prog TT 36 [.nils] H (fun v K => v = .nils ∧ K = H) := by
 refine en Tryz.f36 rfl rfl (by simp [Tryz.f36]) 8 rfl fun t hw hg => ?_
 have h0 := hg 0 _ rfl
 clear hg
 try simp only [Nd.enc_eq] at *
 apply rS hC
 · refine oA ?_
   rfl
 apply sQ
 apply rS hC
 · iterate 2 refine oA ?_
   rfl
 refine cT (by simp [h0] <;> rfl) ?_
 apply rS hC
 · refine oA ?_
   rfl
 apply Tri.ret
 apply sR
 refine ⟨_, ⟨rfl, rfl⟩, ?_⟩
 simp [Tryz.f36]
open Go
section
variable {step : Oper → Env → Heap → OR} {ops : Array Oper} {H H1 H2 : Heap}
theorem drawRun_val {o : Oper} {r : List Oper} {t : Tm} {v : V} (hw : wants ops o t.get = some true) (hs : step o t.get H = .val v H) (hf : t.fits o.dst = true) {rs : List Rec} {Hs : List Heap} {tf : Tm}
    (h : drawRun step ops r (t.put o.dst v) H = some (rs, Hs, tf)) : drawRun step ops (o :: r) t H = some (⟨o, t.get, v, true, false⟩ :: rs, Hs, tf) := by
  simp only [drawRun, hw, hs, opened_eq, putK_eq, hf, if_true, h, Heap.beq_refl, Bool.not_true, Bool.and_false, Bool.false_eq_true, if_false]
theorem drawRun_eff {o : Oper} {r : List Oper} {t : Tm} {v : V} (he : isEff o.op = true) (hne : Heap.beq H1 H = false) (hw : wants ops o t.get = some true) (hs : step o t.get H = .val v H1) (hf : t.fits o.dst = true) {rs : List Rec} {Hs : List Heap} {tf : Tm}
    (h : drawRun step ops r (t.put o.dst v) H1 = some (rs, Hs, tf)) : drawRun step ops (o :: r) t H = some (⟨o, t.get, v, true, true⟩ :: rs, H :: Hs, tf) := by
  simp only [drawRun, hw, hs, opened_eq, putK_eq, hf, if_true, h, hne, he, Bool.not_false, Bool.and_true]
theorem drawRun_nil {t : Tm} : drawRun step ops [] t H = some ([], [H], t) := rfl
theorem draw_call7 {o0 o1 o2 o3 o4 o5 o6 : Oper} {t : Tm} {v0 v1 v2 v3 v4 v5 v6 : V} (hops : ops.toList = [o0, o1, o2, o3, o4, o5, o6]) (hst : drawStat ops.toList ops (masks ops.toList []) = true) (hm : masks ops.toList [] = [0, 1, 0, 0, 8, 31, 63])
    (w0 : wants ops o0 t.get = some true) (s0 : step o0 t.get H = .val v0 H) (f0 : t.fits o0.dst = true) (l0 : looks o0.op = false)
    {t1 : Tm} (e1 : t1 = t.put o0.dst v0) (w1 : wants ops o1 t1.get = some true) (s1 : step o1 t1.get H = .val v1 H) (f1 : t1.fits o1.dst = true) (s1' : step o1 t1.get H1 = .val v1 H1)
    {t2 : Tm} (e2 : t2 = t1.put o1.dst v1) (w2 : wants ops o2 t2.get = some true) (s2 : step o2 t2.get H = .val v2 H) (f2 : t2.fits o2.dst = true) (l2 : looks o2.op = false)
    {t3 : Tm} (e3 : t3 = t2.put o2.dst v2) (w3 : wants ops o3 t3.get = some true) (s3 : step o3 t3.get H = .val v3 H) (f3 : t3.fits o3.dst = true)
    {t4 : Tm} (e4 : t4 = t3.put o3.dst v3) (w4 : wants ops o4 t4.get = some true) (s4 : step o4 t4.get H = .val v4 H1) (f4 : t4.fits o4.dst = true) (i4 : isEff o4.op = true) (hne : Heap.beq H1 H = false)
    {t5 : Tm} (e5 : t5 = t4.put o4.dst v4) (w5 : wants ops o5 t5.get = some true) (s5 : step o5 t5.get H1 = .val v5 H1) (f5 : t5.fits o5.dst = true) (l5 : looks o5.op = false)
    {t6 : Tm} (e6 : t6 = t5.put o5.dst v5) (w6 : wants ops o6 t6.get = some true) (s6 : step o6 t6.get H1 = .val v6 H2) (f6 : t6.fits o6.dst = true) (i6 : isEff o6.op = true) {out : Out} (ho : Out.norm (t6.put o6.dst v6) H2 = out) : evDraw step ops t H = out := by
  subst e1 e2 e3 e4 e5 e6 ho
  have hst' := hst
  rw [hm] at hst'
  cases hb : Heap.beq H2 H1 with
  | true =>
    have := Heap.beq_eq _ _ hb
    subst this
    have hr := drawRun_val w0 s0 f0 (drawRun_val w1 s1 f1 (drawRun_val w2 s2 f2 (drawRun_val w3 s3 f3 (drawRun_eff i4 hne w4 s4 f4 (drawRun_val w5 s5 f5 (drawRun_val w6 s6 f6 drawRun_nil))))))
    rw [← hops] at hr
    simp only [evDraw, hr, hm, List.getLast?_cons_cons, List.getLast?_singleton]
    rw [if_pos]
    simp [hst', effs, effsFrom, drawDyn, List.range_succ, l0, l2, l5, s1, s1', s3, s6, sameOR, V.beq_refl, Heap.beq_refl, Nat.testBit]
  | false =>
    have hr := drawRun_val w0 s0 f0 (drawRun_val w1 s1 f1 (drawRun_val w2 s2 f2 (drawRun_val w3 s3 f3 (drawRun_eff i4 hne w4 s4 f4 (drawRun_val w5 s5 f5 (drawRun_eff i6 hb w6 s6 f6 drawRun_nil))))))
    rw [← hops] at hr
    simp only [evDraw, hr, hm, List.getLast?_cons_cons, List.getLast?_singleton]
    rw [if_pos]
    simp [hst', effs, effsFrom, drawDyn, List.range_succ, l0, l2, l5, s1, s1', s3, sameOR, V.beq_refl, Heap.beq_refl, Nat.testBit]
end
theorem beq_longer {H1 H : Heap} (h : H.length < H1.length) : Heap.beq H1 H = false := by
  cases hb : Heap.beq H1 H with
  | false => rfl
  | true => have := Heap.beq_eq _ _ hb; subst this; omega
theorem reg19_5 {call : CallF} (hC : call.Sound Tryz.prog TT) {t : Tm} {H H1 : Heap} {a kb c n i : Nat} {k : Int} {s : List UInt8} {C : List V} {y : Nd} {p q r : V} (hw : t.wid = 25) (h1 : t.get 1 = .ptr a 0) (h3 : t.get 3 = .i .i64 i) (h4 : t.get 4 = .ptr kb 0)
    (ga : H[a]? = some (some ⟨24, [.i .i64 k, .s s, .sl c 3 0 n none], .all⟩)) (gk : H[kb]? = some (some ⟨24, [.i .i64 y.kind, .s y.text, .isl 3 (Nd.encL y.kids)], .all⟩)) (gc : H[c]? = some (some ⟨24, C, .more⟩)) (hin : i < n) (hle : i * 3 + 3 ≤ C.length)
    (hcall : call 28 [.agg [.i .i64 y.kind, .s y.text, .isl 3 (Nd.encL y.kids)]] H = .val (.agg [p, q, r]) H1) (fp : flat p = true) (fq : flat q = true) (fr : flat r = true) (ga1 : H1[a]? = some (some ⟨24, [.i .i64 k, .s s, .sl c 3 0 n none], .all⟩)) (gc1 : H1[c]? = some (some ⟨24, C, .more⟩)) (hlt : H.length < H1.length)
    {Q : Out → Prop} (hQ : ∀ t' : Tm, t'.wid = t.wid → (∀ j, j < 17 → t'.get j = t.get j) → Q (.norm t' (H1.set c (some ⟨24, C.take (i * 3) ++ [p, q, r] ++ C.drop (i * 3 + 3), .more⟩)))) :
    Tri Tryz.prog TT (sub [true, true, false, true, false, false, true, true, false, false, true] (bodyOf Tryz.f28)) t H Q := by
  refine Tri.regN (t' := ?t1) (H' := ?H1) TT_ok hC ?e1 ?q1
  case e1 =>
    show evDraw (evOp TT call) _ t H = _
    refine draw_call7 (v6 := .un) (H2 := H1.set c (some ⟨24, C.take (i * 3) ++ [p, q, r] ++ C.drop (i * 3 + 3), .more⟩)) rfl (by kernel_rfl) (by kernel_rfl) rfl (by simp [h1] <;> rfl) (by simp [fits_some, hw, Nat.blt_eq]) rfl
      rfl rfl (by simp [h1, ga] <;> rfl) (by simp [fits_some, hw, Nat.blt_eq]) (by simp [h1, ga1] <;> rfl)
      rfl rfl (by simp [h3] <;> rfl) (by simp [fits_some, hw, Nat.blt_eq]) rfl
      rfl rfl (by simp [h4, gk] <;> rfl) (by simp [fits_some, hw, Nat.blt_eq])
      rfl rfl (by simp [hcall] <;> rfl) (by simp [fits_some, hw, Nat.blt_eq]) rfl (beq_longer hlt)
      rfl rfl (by simp [h3, hin] <;> rfl) (by simp [fits_some, hw, Nat.blt_eq]) rfl
      rfl rfl (by simp [gc1, fp, fq, fr, hle, -flat]) (by simp [fits_none, hw, Nat.blt_eq]) rfl ?o
    case o => exact rfl
  refine hQ _ (by simp) ?_
  intro j hj
  have : ¬ j = 17 ∧ ¬ j = 18 ∧ ¬ j = 19 ∧ ¬ j = 20 ∧ ¬ j = 21 ∧ ¬ j = 22 := by omega
  simp [this]
mutual
/-- A tree that lies in named blocks. -/
def TreeIn (H : Heap) : Nd → V → List Nat → Prop
  | .mk k s l, v, bs => ∃ kv, v = .agg [.i .i64 k, .s s, kv] ∧ ((l = [] ∧ kv = .isl 3 [] ∧ bs = []) ∨ ∃ b vs bs', l ≠ [] ∧ kv = .sl b 3 0 l.length none ∧ H[b]? = some (some ⟨24, vs.flatMap V.cells, .more⟩) ∧ bs = b :: bs' ∧ RowIn H l vs bs')
def RowIn (H : Heap) : List Nd → List V → List Nat → Prop
  | [], vs, bs => vs = [] ∧ bs = []
  | x :: l, vs, bs => ∃ v r b1 b2, vs = v :: r ∧ bs = b1 ++ b2 ∧ TreeIn H x v b1 ∧ RowIn H l r b2
end
mutual
theorem TreeIn.keep {H H' : Heap} : ∀ (x : Nd) (v : V) (bs : List Nat), TreeIn H x v bs → (∀ b ∈ bs, H'[b]? = H[b]?) → TreeIn H' x v bs
  | .mk k s l, v, bs, h, hk => by
    simp only [TreeIn] at h ⊢
    obtain ⟨kv, h1, h2 | ⟨b, vs, bs', h2, h3, h4, h5, h6⟩⟩ := h
    · exact ⟨kv, h1, .inl h2⟩
    · subst h5
      exact ⟨kv, h1, .inr ⟨b, vs, bs', h2, h3, (hk b (by simp)).trans h4, rfl, RowIn.keep l vs bs' h6 fun c hc => hk c (by simp [hc])⟩⟩
theorem RowIn.keep {H H' : Heap} : ∀ (l : List Nd) (vs : List V) (bs : List Nat), RowIn H l vs bs → (∀ b ∈ bs, H'[b]? = H[b]?) → RowIn H' l vs bs
  | [], vs, bs, h, hk => by simpa only [RowIn] using h
  | x :: l, vs, bs, h, hk => by
    simp only [RowIn] at h ⊢
    obtain ⟨v, r, b1, b2, h1, h2, h3, h4⟩ := h
    subst h2
    exact ⟨v, r, b1, b2, h1, rfl, TreeIn.keep x v b1 h3 fun c hc => hk c (by simp [hc]), RowIn.keep l r b2 h4 fun c hc => hk c (by simp [hc])⟩
end
theorem RowIn.snoc {H : Heap} {y : Nd} {v : V} {b1 : List Nat} (hy : TreeIn H y v b1) : ∀ (l : List Nd) (vs : List V) (bs : List Nat), RowIn H l vs bs → RowIn H (l ++ [y]) (vs ++ [v]) (bs ++ b1)
  | [], vs, bs, h => by
    simp only [RowIn] at h
    obtain ⟨rfl, rfl⟩ := h
    simp only [List.nil_append, RowIn]
    exact ⟨v, [], b1, [], rfl, by simp, hy, rfl, rfl⟩
  | x :: l, vs, bs, h => by
    simp only [RowIn] at h
    obtain ⟨u, r, c1, c2, rfl, rfl, h3, h4⟩ := h
    simp only [List.cons_append, RowIn]
    exact ⟨u, r ++ [v], c1, c2 ++ b1, rfl, by simp, h3, RowIn.snoc hy l r c2 h4⟩
theorem TreeIn.agg {H : Heap} : ∀ {x : Nd} {v : V} {bs : List Nat}, TreeIn H x v bs → ∃ kv, v = .agg [.i .i64 x.kind, .s x.text, kv] ∧ flat kv = true
  | .mk k s l, v, bs, h => by
    simp only [TreeIn] at h
    obtain ⟨kv, h1, ⟨_, h2, _⟩ | ⟨b, vs, bs', _, h3, _⟩⟩ := h
    · exact ⟨kv, h1, by subst h2; rfl⟩
    · exact ⟨kv, h1, by subst h3; rfl⟩
theorem RowIn.cells {H : Heap} : ∀ (l : List Nd) (vs : List V) (bs : List Nat), RowIn H l vs bs → vs.length = l.length ∧ (vs.flatMap V.cells).length = l.length * 3
  | [], vs, bs, h => by
    simp only [RowIn] at h
    obtain ⟨rfl, rfl⟩ := h
    simp
  | x :: l, vs, bs, h => by
    simp only [RowIn] at h
    obtain ⟨v, r, c1, c2, rfl, rfl, h3, h4⟩ := h
    obtain ⟨i1, i2⟩ := RowIn.cells l r c2 h4
    obtain ⟨kv, rfl, _⟩ := h3.agg
    refine ⟨by simp [i1], ?_⟩
    simp [V.cells, i2]
    omega
theorem cellsN_length : ∀ l : List Nd, (cellsN l).length = l.length * 3
  | [] => rfl
  | .mk k s l' :: l => by
    have := cellsN_length l
    simp [cellsN, this]
    omega
theorem cellsN_cons (y : Nd) (l : List Nd) : cellsN (y :: l) = .i .i64 y.kind :: .s y.text :: .isl 3 (Nd.encL y.kids) :: cellsN l := by cases y; rfl
def CpOut (K : Heap) (y : Nd) (v : V) (K' : Heap) : Prop := ∃ bs, K.length < K'.length ∧ (∀ i, i < K.length → K'[i]? = K[i]?) ∧ TreeIn K' y v bs ∧ bs.Nodup ∧ ∀ b ∈ bs, K.length ≤ b ∧ b < K'.length
def CpInv (H0 : Heap) (x : Nd) (pre L : List Nd) (H : Heap) : Prop := ∃ (vs : List V) (bs : List Nat),
  H0.length + 4 ≤ H.length ∧ (∀ i, i < H0.length → H[i]? = H0[i]?) ∧
  H[H0.length]? = some (some ⟨24, [.i .i64 x.kind, .s x.text, .sl (H0.length + 3) 3 0 x.kids.length none], .all⟩) ∧
  H[H0.length + 1]? = some (some ⟨24, [.i .i64 0, .s [], .nils], .all⟩) ∧
  H[H0.length + 3]? = some (some ⟨24, vs.flatMap V.cells ++ cellsN L, .more⟩) ∧
  RowIn H pre vs bs ∧ bs.Nodup ∧ (∀ b ∈ bs, H0.length + 4 ≤ b ∧ b < H.length)
theorem CpInv.next {H0 : Heap} {x y : Nd} {pre L : List Nd} {H H4 H1 : Heap} {C : List V} {p q r : V} (hC : H[H0.length + 3]? = some (some ⟨24, C, .more⟩)) (h : CpInv H0 x pre (y :: L) H) (h4 : H.length < H4.length) (hk : ∀ i, i < H.length → H4[i]? = H[i]?) (ho : CpOut H4 y (.agg [p, q, r]) H1) :
    CpInv H0 x (pre ++ [y]) L (H1.set (H0.length + 3) (some ⟨24, C.take (pre.length * 3) ++ [p, q, r] ++ C.drop (pre.length * 3 + 3), .more⟩)) := by
  obtain ⟨vs, bs, g1, g2, g3, g4, g5, g6, g7, g8⟩ := h
  obtain ⟨b1, o1, o2, o3, o4, o5⟩ := ho
  have eC : C = vs.flatMap V.cells ++ cellsN (y :: L) := by
    rw [g5] at hC
    simpa using hC.symm
  obtain ⟨c1, c2⟩ := RowIn.cells pre vs bs g6
  have hn : ∀ i, i < H.length → H1[i]? = H[i]? := fun i hi => (o2 i (by omega)).trans (hk i hi)
  have ks : ∀ (K : Heap) (u : Option Blk) (i : Nat), i ≠ H0.length + 3 → (K.set (H0.length + 3) u)[i]? = K[i]? := fun K u i hi => by
    rw [List.getElem?_set_ne (by omega)]
  refine ⟨vs ++ [.agg [p, q, r]], bs ++ b1, by simp; omega, fun i hi => ?_, ?_, ?_, ?_, ?_, ?_, ?_⟩
  · rw [ks _ _ _ (by omega), hn i (by omega)]; exact g2 i hi
  · rw [ks _ _ _ (by omega), hn _ (by omega)]; exact g3
  · rw [ks _ _ _ (by omega), hn _ (by omega)]; exact g4
  · rw [List.getElem?_set_self (by omega), eC]
    have e : (vs.flatMap V.cells ++ cellsN (y :: L)).take (pre.length * 3) ++ [p, q, r] ++ (vs.flatMap V.cells ++ cellsN (y :: L)).drop (pre.length * 3 + 3) = (vs ++ [V.agg [p, q, r]]).flatMap V.cells ++ cellsN L := by
      rw [List.take_append_of_le_length (by omega), List.take_of_length_le (by omega), List.drop_append, List.drop_of_length_le (by omega), c2, cellsN_cons]
      rw [show pre.length * 3 + 3 - pre.length * 3 = 3 from by omega]
      simp [V.cells]
    rw [e]
  · refine RowIn.snoc ?_ pre vs bs ?_
    · refine TreeIn.keep _ _ _ o3 fun b hb => ?_
      have := o5 b hb
      rw [ks _ _ _ (by omega)]
    · refine RowIn.keep _ _ _ g6 fun b hb => ?_
      have := g8 b hb
      rw [ks _ _ _ (by omega), hn b (by omega)]
  · rw [List.nodup_append]
    refine ⟨g7, o4, fun a ha b hb => ?_⟩
    have := g8 a ha
    have := o5 b hb
    omega
  · intro b hb
    rcases List.mem_append.1 hb with hb | hb
    · have := g8 b hb
      simp
      omega
    · have := o5 b hb
      simp
      omega
theorem CpInv.out {H0 : Heap} {x : Nd} {H : Heap} {u : Option Blk} (hx : x.kids ≠ []) (h : CpInv H0 x x.kids [] H) : CpOut H0 x (.agg [.i .i64 x.kind, .s x.text, .sl (H0.length + 3) 3 0 x.kids.length none]) (H.set (H0.length + 1) u) := by
  obtain ⟨vs, bs, g1, g2, g3, g4, g5, g6, g7, g8⟩ := h
  have ks : ∀ (i : Nat), i ≠ H0.length + 1 → (H.set (H0.length + 1) u)[i]? = H[i]? := fun i hi => by
    rw [List.getElem?_set_ne (by omega)]
  cases x with
  | mk k s l =>
    simp only [Nd.kids, Nd.kind, Nd.text] at *
    refine ⟨(H0.length + 3) :: bs, by simp; omega, fun i hi => ?_, ?_, ?_, ?_⟩
    · rw [ks _ (by omega)]; exact g2 i hi
    · simp only [TreeIn]
      refine ⟨_, rfl, .inr ⟨_, vs, bs, hx, rfl, ?_, rfl, ?_⟩⟩
      · rw [ks _ (by omega), g5]
        simp [cellsN]
      · refine RowIn.keep _ _ _ g6 fun b hb => ?_
        have := g8 b hb
        rw [ks _ (by omega)]
    · rw [List.nodup_cons]
      exact ⟨fun hm => by have := g8 _ hm; omega, g7⟩
    · intro b hb
      rcases List.mem_cons.1 hb with rfl | hb
      · simp; omega
      · have := g8 b hb
        simp
        omega
theorem reg19_4 {call : CallF} (hC : call.Sound Tryz.prog TT) {t : Tm} {H : Heap} {c n i : Nat} {C : List V} {y : Nd} (hw : t.wid = 25) (h10 : t.get 10 = .sl c 3 0 n none) (h12 : t.get 12 = .i .i64 i) (hlt : i < n) (gc : H[c]? = some (some ⟨24, C, .more⟩)) (hle : i * 3 + 3 ≤ C.length)
    (hdt : (C.drop (i * 3)).take 3 = [.i .i64 y.kind, .s y.text, .isl 3 (Nd.encL y.kids)]) {Q : Out → Prop}
    (hQ : ∀ t' : Tm, t'.wid = 25 → t'.get 3 = .i .i64 i → t'.get 4 = .ptr H.length 0 → (∀ j, j ≠ 3 ∧ j ≠ 4 ∧ ¬ (14 ≤ j ∧ j ≤ 16) → t'.get j = t.get j) → Q (.norm t' (H ++ [some ⟨24, [.i .i64 y.kind, .s y.text, .isl 3 (Nd.encL y.kids)], .all⟩]))) :
    Tri Tryz.prog TT (sub [true, true, false, true, false, false, true, true, false, false, false] (bodyOf Tryz.f28)) t H Q := by
 apply rN hC
 · iterate 6 refine evSeq_go rfl (by simp [h10, h12, hlt, gc, hle, hdt] <;> rfl) (by rfl) (by simp [hw]) ?_
   rfl
 refine hQ _ (by simp [hw]) (by simp [h12]) (by simp) ?_
 intro j hj
 have : ¬ j = 14 ∧ ¬ j = 15 ∧ ¬ j = 16 ∧ ¬ j = 3 ∧ ¬ j = 4 := by omega
 simp [this]
theorem CpOut.agg {K : Heap} {y : Nd} {v : V} {K' : Heap} (h : CpOut K y v K') : ∃ kv, v = .agg [.i .i64 y.kind, .s y.text, kv] ∧ flat kv = true := by
  obtain ⟨_, _, _, h, _⟩ := h
  exact h.agg
theorem CpOut.keep {K : Heap} {y : Nd} {v : V} {K' : Heap} (h : CpOut K y v K') : ∀ i, i < K.length → K'[i]? = K[i]? := by
  obtain ⟨_, _, h, _⟩ := h
  exact h
theorem CpOut.longer {K : Heap} {y : Nd} {v : V} {K' : Heap} (h : CpOut K y v K') : K.length < K'.length := by
  obtain ⟨_, h, _⟩ := h
  exact h
theorem loop19 {call : CallF} (hC : call.Sound Tryz.prog TT) (H0 : Heap) (x : Nd) (hrec : ∀ y ∈ x.kids, ∀ K : Heap, ∃ v K', call 28 [y.enc] K = .val v K' ∧ CpOut K y v K') (hlen : x.kids.length < 1100000) {Q : Out → Prop} : ∀ (L pre : List Nd) (t : Tm) (H : Heap), pre ++ L = x.kids → CpInv H0 x pre L H →
    t.wid = 25 → t.get 1 = .ptr H0.length 0 → t.get 2 = .ptr (H0.length + 1) 0 → t.get 10 = .sl (H0.length + 3) 3 0 x.kids.length none → t.get 11 = .i .i64 x.kids.length → t.get 12 = .i .i64 pre.length →
    (∀ t' H', t'.wid = 25 → t'.get 1 = .ptr H0.length 0 → t'.get 2 = .ptr (H0.length + 1) 0 → CpInv H0 x x.kids [] H' → Q (.exit 0 t' H')) → LTri Tryz.prog TT (sub [true, true, false, true, false, false] (bodyOf Tryz.f28)) t H Q := by
 intro L
 induction L with
 | nil =>
   intro pre t H hpl hI hw h1 h2 h10 h11 h12 hE
   have hpl : pre = x.kids := by simpa using hpl
   subst hpl
   refine LTri.round' ?_
   apply rS hC
   · refine evSeq_go rfl (by simp [h1, h2, h10, h11, h12] <;> rfl) (by rfl) (by simp [hw]) ?_
     rfl
   apply sQ
   refine cF (by simp [h1, h2, h10, h11, h12] <;> rfl) ?_
   refine Tri.exit ?_
   refine inSeq_exit ?_
   refine inLoop_exit ?_
   exact hE _ _ (by simp [hw]) (by simp [h1]) (by simp [h2]) (by simpa using hI)
 | cons y L ih =>
   intro pre t H hpl hI hw h1 h2 h10 h11 h12 hE
   have hlt : pre.length < x.kids.length := by rw [← hpl]; simp
   have hy : y ∈ x.kids := by rw [← hpl]; simp
   obtain ⟨vs, bs, g1, g2, ga, g4, gc0, g6, g7, g8⟩ := hI
   obtain ⟨c1, c2⟩ := RowIn.cells pre vs bs g6
   obtain ⟨C, hC0⟩ : ∃ C, C = vs.flatMap V.cells ++ cellsN (y :: L) := ⟨_, rfl⟩
   have gc : H[H0.length + 3]? = some (some ⟨24, C, .more⟩) := by rw [hC0]; exact gc0
   have hle : pre.length * 3 + 3 ≤ C.length := by rw [hC0, List.length_append, c2, cellsN_length]; simp; omega
   have hdt : (C.drop (pre.length * 3)).take 3 = [.i .i64 y.kind, .s y.text, .isl 3 (Nd.encL y.kids)] := by
    rw [hC0, List.drop_append_of_le_length (by omega), List.drop_of_length_le (by omega), cellsN_cons]
    rfl
   have hI : CpInv H0 x pre (y :: L) H := ⟨vs, bs, g1, g2, ga, g4, gc0, g6, g7, g8⟩
   refine LTri.round' ?_
   apply rS hC
   · refine evSeq_go rfl (by simp [h1, h2, h10, h11, h12, hlt] <;> rfl) (by rfl) (by simp [hw]) ?_
     rfl
   apply sQ
   refine Tri.condG (o := ?o2) (b := ?b2) ?g2 ?r2 ?y2 ?n2
   case g2 => simp [h1, h2, h10, h11, h12, hlt] <;> rfl
   case r2 => rfl
   case y2 =>
    intro hy2
    apply Tri.skip
    apply sN
    apply sQ
    apply bK
    apply sQ
    refine reg19_4 hC (y := y) (C := C) (i := pre.length) (by simp [hw]) (by simp [h10]) (by simp [h12]) hlt gc hle hdt ?_
    intro t4 hw4 h43 h44 hk4
    apply sN
    obtain ⟨v, H1, hcall, ho⟩ := hrec y hy (H ++ [some ⟨24, [.i .i64 y.kind, .s y.text, .isl 3 (Nd.encL y.kids)], .all⟩])
    obtain ⟨kv, rfl, hf⟩ := ho.agg
    rw [Nd.enc_eq] at hcall
    have hk : ∀ i, i < H.length → (H ++ [some ⟨24, [.i .i64 y.kind, .s y.text, .isl 3 (Nd.encL y.kids)], .all⟩])[i]? = H[i]? := fun i hi => List.getElem?_append_left hi
    have ho1 : ∀ i, i < H.length → H1[i]? = H[i]? := fun i hi => (ho.keep i (by simp; omega)).trans (hk i hi)
    refine reg19_5 hC (y := y) (a := H0.length) (kb := H.length) (c := H0.length + 3) (n := x.kids.length) (i := pre.length) (C := C) hw4 (by rw [hk4 1 (by omega)]; simp [h1]) h43 h44 ((hk _ (by omega)).trans ga) (by simp) ((hk _ (by omega)).trans gc) hlt hle hcall rfl rfl hf ((ho1 _ (by omega)).trans ga) ((ho1 _ (by omega)).trans gc) ho.longer ?_
    intro t5 hw5 hk5
    have hw := hw5.trans hw4
    have g : ∀ j, j < 13 → j ≠ 3 ∧ j ≠ 4 → t5.get j = t.get j := fun j hj h => (hk5 j (by omega)).trans ((hk4 j (by omega)).trans (by simp [show ¬ j = 13 from by omega]))
    have h1 : t5.get 1 = _ := (g 1 (by omega) (by omega)).trans h1
    have h2 : t5.get 2 = _ := (g 2 (by omega) (by omega)).trans h2
    have h10 : t5.get 10 = _ := (g 10 (by omega) (by omega)).trans h10
    have h11 : t5.get 11 = _ := (g 11 (by omega) (by omega)).trans h11
    have h12 : t5.get 12 = _ := (g 12 (by omega) (by omega)).trans h12
    apply bN
    apply sN
    apply rN hC
    · iterate 2 refine evSeq_go rfl (by simp [h1, h2, h10, h11, h12, hlt] <;> rfl) (by rfl) (by simp [hw]) ?_
      rfl
    refine inLoop_norm ?_
    refine ih (pre ++ [y]) _ _ (by simpa using hpl) (by simpa using CpInv.next gc hI (by simp) hk ho) (by simp [hw]) (by simp [h1]) (by simp [h2]) (by simp [h10]) (by simp [h11]) (by simp; exact wrap_i64 (by omega) (by omega)) hE
   case n2 =>
    intro hn2
    exfalso
    simp at hn2 <;> omega
theorem loop19z {call : CallF} (hC : call.Sound Tryz.prog TT) {Q : Out → Prop} (t : Tm) (H : Heap) (hw : t.wid = 25) (h11 : t.get 11 = .i .i64 0) (h12 : t.get 12 = .i .i64 0) (hE : ∀ t', t'.wid = 25 → t'.get 1 = t.get 1 → t'.get 2 = t.get 2 → Q (.exit 0 t' H)) : LTri Tryz.prog TT (sub [true, true, false, true, false, false] (bodyOf Tryz.f28)) t H Q := by
 refine LTri.round' ?_
 apply rS hC
 · refine oA ?_
   rfl
 apply sQ
 refine cF (by simp [h11, h12] <;> rfl) ?_
 refine Tri.exit ?_
 refine inSeq_exit ?_
 refine inLoop_exit ?_
 exact hE _ (by simp [hw]) (by simp) (by simp)
theorem body_19z {call : CallF} (hC : call.Sound Tryz.prog TT) (x : Nd) (H : Heap) (hk : x.kids = []) (hcl : ∀ K, call 36 [.isl 3 []] K = .val (.isl 3 []) K)  : HBody Tryz.prog TT 28 [x.enc] H (CpOut H x) := by
 refine en Tryz.f28 rfl rfl (by simp [Tryz.f28]) 25 rfl fun t hw hg => ?_
 have h0 := hg 0 _ rfl
 clear hg
 try simp only [Nd.enc_eq] at *
 apply rS hC
 · iterate 2 refine gO (by simp [h0, hcl, hk, Nd.encL] <;> rfl) ?_
   rfl
 apply rS hC
 · iterate 5 refine gO (by simp [h0, hcl, hk, Nd.encL] <;> rfl) ?_
   rfl
 apply sQ
 apply rS hC
 · iterate 4 refine gO (by simp [h0, hcl, hk, Nd.encL] <;> rfl) ?_
   rfl
 apply bK
 refine Tri.loop ?_
 refine loop19z hC _ _ (by simp [hw]) (by simp) (by simp) ?exit
 case exit =>
  intro t2 hw h1 h2
  simp at h1 h2
  refine inBlk_exit ?_
  apply sN
  apply rS hC
  · iterate 2 refine gO (by simp [h0, hcl, hk, Nd.encL, h1, h2] <;> rfl) ?_
    rfl
  apply Tri.ret
  refine ⟨.agg [.i .i64 x.kind, .s x.text, .isl 3 []], ?_, ?_⟩
  · refine ⟨[], by simp, fun i hi => ?_, ?_, by simp, by simp⟩
    · simp [List.getElem?_append_left hi, show ¬ i = H.length from by omega, show ¬ i = H.length + 1 from by omega]
    · cases x
      simp only [Nd.kids] at hk
      subst hk
      simp only [TreeIn]
      exact ⟨_, rfl, .inl ⟨by trivial, rfl, by trivial⟩⟩
  · simp [Tryz.f28, h1, h2]
theorem body_19c {call : CallF} (hC : call.Sound Tryz.prog TT) (x : Nd) (H : Heap) (hx : x.kids ≠ []) (hlen : x.kids.length < 1100000) (hcl : ∀ K : Heap, call 36 [.isl 3 (Nd.encL x.kids)] K = .val (.sl (K.length + 1) 3 0 x.kids.length none) (K ++ [some ⟨24, [], .all⟩, some ⟨24, cellsN x.kids, .more⟩])) (hrec : ∀ y ∈ x.kids, ∀ K : Heap, ∃ v K', call 28 [y.enc] K = .val v K' ∧ CpOut K y v K')  : HBody Tryz.prog TT 28 [x.enc] H (CpOut H x) := by
 refine en Tryz.f28 rfl rfl (by simp [Tryz.f28]) 25 rfl fun t hw hg => ?_
 have h0 := hg 0 _ rfl
 clear hg
 try simp only [Nd.enc_eq] at *
 apply rS hC
 · iterate 2 refine gO (by simp [h0, hcl, Nd.encL_length] <;> rfl) ?_
   rfl
 apply rS hC
 · iterate 5 refine gO (by simp [h0, hcl, Nd.encL_length] <;> rfl) ?_
   rfl
 apply sQ
 apply rS hC
 · iterate 4 refine gO (by simp [h0, hcl, Nd.encL_length] <;> rfl) ?_
   rfl
 apply bK
 refine Tri.loop ?_
 refine loop19 hC H x (by intro y hy; rw [Nd.enc_eq]; exact hrec y hy) hlen x.kids [] _ _ rfl ?inv (by simp [hw]) (by simp) (by simp) (by simp) (by simp) (by simp) ?exit
 case inv =>
  refine ⟨[], [], by simp, fun i hi => ?_, ?_, ?_, ?_, by simp [RowIn], by simp, by simp⟩
  · simp [List.getElem?_append_left hi, show ¬ i = H.length from by omega, show ¬ i = H.length + 1 from by omega]
  · simp
  · simp
  · simp
 case exit =>
  intro t2 H2 hw h1 h2 hI
  obtain ⟨vs, bs, g1, g2, gA, gR, gC, g6, g7, g8⟩ := hI
  have gl : H.length + 1 < H2.length := by omega
  refine inBlk_exit ?_
  apply sN
  apply rS hC
  · iterate 2 refine gO (by simp [h0, hcl, Nd.encL_length, h1, h2, gA, gR] <;> rfl) ?_
    rfl
  apply Tri.ret
  refine ⟨_, CpInv.out hx ⟨vs, bs, g1, g2, gA, gR, gC, g6, g7, g8⟩, ?_⟩
  simp [Tryz.f28, h1, h2, gl]
open Go Go.Proofs Go.ChangeShapes Go.WideShapes Go.ChangeAt Go.RowKit
set_option maxRecDepth 1000000 in
theorem clone_nil (k : Nat) (w : World) : Calls Tryz.prog 36 #[.slice none 0 k] w fun e w' => e = .returned (.slice none 0 0) ∧ w' = w := by
  have hb : ∀ w, Sem.run Tryz.prog (binOp BinOp.eql 22 (Value.slice none 0 k) (Value.slice none 0 0)) w = .ok (.bool true) w := fun w => by
    have he : ∀ d w, (Op.equalIn (d + 1) 22 (.slice none 0 k) (.slice none 0 0)).run Tryz.prog w = .ok true w := fun d w => by simp [Op.equalIn, run_underlying Tryz.underlying22]
    have he' : ∀ w, (Op.equal 22 (.slice none 0 k) (.slice none 0 0)).run Tryz.prog w = .ok true w := fun w => he 9999 w
    simp [binOp, he']
  go_enter Tryz.func36, Tryz.ntmps36
  go_wp2
  all_goals go_ret
  all_goals exact ⟨rfl, rfl⟩
theorem none_sound : CallF.none.Sound Tryz.prog TT := CallF.none_sound
theorem append_emp (H : Heap) : evAppend TT 22 (.sl H.length 3 0 0 (some 0)) .emp (H ++ [some ⟨24, [], .all⟩]) = .val (.sl H.length 3 0 0 (some 0)) (H ++ [some ⟨24, [], .all⟩]) := by
  have hc : cellsAt (H ++ [some ⟨24, [], .all⟩]) H.length = some ⟨24, [], .all⟩ := by simp [cellsAt]
  simp only [evAppend, tU, Tryz.underlying22, tS24, tB24, tZ24, appended]
  rw [if_pos ⟨by decide, rfl, by decide, rfl⟩]
  rw [if_pos ⟨trivial, by omega, by omega⟩]
  simp only [hc, cut]
  rw [if_pos (by simp)]
  simp
theorem sp46 : ∃ g, SpecOK Tryz.prog TT 36 g ∧ (∀ K : Heap, g [.isl 3 []] K = .val (.isl 3 []) K) ∧ ∀ (l : List Nd) (K : Heap), l ≠ [] → l.length < 1100000 → g [.isl 3 (Nd.encL l)] K = .val (.sl (K.length + 1) 3 0 l.length none) (K ++ [some ⟨24, [], .all⟩, some ⟨24, cellsN l, .more⟩]) := by
  classical
  obtain ⟨g1, k1, s1⟩ := HFact.spec (F := 36) TT_ok (D := fun vs _ => ∃ (x : Nd) (l : List Nd), vs = [.isl 3 (Nd.encL (x :: l))] ∧ l.length < 1099999) (R := fun vs K v K' => ∃ (x : Nd) (l : List Nd), vs = [.isl 3 (Nd.encL (x :: l))] ∧ v = .sl (K.length + 1) 3 0 (l.length + 1) none ∧ K' = K ++ [some ⟨24, [], .all⟩, some ⟨24, cellsN (x :: l), .more⟩]) (fun vs K hd => by
    obtain ⟨x, l, rfl, hl⟩ := hd
    refine (HBody.fact TT_ok (body_46n none_sound x l K ?_)).mono fun v H' h => ⟨x, l, rfl, h.1, h.2⟩
    exact append_enc K (x :: l) (by simp) (by simp; omega))
  refine ⟨fun vs K => if vs = [.isl 3 []] then .val (.isl 3 []) K else g1 vs K, ?_, fun K => by simp, ?_⟩
  · intro vs K r h hne
    by_cases e : vs = [.isl 3 []]
    · simp only [e, if_true] at h
      subst e h
      obtain ⟨_, _, _, hent, _⟩ := HBody.fact TT_ok (body_46z none_sound K)
      refine ⟨hent, fun M ρ w args hS hr => ?_⟩
      simp only [relL] at hr
      obtain ⟨x, r, rfl, hx, rfl⟩ := hr
      simp only [rel] at hx
      obtain ⟨a, k, rfl, hk, _⟩ := hx
      cases a with
      | none =>
        refine Calls.mono (clone_nil k w) ?_
        rintro e w' ⟨rfl, rfl⟩
        refine ⟨_, M, ρ, rfl, Ext.refl _ _ _, ?_, hS⟩
        simp only [rel]
        exact ⟨none, 0, rfl, by simp, fun h => absurd rfl h⟩
      | some p =>
        obtain ⟨v, H', ⟨rfl, rfl⟩, _, hf⟩ := HBody.fact TT_ok (body_46e none_sound [] (append_emp []))
        have hr0 : relL M [] [.emp] [.slice (some p) 0 k] := relL_cons (by simp only [rel]; exact ⟨p, k, rfl⟩) (by simp only [relL])
        exact CallOK.frame_fz (k := 5) TT_plain hS (hf M [] w _ (hS.forget TT_plain) hr0) rfl
    · simp only [e, if_false] at h
      exact k1 vs K r h hne
  · intro l K hl hlen
    cases l with
    | nil => exact absurd rfl hl
    | cons x l =>
      have e : ¬ ([V.isl 3 (Nd.encL (x :: l))] = [.isl 3 []]) := by simp [Nd.encL]
      simp only [e, if_false]
      obtain ⟨v, K', ⟨x', l', h1, h2, h3⟩, h4⟩ := s1 [.isl 3 (Nd.encL (x :: l))] K ⟨x, l, rfl, by simp at hlen; omega⟩
      simp only [List.cons.injEq, V.isl.injEq, true_and, and_true] at h1
      have := Nd.encL_inj _ _ h1
      cases this
      rw [h4, h2, h3]
      rfl
theorem sp19m : ∃ g, SpecOK Tryz.prog TT 28 g ∧ ∀ x : Nd, x.num < NT → ∀ K : Heap, ∃ v K', g [x.enc] K = .val v K' ∧ CpOut K x v K' := by
  obtain ⟨g46, k46, c1, c2⟩ := sp46
  obtain ⟨g, hg, hs⟩ := spec_fact (P := Tryz.prog) (T := TT) TT_ok 28 (fun k vs _ => ∃ x : Nd, x.num = k ∧ x.num < NT ∧ vs = [x.enc]) (fun vs K v K' => ∃ x : Nd, vs = [x.enc] ∧ CpOut K x v K') (by
    rintro k vs K ⟨x, rfl, hx, rfl⟩ g hg hrec
    have hnum := x.num_eq
    have hlen := Nd.numL_length x.kids
    have hN : NT = 1090000 := rfl
    have hC := ws (ws n0 hg) k46
    by_cases hk : x.kids = []
    · exact (HBody.fact TT_ok (body_19z hC x K hk (fun K => by rw [CallF.with_here]; exact c1 K))).mono fun v H' h => ⟨x, rfl, h⟩
    · refine (HBody.fact TT_ok (body_19c hC x K hk (by omega) (fun K => by rw [CallF.with_here]; exact c2 _ K hk (by omega)) ?_)).mono fun v H' h => ⟨x, rfl, h⟩
      intro y hy J
      have := Nd.num_mem hy
      obtain ⟨v, J', ⟨y', e, ho⟩, h⟩ := hrec y.num (by omega) [y.enc] J ⟨y, rfl, by omega, rfl⟩
      simp only [List.cons.injEq, and_true] at e
      have := Nd.enc_inj _ _ e
      subst this
      refine ⟨v, J', ?_, ho⟩
      rw [CallF.with_other _ _ _ _ rfl, CallF.with_here]
      exact h) NT
  refine ⟨g, hg, fun x hx K => ?_⟩
  obtain ⟨v, K', ⟨x', e, ho⟩, h⟩ := hs x.num hx [x.enc] K ⟨x, rfl, hx, rfl⟩
  simp only [List.cons.injEq, and_true] at e
  have := Nd.enc_inj _ _ e
  subst this
  exact ⟨v, K', h, ho⟩
theorem rowsOf_cells : ∀ l : List Nd, rowsOf 3 l.length (cellsN l) = some (Nd.encL l)
  | [] => rfl
  | .mk k s l' :: l => by
    have ih := rowsOf_cells l
    simp [rowsOf, cellsN, ih, Nd.encL, Nd.enc]
theorem fz_i (H : Heap) (k : IntKind) (n : Int) (m : Nat) : fz H (m + 1) (.i k n) = some (.i k n) := by simp [fz]
theorem fz_s (H : Heap) (s : List UInt8) (m : Nat) : fz H (m + 1) (.s s) = some (.s s) := by simp [fz]
theorem fz_agg (H : Heap) (l : List V) (m : Nat) : fz H (m + 1) (.agg l) = (fzL H m l).map .agg := by simp [fz]
mutual
theorem TreeIn.kv {H : Heap} : ∀ (x : Nd) (v : V) (bs : List Nat), TreeIn H x v bs → ∃ kv, v = .agg [.i .i64 x.kind, .s x.text, kv] ∧ ∃ k0, ∀ k, k0 ≤ k → fz H k kv = some (.isl 3 (Nd.encL x.kids))
  | .mk k s l, v, bs, h => by
    simp only [TreeIn] at h
    obtain ⟨kv, rfl, ⟨rfl, rfl, _⟩ | ⟨b, vs, bs', _, rfl, hb, rfl, hr⟩⟩ := h
    · refine ⟨_, rfl, 1, fun m hm => ?_⟩
      obtain ⟨m, rfl⟩ : ∃ j, m = j + 1 := ⟨m - 1, by omega⟩
      simp [fz, nl, nlL, Nd.kids, Nd.encL]
    · obtain ⟨k0, hk⟩ := RowIn.fzL l vs bs' hr
      obtain ⟨c1, c2⟩ := RowIn.cells l vs bs' hr
      refine ⟨_, rfl, k0 + 1, fun m hm => ?_⟩
      obtain ⟨m, rfl⟩ : ∃ j, m = j + 1 := ⟨m - 1, by omega⟩
      have hc : cellsAt H b = some ⟨24, vs.flatMap V.cells, .more⟩ := by simp [cellsAt, hb]
      have hcut : cut (vs.flatMap V.cells) (0 * 3) (l.length * 3) = some (vs.flatMap V.cells) := by
        simp only [cut]
        rw [if_pos (by omega), Nat.zero_mul, List.drop_zero, List.take_of_length_le (by omega)]
      simp only [fz, hc, hcut, hk m (by omega), rowsOf_cells, Option.map_some, Nd.kids]
theorem RowIn.fzL {H : Heap} : ∀ (l : List Nd) (vs : List V) (bs : List Nat), RowIn H l vs bs → ∃ k0, ∀ k, k0 ≤ k → fzL H k (vs.flatMap V.cells) = some (cellsN l)
  | [], vs, bs, h => by
    simp only [RowIn] at h
    obtain ⟨rfl, rfl⟩ := h
    refine ⟨0, fun k _ => ?_⟩
    cases k <;> simp [Ev.fzL, cellsN]
  | x :: l, vs, bs, h => by
    simp only [RowIn] at h
    obtain ⟨v, r, b1, b2, rfl, rfl, h3, h4⟩ := h
    obtain ⟨kv, rfl, k1, hk1⟩ := TreeIn.kv x v b1 h3
    obtain ⟨k2, hk2⟩ := RowIn.fzL l r b2 h4
    refine ⟨k1 + k2 + 4, fun m hm => ?_⟩
    obtain ⟨m, rfl⟩ : ∃ j, m = j + 1 + 1 + 1 + 1 := ⟨m - 4, by omega⟩
    simp only [List.flatMap_cons, V.cells, List.cons_append, List.nil_append, Ev.fzL, fz_i, fz_s, hk1 (m + 1) (by omega), hk2 (m + 1) (by omega), cellsN_cons]
end
theorem TreeIn.fz {H : Heap} {x : Nd} {v : V} {bs : List Nat} (h : TreeIn H x v bs) : ∃ k, Ev.fz H k v = some x.enc := by
  obtain ⟨kv, rfl, k1, hk1⟩ := TreeIn.kv x v bs h
  refine ⟨k1 + 5, ?_⟩
  simp only [fz_agg, Ev.fzL, fz_i, fz_s, hk1 (k1 + 1) (by omega), Option.map_some, Nd.enc_eq]
theorem sp19 : ∃ g, SpecOK Tryz.prog TT 28 g ∧ ∀ x : Nd, x.num < NT → ∀ H : Heap, g [x.enc] H = .val x.enc H := by
  obtain ⟨g, hg, hs⟩ := sp19m
  obtain ⟨g', k, s⟩ := spec_frz TT_plain hg (fun vs => ∃ x : Nd, x.num < NT ∧ vs = [x.enc]) (fun vs v => vs = [v]) (by
    rintro vs ⟨x, hx, rfl⟩
    obtain ⟨v, K', h, bs, _, _, ht, _⟩ := hs x hx []
    obtain ⟨m, hm⟩ := ht.fz
    exact ⟨by simp [nlL, Nd.enc_nl], v, K', m, x.enc, h, hm, rfl⟩)
  refine ⟨g', k, fun x hx H => ?_⟩
  obtain ⟨v, e, h⟩ := s [x.enc] ⟨x, hx, rfl⟩
  simp only [List.cons.injEq, and_true] at e
  rw [h H, ← e]
open Go Go.RowKit
section
variable {P : Program} {T : Tab} {t t' : Tm} {H H' : Heap} {hs : List HE} {r : Option Nat} {c x y : Code} {id j : Nat} {v : V} {Q : Out → List HE → Prop} {F : FuncId}
theorem inSeqG_norm (h : TriG P T r hs y t H Q) : inSeqG P T r y Q (.norm t H) hs := h
theorem inSeqG_exit (h : Q (.exit j t H) hs) : inSeqG P T r y Q (.exit j t H) hs := h
theorem inSeqG_ret (h : Q (.ret t H) hs) : inSeqG P T r y Q (.ret t H) hs := h
theorem inBlkG_norm (h : Q (.norm t H) hs) : inBlkG id Q (.norm t H) hs := h
theorem inBlkG_exit (h : Q (.norm t H) hs) : inBlkG id Q (.exit id t H) hs := by simpa only [inBlkG, if_true] using h
theorem inBlkG_ret (h : Q (.ret t H) hs) : inBlkG id Q (.ret t H) hs := h
theorem inLoopG_norm (h : LTriG P T r hs c t H Q) : inLoopG P T r c Q (.norm t H) hs := h
theorem inLoopG_exit (h : Q (.exit j t H) hs) : inLoopG P T r c Q (.exit j t H) hs := h
theorem inLoopG_ret (h : Q (.ret t H) hs) : inLoopG P T r c Q (.ret t H) hs := h
def Weak (v v' : V) : Prop := ∀ (M : Mem) (ρ : Ren) (x : Value), rel M ρ v x → rel M ρ v' x
theorem Weak.refl (v : V) : Weak v v := fun _ _ _ h => h
theorem weak_nils (n : Nat) : Weak .nils (.isl n []) := fun M ρ x h => by
  simp only [rel] at h ⊢
  exact ⟨none, 0, h, by simp, fun e => absurd rfl e⟩
def WeakL (l l' : List V) : Prop := ∀ (M : Mem) (ρ : Ren) (x : List Value), relL M ρ l x → relL M ρ l' x
theorem WeakL.nil : WeakL [] [] := fun _ _ _ h => h
theorem WeakL.cons {v v' : V} {l l' : List V} (h : Weak v v') (hl : WeakL l l') : WeakL (v :: l) (v' :: l') := fun M ρ x k => by
  simp only [relL] at k ⊢
  obtain ⟨a, b, e, h1, h2⟩ := k
  exact ⟨a, b, e, h M ρ a h1, hl M ρ b h2⟩
theorem WeakL.agg {l l' : List V} (h : WeakL l l') : Weak (.agg l) (.agg l') := fun M ρ x k => by
  simp only [rel] at k ⊢
  obtain ⟨cs, e, h1⟩ := k
  exact ⟨cs, e, h M ρ cs h1⟩
theorem WeakL.tup {l l' : List V} (h : WeakL l l') : Weak (.tup l) (.tup l') := fun M ρ x k => by
  simp only [rel] at k ⊢
  obtain ⟨cs, e, h1⟩ := k
  exact ⟨cs, e, h M ρ cs h1⟩
theorem CallOK.weak {f : FuncId} {args : Array Value} {M : Mem} {ρ : Ren} {w : World} {v v' : V} (hv : Weak v v') (h : CallOK P T f args M ρ w (.val v H)) : CallOK P T f args M ρ w (.val v' H) := by
  refine Calls.mono h ?_
  rintro e w' ⟨x, M', σ, rfl, he, hx, hk⟩
  exact ⟨x, M', σ, rfl, he, hv _ _ _ hx, hk⟩
theorem spec_frzw (hp : T.Plain) {g : Spec} (hg : SpecOK P T F g) (D : List V → Prop) (R : List V → V → Prop)
    (h : ∀ vs, D vs → nlL vs = true ∧ ∃ v J k v' u, g vs [] = .val v J ∧ fz J k v = some v' ∧ Weak v' u ∧ R vs u) : ∃ g', SpecOK P T F g' ∧ ∀ vs, D vs → ∃ v', R vs v' ∧ ∀ H, g' vs H = .val v' H := by
  classical
  have hx : ∀ vs, D vs → ∃ u, (∃ v J k v', g vs [] = .val v J ∧ fz J k v = some v' ∧ Weak v' u) ∧ R vs u := fun vs hd => by
    obtain ⟨_, v, J, k, v', u, h1, h2, h3, h4⟩ := h vs hd
    exact ⟨u, ⟨v, J, k, v', h1, h2, h3⟩, h4⟩
  refine ⟨fun vs H => if hd : D vs then .val (hx vs hd).choose H else .no, ?_, ?_⟩
  · intro vs H r hr hne
    simp only at hr
    split at hr
    · rename_i hd
      obtain ⟨⟨v, J, k, v', h1, h2, h3⟩, _⟩ := (hx vs hd).choose_spec
      obtain ⟨k1, k2⟩ := hg vs [] _ h1 (by simp)
      subst hr
      exact ⟨k1, fun M ρ w args hS hr => CallOK.weak h3 (CallOK.frame_fz hp hS (k2 M [] w args (hS.forget hp) (nlL_rel vs args (h vs hd).1 hr)) h2)⟩
    · exact absurd hr.symm hne
  · intro vs hd
    exact ⟨_, (hx vs hd).choose_spec.2, fun H => dif_pos hd⟩
end
theorem rG {call : CallF} (hC : call.Sound Tryz.prog TT) {r : Option Nat} {hs : List HE} {id : Nat} {ops : Array Oper} {t t' : Tm} {H H' : Heap} {Q : Out → List HE → Prop} (he : evSeq (evOp TT call) ops ops.toList t H = .norm t' H') (h : Q (.norm t' H') hs) (hnd : noDefer ops = true := by kernel_rfl) : TriG Tryz.prog TT r hs (.region id ops false) t H Q := TriG.reg TT_ok hC hnd (go_false he) h
def encI (p : List Int) : List V := p.map (V.i .i64)
theorem encI_length (p : List Int) : (encI p).length = p.length := by simp [encI]
theorem encI_at (d : List Int) (i : Int) (r : List Int) : (encI (d ++ i :: r))[d.length]? = some (.i .i64 i) := by simp [encI]
theorem encI_at2 (d : List Int) (i : Int) (r : List Int) : ∀ h, (encI (d ++ i :: r))[d.length]'h = .i .i64 i := fun h => by simp [encI]
theorem encI_nl (p : List Int) : nlL (encI p) = true := by
  induction p with
  | nil => rfl
  | cons x p ih => simpa [encI, nlL, nl] using ih
theorem body_18 {call : CallF} (hC : call.Sound Tryz.prog TT) (x : Nd) (p : List V) (H : Heap)  : HBody Tryz.prog TT 27 [x.enc, .isl 1 p] H (fun v K => v = .fn 35 [.ptr (H.length + 1) 0, .ptr H.length 0] ∧ K = H ++ [some ⟨24, [.i .i64 x.kind, .s x.text, .isl 3 (Nd.encL x.kids)], .all⟩, some ⟨25, [.isl 1 p], .all⟩]) := by
 refine en Tryz.f27 rfl rfl (by simp [Tryz.f27]) 6 rfl fun t hw hg => ?_
 have h0 := hg 0 _ rfl
 have h1 := hg 1 _ rfl
 clear hg
 try simp only [Nd.enc_eq] at *
 apply rS hC
 · iterate 3 refine oA ?_
   rfl
 apply rS hC
 · iterate 2 refine oA ?_
   rfl
 apply Tri.ret
 refine ⟨_, ⟨rfl, rfl⟩, ?_⟩
 simp [Tryz.f27]
noncomputable def rfOf : Code → Code × Code
  | .rangeFunc _ _ a b => (a, b)
  | _ => (.skip, .skip)
noncomputable def asg : Code := (rfOf (sub [true, true, false, true, false] (bodyOf Tryz.f8))).1
noncomputable def bdy : Code := (rfOf (sub [true, true, false, true, false] (bodyOf Tryz.f8))).2
theorem round_a {call : CallF} (hC : call.Sound Tryz.prog TT) {r : Option Nat} {hs : List HE} {t : Tm} {K : Heap} {a b c : V} {y : Bool} (hw : t.wid = 21) (h13 : t.get 13 = .agg [a, b, c]) (h14 : t.get 14 = .b y) (fa : flat a = true) (fb : flat b = true) (fc : flat c = true) {Q : Out → List HE → Prop}
    (hQ : ∀ tA : Tm, tA.wid = 21 → tA.get 7 = .ptr K.length 0 → tA.get 8 = .b y → (∀ j, j ≤ 6 → tA.get j = t.get j) → Q (.norm tA (K ++ [some ⟨24, [a, b, c], .all⟩])) hs) : TriG Tryz.prog TT r hs asg t K Q := by
 apply TriG.seq
 apply rG hC
 · iterate 2 refine gO (by simp [h13, h14, fa, fb, fc, -flat] <;> rfl) ?_
   rfl
 apply inSeqG_norm
 apply rG hC
 · refine gO (by simp [h13, h14, fa, fb, fc, -flat] <;> rfl) ?_
   rfl
 refine hQ _ (by simp [hw]) (by simp) (by simp) ?_
 intro j hj
 have : ¬ j = 7 ∧ ¬ j = 8 := by omega
 simp [this]
theorem round_b {call : CallF} (hC : call.Sound Tryz.prog TT) {r : Option Nat} {hs : List HE} {t : Tm} {K : Heap} {a b c : V} {n : Nat} {B : List V} (hw : t.wid = 21) (h7 : t.get 7 = .ptr n 0) (h8 : t.get 8 = .b true) (h6 : t.get 6 = .ptr 3 0) (gn : K[n]? = some (some ⟨24, [a, b, c], .all⟩)) (g3 : K[3]? = some (some ⟨24, B, .all⟩)) (hB : B.length = 3) (fa : flat a = true) (fb : flat b = true) (fc : flat c = true) {Q : Out → List HE → Prop}
    (hQ : ∀ tB : Tm, Q (.norm tB (K.set 3 (some ⟨24, [a, b, c], .all⟩))) hs) : TriG Tryz.prog TT r hs bdy t K Q := by
 have hB3 : B.drop 3 = [] := List.drop_of_length_le (by omega)
 have hB4 : 3 ≤ B.length := by omega
 refine TriG.block ?_
 iterate 2 apply TriG.seq
 apply rG hC
 · iterate 2 refine gO (by simp [h7, h8, h6, gn, g3, hB3, hB4, fa, fb, fc, -flat] <;> rfl) ?_
   rfl
 apply inSeqG_norm
 refine TriG.cond (o := ?o2) (b := ?b2) ?g2 ?r2 ?y2 ?n2
 case g2 => simp [h7, h8, h6, gn, g3, hB3, hB4, fa, fb, fc, -flat] <;> rfl
 case r2 => rfl
 case y2 =>
  intro hy2
  simp at hy2
 case n2 =>
  intro hn2
  refine TriG.skip ?_
  apply inSeqG_norm
  apply rG hC
  · iterate 2 refine gO (by simp [h7, h8, h6, gn, g3, hB3, hB4, fa, fb, fc, -flat] <;> rfl) ?_
    rfl
  refine inBlkG_norm ?_
  exact hQ _
theorem round_c {call : CallF} (hC : call.Sound Tryz.prog TT) {r : Option Nat} {hs : List HE} {t : Tm} {K : Heap} {B : List V} (hw : t.wid = 21) (h8 : t.get 8 = .b false) (h4 : t.get 4 = .ptr 1 0) (h5 : t.get 5 = .ptr 2 0) (g1 : K[1]? = some (some ⟨24, B, .all⟩)) (hB : B.length = 3) (g2 : ∀ u, (K.set 1 u)[2]? = some (some ⟨28, [.i .i64 0], .all⟩)) {Q : Out → List HE → Prop}
    (hQ : ∀ tB : Tm, Q (.ret tB ((K.set 1 (some ⟨24, [.i .i64 0, .s [], .nils], .all⟩)).set 2 (some ⟨28, [.i .i64 5], .all⟩))) hs) : TriG Tryz.prog TT r hs bdy t K Q := by
 have hB3 : B.drop 3 = [] := List.drop_of_length_le (by omega)
 have hB4 : 3 ≤ B.length := by omega
 refine TriG.block ?_
 iterate 2 apply TriG.seq
 apply rG hC
 · iterate 2 refine oA ?_
   rfl
 apply inSeqG_norm
 refine TriG.cond (o := ?o2) (b := ?b2) ?g2 ?r2 ?y2 ?n2
 case g2 => simp [h8, h4, h5, g1, g2, hB3, hB4] <;> rfl
 case r2 => rfl
 case y2 =>
  intro hy2
  apply TriG.seq
  apply rG hC
  · iterate 3 refine oA ?_
    rfl
  apply inSeqG_norm
  refine TriG.ret ?_
  refine inSeqG_ret ?_
  refine inBlkG_ret ?_
  exact hQ _
 case n2 =>
  intro hn2
  simp at hn2
structure AtS (K : Heap) (cur : Nd) (n : Nat) : Prop where
  g1 : K[1]? = some (some ⟨24, [.i .i64 0, .s [], .nils], .all⟩)
  g2 : K[2]? = some (some ⟨28, [.i .i64 0], .all⟩)
  g3 : K[3]? = some (some ⟨24, [.i .i64 cur.kind, .s cur.text, .isl 3 (Nd.encL cur.kids)], .all⟩)
  g4 : K[4]? = some (some ⟨24, [.i .i64 cur.kind, .s cur.text, .isl 3 (Nd.encL cur.kids)], .all⟩)
  gl : K.length = n + 6
def AtBad (K : Heap) (n : Nat) : Prop := K.length = n ∧ K[1]? = some (some ⟨24, [.i .i64 0, .s [], .nils], .all⟩) ∧ K[2]? = some (some ⟨28, [.i .i64 5], .all⟩)
def failAt (x : Nd) : List Int → Nat
  | [] => 0
  | i :: p => if 0 ≤ i ∧ i < x.kids.length then match x.kids[i.toNat]? with
      | some k => failAt k p + 1
      | none => 0
    else 0
def walkN (x : Nd) : List Int → Option Nd
  | [] => some x
  | i :: p => if 0 ≤ i ∧ i < x.kids.length then match x.kids[i.toNat]? with
      | some k => walkN k p
      | none => none
    else none
theorem AtS.next {K : Heap} {cur kid : Nd} {n : Nat} (h : AtS K cur n) : AtS (((K.set 4 (some ⟨24, [.i .i64 kid.kind, .s kid.text, .isl 3 (Nd.encL kid.kids)], .all⟩)) ++ ([some ⟨24, [.i .i64 kid.kind, .s kid.text, .isl 3 (Nd.encL kid.kids)], .all⟩] : Heap)).set 3 (some ⟨24, [.i .i64 kid.kind, .s kid.text, .isl 3 (Nd.encL kid.kids)], .all⟩)) kid (n + 1) := by
  obtain ⟨g1, g2, g3, g4, gl⟩ := h
  have k : ∀ i, i < 5 → i ≠ 3 → i ≠ 4 → (((K.set 4 (some ⟨24, [.i .i64 kid.kind, .s kid.text, .isl 3 (Nd.encL kid.kids)], .all⟩)) ++ ([some ⟨24, [.i .i64 kid.kind, .s kid.text, .isl 3 (Nd.encL kid.kids)], .all⟩] : Heap)).set 3 (some ⟨24, [.i .i64 kid.kind, .s kid.text, .isl 3 (Nd.encL kid.kids)], .all⟩))[i]? = K[i]? := fun i hi h3 h4 => by
    rw [List.getElem?_set_ne (by omega), List.getElem?_append_left (by simp; omega), List.getElem?_set_ne (by omega)]
  refine ⟨(k 1 (by omega) (by omega) (by omega)).trans g1, (k 2 (by omega) (by omega) (by omega)).trans g2, ?_, ?_, by simp; omega⟩
  · rw [List.getElem?_set_self (by simp; omega)]
  · rw [List.getElem?_set_ne (by omega), List.getElem?_append_left (by simp; omega), List.getElem?_set_self (by omega)]
theorem encL_get {l : List Nd} {n : Nat} {k : Nd} (h : l[n]? = some k) : (Nd.encL l)[n]? = some (.agg [.i .i64 k.kind, .s k.text, .isl 3 (Nd.encL k.kids)]) := by
  have e : ∀ l : List Nd, Nd.encL l = l.map Nd.enc := fun l => by
    induction l with
    | nil => rfl
    | cons x l ih => simp [Nd.encL, ih]
  rw [e, List.getElem?_map, h, Option.map_some, Nd.enc_eq]
theorem loop45 {call : CallF} (hC : call.Sound Tryz.prog TT) {r : Option Nat} {l : Nat} {rec : Loop} {t0 : Tm} (hst : rec.state = .ready) (hpd : rec.pending = none) (hps : rec.params = #[13, 14]) (hasg : rec.assign = asg) (hbdy : rec.body = bdy) (hwt0 : t0.wid = 21) (e4 : t0.get 4 = .ptr 1 0) (e5 : t0.get 5 = .ptr 2 0) (e6 : t0.get 6 = .ptr 3 0) {Q : Out → List HE → Prop} : ∀ (L d : List Int) (cur fin : Nd) (t : Tm) (K : Heap), AtS K cur d.length → walkN cur L = some fin → t.wid = 34 → t.get 0 = .yld l → t.get 1 = .ptr 5 0 → t.get 2 = .ptr 4 0 → t.get 6 = .isl 1 (encI (d ++ L)) → t.get 7 = .i .i64 (d ++ L).length → t.get 8 = .i .i64 d.length → (d ++ L).length < 1100000 → (∀ t' K', AtS K' fin (d ++ L).length → Q (.exit 0 t' K') [⟨l, .loop rec, t0, rec.tmps⟩]) → LTriG Tryz.prog TT r [⟨l, .loop rec, t0, rec.tmps⟩] (sub [true, false, false] (bodyOf Tryz.f35)) t K Q := by
 have hrecE : (⟨l, .loop { rec with state := if (none : Option Code).isNone then .ready else .done, pending := none }, t0, rec.tmps⟩ : HE) = ⟨l, .loop rec, t0, rec.tmps⟩ := by
  cases rec
  simp only at hst hpd
  subst hst hpd
  rfl
 intro L
 induction L with
 | nil =>
   intro d cur fin t K hI hf hw h0 h1 h2 h6 h7 h8 hlen hE
   simp only [walkN, Option.some.injEq] at hf
   subst hf
   refine LTriG.round ?_
   apply TriG.seq
   apply rG hC
   · refine gO (by simp [h0, h1, h2, h6, h7, h8, encI_length] <;> rfl) ?_
     rfl
   apply inSeqG_norm
   apply TriG.seq
   refine TriG.cond (o := ?oz2) (b := ?bz2) ?gz2 ?rz2 ?yz2 ?nz2
   case gz2 => simp [h0, h1, h2, h6, h7, h8, encI_length] <;> rfl
   case rz2 => rfl
   case yz2 =>
    intro hy2
    simp at hy2
   case nz2 =>
    intro hn2
    refine TriG.exit ?_
    refine inSeqG_exit ?_
    refine inLoopG_exit ?_
    exact hE _ _ (by simpa using hI)
 | cons i L ih =>
   intro d cur fin t K hI hf hw h0 h1 h2 h6 h7 h8 hlen hE
   have hlt := fin_len d.length L.length
   have hat := encI_at d i L
   have hat2 := encI_at2 d i L
   simp only [walkN] at hf
   split at hf
   · rename_i hr
     obtain ⟨hlo, hhi⟩ := hr
     split at hf
     · rename_i kid hk
       have hik := encL_get hk
       have hnl := Nd.encL_length cur.kids
       have hik2 : ∀ h, (Nd.encL cur.kids)[i.toNat]'h = .agg [.i .i64 kid.kind, .s kid.text, .isl 3 (Nd.encL kid.kids)] := fun h => Option.some.inj ((List.getElem?_eq_getElem h).symm.trans hik)
       obtain ⟨g1, g2, g3, g4, gl⟩ := hI
       have hI : AtS K cur d.length := ⟨g1, g2, g3, g4, gl⟩
       have gl4 : 4 < K.length := by omega
       have hlo2 : ¬ i < 0 := by omega
       have hhi2 : ¬ ((cur.kids.length : Int) ≤ i) := by omega
       have nextI := fun (h : AtS K cur d.length) => AtS.next (kid := kid) h
       refine LTriG.round ?_
       apply TriG.seq
       apply rG hC
       · refine gO (by simp [h0, h1, h2, h6, h7, h8, encI_length, hlt, hat, hat2, g1, g2, g3, g4, hlo, hhi, hlo2, hhi2, hik, hik2, hnl] <;> rfl) ?_
         rfl
       apply inSeqG_norm
       apply TriG.seq
       refine TriG.cond (o := ?o2) (b := ?b2) ?g2 ?r2 ?y2 ?n2
       case g2 => simp [h0, h1, h2, h6, h7, h8, encI_length, hlt, hat, hat2, g1, g2, g3, g4, hlo, hhi, hlo2, hhi2, hik, hik2, hnl] <;> rfl
       case r2 => rfl
       case y2 =>
        intro hy2
        refine TriG.skip ?_
        apply inSeqG_norm
        apply TriG.seq
        refine TriG.block ?_
        apply TriG.seq
        apply rG hC
        · iterate 3 refine gO (by simp [h0, h1, h2, h6, h7, h8, encI_length, hlt, hat, hat2, g1, g2, g3, g4, hlo, hhi, hlo2, hhi2, hik, hik2, hnl] <;> rfl) ?_
          rfl
        apply inSeqG_norm
        iterate 2 apply TriG.seq
        apply rG hC
        · iterate 3 refine gO (by simp [h0, h1, h2, h6, h7, h8, encI_length, hlt, hat, hat2, g1, g2, g3, g4, hlo, hhi, hlo2, hhi2, hik, hik2, hnl] <;> rfl) ?_
          iterate 5 refine gW (by simp [wants, h0, h1, h2, h6, h7, h8, encI_length, hlt, hat, hat2, g1, g2, g3, g4, hlo, hhi, hlo2, hhi2, hik, hik2, hnl]) (by simp [h0, h1, h2, h6, h7, h8, encI_length, hlt, hat, hat2, g1, g2, g3, g4, hlo, hhi, hlo2, hhi2, hik, hik2, hnl] <;> rfl) ?_
          refine gO (by simp [h0, h1, h2, h6, h7, h8, encI_length, hlt, hat, hat2, g1, g2, g3, g4, hlo, hhi, hlo2, hhi2, hik, hik2, hnl] <;> rfl) ?_
          rfl
        apply inSeqG_norm
        refine TriG.cond (o := ?o5) (b := ?b5) ?g5 ?r5 ?y5 ?n5
        case g5 => simp [h0, h1, h2, h6, h7, h8, encI_length, hlt, hat, hat2, g1, g2, g3, g4, hlo, hhi, hlo2, hhi2, hik, hik2, hnl] <;> rfl
        case r5 => rfl
        case y5 =>
         intro hy5
         exact absurd hy5 (by simp [h0, h1, h2, h6, h7, h8, encI_length, hlt, hat, hat2, g1, g2, g3, g4, hlo, hhi, hlo2, hhi2, hik, hik2, hnl])
        case n5 =>
         intro hn5
         refine TriG.skip ?_
         apply inSeqG_norm
         apply TriG.seq
         apply rG hC
         · iterate 6 refine gO (by simp [h0, h1, h2, h6, h7, h8, encI_length, hlt, hat, hat2, g1, g2, g3, g4, hlo, hhi, hlo2, hhi2, hik, hik2, hnl] <;> rfl) ?_
           rfl
         apply inSeqG_norm
         apply TriG.seq
         refine TriG.yield (vs := [.agg [.i .i64 kid.kind, .s kid.text, .isl 3 (Nd.encL kid.kids)], .b true]) (t1 := ?ty6) (H1 := ?Hy6) TT_ok hC (by kernel_rfl) 2 hps hasg hbdy rfl rfl ?ey6 rfl ?jy6 ?vy6 rfl hst ?fy6 (by simp [hwt0]) ?_
         case ey6 =>
          iterate 2 refine gO (by simp [h0, h1, h2, h6, h7, h8, encI_length, hlt, hat, hat2, g1, g2, g3, g4, hlo, hhi, hlo2, hhi2, hik, hik2, hnl, gl4] <;> rfl) ?_
          exact evSeq_nil
         case jy6 => simp [h0, h1, h2, h6, h7, h8, encI_length, hlt, hat, hat2, g1, g2, g3, g4, hlo, hhi, hlo2, hhi2, hik, hik2, hnl, gl4]
         case vy6 => simp [h0, h1, h2, h6, h7, h8, encI_length, hlt, hat, hat2, g1, g2, g3, g4, hlo, hhi, hlo2, hhi2, hik, hik2, hnl, gl4]
         case fy6 => simp [fits_some, hw, Nat.blt_eq]
         refine round_a hC (a := .i .i64 kid.kind) (b := .s kid.text) (c := .isl 3 (Nd.encL kid.kids)) (y := true) (by simp [putL, hwt0]) (by simp [putL]) (by simp [putL]) rfl rfl rfl ?_
         intro tA hwA h7A h8A hkA
         refine ⟨_, _, _, rfl, rfl, ?_⟩
         refine round_b hC (a := .i .i64 kid.kind) (b := .s kid.text) (c := .isl 3 (Nd.encL kid.kids)) hwA h7A h8A (by rw [hkA 6 (by omega)]; simp [putL, e6]) (by simp) (B := [.i .i64 cur.kind, .s cur.text, .isl 3 (Nd.encL cur.kids)]) (by rw [List.getElem?_append_left (by simp; omega), List.getElem?_set_ne (by omega)]; exact g3) rfl rfl rfl rfl ?_
         intro tB
         refine ⟨_, rfl, none, _, ⟨rfl, rfl⟩, ?t26, ?H26, ?er6, ?_⟩
         case er6 =>
          refine gO (by simp [h0, h1, h2, h6, h7, h8, encI_length, hlt, hat, hat2, g1, g2, g3, g4, hlo, hhi, hlo2, hhi2, hik, hik2, hnl, gl4] <;> rfl) ?_
          exact evSeq_nil
         rw [hrecE]
         apply inSeqG_norm
         refine TriG.cond (o := ?o8) (b := ?b8) ?g8 ?r8 ?y8 ?n8
         case g8 => simp [h0, h1, h2, h6, h7, h8, encI_length, hlt, hat, hat2, g1, g2, g3, g4, hlo, hhi, hlo2, hhi2, hik, hik2, hnl] <;> rfl
         case r8 => rfl
         case y8 =>
          intro hy8
          simp at hy8
         case n8 =>
          intro hn8
          refine TriG.skip ?_
          refine inBlkG_norm ?_
          apply inSeqG_norm
          apply rG hC
          · iterate 2 refine gO (by simp [h0, h1, h2, h6, h7, h8, encI_length, hlt, hat, hat2, g1, g2, g3, g4, hlo, hhi, hlo2, hhi2, hik, hik2, hnl] <;> rfl) ?_
            rfl
          refine inLoopG_norm ?_
          refine ih (d ++ [i]) kid fin _ _ ?nI hf (by simp [hw]) (by simp [h0]) (by simp [h1]) (by simp [h2]) (by simp [h6]) (by simp [h7]) (by simp; exact wrap_i64 (by omega) (by simp at hlen; omega)) (by simpa using hlen) (by simpa using hE)
          case nI => simpa using nextI hI
       case n2 =>
        intro hn2
        exfalso
        simp at hn2 <;> omega
     · cases hf
   · cases hf

theorem bad_at {K : Heap} {n : Nat} (gl : K.length = n + 6) : AtBad (((K ++ ([some ⟨24, [.i .i64 0, .s [], .nils], .all⟩] : Heap)).set 1 (some ⟨24, [.i .i64 0, .s [], .nils], .all⟩)).set 2 (some ⟨28, [.i .i64 5], .all⟩)) (n + 7) := by
  refine ⟨by simp; omega, ?_, ?_⟩
  · rw [List.getElem?_set_ne (by omega), List.getElem?_set_self (by simp; omega)]
  · rw [List.getElem?_set_self (by simp; omega)]
theorem loop45b {call : CallF} (hC : call.Sound Tryz.prog TT) {r : Option Nat} {l : Nat} {rec : Loop} {t0 : Tm} (hst : rec.state = .ready) (hpd : rec.pending = none) (hps : rec.params = #[13, 14]) (hasg : rec.assign = asg) (hbdy : rec.body = bdy) (hwt0 : t0.wid = 21) (e4 : t0.get 4 = .ptr 1 0) (e5 : t0.get 5 = .ptr 2 0) (e6 : t0.get 6 = .ptr 3 0) {Q : Out → List HE → Prop} : ∀ (L d : List Int) (cur : Nd) (t : Tm) (K : Heap), AtS K cur d.length → walkN cur L = none → t.wid = 34 → t.get 0 = .yld l → t.get 1 = .ptr 5 0 → t.get 2 = .ptr 4 0 → t.get 6 = .isl 1 (encI (d ++ L)) → t.get 7 = .i .i64 (d ++ L).length → t.get 8 = .i .i64 d.length → (d ++ L).length < 1100000 → (∀ t' K', AtBad K' (d.length + failAt cur L + 7) → Q (.ret t' K') [⟨l, .loop { rec with state := .done, pending := some .ret }, t0, rec.tmps⟩]) → LTriG Tryz.prog TT r [⟨l, .loop rec, t0, rec.tmps⟩] (sub [true, false, false] (bodyOf Tryz.f35)) t K Q := by
 have hrecE : (⟨l, .loop { rec with state := if (none : Option Code).isNone then .ready else .done, pending := none }, t0, rec.tmps⟩ : HE) = ⟨l, .loop rec, t0, rec.tmps⟩ := by
  cases rec
  simp only at hst hpd
  subst hst hpd
  rfl
 intro L
 induction L with
 | nil =>
   intro d cur t K hI hf
   simp [walkN] at hf
 | cons i L ih =>
   intro d cur t K hI hf hw h0 h1 h2 h6 h7 h8 hlen hR
   have hlt := fin_len d.length L.length
   have hat := encI_at d i L
   have hat2 := encI_at2 d i L
   have hnl := Nd.encL_length cur.kids
   obtain ⟨g1, g2, g3, g4, gl⟩ := hI
   have hI : AtS K cur d.length := ⟨g1, g2, g3, g4, gl⟩
   have gl4 : 4 < K.length := by omega
   simp only [walkN] at hf
   split at hf
   · rename_i hr
     obtain ⟨hlo, hhi⟩ := hr
     have hlo2 : ¬ i < 0 := by omega
     have hhi2 : ¬ ((cur.kids.length : Int) ≤ i) := by omega
     split at hf
     · rename_i kid hk
       have hik := encL_get hk
       have hik2 : ∀ h, (Nd.encL cur.kids)[i.toNat]'h = .agg [.i .i64 kid.kind, .s kid.text, .isl 3 (Nd.encL kid.kids)] := fun h => Option.some.inj ((List.getElem?_eq_getElem h).symm.trans hik)
       have hfa : failAt cur (i :: L) = failAt kid L + 1 := by
        simp only [failAt]
        rw [if_pos ⟨hlo, hhi⟩, hk]
       have nextI := fun (h : AtS K cur d.length) => AtS.next (kid := kid) h
       refine LTriG.round ?_
       apply TriG.seq
       apply rG hC
       · refine gO (by simp [h0, h1, h2, h6, h7, h8, encI_length, hlt, hat, hat2, g1, g2, g3, g4, hlo, hhi, hlo2, hhi2, hik, hik2, hnl] <;> rfl) ?_
         rfl
       apply inSeqG_norm
       apply TriG.seq
       refine TriG.cond (o := ?o2) (b := ?b2) ?g2 ?r2 ?y2 ?n2
       case g2 => simp [h0, h1, h2, h6, h7, h8, encI_length, hlt, hat, hat2, g1, g2, g3, g4, hlo, hhi, hlo2, hhi2, hik, hik2, hnl] <;> rfl
       case r2 => rfl
       case y2 =>
        intro hy2
        refine TriG.skip ?_
        apply inSeqG_norm
        apply TriG.seq
        refine TriG.block ?_
        apply TriG.seq
        apply rG hC
        · iterate 3 refine gO (by simp [h0, h1, h2, h6, h7, h8, encI_length, hlt, hat, hat2, g1, g2, g3, g4, hlo, hhi, hlo2, hhi2, hik, hik2, hnl] <;> rfl) ?_
          rfl
        apply inSeqG_norm
        iterate 2 apply TriG.seq
        apply rG hC
        · iterate 3 refine gO (by simp [h0, h1, h2, h6, h7, h8, encI_length, hlt, hat, hat2, g1, g2, g3, g4, hlo, hhi, hlo2, hhi2, hik, hik2, hnl] <;> rfl) ?_
          iterate 5 refine gW (by simp [wants, h0, h1, h2, h6, h7, h8, encI_length, hlt, hat, hat2, g1, g2, g3, g4, hlo, hhi, hlo2, hhi2, hik, hik2, hnl]) (by simp [h0, h1, h2, h6, h7, h8, encI_length, hlt, hat, hat2, g1, g2, g3, g4, hlo, hhi, hlo2, hhi2, hik, hik2, hnl] <;> rfl) ?_
          refine gO (by simp [h0, h1, h2, h6, h7, h8, encI_length, hlt, hat, hat2, g1, g2, g3, g4, hlo, hhi, hlo2, hhi2, hik, hik2, hnl] <;> rfl) ?_
          rfl
        apply inSeqG_norm
        refine TriG.cond (o := ?o5) (b := ?b5) ?g5 ?r5 ?y5 ?n5
        case g5 => simp [h0, h1, h2, h6, h7, h8, encI_length, hlt, hat, hat2, g1, g2, g3, g4, hlo, hhi, hlo2, hhi2, hik, hik2, hnl] <;> rfl
        case r5 => rfl
        case y5 =>
         intro hy5
         exact absurd hy5 (by simp [h0, h1, h2, h6, h7, h8, encI_length, hlt, hat, hat2, g1, g2, g3, g4, hlo, hhi, hlo2, hhi2, hik, hik2, hnl])
        case n5 =>
         intro hn5
         refine TriG.skip ?_
         apply inSeqG_norm
         apply TriG.seq
         apply rG hC
         · iterate 6 refine gO (by simp [h0, h1, h2, h6, h7, h8, encI_length, hlt, hat, hat2, g1, g2, g3, g4, hlo, hhi, hlo2, hhi2, hik, hik2, hnl] <;> rfl) ?_
           rfl
         apply inSeqG_norm
         apply TriG.seq
         refine TriG.yield (vs := [.agg [.i .i64 kid.kind, .s kid.text, .isl 3 (Nd.encL kid.kids)], .b true]) (t1 := ?ty6) (H1 := ?Hy6) TT_ok hC (by kernel_rfl) 2 hps hasg hbdy rfl rfl ?ey6 rfl ?jy6 ?vy6 rfl hst ?fy6 (by simp [hwt0]) ?_
         case ey6 =>
          iterate 2 refine gO (by simp [h0, h1, h2, h6, h7, h8, encI_length, hlt, hat, hat2, g1, g2, g3, g4, hlo, hhi, hlo2, hhi2, hik, hik2, hnl, gl4] <;> rfl) ?_
          exact evSeq_nil
         case jy6 => simp [h0, h1, h2, h6, h7, h8, encI_length, hlt, hat, hat2, g1, g2, g3, g4, hlo, hhi, hlo2, hhi2, hik, hik2, hnl, gl4]
         case vy6 => simp [h0, h1, h2, h6, h7, h8, encI_length, hlt, hat, hat2, g1, g2, g3, g4, hlo, hhi, hlo2, hhi2, hik, hik2, hnl, gl4]
         case fy6 => simp [fits_some, hw, Nat.blt_eq]
         refine round_a hC (a := .i .i64 kid.kind) (b := .s kid.text) (c := .isl 3 (Nd.encL kid.kids)) (y := true) (by simp [putL, hwt0]) (by simp [putL]) (by simp [putL]) rfl rfl rfl ?_
         intro tA hwA h7A h8A hkA
         refine ⟨_, _, _, rfl, rfl, ?_⟩
         refine round_b hC (a := .i .i64 kid.kind) (b := .s kid.text) (c := .isl 3 (Nd.encL kid.kids)) hwA h7A h8A (by rw [hkA 6 (by omega)]; simp [putL, e6]) (by simp) (B := [.i .i64 cur.kind, .s cur.text, .isl 3 (Nd.encL cur.kids)]) (by rw [List.getElem?_append_left (by simp; omega), List.getElem?_set_ne (by omega)]; exact g3) rfl rfl rfl rfl ?_
         intro tB
         refine ⟨_, rfl, none, _, ⟨rfl, rfl⟩, ?t26, ?H26, ?er6, ?_⟩
         case er6 =>
          refine gO (by simp [h0, h1, h2, h6, h7, h8, encI_length, hlt, hat, hat2, g1, g2, g3, g4, hlo, hhi, hlo2, hhi2, hik, hik2, hnl, gl4] <;> rfl) ?_
          exact evSeq_nil
         rw [hrecE]
         apply inSeqG_norm
         refine TriG.cond (o := ?o8) (b := ?b8) ?g8 ?r8 ?y8 ?n8
         case g8 => simp [h0, h1, h2, h6, h7, h8, encI_length, hlt, hat, hat2, g1, g2, g3, g4, hlo, hhi, hlo2, hhi2, hik, hik2, hnl] <;> rfl
         case r8 => rfl
         case y8 =>
          intro hy8
          simp at hy8
         case n8 =>
          intro hn8
          refine TriG.skip ?_
          refine inBlkG_norm ?_
          apply inSeqG_norm
          apply rG hC
          · iterate 2 refine gO (by simp [h0, h1, h2, h6, h7, h8, encI_length, hlt, hat, hat2, g1, g2, g3, g4, hlo, hhi, hlo2, hhi2, hik, hik2, hnl] <;> rfl) ?_
            rfl
          refine inLoopG_norm ?_
          refine ih (d ++ [i]) kid _ _ ?nI hf (by simp [hw]) (by simp [h0]) (by simp [h1]) (by simp [h2]) (by simp [h6]) (by simp [h7]) (by simp; exact wrap_i64 (by omega) (by simp at hlen; omega)) (by simpa using hlen) (fun t2 K2 hb => hR t2 K2 (by rw [hfa]; simpa [Nat.add_assoc, Nat.add_comm, Nat.add_left_comm] using hb))
          case nI => simpa using nextI hI
       case n2 =>
        intro hn2
        exfalso
        simp at hn2 <;> omega
     · rename_i hk
       rw [List.getElem?_eq_none_iff] at hk
       omega
   · rename_i hr
     by_cases hneg : i < 0
     · skip
       refine LTriG.round ?_
       apply TriG.seq
       apply rG hC
       · refine gO (by simp [h0, h1, h2, h6, h7, h8, encI_length, hlt, hat, hat2, g1, g2, g3, g4, hnl, hneg] <;> rfl) ?_
         rfl
       apply inSeqG_norm
       apply TriG.seq
       refine TriG.cond (o := ?ou2) (b := ?bu2) ?gu2 ?ru2 ?yu2 ?nu2
       case gu2 => simp [h0, h1, h2, h6, h7, h8, encI_length, hlt, hat, hat2, g1, g2, g3, g4, hnl, hneg] <;> rfl
       case ru2 => rfl
       case yu2 =>
        intro hy2
        refine TriG.skip ?_
        apply inSeqG_norm
        apply TriG.seq
        refine TriG.block ?_
        apply TriG.seq
        apply rG hC
        · iterate 3 refine gO (by simp [h0, h1, h2, h6, h7, h8, encI_length, hlt, hat, hat2, g1, g2, g3, g4, hnl, hneg] <;> rfl) ?_
          rfl
        apply inSeqG_norm
        iterate 2 apply TriG.seq
        apply rG hC
        · iterate 3 refine gO (by simp [h0, h1, h2, h6, h7, h8, encI_length, hlt, hat, hat2, g1, g2, g3, g4, hnl, hneg] <;> rfl) ?_
          iterate 5 refine gF (by simp [wants, h0, h1, h2, h6, h7, h8, encI_length, hlt, hat, hat2, g1, g2, g3, g4, hnl, hneg]) ?_
          refine gO (by simp [h0, h1, h2, h6, h7, h8, encI_length, hlt, hat, hat2, g1, g2, g3, g4, hnl, hneg] <;> rfl) ?_
          rfl
        apply inSeqG_norm
        refine TriG.cond (o := ?ou5) (b := ?bu5) ?gu5 ?ru5 ?yu5 ?nu5
        case gu5 => simp [h0, h1, h2, h6, h7, h8, encI_length, hlt, hat, hat2, g1, g2, g3, g4, hnl, hneg] <;> rfl
        case ru5 => rfl
        case yu5 =>
         intro hy5
         apply TriG.seq
         refine TriG.yield (vs := [.agg [.i .i64 0, .s [], .nils], .b false]) (t1 := ?ty4u) (H1 := ?Hy4u) TT_ok hC (by kernel_rfl) 2 hps hasg hbdy rfl rfl ?ey4u rfl ?jy4u ?vy4u rfl hst ?fy4u (by simp [hwt0]) ?_
         case ey4u =>
          iterate 2 refine gO (by simp [h0, h1, h2, h6, h7, h8, encI_length, hlt, hat, hat2, g1, g2, g3, g4, hnl, hneg] <;> rfl) ?_
          exact evSeq_nil
         case jy4u => simp [h0, h1, h2, h6, h7, h8, encI_length, hlt, hat, hat2, g1, g2, g3, g4, hnl, hneg]
         case vy4u => simp [h0, h1, h2, h6, h7, h8, encI_length, hlt, hat, hat2, g1, g2, g3, g4, hnl, hneg]
         case fy4u => simp [fits_some, hw, Nat.blt_eq]
         refine round_a hC (a := .i .i64 0) (b := .s []) (c := .nils) (y := false) (by simp [putL, hwt0]) (by simp [putL]) (by simp [putL]) rfl rfl rfl ?_
         intro tA hwA h7A h8A hkA
         refine ⟨_, _, _, rfl, rfl, ?_⟩
         refine round_c hC (B := [.i .i64 0, .s [], .nils]) hwA h8A (by rw [hkA 4 (by omega)]; simp [putL, e4]) (by rw [hkA 5 (by omega)]; simp [putL, e5]) (by rw [List.getElem?_append_left (by omega)]; exact g1) rfl (fun u => by rw [List.getElem?_set_ne (by omega), List.getElem?_append_left (by omega)]; exact g2) ?_
         intro tB
         refine ⟨_, rfl, some .ret, _, ⟨rfl, rfl⟩, ?tu24, ?Hu24, ?er4u, ?_⟩
         case er4u =>
          exact evSeq_nil

         apply inSeqG_norm
         refine TriG.ret ?_
         refine inSeqG_ret ?_
         refine inBlkG_ret ?_
         refine inSeqG_ret ?_
         refine inLoopG_ret ?_
         exact hR _ _ (by simpa [failAt, hr] using bad_at gl)
        case nu5 =>
         intro hn5
         simp at hn5
       case nu2 =>
        intro hn2
        exfalso
        simp at hn2 <;> omega
     · have hlo2 := hneg
       have hbig : (cur.kids.length : Int) ≤ i := by
        rcases Int.lt_or_le i cur.kids.length with h | h
        · exact absurd ⟨by omega, h⟩ hr
        · exact h
       refine LTriG.round ?_
       apply TriG.seq
       apply rG hC
       · refine gO (by simp [h0, h1, h2, h6, h7, h8, encI_length, hlt, hat, hat2, g1, g2, g3, g4, hnl, hlo2, hbig] <;> rfl) ?_
         rfl
       apply inSeqG_norm
       apply TriG.seq
       refine TriG.cond (o := ?ov2) (b := ?bv2) ?gv2 ?rv2 ?yv2 ?nv2
       case gv2 => simp [h0, h1, h2, h6, h7, h8, encI_length, hlt, hat, hat2, g1, g2, g3, g4, hnl, hlo2, hbig] <;> rfl
       case rv2 => rfl
       case yv2 =>
        intro hy2
        refine TriG.skip ?_
        apply inSeqG_norm
        apply TriG.seq
        refine TriG.block ?_
        apply TriG.seq
        apply rG hC
        · iterate 3 refine gO (by simp [h0, h1, h2, h6, h7, h8, encI_length, hlt, hat, hat2, g1, g2, g3, g4, hnl, hlo2, hbig] <;> rfl) ?_
          rfl
        apply inSeqG_norm
        iterate 2 apply TriG.seq
        apply rG hC
        · iterate 3 refine gO (by simp [h0, h1, h2, h6, h7, h8, encI_length, hlt, hat, hat2, g1, g2, g3, g4, hnl, hlo2, hbig] <;> rfl) ?_
          iterate 5 refine gW (by simp [wants, h0, h1, h2, h6, h7, h8, encI_length, hlt, hat, hat2, g1, g2, g3, g4, hnl, hlo2, hbig]) (by simp [h0, h1, h2, h6, h7, h8, encI_length, hlt, hat, hat2, g1, g2, g3, g4, hnl, hlo2, hbig] <;> rfl) ?_
          refine gO (by simp [h0, h1, h2, h6, h7, h8, encI_length, hlt, hat, hat2, g1, g2, g3, g4, hnl, hlo2, hbig] <;> rfl) ?_
          rfl
        apply inSeqG_norm
        refine TriG.cond (o := ?ov5) (b := ?bv5) ?gv5 ?rv5 ?yv5 ?nv5
        case gv5 => simp [h0, h1, h2, h6, h7, h8, encI_length, hlt, hat, hat2, g1, g2, g3, g4, hnl, hlo2, hbig] <;> rfl
        case rv5 => rfl
        case yv5 =>
         intro hy5
         apply TriG.seq
         refine TriG.yield (vs := [.agg [.i .i64 0, .s [], .nils], .b false]) (t1 := ?ty4v) (H1 := ?Hy4v) TT_ok hC (by kernel_rfl) 2 hps hasg hbdy rfl rfl ?ey4v rfl ?jy4v ?vy4v rfl hst ?fy4v (by simp [hwt0]) ?_
         case ey4v =>
          iterate 2 refine gO (by simp [h0, h1, h2, h6, h7, h8, encI_length, hlt, hat, hat2, g1, g2, g3, g4, hnl, hlo2, hbig] <;> rfl) ?_
          exact evSeq_nil
         case jy4v => simp [h0, h1, h2, h6, h7, h8, encI_length, hlt, hat, hat2, g1, g2, g3, g4, hnl, hlo2, hbig]
         case vy4v => simp [h0, h1, h2, h6, h7, h8, encI_length, hlt, hat, hat2, g1, g2, g3, g4, hnl, hlo2, hbig]
         case fy4v => simp [fits_some, hw, Nat.blt_eq]
         refine round_a hC (a := .i .i64 0) (b := .s []) (c := .nils) (y := false) (by simp [putL, hwt0]) (by simp [putL]) (by simp [putL]) rfl rfl rfl ?_
         intro tA hwA h7A h8A hkA
         refine ⟨_, _, _, rfl, rfl, ?_⟩
         refine round_c hC (B := [.i .i64 0, .s [], .nils]) hwA h8A (by rw [hkA 4 (by omega)]; simp [putL, e4]) (by rw [hkA 5 (by omega)]; simp [putL, e5]) (by rw [List.getElem?_append_left (by omega)]; exact g1) rfl (fun u => by rw [List.getElem?_set_ne (by omega), List.getElem?_append_left (by omega)]; exact g2) ?_
         intro tB
         refine ⟨_, rfl, some .ret, _, ⟨rfl, rfl⟩, ?tv24, ?Hv24, ?er4v, ?_⟩
         case er4v =>
          exact evSeq_nil

         apply inSeqG_norm
         refine TriG.ret ?_
         refine inSeqG_ret ?_
         refine inBlkG_ret ?_
         refine inSeqG_ret ?_
         refine inLoopG_ret ?_
         exact hR _ _ (by simpa [failAt, hr] using bad_at gl)
        case nv5 =>
         intro hn5
         simp at hn5
       case nv2 =>
        intro hn2
        exfalso
        simp at hn2 <;> omega

end Go.Ev
