/- Regions on terms, in order and drawn. Code on terms. Whole functions and loops on terms. Shapes of the calls, and small facts of lists and numbers. Mul64. times. Arithmetic with large numbers. What the reference says of a byte, for all bytes. Calls with closed arguments, run by the evaluator. Div64 by ten. -/
import Derived.Test.YtmjplflnlggbeaaGreatDoorSSy5
import Derived.Test.YtmjplflnlggbeaaGreatDoorSEvN
import Derived.Shelf.Bits.Mul64
namespace Go.Ev
open Go Go.Proofs
set_option linter.unusedSimpArgs false
set_option linter.unusedVariables false
set_option maxRecDepth 1000000
open Go
section
variable {T : Tab} {call : CallF} {w : Nat} {L : LO → List U → Tm → Heap → Prop} {R : OR → Prop} {σ : List U} {H : Heap} {t : Tm} {st : St}
noncomputable def E.size (e : E) : Nat := E.rec (fun _ => 0) (fun _ => 0) (fun _ => 0) (fun _ => 0) (fun _ => 0) (fun _ => 0) 0 (fun _ _ r => r + 1) (fun _ _ _ r q => r + q + 1) (fun _ _ _ _ r q p => r + q + p + 1) e
noncomputable def putT (w : Nat) (d : Option Tmp) (e : E) (st : St) (k : St → Tree) : Tree := match d with
  | none => k st
  | some d => bif Nat.blt d w then (fE e fun e => bif e.scop st.nv then (match st with | ⟨tm, h, nv, kn⟩ => (match e with
    | .f1 (.vi j) a => bif Nat.blt 7 a.size then .leti a (fN (nv + 1) fun m => k ⟨(d, .f1 (.vi j) (.va nv)) :: tm, h, m, kn⟩) else k ⟨(d, .f1 (.vi j) a) :: tm, h, nv, kn⟩
    | .f1 .vs a => bif Nat.blt 7 a.size then .lets a (fN (nv + 1) fun m => k ⟨(d, .f1 .vs (.va nv)) :: tm, h, m, kn⟩) else k ⟨(d, .f1 .vs a) :: tm, h, nv, kn⟩
    | e => k ⟨(d, e) :: tm, h, nv, kn⟩)) else .stuck 3) else .stuck 4
theorem Holds.set (hh : Holds w σ st t H) {d : Nat} {e : E} {v : V} (hs : e.scop st.nv = true) (hv : v = (e.den σ).val) : Holds w σ ⟨(d, e) :: st.tm, st.h, st.nv, st.kn⟩ (t.put (some d) v) H := by
  subst hv
  refine ⟨by rw [Tm.wid_put]; exact hh.wid, ?_, hh.heap, hh.wf, hh.nv, hh.kn, ?_, hh.sh, hh.sk⟩
  · intro k' e' he
    rw [get_put]
    rcases getE_cons he with ⟨h1, h2⟩ | ⟨h1, h2⟩
    · rw [if_pos h1.symm, h2]
    · rw [if_neg (fun e => h1 e.symm)]
      exact hh.tm k' e' h2
  · intro p hp
    rcases List.mem_cons.1 hp with rfl | hp
    · exact hs
    · exact hh.sc p hp
theorem putT_ok {d : Option Tmp} {e : E} {k : St → Tree} (hv : VC T call w L R σ (putT w d e st k)) (hh : Holds w σ st t H) : t.fits d = true ∧ ∃ σ' st', Holds w σ' st' (t.put d (e.den σ).val) H ∧ VC T call w L R σ' (k st') ∧ σ <+: σ' := by
  cases d with
  | none => exact ⟨rfl, σ, st, hh, hv, List.prefix_refl _⟩
  | some d =>
    unfold putT at hv
    cases hd : Nat.blt d w
    · simp only [hd] at hv; exact hv.elim
    · simp only [hd, cond_true, fE_eq] at hv
      refine ⟨by rw [fits_some, hh.wid, hd], ?_⟩
      cases hs : e.scop st.nv
      · rw [hs] at hv; exact hv.elim
      · rw [hs] at hv
        simp only [cond_true] at hv
        have plain : ∀ e', e' = e → VC T call w L R σ (k ⟨(d, e') :: st.tm, st.h, st.nv, st.kn⟩) → ∃ σ' st', Holds w σ' st' (t.put (some d) (e.den σ).val) H ∧ VC T call w L R σ' (k st') ∧ σ <+: σ' := by
          rintro e' rfl hv
          exact ⟨σ, _, hh.set hs rfl, hv, List.prefix_refl _⟩
        have more : ∀ (u : U) (e' : E), VC T call w L R (σ ++ [u]) (k ⟨(d, e') :: st.tm, st.h, st.nv + 1, st.kn⟩) → e'.scop (st.nv + 1) = true → (e.den σ).val = (e'.den (σ ++ [u])).val → ∃ σ' st', Holds w σ' st' (t.put (some d) (e.den σ).val) H ∧ VC T call w L R σ' (k st') ∧ σ <+: σ' := fun u e' hv hs' he =>
          ⟨σ ++ [u], _, (hh.more [u]).set hs' he, hv, List.prefix_append ..⟩
        split at hv
        · rename_i j a
          simp only [fN_eq] at hv
          cases hb : Nat.blt 7 a.size
          · rw [hb] at hv; exact plain _ rfl hv
          · rw [hb] at hv
            refine more (.ui (a.den σ).int) (.f1 (.vi j) (.va st.nv)) (hv _ rfl) (by simp [E.scop]) ?_
            simp [← hh.nv]
        · rename_i a
          simp only [fN_eq] at hv
          cases hb : Nat.blt 7 a.size
          · rw [hb] at hv; exact plain _ rfl hv
          · rw [hb] at hv
            refine more (.us (a.den σ).str) (.f1 .vs (.va st.nv)) (hv _ rfl) (by simp [E.scop]) ?_
            simp [← hh.nv]
        · exact plain _ rfl hv
noncomputable def wantT (ops : Array Oper) (o : Oper) (st : St) (k : St → Bool → Tree) : Tree := match o.guard with
  | none => k st true
  | some (j, want) => match (ops[j]?).bind (·.dst) with
    | none => k st false
    | some d => match getE st.tm d with
      | some (.f1 .vb c) => decT st c fun st y => k st (y == want)
      | some (.cv (.tup [])) => k st false
      | _ => .stuck 2
theorem wantT_ok {ops : Array Oper} {o : Oper} {k : St → Bool → Tree} (hv : VC T call w L R σ (wantT ops o st k)) (hh : Holds w σ st t H) : ∃ st' b, wants ops o t.get = some b ∧ Same st st' ∧ Holds w σ st' t H ∧ VC T call w L R σ (k st' b) := by
  unfold wantT at hv
  unfold wants
  split at hv
  · rename_i hg
    exact ⟨st, true, by rw [hg], ⟨rfl, rfl, rfl⟩, hh, hv⟩
  · rename_i j want hg
    rw [hg]
    simp only
    split at hv
    · rename_i hd
      rw [hd]
      exact ⟨st, false, rfl, ⟨rfl, rfl, rfl⟩, hh, hv⟩
    · rename_i d hd
      rw [hd]
      simp only
      split at hv
      · rename_i c hc
        rw [hh.tm _ _ hc]
        obtain ⟨st', h1, h2, h3⟩ := decT_ok hv hh
        exact ⟨st', _, rfl, h1, h2, h3⟩
      · rename_i hc
        rw [hh.tm _ _ hc]
        exact ⟨st, false, rfl, ⟨rfl, rfl, rfl⟩, hh, hv⟩
      · exact hv.elim

/-! A region in its order. -/
noncomputable def seqT (T : Tab) (sh : Nat → Option Shape) (w : Nat) (ops : Array Oper) (kp : St → E → Tree) : List Oper → St → (St → Tree) → Tree
  | [], st, k => k st
  | o :: r, st, k => wantT ops o st fun st on => bif on then
      (match st with | ⟨tm, h, nv, kn⟩ => resT T sh (fun st e => putT w o.dst e st fun st => seqT T sh w ops kp r st k) (fun st e => putT w o.dst e st fun st => seqT T sh w ops kp r st k) kp (symOp T o.op tm h) ⟨tm, h, nv, kn⟩)
    else putT w o.dst (.cv .un) st fun st => seqT T sh w ops kp r st k
def SeqG (T : Tab) (call : CallF) (w : Nat) (L : LO → List U → Tm → Heap → Prop) (R : OR → Prop) (k : St → Tree) (kp : St → E → Tree) : Out → Prop
  | .norm t H => ∃ σ st, Holds w σ st t H ∧ VC T call w L R σ (k st)
  | .pan v t H => ∃ σ st e, Holds w σ st t H ∧ v = (e.den σ).val ∧ VC T call w L R σ (kp st e)
  | _ => False
theorem Holds.sees (hh : Holds w σ st t H) : Sees σ st.tm t.get := hh.tm
theorem symOp_at (hh : Holds w σ st t H) (o : Oper) : SRes.Ok T call σ H (symOp T o.op st.tm st.h) (evOp T call o t.get H) := by
  rw [hh.heap]
  exact symOp_ok hh.sees hh.wf o
theorem seqT_ok {sh : Nat → Option Shape} {ops : Array Oper} {kp : St → E → Tree} {k : St → Tree} : ∀ (l : List Oper) (σ : List U) (st : St) (t : Tm) (H : Heap), VC T call w L R σ (seqT T sh w ops kp l st k) → Holds w σ st t H → SeqG T call w L R k kp (evSeq (evOp T call) ops l t H)
  | [], σ, st, t, H, hv, hh => ⟨σ, st, hh, hv⟩
  | o :: r, σ, st, t, H, hv, hh => by
    simp only [seqT] at hv
    obtain ⟨st1, b, hw, _, hh1, hv⟩ := wantT_ok hv hh
    simp only [evSeq, hw]
    cases b with
    | false =>
      simp only [cond_false] at hv
      obtain ⟨hf, σ2, st2, hh2, hv, hp2⟩ := putT_ok hv hh1
      simp only [putK_eq, hf, if_true]
      exact seqT_ok r σ2 st2 _ H hv hh2
    | true =>
      simp only [cond_true] at hv
      rcases resT_ok _ _ _ hv hh1 (symOp_at hh1 o) with ⟨σ', st', e, hs', hh', hv', hx⟩ | ⟨σ', st', e, H', hs', hh', hv', hx⟩ | ⟨σ', st', e, H', hs', hh', hv', hx⟩
      · obtain ⟨hf, σ2, st2, hh2, hv2, hp2⟩ := putT_ok hv' hh'
        simp only [hx, opened_eq, putK_eq, hf, if_true]
        exact seqT_ok r σ2 st2 _ H hv2 hh2
      · obtain ⟨hf, σ2, st2, hh2, hv2, hp2⟩ := putT_ok hv' hh'
        simp only [hx, opened_eq, putK_eq, hf, if_true]
        exact seqT_ok r σ2 st2 _ H' hv2 hh2
      · simp only [hx]
        exact ⟨σ', st', e, hh', rfl, hv'⟩

/-! A region that draws its order and turns nothing; an operation in it may panic. -/
def dsts (ops : Array Oper) : List Nat := ops.toList.filterMap (·.dst)
noncomputable def offT (ms : List Nat) (w : Nat) (ops : Array Oper) (T : Tab) (sh : Nat → Option Shape) (q : Nat) : Nat → List Oper → St → (St → Tree) → Tree
  | _, [], st, k => k st
  | i, o :: r, st, k => bif (ms.getD i 0).testBit q then putT w o.dst (.cv .un) st fun st => offT ms w ops T sh q (i + 1) r st k else
    wantT ops o st fun st on => bif on then
      (match st with | ⟨tm, h, nv, kn⟩ => resT T sh (fun st e => putT w o.dst e st fun st => offT ms w ops T sh q (i + 1) r st k) (fun _ _ => .stuck 10) (fun _ _ => .stuck 11) (symOp T o.op tm h) ⟨tm, h, nv, kn⟩)
    else putT w o.dst (.cv .un) st fun st => offT ms w ops T sh q (i + 1) r st k
def offFl (ms : List Nat) (q : Nat) : Nat → List Oper → List Bool
  | _, [] => []
  | i, _ :: r => (ms.getD i 0).testBit q :: offFl ms q (i + 1) r
theorem offT_ok {ms : List Nat} {sh : Nat → Option Shape} {ops : Array Oper} {q : Nat} {v : V} {J : Heap} {k : St → Tree} : ∀ (l : List Oper) (i : Nat) (σ : List U) (st : St) (t : Tm) (H : Heap), q < i → VC T call w L R σ (offT ms w ops T sh q i l st k) → Holds w σ st t H →
    QP (evOp T call) ops H q v J i l (offFl ms q i l) t ∧ ∃ σ' st' t', Holds w σ' st' t' H ∧ VC T call w L R σ' (k st') ∧ σ <+: σ'
  | [], i, σ, st, t, H, hq, hv, hh => ⟨.nil, σ, st, t, hh, hv, List.prefix_refl _⟩
  | o :: r, i, σ, st, t, H, hq, hv, hh => by
    have hne : (i == q) = false := by simp; omega
    simp only [offT] at hv
    simp only [offFl]
    cases hb : (ms.getD i 0).testBit q with
    | true =>
      simp only [hb, cond_true] at hv
      obtain ⟨hf, σ2, st2, hh2, hv2, hp2⟩ := putT_ok hv hh
      obtain ⟨h1, σ', st', t', h2, h3, h4⟩ := offT_ok (v := v) (J := J) r (i + 1) σ2 st2 _ H (by omega) hv2 hh2
      exact ⟨.skip hne hf h1, σ', st', t', h2, h3, hp2.trans h4⟩
    | false =>
      simp only [hb, cond_false] at hv
      obtain ⟨st1, b, hw, _, hh1, hv⟩ := wantT_ok hv hh
      cases b with
      | false =>
        simp only [cond_false] at hv
        obtain ⟨hf, σ2, st2, hh2, hv2, hp2⟩ := putT_ok hv hh1
        obtain ⟨h1, σ', st', t', h2, h3, h4⟩ := offT_ok (v := v) (J := J) r (i + 1) σ2 st2 _ H (by omega) hv2 hh2
        exact ⟨.off hw hf h1, σ', st', t', h2, h3, hp2.trans h4⟩
      | true =>
        simp only [cond_true] at hv
        rcases resT_ok _ _ _ hv hh1 (symOp_at hh1 o) with ⟨σ', st', e, hs', hh', hv', hx⟩ | ⟨σ', st', e, H', hs', hh', hv', hx⟩ | ⟨σ', st', e, H', hs', hh', hv', hx⟩
        · obtain ⟨hf, σ2, st2, hh2, hv2, hp2⟩ := putT_ok hv' hh'
          obtain ⟨h1, σ3, st', t', h2, h3, h4⟩ := offT_ok (v := v) (J := J) r (i + 1) σ2 st2 _ H (by omega) hv2 hh2
          exact ⟨.val hw rfl hx hf h1, σ3, st', t', h2, h3, (hs'.trans hp2).trans h4⟩
        · exact hv'.elim
        · exact hv'.elim
theorem Holds.mix {σ' : List U} {st' : St} {t' : Tm} {H' : Heap} (hh : Holds w σ st t H) (hh' : Holds w σ' st' t' H') (hp : σ <+: σ') : Holds w σ' ⟨st.tm, st.h, st'.nv, st'.kn⟩ t H := by
  obtain ⟨τ, rfl⟩ := hp
  have k := hh.more τ
  have e : st.nv + τ.length = st'.nv := by rw [← hh'.nv, ← hh.nv, List.length_append]
  exact ⟨k.wid, k.tm, k.heap, k.wf, hh'.nv, hh'.kn, by rw [← e]; exact k.sc, by rw [← e]; exact k.sh, hh'.sk⟩
noncomputable def dropTm (ds : List Nat) (l : List (Nat × E)) : List (Nat × E) := l.filter fun p => !(ds.contains p.1)
theorem getE_drop {ds : List Nat} {k : Nat} {e : E} : ∀ {l : List (Nat × E)}, getE (dropTm ds l) k = some e → k ∉ ds ∧ getE l k = some e
  | [], h => by cases h
  | p :: r, h => by
    unfold dropTm at h
    rw [List.filter_cons] at h
    cases hc : ds.contains p.1 with
    | true =>
      rw [hc] at h
      obtain ⟨h1, h2⟩ := getE_drop (l := r) h
      refine ⟨h1, ?_⟩
      show (bif Nat.beq p.1 k then some p.2 else getE r k) = _
      have : Nat.beq p.1 k = false := by
        cases hb : Nat.beq p.1 k with
        | false => rfl
        | true =>
          have := Nat.eq_of_beq_eq_true hb
          subst this
          exact absurd (by simpa using hc) h1
      rw [this]; exact h2
    | false =>
      rw [hc] at h
      have h : (bif Nat.beq p.1 k then some p.2 else getE (dropTm ds r) k) = some e := h
      show k ∉ ds ∧ (bif Nat.beq p.1 k then some p.2 else getE r k) = _
      cases hb : Nat.beq p.1 k with
      | true =>
        rw [hb] at h
        have := Nat.eq_of_beq_eq_true hb
        subst this
        exact ⟨by simpa using hc, h⟩
      | false =>
        rw [hb] at h
        exact getE_drop h
theorem forget_wid : ∀ (l : List Nat) (t : Tm), (Ev.forget t l).wid = t.wid
  | [], _ => rfl
  | d :: l, t => by simp only [Ev.forget]; rw [forget_wid l, Tm.wid_put]
theorem Holds.forget (hh : Holds w σ st t H) (ds : List Nat) : Holds w σ ⟨dropTm ds st.tm, st.h, st.nv, st.kn⟩ (forget t ds) H where
  wid := (forget_wid ds t).trans hh.wid
  tm k e he := by
    obtain ⟨h1, h2⟩ := getE_drop he
    rw [forget_get, if_neg h1]
    exact hh.tm k e h2
  heap := hh.heap
  wf := hh.wf
  nv := hh.nv
  kn := hh.kn
  sc p hp := hh.sc p (List.mem_filter.1 hp).1
  sh := hh.sh
  sk := hh.sk
noncomputable def quiT (ms : List Nat) (w : Nat) (ops : Array Oper) (T : Tab) (sh : Nat → Option Shape) (tm0 : List (Nat × E)) (kp : St → E → Tree) : Nat → List Oper → St → (St → Tree) → Tree
  | _, [], st, k => k st
  | i, o :: r, st, k => wantT ops o st fun st on => bif on then
      (match st with | ⟨tm, h, nv, kn⟩ => resT T sh (fun st e => putT w o.dst e st fun st => quiT ms w ops T sh tm0 kp (i + 1) r st k) (fun _ _ => .stuck 12)  (fun st' e => (match st' with | ⟨_, h', nv', kn'⟩ => cond (bif e.scop nv' then chkP ms i (List.replicate i false ++ true :: offFl ms i (i + 1) r) else false)  (putT w o.dst (.cv .un) ⟨tm, h, nv', kn'⟩ fun st => offT ms w ops T sh i (i + 1) r st fun st2 => (match st2 with | ⟨_, _, nv2, kn2⟩ => kp ⟨dropTm (dsts ops) tm0, h', nv2, kn2⟩ e)) (.stuck 14)))  (symOp T o.op tm h) ⟨tm, h, nv, kn⟩)
    else putT w o.dst (.cv .un) st fun st => quiT ms w ops T sh tm0 kp (i + 1) r st k
theorem quiT_ok {ms : List Nat} {sh : Nat → Option Shape} {ops : Array Oper} {kp : St → E → Tree} {k : St → Tree} {σ0 : List U} {st0 : St} {t0 : Tm} {H0 : Heap} (hh0 : Holds w σ0 st0 t0 H0) : ∀ (l : List Oper) (i : Nat) (σ : List U) (st : St) (t : Tm) (H : Heap), σ0 <+: σ → VC T call w L R σ (quiT ms w ops T sh st0.tm kp i l st k) → Holds w σ st t H →
    (∃ t' σ' st', QR (evOp T call) ops H l t t' ∧ Holds w σ' st' t' H ∧ VC T call w L R σ' (k st')) ∨
    (∃ q H' σ' st' e fl, QP (evOp T call) ops H q (e.den σ').val H' i l fl t ∧ chkP ms q (List.replicate i false ++ fl) = true ∧ Holds w σ' st' (Ev.forget t0 (dsts ops)) H' ∧ VC T call w L R σ' (kp st' e))
  | [], i, σ, st, t, H, hp, hv, hh => .inl ⟨t, σ, st, .nil, hh, hv⟩
  | o :: r, i, σ, st, t, H, hp, hv, hh => by
    simp only [quiT] at hv
    obtain ⟨st1, b, hw, _, hh1, hv⟩ := wantT_ok hv hh
    have more : ∀ fl, List.replicate (i + 1) false ++ fl = List.replicate i false ++ false :: fl := fun fl => by
      rw [List.replicate_succ', List.append_assoc]; rfl
    cases b with
    | false =>
      simp only [cond_false] at hv
      obtain ⟨hf, σ2, st2, hh2, hv2, hp2⟩ := putT_ok hv hh1
      rcases quiT_ok hh0 r (i + 1) σ2 st2 _ H (hp.trans hp2) hv2 hh2 with ⟨t', σ', st', h1, h2, h3⟩ | ⟨q, H', σ', st', e, fl, h1, h2, h3, h4⟩
      · exact .inl ⟨t', σ', st', .off hw hf h1, h2, h3⟩
      · exact .inr ⟨q, H', σ', st', e, false :: fl, .off hw hf h1, by rw [← more]; exact h2, h3, h4⟩
    | true =>
      simp only [cond_true] at hv
      rcases resT_ok _ _ _ hv hh1 (symOp_at hh1 o) with ⟨σ', st', e, hs', hh', hv', hx⟩ | ⟨σ', st', e, H', hs', hh', hv', hx⟩ | ⟨σ', st', e, H', hs', hh', hv', hx⟩
      · obtain ⟨hf, σ2, st2, hh2, hv2, hp2⟩ := putT_ok hv' hh'
        rcases quiT_ok hh0 r (i + 1) σ2 st2 _ H ((hp.trans hs').trans hp2) hv2 hh2 with ⟨t', σ3, st', h1, h2, h3⟩ | ⟨q, H', σ3, st', e, fl, h1, h2, h3, h4⟩
        · exact .inl ⟨t', σ3, st', .val hw rfl hx hf h1, h2, h3⟩
        · exact .inr ⟨q, H', σ3, st', e, false :: fl, .val hw rfl hx hf h1, by rw [← more]; exact h2, h3, h4⟩
      · exact hv'.elim
      · obtain ⟨tm', h', nv', kn'⟩ := st'
        simp only at hv'
        cases hc : (bif e.scop nv' then chkP ms i (List.replicate i false ++ true :: offFl ms i (i + 1) r) else false)
        · rw [hc] at hv'; exact hv'.elim
        · rw [hc] at hv'
          simp only [cond_true] at hv'
          have hsc : e.scop nv' = true ∧ chkP ms i (List.replicate i false ++ true :: offFl ms i (i + 1) r) = true := by
            cases h1 : e.scop nv'
            · rw [h1] at hc; cases hc
            · rw [h1] at hc; exact ⟨rfl, hc⟩
          have hm := hh1.mix hh' hs'
          obtain ⟨hf, σ3, st2, hh2, hv2, hp2⟩ := putT_ok hv' hm
          obtain ⟨h1, σ2, ⟨tm2, h2', nv2, kn2⟩, t2, h2, h3, h4⟩ := offT_ok (v := (e.den σ').val) (J := H') r (i + 1) σ3 st2 _ H (Nat.lt_succ_self _) hv2 hh2
          have h4 := hp2.trans h4
          have he : e.den σ2 = e.den σ' := by
            obtain ⟨τ, rfl⟩ := h4
            exact E.scop_den σ' τ e (by rw [hh'.nv]; exact hsc.1)
          have hf1 := (hh0.forget (dsts ops)).mix h2 ((hp.trans hs').trans h4)
          have hf2 := hh'.mix h2 h4
          refine .inr ⟨i, H', σ2, ⟨dropTm (dsts ops) st0.tm, h', nv2, kn2⟩, e, true :: offFl ms i (i + 1) r, ?_, hsc.2, ?_, h3⟩
          · rw [he]
            exact .stop (by simp) hw rfl hx hf h1
          · exact ⟨hf1.wid, hf1.tm, hf2.heap, hf2.wf, hf1.nv, hf1.kn, hf1.sc, hf2.sh, hf1.sk⟩

/-! A region that draws its order and turns the heap. -/
noncomputable def drwT (T : Tab) (sh : Nat → Option Shape) (w : Nat) (ops : Array Oper) : List Oper → List DK → St → (List DK → St → Tree) → Tree
  | [], acc, st, k => k acc st
  | o :: r, acc, st, k => wantT ops o st fun st on => bif on then
      (match st with | ⟨tm, h, nv, kn⟩ => resT T sh (fun st e => putT w o.dst e st fun st => drwT T sh w ops r (cond (looks o.op) .f .q :: acc) st k)  (fun st e => cond (isEff o.op) (putT w o.dst e st fun st => drwT T sh w ops r (.e :: acc) st k) (.stuck 15)) (fun _ _ => .stuck 16) (symOp T o.op tm h) ⟨tm, h, nv, kn⟩)
    else putT w o.dst (.cv .un) st fun st => drwT T sh w ops r (.q :: acc) st k
theorem drwT_ok {sh : Nat → Option Shape} {ops : Array Oper} {k : List DK → St → Tree} : ∀ (l : List Oper) (acc : List DK) (σ : List U) (st : St) (t : Tm) (H : Heap), VC T call w L R σ (drwT T sh w ops l acc st k) → Holds w σ st t H →
    ∃ ks t' H' σ' st', DR (evOp T call) ops (fun _ => True) l ks t H t' H' ∧ Holds w σ' st' t' H' ∧ VC T call w L R σ' (k (ks.reverse ++ acc) st')
  | [], acc, σ, st, t, H, hv, hh => ⟨[], t, H, σ, st, .nil, hh, hv⟩
  | o :: r, acc, σ, st, t, H, hv, hh => by
    simp only [drwT] at hv
    obtain ⟨st1, b, hw, _, hh1, hv⟩ := wantT_ok hv hh
    cases b with
    | false =>
      simp only [cond_false] at hv
      obtain ⟨hf, σ2, st2, hh2, hv2, hp2⟩ := putT_ok hv hh1
      obtain ⟨ks, t', H', σ', st', h1, h2, h3⟩ := drwT_ok r (.q :: acc) σ2 st2 _ H hv2 hh2
      exact ⟨.q :: ks, t', H', σ', st', .off hw hf h1, h2, by simpa using h3⟩
    | true =>
      simp only [cond_true] at hv
      rcases resT_ok _ _ _ hv hh1 (symOp_at hh1 o) with ⟨σ', st', e, hs', hh', hv', hx⟩ | ⟨σ', st', e, H', hs', hh', hv', hx⟩ | ⟨σ', st', e, H', hs', hh', hv', hx⟩
      · obtain ⟨hf, σ2, st2, hh2, hv2, hp2⟩ := putT_ok hv' hh'
        obtain ⟨ks, t', H', σ2, st', h1, h2, h3⟩ := drwT_ok r _ σ2 st2 _ H hv2 hh2
        cases hl : looks o.op with
        | true =>
          rw [hl] at h3
          exact ⟨.f :: ks, t', H', σ2, st', .fix hw rfl hx hf h1, h2, by simpa using h3⟩
        | false =>
          rw [hl] at h3
          exact ⟨.q :: ks, t', H', σ2, st', .blind hl hw rfl hx hf h1, h2, by simpa using h3⟩
      · cases he : isEff o.op with
        | false => rw [he] at hv'; exact hv'.elim
        | true =>
          rw [he] at hv'
          simp only [cond_true] at hv'
          obtain ⟨hf, σ2, st2, hh2, hv2, hp2⟩ := putT_ok hv' hh'
          obtain ⟨ks, t', H2, σ2, st', h1, h2, h3⟩ := drwT_ok r _ σ2 st2 _ H' hv2 hh2
          exact ⟨.e :: ks, t', H2, σ2, st', .eff he hw rfl hx hf trivial h1, h2, by simpa using h3⟩
      · exact hv'.elim
end
open Go
theorem sub_append : ∀ (p q : List Bool) (c : Code), sub (p ++ q) c = sub q (sub p c)
  | [], q, c => by
    have : sub [] c = c := by cases c <;> rfl
    rw [this]; rfl
  | b :: p, q, c => by
    have leaf : ∀ c : Code, (∀ b p, sub (b :: p) c = c) → sub ((b :: p) ++ q) c = sub q (sub (b :: p) c) := fun c h => by
      rw [List.cons_append, h, h]
      cases q with
      | nil => cases c <;> rfl
      | cons d q => rw [h]
    cases c <;> cases b <;> first
      | exact sub_append p q _
      | exact leaf _ fun b p => by cases b <;> rfl
noncomputable def ctx (P : Program) (T : Tab) : List Bool → Code → (Out → Prop) → (Out → Prop)
  | false :: p, .seq a b, Q => ctx P T p a (inSeq P T b Q)
  | true :: p, .seq _ b, Q => ctx P T p b Q
  | false :: p, .cond _ a _, Q => ctx P T p a Q
  | true :: p, .cond _ _ b, Q => ctx P T p b Q
  | _ :: p, .block id c, Q => ctx P T p c (inBlk id Q)
  | _ :: p, .loop c, Q => ctx P T p c (inLoop P T c Q)
  | _, _, Q => Q
theorem ctx_nil {P : Program} {T : Tab} (c : Code) (Q : Out → Prop) : ctx P T [] c Q = Q := by cases c <;> rfl
theorem ctx_append {P : Program} {T : Tab} : ∀ (p q : List Bool) (c : Code) (Q : Out → Prop), ctx P T (p ++ q) c Q = ctx P T q (sub p c) (ctx P T p c Q)
  | [], q, c, Q => by
    have : sub [] c = c := by cases c <;> rfl
    rw [this, ctx_nil]; rfl
  | b :: p, q, c, Q => by
    have leaf : ∀ c : Code, (∀ b p, sub (b :: p) c = c) → (∀ b p Q, ctx P T (b :: p) c Q = Q) → ctx P T ((b :: p) ++ q) c Q = ctx P T q (sub (b :: p) c) (ctx P T (b :: p) c Q) := fun c h h2 => by
      rw [List.cons_append, h2, h, h2]
      cases q with
      | nil => rw [ctx_nil]
      | cons d q => rw [h2]
    cases c <;> cases b <;> first
      | exact ctx_append p q _ _
      | exact leaf _ (fun b p => by cases b <;> rfl) (fun b p Q => by cases b <;> rfl)
noncomputable def fNs {α : Type} (l : List Nat) : (List Nat → α) → α := List.rec (motive := fun _ => (List Nat → α) → α) (fun k => k []) (fun n _ r k => fN n fun n => r fun l => k (n :: l)) l
theorem fNs_eq {α : Type} : ∀ (l : List Nat) (k : List Nat → α), fNs l k = k l
  | [], _ => rfl
  | n :: l, k => by
    show fN n (fun n => fNs l fun l => k (n :: l)) = _
    rw [fN_eq, fNs_eq l]
noncomputable def turns (sh : Nat → Option Shape) (o : Oper) : Bool := match o.op with
  | .alloc _ => true
  | .box _ _ => true
  | .store _ _ _ => true
  | .buildSlice _ _ _ => true
  | .makeMap _ _ => true
  | .mapUpdate _ _ _ _ => true
  | .insert _ _ _ _ => true
  | .call c => match c.callee with
    | .value (.func f) => match sh f with
      | some s => (match s.kind with
        | .turns => true
        | .keeps _ => true
        | _ => false)
      | none => false
    | .builtin .append => true
    | .builtin .unsafeString => true
    | _ => false
  | _ => false
noncomputable def regT (T : Tab) (sh : Nat → Option Shape) (w : Nat) (ops : Array Oper) (d : Bool) (st : St) (kp : St → E → Tree) (k : St → Tree) : Tree :=
  bif d then (bif ops.toList.any (turns sh) then drwT T sh w ops ops.toList [] st fun acc st => fNs (masks ops.toList []) fun ms => cond (drawStat ops.toList ops ms && chkD ms acc.reverse) (k st) (.stuck 13)
    else fNs (masks ops.toList []) fun ms => cond (drawStat ops.toList ops ms) (match st with | ⟨tm, h, nv, kn⟩ => quiT ms w ops T sh tm kp 0 ops.toList ⟨tm, h, nv, kn⟩ k) (.stuck 17))
  else seqT T sh w ops kp ops.toList st k
structure Kk where
  norm : St → Tree
  exit : Nat → St → Tree
  ret : St → Tree
  pan : St → E → Tree
  stop : List Bool → St → Tree
  again : List Bool → St → Tree
noncomputable def codeT (T : Tab) (sh : Nat → Option Shape) (w : Nat) (stops : List Nat) : Code → List Bool → St → Kk → Tree
  | .skip, _, st, K => K.norm st
  | .label _, _, st, K => K.norm st
  | .region id ops d, p, st, K => bif stops.any (Nat.beq id) then K.stop p st else regT T sh w ops d st K.pan K.norm
  | .seq a b, p, st, K => codeT T sh w stops a (p ++ [false]) st { K with norm := fun st => codeT T sh w stops b (p ++ [true]) st K }
  | .cond g x y, p, st, K => (match sv st.tm g with
    | some (.f1 .vb c) => decT st c fun st b => bif b then codeT T sh w stops x (p ++ [false]) st K else codeT T sh w stops y (p ++ [true]) st K
    | _ => .stuck 18)
  | .block id c, p, st, K => codeT T sh w stops c (p ++ [false]) st { K with exit := fun j st => bif Nat.beq j id then K.norm st else K.exit j st }
  | .loop c, p, st, K => bif stops.any (Nat.beq (1000000 + p.length)) then codeT T sh w stops c (p ++ [false]) st { K with norm := fun st => K.again (p ++ [false]) st } else K.stop p st
  | .exit id, _, st, K => K.exit id st
  | .ret, _, st, K => K.ret st
  | .rangeFunc .., p, st, K => K.stop p st
  | _, _, _, _ => .stuck 19
section
variable {P : Program} {T : Tab} {call : CallF} {w : Nat} {L : LO → List U → Tm → Heap → Prop} {R : OR → Prop} {code0 : Code} {Q0 : Out → Prop}
structure KOk (P : Program) (T : Tab) (call : CallF) (w : Nat) (L : LO → List U → Tm → Heap → Prop) (R : OR → Prop) (code0 : Code) (Q0 : Out → Prop) (K : Kk) (Q : Out → Prop) : Prop where
  norm : ∀ σ st t H, Holds w σ st t H → VC T call w L R σ (K.norm st) → Q (.norm t H)
  exit : ∀ σ st t H j, Holds w σ st t H → VC T call w L R σ (K.exit j st) → Q (.exit j t H)
  ret : ∀ σ st t H, Holds w σ st t H → VC T call w L R σ (K.ret st) → Q (.ret t H)
  pan : ∀ σ st t H e, Holds w σ st t H → VC T call w L R σ (K.pan st e) → Q (.pan (e.den σ).val t H)
  stop : ∀ σ st t H p, Holds w σ st t H → VC T call w L R σ (K.stop p st) → Tri P T (sub p code0) t H (ctx P T p code0 Q0)
  again : ∀ σ st t H p, Holds w σ st t H → VC T call w L R σ (K.again p st) → ctx P T p code0 Q0 (.norm t H)
theorem regT_ok (hT : TOk P T) (hC : call.Sound P T) {sh : Nat → Option Shape} {id : Nat} {ops : Array Oper} {d : Bool} {σ : List U} {st : St} {t : Tm} {H : Heap} {K : Kk} {Q : Out → Prop} (hK : KOk P T call w L R code0 Q0 K Q)
    (hv : VC T call w L R σ (regT T sh w ops d st K.pan K.norm)) (hh : Holds w σ st t H) : Tri P T (.region id ops d) t H Q := by
  unfold regT at hv
  cases d with
  | false =>
    simp only [cond_false] at hv
    have := seqT_ok _ _ _ _ _ hv hh
    refine Tri.reg hT hC (o := evSeq (evOp T call) ops ops.toList t H) (evReg_false ..) ?_
    revert this
    cases evSeq (evOp T call) ops ops.toList t H with
    | norm t' H' => rintro ⟨σ', st', h1, h2⟩; exact hK.norm σ' st' t' H' h1 h2
    | pan v t' H' => rintro ⟨σ', st', e, h1, rfl, h2⟩; exact hK.pan σ' st' t' H' e h1 h2
    | exit id t' H' => exact False.elim
    | ret t' H' => exact False.elim
    | no => exact False.elim
  | true =>
    simp only [cond_true] at hv
    cases ha : ops.toList.any (turns sh) with
    | true =>
      rw [ha] at hv
      simp only [cond_true] at hv
      obtain ⟨ks, t', H', σ', st', h1, h2, h3⟩ := drwT_ok _ _ _ _ _ _ hv hh
      rw [fNs_eq, List.append_nil, List.reverse_reverse] at h3
      cases hc : drawStat ops.toList ops (masks ops.toList []) && chkD (masks ops.toList []) ks with
      | false => rw [hc] at h3; exact h3.elim
      | true =>
        rw [hc] at h3
        exact Tri.regN hT hC (evReg_draw (fun _ => True) hc trivial h1 rfl) (hK.norm σ' st' t' H' h2 h3)
    | false =>
      rw [ha] at hv
      simp only [cond_false, fNs_eq] at hv
      cases hc : drawStat ops.toList ops (masks ops.toList []) with
      | false => rw [hc] at hv; exact hv.elim
      | true =>
        rw [hc] at hv
        simp only [cond_true] at hv
        rcases quiT_ok hh ops.toList 0 σ st t H (List.prefix_refl _) hv hh with ⟨t', σ', st', h1, h2, h3⟩ | ⟨q, H', σ', st', e, fl, h1, h2, h3, h4⟩
        · exact Tri.regN hT hC (evReg_quiet hc h1 rfl) (hK.norm σ' st' t' H h2 h3)
        · refine Tri.drawPan hT hC q _ H' fl (by rw [hc]; simpa using h2) h1 ?_
          exact hK.pan σ' st' _ H' e h3 h4
theorem codeT_ok (hT : TOk P T) (hC : call.Sound P T) {sh : Nat → Option Shape} {stops : List Nat} : ∀ (c : Code) (p : List Bool) (σ : List U) (st : St) (t : Tm) (H : Heap) (K : Kk) (Q : Out → Prop), KOk P T call w L R code0 Q0 K Q → sub p code0 = c → ctx P T p code0 Q0 = Q →
    VC T call w L R σ (codeT T sh w stops c p st K) → Holds w σ st t H → Tri P T c t H Q
  | .skip, p, σ, st, t, H, K, Q, hK, h1, h2, hv, hh => Tri.skip (hK.norm _ _ _ _ hh hv)
  | .label _, p, σ, st, t, H, K, Q, hK, h1, h2, hv, hh => Tri.label (hK.norm _ _ _ _ hh hv)
  | .exit id, p, σ, st, t, H, K, Q, hK, h1, h2, hv, hh => Tri.exit (hK.exit _ _ _ _ _ hh hv)
  | .ret, p, σ, st, t, H, K, Q, hK, h1, h2, hv, hh => Tri.ret (hK.ret _ _ _ _ hh hv)
  | .region id ops d, p, σ, st, t, H, K, Q, hK, h1, h2, hv, hh => by
    simp only [codeT] at hv
    cases hs : stops.any (Nat.beq id) with
    | true =>
      rw [hs] at hv
      have := hK.stop _ _ _ _ _ hh hv
      rwa [h1, h2] at this
    | false =>
      rw [hs] at hv
      exact regT_ok hT hC hK hv hh
  | .loop c, p, σ, st, t, H, K, Q, hK, h1, h2, hv, hh => by
    simp only [codeT] at hv
    cases hs : stops.any (Nat.beq (1000000 + p.length)) with
    | false =>
      rw [hs] at hv
      have := hK.stop _ _ _ _ _ hh hv
      rwa [h1, h2] at this
    | true =>
      rw [hs] at hv
      have e1 : sub (p ++ [false]) code0 = c := by rw [sub_append, h1]; cases c <;> rfl
      have e2 : ctx P T (p ++ [false]) code0 Q0 = inLoop P T c Q := by rw [ctx_append, h1, h2]; cases c <;> rfl
      refine Tri.loop (LTri.round' (codeT_ok hT hC c (p ++ [false]) σ st t H _ _ ?_ e1 e2 hv hh))
      exact ⟨fun σ' st' t' H' k1 k2 => by have := hK.again _ _ _ _ _ k1 k2; rwa [e2] at this, hK.exit, hK.ret, hK.pan, hK.stop, hK.again⟩
  | .rangeFunc f ps a c, p, σ, st, t, H, K, Q, hK, h1, h2, hv, hh => by
    have := hK.stop _ _ _ _ _ hh hv
    rwa [h1, h2] at this
  | .scope _, p, σ, st, t, H, K, Q, hK, h1, h2, hv, hh => hv.elim
  | .goto _, p, σ, st, t, H, K, Q, hK, h1, h2, hv, hh => hv.elim
  | .refuse _, p, σ, st, t, H, K, Q, hK, h1, h2, hv, hh => hv.elim
  | .seq a b, p, σ, st, t, H, K, Q, hK, h1, h2, hv, hh => by
    simp only [codeT] at hv
    refine Tri.seq' (codeT_ok hT hC a (p ++ [false]) σ st t H _ _ ?_ (by rw [sub_append, h1]; cases a <;> rfl) (by rw [ctx_append, h1, h2]; cases a <;> rfl) hv hh)
    exact ⟨fun σ' st' t' H' k1 k2 => codeT_ok hT hC b (p ++ [true]) σ' st' t' H' K Q hK (by rw [sub_append, h1]; cases b <;> rfl) (by rw [ctx_append, h1, h2]; cases b <;> rfl) k2 k1, hK.exit, hK.ret, hK.pan, hK.stop, hK.again⟩
  | .cond g x y, p, σ, st, t, H, K, Q, hK, h1, h2, hv, hh => by
    simp only [codeT] at hv
    split at hv
    · rename_i c hg
      have hg := sv_ok hh.sees hg
      obtain ⟨st', _, hh', hv'⟩ := decT_ok hv hh
      refine Tri.cond hg (fun hb => ?_) fun hb => ?_
      · rw [show (c.den σ).boo = true from hb] at hv'
        exact codeT_ok hT hC x (p ++ [false]) σ st' t H K Q hK (by rw [sub_append, h1]; cases x <;> rfl) (by rw [ctx_append, h1, h2]; cases x <;> rfl) hv' hh'
      · rw [show (c.den σ).boo = false from hb] at hv'
        exact codeT_ok hT hC y (p ++ [true]) σ st' t H K Q hK (by rw [sub_append, h1]; cases y <;> rfl) (by rw [ctx_append, h1, h2]; cases y <;> rfl) hv' hh'
    · exact hv.elim
  | .block id c, p, σ, st, t, H, K, Q, hK, h1, h2, hv, hh => by
    simp only [codeT] at hv
    refine Tri.block' (codeT_ok hT hC c (p ++ [false]) σ st t H _ _ ?_ (by rw [sub_append, h1]; cases c <;> rfl) (by rw [ctx_append, h1, h2]; cases c <;> rfl) hv hh)
    refine ⟨hK.norm, fun σ' st' t' H' j k1 k2 => ?_, hK.ret, hK.pan, hK.stop, hK.again⟩
    simp only at k2
    cases hj : Nat.beq j id with
    | true =>
      rw [hj] at k2
      have := Nat.eq_of_beq_eq_true hj
      subst this
      exact inBlk_exit (hK.norm _ _ _ _ k1 k2)
    | false =>
      rw [hj] at k2
      exact inBlk_pass (by have := Nat.ne_of_beq_eq_false hj; simpa using this) (hK.exit _ _ _ _ _ k1 k2)

/-! From a place on, with what has come there: an end, or an exit. -/
inductive Oc where
  | norm | exit (j : Nat)
def Oc.out (o : Oc) (t : Tm) (H : Heap) : Out := match o with
  | .norm => .norm t H
  | .exit j => .exit j t H
noncomputable def Kk.at (K : Kk) (o : Oc) (st : St) : Tree := match o with
  | .norm => K.norm st
  | .exit j => K.exit j st
noncomputable def backT (T : Tab) (sh : Nat → Option Shape) (w : Nat) (stops : List Nat) : List Bool → Code → List Bool → Oc → St → Kk → Tree
  | false :: p, .seq a b, q, o, st, K => backT T sh w stops p a (q ++ [false]) o st { K with norm := fun st => codeT T sh w stops b (q ++ [true]) st K }
  | true :: p, .seq _ b, q, o, st, K => backT T sh w stops p b (q ++ [true]) o st K
  | false :: p, .cond _ x _, q, o, st, K => backT T sh w stops p x (q ++ [false]) o st K
  | true :: p, .cond _ _ y, q, o, st, K => backT T sh w stops p y (q ++ [true]) o st K
  | _ :: p, .block id c, q, o, st, K => backT T sh w stops p c (q ++ [false]) o st { K with exit := fun j st => bif Nat.beq j id then K.norm st else K.exit j st }
  | _ :: p, .loop c, q, o, st, K => backT T sh w stops p c (q ++ [false]) o st { K with norm := fun st => K.again (q ++ [false]) st }
  | _, _, _, o, st, K => K.at o st
theorem KOk.out {K : Kk} {Q : Out → Prop} (hK : KOk P T call w L R code0 Q0 K Q) {o : Oc} {σ : List U} {st : St} {t : Tm} {H : Heap} (hh : Holds w σ st t H) (hv : VC T call w L R σ (K.at o st)) : Q (o.out t H) := by
  cases o with
  | norm => exact hK.norm _ _ _ _ hh hv
  | exit j => exact hK.exit _ _ _ _ _ hh hv
theorem backT_ok (hT : TOk P T) (hC : call.Sound P T) {sh : Nat → Option Shape} {stops : List Nat} {o : Oc} : ∀ (p : List Bool) (c : Code) (q : List Bool) (σ : List U) (st : St) (t : Tm) (H : Heap) (K : Kk) (Q : Out → Prop), KOk P T call w L R code0 Q0 K Q → sub q code0 = c → ctx P T q code0 Q0 = Q →
    VC T call w L R σ (backT T sh w stops p c q o st K) → Holds w σ st t H → ctx P T p c Q (o.out t H)
  | [], c, q, σ, st, t, H, K, Q, hK, h1, h2, hv, hh => by
    rw [ctx_nil]
    refine hK.out hh ?_
    cases c <;> exact hv
  | b :: p, c, q, σ, st, t, H, K, Q, hK, h1, h2, hv, hh => by
    cases c with
    | seq x y =>
      cases b with
      | false =>
        refine backT_ok hT hC p x (q ++ [false]) σ st t H _ _ ?_ (by rw [sub_append, h1]; cases x <;> rfl) (by rw [ctx_append, h1, h2]; cases x <;> rfl) hv hh
        exact ⟨fun σ' st' t' H' k1 k2 => codeT_ok hT hC y (q ++ [true]) σ' st' t' H' K Q hK (by rw [sub_append, h1]; cases y <;> rfl) (by rw [ctx_append, h1, h2]; cases y <;> rfl) k2 k1, hK.exit, hK.ret, hK.pan, hK.stop, hK.again⟩
      | true => exact backT_ok hT hC p y (q ++ [true]) σ st t H K Q hK (by rw [sub_append, h1]; cases y <;> rfl) (by rw [ctx_append, h1, h2]; cases y <;> rfl) hv hh
    | cond g x y =>
      cases b with
      | false => exact backT_ok hT hC p x (q ++ [false]) σ st t H K Q hK (by rw [sub_append, h1]; cases x <;> rfl) (by rw [ctx_append, h1, h2]; cases x <;> rfl) hv hh
      | true => exact backT_ok hT hC p y (q ++ [true]) σ st t H K Q hK (by rw [sub_append, h1]; cases y <;> rfl) (by rw [ctx_append, h1, h2]; cases y <;> rfl) hv hh
    | block id c =>
      have key : ∀ {K' : Kk}, KOk P T call w L R code0 Q0 K' (inBlk id Q) → VC T call w L R σ (backT T sh w stops p c (q ++ [false]) o st K') → ctx P T p c (inBlk id Q) (o.out t H) := fun hK' hv' =>
        backT_ok hT hC p c (q ++ [false]) σ st t H _ _ hK' (by rw [sub_append, h1]; cases c <;> rfl) (by rw [ctx_append, h1, h2]; cases c <;> rfl) hv' hh
      have hK' : KOk P T call w L R code0 Q0 { K with exit := fun j st => bif Nat.beq j id then K.norm st else K.exit j st } (inBlk id Q) := by
        refine ⟨hK.norm, fun σ' st' t' H' j k1 k2 => ?_, hK.ret, hK.pan, hK.stop, hK.again⟩
        simp only at k2
        cases hj : Nat.beq j id with
        | true =>
          rw [hj] at k2
          have := Nat.eq_of_beq_eq_true hj
          subst this
          exact inBlk_exit (hK.norm _ _ _ _ k1 k2)
        | false =>
          rw [hj] at k2
          exact inBlk_pass (by have := Nat.ne_of_beq_eq_false hj; simpa using this) (hK.exit _ _ _ _ _ k1 k2)
      cases b <;> exact key hK' hv
    | loop c =>
      have e1 : sub (q ++ [false]) code0 = c := by rw [sub_append, h1]; cases c <;> rfl
      have e2 : ctx P T (q ++ [false]) code0 Q0 = inLoop P T c Q := by rw [ctx_append, h1, h2]; cases c <;> rfl
      have hK' : KOk P T call w L R code0 Q0 { K with norm := fun st => K.again (q ++ [false]) st } (inLoop P T c Q) :=
        ⟨fun σ' st' t' H' k1 k2 => by have := hK.again _ _ _ _ _ k1 k2; rwa [e2] at this, hK.exit, hK.ret, hK.pan, hK.stop, hK.again⟩
      cases b <;> exact backT_ok hT hC p c (q ++ [false]) σ st t H _ _ hK' e1 e2 hv hh
    | _ => cases b <;> exact hK.out hh hv

noncomputable def goT (T : Tab) (sh : Nat → Option Shape) (w : Nat) (stops : List Nat) : List Bool → Code → List Bool → St → Kk → Tree
  | false :: p, .seq a b, q, st, K => goT T sh w stops p a (q ++ [false]) st { K with norm := fun st => codeT T sh w stops b (q ++ [true]) st K }
  | true :: p, .seq _ b, q, st, K => goT T sh w stops p b (q ++ [true]) st K
  | false :: p, .cond _ x _, q, st, K => goT T sh w stops p x (q ++ [false]) st K
  | true :: p, .cond _ _ y, q, st, K => goT T sh w stops p y (q ++ [true]) st K
  | _ :: p, .block id c, q, st, K => goT T sh w stops p c (q ++ [false]) st { K with exit := fun j st => bif Nat.beq j id then K.norm st else K.exit j st }
  | _ :: p, .loop c, q, st, K => goT T sh w stops p c (q ++ [false]) st { K with norm := fun st => K.again (q ++ [false]) st }
  | _, c, q, st, K => codeT T sh w stops c q st K
theorem goT_ok (hT : TOk P T) (hC : call.Sound P T) {sh : Nat → Option Shape} {stops : List Nat} : ∀ (p : List Bool) (c : Code) (q : List Bool) (σ : List U) (st : St) (t : Tm) (H : Heap) (K : Kk) (Q : Out → Prop), KOk P T call w L R code0 Q0 K Q → sub q code0 = c → ctx P T q code0 Q0 = Q →
    VC T call w L R σ (goT T sh w stops p c q st K) → Holds w σ st t H → Tri P T (sub p c) t H (ctx P T p c Q)
  | [], c, q, σ, st, t, H, K, Q, hK, h1, h2, hv, hh => by
    have e : sub [] c = c := by cases c <;> rfl
    rw [ctx_nil, e]
    refine codeT_ok (sh := sh) (stops := stops) hT hC c q σ st t H K Q hK h1 h2 ?_ hh
    cases c <;> exact hv
  | b :: p, c, q, σ, st, t, H, K, Q, hK, h1, h2, hv, hh => by
    cases c with
    | seq x y =>
      cases b with
      | false =>
        refine goT_ok hT hC p x (q ++ [false]) σ st t H _ _ ?_ (by rw [sub_append, h1]; cases x <;> rfl) (by rw [ctx_append, h1, h2]; cases x <;> rfl) hv hh
        exact ⟨fun σ' st' t' H' k1 k2 => codeT_ok hT hC y (q ++ [true]) σ' st' t' H' K Q hK (by rw [sub_append, h1]; cases y <;> rfl) (by rw [ctx_append, h1, h2]; cases y <;> rfl) k2 k1, hK.exit, hK.ret, hK.pan, hK.stop, hK.again⟩
      | true => exact goT_ok hT hC p y (q ++ [true]) σ st t H K Q hK (by rw [sub_append, h1]; cases y <;> rfl) (by rw [ctx_append, h1, h2]; cases y <;> rfl) hv hh
    | cond g x y =>
      cases b with
      | false => exact goT_ok hT hC p x (q ++ [false]) σ st t H K Q hK (by rw [sub_append, h1]; cases x <;> rfl) (by rw [ctx_append, h1, h2]; cases x <;> rfl) hv hh
      | true => exact goT_ok hT hC p y (q ++ [true]) σ st t H K Q hK (by rw [sub_append, h1]; cases y <;> rfl) (by rw [ctx_append, h1, h2]; cases y <;> rfl) hv hh
    | block id c =>
      have key : ∀ {K' : Kk}, KOk P T call w L R code0 Q0 K' (inBlk id Q) → VC T call w L R σ (goT T sh w stops p c (q ++ [false]) st K') → Tri P T (sub p c) t H (ctx P T p c (inBlk id Q)) := fun hK' hv' =>
        goT_ok hT hC p c (q ++ [false]) σ st t H _ _ hK' (by rw [sub_append, h1]; cases c <;> rfl) (by rw [ctx_append, h1, h2]; cases c <;> rfl) hv' hh
      have hK' : KOk P T call w L R code0 Q0 { K with exit := fun j st => bif Nat.beq j id then K.norm st else K.exit j st } (inBlk id Q) := by
        refine ⟨hK.norm, fun σ' st' t' H' j k1 k2 => ?_, hK.ret, hK.pan, hK.stop, hK.again⟩
        simp only at k2
        cases hj : Nat.beq j id with
        | true =>
          rw [hj] at k2
          have := Nat.eq_of_beq_eq_true hj
          subst this
          exact inBlk_exit (hK.norm _ _ _ _ k1 k2)
        | false =>
          rw [hj] at k2
          exact inBlk_pass (by have := Nat.ne_of_beq_eq_false hj; simpa using this) (hK.exit _ _ _ _ _ k1 k2)
      cases b <;> exact key hK' hv
    | loop c =>
      have e1 : sub (q ++ [false]) code0 = c := by rw [sub_append, h1]; cases c <;> rfl
      have e2 : ctx P T (q ++ [false]) code0 Q0 = inLoop P T c Q := by rw [ctx_append, h1, h2]; cases c <;> rfl
      have hK' : KOk P T call w L R code0 Q0 { K with norm := fun st => K.again (q ++ [false]) st } (inLoop P T c Q) :=
        ⟨fun σ' st' t' H' k1 k2 => by have := hK.again _ _ _ _ _ k1 k2; rwa [e2] at this, hK.exit, hK.ret, hK.pan, hK.stop, hK.again⟩
      cases b <;> exact goT_ok hT hC p c (q ++ [false]) σ st t H _ _ hK' e1 e2 hv hh
    | _ => cases b <;> exact codeT_ok hT hC _ q σ st t H K Q hK h1 h2 hv hh

/-! The whole. -/
noncomputable def keepE (ks : List Nat) (st : St) : List (Nat × E) := ks.filterMap fun k => (getE st.tm k).map fun e => (k, e)
noncomputable def K0 (ks : List Nat) : Kk where
  norm st := .leaf .norm (keepE ks st) st.h
  exit j st := .leaf (.exit j) (keepE ks st) st.h
  ret st := .leaf .ret (keepE ks st) st.h
  pan st e := .leaf (.pan e) (keepE ks st) st.h
  stop p st := .leaf (.stop p) (keepE ks st) st.h
  again p st := .leaf (.again p) (keepE ks st) st.h
@[simp] def LQ (P : Program) (T : Tab) (code0 : Code) (Q0 : Out → Prop) : LO → List U → Tm → Heap → Prop
  | .norm, _, t, H => Q0 (.norm t H)
  | .exit j, _, t, H => Q0 (.exit j t H)
  | .ret, _, t, H => Q0 (.ret t H)
  | .pan x, σ, t, H => Q0 (.pan (x.den σ).val t H)
  | .stop p, _, t, H => Tri P T (sub p code0) t H (ctx P T p code0 Q0)
  | .again p, _, t, H => ctx P T p code0 Q0 (.norm t H)
theorem factsTo_elim {σ : List U} {t : Tm} {p : Prop} : ∀ {l : List (Nat × E)}, (∀ k e, (k, e) ∈ l → t.get k = (e.den σ).val) → factsTo σ t p l → p
  | [], _, h => h
  | (k, e) :: r, hf, h => factsTo_elim (fun k' e' hm => hf k' e' (List.mem_cons_of_mem _ hm)) (h (hf k e (List.mem_cons_self ..)))
theorem leaf_ok {o : LO} {ks : List Nat} {σ : List U} {st : St} {t : Tm} {H : Heap} (hh : Holds w σ st t H) (hv : VC T call w L R σ (.leaf o (keepE ks st) st.h)) : L o σ t H := by
  rw [hh.heap]
  refine factsTo_elim (fun k e hm => ?_) (hv t hh.wid)
  obtain ⟨k', _, hk⟩ := List.mem_filterMap.1 hm
  cases hg : getE st.tm k' with
  | none => rw [hg] at hk; cases hk
  | some e' =>
    rw [hg] at hk
    cases hk
    exact hh.tm _ _ hg
theorem K0_ok (ks : List Nat) : KOk P T call w (LQ P T code0 Q0) R code0 Q0 (K0 ks) Q0 where
  norm _ _ _ _ hh hv := leaf_ok (L := LQ P T code0 Q0) (o := .norm) hh hv
  exit _ _ _ _ j hh hv := leaf_ok (L := LQ P T code0 Q0) (o := .exit j) hh hv
  ret _ _ _ _ hh hv := leaf_ok (L := LQ P T code0 Q0) (o := .ret) hh hv
  pan σ _ _ _ e hh hv := leaf_ok (L := LQ P T code0 Q0) (o := .pan e) hh hv
  stop _ _ _ _ p hh hv := leaf_ok (L := LQ P T code0 Q0) (o := .stop p) hh hv
  again _ _ _ _ p hh hv := leaf_ok (L := LQ P T code0 Q0) (o := .again p) hh hv
@[simp] def factsAll (σ : List U) (t : Tm) : List (Nat × E) → Prop
  | [] => True
  | (k, e) :: r => t.get k = (e.den σ).val ∧ factsAll σ t r
theorem factsAll_mem {σ : List U} {t : Tm} : ∀ {l : List (Nat × E)}, factsAll σ t l → ∀ p ∈ l, t.get p.1 = (p.2.den σ).val
  | [], _, p, hp => by simp at hp
  | (k, e) :: r, h, p, hp => by
    rcases List.mem_cons.1 hp with rfl | hp
    · exact h.1
    · exact factsAll_mem h.2 p hp
theorem Holds.init {σ : List U} {t : Tm} {H : Heap} {tm : List (Nat × E)} {h : SH} {nv : Nat} (hw : t.wid = w) (hf : factsAll σ t tm) (hH : H = h.den σ) (hW : h.WF σ) (hn : σ.length = nv) (hs : (tm.all (fun p => p.2.scop nv) && h.scop nv) = true) : Holds w σ ⟨tm, h, nv, []⟩ t H where
  wid := hw
  tm k e he := factsAll_mem hf _ (getE_mem he)
  heap := hH
  wf := hW
  nv := hn
  kn p hp := by simp at hp
  sc p hp := List.all_eq_true.1 (Bool.and_eq_true _ _ ▸ hs).1 p hp
  sh := (Bool.and_eq_true _ _ ▸ hs).2
  sk p hp := by simp at hp
theorem Tri.sym (hT : TOk P T) (hC : call.Sound P T) {sh : Nat → Option Shape} {stops ks : List Nat} {code : Code} {Q : Out → Prop} {σ : List U} {t : Tm} {H : Heap} {tm : List (Nat × E)} {h : SH} {nv : Nat} {tree : Tree}
    (he : codeT T sh w stops code [] ⟨tm, h, nv, []⟩ (K0 ks) = tree) (hs : (tm.all (fun p => p.2.scop nv) && h.scop nv) = true) (hw : t.wid = w) (hn : σ.length = nv) (hf : factsAll σ t tm) (hH : H = h.den σ) (hW : h.WF σ)
    (hv : VC T call w (LQ P T code Q) R σ tree) : Tri P T code t H Q := by
  subst he
  exact codeT_ok hT hC code [] σ _ t H _ _ (K0_ok ks) (by cases code <;> rfl) (ctx_nil ..) hv (Holds.init hw hf hH hW hn hs)
end
open Go
/-! Whole functions. -/
noncomputable def resE (T : Tab) (tm : List (Nat × E)) (h : SH) : List ResultVar → Option (List E)
  | [] => some []
  | .tmp k :: rs => match getE tm k, resE T tm h rs with
    | some x, some l => some (x :: l)
    | _, _ => none
  | .cell a ty :: rs => match getE tm a, resE T tm h rs with
    | some p, some l => (match sLoad T ty h p with
      | .val x => some (x :: l)
      | _ => none)
    | _, _ => none
noncomputable def finT (T : Tab) (fn : Func) (st : St) : Tree := match resE T st.tm st.h fn.results.toList with
  | some [x] => .fin x st.h
  | some l => .fin (.f1 .tup (toE l)) st.h
  | none => .stuck 20
noncomputable def KF (T : Tab) (fn : Func) (ks : List Nat) : Kk where
  norm st := finT T fn st
  exit _ _ := .stuck 21
  ret st := finT T fn st
  pan st e := .pnc e st.h
  stop p st := .leaf (.stop p) (keepE ks st) st.h
  again p st := .leaf (.again p) (keepE ks st) st.h
section
variable {P : Program} {T : Tab} {call : CallF} {w : Nat} {L : LO → List U → Tm → Heap → Prop} {R : OR → Prop} {code0 : Code} {fn : Func} {σ : List U} {st : St} {t : Tm} {H : Heap}
theorem resE_ok (hh : Holds w σ st t H) : ∀ {l : List ResultVar} {es : List E}, resE T st.tm st.h l = some es → evResults T t.get H l = some (dv σ es)
  | [], es, e => by cases e; rfl
  | .tmp k :: rs, es, e => by
    simp only [resE] at e
    split at e
    · rename_i x l hx hl
      cases e
      simp only [evResults, evResult, hh.tm _ _ hx, resE_ok hh hl, dv, List.map_cons]
    · cases e
  | .cell a ty :: rs, es, e => by
    simp only [resE] at e
    split at e
    · rename_i p l hp hl
      split at e
      · rename_i x hx
        cases e
        have k : SRes.Ok T (fun _ _ _ => .no) σ (st.h.den σ) (sLoad T ty st.h p) (lift (loadA T ty (st.h.den σ) (p.den σ).val) (st.h.den σ)) := sLoad_ok hh.wf ty p
        rw [hx] at k
        have k : lift (loadA T ty (st.h.den σ) (p.den σ).val) (st.h.den σ) = .val (x.den σ).val (st.h.den σ) := k
        have k2 : loadA T ty H (t.get a) = some (x.den σ).val := by
          rw [hh.tm _ _ hp, hh.heap]
          cases hq : loadA T ty (st.h.den σ) (p.den σ).val with
          | none => rw [hq] at k; cases k
          | some v => rw [hq] at k; simp only [lift, OR.val.injEq, and_true] at k; rw [k]
        simp only [evResults, evResult, k2, resE_ok hh hl, dv, List.map_cons]
      · cases e
    · cases e
theorem finT_ok (hh : Holds w σ st t H) (hv : VC T call w L R σ (finT T fn st)) : ∃ v, R (.val v H) ∧ finish T fn t.get H = .val v H := by
  unfold finT at hv
  unfold finish
  split at hv
  · rename_i x hx
    have := resE_ok hh hx
    refine ⟨(x.den σ).val, by rw [hh.heap]; exact hv, by rw [this]; rfl⟩
  · rename_i l hl hx
    have := resE_ok hh hx
    have hv : R (.val (V.tup ((toE l).den σ).lst) (st.h.den σ)) := hv
    rw [den_toE, ← hh.heap] at hv
    refine ⟨_, hv, ?_⟩
    rw [this]
    cases l with
    | nil => rfl
    | cons a l =>
      cases l with
      | nil => exact absurd rfl (hl a)
      | cons b l => rfl
  · exact hv.elim
abbrev LF (P : Program) (T : Tab) (code0 : Code) (fn : Func) (R : OR → Prop) := LQ P T code0 (EndsX T fn R)
theorem KF_ok (ks : List Nat) : KOk P T call w (LF P T code0 fn R) R code0 (EndsX T fn R) (KF T fn ks) (EndsX T fn R) where
  norm _ _ _ _ hh hv := finT_ok hh hv
  exit _ _ _ _ j hh hv := hv.elim
  ret _ _ _ _ hh hv := finT_ok hh hv
  pan σ st _ H e hh hv := by rw [hh.heap]; exact hv
  stop _ _ _ _ p hh hv := leaf_ok (L := LF P T code0 fn R) (o := .stop p) hh hv
  again _ _ _ _ p hh hv := leaf_ok (L := LF P T code0 fn R) (o := .again p) hh hv
theorem XBody.sym (hT : TOk P T) (hC : call.Sound P T) {sh : Nat → Option Shape} {stops ks : List Nat} {F : FuncId} {c : Code} {vs : List V} {tm : List (Nat × E)} {h : SH} {nv : Nat} {tree : Tree}
    (hf : T.func F = some fn) (hb : fn.body = some c) (hl : vs.length ≤ fn.ntmps) (he : codeT T sh fn.ntmps stops c [] ⟨tm, h, nv, []⟩ (KF T fn ks) = tree) (hs : (tm.all (fun p => p.2.scop nv) && h.scop nv) = true) (σ : List U) (hn : σ.length = nv)
    (hfa : factsAll σ (Tm.init fn.ntmps vs) tm) (hH : H = h.den σ) (hW : h.WF σ) (hv : VC T call fn.ntmps (LF P T c fn R) R σ tree) : XBody P T F vs H R := by
  subst he
  exact ⟨fn, c, hf, hb, hl, codeT_ok hT hC c [] σ _ _ H _ _ (KF_ok ks) (by cases c <;> rfl) (ctx_nil ..) hv (Holds.init rfl hfa hH hW hn hs)⟩
theorem EndsX.sym (hT : TOk P T) (hC : call.Sound P T) {sh : Nat → Option Shape} {stops ks : List Nat} {p : List Bool} {code : Code} {tm : List (Nat × E)} {h : SH} {nv : Nat} {tree : Tree} {o : Oc}
    (he : backT T sh w stops p code [] o ⟨tm, h, nv, []⟩ (KF T fn ks) = tree) (hs : (tm.all (fun p => p.2.scop nv) && h.scop nv) = true) (σ : List U) (hn : σ.length = nv) (hw : t.wid = w) (hf : factsAll σ t tm) (hH : H = h.den σ) (hW : h.WF σ)
    (hv : VC T call w (LF P T code fn R) R σ tree) : ctx P T p code (EndsX T fn R) (o.out t H) := by
  subst he
  exact backT_ok hT hC p code [] σ _ t H _ _ (KF_ok ks) (by cases code <;> rfl) (ctx_nil ..) hv (Holds.init hw hf hH hW hn hs)
theorem Tri.symIn (hT : TOk P T) (hC : call.Sound P T) {sh : Nat → Option Shape} {stops ks : List Nat} {p : List Bool} {code : Code} {tm : List (Nat × E)} {h : SH} {nv : Nat} {tree : Tree}
    (he : goT T sh w stops p code [] ⟨tm, h, nv, []⟩ (KF T fn ks) = tree) (hs : (tm.all (fun p => p.2.scop nv) && h.scop nv) = true) (σ : List U) (hn : σ.length = nv) (hw : t.wid = w) (hf : factsAll σ t tm) (hH : H = h.den σ) (hW : h.WF σ)
    (hv : VC T call w (LF P T code fn R) R σ tree) : Tri P T (sub p code) t H (ctx P T p code (EndsX T fn R)) := by
  subst he
  exact goT_ok hT hC p code [] σ _ t H _ _ (KF_ok ks) (by cases code <;> rfl) (ctx_nil ..) hv (Holds.init hw hf hH hW hn hs)
theorem LTri.symIn (hT : TOk P T) (hC : call.Sound P T) {sh : Nat → Option Shape} {stops ks : List Nat} {p : List Bool} {code c : Code} {tm : List (Nat × E)} {h : SH} {nv : Nat} {tree : Tree} (hl : sub p code = .loop c)
    (he : goT T sh w stops (p ++ [false]) code [] ⟨tm, h, nv, []⟩ (KF T fn ks) = tree) (hs : (tm.all (fun p => p.2.scop nv) && h.scop nv) = true) (σ : List U) (hn : σ.length = nv) (hw : t.wid = w) (hf : factsAll σ t tm) (hH : H = h.den σ) (hW : h.WF σ)
    (hv : VC T call w (LF P T code fn R) R σ tree) : ctx P T (p ++ [false]) code (EndsX T fn R) (.norm t H) := by
  have e1 : sub (p ++ [false]) code = c := by rw [sub_append, hl]; cases c <;> rfl
  have e2 : ctx P T (p ++ [false]) code (EndsX T fn R) = inLoop P T c (ctx P T p code (EndsX T fn R)) := by rw [ctx_append, hl]; cases c <;> rfl
  have := Tri.symIn hT hC he hs σ hn hw hf hH hW hv
  rw [e1, e2] at this
  rw [e2]
  exact LTri.round' this
theorem Tri.symLoop {p : List Bool} {code c : Code} (hl : sub p code = .loop c) {Q : Out → Prop} (h : ctx P T (p ++ [false]) code Q (.norm t H)) : Tri P T (sub p code) t H (ctx P T p code Q) := by
  have e2 : ctx P T (p ++ [false]) code Q = inLoop P T c (ctx P T p code Q) := by rw [ctx_append, hl]; cases c <;> rfl
  rw [e2] at h
  rw [hl]
  exact Tri.loop h
theorem XBody.pure {F : FuncId} {vs : List V} {S : Res → Prop} (h : XBody P T F vs [] fun r => match r with | .val v _ => S (.val v) | .pan v _ => S (.pan v) | .no => False) : EBody P T F vs S := by
  obtain ⟨fn, c, h1, h2, h3, h4⟩ := h
  refine ⟨fn, c, h1, h2, h3, h4.mono fun o ho => ?_⟩
  cases o with
  | norm t H => obtain ⟨v, k1, k2⟩ := ho; exact ⟨_, k1, k2⟩
  | ret t H => obtain ⟨v, k1, k2⟩ := ho; exact ⟨_, k1, k2⟩
  | pan v t H => exact ⟨_, ho, rfl⟩
  | exit j t H => exact ho.elim
  | no => exact ho.elim
def isR (r : Res) : OR → Prop
  | .val v _ => r = .val v
  | .pan v _ => r = .pan v
  | .no => False
theorem spec_fn (hT : TOk P T) (hp : T.Plain) (F : FuncId) {α : Type} (enc : α → List V) (D : α → Prop) (r : α → Res) (hnl : ∀ a, D a → nlL (enc a) = true ∧ (r a).nl = true) (inj : ∀ a b, D a → D b → enc a = enc b → r a = r b)
    (h : ∀ a, D a → XBody P T F (enc a) [] (isR (r a))) : ∃ g, SpecOK P T F g ∧ ∀ a, D a → ∀ H, g (enc a) H = (r a).at H := by
  obtain ⟨g, k, s⟩ := spec_pure hT hp F (fun vs => ∃ a, D a ∧ vs = enc a) (fun vs x => ∃ a, D a ∧ vs = enc a ∧ x = r a) (by
    rintro vs ⟨a, ha, rfl⟩
    refine ⟨(hnl a ha).1, ?_, ?_⟩
    · rintro x ⟨b, hb, he, rfl⟩
      exact (hnl b hb).2
    · refine XBody.pure ?_
      obtain ⟨fn, c, h1, h2, h3, h4⟩ := h a ha
      refine ⟨fn, c, h1, h2, h3, h4.mono fun o ho => ?_⟩
      cases o with
      | norm t H => obtain ⟨v, k1, k2⟩ := ho; exact ⟨v, ⟨a, ha, rfl, k1.symm⟩, k2⟩
      | ret t H => obtain ⟨v, k1, k2⟩ := ho; exact ⟨v, ⟨a, ha, rfl, k1.symm⟩, k2⟩
      | pan v t H => exact ⟨a, ha, rfl, Eq.symm ho⟩
      | exit j t H => exact ho.elim
      | no => exact ho.elim)
  refine ⟨g, k, fun a ha H => ?_⟩
  obtain ⟨x, ⟨b, hb, he, rfl⟩, h2⟩ := s (enc a) ⟨a, ha, rfl⟩
  rw [h2 H, inj a b ha hb he]
theorem spec_hp (hT : TOk P T) (F : FuncId) {α : Type} (enc : α → List V) (D : α → Heap → Prop) (S : α → Heap → OR → Prop) (inj : ∀ a b H r, D a H → D b H → enc a = enc b → S a H r → S b H r)
    (h : ∀ a H, D a H → XBody P T F (enc a) H (S a H)) : ∃ g, SpecOK P T F g ∧ ∀ a H, D a H → S a H (g (enc a) H) := by
  obtain ⟨g, k, s⟩ := XFact.spec (F := F) hT (D := fun vs H => ∃ a, D a H ∧ vs = enc a) (R := fun vs H r => ∃ a, D a H ∧ vs = enc a ∧ S a H r) (by
    rintro vs H ⟨a, ha, rfl⟩
    exact (XBody.fact hT (h a H ha)).mono fun r hr => ⟨a, ha, rfl, hr⟩)
  refine ⟨g, k, fun a H ha => ?_⟩
  obtain ⟨r, ⟨b, hb, he, hr⟩, h2⟩ := s (enc a) H ⟨a, ha, rfl⟩
  rw [h2]
  exact inj b a H r hb ha he.symm hr
end
theorem WF_opq (σ : List U) (n : Nat) : (⟨.va n, [], []⟩ : SH).WF σ := ⟨by simp, by simp⟩
theorem Heap.set_self {H : Heap} {n : Nat} {b : Option Blk} (h : H[n]? = some b) : H = H.set n b := by
  obtain ⟨h1, h2⟩ := List.getElem?_eq_some_iff.1 h
  rw [← h2, List.set_getElem_self]
theorem Heap.get_self {H : Heap} {n : Nat} {b c : Option Blk} (h : H[n]? = some c) : (H.set n b)[n]? = some b := List.getElem?_set_self (List.getElem?_eq_some_iff.1 h).1
theorem Heap.lt {H : Heap} {n : Nat} {c : Option Blk} (h : H[n]? = some c) : n < H.length := (List.getElem?_eq_some_iff.1 h).1
theorem last_or (l : List UInt8) : l = [] ∨ ∃ M y, l = M ++ [y] := by
  rcases List.eq_nil_or_concat l with h | ⟨M, y, h⟩
  · exact .inl h
  · exact .inr ⟨M, y, by rw [h, List.concat_eq_append]⟩
theorem at_mid (P Q : List UInt8) (c : UInt8) (i : Int) (h : i = P.length) : atS (P ++ c :: Q) i = c.toNat := by
  subst h
  simp [atS]
theorem set_mid (P Q : List UInt8) (c d : UInt8) (n : Nat) (h : n = P.length) : (P ++ c :: Q).set n d = P ++ d :: Q := by
  subst h
  simp
theorem ofNat_u8 (c : UInt8) : UInt8.ofNat c.toNat = c := by simp
theorem u8_nn (c : UInt8) : (0 : Int) ≤ c.toNat ∧ (c.toNat : Int) < 256 := by
  have := c.toNat_lt
  omega
theorem w64 {n : Int} (h1 : -9223372036854775808 ≤ n) (h2 : n < 9223372036854775808) : IntKind.i64.wrap n = n := wrap_i64 h1 h2
abbrev u64E (k : Nat) : E := .f1 (.vi .u64) (.va k)
abbrev two (a b : E) : E := .f1 .tup (.f2 .cons a (.f2 .cons b .nil))
def shp : Nat → Option Shape := fun f =>
  if f = 110 then some ⟨[.i, .i], two (u64E 0) (u64E 1), .pure, false⟩ else
  if f = 111 then some ⟨[.i, .i], two (u64E 0) (u64E 1), .pure, false⟩ else
  if f = 112 then some ⟨[.i, .i], two (u64E 0) (u64E 1), .pure, false⟩ else
  if f = 121 then some ⟨[], .f1 (.vi .i64) (.ci 60), .pure, false⟩ else
  if f = 94 then some ⟨[.i, .b], two (u64E 0) (.f1 .vb (.va 1)), .pure, false⟩ else
  if f = 55 then some ⟨[], .cv .un, .pure, true⟩ else
  if f = 116 then some ⟨[.b], .f1 .vb (.va 0), .pure, false⟩ else
  if f = 100 then some ⟨[.s, .i], two (.f1 .vs (.va 0)) (.f1 (.vi .i64) (.va 1)), .pure, true⟩ else
  if f = 36 then some ⟨[.b], .f1 .vb (.va 0), .pure, false⟩ else
  if f = 91 then some ⟨[], .va 1000, .pure, false⟩ else
  if f = 67 then some ⟨[], .cv .un, .keeps [(0, none)], false⟩ else
  if f = 37 then some ⟨[], .cv .nili, .turns, false⟩ else
  if f = 38 then some ⟨[.i], two (.f1 (.vi .i64) (.va 0)) (.cv .nili), .turns, false⟩ else
  if f = 39 then some ⟨[.s], .f1 .vs (.va 0), .turns, false⟩ else
  if f = 81 then some ⟨[.i], .f1 (.vi .i64) (.va 0), .pure, false⟩ else
  if f = 82 then some ⟨[.i, .i], two (.f1 (.vi .i32) (.va 0)) (.f1 (.vi .i64) (.va 1)), .pure, false⟩ else
  if f = 35 then some ⟨[.i], .f1 (.vi .i64) (.va 0), .pure, false⟩ else
  if f = 71 then some ⟨[.i], .f1 (.vi .i64) (.va 0), .pure, false⟩ else
  if f = 15 then some ⟨[.b], .f1 .vb (.va 0), .pure, false⟩ else
  if f = 61 then some ⟨[.s], .f1 .vs (.va 0), .pure, false⟩ else
  if f = 70 then some ⟨[.b], .f1 .vb (.va 0), .pure, false⟩ else
  if f = 49 then some ⟨[.i], .f1 (.vi .i64) (.va 0), .pure, false⟩ else
  if f = 50 then some ⟨[.b], .f1 .vb (.va 0), .pure, false⟩ else
  if f = 73 then some ⟨[.b], .f1 .vb (.va 0), .pure, false⟩ else
  if f = 54 then some ⟨[.s], .f1 .vs (.va 0), .pure, false⟩ else
  if f = 75 then some ⟨[.i], .f1 (.vi .i64) (.va 0), .pure, true⟩ else
  if f = 77 then some ⟨[.i], .f1 (.vi .i64) (.va 0), .pure, true⟩ else
  if f = 76 then some ⟨[.s], .f1 .vs (.va 0), .pure, true⟩ else
  if f = 80 then some ⟨[.s, .i], two (.f1 .vs (.va 0)) (.f1 (.vi .i64) (.va 1)), .pure, true⟩ else
  if f = 52 then some ⟨[.s, .i], two (.f1 .vs (.va 0)) (.f1 (.vi .i64) (.va 1)), .pure, true⟩ else
  if f = 53 then some ⟨[.s, .i], two (.f1 .vs (.va 0)) (.f1 (.vi .i64) (.va 1)), .pure, true⟩ else
  if f = 51 then some ⟨[.i, .s, .i], .f1 .tup (.f2 .cons (.f1 (.vi .i64) (.va 0)) (.f2 .cons (.f1 .vs (.va 1)) (.f2 .cons (.f1 (.vi .i64) (.va 2)) .nil))), .pure, true⟩ else
  if f = 74 then some ⟨[.i], .f1 (.vi .i64) (.va 0), .reads, true⟩ else
  if f = 48 then some ⟨[.s], .f1 .vs (.va 0), .reads, false⟩ else
  if f = 47 then some ⟨[.b, .i, .b], .f1 .vb (.va 0), .keeps [(1, some (.f1 (.vi .i64) (.va 1))), (2, some (.f1 .vb (.va 2)))], true⟩ else
  if f = 30 then some ⟨[.i, .b], .cv .un, .keeps [(1, some (.f1 (.vi .i64) (.va 0))), (2, some (.f1 .vb (.va 1)))], true⟩ else
  if f = 31 then some ⟨[.i, .s, .i, .b, .i], .f1 .agg (.f2 .cons (.f1 (.vi .i64) (.va 0)) (.f2 .cons (.f1 .vs (.va 1)) (.f2 .cons (.f1 (.vi .i64) (.va 2)) (.f2 .cons (.f1 .vb (.va 3)) .nil)))), .keeps [(1, some (.f1 (.vi .i64) (.va 4)))], true⟩ else
  none
theorem and_mask (a : Nat) (ha : a < 18446744073709551616) : evInt .and .u64 (a : Int) 4294967295 = some (.i .u64 ((a % 4294967296 : Nat) : Int)) := by
  have : evInt .and .u64 (a : Int) 4294967295 = some (.i .u64 (bits .and .u64 (a : Int) 4294967295)) := rfl
  rw [this, Mul64.maskN a ha]
theorem shr_u64 (a n : Nat) (h : n ≤ 64) : evShift .shr .u64 (a : Int) .u64 (n : Int) = some (.i .u64 ((a / 2 ^ n : Nat) : Int)) := by
  have h0 : ¬ ((n : Int) < 0) := by omega
  have e : evShift .shr .u64 (a : Int) .u64 (n : Int) = some (.i .u64 ((a : Int).fdiv (2 ^ n))) := by
    unfold evShift Op.shift
    rw [if_neg h0]
    have : min (n : Int).toNat IntKind.u64.bits = n := by
      have : IntKind.u64.bits = 64 := rfl
      omega
    simp only [this]
    rfl
  rw [e, Int.fdiv_eq_ediv_of_nonneg _ (by exact Int.le_of_lt (Int.pow_pos (by omega)))]
  congr 2
theorem shr_32 (a : Nat) : evShift .shr .u64 (a : Int) .u64 32 = some (.i .u64 ((a / 4294967296 : Nat) : Int)) := shr_u64 a 32 (by omega)
theorem tr_mul : codeT TT shp 51 [] (bodyOf Tryz.f110) [] ⟨[(0, u64E 0), (1, u64E 1)], ⟨.va 2, [], []⟩, 3, []⟩ (KF TT Tryz.f110 []) = .need (.f2 (.okI .and .u64) (.va 0) (.ci 4294967295)) (.need (.f2 (.okSh .shr .u64 .u64) (.va 0) (.ci 32)) (.need (.f2 (.okI .and .u64) (.va 1) (.ci 4294967295)) (.need (.f2 (.okSh .shr .u64 .u64) (.va 1) (.ci 32)) (.need (.f2 (.okSh .shr .u64 .u64) (.f1 (.wrap .u64) (.f2 .mul (.f2 (.opI .and .u64) (.va 0) (.ci 4294967295)) (.f2 (.opI .and .u64) (.va 1) (.ci 4294967295)))) (.ci 32)) (.leti (.f1 (.wrap .u64) (.f2 .add (.f1 (.wrap .u64) (.f2 .mul (.f2 (.sh .shr .u64 .u64) (.va 0) (.ci 32)) (.f2 (.opI .and .u64) (.va 1) (.ci 4294967295)))) (.f2 (.sh .shr .u64 .u64) (.f1 (.wrap .u64) (.f2 .mul (.f2 (.opI .and .u64) (.va 0) (.ci 4294967295)) (.f2 (.opI .and .u64) (.va 1) (.ci 4294967295)))) (.ci 32)))) (.need (.f2 (.okI .and .u64) (.va 3) (.ci 4294967295)) (.need (.f2 (.okSh .shr .u64 .u64) (.va 3) (.ci 32)) (.need (.f2 (.okSh .shr .u64 .u64) (.f1 (.wrap .u64) (.f2 .add (.f2 (.opI .and .u64) (.va 3) (.ci 4294967295)) (.f1 (.wrap .u64) (.f2 .mul (.f2 (.opI .and .u64) (.va 0) (.ci 4294967295)) (.f2 (.sh .shr .u64 .u64) (.va 1) (.ci 32)))))) (.ci 32)) (.leti (.f2 (.sh .shr .u64 .u64) (.f1 (.wrap .u64) (.f2 .add (.f2 (.opI .and .u64) (.va 3) (.ci 4294967295)) (.f1 (.wrap .u64) (.f2 .mul (.f2 (.opI .and .u64) (.va 0) (.ci 4294967295)) (.f2 (.sh .shr .u64 .u64) (.va 1) (.ci 32)))))) (.ci 32)) (.leti (.f1 (.wrap .u64) (.f2 .add (.f1 (.wrap .u64) (.f2 .add (.f1 (.wrap .u64) (.f2 .mul (.f2 (.sh .shr .u64 .u64) (.va 0) (.ci 32)) (.f2 (.sh .shr .u64 .u64) (.va 1) (.ci 32)))) (.f2 (.sh .shr .u64 .u64) (.va 3) (.ci 32)))) (.va 4))) (.fin (.f1 .tup (.f2 .cons (.f1 (.vi .u64) (.va 5)) (.f2 .cons (.f1 (.vi .u64) (.f1 (.wrap .u64) (.f2 .mul (.va 0) (.va 1)))) .nil))) ⟨.va 2, [], []⟩))))))))))) := by kernel_rfl
theorem body_2110 {call : CallF} (hC : call.Sound Tryz.prog TT) (x y : Nat) (hx : x < 18446744073709551616) (hy : y < 18446744073709551616) : XBody Tryz.prog TT 110 [.i .u64 x, .i .u64 y] [] (isR (.val (.tup [.i .u64 ((x * y / 18446744073709551616 : Nat) : Int), .i .u64 ((x * y % 18446744073709551616 : Nat) : Int)]))) := by
  refine XBody.sym TT_ok hC (fn := Tryz.f110) rfl rfl (by simp [Tryz.f110]) tr_mul (by kernel_rfl) [.ui x, .ui y, .uh []] rfl ⟨by rw [get_init]; rfl, by rw [get_init]; rfl, trivial⟩ rfl (WF_opq _ _) ?_
  obtain ⟨bd, bt, bw, hhi⟩ := Lib.mul64_hi x y hx hy
  have ba := Lib.half_mul_le (a := x / 4294967296) (b := y / 4294967296) (by omega) (by omega)
  have bb := Lib.half_mul_le (a := x / 4294967296) (b := y % 4294967296) (by omega) (by omega)
  have bc := Lib.half_mul_le (a := x % 4294967296) (b := y / 4294967296) (by omega) (by omega)
  have ba' : x / 4294967296 * (y / 4294967296) < 18446744073709551616 := by omega
  have bb' : x / 4294967296 * (y % 4294967296) < 18446744073709551616 := by omega
  have bc' : x % 4294967296 * (y / 4294967296) < 18446744073709551616 := by omega
  have bh1 : x / 4294967296 * (y / 4294967296) + (x / 4294967296 * (y % 4294967296) + x % 4294967296 * (y % 4294967296) / 4294967296) / 4294967296 < 18446744073709551616 := by omega
  have bh : x / 4294967296 * (y / 4294967296) + (x / 4294967296 * (y % 4294967296) + x % 4294967296 * (y % 4294967296) / 4294967296) / 4294967296 + ((x / 4294967296 * (y % 4294967296) + x % 4294967296 * (y % 4294967296) / 4294967296) % 4294967296 + x % 4294967296 * (y / 4294967296)) / 4294967296 < 18446744073709551616 := by omega
  simp -implicitDefEqProofs only [VC, isR, forall_eq, E.den, O1.den, O2.den, U.int_ui, U.boo_ub, U.val_uv, U.lst_ul, List.cons_append, List.nil_append, List.getElem?_cons_zero, List.getElem?_cons_succ, Option.getD_some, and_mask x hx, and_mask y hy, shr_32, intOf_i, kindOf_i, Mul64.mulN, Mul64.addN, Mul64.wrapN _ bd, Mul64.wrapN _ bb', Mul64.wrapN _ bt, and_mask _ bt, Mul64.wrapN _ bc', Mul64.wrapN _ bw, Mul64.wrapN _ ba', Mul64.wrapN _ bh1, Mul64.wrapN _ bh, Mul64.wrapM (x * y), decide_true, true_and]
  rw [hhi]
theorem sp2110 : ∃ g, SpecOK Tryz.prog TT 110 g ∧ ∀ p : Nat × Nat, p.1 < 18446744073709551616 ∧ p.2 < 18446744073709551616 → ∀ H, g [.i .u64 p.1, .i .u64 p.2] H = (Res.val (.tup [.i .u64 ((p.1 * p.2 / 18446744073709551616 : Nat) : Int), .i .u64 ((p.1 * p.2 % 18446744073709551616 : Nat) : Int)])).at H :=
  spec_fn TT_ok TT_plain 110 (fun p : Nat × Nat => [.i .u64 p.1, .i .u64 p.2]) (fun p => p.1 < 18446744073709551616 ∧ p.2 < 18446744073709551616) (fun p => .val (.tup [.i .u64 ((p.1 * p.2 / 18446744073709551616 : Nat) : Int), .i .u64 ((p.1 * p.2 % 18446744073709551616 : Nat) : Int)])) (fun _ _ => ⟨rfl, rfl⟩)
    (fun a b _ _ h => by
      simp only [List.cons.injEq, V.i.injEq, true_and, and_true, Int.ofNat_inj] at h
      rw [h.1, h.2]) fun p hp => body_2110 CallF.none_sound p.1 p.2 hp.1 hp.2
theorem ext_add64 : TT.ext 111 = some extAdd64 := rfl
def wideV (lo hi : Nat) : V := .agg [.i .u64 lo, .i .u64 hi]
def timN (lo hi m r : Nat) : Nat := lo * m + hi * m * 18446744073709551616 + r
def timV (n : Nat) : V := .tup [wideV (n % 18446744073709551616) (n / 18446744073709551616 % 18446744073709551616), .b (decide (n < 340282366920938463463374607431768211456))]
theorem tr_times : codeT TT shp 49 [] (bodyOf Tryz.f96) [] ⟨[(0, .f1 .agg (.f2 .cons (u64E 0) (.f2 .cons (u64E 1) .nil))), (1, u64E 2), (2, u64E 3)], ⟨.va 4, [], []⟩, 5, []⟩ (KF TT Tryz.f96 []) = .asks (.call 110 (.f2 .cons (.f1 (.vi .u64) (.va 0)) (.f2 .cons (.f1 (.vi .u64) (.va 2)) .nil))) [.i, .i] (.f1 .tup (.f2 .cons (.f1 (.vi .u64) (.va 5)) (.f2 .cons (.f1 (.vi .u64) (.va 6)) .nil))) (.asks (.call 110 (.f2 .cons (.f1 (.vi .u64) (.va 1)) (.f2 .cons (.f1 (.vi .u64) (.va 2)) .nil))) [.i, .i] (.f1 .tup (.f2 .cons (.f1 (.vi .u64) (.va 7)) (.f2 .cons (.f1 (.vi .u64) (.va 8)) .nil))) (.asks (.ext 111 (.f2 .cons (.f1 (.vi .u64) (.va 6)) (.f2 .cons (.f1 (.vi .u64) (.va 3)) (.f2 .cons (.f1 (.vi .u64) (.ci 0)) .nil)))) [.i, .i] (.f1 .tup (.f2 .cons (.f1 (.vi .u64) (.va 9)) (.f2 .cons (.f1 (.vi .u64) (.va 10)) .nil))) (.asks (.ext 111 (.f2 .cons (.f1 (.vi .u64) (.va 8)) (.f2 .cons (.f1 (.vi .u64) (.va 5)) (.f2 .cons (.f1 (.vi .u64) (.va 10)) .nil)))) [.i, .i] (.f1 .tup (.f2 .cons (.f1 (.vi .u64) (.va 11)) (.f2 .cons (.f1 (.vi .u64) (.va 12)) .nil))) (.ite (.f2 .eqI (.va 7) (.ci 0)) (.fin (.f1 .tup (.f2 .cons (.f1 .agg (.f2 .cons (.f1 (.vi .u64) (.va 9)) (.f2 .cons (.f1 (.vi .u64) (.va 11)) .nil))) (.f2 .cons (.f1 .vb (.f2 .eqI (.va 12) (.ci 0))) .nil))) ⟨.va 4, [], [.some ⟨131, .f2 .cons (.f1 (.vi .u64) (.va 0)) (.f2 .cons (.f1 (.vi .u64) (.va 1)) .nil), .all⟩, .some ⟨131, .f2 .cons (.f1 (.vi .u64) (.va 9)) (.f2 .cons (.f1 (.vi .u64) (.va 11)) .nil), .all⟩]⟩) (.fin (.f1 .tup (.f2 .cons (.f1 .agg (.f2 .cons (.f1 (.vi .u64) (.va 9)) (.f2 .cons (.f1 (.vi .u64) (.va 11)) .nil))) (.f2 .cons (.f1 .vb (.cb .false)) .nil))) ⟨.va 4, [], [.some ⟨131, .f2 .cons (.f1 (.vi .u64) (.va 0)) (.f2 .cons (.f1 (.vi .u64) (.va 1)) .nil), .all⟩, .some ⟨131, .f2 .cons (.f1 (.vi .u64) (.va 9)) (.f2 .cons (.f1 (.vi .u64) (.va 11)) .nil), .all⟩]⟩)) (.stuck 0)) (.stuck 0)) (.stuck 0)) (.stuck 0) := by kernel_rfl
theorem add64_eq (x y c : Nat) (hc : c ≤ 1) : extAdd64 [.i .u64 x, .i .u64 y, .i .u64 c] = some (.tup [.i .u64 ((x + y + c) % 18446744073709551616 : Nat), .i .u64 ((x + y + c) / 18446744073709551616 : Nat)]) := by
  simp only [extAdd64, Int.toNat_natCast]
  rw [if_pos ⟨by omega, by omega, by omega, by omega⟩]
theorem body_2096 {call : CallF} (hC : call.Sound Tryz.prog TT) (hmul : ∀ x y : Nat, x < 18446744073709551616 → y < 18446744073709551616 → ∀ H, call 110 [.i .u64 x, .i .u64 y] H = .val (.tup [.i .u64 ((x * y / 18446744073709551616 : Nat) : Int), .i .u64 ((x * y % 18446744073709551616 : Nat) : Int)]) H)
    (lo hi m r : Nat) (h1 : lo < 18446744073709551616) (h2 : hi < 18446744073709551616) (h3 : m < 18446744073709551616) (h4 : r < 18446744073709551616) : XBody Tryz.prog TT 96 [wideV lo hi, .i .u64 m, .i .u64 r] [] (isR (.val (timV (timN lo hi m r)))) := by
  refine XBody.sym TT_ok hC (fn := Tryz.f96) rfl rfl (by simp [Tryz.f96]) tr_times (by kernel_rfl) [.ui lo, .ui hi, .ui m, .ui r, .uh []] rfl ⟨by rw [get_init]; rfl, by rw [get_init]; rfl, by rw [get_init]; rfl, trivial⟩ rfl (WF_opq _ _) ?_
  simp -implicitDefEqProofs only [VC, isR, exU, Ask.den, ext_add64, E.den, O1.den, O2.den, U.int_ui, U.boo_ub, U.val_uv, U.lst_ul, List.cons_append, List.nil_append, List.getElem?_cons_zero, List.getElem?_cons_succ, Option.getD_some]
  refine .inl ⟨_, _, fun K => hmul lo m h1 h3 K, ?_⟩
  refine .inl ⟨_, _, fun K => hmul hi m h2 h3 K, ?_⟩
  refine .inl ⟨_, _, fun K => by rw [show (0 : Int) = ((0 : Nat) : Int) from rfl, add64_eq _ _ _ (by omega)]; rfl, ?_⟩
  have hlo : lo * m % 18446744073709551616 < 18446744073709551616 := Nat.mod_lt _ (by omega)
  refine .inl ⟨_, _, fun K => by rw [add64_eq _ _ _ (by omega)]; rfl, ?_⟩
  unfold timV timN wideV
  generalize lo * m = P
  generalize hi * m = Q
  have e1 : ((P % 18446744073709551616 + r + 0) % 18446744073709551616) = (P + Q * 18446744073709551616 + r) % 18446744073709551616 := by omega
  have e2 : (Q % 18446744073709551616 + P / 18446744073709551616 + (P % 18446744073709551616 + r + 0) / 18446744073709551616) % 18446744073709551616 = (P + Q * 18446744073709551616 + r) / 18446744073709551616 % 18446744073709551616 := by omega
  rw [e1, e2]
  refine ⟨fun h => ?_, fun h => ?_⟩
  · have h := eq_of_beq h
    have e3 : (((((Q % 18446744073709551616 + P / 18446744073709551616 + (P % 18446744073709551616 + r + 0) / 18446744073709551616) / 18446744073709551616 : Nat) : Int)) == 0) = decide (P + Q * 18446744073709551616 + r < 340282366920938463463374607431768211456) := by
      rw [Bool.eq_iff_iff, beq_iff_eq, decide_eq_true_eq]
      omega
    rw [e3]
  · have h : ¬ (((Q / 18446744073709551616 : Nat) : Int) = 0) := by simpa using h
    have e3 : decide (P + Q * 18446744073709551616 + r < 340282366920938463463374607431768211456) = false := decide_eq_false (by omega)
    rw [e3]
theorem sp2096 : ∃ g, SpecOK Tryz.prog TT 96 g ∧ ∀ p : Nat × Nat × Nat × Nat, p.1 < 18446744073709551616 ∧ p.2.1 < 18446744073709551616 ∧ p.2.2.1 < 18446744073709551616 ∧ p.2.2.2 < 18446744073709551616 → ∀ H, g [wideV p.1 p.2.1, .i .u64 p.2.2.1, .i .u64 p.2.2.2] H = (Res.val (timV (timN p.1 p.2.1 p.2.2.1 p.2.2.2))).at H := by
  obtain ⟨g1, k1, s1⟩ := sp2110
  refine spec_fn TT_ok TT_plain 96 (fun p : Nat × Nat × Nat × Nat => [wideV p.1 p.2.1, .i .u64 p.2.2.1, .i .u64 p.2.2.2]) _ (fun p => .val (timV (timN p.1 p.2.1 p.2.2.1 p.2.2.2))) (fun _ _ => ⟨rfl, rfl⟩)
    (fun a b _ _ h => by
      simp only [wideV, List.cons.injEq, V.i.injEq, V.agg.injEq, true_and, and_true, Int.ofNat_inj] at h
      rw [h.1.1, h.1.2, h.2.1, h.2.2]) fun p hp => ?_
  exact body_2096 (ws n0 k1) (fun x y hx hy H => by rw [w_here]; exact s1 (x, y) ⟨hx, hy⟩ H) p.1 p.2.1 p.2.2.1 p.2.2.2 hp.1 hp.2.1 hp.2.2.1 hp.2.2.2
theorem dv_1 (u : Nat) : (((u : Int) * 4294967296 % 18446744073709551616 + ((0 : Nat) : Int)) % 18446744073709551616 - ((u / 2684354560 : Nat) : Int) * 11529215046068469760 % 18446744073709551616) % 18446744073709551616 = ((u % 2684354560 * 4294967296 : Nat) : Int) := by omega
theorem dv_2 (q u : Nat) (h : q < 4294967296) (hu : u < 11529215046068469760) : (((q : Int) * 4294967296 % 18446744073709551616 + ((u / 2684354560 : Nat) : Int)) % 18446744073709551616) = ((q * 4294967296 + u / 2684354560 : Nat) : Int) := by omega
theorem dv_3 (u v : Nat) (h : u < 11529215046068469760) (hv : v < 4294967296) : (((((u : Int) * 4294967296 % 18446744073709551616 + (v : Int)) % 18446744073709551616 - ((u / 2684354560 : Nat) : Int) * 11529215046068469760 % 18446744073709551616)) % 18446744073709551616) = ((u % 2684354560 * 4294967296 + v : Nat) : Int) := by omega
theorem dv_5 (u : Nat) : ((u : Int) - ((u / 2684354560 : Nat) : Int) * 2684354560 % 18446744073709551616) % 18446744073709551616 = ((u % 2684354560 : Nat) : Int) ∨ 18446744073709551616 ≤ u := by omega
theorem dv_6 (hi lo : Nat) (h : hi < 10) (hl : lo < 18446744073709551616) : (hi * 1152921504606846976 + lo / 16) / 2684354560 * 4294967296 + ((hi * 1152921504606846976 + lo / 16) % 2684354560 * 4294967296 + lo * 1152921504606846976 % 18446744073709551616 / 4294967296) / 2684354560 = (hi * 18446744073709551616 + lo) / 10 := by omega
theorem dv_7 (hi lo : Nat) (h : hi < 10) (hl : lo < 18446744073709551616) : ((hi * 1152921504606846976 + lo / 16) % 2684354560 * 4294967296 + lo * 1152921504606846976 % 18446744073709551616 / 4294967296) % 2684354560 / 268435456 = (hi * 18446744073709551616 + lo) % 10 := by omega
theorem dv_8 (u : Nat) : u % 2684354560 * 4294967296 / 2 ^ 60 = u % 2684354560 / 268435456 := by omega
theorem dv_9 (q r : Nat) : ¬ ((4294967296 : Int) * (r : Int) % 18446744073709551616 + ((0 : Nat) : Int)) % 18446744073709551616 < (q : Int) * 0 % 18446744073709551616 := by omega
theorem dv_10 (q r v : Nat) : ¬ ((4294967296 : Int) * (r : Int) % 18446744073709551616 + (v : Int)) % 18446744073709551616 < (q : Int) * 0 % 18446744073709551616 := by omega
theorem dv_11 (lo : Nat) (hl : lo < 18446744073709551616) : lo * 1152921504606846976 % 18446744073709551616 % 4294967296 = 0 ∧ lo * 1152921504606846976 % 18446744073709551616 / 4294967296 < 4294967296 := by omega
theorem dv_12 (u : Nat) (h : u < 11529215046068469760) : u / 2684354560 < 4294967296 := by omega
theorem dv_13 (hi lo : Nat) (h : hi < 10) (hl : lo < 18446744073709551616) : hi * 1152921504606846976 + lo / 16 < 11529215046068469760 := by omega
theorem dv_14 (u v w : Nat) (h : u < 11529215046068469760) (hv : v < 4294967296) (hw : w = u % 2684354560 * 4294967296 + v) : (((((u : Int) * 4294967296 % 18446744073709551616 + (v : Int)) % 18446744073709551616 - ((u / 2684354560 : Nat) : Int) * 11529215046068469760 % 18446744073709551616)) % 18446744073709551616) = (w : Int) := by
  subst hw
  exact dv_3 u v h hv
theorem dv_15 (u v w : Nat) (hv : v < 4294967296) (hw : w = u % 2684354560 * 4294967296 + v) : w < 11529215046068469760 ∧ w < 18446744073709551616 := by omega
def letR (c : Int) : Bool := (decide (97 ≤ c) && decide (c ≤ 122)) || (decide (65 ≤ c) && decide (c ≤ 90))
def digN (c : Int) : Int := if 48 ≤ c ∧ c ≤ 57 then c - 48 else if 97 ≤ c ∧ c ≤ 102 then c - 87 else if 65 ≤ c ∧ c ≤ 70 then c - 55 else -1
def digR (c base : Int) : Int := if base ≤ digN c then -1 else digN c
def worR (c : Int) : Bool := letR c || decide (0 ≤ digR c 10) || (c == 95)
theorem spec_con {P : Program} {T : Tab} (hT : TOk P T) (hp : T.Plain) (F : FuncId) (D : List V → Prop) (r : List V → Res) (h : ∀ vs, D vs → nlL vs = true ∧ (r vs).nl = true ∧ ∃ n J, evFun T (gamOf Con.none) n F vs [] = (r vs).at J) :
    ∃ g, SpecOK P T F g ∧ ∀ vs, D vs → ∀ H, g vs H = (r vs).at H := by
  classical
  refine ⟨fun vs H => if D vs then (r vs).at H else .no, fun vs H x hx hne => ?_, fun vs hd H => if_pos hd⟩
  simp only at hx
  split at hx
  · rename_i hd
    subst hx
    obtain ⟨h1, h2, n, J, h3⟩ := h vs hd
    obtain ⟨k1, k2⟩ := con_of_ev hT hp Con.none_sound h3 h1 h2
    exact ⟨k1, k2 H⟩
  · exact absurd hx.symm hne
theorem range_at {p : Nat → Bool} {n : Nat} (h : (List.range n).all p = true) {c : Int} (h0 : 0 ≤ c) (h1 : c < n) : ∃ k : Nat, c = k ∧ p k = true :=
  ⟨c.toNat, by omega, List.all_eq_true.1 h _ (List.mem_range.2 (by omega))⟩
theorem tr_div1 : codeT TT shp 135 [] (bodyOf Tryz.f112) [] ⟨[(0, u64E 0), (1, u64E 1), (2, .f1 (.vi .u64) (.ci 10))], ⟨.va 2, [], []⟩, 3, []⟩ (KF TT Tryz.f112 [2, 8, 9, 10, 11, 13, 14, 15, 16]) = .ite (.f2 .leI (.ci 10) (.va 0)) (.stuck 9) (.ite (.f2 .eqI (.va 0) (.ci 0)) (.need (.f2 (.okI .quo .u64) (.va 1) (.ci 10)) (.need (.f2 (.okI .rem .u64) (.va 1) (.ci 10)) (.fin (.f1 .tup (.f2 .cons (.f1 (.vi .u64) (.f2 (.opI .quo .u64) (.va 1) (.ci 10))) (.f2 .cons (.f1 (.vi .u64) (.f2 (.opI .rem .u64) (.va 1) (.ci 10))) .nil))) ⟨.va 2, [], []⟩))) (.asks (.call 121 (.f2 .cons (.f1 (.vi .u64) (.ci 10)) .nil)) [] (.f1 (.vi .i64) (.ci 60)) (.need (.f2 (.okSh .shl .u64 .u64) (.va 0) (.ci 60)) (.need (.f2 (.okSh .shr .u64 .u64) (.va 1) (.ci 4)) (.need (.f2 (.okI .or .u64) (.f2 (.sh .shl .u64 .u64) (.va 0) (.ci 60)) (.f2 (.sh .shr .u64 .u64) (.va 1) (.ci 4))) (.need (.f2 (.okSh .shl .u64 .u64) (.va 1) (.ci 60)) (.need (.f2 (.okSh .shr .u64 .u64) (.f2 (.sh .shl .u64 .u64) (.va 1) (.ci 60)) (.ci 32)) (.need (.f2 (.okI .and .u64) (.f2 (.sh .shl .u64 .u64) (.va 1) (.ci 60)) (.ci 4294967295)) (.need (.f2 (.okI .quo .u64) (.f2 (.opI .or .u64) (.f2 (.sh .shl .u64 .u64) (.va 0) (.ci 60)) (.f2 (.sh .shr .u64 .u64) (.va 1) (.ci 4))) (.ci 2684354560)) (.leti (.f1 (.wrap .u64) (.f2 .sub (.f2 (.opI .or .u64) (.f2 (.sh .shl .u64 .u64) (.va 0) (.ci 60)) (.f2 (.sh .shr .u64 .u64) (.va 1) (.ci 4))) (.f1 (.wrap .u64) (.f2 .mul (.f2 (.opI .quo .u64) (.f2 (.opI .or .u64) (.f2 (.sh .shl .u64 .u64) (.va 0) (.ci 60)) (.f2 (.sh .shr .u64 .u64) (.va 1) (.ci 4))) (.ci 2684354560)) (.ci 2684354560))))) (.leaf (.stop [.true, .true, .true, .true, .true, .true, .true, .true, .true, .true, .true, .true, .true, .true, .false, .false]) [(2, .f1 (.vi .u64) (.ci 11529215046068469760)), (8, .f1 (.vi .u64) (.ci 60)), (9, .f1 (.vi .u64) (.ci 2684354560)), (10, .f1 (.vi .u64) (.ci 0)), (11, .f1 (.vi .u64) (.f2 (.opI .or .u64) (.f2 (.sh .shl .u64 .u64) (.va 0) (.ci 60)) (.f2 (.sh .shr .u64 .u64) (.va 1) (.ci 4)))), (13, .f1 (.vi .u64) (.f2 (.sh .shr .u64 .u64) (.f2 (.sh .shl .u64 .u64) (.va 1) (.ci 60)) (.ci 32))), (14, .f1 (.vi .u64) (.f2 (.opI .and .u64) (.f2 (.sh .shl .u64 .u64) (.va 1) (.ci 60)) (.ci 4294967295))), (15, .f1 (.vi .u64) (.f2 (.opI .quo .u64) (.f2 (.opI .or .u64) (.f2 (.sh .shl .u64 .u64) (.va 0) (.ci 60)) (.f2 (.sh .shr .u64 .u64) (.va 1) (.ci 4))) (.ci 2684354560))), (16, .f1 (.vi .u64) (.va 3))] ⟨.va 2, [], []⟩))))))))) (.stuck 0))) := by kernel_rfl
theorem tr_div2 : goT TT shp 135 [] [true, true, true, true, true, true, true, true, true, true, true, true, true, true, false, false, false] (bodyOf Tryz.f112) [] ⟨[(2, .f1 (.vi .u64) (.ci 11529215046068469760)), (8, .f1 (.vi .u64) (.ci 60)), (9, .f1 (.vi .u64) (.ci 2684354560)), (10, .f1 (.vi .u64) (.ci 0)), (11, u64E 0), (13, u64E 1), (14, u64E 2), (15, u64E 3), (16, u64E 4)], ⟨.va 5, [], []⟩, 6, []⟩ (KF TT Tryz.f112 [2, 8, 9, 10, 14, 15, 17, 18, 16]) = .ite (.f2 .geI (.va 3) (.ci 4294967296)) (.ite (.f2 .geI (.f1 (.wrap .u64) (.f2 .add (.va 4) (.ci 2684354560))) (.ci 4294967296)) (.leti (.f1 (.wrap .u64) (.f2 .sub (.f1 (.wrap .u64) (.f2 .add (.f1 (.wrap .u64) (.f2 .mul (.va 0) (.ci 4294967296))) (.va 1))) (.f1 (.wrap .u64) (.f2 .mul (.f1 (.wrap .u64) (.f2 .sub (.va 3) (.ci 1))) (.ci 11529215046068469760))))) (.need (.f2 (.okI .quo .u64) (.va 6) (.ci 2684354560)) (.leaf (.stop [.true, .true, .true, .true, .true, .true, .true, .true, .true, .true, .true, .true, .true, .true, .true, .true, .true, .true, .false, .false]) [(2, .f1 (.vi .u64) (.ci 11529215046068469760)), (8, .f1 (.vi .u64) (.ci 60)), (9, .f1 (.vi .u64) (.ci 2684354560)), (10, .f1 (.vi .u64) (.ci 0)), (14, .f1 (.vi .u64) (.va 2)), (15, .f1 (.vi .u64) (.f1 (.wrap .u64) (.f2 .sub (.va 3) (.ci 1)))), (17, .f1 (.vi .u64) (.va 6)), (18, .f1 (.vi .u64) (.f2 (.opI .quo .u64) (.va 6) (.ci 2684354560))), (16, .f1 (.vi .u64) (.f1 (.wrap .u64) (.f2 .sub (.va 6) (.f1 (.wrap .u64) (.f2 .mul (.f2 (.opI .quo .u64) (.va 6) (.ci 2684354560)) (.ci 2684354560))))))] ⟨.va 5, [], []⟩))) (.leaf (.again [.true, .true, .true, .true, .true, .true, .true, .true, .true, .true, .true, .true, .true, .true, .false, .false, .false]) [(2, .f1 (.vi .u64) (.ci 11529215046068469760)), (8, .f1 (.vi .u64) (.ci 60)), (9, .f1 (.vi .u64) (.ci 2684354560)), (10, .f1 (.vi .u64) (.ci 0)), (14, .f1 (.vi .u64) (.va 2)), (15, .f1 (.vi .u64) (.f1 (.wrap .u64) (.f2 .sub (.va 3) (.ci 1)))), (16, .f1 (.vi .u64) (.f1 (.wrap .u64) (.f2 .add (.va 4) (.ci 2684354560))))] ⟨.va 5, [], []⟩)) (.ite (.f2 .gtI (.f1 (.wrap .u64) (.f2 .mul (.va 3) (.ci 0))) (.f1 (.wrap .u64) (.f2 .add (.f1 (.wrap .u64) (.f2 .mul (.ci 4294967296) (.va 4))) (.va 1)))) (.ite (.f2 .geI (.f1 (.wrap .u64) (.f2 .add (.va 4) (.ci 2684354560))) (.ci 4294967296)) (.leti (.f1 (.wrap .u64) (.f2 .sub (.f1 (.wrap .u64) (.f2 .add (.f1 (.wrap .u64) (.f2 .mul (.va 0) (.ci 4294967296))) (.va 1))) (.f1 (.wrap .u64) (.f2 .mul (.f1 (.wrap .u64) (.f2 .sub (.va 3) (.ci 1))) (.ci 11529215046068469760))))) (.need (.f2 (.okI .quo .u64) (.va 6) (.ci 2684354560)) (.leaf (.stop [.true, .true, .true, .true, .true, .true, .true, .true, .true, .true, .true, .true, .true, .true, .true, .true, .true, .true, .false, .false]) [(2, .f1 (.vi .u64) (.ci 11529215046068469760)), (8, .f1 (.vi .u64) (.ci 60)), (9, .f1 (.vi .u64) (.ci 2684354560)), (10, .f1 (.vi .u64) (.ci 0)), (14, .f1 (.vi .u64) (.va 2)), (15, .f1 (.vi .u64) (.f1 (.wrap .u64) (.f2 .sub (.va 3) (.ci 1)))), (17, .f1 (.vi .u64) (.va 6)), (18, .f1 (.vi .u64) (.f2 (.opI .quo .u64) (.va 6) (.ci 2684354560))), (16, .f1 (.vi .u64) (.f1 (.wrap .u64) (.f2 .sub (.va 6) (.f1 (.wrap .u64) (.f2 .mul (.f2 (.opI .quo .u64) (.va 6) (.ci 2684354560)) (.ci 2684354560))))))] ⟨.va 5, [], []⟩))) (.leaf (.again [.true, .true, .true, .true, .true, .true, .true, .true, .true, .true, .true, .true, .true, .true, .false, .false, .false]) [(2, .f1 (.vi .u64) (.ci 11529215046068469760)), (8, .f1 (.vi .u64) (.ci 60)), (9, .f1 (.vi .u64) (.ci 2684354560)), (10, .f1 (.vi .u64) (.ci 0)), (14, .f1 (.vi .u64) (.va 2)), (15, .f1 (.vi .u64) (.f1 (.wrap .u64) (.f2 .sub (.va 3) (.ci 1)))), (16, .f1 (.vi .u64) (.f1 (.wrap .u64) (.f2 .add (.va 4) (.ci 2684354560))))] ⟨.va 5, [], []⟩)) (.leti (.f1 (.wrap .u64) (.f2 .sub (.f1 (.wrap .u64) (.f2 .add (.f1 (.wrap .u64) (.f2 .mul (.va 0) (.ci 4294967296))) (.va 1))) (.f1 (.wrap .u64) (.f2 .mul (.va 3) (.ci 11529215046068469760))))) (.need (.f2 (.okI .quo .u64) (.va 6) (.ci 2684354560)) (.leaf (.stop [.true, .true, .true, .true, .true, .true, .true, .true, .true, .true, .true, .true, .true, .true, .true, .true, .true, .true, .false, .false]) [(2, .f1 (.vi .u64) (.ci 11529215046068469760)), (8, .f1 (.vi .u64) (.ci 60)), (9, .f1 (.vi .u64) (.ci 2684354560)), (10, .f1 (.vi .u64) (.ci 0)), (14, .f1 (.vi .u64) (.va 2)), (15, .f1 (.vi .u64) (.va 3)), (17, .f1 (.vi .u64) (.va 6)), (18, .f1 (.vi .u64) (.f2 (.opI .quo .u64) (.va 6) (.ci 2684354560))), (16, .f1 (.vi .u64) (.f1 (.wrap .u64) (.f2 .sub (.va 6) (.f1 (.wrap .u64) (.f2 .mul (.f2 (.opI .quo .u64) (.va 6) (.ci 2684354560)) (.ci 2684354560))))))] ⟨.va 5, [], []⟩)))) := by kernel_rfl
theorem tr_div3 : goT TT shp 135 [] [true, true, true, true, true, true, true, true, true, true, true, true, true, true, true, true, true, true, false, false, false] (bodyOf Tryz.f112) [] ⟨[(2, .f1 (.vi .u64) (.ci 11529215046068469760)), (8, .f1 (.vi .u64) (.ci 60)), (9, .f1 (.vi .u64) (.ci 2684354560)), (10, .f1 (.vi .u64) (.ci 0)), (14, u64E 0), (15, u64E 1), (17, u64E 2), (18, u64E 3), (16, u64E 4)], ⟨.va 5, [], []⟩, 6, []⟩ (KF TT Tryz.f112 []) = .ite (.f2 .geI (.va 3) (.ci 4294967296)) (.ite (.f2 .geI (.f1 (.wrap .u64) (.f2 .add (.va 4) (.ci 2684354560))) (.ci 4294967296)) (.leti (.f1 (.wrap .u64) (.f2 .sub (.f1 (.wrap .u64) (.f2 .add (.f1 (.wrap .u64) (.f2 .mul (.va 2) (.ci 4294967296))) (.va 0))) (.f1 (.wrap .u64) (.f2 .mul (.f1 (.wrap .u64) (.f2 .sub (.va 3) (.ci 1))) (.ci 11529215046068469760))))) (.need (.f2 (.okSh .shr .u64 .u64) (.va 6) (.ci 60)) (.fin (.f1 .tup (.f2 .cons (.f1 (.vi .u64) (.f1 (.wrap .u64) (.f2 .add (.f1 (.wrap .u64) (.f2 .mul (.va 1) (.ci 4294967296))) (.f1 (.wrap .u64) (.f2 .sub (.va 3) (.ci 1)))))) (.f2 .cons (.f1 (.vi .u64) (.f2 (.sh .shr .u64 .u64) (.va 6) (.ci 60))) .nil))) ⟨.va 5, [], []⟩))) (.leaf (.again [.true, .true, .true, .true, .true, .true, .true, .true, .true, .true, .true, .true, .true, .true, .true, .true, .true, .true, .false, .false, .false]) [] ⟨.va 5, [], []⟩)) (.ite (.f2 .gtI (.f1 (.wrap .u64) (.f2 .mul (.va 3) (.ci 0))) (.f1 (.wrap .u64) (.f2 .add (.f1 (.wrap .u64) (.f2 .mul (.ci 4294967296) (.va 4))) (.va 0)))) (.ite (.f2 .geI (.f1 (.wrap .u64) (.f2 .add (.va 4) (.ci 2684354560))) (.ci 4294967296)) (.leti (.f1 (.wrap .u64) (.f2 .sub (.f1 (.wrap .u64) (.f2 .add (.f1 (.wrap .u64) (.f2 .mul (.va 2) (.ci 4294967296))) (.va 0))) (.f1 (.wrap .u64) (.f2 .mul (.f1 (.wrap .u64) (.f2 .sub (.va 3) (.ci 1))) (.ci 11529215046068469760))))) (.need (.f2 (.okSh .shr .u64 .u64) (.va 6) (.ci 60)) (.fin (.f1 .tup (.f2 .cons (.f1 (.vi .u64) (.f1 (.wrap .u64) (.f2 .add (.f1 (.wrap .u64) (.f2 .mul (.va 1) (.ci 4294967296))) (.f1 (.wrap .u64) (.f2 .sub (.va 3) (.ci 1)))))) (.f2 .cons (.f1 (.vi .u64) (.f2 (.sh .shr .u64 .u64) (.va 6) (.ci 60))) .nil))) ⟨.va 5, [], []⟩))) (.leaf (.again [.true, .true, .true, .true, .true, .true, .true, .true, .true, .true, .true, .true, .true, .true, .true, .true, .true, .true, .false, .false, .false]) [] ⟨.va 5, [], []⟩)) (.leti (.f1 (.wrap .u64) (.f2 .sub (.f1 (.wrap .u64) (.f2 .add (.f1 (.wrap .u64) (.f2 .mul (.va 2) (.ci 4294967296))) (.va 0))) (.f1 (.wrap .u64) (.f2 .mul (.va 3) (.ci 11529215046068469760))))) (.need (.f2 (.okSh .shr .u64 .u64) (.va 6) (.ci 60)) (.fin (.f1 .tup (.f2 .cons (.f1 (.vi .u64) (.f1 (.wrap .u64) (.f2 .add (.f1 (.wrap .u64) (.f2 .mul (.va 1) (.ci 4294967296))) (.va 3)))) (.f2 .cons (.f1 (.vi .u64) (.f2 (.sh .shr .u64 .u64) (.va 6) (.ci 60))) .nil))) ⟨.va 5, [], []⟩)))) := by kernel_rfl
theorem quo_u64 (a b : Nat) (hb : 0 < b) (ha : a < 18446744073709551616) : evInt .quo .u64 (a : Int) (b : Int) = some (.i .u64 ((a / b : Nat) : Int)) := by
  have h0 : ¬ ((b : Int) = 0) := by omega
  have e : evInt .quo .u64 (a : Int) (b : Int) = some (.i .u64 (IntKind.u64.wrap ((a : Int).tdiv (b : Int)))) := by
    simp only [evInt, Op.intDiv, if_neg h0]
    rfl
  have h1 : a / b ≤ a := Nat.div_le_self a b
  rw [e, ← Int.ofNat_tdiv, Mul64.wrapN _ (by omega)]
theorem rem_u64 (a b : Nat) (hb : 0 < b) : evInt .rem .u64 (a : Int) (b : Int) = some (.i .u64 ((a % b : Nat) : Int)) := by
  have h0 : ¬ ((b : Int) = 0) := by omega
  have e : evInt .rem .u64 (a : Int) (b : Int) = some (.i .u64 ((a : Int).tmod (b : Int))) := by
    simp only [evInt, Op.intDiv, if_neg h0]
    rfl
  rw [e, ← Int.ofNat_tmod]
theorem quo_c (a : Nat) (ha : a < 18446744073709551616) : evInt .quo .u64 (a : Int) 2684354560 = some (.i .u64 ((a / 2684354560 : Nat) : Int)) := by
  have := quo_u64 a 2684354560 (by omega) ha
  simpa using this
theorem quo_10 (a : Nat) (ha : a < 18446744073709551616) : evInt .quo .u64 (a : Int) 10 = some (.i .u64 ((a / 10 : Nat) : Int)) := by
  have := quo_u64 a 10 (by omega) ha
  simpa using this
theorem rem_10 (a : Nat) : evInt .rem .u64 (a : Int) 10 = some (.i .u64 ((a % 10 : Nat) : Int)) := by
  have := rem_u64 a 10 (by omega)
  simpa using this
theorem shr_c60 (a : Nat) : evShift .shr .u64 (a : Int) .u64 60 = some (.i .u64 ((a / 2 ^ 60 : Nat) : Int)) := by
  have := shr_u64 a 60 (by omega)
  simpa using this
theorem shr_c4 (a : Nat) : evShift .shr .u64 (a : Int) .u64 4 = some (.i .u64 ((a / 16 : Nat) : Int)) := by
  have := shr_u64 a 4 (by omega)
  simpa using this
theorem shl_60 (a : Nat) : evShift .shl .u64 (a : Int) .u64 60 = some (.i .u64 ((a * 1152921504606846976 % 18446744073709551616 : Nat) : Int)) := by
  have e : evShift .shl .u64 (a : Int) .u64 60 = some (.i .u64 (IntKind.u64.wrap ((a : Int) * 1152921504606846976))) := rfl
  rw [e, show ((a : Int) * 1152921504606846976) = ((a * 1152921504606846976 : Nat) : Int) from by rw [Int.natCast_mul]; rfl, Mul64.wrapM]
theorem or_60 (a b : Nat) (ha : a < 16) (hb : b < 1152921504606846976) : evInt .or .u64 ((a * 1152921504606846976 : Nat) : Int) (b : Int) = some (.i .u64 ((a * 1152921504606846976 + b : Nat) : Int)) := by
  have e : evInt .or .u64 ((a * 1152921504606846976 : Nat) : Int) (b : Int) = some (.i .u64 (bits .or .u64 ((a * 1152921504606846976 : Nat) : Int) (b : Int))) := rfl
  rw [e, bits_or_u64_nat _ _ (by omega) (by omega)]
  have := Nat.two_pow_add_eq_or_of_lt (i := 60) (b := b) (by omega) a
  rw [show a * 1152921504606846976 = 2 ^ 60 * a from by omega, ← this]
theorem head_div2 {call : CallF} (hC : call.Sound Tryz.prog TT) {t : Tm} {H : Heap} (q1 : Nat) (h1 : q1 < 4294967296) (hw : t.wid = 135) (t2 : t.get 2 = .i .u64 11529215046068469760) (t8 : t.get 8 = .i .u64 60) (t9 : t.get 9 = .i .u64 2684354560) (t10 : t.get 10 = .i .u64 0)
    (un0 q0 rh0 un21 : Nat) (e3 : un0 = 0) (e4 : un21 < 11529215046068469760) (e5 : q0 = un21 / 2684354560) (e6 : rh0 = un21 % 2684354560) (t14 : t.get 14 = .i .u64 (un0 : Nat)) (t15 : t.get 15 = .i .u64 (q1 : Nat)) (t17 : t.get 17 = .i .u64 (un21 : Nat)) (t18 : t.get 18 = .i .u64 (q0 : Nat)) (t16 : t.get 16 = .i .u64 (rh0 : Nat)) :
    ctx Tryz.prog TT [true, true, true, true, true, true, true, true, true, true, true, true, true, true, true, true, true, true, false, false, false] (bodyOf Tryz.f112) (EndsX TT Tryz.f112 (isR (.val (.tup [.i .u64 ((q1 * 4294967296 + un21 / 2684354560 : Nat) : Int), .i .u64 ((un21 % 2684354560 / 268435456 : Nat) : Int)])))) (.norm t H) := by
  refine LTri.symIn (p := [true, true, true, true, true, true, true, true, true, true, true, true, true, true, true, true, true, true, false, false]) TT_ok hC rfl tr_div3 (by kernel_rfl) [.ui (un0 : Nat), .ui (q1 : Nat), .ui (un21 : Nat), .ui (q0 : Nat), .ui (rh0 : Nat), .uh H] rfl hw ⟨t2, t8, t9, t10, t14, t15, t17, t18, t16, trivial⟩ rfl (WF_opq _ _) ?_
  clear t2 t8 t9 t10 t14 t15 t16 t17 t18 hw
  subst e3 e5 e6
  simp -implicitDefEqProofs only [VC, isR, exU, Ask.den, forall_eq, E.den, O1.den, O2.den, O3.den, U.int_ui, U.boo_ub, U.val_uv, U.lst_ul, U.str_us, U.nat_un, U.heap_uh, SH.den, setsD, newD, bD, SB.den, factsTo, LQ, List.cons_append, List.nil_append, List.getElem?_cons_zero, List.getElem?_cons_succ, Option.getD_some, ltB_true, ltB_false, leB_true, leB_false, beq_iff_eq, bne_iff_ne, beq_eq_false_iff_ne, Int.toNat_natCast, IntKind.wrap_u64, dv_1, dv_2 q1 un21 h1 e4, dv_9]
  have h5 := dv_12 un21 e4
  refine ⟨fun h => absurd h (by omega), fun _ => ⟨fun h => h.elim, fun _ => ?_⟩⟩
  simp only [shr_c60, dv_8, intOf_i, kindOf_i, decide_true, true_and]
theorem head_div1 {call : CallF} (hC : call.Sound Tryz.prog TT) {t : Tm} {H : Heap} (un32 un1 un0 q1 rh : Nat) (h0 : un32 < 11529215046068469760) (e1 : q1 = un32 / 2684354560) (e2 : rh = un32 % 2684354560) (h3 : un1 < 4294967296) (e3 : un0 = 0) (un21 Q Rm : Nat) (hu : un21 = un32 % 2684354560 * 4294967296 + un1) (hQ : Q = un32 / 2684354560 * 4294967296 + un21 / 2684354560) (hR : Rm = un21 % 2684354560 / 268435456) (hw : t.wid = 135) (t2 : t.get 2 = .i .u64 11529215046068469760) (t8 : t.get 8 = .i .u64 60) (t9 : t.get 9 = .i .u64 2684354560) (t10 : t.get 10 = .i .u64 0)
    (t11 : t.get 11 = .i .u64 (un32 : Nat)) (t13 : t.get 13 = .i .u64 (un1 : Nat)) (t14 : t.get 14 = .i .u64 (un0 : Nat)) (t15 : t.get 15 = .i .u64 (q1 : Nat)) (t16 : t.get 16 = .i .u64 (rh : Nat)) :
    ctx Tryz.prog TT [true, true, true, true, true, true, true, true, true, true, true, true, true, true, false, false, false] (bodyOf Tryz.f112) (EndsX TT Tryz.f112 (isR (.val (.tup [.i .u64 (Q : Int), .i .u64 (Rm : Int)])))) (.norm t H) := by
  refine LTri.symIn (p := [true, true, true, true, true, true, true, true, true, true, true, true, true, true, false, false]) TT_ok hC rfl tr_div2 (by kernel_rfl) [.ui (un32 : Nat), .ui (un1 : Nat), .ui (un0 : Nat), .ui (q1 : Nat), .ui (rh : Nat), .uh H] rfl hw ⟨t2, t8, t9, t10, t11, t13, t14, t15, t16, trivial⟩ rfl (WF_opq _ _) ?_
  clear t2 t8 t9 t10 t11 t13 t14 t15 t16 hw
  subst e1 e2 e3 hQ hR
  simp -implicitDefEqProofs only [VC, isR, exU, Ask.den, forall_eq, E.den, O1.den, O2.den, O3.den, U.int_ui, U.boo_ub, U.val_uv, U.lst_ul, U.str_us, U.nat_un, U.heap_uh, SH.den, setsD, newD, bD, SB.den, factsTo, LQ, List.cons_append, List.nil_append, List.getElem?_cons_zero, List.getElem?_cons_succ, Option.getD_some, ltB_true, ltB_false, leB_true, leB_false, beq_iff_eq, bne_iff_ne, beq_eq_false_iff_ne, Int.toNat_natCast, IntKind.wrap_u64, dv_14 un32 un1 un21 h0 h3 hu, dv_10]
  have h5 := dv_12 un32 h0
  obtain ⟨h6, h8⟩ := dv_15 un32 un1 un21 h3 hu
  clear hu
  refine ⟨fun h => absurd h (by omega), fun _ => ⟨fun h => h.elim, fun _ => ?_⟩⟩
  simp only [quo_c un21 h8, intOf_i, kindOf_i, decide_true, true_and]
  intro t' hw' f2 f8 f9 f10 f14 f15 f17 f18 f16
  refine Tri.symLoop rfl (head_div2 hC (un32 / 2684354560) h5 hw' f2 f8 f9 f10 0 (un21 / 2684354560) (un21 % 2684354560) un21 rfl h6 rfl rfl f14 f15 f17 f18 (f16.trans ?_))
  congr 1
  rcases dv_5 un21 with h | h
  · exact h
  · omega
theorem body_2112 {call : CallF} (hC : call.Sound Tryz.prog TT) (hlz : ∀ H, call 121 [.i .u64 10] H = .val (.i .i64 60) H) (hi lo : Nat) (h1 : hi < 10) (h2 : lo < 18446744073709551616) : XBody Tryz.prog TT 112 [.i .u64 hi, .i .u64 lo, .i .u64 10] [] (isR (.val (.tup [.i .u64 (((hi * 18446744073709551616 + lo) / 10 : Nat) : Int), .i .u64 (((hi * 18446744073709551616 + lo) % 10 : Nat) : Int)]))) := by
  refine XBody.sym TT_ok hC (fn := Tryz.f112) rfl rfl (by simp [Tryz.f112]) tr_div1 (by kernel_rfl) [.ui hi, .ui lo, .uh []] rfl ⟨by rw [get_init]; rfl, by rw [get_init]; rfl, by rw [get_init]; rfl, trivial⟩ rfl (WF_opq _ _) ?_
  simp -implicitDefEqProofs only [VC, isR, exU, Ask.den, forall_eq, E.den, O1.den, O2.den, O3.den, U.int_ui, U.boo_ub, U.val_uv, U.lst_ul, U.str_us, U.nat_un, U.heap_uh, SH.den, setsD, newD, bD, SB.den, factsTo, LQ, List.cons_append, List.nil_append, List.getElem?_cons_zero, List.getElem?_cons_succ, Option.getD_some, ltB_true, ltB_false, leB_true, leB_false, beq_iff_eq, bne_iff_ne, beq_eq_false_iff_ne, Int.toNat_natCast]
  rw [quo_10 lo h2, rem_10 lo]
  simp only [intOf_i, kindOf_i, decide_true, true_and]
  refine ⟨fun h => absurd h (by omega), fun _ => ⟨fun h => ?_, fun h => ?_⟩⟩
  · have : hi = 0 := by omega
    subst this
    simp only [Nat.zero_mul, Nat.zero_add]
  · refine .inl ⟨fun K => hlz K, ?_⟩
    have k1 : hi * 1152921504606846976 % 18446744073709551616 = hi * 1152921504606846976 := by omega
    have k2 : lo * 1152921504606846976 % 18446744073709551616 < 18446744073709551616 := Nat.mod_lt _ (by omega)
    have k3 := dv_11 lo h2
    have h5 := dv_13 hi lo h1 h2
    have h6 := dv_6 hi lo h1 h2
    have h7 := dv_7 hi lo h1 h2
    have k4 := or_60 hi (lo / 16) (by omega) (by omega)
    simp only [shl_60, shr_c4, k1, intOf_i, k4, shr_32, and_mask _ k2]
    have h8 : hi * 1152921504606846976 + lo / 16 < 18446744073709551616 := Nat.lt_trans h5 (by omega)
    simp only [quo_c _ h8, intOf_i, kindOf_i, decide_true, true_and]
    intro t' hw' f2 f8 f9 f10 f11 f13 f14 f15 f16
    refine Tri.symLoop rfl (head_div1 hC (hi * 1152921504606846976 + lo / 16) (lo * 1152921504606846976 % 18446744073709551616 / 4294967296) (lo * 1152921504606846976 % 18446744073709551616 % 4294967296) ((hi * 1152921504606846976 + lo / 16) / 2684354560) ((hi * 1152921504606846976 + lo / 16) % 2684354560) h5 rfl rfl k3.2 k3.1 _ _ _ rfl h6.symm h7.symm hw' f2 f8 f9 f10 f11 f13 f14 f15 (f16.trans ?_))
    congr 1
    rw [IntKind.wrap_u64, IntKind.wrap_u64]
    rcases dv_5 (hi * 1152921504606846976 + lo / 16) with h | h
    · exact h
    · exact absurd h8 (Nat.not_lt.2 h)
theorem tab2121 : evFun TT (gamOf Con.none) 3000 121 [.i .u64 10] [] = .val (.i .i64 60) [] := by kernel_rfl
theorem sp2121 : ∃ g, SpecOK Tryz.prog TT 121 g ∧ ∀ H, g [.i .u64 10] H = .val (.i .i64 60) H := by
  obtain ⟨g, k, s⟩ := spec_con TT_ok TT_plain 121 (fun vs => vs = [.i .u64 10]) (fun _ => .val (.i .i64 60)) (by
    rintro vs rfl
    exact ⟨rfl, rfl, 3000, [], tab2121⟩)
  exact ⟨g, k, fun H => s _ rfl H⟩
def divV (hi lo : Nat) : V := .tup [.i .u64 (((hi * 18446744073709551616 + lo) / 10 : Nat) : Int), .i .u64 (((hi * 18446744073709551616 + lo) % 10 : Nat) : Int)]
theorem sp2112 : ∃ g, SpecOK Tryz.prog TT 112 g ∧ ∀ p : Nat × Nat, p.1 < 10 ∧ p.2 < 18446744073709551616 → ∀ H, g [.i .u64 p.1, .i .u64 p.2, .i .u64 10] H = (Res.val (divV p.1 p.2)).at H := by
  obtain ⟨g1, k1, s1⟩ := sp2121
  refine spec_fn TT_ok TT_plain 112 (fun p : Nat × Nat => [.i .u64 p.1, .i .u64 p.2, .i .u64 10]) _ (fun p => .val (divV p.1 p.2)) (fun _ _ => ⟨rfl, rfl⟩)
    (fun a b _ _ h => by
      simp only [List.cons.injEq, V.i.injEq, true_and, and_true, Int.ofNat_inj] at h
      rw [h.1, h.2]) fun p hp => ?_
  exact body_2112 (ws n0 k1) (fun H => by rw [w_here]; exact s1 H) p.1 p.2 hp.1 hp.2
end Go.Ev
