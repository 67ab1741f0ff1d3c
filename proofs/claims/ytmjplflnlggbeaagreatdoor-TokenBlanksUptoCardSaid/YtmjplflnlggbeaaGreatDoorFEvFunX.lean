/- Regions on terms, in order and drawn. Code on terms. Whole functions and loops on terms. Triples for loops over functions, facts of functions on heaps, regions that draw their order and turn the heap. Deferred calls: a function that is left by a return or by a panic. Functions that are handed to an iterator, as facts. A range over a map that nobody writes, whatever its order. Lemmas. -/
import Derived.Test.YtmjplflnlggbeaaGreatDoorFSy5
import Derived.Test.YtmjplflnlggbeaaGreatDoorFEvWP
import Derived.Test.YtmjplflnlggbeaaGreatDoorFSy3
import Derived.Test.YtmjplflnlggbeaaGreatDoorFEvIter5
import Derived.Laws.IdiomRangeMap
import Derived.LoopN
namespace Go.Ev
open Go Go.Proofs
set_option linter.unusedSimpArgs false
set_option linter.unusedVariables false
set_option linter.unnecessarySimpa false
set_option maxRecDepth 100000
open Go
section
variable {T : Tab} {call : CallF} {w : Nat} {L : LO → List U → Tm → Heap → Prop} {R : OR → Prop} {σ : List U} {H : Heap} {t : Tm} {st : St}
noncomputable def E.size (e : E) : Nat := E.rec (fun _ => 0) (fun _ => 0) (fun _ => 0) (fun _ => 0) (fun _ => 0) (fun _ => 0) 0 (fun _ _ r => r + 1) (fun _ _ _ r q => r + q + 1) (fun _ _ _ _ r q p => r + q + p + 1) e
noncomputable def putT (w : Nat) (d : Option Tmp) (e : E) (st : St) (k : St → Tree) : Tree := match d with
 | none => k st
 | some d => bif Nat.blt d w then (fE e fun e => bif e.scop st.nv then (match st with | ⟨tm, h, nv, kn⟩ => (match e with
  | .f1 (.vi j) a => bif Nat.blt 7 a.size then .leti a (fN (nv + 1) fun m => k ⟨(d, .f1 (.vi j) (.va nv)) :: tm, h, m, kn⟩) else k ⟨(d, .f1 (.vi j) a) :: tm, h, nv, kn⟩
  | .f1 .vs a => bif Nat.blt 7 a.size then .lets a (fN (nv + 1) fun m => k ⟨(d, .f1 .vs (.va nv)) :: tm, h, m, kn⟩) else k ⟨(d, .f1 .vs a) :: tm, h, nv, kn⟩
  | e => k ⟨(d, e) :: tm, h, nv, kn⟩)) else .stuck 3) else .stuck 4
theorem Holds.set (hh : Holds w σ st t H) {d : Nat} {e : E} {v : V} (hs : e.scop st.nv = true) (hv : v = (e.den σ).val) : Holds w σ ⟨(d, e) :: st.tm, st.h, st.nv, st.kn⟩ (t.put (some d) v) H := by
 subst hv;refine ⟨by rw [Tm.wid_put]; exact hh.wid, ?_, hh.heap, hh.wf, hh.nv, hh.kn, ?_, hh.sh, hh.sk⟩
 ·intro k' e' he;rw [get_put];rcases getE_cons he with ⟨h1, h2⟩ | ⟨h1, h2⟩
  ·rw [if_pos h1.symm, h2]
  ·rw [if_neg (fun e => h1 e.symm)];exact hh.tm k' e' h2
 ·intro p hp;rcases List.mem_cons.1 hp with rfl | hp
  ·exact hs
  ·exact hh.sc p hp
theorem putT_ok {d : Option Tmp} {e : E} {k : St → Tree} (hv : VC T call w L R σ (putT w d e st k)) (hh : Holds w σ st t H) : t.fits d = true ∧ ∃ σ' st', Holds w σ' st' (t.put d (e.den σ).val) H ∧ VC T call w L R σ' (k st') ∧ σ <+: σ' := by
 cases d with
 | none => exact ⟨rfl, σ, st, hh, hv, List.prefix_refl _⟩
 | some d =>
  unfold putT at hv;cases hd : Nat.blt d w
  ·simp only [hd] at hv; exact hv.elim
  ·simp only [hd, cond_true, fE_eq] at hv;refine ⟨by rw [fits_some, hh.wid, hd], ?_⟩;cases hs : e.scop st.nv
   ·rw [hs] at hv; exact hv.elim
   ·rw [hs] at hv;simp only [cond_true] at hv;have plain : ∀ e', e' = e → VC T call w L R σ (k ⟨(d, e') :: st.tm, st.h, st.nv, st.kn⟩) → ∃ σ' st', Holds w σ' st' (t.put (some d) (e.den σ).val) H ∧ VC T call w L R σ' (k st') ∧ σ <+: σ' := by
     rintro e' rfl hv;exact ⟨σ, _, hh.set hs rfl, hv, List.prefix_refl _⟩
    have more : ∀ (u : U) (e' : E), VC T call w L R (σ ++ [u]) (k ⟨(d, e') :: st.tm, st.h, st.nv + 1, st.kn⟩) → e'.scop (st.nv + 1) = true → (e.den σ).val = (e'.den (σ ++ [u])).val → ∃ σ' st', Holds w σ' st' (t.put (some d) (e.den σ).val) H ∧ VC T call w L R σ' (k st') ∧ σ <+: σ' := fun u e' hv hs' he =>
     ⟨σ ++ [u], _, (hh.more [u]).set hs' he, hv, List.prefix_append ..⟩
    split at hv
    ·rename_i j a;simp only [fN_eq] at hv;cases hb : Nat.blt 7 a.size
     ·rw [hb] at hv; exact plain _ rfl hv
     ·rw [hb] at hv;refine more (.ui (a.den σ).int) (.f1 (.vi j) (.va st.nv)) (hv _ rfl) (by simp [E.scop]) ?_;simp [← hh.nv]
    ·rename_i a;simp only [fN_eq] at hv;cases hb : Nat.blt 7 a.size
     ·rw [hb] at hv; exact plain _ rfl hv
     ·rw [hb] at hv;refine more (.us (a.den σ).str) (.f1 .vs (.va st.nv)) (hv _ rfl) (by simp [E.scop]) ?_;simp [← hh.nv]
    ·exact plain _ rfl hv
noncomputable def wantT (ops : Array Oper) (o : Oper) (st : St) (k : St → Bool → Tree) : Tree := match o.guard with
 | none => k st true
 | some (j, want) => match (ops[j]?).bind (·.dst) with
  | none => k st false
  | some d => match getE st.tm d with
   | some (.f1 .vb c) => decT st c fun st y => k st (y == want)
   | some (.cv (.tup [])) => k st false
   | _ => .stuck 2
theorem wantT_ok {ops : Array Oper} {o : Oper} {k : St → Bool → Tree} (hv : VC T call w L R σ (wantT ops o st k)) (hh : Holds w σ st t H) : ∃ st' b, wants ops o t.get = some b ∧ Same st st' ∧ Holds w σ st' t H ∧ VC T call w L R σ (k st' b) := by
 unfold wantT at hv;unfold wants;split at hv
 ·rename_i hg;exact ⟨st, true, by rw [hg], ⟨rfl, rfl, rfl⟩, hh, hv⟩
 ·rename_i j want hg;rw [hg];simp only;split at hv
  ·rename_i hd;rw [hd];exact ⟨st, false, rfl, ⟨rfl, rfl, rfl⟩, hh, hv⟩
  ·rename_i d hd;rw [hd];simp only;split at hv
   ·rename_i c hc;rw [hh.tm _ _ hc];obtain ⟨st', h1, h2, h3⟩ := decT_ok hv hh;exact ⟨st', _, rfl, h1, h2, h3⟩
   ·rename_i hc;rw [hh.tm _ _ hc];exact ⟨st, false, rfl, ⟨rfl, rfl, rfl⟩, hh, hv⟩
   ·exact hv.elim
/-! A region in its order. -/
noncomputable def seqT (T : Tab) (sh : Nat → Option Shape) (w : Nat) (ops : Array Oper) (kp : St → E → Tree) : List Oper → St → (St → Tree) → Tree
  | [], st, k => k st
  | o :: r, st, k => wantT ops o st fun st on => bif on then
      (match st with | ⟨tm, h, nv, kn⟩ => resT T sh (fun st e => putT w o.dst e st fun st => seqT T sh w ops kp r st k) (fun st e => putT w o.dst e st fun st => seqT T sh w ops kp r st k) kp (symOp T o.op tm h) ⟨tm, h, nv, kn⟩)
    else putT w o.dst (.cv .un) st fun st => seqT T sh w ops kp r st k
def SeqG (T : Tab) (call : CallF) (w : Nat) (L : LO → List U → Tm → Heap → Prop) (R : OR → Prop) (k : St → Tree) (kp : St → E → Tree) : Out → Prop
 | .norm t H => ∃ σ st, Holds w σ st t H ∧ VC T call w L R σ (k st)
 | .pan v t H => ∃ σ st e, Holds w σ st t H ∧ v = (e.den σ).val ∧ VC T call w L R σ (kp st e)
 | _ => False
theorem Holds.sees (hh : Holds w σ st t H) : Sees σ st.tm t.get := hh.tm
theorem symOp_at (hh : Holds w σ st t H) (o : Oper) : SRes.Ok T call σ H (symOp T o.op st.tm st.h) (evOp T call o t.get H) := by
 rw [hh.heap];exact symOp_ok hh.sees hh.wf o
theorem seqT_ok {sh : Nat → Option Shape} {ops : Array Oper} {kp : St → E → Tree} {k : St → Tree} : ∀ (l : List Oper) (σ : List U) (st : St) (t : Tm) (H : Heap), VC T call w L R σ (seqT T sh w ops kp l st k) → Holds w σ st t H → SeqG T call w L R k kp (evSeq (evOp T call) ops l t H)
 | [], σ, st, t, H, hv, hh => ⟨σ, st, hh, hv⟩
 | o :: r, σ, st, t, H, hv, hh => by
  simp only [seqT] at hv;obtain ⟨st1, b, hw, _, hh1, hv⟩ := wantT_ok hv hh;simp only [evSeq, hw];cases b with
  | false =>
   simp only [cond_false] at hv;obtain ⟨hf, σ2, st2, hh2, hv, hp2⟩ := putT_ok hv hh1;simp only [putK_eq, hf, if_true];exact seqT_ok r σ2 st2 _ H hv hh2
  | true =>
   simp only [cond_true] at hv;rcases resT_ok _ _ _ hv hh1 (symOp_at hh1 o) with ⟨σ', st', e, hs', hh', hv', hx⟩ | ⟨σ', st', e, H', hs', hh', hv', hx⟩ | ⟨σ', st', e, H', hs', hh', hv', hx⟩
   ·obtain ⟨hf, σ2, st2, hh2, hv2, hp2⟩ := putT_ok hv' hh';simp only [hx, opened_eq, putK_eq, hf, if_true];exact seqT_ok r σ2 st2 _ H hv2 hh2
   ·obtain ⟨hf, σ2, st2, hh2, hv2, hp2⟩ := putT_ok hv' hh';simp only [hx, opened_eq, putK_eq, hf, if_true];exact seqT_ok r σ2 st2 _ H' hv2 hh2
   ·simp only [hx];exact ⟨σ', st', e, hh', rfl, hv'⟩
/-! A region that draws its order and turns nothing; an operation in it may panic. -/
def dsts (ops : Array Oper) : List Nat := ops.toList.filterMap (·.dst)
noncomputable def offT (ms : List Nat) (w : Nat) (ops : Array Oper) (T : Tab) (sh : Nat → Option Shape) (q : Nat) : Nat → List Oper → St → (St → Tree) → Tree
 | _, [], st, k => k st
 | i, o :: r, st, k => bif (ms.getD i 0).testBit q then putT w o.dst (.cv .un) st fun st => offT ms w ops T sh q (i + 1) r st k else
  wantT ops o st fun st on => bif on then
   (match st with | ⟨tm, h, nv, kn⟩ => resT T sh (fun st e => putT w o.dst e st fun st => offT ms w ops T sh q (i + 1) r st k) (fun _ _ => .stuck 10) (fun _ _ => .stuck 11) (symOp T o.op tm h) ⟨tm, h, nv, kn⟩)
  else putT w o.dst (.cv .un) st fun st => offT ms w ops T sh q (i + 1) r st k
def offFl (ms : List Nat) (q : Nat) : Nat → List Oper → List Bool
 | _, [] => []
 | i, _ :: r => (ms.getD i 0).testBit q :: offFl ms q (i + 1) r
theorem offT_ok {ms : List Nat} {sh : Nat → Option Shape} {ops : Array Oper} {q : Nat} {v : V} {J : Heap} {k : St → Tree} : ∀ (l : List Oper) (i : Nat) (σ : List U) (st : St) (t : Tm) (H : Heap), q < i → VC T call w L R σ (offT ms w ops T sh q i l st k) → Holds w σ st t H →
    QP (evOp T call) ops H q v J i l (offFl ms q i l) t ∧ ∃ σ' st' t', Holds w σ' st' t' H ∧ VC T call w L R σ' (k st') ∧ σ <+: σ'
  | [], i, σ, st, t, H, hq, hv, hh => ⟨.nil, σ, st, t, hh, hv, List.prefix_refl _⟩
  | o :: r, i, σ, st, t, H, hq, hv, hh => by
    have hne : (i == q) = false := by simp; omega
    simp only [offT] at hv
    simp only [offFl]
    cases hb : (ms.getD i 0).testBit q with
    | true =>
      simp only [hb, cond_true] at hv
      obtain ⟨hf, σ2, st2, hh2, hv2, hp2⟩ := putT_ok hv hh
      obtain ⟨h1, σ', st', t', h2, h3, h4⟩ := offT_ok (v := v) (J := J) r (i + 1) σ2 st2 _ H (by omega) hv2 hh2
      exact ⟨.skip hne hf h1, σ', st', t', h2, h3, hp2.trans h4⟩
    | false =>
      simp only [hb, cond_false] at hv
      obtain ⟨st1, b, hw, _, hh1, hv⟩ := wantT_ok hv hh
      cases b with
      | false =>
        simp only [cond_false] at hv
        obtain ⟨hf, σ2, st2, hh2, hv2, hp2⟩ := putT_ok hv hh1
        obtain ⟨h1, σ', st', t', h2, h3, h4⟩ := offT_ok (v := v) (J := J) r (i + 1) σ2 st2 _ H (by omega) hv2 hh2
        exact ⟨.off hw hf h1, σ', st', t', h2, h3, hp2.trans h4⟩
      | true =>
        simp only [cond_true] at hv
        rcases resT_ok _ _ _ hv hh1 (symOp_at hh1 o) with ⟨σ', st', e, hs', hh', hv', hx⟩ | ⟨σ', st', e, H', hs', hh', hv', hx⟩ | ⟨σ', st', e, H', hs', hh', hv', hx⟩
        · obtain ⟨hf, σ2, st2, hh2, hv2, hp2⟩ := putT_ok hv' hh'
          obtain ⟨h1, σ3, st', t', h2, h3, h4⟩ := offT_ok (v := v) (J := J) r (i + 1) σ2 st2 _ H (by omega) hv2 hh2
          exact ⟨.val hw rfl hx hf h1, σ3, st', t', h2, h3, (hs'.trans hp2).trans h4⟩
        · exact hv'.elim
        · exact hv'.elim
theorem Holds.mix {σ' : List U} {st' : St} {t' : Tm} {H' : Heap} (hh : Holds w σ st t H) (hh' : Holds w σ' st' t' H') (hp : σ <+: σ') : Holds w σ' ⟨st.tm, st.h, st'.nv, st'.kn⟩ t H := by
 obtain ⟨τ, rfl⟩ := hp;have k := hh.more τ;have e : st.nv + τ.length = st'.nv := by rw [← hh'.nv, ← hh.nv, List.length_append]
 exact ⟨k.wid, k.tm, k.heap, k.wf, hh'.nv, hh'.kn, by rw [← e]; exact k.sc, by rw [← e]; exact k.sh, hh'.sk⟩
noncomputable def dropTm (ds : List Nat) (l : List (Nat × E)) : List (Nat × E) := l.filter fun p => !(ds.contains p.1)
theorem getE_drop {ds : List Nat} {k : Nat} {e : E} : ∀ {l : List (Nat × E)}, getE (dropTm ds l) k = some e → k ∉ ds ∧ getE l k = some e
 | [], h => by cases h
 | p :: r, h => by
  unfold dropTm at h;rw [List.filter_cons] at h;cases hc : ds.contains p.1 with
  | true =>
   rw [hc] at h;obtain ⟨h1, h2⟩ := getE_drop (l := r) h;refine ⟨h1, ?_⟩;show (bif Nat.beq p.1 k then some p.2 else getE r k) = _;have : Nat.beq p.1 k = false := by
    cases hb : Nat.beq p.1 k with
    | false => rfl
    | true =>
     have := Nat.eq_of_beq_eq_true hb;subst this;exact absurd (by simpa using hc) h1
   rw [this]; exact h2
  | false =>
   rw [hc] at h;have h : (bif Nat.beq p.1 k then some p.2 else getE (dropTm ds r) k) = some e := h;show k ∉ ds ∧ (bif Nat.beq p.1 k then some p.2 else getE r k) = _;cases hb : Nat.beq p.1 k with
   | true =>
    rw [hb] at h;have := Nat.eq_of_beq_eq_true hb;subst this;exact ⟨by simpa using hc, h⟩
   | false =>
    rw [hb] at h;exact getE_drop h
theorem forget_wid : ∀ (l : List Nat) (t : Tm), (Ev.forget t l).wid = t.wid
 | [], _ => rfl
 | d :: l, t => by simp only [Ev.forget]; rw [forget_wid l, Tm.wid_put]
theorem Holds.forget (hh : Holds w σ st t H) (ds : List Nat) : Holds w σ ⟨dropTm ds st.tm, st.h, st.nv, st.kn⟩ (forget t ds) H where
  wid := (forget_wid ds t).trans hh.wid
  tm k e he := by
    obtain ⟨h1, h2⟩ := getE_drop he
    rw [forget_get, if_neg h1]
    exact hh.tm k e h2
  heap := hh.heap
  wf := hh.wf
  nv := hh.nv
  kn := hh.kn
  sc p hp := hh.sc p (List.mem_filter.1 hp).1
  sh := hh.sh
  sk := hh.sk
noncomputable def quiT (ms : List Nat) (w : Nat) (ops : Array Oper) (T : Tab) (sh : Nat → Option Shape) (tm0 : List (Nat × E)) (kp : St → E → Tree) : Nat → List Oper → St → (St → Tree) → Tree
  | _, [], st, k => k st
  | i, o :: r, st, k => wantT ops o st fun st on => bif on then
      (match st with | ⟨tm, h, nv, kn⟩ => resT T sh (fun st e => putT w o.dst e st fun st => quiT ms w ops T sh tm0 kp (i + 1) r st k) (fun _ _ => .stuck 12)  (fun st' e => (match st' with | ⟨_, h', nv', kn'⟩ => cond (bif e.scop nv' then chkP ms i (List.replicate i false ++ true :: offFl ms i (i + 1) r) else false)  (putT w o.dst (.cv .un) ⟨tm, h, nv', kn'⟩ fun st => offT ms w ops T sh i (i + 1) r st fun st2 => (match st2 with | ⟨_, _, nv2, kn2⟩ => kp ⟨dropTm (dsts ops) tm0, h', nv2, kn2⟩ e)) (.stuck 14)))  (symOp T o.op tm h) ⟨tm, h, nv, kn⟩)
    else putT w o.dst (.cv .un) st fun st => quiT ms w ops T sh tm0 kp (i + 1) r st k
theorem quiT_ok {ms : List Nat} {sh : Nat → Option Shape} {ops : Array Oper} {kp : St → E → Tree} {k : St → Tree} {σ0 : List U} {st0 : St} {t0 : Tm} {H0 : Heap} (hh0 : Holds w σ0 st0 t0 H0) : ∀ (l : List Oper) (i : Nat) (σ : List U) (st : St) (t : Tm) (H : Heap), σ0 <+: σ → VC T call w L R σ (quiT ms w ops T sh st0.tm kp i l st k) → Holds w σ st t H →
    (∃ t' σ' st', QR (evOp T call) ops H l t t' ∧ Holds w σ' st' t' H ∧ VC T call w L R σ' (k st')) ∨
    (∃ q H' σ' st' e fl, QP (evOp T call) ops H q (e.den σ').val H' i l fl t ∧ chkP ms q (List.replicate i false ++ fl) = true ∧ Holds w σ' st' (Ev.forget t0 (dsts ops)) H' ∧ VC T call w L R σ' (kp st' e))
  | [], i, σ, st, t, H, hp, hv, hh => .inl ⟨t, σ, st, .nil, hh, hv⟩
  | o :: r, i, σ, st, t, H, hp, hv, hh => by
    simp only [quiT] at hv
    obtain ⟨st1, b, hw, _, hh1, hv⟩ := wantT_ok hv hh
    have more : ∀ fl, List.replicate (i + 1) false ++ fl = List.replicate i false ++ false :: fl := fun fl => by
      rw [List.replicate_succ', List.append_assoc]; rfl
    cases b with
    | false =>
      simp only [cond_false] at hv
      obtain ⟨hf, σ2, st2, hh2, hv2, hp2⟩ := putT_ok hv hh1
      rcases quiT_ok hh0 r (i + 1) σ2 st2 _ H (hp.trans hp2) hv2 hh2 with ⟨t', σ', st', h1, h2, h3⟩ | ⟨q, H', σ', st', e, fl, h1, h2, h3, h4⟩
      · exact .inl ⟨t', σ', st', .off hw hf h1, h2, h3⟩
      · exact .inr ⟨q, H', σ', st', e, false :: fl, .off hw hf h1, by rw [← more]; exact h2, h3, h4⟩
    | true =>
      simp only [cond_true] at hv
      rcases resT_ok _ _ _ hv hh1 (symOp_at hh1 o) with ⟨σ', st', e, hs', hh', hv', hx⟩ | ⟨σ', st', e, H', hs', hh', hv', hx⟩ | ⟨σ', st', e, H', hs', hh', hv', hx⟩
      · obtain ⟨hf, σ2, st2, hh2, hv2, hp2⟩ := putT_ok hv' hh'
        rcases quiT_ok hh0 r (i + 1) σ2 st2 _ H ((hp.trans hs').trans hp2) hv2 hh2 with ⟨t', σ3, st', h1, h2, h3⟩ | ⟨q, H', σ3, st', e, fl, h1, h2, h3, h4⟩
        · exact .inl ⟨t', σ3, st', .val hw rfl hx hf h1, h2, h3⟩
        · exact .inr ⟨q, H', σ3, st', e, false :: fl, .val hw rfl hx hf h1, by rw [← more]; exact h2, h3, h4⟩
      · exact hv'.elim
      · obtain ⟨tm', h', nv', kn'⟩ := st'
        simp only at hv'
        cases hc : (bif e.scop nv' then chkP ms i (List.replicate i false ++ true :: offFl ms i (i + 1) r) else false)
        · rw [hc] at hv'; exact hv'.elim
        · rw [hc] at hv'
          simp only [cond_true] at hv'
          have hsc : e.scop nv' = true ∧ chkP ms i (List.replicate i false ++ true :: offFl ms i (i + 1) r) = true := by
            cases h1 : e.scop nv'
            · rw [h1] at hc; cases hc
            · rw [h1] at hc; exact ⟨rfl, hc⟩
          have hm := hh1.mix hh' hs'
          obtain ⟨hf, σ3, st2, hh2, hv2, hp2⟩ := putT_ok hv' hm
          obtain ⟨h1, σ2, ⟨tm2, h2', nv2, kn2⟩, t2, h2, h3, h4⟩ := offT_ok (v := (e.den σ').val) (J := H') r (i + 1) σ3 st2 _ H (Nat.lt_succ_self _) hv2 hh2
          have h4 := hp2.trans h4
          have he : e.den σ2 = e.den σ' := by
            obtain ⟨τ, rfl⟩ := h4
            exact E.scop_den σ' τ e (by rw [hh'.nv]; exact hsc.1)
          have hf1 := (hh0.forget (dsts ops)).mix h2 ((hp.trans hs').trans h4)
          have hf2 := hh'.mix h2 h4
          refine .inr ⟨i, H', σ2, ⟨dropTm (dsts ops) st0.tm, h', nv2, kn2⟩, e, true :: offFl ms i (i + 1) r, ?_, hsc.2, ?_, h3⟩
          · rw [he]
            exact .stop (by simp) hw rfl hx hf h1
          · exact ⟨hf1.wid, hf1.tm, hf2.heap, hf2.wf, hf1.nv, hf1.kn, hf1.sc, hf2.sh, hf1.sk⟩

/-! A region that draws its order and turns the heap. -/
noncomputable def drwT (T : Tab) (sh : Nat → Option Shape) (w : Nat) (ops : Array Oper) : List Oper → List DK → St → (List DK → St → Tree) → Tree
  | [], acc, st, k => k acc st
  | o :: r, acc, st, k => wantT ops o st fun st on => bif on then
      (match st with | ⟨tm, h, nv, kn⟩ => resT T sh (fun st e => putT w o.dst e st fun st => drwT T sh w ops r (cond (looks o.op) .f .q :: acc) st k)  (fun st e => cond (isEff o.op) (putT w o.dst e st fun st => drwT T sh w ops r (.e :: acc) st k) (.stuck 15)) (fun _ _ => .stuck 16) (symOp T o.op tm h) ⟨tm, h, nv, kn⟩)
    else putT w o.dst (.cv .un) st fun st => drwT T sh w ops r (.q :: acc) st k
theorem drwT_ok {sh : Nat → Option Shape} {ops : Array Oper} {k : List DK → St → Tree} : ∀ (l : List Oper) (acc : List DK) (σ : List U) (st : St) (t : Tm) (H : Heap), VC T call w L R σ (drwT T sh w ops l acc st k) → Holds w σ st t H →
    ∃ ks t' H' σ' st', DR (evOp T call) ops (fun _ => True) l ks t H t' H' ∧ Holds w σ' st' t' H' ∧ VC T call w L R σ' (k (ks.reverse ++ acc) st')
  | [], acc, σ, st, t, H, hv, hh => ⟨[], t, H, σ, st, .nil, hh, hv⟩
  | o :: r, acc, σ, st, t, H, hv, hh => by
    simp only [drwT] at hv
    obtain ⟨st1, b, hw, _, hh1, hv⟩ := wantT_ok hv hh
    cases b with
    | false =>
      simp only [cond_false] at hv
      obtain ⟨hf, σ2, st2, hh2, hv2, hp2⟩ := putT_ok hv hh1
      obtain ⟨ks, t', H', σ', st', h1, h2, h3⟩ := drwT_ok r (.q :: acc) σ2 st2 _ H hv2 hh2
      exact ⟨.q :: ks, t', H', σ', st', .off hw hf h1, h2, by simpa using h3⟩
    | true =>
      simp only [cond_true] at hv
      rcases resT_ok _ _ _ hv hh1 (symOp_at hh1 o) with ⟨σ', st', e, hs', hh', hv', hx⟩ | ⟨σ', st', e, H', hs', hh', hv', hx⟩ | ⟨σ', st', e, H', hs', hh', hv', hx⟩
      · obtain ⟨hf, σ2, st2, hh2, hv2, hp2⟩ := putT_ok hv' hh'
        obtain ⟨ks, t', H', σ2, st', h1, h2, h3⟩ := drwT_ok r _ σ2 st2 _ H hv2 hh2
        cases hl : looks o.op with
        | true =>
          rw [hl] at h3
          exact ⟨.f :: ks, t', H', σ2, st', .fix hw rfl hx hf h1, h2, by simpa using h3⟩
        | false =>
          rw [hl] at h3
          exact ⟨.q :: ks, t', H', σ2, st', .blind hl hw rfl hx hf h1, h2, by simpa using h3⟩
      · cases he : isEff o.op with
        | false => rw [he] at hv'; exact hv'.elim
        | true =>
          rw [he] at hv'
          simp only [cond_true] at hv'
          obtain ⟨hf, σ2, st2, hh2, hv2, hp2⟩ := putT_ok hv' hh'
          obtain ⟨ks, t', H2, σ2, st', h1, h2, h3⟩ := drwT_ok r _ σ2 st2 _ H' hv2 hh2
          exact ⟨.e :: ks, t', H2, σ2, st', .eff he hw rfl hx hf trivial h1, h2, by simpa using h3⟩
      · exact hv'.elim
end
open Go
theorem sub_append : ∀ (p q : List Bool) (c : Code), sub (p ++ q) c = sub q (sub p c)
 | [], q, c => by
  have : sub [] c = c := by cases c <;> rfl
  rw [this]; rfl
 | b :: p, q, c => by
  have leaf : ∀ c : Code, (∀ b p, sub (b :: p) c = c) → sub ((b :: p) ++ q) c = sub q (sub (b :: p) c) := fun c h => by
   rw [List.cons_append, h, h];cases q with
   | nil => cases c <;> rfl
   | cons d q => rw [h]
  cases c <;> cases b <;> first
   | exact sub_append p q _
   | exact leaf _ fun b p => by cases b <;> rfl
noncomputable def ctx (P : Program) (T : Tab) : List Bool → Code → (Out → Prop) → (Out → Prop)
 | false :: p, .seq a b, Q => ctx P T p a (inSeq P T b Q)
 | true :: p, .seq _ b, Q => ctx P T p b Q
 | false :: p, .cond _ a _, Q => ctx P T p a Q
 | true :: p, .cond _ _ b, Q => ctx P T p b Q
 | _ :: p, .block id c, Q => ctx P T p c (inBlk id Q)
 | _ :: p, .loop c, Q => ctx P T p c (inLoop P T c Q)
 | _, _, Q => Q
theorem ctx_nil {P : Program} {T : Tab} (c : Code) (Q : Out → Prop) : ctx P T [] c Q = Q := by cases c <;> rfl
theorem ctx_append {P : Program} {T : Tab} : ∀ (p q : List Bool) (c : Code) (Q : Out → Prop), ctx P T (p ++ q) c Q = ctx P T q (sub p c) (ctx P T p c Q)
 | [], q, c, Q => by
  have : sub [] c = c := by cases c <;> rfl
  rw [this, ctx_nil]; rfl
 | b :: p, q, c, Q => by
  have leaf : ∀ c : Code, (∀ b p, sub (b :: p) c = c) → (∀ b p Q, ctx P T (b :: p) c Q = Q) → ctx P T ((b :: p) ++ q) c Q = ctx P T q (sub (b :: p) c) (ctx P T (b :: p) c Q) := fun c h h2 => by
   rw [List.cons_append, h2, h, h2];cases q with
   | nil => rw [ctx_nil]
   | cons d q => rw [h2]
  cases c <;> cases b <;> first
   | exact ctx_append p q _ _
   | exact leaf _ (fun b p => by cases b <;> rfl) (fun b p Q => by cases b <;> rfl)
noncomputable def fNs {α : Type} (l : List Nat) : (List Nat → α) → α := List.rec (motive := fun _ => (List Nat → α) → α) (fun k => k []) (fun n _ r k => fN n fun n => r fun l => k (n :: l)) l
theorem fNs_eq {α : Type} : ∀ (l : List Nat) (k : List Nat → α), fNs l k = k l
 | [], _ => rfl
 | n :: l, k => by
  show fN n (fun n => fNs l fun l => k (n :: l)) = _;rw [fN_eq, fNs_eq l]
noncomputable def turns (sh : Nat → Option Shape) (o : Oper) : Bool := match o.op with
 | .alloc _ => true
 | .box _ _ => true
 | .store _ _ _ => true
 | .buildSlice _ _ _ => true
 | .makeMap _ _ => true
 | .mapUpdate _ _ _ _ => true
 | .insert _ _ _ _ => true
 | .call c => match c.callee with
  | .value (.func f) => match sh f with
   | some s => (match s.kind with
    | .turns => true
    | .keeps _ => true
    | _ => false)
   | none => false
  | .builtin .append => true
  | .builtin .unsafeString => true
  | _ => false
 | _ => false
noncomputable def regT (T : Tab) (sh : Nat → Option Shape) (w : Nat) (ops : Array Oper) (d : Bool) (st : St) (kp : St → E → Tree) (k : St → Tree) : Tree :=
 bif d then (bif ops.toList.any (turns sh) then drwT T sh w ops ops.toList [] st fun acc st => fNs (masks ops.toList []) fun ms => cond (drawStat ops.toList ops ms && chkD ms acc.reverse) (k st) (.stuck 13)
  else fNs (masks ops.toList []) fun ms => cond (drawStat ops.toList ops ms) (match st with | ⟨tm, h, nv, kn⟩ => quiT ms w ops T sh tm kp 0 ops.toList ⟨tm, h, nv, kn⟩ k) (.stuck 17))
 else seqT T sh w ops kp ops.toList st k
structure Kk where
  norm : St → Tree
  exit : Nat → St → Tree
  ret : St → Tree
  pan : St → E → Tree
  stop : List Bool → St → Tree
  again : List Bool → St → Tree
noncomputable def codeT (T : Tab) (sh : Nat → Option Shape) (w : Nat) (stops : List Nat) : Code → List Bool → St → Kk → Tree
 | .skip, _, st, K => K.norm st
 | .label _, _, st, K => K.norm st
 | .region id ops d, p, st, K => bif stops.any (Nat.beq id) then K.stop p st else regT T sh w ops d st K.pan K.norm
 | .seq a b, p, st, K => codeT T sh w stops a (p ++ [false]) st { K with norm := fun st => codeT T sh w stops b (p ++ [true]) st K }
 | .cond g x y, p, st, K => (match sv st.tm g with
  | some (.f1 .vb c) => decT st c fun st b => bif b then codeT T sh w stops x (p ++ [false]) st K else codeT T sh w stops y (p ++ [true]) st K
  | _ => .stuck 18)
 | .block id c, p, st, K => codeT T sh w stops c (p ++ [false]) st { K with exit := fun j st => bif Nat.beq j id then K.norm st else K.exit j st }
 | .loop c, p, st, K => bif stops.any (Nat.beq (1000000 + p.length)) then codeT T sh w stops c (p ++ [false]) st { K with norm := fun st => K.again (p ++ [false]) st } else K.stop p st
 | .exit id, _, st, K => K.exit id st
 | .ret, _, st, K => K.ret st
 | .rangeFunc .., p, st, K => K.stop p st
 | _, _, _, _ => .stuck 19
section
variable {P : Program} {T : Tab} {call : CallF} {w : Nat} {L : LO → List U → Tm → Heap → Prop} {R : OR → Prop} {code0 : Code} {Q0 : Out → Prop}
structure KOk (P : Program) (T : Tab) (call : CallF) (w : Nat) (L : LO → List U → Tm → Heap → Prop) (R : OR → Prop) (code0 : Code) (Q0 : Out → Prop) (K : Kk) (Q : Out → Prop) : Prop where
  norm : ∀ σ st t H, Holds w σ st t H → VC T call w L R σ (K.norm st) → Q (.norm t H)
  exit : ∀ σ st t H j, Holds w σ st t H → VC T call w L R σ (K.exit j st) → Q (.exit j t H)
  ret : ∀ σ st t H, Holds w σ st t H → VC T call w L R σ (K.ret st) → Q (.ret t H)
  pan : ∀ σ st t H e, Holds w σ st t H → VC T call w L R σ (K.pan st e) → Q (.pan (e.den σ).val t H)
  stop : ∀ σ st t H p, Holds w σ st t H → VC T call w L R σ (K.stop p st) → Tri P T (sub p code0) t H (ctx P T p code0 Q0)
  again : ∀ σ st t H p, Holds w σ st t H → VC T call w L R σ (K.again p st) → ctx P T p code0 Q0 (.norm t H)
theorem regT_ok (hT : TOk P T) (hC : call.Sound P T) {sh : Nat → Option Shape} {id : Nat} {ops : Array Oper} {d : Bool} {σ : List U} {st : St} {t : Tm} {H : Heap} {K : Kk} {Q : Out → Prop} (hK : KOk P T call w L R code0 Q0 K Q)
 (hv : VC T call w L R σ (regT T sh w ops d st K.pan K.norm)) (hh : Holds w σ st t H) : Tri P T (.region id ops d) t H Q := by
 unfold regT at hv;cases d with
 | false =>
  simp only [cond_false] at hv;have := seqT_ok _ _ _ _ _ hv hh;refine Tri.reg hT hC (o := evSeq (evOp T call) ops ops.toList t H) (evReg_false ..) ?_;revert this;cases evSeq (evOp T call) ops ops.toList t H with
  | norm t' H' => rintro ⟨σ', st', h1, h2⟩; exact hK.norm σ' st' t' H' h1 h2
  | pan v t' H' => rintro ⟨σ', st', e, h1, rfl, h2⟩; exact hK.pan σ' st' t' H' e h1 h2
  | exit id t' H' => exact False.elim
  | ret t' H' => exact False.elim
  | no => exact False.elim
 | true =>
  simp only [cond_true] at hv;cases ha : ops.toList.any (turns sh) with
  | true =>
   rw [ha] at hv;simp only [cond_true] at hv;obtain ⟨ks, t', H', σ', st', h1, h2, h3⟩ := drwT_ok _ _ _ _ _ _ hv hh;rw [fNs_eq, List.append_nil, List.reverse_reverse] at h3;cases hc : drawStat ops.toList ops (masks ops.toList []) && chkD (masks ops.toList []) ks with
   | false => rw [hc] at h3; exact h3.elim
   | true =>
    rw [hc] at h3;exact Tri.regN hT hC (evReg_draw (fun _ => True) hc trivial h1 rfl) (hK.norm σ' st' t' H' h2 h3)
  | false =>
   rw [ha] at hv;simp only [cond_false, fNs_eq] at hv;cases hc : drawStat ops.toList ops (masks ops.toList []) with
   | false => rw [hc] at hv; exact hv.elim
   | true =>
    rw [hc] at hv;simp only [cond_true] at hv;rcases quiT_ok hh ops.toList 0 σ st t H (List.prefix_refl _) hv hh with ⟨t', σ', st', h1, h2, h3⟩ | ⟨q, H', σ', st', e, fl, h1, h2, h3, h4⟩
    ·exact Tri.regN hT hC (evReg_quiet hc h1 rfl) (hK.norm σ' st' t' H h2 h3)
    ·refine Tri.drawPan hT hC q _ H' fl (by rw [hc]; simpa using h2) h1 ?_;exact hK.pan σ' st' _ H' e h3 h4
theorem codeT_ok (hT : TOk P T) (hC : call.Sound P T) {sh : Nat → Option Shape} {stops : List Nat} : ∀ (c : Code) (p : List Bool) (σ : List U) (st : St) (t : Tm) (H : Heap) (K : Kk) (Q : Out → Prop), KOk P T call w L R code0 Q0 K Q → sub p code0 = c → ctx P T p code0 Q0 = Q →
    VC T call w L R σ (codeT T sh w stops c p st K) → Holds w σ st t H → Tri P T c t H Q
  | .skip, p, σ, st, t, H, K, Q, hK, h1, h2, hv, hh => Tri.skip (hK.norm _ _ _ _ hh hv)
  | .label _, p, σ, st, t, H, K, Q, hK, h1, h2, hv, hh => Tri.label (hK.norm _ _ _ _ hh hv)
  | .exit id, p, σ, st, t, H, K, Q, hK, h1, h2, hv, hh => Tri.exit (hK.exit _ _ _ _ _ hh hv)
  | .ret, p, σ, st, t, H, K, Q, hK, h1, h2, hv, hh => Tri.ret (hK.ret _ _ _ _ hh hv)
  | .region id ops d, p, σ, st, t, H, K, Q, hK, h1, h2, hv, hh => by
    simp only [codeT] at hv
    cases hs : stops.any (Nat.beq id) with
    | true =>
      rw [hs] at hv
      have := hK.stop _ _ _ _ _ hh hv
      rwa [h1, h2] at this
    | false =>
      rw [hs] at hv
      exact regT_ok hT hC hK hv hh
  | .loop c, p, σ, st, t, H, K, Q, hK, h1, h2, hv, hh => by
    simp only [codeT] at hv
    cases hs : stops.any (Nat.beq (1000000 + p.length)) with
    | false =>
      rw [hs] at hv
      have := hK.stop _ _ _ _ _ hh hv
      rwa [h1, h2] at this
    | true =>
      rw [hs] at hv
      have e1 : sub (p ++ [false]) code0 = c := by rw [sub_append, h1]; cases c <;> rfl
      have e2 : ctx P T (p ++ [false]) code0 Q0 = inLoop P T c Q := by rw [ctx_append, h1, h2]; cases c <;> rfl
      refine Tri.loop (LTri.round' (codeT_ok hT hC c (p ++ [false]) σ st t H _ _ ?_ e1 e2 hv hh))
      exact ⟨fun σ' st' t' H' k1 k2 => by have := hK.again _ _ _ _ _ k1 k2; rwa [e2] at this, hK.exit, hK.ret, hK.pan, hK.stop, hK.again⟩
  | .rangeFunc f ps a c, p, σ, st, t, H, K, Q, hK, h1, h2, hv, hh => by
    have := hK.stop _ _ _ _ _ hh hv
    rwa [h1, h2] at this
  | .scope _, p, σ, st, t, H, K, Q, hK, h1, h2, hv, hh => hv.elim
  | .goto _, p, σ, st, t, H, K, Q, hK, h1, h2, hv, hh => hv.elim
  | .refuse _, p, σ, st, t, H, K, Q, hK, h1, h2, hv, hh => hv.elim
  | .seq a b, p, σ, st, t, H, K, Q, hK, h1, h2, hv, hh => by
    simp only [codeT] at hv
    refine Tri.seq' (codeT_ok hT hC a (p ++ [false]) σ st t H _ _ ?_ (by rw [sub_append, h1]; cases a <;> rfl) (by rw [ctx_append, h1, h2]; cases a <;> rfl) hv hh)
    exact ⟨fun σ' st' t' H' k1 k2 => codeT_ok hT hC b (p ++ [true]) σ' st' t' H' K Q hK (by rw [sub_append, h1]; cases b <;> rfl) (by rw [ctx_append, h1, h2]; cases b <;> rfl) k2 k1, hK.exit, hK.ret, hK.pan, hK.stop, hK.again⟩
  | .cond g x y, p, σ, st, t, H, K, Q, hK, h1, h2, hv, hh => by
    simp only [codeT] at hv
    split at hv
    · rename_i c hg
      have hg := sv_ok hh.sees hg
      obtain ⟨st', _, hh', hv'⟩ := decT_ok hv hh
      refine Tri.cond hg (fun hb => ?_) fun hb => ?_
      · rw [show (c.den σ).boo = true from hb] at hv'
        exact codeT_ok hT hC x (p ++ [false]) σ st' t H K Q hK (by rw [sub_append, h1]; cases x <;> rfl) (by rw [ctx_append, h1, h2]; cases x <;> rfl) hv' hh'
      · rw [show (c.den σ).boo = false from hb] at hv'
        exact codeT_ok hT hC y (p ++ [true]) σ st' t H K Q hK (by rw [sub_append, h1]; cases y <;> rfl) (by rw [ctx_append, h1, h2]; cases y <;> rfl) hv' hh'
    · exact hv.elim
  | .block id c, p, σ, st, t, H, K, Q, hK, h1, h2, hv, hh => by
    simp only [codeT] at hv
    refine Tri.block' (codeT_ok hT hC c (p ++ [false]) σ st t H _ _ ?_ (by rw [sub_append, h1]; cases c <;> rfl) (by rw [ctx_append, h1, h2]; cases c <;> rfl) hv hh)
    refine ⟨hK.norm, fun σ' st' t' H' j k1 k2 => ?_, hK.ret, hK.pan, hK.stop, hK.again⟩
    simp only at k2
    cases hj : Nat.beq j id with
    | true =>
      rw [hj] at k2
      have := Nat.eq_of_beq_eq_true hj
      subst this
      exact inBlk_exit (hK.norm _ _ _ _ k1 k2)
    | false =>
      rw [hj] at k2
      exact inBlk_pass (by have := Nat.ne_of_beq_eq_false hj; simpa using this) (hK.exit _ _ _ _ _ k1 k2)

/-! From a place on, with what has come there: an end, or an exit. -/
inductive Oc where
  | norm | exit (j : Nat)
def Oc.out (o : Oc) (t : Tm) (H : Heap) : Out := match o with
 | .norm => .norm t H
 | .exit j => .exit j t H
noncomputable def Kk.at (K : Kk) (o : Oc) (st : St) : Tree := match o with
 | .norm => K.norm st
 | .exit j => K.exit j st
noncomputable def backT (T : Tab) (sh : Nat → Option Shape) (w : Nat) (stops : List Nat) : List Bool → Code → List Bool → Oc → St → Kk → Tree
 | false :: p, .seq a b, q, o, st, K => backT T sh w stops p a (q ++ [false]) o st { K with norm := fun st => codeT T sh w stops b (q ++ [true]) st K }
 | true :: p, .seq _ b, q, o, st, K => backT T sh w stops p b (q ++ [true]) o st K
 | false :: p, .cond _ x _, q, o, st, K => backT T sh w stops p x (q ++ [false]) o st K
 | true :: p, .cond _ _ y, q, o, st, K => backT T sh w stops p y (q ++ [true]) o st K
 | _ :: p, .block id c, q, o, st, K => backT T sh w stops p c (q ++ [false]) o st { K with exit := fun j st => bif Nat.beq j id then K.norm st else K.exit j st }
 | _ :: p, .loop c, q, o, st, K => backT T sh w stops p c (q ++ [false]) o st { K with norm := fun st => K.again (q ++ [false]) st }
 | _, _, _, o, st, K => K.at o st
theorem KOk.out {K : Kk} {Q : Out → Prop} (hK : KOk P T call w L R code0 Q0 K Q) {o : Oc} {σ : List U} {st : St} {t : Tm} {H : Heap} (hh : Holds w σ st t H) (hv : VC T call w L R σ (K.at o st)) : Q (o.out t H) := by
 cases o with
 | norm => exact hK.norm _ _ _ _ hh hv
 | exit j => exact hK.exit _ _ _ _ _ hh hv
theorem backT_ok (hT : TOk P T) (hC : call.Sound P T) {sh : Nat → Option Shape} {stops : List Nat} {o : Oc} : ∀ (p : List Bool) (c : Code) (q : List Bool) (σ : List U) (st : St) (t : Tm) (H : Heap) (K : Kk) (Q : Out → Prop), KOk P T call w L R code0 Q0 K Q → sub q code0 = c → ctx P T q code0 Q0 = Q →
    VC T call w L R σ (backT T sh w stops p c q o st K) → Holds w σ st t H → ctx P T p c Q (o.out t H)
  | [], c, q, σ, st, t, H, K, Q, hK, h1, h2, hv, hh => by
    rw [ctx_nil]
    refine hK.out hh ?_
    cases c <;> exact hv
  | b :: p, c, q, σ, st, t, H, K, Q, hK, h1, h2, hv, hh => by
    cases c with
    | seq x y =>
      cases b with
      | false =>
        refine backT_ok hT hC p x (q ++ [false]) σ st t H _ _ ?_ (by rw [sub_append, h1]; cases x <;> rfl) (by rw [ctx_append, h1, h2]; cases x <;> rfl) hv hh
        exact ⟨fun σ' st' t' H' k1 k2 => codeT_ok hT hC y (q ++ [true]) σ' st' t' H' K Q hK (by rw [sub_append, h1]; cases y <;> rfl) (by rw [ctx_append, h1, h2]; cases y <;> rfl) k2 k1, hK.exit, hK.ret, hK.pan, hK.stop, hK.again⟩
      | true => exact backT_ok hT hC p y (q ++ [true]) σ st t H K Q hK (by rw [sub_append, h1]; cases y <;> rfl) (by rw [ctx_append, h1, h2]; cases y <;> rfl) hv hh
    | cond g x y =>
      cases b with
      | false => exact backT_ok hT hC p x (q ++ [false]) σ st t H K Q hK (by rw [sub_append, h1]; cases x <;> rfl) (by rw [ctx_append, h1, h2]; cases x <;> rfl) hv hh
      | true => exact backT_ok hT hC p y (q ++ [true]) σ st t H K Q hK (by rw [sub_append, h1]; cases y <;> rfl) (by rw [ctx_append, h1, h2]; cases y <;> rfl) hv hh
    | block id c =>
      have key : ∀ {K' : Kk}, KOk P T call w L R code0 Q0 K' (inBlk id Q) → VC T call w L R σ (backT T sh w stops p c (q ++ [false]) o st K') → ctx P T p c (inBlk id Q) (o.out t H) := fun hK' hv' =>
        backT_ok hT hC p c (q ++ [false]) σ st t H _ _ hK' (by rw [sub_append, h1]; cases c <;> rfl) (by rw [ctx_append, h1, h2]; cases c <;> rfl) hv' hh
      have hK' : KOk P T call w L R code0 Q0 { K with exit := fun j st => bif Nat.beq j id then K.norm st else K.exit j st } (inBlk id Q) := by
        refine ⟨hK.norm, fun σ' st' t' H' j k1 k2 => ?_, hK.ret, hK.pan, hK.stop, hK.again⟩
        simp only at k2
        cases hj : Nat.beq j id with
        | true =>
          rw [hj] at k2
          have := Nat.eq_of_beq_eq_true hj
          subst this
          exact inBlk_exit (hK.norm _ _ _ _ k1 k2)
        | false =>
          rw [hj] at k2
          exact inBlk_pass (by have := Nat.ne_of_beq_eq_false hj; simpa using this) (hK.exit _ _ _ _ _ k1 k2)
      cases b <;> exact key hK' hv
    | loop c =>
      have e1 : sub (q ++ [false]) code0 = c := by rw [sub_append, h1]; cases c <;> rfl
      have e2 : ctx P T (q ++ [false]) code0 Q0 = inLoop P T c Q := by rw [ctx_append, h1, h2]; cases c <;> rfl
      have hK' : KOk P T call w L R code0 Q0 { K with norm := fun st => K.again (q ++ [false]) st } (inLoop P T c Q) :=
        ⟨fun σ' st' t' H' k1 k2 => by have := hK.again _ _ _ _ _ k1 k2; rwa [e2] at this, hK.exit, hK.ret, hK.pan, hK.stop, hK.again⟩
      cases b <;> exact backT_ok hT hC p c (q ++ [false]) σ st t H _ _ hK' e1 e2 hv hh
    | _ => cases b <;> exact hK.out hh hv

noncomputable def goT (T : Tab) (sh : Nat → Option Shape) (w : Nat) (stops : List Nat) : List Bool → Code → List Bool → St → Kk → Tree
 | false :: p, .seq a b, q, st, K => goT T sh w stops p a (q ++ [false]) st { K with norm := fun st => codeT T sh w stops b (q ++ [true]) st K }
 | true :: p, .seq _ b, q, st, K => goT T sh w stops p b (q ++ [true]) st K
 | false :: p, .cond _ x _, q, st, K => goT T sh w stops p x (q ++ [false]) st K
 | true :: p, .cond _ _ y, q, st, K => goT T sh w stops p y (q ++ [true]) st K
 | _ :: p, .block id c, q, st, K => goT T sh w stops p c (q ++ [false]) st { K with exit := fun j st => bif Nat.beq j id then K.norm st else K.exit j st }
 | _ :: p, .loop c, q, st, K => goT T sh w stops p c (q ++ [false]) st { K with norm := fun st => K.again (q ++ [false]) st }
 | _, c, q, st, K => codeT T sh w stops c q st K
theorem goT_ok (hT : TOk P T) (hC : call.Sound P T) {sh : Nat → Option Shape} {stops : List Nat} : ∀ (p : List Bool) (c : Code) (q : List Bool) (σ : List U) (st : St) (t : Tm) (H : Heap) (K : Kk) (Q : Out → Prop), KOk P T call w L R code0 Q0 K Q → sub q code0 = c → ctx P T q code0 Q0 = Q →
    VC T call w L R σ (goT T sh w stops p c q st K) → Holds w σ st t H → Tri P T (sub p c) t H (ctx P T p c Q)
  | [], c, q, σ, st, t, H, K, Q, hK, h1, h2, hv, hh => by
    have e : sub [] c = c := by cases c <;> rfl
    rw [ctx_nil, e]
    refine codeT_ok (sh := sh) (stops := stops) hT hC c q σ st t H K Q hK h1 h2 ?_ hh
    cases c <;> exact hv
  | b :: p, c, q, σ, st, t, H, K, Q, hK, h1, h2, hv, hh => by
    cases c with
    | seq x y =>
      cases b with
      | false =>
        refine goT_ok hT hC p x (q ++ [false]) σ st t H _ _ ?_ (by rw [sub_append, h1]; cases x <;> rfl) (by rw [ctx_append, h1, h2]; cases x <;> rfl) hv hh
        exact ⟨fun σ' st' t' H' k1 k2 => codeT_ok hT hC y (q ++ [true]) σ' st' t' H' K Q hK (by rw [sub_append, h1]; cases y <;> rfl) (by rw [ctx_append, h1, h2]; cases y <;> rfl) k2 k1, hK.exit, hK.ret, hK.pan, hK.stop, hK.again⟩
      | true => exact goT_ok hT hC p y (q ++ [true]) σ st t H K Q hK (by rw [sub_append, h1]; cases y <;> rfl) (by rw [ctx_append, h1, h2]; cases y <;> rfl) hv hh
    | cond g x y =>
      cases b with
      | false => exact goT_ok hT hC p x (q ++ [false]) σ st t H K Q hK (by rw [sub_append, h1]; cases x <;> rfl) (by rw [ctx_append, h1, h2]; cases x <;> rfl) hv hh
      | true => exact goT_ok hT hC p y (q ++ [true]) σ st t H K Q hK (by rw [sub_append, h1]; cases y <;> rfl) (by rw [ctx_append, h1, h2]; cases y <;> rfl) hv hh
    | block id c =>
      have key : ∀ {K' : Kk}, KOk P T call w L R code0 Q0 K' (inBlk id Q) → VC T call w L R σ (goT T sh w stops p c (q ++ [false]) st K') → Tri P T (sub p c) t H (ctx P T p c (inBlk id Q)) := fun hK' hv' =>
        goT_ok hT hC p c (q ++ [false]) σ st t H _ _ hK' (by rw [sub_append, h1]; cases c <;> rfl) (by rw [ctx_append, h1, h2]; cases c <;> rfl) hv' hh
      have hK' : KOk P T call w L R code0 Q0 { K with exit := fun j st => bif Nat.beq j id then K.norm st else K.exit j st } (inBlk id Q) := by
        refine ⟨hK.norm, fun σ' st' t' H' j k1 k2 => ?_, hK.ret, hK.pan, hK.stop, hK.again⟩
        simp only at k2
        cases hj : Nat.beq j id with
        | true =>
          rw [hj] at k2
          have := Nat.eq_of_beq_eq_true hj
          subst this
          exact inBlk_exit (hK.norm _ _ _ _ k1 k2)
        | false =>
          rw [hj] at k2
          exact inBlk_pass (by have := Nat.ne_of_beq_eq_false hj; simpa using this) (hK.exit _ _ _ _ _ k1 k2)
      cases b <;> exact key hK' hv
    | loop c =>
      have e1 : sub (q ++ [false]) code0 = c := by rw [sub_append, h1]; cases c <;> rfl
      have e2 : ctx P T (q ++ [false]) code0 Q0 = inLoop P T c Q := by rw [ctx_append, h1, h2]; cases c <;> rfl
      have hK' : KOk P T call w L R code0 Q0 { K with norm := fun st => K.again (q ++ [false]) st } (inLoop P T c Q) :=
        ⟨fun σ' st' t' H' k1 k2 => by have := hK.again _ _ _ _ _ k1 k2; rwa [e2] at this, hK.exit, hK.ret, hK.pan, hK.stop, hK.again⟩
      cases b <;> exact goT_ok hT hC p c (q ++ [false]) σ st t H _ _ hK' e1 e2 hv hh
    | _ => cases b <;> exact codeT_ok hT hC _ q σ st t H K Q hK h1 h2 hv hh

/-! The whole. -/
noncomputable def keepE (ks : List Nat) (st : St) : List (Nat × E) := ks.filterMap fun k => (getE st.tm k).map fun e => (k, e)
noncomputable def K0 (ks : List Nat) : Kk where
 norm st := .leaf .norm (keepE ks st) st.h
 exit j st := .leaf (.exit j) (keepE ks st) st.h
 ret st := .leaf .ret (keepE ks st) st.h
 pan st e := .leaf (.pan e) (keepE ks st) st.h
 stop p st := .leaf (.stop p) (keepE ks st) st.h
 again p st := .leaf (.again p) (keepE ks st) st.h
@[simp] def LQ (P : Program) (T : Tab) (code0 : Code) (Q0 : Out → Prop) : LO → List U → Tm → Heap → Prop
 | .norm, _, t, H => Q0 (.norm t H)
 | .exit j, _, t, H => Q0 (.exit j t H)
 | .ret, _, t, H => Q0 (.ret t H)
 | .pan x, σ, t, H => Q0 (.pan (x.den σ).val t H)
 | .stop p, _, t, H => Tri P T (sub p code0) t H (ctx P T p code0 Q0)
 | .again p, _, t, H => ctx P T p code0 Q0 (.norm t H)
theorem factsTo_elim {σ : List U} {t : Tm} {p : Prop} : ∀ {l : List (Nat × E)}, (∀ k e, (k, e) ∈ l → t.get k = (e.den σ).val) → factsTo σ t p l → p
 | [], _, h => h
 | (k, e) :: r, hf, h => factsTo_elim (fun k' e' hm => hf k' e' (List.mem_cons_of_mem _ hm)) (h (hf k e (List.mem_cons_self ..)))
theorem leaf_ok {o : LO} {ks : List Nat} {σ : List U} {st : St} {t : Tm} {H : Heap} (hh : Holds w σ st t H) (hv : VC T call w L R σ (.leaf o (keepE ks st) st.h)) : L o σ t H := by
 rw [hh.heap];refine factsTo_elim (fun k e hm => ?_) (hv t hh.wid);obtain ⟨k', _, hk⟩ := List.mem_filterMap.1 hm;cases hg : getE st.tm k' with
 | none => rw [hg] at hk; cases hk
 | some e' =>
  rw [hg] at hk;cases hk;exact hh.tm _ _ hg
theorem K0_ok (ks : List Nat) : KOk P T call w (LQ P T code0 Q0) R code0 Q0 (K0 ks) Q0 where
 norm _ _ _ _ hh hv := leaf_ok (L := LQ P T code0 Q0) (o := .norm) hh hv
 exit _ _ _ _ j hh hv := leaf_ok (L := LQ P T code0 Q0) (o := .exit j) hh hv
 ret _ _ _ _ hh hv := leaf_ok (L := LQ P T code0 Q0) (o := .ret) hh hv
 pan σ _ _ _ e hh hv := leaf_ok (L := LQ P T code0 Q0) (o := .pan e) hh hv
 stop _ _ _ _ p hh hv := leaf_ok (L := LQ P T code0 Q0) (o := .stop p) hh hv
 again _ _ _ _ p hh hv := leaf_ok (L := LQ P T code0 Q0) (o := .again p) hh hv
@[simp] def factsAll (σ : List U) (t : Tm) : List (Nat × E) → Prop
 | [] => True
 | (k, e) :: r => t.get k = (e.den σ).val ∧ factsAll σ t r
theorem factsAll_mem {σ : List U} {t : Tm} : ∀ {l : List (Nat × E)}, factsAll σ t l → ∀ p ∈ l, t.get p.1 = (p.2.den σ).val
 | [], _, p, hp => by simp at hp
 | (k, e) :: r, h, p, hp => by
  rcases List.mem_cons.1 hp with rfl | hp
  ·exact h.1
  ·exact factsAll_mem h.2 p hp
theorem Holds.init {σ : List U} {t : Tm} {H : Heap} {tm : List (Nat × E)} {h : SH} {nv : Nat} (hw : t.wid = w) (hf : factsAll σ t tm) (hH : H = h.den σ) (hW : h.WF σ) (hn : σ.length = nv) (hs : (tm.all (fun p => p.2.scop nv) && h.scop nv) = true) : Holds w σ ⟨tm, h, nv, []⟩ t H where
 wid := hw
 tm k e he := factsAll_mem hf _ (getE_mem he)
 heap := hH
 wf := hW
 nv := hn
 kn p hp := by simp at hp
 sc p hp := List.all_eq_true.1 (Bool.and_eq_true _ _ ▸ hs).1 p hp
 sh := (Bool.and_eq_true _ _ ▸ hs).2
 sk p hp := by simp at hp
theorem Tri.sym (hT : TOk P T) (hC : call.Sound P T) {sh : Nat → Option Shape} {stops ks : List Nat} {code : Code} {Q : Out → Prop} {σ : List U} {t : Tm} {H : Heap} {tm : List (Nat × E)} {h : SH} {nv : Nat} {tree : Tree}
 (he : codeT T sh w stops code [] ⟨tm, h, nv, []⟩ (K0 ks) = tree) (hs : (tm.all (fun p => p.2.scop nv) && h.scop nv) = true) (hw : t.wid = w) (hn : σ.length = nv) (hf : factsAll σ t tm) (hH : H = h.den σ) (hW : h.WF σ)
 (hv : VC T call w (LQ P T code Q) R σ tree) : Tri P T code t H Q := by
 subst he;exact codeT_ok hT hC code [] σ _ t H _ _ (K0_ok ks) (by cases code <;> rfl) (ctx_nil ..) hv (Holds.init hw hf hH hW hn hs)
end
open Go
/-! Whole functions. -/
noncomputable def resE (T : Tab) (tm : List (Nat × E)) (h : SH) : List ResultVar → Option (List E)
 | [] => some []
 | .tmp k :: rs => match getE tm k, resE T tm h rs with
  | some x, some l => some (x :: l)
  | _, _ => none
 | .cell a ty :: rs => match getE tm a, resE T tm h rs with
  | some p, some l => (match sLoad T ty h p with
   | .val x => some (x :: l)
   | _ => none)
  | _, _ => none
noncomputable def finT (T : Tab) (fn : Func) (st : St) : Tree := match resE T st.tm st.h fn.results.toList with
 | some [x] => .fin x st.h
 | some l => .fin (.f1 .tup (toE l)) st.h
 | none => .stuck 20
noncomputable def KF (T : Tab) (fn : Func) (ks : List Nat) : Kk where
 norm st := finT T fn st
 exit _ _ := .stuck 21
 ret st := finT T fn st
 pan st e := .pnc e st.h
 stop p st := .leaf (.stop p) (keepE ks st) st.h
 again p st := .leaf (.again p) (keepE ks st) st.h
section
variable {P : Program} {T : Tab} {call : CallF} {w : Nat} {L : LO → List U → Tm → Heap → Prop} {R : OR → Prop} {code0 : Code} {fn : Func} {σ : List U} {st : St} {t : Tm} {H : Heap}
theorem resE_ok (hh : Holds w σ st t H) : ∀ {l : List ResultVar} {es : List E}, resE T st.tm st.h l = some es → evResults T t.get H l = some (dv σ es)
 | [], es, e => by cases e; rfl
 | .tmp k :: rs, es, e => by
  simp only [resE] at e;split at e
  ·rename_i x l hx hl;cases e;simp only [evResults, evResult, hh.tm _ _ hx, resE_ok hh hl, dv, List.map_cons]
  ·cases e
 | .cell a ty :: rs, es, e => by
  simp only [resE] at e;split at e
  ·rename_i p l hp hl;split at e
   ·rename_i x hx;cases e;have k : SRes.Ok T (fun _ _ _ => .no) σ (st.h.den σ) (sLoad T ty st.h p) (lift (loadA T ty (st.h.den σ) (p.den σ).val) (st.h.den σ)) := sLoad_ok hh.wf ty p;rw [hx] at k;have k : lift (loadA T ty (st.h.den σ) (p.den σ).val) (st.h.den σ) = .val (x.den σ).val (st.h.den σ) := k;have k2 : loadA T ty H (t.get a) = some (x.den σ).val := by
     rw [hh.tm _ _ hp, hh.heap];cases hq : loadA T ty (st.h.den σ) (p.den σ).val with
     | none => rw [hq] at k; cases k
     | some v => rw [hq] at k; simp only [lift, OR.val.injEq, and_true] at k; rw [k]
    simp only [evResults, evResult, k2, resE_ok hh hl, dv, List.map_cons]
   ·cases e
  ·cases e
theorem finT_ok (hh : Holds w σ st t H) (hv : VC T call w L R σ (finT T fn st)) : ∃ v, R (.val v H) ∧ finish T fn t.get H = .val v H := by
 unfold finT at hv;unfold finish;split at hv
 ·rename_i x hx;have := resE_ok hh hx;refine ⟨(x.den σ).val, by rw [hh.heap]; exact hv, by rw [this]; rfl⟩
 ·rename_i l hl hx;have := resE_ok hh hx;have hv : R (.val (V.tup ((toE l).den σ).lst) (st.h.den σ)) := hv;rw [den_toE, ← hh.heap] at hv;refine ⟨_, hv, ?_⟩;rw [this];cases l with
  | nil => rfl
  | cons a l =>
   cases l with
   | nil => exact absurd rfl (hl a)
   | cons b l => rfl
 ·exact hv.elim
abbrev LF (P : Program) (T : Tab) (code0 : Code) (fn : Func) (R : OR → Prop) := LQ P T code0 (EndsX T fn R)
theorem KF_ok (ks : List Nat) : KOk P T call w (LF P T code0 fn R) R code0 (EndsX T fn R) (KF T fn ks) (EndsX T fn R) where
 norm _ _ _ _ hh hv := finT_ok hh hv
 exit _ _ _ _ j hh hv := hv.elim
 ret _ _ _ _ hh hv := finT_ok hh hv
 pan σ st _ H e hh hv := by rw [hh.heap]; exact hv
 stop _ _ _ _ p hh hv := leaf_ok (L := LF P T code0 fn R) (o := .stop p) hh hv
 again _ _ _ _ p hh hv := leaf_ok (L := LF P T code0 fn R) (o := .again p) hh hv
theorem XBody.sym (hT : TOk P T) (hC : call.Sound P T) {sh : Nat → Option Shape} {stops ks : List Nat} {F : FuncId} {c : Code} {vs : List V} {tm : List (Nat × E)} {h : SH} {nv : Nat} {tree : Tree}
 (hf : T.func F = some fn) (hb : fn.body = some c) (hl : vs.length ≤ fn.ntmps) (he : codeT T sh fn.ntmps stops c [] ⟨tm, h, nv, []⟩ (KF T fn ks) = tree) (hs : (tm.all (fun p => p.2.scop nv) && h.scop nv) = true) (σ : List U) (hn : σ.length = nv)
 (hfa : factsAll σ (Tm.init fn.ntmps vs) tm) (hH : H = h.den σ) (hW : h.WF σ) (hv : VC T call fn.ntmps (LF P T c fn R) R σ tree) : XBody P T F vs H R := by
 subst he;exact ⟨fn, c, hf, hb, hl, codeT_ok hT hC c [] σ _ _ H _ _ (KF_ok ks) (by cases c <;> rfl) (ctx_nil ..) hv (Holds.init rfl hfa hH hW hn hs)⟩
theorem EndsX.sym (hT : TOk P T) (hC : call.Sound P T) {sh : Nat → Option Shape} {stops ks : List Nat} {p : List Bool} {code : Code} {tm : List (Nat × E)} {h : SH} {nv : Nat} {tree : Tree} {o : Oc}
 (he : backT T sh w stops p code [] o ⟨tm, h, nv, []⟩ (KF T fn ks) = tree) (hs : (tm.all (fun p => p.2.scop nv) && h.scop nv) = true) (σ : List U) (hn : σ.length = nv) (hw : t.wid = w) (hf : factsAll σ t tm) (hH : H = h.den σ) (hW : h.WF σ)
 (hv : VC T call w (LF P T code fn R) R σ tree) : ctx P T p code (EndsX T fn R) (o.out t H) := by
 subst he;exact backT_ok hT hC p code [] σ _ t H _ _ (KF_ok ks) (by cases code <;> rfl) (ctx_nil ..) hv (Holds.init hw hf hH hW hn hs)
theorem Tri.symIn (hT : TOk P T) (hC : call.Sound P T) {sh : Nat → Option Shape} {stops ks : List Nat} {p : List Bool} {code : Code} {tm : List (Nat × E)} {h : SH} {nv : Nat} {tree : Tree}
 (he : goT T sh w stops p code [] ⟨tm, h, nv, []⟩ (KF T fn ks) = tree) (hs : (tm.all (fun p => p.2.scop nv) && h.scop nv) = true) (σ : List U) (hn : σ.length = nv) (hw : t.wid = w) (hf : factsAll σ t tm) (hH : H = h.den σ) (hW : h.WF σ)
 (hv : VC T call w (LF P T code fn R) R σ tree) : Tri P T (sub p code) t H (ctx P T p code (EndsX T fn R)) := by
 subst he;exact goT_ok hT hC p code [] σ _ t H _ _ (KF_ok ks) (by cases code <;> rfl) (ctx_nil ..) hv (Holds.init hw hf hH hW hn hs)
theorem LTri.symIn (hT : TOk P T) (hC : call.Sound P T) {sh : Nat → Option Shape} {stops ks : List Nat} {p : List Bool} {code c : Code} {tm : List (Nat × E)} {h : SH} {nv : Nat} {tree : Tree} (hl : sub p code = .loop c)
 (he : goT T sh w stops (p ++ [false]) code [] ⟨tm, h, nv, []⟩ (KF T fn ks) = tree) (hs : (tm.all (fun p => p.2.scop nv) && h.scop nv) = true) (σ : List U) (hn : σ.length = nv) (hw : t.wid = w) (hf : factsAll σ t tm) (hH : H = h.den σ) (hW : h.WF σ)
 (hv : VC T call w (LF P T code fn R) R σ tree) : ctx P T (p ++ [false]) code (EndsX T fn R) (.norm t H) := by
 have e1 : sub (p ++ [false]) code = c := by rw [sub_append, hl]; cases c <;> rfl
 have e2 : ctx P T (p ++ [false]) code (EndsX T fn R) = inLoop P T c (ctx P T p code (EndsX T fn R)) := by rw [ctx_append, hl]; cases c <;> rfl
 have := Tri.symIn hT hC he hs σ hn hw hf hH hW hv;rw [e1, e2] at this;rw [e2];exact LTri.round' this
theorem Tri.symLoop {p : List Bool} {code c : Code} (hl : sub p code = .loop c) {Q : Out → Prop} (h : ctx P T (p ++ [false]) code Q (.norm t H)) : Tri P T (sub p code) t H (ctx P T p code Q) := by
 have e2 : ctx P T (p ++ [false]) code Q = inLoop P T c (ctx P T p code Q) := by rw [ctx_append, hl]; cases c <;> rfl
 rw [e2] at h;rw [hl];exact Tri.loop h
theorem XBody.pure {F : FuncId} {vs : List V} {S : Res → Prop} (h : XBody P T F vs [] fun r => match r with | .val v _ => S (.val v) | .pan v _ => S (.pan v) | .no => False) : EBody P T F vs S := by
 obtain ⟨fn, c, h1, h2, h3, h4⟩ := h;refine ⟨fn, c, h1, h2, h3, h4.mono fun o ho => ?_⟩;cases o with
 | norm t H => obtain ⟨v, k1, k2⟩ := ho; exact ⟨_, k1, k2⟩
 | ret t H => obtain ⟨v, k1, k2⟩ := ho; exact ⟨_, k1, k2⟩
 | pan v t H => exact ⟨_, ho, rfl⟩
 | exit j t H => exact ho.elim
 | no => exact ho.elim
def isR (r : Res) : OR → Prop
 | .val v _ => r = .val v
 | .pan v _ => r = .pan v
 | .no => False
theorem spec_fn (hT : TOk P T) (hp : T.Plain) (F : FuncId) {α : Type} (enc : α → List V) (D : α → Prop) (r : α → Res) (hnl : ∀ a, D a → nlL (enc a) = true ∧ (r a).nl = true) (inj : ∀ a b, D a → D b → enc a = enc b → r a = r b)
 (h : ∀ a, D a → XBody P T F (enc a) [] (isR (r a))) : ∃ g, SpecOK P T F g ∧ ∀ a, D a → ∀ H, g (enc a) H = (r a).at H := by
 obtain ⟨g, k, s⟩ := spec_pure hT hp F (fun vs => ∃ a, D a ∧ vs = enc a) (fun vs x => ∃ a, D a ∧ vs = enc a ∧ x = r a) (by
  rintro vs ⟨a, ha, rfl⟩;refine ⟨(hnl a ha).1, ?_, ?_⟩
  ·rintro x ⟨b, hb, he, rfl⟩;exact (hnl b hb).2
  ·refine XBody.pure ?_;obtain ⟨fn, c, h1, h2, h3, h4⟩ := h a ha;refine ⟨fn, c, h1, h2, h3, h4.mono fun o ho => ?_⟩;cases o with
   | norm t H => obtain ⟨v, k1, k2⟩ := ho; exact ⟨v, ⟨a, ha, rfl, k1.symm⟩, k2⟩
   | ret t H => obtain ⟨v, k1, k2⟩ := ho; exact ⟨v, ⟨a, ha, rfl, k1.symm⟩, k2⟩
   | pan v t H => exact ⟨a, ha, rfl, Eq.symm ho⟩
   | exit j t H => exact ho.elim
   | no => exact ho.elim)
 refine ⟨g, k, fun a ha H => ?_⟩;obtain ⟨x, ⟨b, hb, he, rfl⟩, h2⟩ := s (enc a) ⟨a, ha, rfl⟩;rw [h2 H, inj a b ha hb he]
theorem spec_hp (hT : TOk P T) (F : FuncId) {α : Type} (enc : α → List V) (D : α → Heap → Prop) (S : α → Heap → OR → Prop) (inj : ∀ a b H r, D a H → D b H → enc a = enc b → S a H r → S b H r)
 (h : ∀ a H, D a H → XBody P T F (enc a) H (S a H)) : ∃ g, SpecOK P T F g ∧ ∀ a H, D a H → S a H (g (enc a) H) := by
 obtain ⟨g, k, s⟩ := XFact.spec (F := F) hT (D := fun vs H => ∃ a, D a H ∧ vs = enc a) (R := fun vs H r => ∃ a, D a H ∧ vs = enc a ∧ S a H r) (by
  rintro vs H ⟨a, ha, rfl⟩;exact (XBody.fact hT (h a H ha)).mono fun r hr => ⟨a, ha, rfl, hr⟩)
 refine ⟨g, k, fun a H ha => ?_⟩;obtain ⟨r, ⟨b, hb, he, hr⟩, h2⟩ := s (enc a) H ⟨a, ha, rfl⟩;rw [h2];exact inj b a H r hb ha he.symm hr
end
theorem WF_opq (σ : List U) (n : Nat) : (⟨.va n, [], []⟩ : SH).WF σ := ⟨by simp, by simp⟩
theorem Heap.set_self {H : Heap} {n : Nat} {b : Option Blk} (h : H[n]? = some b) : H = H.set n b := by
 obtain ⟨h1, h2⟩ := List.getElem?_eq_some_iff.1 h;rw [← h2, List.set_getElem_self]
theorem Heap.get_self {H : Heap} {n : Nat} {b c : Option Blk} (h : H[n]? = some c) : (H.set n b)[n]? = some b := List.getElem?_set_self (List.getElem?_eq_some_iff.1 h).1
theorem Heap.lt {H : Heap} {n : Nat} {c : Option Blk} (h : H[n]? = some c) : n < H.length := (List.getElem?_eq_some_iff.1 h).1
open Go.RowKit (Below)
section
variable {P : Program} {T : Tab} {M : Mem} {ρ : Ren} {H : Heap} {w w' : World}
theorem ext_below (hb : Below w.heap.size w w') : Ext M ρ w M ρ w' where
 os := hb.os
 tape := hb.tape
 output := hb.output
 size := hb.size
 mem := Mem.le.refl _
 pre := List.prefix_refl _
 frame k h _ := hb.block k h
 newM _ _ _ := rfl
 newR _ c h := .inl ⟨c, h⟩
theorem frozen_lt (hS : SR T M ρ H w) {b : Nat} {o : Obj} (h : M b = some o) : b < w.heap.size := by
 have := hS.frozen b o h;by_cases hlt : b < w.heap.size
 ·exact hlt
 ·rw [Array.getElem?_eq_none (by omega)] at this; cases this
theorem sr_below (hS : SR T M ρ H w) (hb : Below w.heap.size w w') : SR T M ρ H w' where
  frozen b o h := by rw [hb.block b (frozen_lt hS h)]; exact hS.frozen b o h
  len := hS.len
  blk n b hn := by
    obtain ⟨c, q, hr, hM, hlt, hok⟩ := hS.blk n b hn
    refine ⟨c, q, hr, hM, Nat.lt_of_lt_of_le hlt hb.size, ?_⟩
    rw [hb.block c hlt]
    exact hok
  inj := hS.inj
  glob := hS.glob
  gint := hS.gint
theorem callOK_below {f : FuncId} {args : Array Value} {x : Value} {v : V} (hS : SR T M ρ H w) (h : Calls P f args w fun e w' => e = .returned x ∧ Below w.heap.size w w') (hx : rel M ρ v x) : CallOK P T f args M ρ w (.val v H) := by
 refine Calls.mono h ?_;rintro e w' ⟨rfl, hb⟩;exact ⟨x, M, ρ, rfl, ext_below hb, hx, sr_below hS hb⟩
end
end Go.Ev
namespace Go.Ev
open Go Go.RowKit
set_option linter.unusedVariables false
section
variable {P : Program} {T : Tab} {M M' : Mem} {ρ ρ' : Ren} {w w' : World} {H H' : Heap} {t t' : Tm} {c x y : Code} {F : FuncId} {id : Nat} {m : Option V}
def TriS (P : Program) (T : Tab) (c : Code) (t : Tm) (H : Heap) (m : Option V) (Q : Out → Prop) : Prop :=
 ∃ o, Q o ∧ ∀ (a : Act) (w : World) (M : Mem) (ρ : Ren) (R : Exit → Act → List Frame → World → Prop) (c₀ : Frame) (cs : List Frame) (y : Value), SR T M ρ H w → relTm M ρ t a.tmps → (∀ u, m = some u → rel M ρ u y) → c₀.mode = modeOf m y →
  OutOK T M ρ w (fun e a w => R e a ({ c₀ with mode := modeTo m y } :: cs) w) a.defers o → c.wpS P R a (c₀ :: cs) w
variable {Q Q' : Out → Prop}
theorem TriS.mono (h : TriS P T c t H m Q) (hq : ∀ o, Q o → Q' o) : TriS P T c t H m Q' := by
 obtain ⟨o, h1, h2⟩ := h;exact ⟨o, hq o h1, h2⟩
theorem TriS.seq (h : TriS P T x t H m fun o => match o with | .norm t' H' => Tri P T y t' H' Q | o => Q o) : TriS P T (.seq x y) t H m Q := by
 obtain ⟨o, ho, hx⟩ := h;cases o with
 | norm t' H' =>
  obtain ⟨o2, h2, hy⟩ := ho;refine ⟨o2, h2, fun a w M ρ R c₀ cs v hS ht hv hm k => wpS_seq (hx a w M ρ _ c₀ cs v hS ht hv hm ?_)⟩;intro a' w' M' ρ' he ht' hS' hd;refine wpS_of_wp (hy a' w' M' ρ' _ hS' ht' ?_);rw [hd];exact k.later he
 | exit id t' H' => exact ⟨_, ho, fun a w M ρ R c₀ cs v hS ht hv hm k => wpS_seq (hx a w M ρ _ c₀ cs v hS ht hv hm k)⟩
 | ret t' H' => exact ⟨_, ho, fun a w M ρ R c₀ cs v hS ht hv hm k => wpS_seq (hx a w M ρ _ c₀ cs v hS ht hv hm k)⟩
 | pan u t' H' => exact ⟨_, ho, fun a w M ρ R c₀ cs v hS ht hv hm k => wpS_seq (hx a w M ρ _ c₀ cs v hS ht hv hm k)⟩
 | no => exact ⟨.no, ho, fun a w M ρ R c₀ cs v hS ht hv hm k => k.elim⟩
theorem evSeqS_ok (hT : TOk P T) {call : CallF} (hcall : call.Sound P T) (ops : Array Oper) {Q : Exit → Act → List Frame → World → Prop} {cs : List Frame} (rest : List Nat) : ∀ (l : List Nat) (os : List Oper) (t : Tm) (H : Heap) (a : Act) (w : World) (M : Mem) (ρ : Ren) (t' : Tm) (H' : Heap), SR T M ρ H w → relTm M ρ t a.tmps →
    (l.map fun i => ops[i]?) = os.map some → evSeq (evOp T call) ops os t H = .norm t' H' →
    (∀ a' w' M' ρ', Ext M ρ w M' ρ' w' → relTm M' ρ' t' a'.tmps → SR T M' ρ' H' w' → a'.defers = a.defers → wpOpsS P ops Q rest a' cs w') → wpOpsS P ops Q (l ++ rest) a cs w
  | [], os, t, H, a, w, M, ρ, t', H', hS, ht, hl, h, k => by
    cases os with
    | cons o os => simp at hl
    | nil =>
      simp only [evSeq] at h
      cases h
      exact k a w M ρ (Ext.refl _ _ _) ht hS rfl
  | i :: l, os, t, H, a, w, M, ρ, t', H', hS, ht, hl, h, k => by
    cases os with
    | nil => simp at hl
    | cons o os =>
      simp only [List.map_cons, List.cons.injEq] at hl
      obtain ⟨hi, hl⟩ := hl
      simp only [evSeq, putK_eq, opened_eq] at h
      rw [List.cons_append]
      unfold wpOpsS
      rw [hi]
      simp only
      split at h
      · rename_i hw
        rw [wants_ok ht.2 hw]
        simp only [if_true]
        split at h
        · rename_i v H2 hv
          split at h
          · rename_i hfit
            have key : o.wp P a w (fun a' w' => wpOpsS P ops Q (l ++ rest) a' cs w') (fun e a' w' => Q e a' cs w') := by
              refine evOp_ok hT hcall hS ht.2 (r := .val v H2) hv ?_
              intro x M' ρ' w' he hx hS'
              refine evSeqS_ok hT hcall ops rest l os _ H2 _ w' M' ρ' t' H' hS' (put_rel (relTm_mono he.mem he.pre ht) hx o.dst hfit) hl h ?_
              intro a' w2 M2 ρ2 he2 ht2 hS2 hd
              rw [put_defers'] at hd
              exact k a' w2 M2 ρ2 (he.trans he2) ht2 hS2 hd
            unfold Oper.wp at key
            split
            · rename_i w1 e1
              rw [e1] at key
              simp [Oper.upon] at key
            · exact key
          · cases h
        · cases h
        · cases h
      · rename_i hw
        rw [wants_ok ht.2 hw]
        simp only [Bool.false_eq_true, if_false]
        split at h
        · rename_i hfit
          refine evSeqS_ok hT hcall ops rest l os _ H _ w M ρ t' H' hS (put_rel ht rel_undef o.dst hfit) hl h ?_
          intro a' w2 M2 ρ2 he2 ht2 hS2 hd
          rw [put_defers'] at hd
          exact k a' w2 M2 ρ2 he2 ht2 hS2 hd
        · cases h
      · cases h
def isRecover (o : Oper) : Bool := match o.op with
 | .call ⟨.builtin .recover, args, _⟩ => args.size == 0
 | _ => false
theorem isRecover_run {o : Oper} {a : Act} {w : World} (h : isRecover o = true) : (execOp a.eval o).run P w = .ok .recover w := by
 unfold isRecover at h;split at h
 ·rename_i args ts ho;have : args = #[] := Array.eq_empty_of_size_eq_zero (by simpa using h);subst this;simp [execOp, ho, resolve, invoke, builtin]
 ·cases h
def recV (m : Option V) : V := match m with
 | none => .nili
 | some u => u
theorem range_parts {n q : Nat} (h : q < n) : List.range n = List.range q ++ q :: List.range' (q + 1) (n - (q + 1)) := by
 have e := List.range'_append_1 (s := 0) (m := q) (n := n - q);rw [show q + (n - q) = n from by omega, show n - q = (n - (q + 1)) + 1 from by omega, List.range'_succ, Nat.zero_add] at e;rw [List.range_eq_range', List.range_eq_range'];exact e.symm
theorem TriS.reg (hT : TOk P T) {call : CallF} (hC : call.Sound P T) {ops : Array Oper} (q : Nat) {o : Oper} {t1 t2 : Tm} {H1 H2 : Heap}
 (hops : ops.toList = ops.toList.take q ++ o :: ops.toList.drop (q + 1)) (hg : o.guard = none) (ho : isRecover o = true)
 (h1 : evSeq (evOp T call) ops (ops.toList.take q) t H = .norm t1 H1) (hfit : t1.fits o.dst = true)
 (h2 : evSeq (evOp T call) ops (ops.toList.drop (q + 1)) (t1.put o.dst (recV m)) H1 = .norm t2 H2) (h : Q (.norm t2 H2)) : TriS P T (.region id ops false) t H m Q := by
 have hq : q < ops.size := by
  have := congrArg List.length hops;simp only [List.length_append, List.length_cons, List.length_take, List.length_drop, Array.length_toList] at this;omega
 have hoq : ops[q]? = some o := by
  rw [← Array.getElem?_toList, hops, List.getElem?_append_right (by simp; omega)];simp [Nat.min_eq_left (Nat.le_of_lt hq)]
 refine ⟨_, h, fun a w M ρ R c₀ cs y hS ht hy hm k => wpS_region ?_⟩;rw [range_parts hq];refine evSeqS_ok hT hC ops _ (List.range q) (ops.toList.take q) t H a w M ρ t1 H1 hS ht ?_ h1 ?_
 ·apply List.ext_getElem?;intro i;by_cases hi : i < q
  ·have : i < ops.size := by omega
   simp [hi, this]
  ·simp [hi, List.getElem?_take]
 ·intro a' w' M' ρ' he ht' hS' hd;unfold wpOpsS;rw [hoq];have hw : Region.wanted o (yielded ops a'.tmps) = true := by simp [Region.wanted, hg]
  simp only [hw, if_true, isRecover_run ho];have fin : ∀ (z : Value), rel M' ρ' (recV m) z → wpOpsS P ops R (List.range' (q + 1) (ops.size - (q + 1))) (a'.put o.dst z) ({ c₀ with mode := modeTo m y } :: cs) w' := by
   intro z hz;have e2 := evSeqS_ok (Q := R) (cs := { c₀ with mode := modeTo m y } :: cs) hT hC ops [] (List.range' (q + 1) (ops.size - (q + 1))) (ops.toList.drop (q + 1)) (t1.put o.dst (recV m)) H1 (a'.put o.dst z) w' M' ρ' t2 H2 hS' (put_rel ht' hz o.dst hfit) ?_ h2 ?_
   ·rwa [List.append_nil] at e2
   ·apply List.ext_getElem?;intro i;simp only [List.getElem?_map, List.getElem?_drop, Array.getElem?_toList];by_cases hi : i < ops.size - (q + 1)
    ·have : q + 1 + i < ops.size := by omega
     simp [hi, this]
    ·have : ¬ q + 1 + i < ops.size := by omega
     simp [hi, this]
   ·intro a2 w2 M2 ρ2 he2 ht2 hS2 hd2;rw [put_defers'] at hd2;exact k a2 w2 M2 ρ2 (he.trans he2) ht2 hS2 (hd2.trans hd)
  cases m with
  | none =>
   have : recoverD (c₀ :: cs) = none := by simp [recoverD, hm, modeOf]
   rw [this];have := fin .nilIface (by simp only [recV, rel]);have e : ({ c₀ with mode := modeTo none y } : Frame) = c₀ := by
    show ({ c₀ with mode := FrameMode.returning } : Frame) = c₀;rw [← show c₀.mode = FrameMode.returning from hm]
   rwa [e] at this
  | some u =>
   have : recoverD (c₀ :: cs) = some (y, { c₀ with mode := modeTo (some u) y } :: cs) := by simp [recoverD, hm, modeOf, modeTo]
   rw [this];exact fin y (rel_mono he.mem he.pre _ _ (hy u rfl))
theorem closes_of (hT : TOk P T) {f : FuncId} {vs : List V} {H2 : Heap} {fn : Func} (hfn : T.func f = some fn) (hc : fn.body = some c) (hle : vs.length ≤ fn.ntmps)
 (h : TriS P T c (Tm.init fn.ntmps vs) H m fun o => ∃ tI v, (o = .norm tI H2 ∨ o = .ret tI H2) ∧ finish T fn tI.get H2 = .val v H2) : Closes P T f vs m H H2 := by
 obtain ⟨hf, hent⟩ := hT.func f fn c hfn hc;obtain ⟨o, ⟨tI, v, ho, hfin⟩, hx⟩ := h;refine ⟨hent, fun M ρ w xs y hS hr hy => callsD_of_wpS hf hc fun c₀ cs hu => ?_⟩;refine hx _ w M ρ _ c₀ cs y hS (relTm_init hr hle) hy hu ?_;have key : ∀ (a' : Act) (w' : World) (M' : Mem) (ρ' : Ren), Ext M ρ w M' ρ' w' → relTm M' ρ' tI a'.tmps → SR T M' ρ' H2 w' → a'.defers = [] → a'.defers = [] ∧ ∃ u', ({ c₀ with mode := modeTo m y } :: cs) = { c₀ with mode := u' } :: cs ∧ ∃ z, (results fn a'.tmps).run P w' = .ok z w' ∧ ∃ x M' ρ', (Ending.returned z) = .returned x ∧ u' = modeTo m y ∧ Ext M ρ w M' ρ' w' ∧ SR T M' ρ' H2 w' := by
  intro a' w' M' ρ' he ht' hS' hd;obtain ⟨_, z, hz, _⟩ := results_ok hT hS' ht'.2 hfin;exact ⟨hd, _, rfl, z, hz, z, M', ρ', rfl, rfl, he, hS'⟩
 rcases ho with rfl | rfl
 ·exact fun a' w' M' ρ' he ht' hS' hd => key a' w' M' ρ' he ht' hS' hd
 ·exact fun a' w' M' ρ' he ht' hS' hd => key a' w' M' ρ' he ht' hS' hd
end
end Go.Ev
namespace Go.Ev
open Go Go.RowKit
section
variable {P : Program} {T : Tab} {H : Heap} {t : Tm} {c : Code} {Q : Out → Prop}
theorem TriS.plain (h : Tri P T c t H Q) : TriS P T c t H none Q := by
 obtain ⟨o, h1, hx⟩ := h;refine ⟨o, h1, fun a w M ρ R c₀ cs y hS ht hy hm k => wpS_of_wp (hx a w M ρ _ hS ht ?_)⟩;have e : ({ c₀ with mode := modeTo none y } : Frame) = c₀ := by
  show ({ c₀ with mode := FrameMode.returning } : Frame) = c₀;rw [← show c₀.mode = FrameMode.returning from hm]
 rw [e] at k;exact k
theorem closes_plain (hT : TOk P T) {f : FuncId} {vs : List V} {H2 : Heap} (h : XBody P T f vs H fun r => ∃ v, r = .val v H2) : Closes P T f vs none H H2 := by
 obtain ⟨fn, c, hfn, hc, hle, ht⟩ := h;refine closes_of hT hfn hc hle (TriS.plain (ht.mono fun o ho => ?_));cases o with
 | norm t' H' => obtain ⟨v, ⟨v', h1⟩, h2⟩ := ho; cases h1; exact ⟨t', v, .inl rfl, h2⟩
 | ret t' H' => obtain ⟨v, ⟨v', h1⟩, h2⟩ := ho; cases h1; exact ⟨t', v, .inr rfl, h2⟩
 | pan v t' H' => obtain ⟨v', h1⟩ := ho; cases h1
 | exit id t' H' => exact ho.elim
 | no => exact ho.elim
end
end Go.Ev
namespace Go.Ev
open Go Go.Proofs
set_option linter.unusedSimpArgs false
set_option linter.unusedVariables false
set_option linter.unnecessarySimpa false
open Go Go.RowKit
section
variable {P : Program} {T : Tab} {F : FuncId}
def GXBody (P : Program) (T : Tab) (F : FuncId) (vs : List V) (H : Heap) (R : OR → Prop) : Prop :=
 ∃ fn c, T.func F = some fn ∧ fn.body = some c ∧ vs.length ≤ fn.ntmps ∧ TriG P T none [] c (Tm.init fn.ntmps vs) H fun o _ => EndsX T fn R o
theorem GXBody.fact (hT : TOk P T) {vs : List V} {H : Heap} {R : OR → Prop} (h : GXBody P T F vs H R) : XFact P T F vs H R := by
 obtain ⟨fn, c, hfn, hc, hle, o, hs', ho, hx⟩ := h;obtain ⟨hf, hent⟩ := hT.func F fn c hfn hc;have key : ∀ (v : V) (H' : Heap), (∃ tI, (o = .norm tI H' ∨ o = .ret tI H') ∧ finish T fn tI.get H' = .val v H') → R (.val v H') → XFact P T F vs H R := fun v H' hfin hR => by
  refine ⟨_, hR, by simp, hent, fun M ρ w args hS hr => ?_⟩;have s : StX T M ρ w M ρ [] (Tm.init 0 []) H ([] ++ []) { tmps := #[], defers := [] } w := ⟨Ext.refl _ _ _, hS, relTm_zero, by simp, rfl, by simp, by simp⟩;refine Calls.mono (callsIn_wide.1 (calls_of_triGX hT hf hc hle hx hfin hr s)) ?_;rintro e w' ⟨x, M', ρ', rfl, _, _, hv, s'⟩;exact ⟨x, M', ρ', rfl, s'.ext, hv, s'.sr⟩
 cases o with
 | norm t H' => obtain ⟨v, h1, h2⟩ := ho; exact key v H' ⟨t, .inl rfl, h2⟩ h1
 | ret t H' => obtain ⟨v, h1, h2⟩ := ho; exact key v H' ⟨t, .inr rfl, h2⟩ h1
 | pan v t H' =>
  refine ⟨.pan v H', ho, by simp, hent, fun M ρ w args hS hr => ?_⟩;have s : StX T M ρ w M ρ [] (Tm.init 0 []) H ([] ++ []) { tmps := #[], defers := [] } w := ⟨Ext.refl _ _ _, hS, relTm_zero, by simp, rfl, by simp, by simp⟩;refine Calls.mono (callsIn_wide.1 (calls_of_triGP hf hc hle hx hr s)) ?_;rintro e w' ⟨x, M', ρ', rfl, _, _, hv, s'⟩;exact ⟨x, M', ρ', rfl, s'.ext, hv, s'.sr⟩
 | exit id t H' => exact ho.elim
 | no => exact ho.elim
end
open Go Go.RowKit
section
variable {P : Program} {T : Tab} {M M' : Mem} {ρ ρ' : Ren} {w w' : World} {H H' : Heap} {t : Tm} {a : Act}
def relKV (M : Mem) (ρ : Ren) (l : List (V × V)) (es : List MapEntry) : Prop :=
 l.length = es.length ∧ ∀ (i : Nat) (p : V × V) (e : MapEntry), l[i]? = some p → es[i]? = some e → rel M ρ p.1 e.key ∧ rel M ρ p.2 e.val
theorem relKV.mono {l : List (V × V)} {es : List MapEntry} (hM : M.le M') (hρ : ρ <+: ρ') (h : relKV M ρ l es) : relKV M' ρ' l es :=
 ⟨h.1, fun i p e h1 h2 => ⟨rel_mono hM hρ _ _ (h.2 i p e h1 h2).1, rel_mono hM hρ _ _ (h.2 i p e h1 h2).2⟩⟩
theorem relKV.erase {l : List (V × V)} {es : List MapEntry} (h : relKV M ρ l es) (j : Nat) : relKV M ρ (l.eraseIdx j) (es.eraseIdx j) := by
 refine ⟨by rw [List.length_eraseIdx, List.length_eraseIdx, h.1], fun i p e h1 h2 => ?_⟩;rw [List.getElem?_eraseIdx] at h1 h2;by_cases hi : i < j
 ·rw [if_pos hi] at h1 h2; exact h.2 i p e h1 h2
 ·rw [if_neg hi] at h1 h2; exact h.2 _ p e h1 h2
theorem relKV_of : ∀ {l : List (V × V)} {es : List MapEntry}, relM M ρ (l.flatMap fun p => [p.1, p.2]) es → relKV M ρ l es
 | [], es, h => by
  have h : es = [] := by simpa [relM] using h
  subst h;exact ⟨rfl, fun i p e h1 => by simp at h1⟩
 | p :: l, es, h => by
  simp only [List.flatMap_cons, List.cons_append, List.nil_append, relM] at h;obtain ⟨e, r, rfl, h1, h2, h3⟩ := h;have ih := relKV_of h3;refine ⟨by simp [ih.1], fun i q e' k1 k2 => ?_⟩;cases i with
  | zero => simp at k1 k2; subst k1 k2; exact ⟨h1, h2⟩
  | succ i => simp at k1 k2; exact ih.2 i q e' k1 k2
theorem filter_erase : ∀ (L : List MapEntry) (j : Nat) (e : MapEntry), (L.map (·.born)).Nodup → L[j]? = some e → L.filter (fun x => !(x.born == e.born)) = L.eraseIdx j
 | [], j, e, _, h => by simp at h
 | x :: L, 0, e, hn, h => by
  simp at h;subst h;have hx : x.born ∉ L.map (·.born) := (List.nodup_cons.1 hn).1;simp only [List.filter_cons, beq_self_eq_true, Bool.not_true, Bool.false_eq_true, if_false, List.eraseIdx_zero, List.tail_cons];rw [List.filter_eq_self];intro y hy;have : y.born ≠ x.born := fun q => hx (q ▸ List.mem_map_of_mem hy);simpa using this
 | x :: L, j + 1, e, hn, h => by
  simp at h;have hn' := List.nodup_cons.1 hn;have hx : x.born ≠ e.born := fun q => by
   have := List.mem_map_of_mem (f := fun x : MapEntry => x.born) (List.mem_of_getElem? h);rw [← q] at this;exact hn'.1 this
  have : (!(x.born == e.born)) = true := by simpa using hx
  simp only [List.filter_cons, this, if_true, List.eraseIdx_cons_succ];rw [filter_erase L j e hn'.2 h]
theorem left_list (es : Array MapEntry) (seen : Array Nat) : (leftOf es seen).toList = es.toList.filter fun e => !seen.contains e.born := by
 unfold leftOf;exact Array.toList_filter ..
theorem left_push {es : Array MapEntry} {seen : Array Nat} {j : Nat} {e : MapEntry} (hn : (es.toList.map (·.born)).Nodup) (h : (leftOf es seen).toList[j]? = some e) : (leftOf es (seen.push e.born)).toList = (leftOf es seen).toList.eraseIdx j := by
 have hn2 : ((leftOf es seen).toList.map (·.born)).Nodup := by
  rw [left_list];exact hn.sublist ((List.filter_sublist ..).map _)
 rw [← filter_erase _ _ _ hn2 h, left_list, left_list, List.filter_filter];congr 1;funext x;rw [contains_push];cases hx : seen.contains x.born <;> cases hy : x.born == e.born <;> rfl
theorem run_next_at {l b clock : Nat} {seen : Array Nat} {es : Array MapEntry} (ty : TypeId) (hl : w.heap[l]? = some (.mapIter (some b) clock seen clock)) (hb : w.heap[b]? = some (.map es clock)) (hold : ∀ x ∈ es.toList, x.born < clock) :
 ((leftOf es seen).toList = [] ∧ (Instr.next (.pointer (some ⟨l, 0, none⟩)) false ty).run P w = .ok (.tuple #[.bool false]) w) ∨
 ∃ (j : Nat) (e : MapEntry), (leftOf es seen).toList[j]? = some e ∧ ∃ w1 : World, (w1 = w ∨ w1 = { w with drawn := w.drawn + 1 }) ∧ (Instr.next (.pointer (some ⟨l, 0, none⟩)) false ty).run P w = .ok (.tuple #[.bool true, e.key, e.val]) (w1.putObj l (.mapIter (some b) clock (seen.push e.born) clock)) := by
 simp only [Instr.next, getObj, Sem.run_bind, Sem.run, hl, hb, Result.andThen, next_test_false seen es clock clock hold (Nat.le_refl _), Bool.false_eq_true, if_false];unfold leftOf;have hmem : ∀ x ∈ (Array.filter (fun e => !seen.contains e.born) es).toList, x.born < clock := fun x hx => hold x (by simp at hx ⊢; exact hx.1);generalize Array.filter (fun e => !seen.contains e.born) es = L at hmem ⊢;have e1 : L.filter (fun x => decide (x.born < clock)) = L := Array.filter_eq_self.2 (fun x hx => by simpa using hmem x (by simpa using hx));have e2 : L.filter (fun x => decide (x.born ≥ clock)) = #[] := by
  rw [Array.filter_eq_empty_iff];intro x hx;have := hmem x (by simpa using hx);simp;omega
 simp only [e1, e2, Array.append_empty];by_cases h0 : L.size = 0
 ·left;have : L = #[] := Array.eq_empty_of_size_eq_zero h0;subst this;refine ⟨rfl, ?_⟩;simp [choose, Sem.run, Question.forced]
 ·right;have hne : L.isEmpty = false := by simp [Array.isEmpty, h0]
  simp only [hne, Bool.false_eq_true, if_false, Array.empty_append, Array.size_map];have hch : ∃ (j : Nat) (w1 : World), j < L.size ∧ (w1 = w ∨ w1 = { w with drawn := w.drawn + 1 }) ∧ (choose (Question.mapNext L.size)).run P w = .ok j w1 := by
   by_cases hf : L.size ≤ 1
   ·exact ⟨0, w, by omega, .inl rfl, by simp [choose, Sem.run, Question.forced, hf]⟩
   ·exact ⟨_, _, Nat.mod_lt _ (by omega), .inr rfl, by
     simp only [choose, Sem.run, Question.forced, decide_eq_true_eq, hf, if_false, Question.cut];rfl⟩
  obtain ⟨j, w1, hj, hw1, hrun⟩ := hch;have hl1 : w1.heap[l]? = some (.mapIter (some b) clock seen clock) := by rcases hw1 with rfl | rfl <;> exact hl
  refine ⟨j, L[j], by simp [hj], w1, hw1, ?_⟩;simp only [hrun, Array.getElem?_map, Array.getElem?_eq_getElem hj, Option.map_some, Sem.run_bind, Result.andThen, setObj, Sem.run, hl1];rfl
theorem run_entry_at {l b clock : Nat} {seen : Array Nat} {es : Array MapEntry} {e : MapEntry} (hl : w.heap[l]? = some (.mapIter (some b) clock (seen.push e.born) clock)) (hb : w.heap[b]? = some (.map es clock)) (he : e ∈ es.toList) (hn : (es.toList.map (·.born)).Nodup) :
 (Instr.entry (.pointer (some ⟨l, 0, none⟩))).run P w = .ok (.tuple #[e.key, e.val]) w := by
 have hf : es.find? (·.born == e.born) = some e := by rw [← Array.find?_toList]; exact find_born e es.toList hn he
 simp only [Instr.entry, getObj, Sem.run_bind, Sem.run, hl, hb, Result.andThen, Array.back?_push, bne_self_eq_false, Bool.false_eq_true, if_false, hf];rfl
structure ItrOK (M : Mem) (ρ : Ren) (w : World) (l : Nat) (left : List (V × V)) : Prop where
  ex : ∃ (b clock : Nat) (es : Array MapEntry) (seen : Array Nat), Hid l (.mapIter (some b) clock seen clock) M ρ w ∧ M b = some (.map es clock) ∧ StampOK es.toList clock ∧ relKV M ρ left (leftOf es seen).toList
theorem ItrOK.ext {l : Nat} {left : List (V × V)} (h : ItrOK M ρ w l left) (he : Ext M ρ w M' ρ' w') : ItrOK M' ρ' w' l left := by
 obtain ⟨b, clock, es, seen, h1, h2, h3, h4⟩ := h;exact ⟨b, clock, es, seen, h1.ext he, he.mem _ _ h2, h3, h4.mono he.mem he.pre⟩
def rndN (it : Nat) (v : V) (J : Tm → Heap → Prop) (Q : Out → Prop) : Out → Prop
 | .norm t H => t.get it = v ∧ J t H
 | o => Q o
theorem rel_tup {l : List V} (cs : List Value) (h : relL M ρ l cs) : rel M ρ (.tup l) (.tuple cs.toArray) := by
 simp only [rel];exact ⟨cs, rfl, h⟩
theorem step_sem {o : Oper} {K : Act → World → Prop} {Q : Exit → Act → World → Prop} {s : Sem Value} {x : Value} (hexec : execOp a.eval o = (do Pure.pure (.value (← s)))) (hr : s.run P w = .ok x w') (h : K (a.put o.dst x) w') : o.wp P a w K Q := by
 unfold Oper.wp;rw [hexec];simp only [Sem.run_bind, hr, Result.andThen_ok, Sem.run_pure, Oper.upon];exact h
theorem mapLoop (hT : TOk P T) {call : CallF} (hC : call.Sound P T) {b c d f it te : Nat} {opsC opsF : Array Oper} {oN oY : Oper} {rC rF : List Oper} {X : Code} {I : List (V × V) → Tm → Heap → Prop} {Q : Out → Prop}
    (hc : opsC.toList = oN :: rC) (hN : oN.op = .next (.tmp it) false) (gN : oN.guard = none) (hf : opsF.toList = oY :: rF) (hY : oY.op = .entry (.tmp it)) (gY : oY.guard = none)
    (hround : ∀ (left : List (V × V)) (t : Tm) (H : Heap) (j : Nat) (k v : V), I left t H → left[j]? = some (k, v) → ∃ t1 H1 t2 H2, t.fits oN.dst = true ∧ evSeq (evOp T call) opsC rC (t.put oN.dst (.tup [.b true, k, v])) H = .norm t1 H1 ∧ t1.get te = .b true ∧ t1.get it = t.get it ∧ t1.fits oY.dst = true ∧
      evSeq (evOp T call) opsF rF (t1.put oY.dst (.tup [k, v])) H1 = .norm t2 H2 ∧ t2.get it = t.get it ∧ NTri P T X t2 H2 (inBlkN d (rndN it (t.get it) (I (left.eraseIdx j)) Q)))
    (hend : ∀ (t : Tm) (H : Heap), I [] t H → ∃ t1 H1, t.fits oN.dst = true ∧ evSeq (evOp T call) opsC rC (t.put oN.dst (.tup [.b false])) H = .norm t1 H1 ∧ t1.get te = .b false ∧ Q (.exit b t1 H1)) :
    ∀ (n : Nat) (left : List (V × V)) (t : Tm) (H : Heap), left.length < n → I left t H → ∀ (M0 : Mem) (ρ0 : Ren) (w0 : World) (a : Act) (w : World) (M : Mem) (ρ : Ren) (R : Exit → Act → World → Prop) (l : Nat), Ext M0 ρ0 w0 M ρ w → w0.heap.size ≤ l → SR T M ρ H w → relTm M ρ t a.tmps → t.get it = .itr l → ItrOK M ρ w l left →
      (∀ o, Q o → OutOK T M0 ρ0 w0 R a.defers o) → Code.rounds P (.seq (.region c opsC false) (.seq (.cond (.tmp te) .skip (.exit b)) (.block d (.seq (.region f opsF false) X)))) R n a w := by
  intro n
  induction n with
  | zero => intro left t H h; omega
  | succ n ih =>
    intro left t H hn hI M0 ρ0 w0 a w M ρ R l he hl0 hS ht hit hitr hQ
    rw [rounds_succ]
    obtain ⟨bm, clock, es, seen, hid, hfrz, hst, hkv⟩ := hitr
    have hbm := hS.frozen _ _ hfrz
    have hv : a.eval (.tmp it) = .pointer (some ⟨l, 0, none⟩) := by
      have := ht.2 it
      rw [hit] at this
      simp only [rel] at this
      exact this
    have hexN : execOp a.eval oN = (do Pure.pure (.value (← Instr.next (.pointer (some ⟨l, 0, none⟩)) false oN.type))) := by simp [execOp, hN, hv]
    refine wp_seq (wp_region_list ?_)
    rw [hc]
    refine wpList_step fun K hK => ?_
    rw [show Region.wanted oN (yielded opsC a.tmps) = true from by simp [Region.wanted, gN]]
    simp only [if_true]
    rcases run_next_at (P := P) oN.type hid.at_ hbm hst.1 with ⟨hnil, hrun⟩ | ⟨j, e, hej, w1, hw1, hrun⟩
    · have hleft : left = [] := by
        have := hkv.1
        rw [hnil] at this
        exact List.length_eq_zero_iff.1 this
      subst hleft
      obtain ⟨t1, H1, hfit, hev, hte, hq⟩ := hend t H hI
      refine step_sem hexN hrun (hK _ _ (evSeq_ok hT hC opsC rC _ H _ w M ρ hS (put_rel ht (rel_tup [.bool false] (relL_cons (show rel M ρ (.b false) (.bool false) by simp [rel]) relL_nil)) oN.dst hfit) ?_))
      rw [hev]
      intro a2 w2 M2 ρ2 e2 ht2 hS2 hd2
      rw [put_defers'] at hd2
      refine wp_seq (wp_cond_false ?_ (wp_exit ?_))
      · have := ht2.2 te
        rw [hte] at this
        simp only [rel] at this
        exact this
      · exact hQ _ hq a2 w2 M2 ρ2 (he.trans e2) ht2 hS2 hd2
    · obtain ⟨p, hp⟩ : ∃ p, left[j]? = some p := by
        have h1 := (List.getElem?_eq_some_iff.1 hej).1
        rw [← hkv.1] at h1
        exact ⟨_, List.getElem?_eq_getElem h1⟩
      obtain ⟨rk, rv⟩ := hkv.2 j p e hp hej
      obtain ⟨t1, H1, t2, H2, hfit, hev, hte, hit1, hfit2, hev2, hit2, hX⟩ := hround left t H j p.1 p.2 hI hp
      have hem : e ∈ es.toList := (mem_left (List.mem_of_getElem? hej)).1
      have hw1S : SR T M ρ H w1 := by
        rcases hw1 with rfl | rfl
        · exact hS
        · exact hS.drew
      have hw1E : Ext M0 ρ0 w0 M ρ w1 := by
        rcases hw1 with rfl | rfl
        · exact he
        · exact he.trans (Ext.drew M ρ w)
      have hid1 : Hid l (.mapIter (some bm) clock seen clock) M ρ w1 := by
        rcases hw1 with rfl | rfl
        · exact hid
        · exact ⟨hid.at_, hid.free, hid.un⟩
      have hid2 := hid1.put (.mapIter (some bm) clock (seen.push e.born) clock)
      have hS2 := sr_put (o' := .mapIter (some bm) clock (seen.push e.born) clock) hw1S hid1
      have hE2 := ext_put (o' := .mapIter (some bm) clock (seen.push e.born) clock) hw1E hl0
      have hlt2 : ItrOK M ρ (w1.putObj l (.mapIter (some bm) clock (seen.push e.born) clock)) l (left.eraseIdx j) := ⟨bm, clock, es, _, hid2, hfrz, hst, by rw [left_push hst.2 hej]; exact hkv.erase j⟩
      refine step_sem hexN hrun (hK _ _ (evSeq_ok hT hC opsC rC _ H _ _ M ρ hS2 (put_rel ht (rel_tup [.bool true, e.key, e.val] (relL_cons (show rel M ρ (.b true) (.bool true) by simp [rel]) (relL_cons rk (relL_cons rv relL_nil)))) oN.dst hfit) ?_))
      rw [hev]
      intro a3 w3 M3 ρ3 e3 ht3 hS3 hd3
      rw [put_defers'] at hd3
      refine wp_seq (wp_cond_true ?_ (wp_skip ?_))
      · have := ht3.2 te
        rw [hte] at this
        simp only [rel] at this
        exact this
      refine wp_block (wp_seq (wp_region_list ?_))
      rw [hf]
      refine wpList_step fun K2 hK2 => ?_
      rw [show Region.wanted oY (yielded opsF a3.tmps) = true from by simp [Region.wanted, gY]]
      simp only [if_true]
      have hid3 := hid2.ext e3
      have hv3 : a3.eval (.tmp it) = .pointer (some ⟨l, 0, none⟩) := by
        have := ht3.2 it
        rw [hit1, hit] at this
        simp only [rel] at this
        exact this
      have hexY : execOp a3.eval oY = (do Pure.pure (.value (← Instr.entry (.pointer (some ⟨l, 0, none⟩))))) := by simp [execOp, hY, hv3]
      refine step_sem hexY (run_entry_at hid3.at_ (hS3.frozen _ _ (e3.mem _ _ hfrz)) hem hst.2) (hK2 _ _ (evSeq_ok hT hC opsF rF _ H1 _ _ M3 ρ3 hS3 (put_rel ht3 (rel_tup [e.key, e.val] (relL_cons (rel_mono e3.mem e3.pre _ _ rk) (relL_cons (rel_mono e3.mem e3.pre _ _ rv) relL_nil))) oY.dst hfit2) ?_))
      rw [hev2]
      intro a4 w4 M4 ρ4 e4 ht4 hS4 hd4
      rw [put_defers'] at hd4
      have hE4 := (hE2.trans e3).trans e4
      have hi4 := (hlt2.ext e3).ext e4
      refine hX a4 w4 M4 ρ4 _ hS4 ht4 fun o ho => ?_
      have again : ∀ (t' : Tm) (H' : Heap), rndN it (t.get it) (I (left.eraseIdx j)) Q (.norm t' H') → ∀ a' w' M' ρ', Ext M4 ρ4 w4 M' ρ' w' → relTm M' ρ' t' a'.tmps → SR T M' ρ' H' w' → a'.defers = a4.defers →
          Code.rounds P (.seq (.region c opsC false) (.seq (.cond (.tmp te) .skip (.exit b)) (.block d (.seq (.region f opsF false) X)))) R n a' w' := by
        intro t' H' hr a' w' M' ρ' e5 ht5 hS5 hd5
        obtain ⟨hit5, hI5⟩ := hr
        refine ih (left.eraseIdx j) t' H' ?_ hI5 M0 ρ0 w0 a' w' M' ρ' R l (hE4.trans e5) hl0 hS5 ht5 (hit5.trans hit) (hi4.ext e5) ?_
        · have h1 := (List.getElem?_eq_some_iff.1 hp).1
          rw [List.length_eraseIdx, if_pos h1]
          omega
        · rw [hd5, hd4, hd3]; exact hQ
      have pass : ∀ o2, Q o2 → OutOK T M4 ρ4 w4 R a4.defers o2 := fun o2 h2 => by
        rw [hd4, hd3]; exact (hQ o2 h2).later hE4
      cases o with
      | norm t' H' => exact again t' H' ho
      | exit i t' H' =>
        simp only [inBlkN] at ho
        by_cases hid' : i = d
        · rw [if_pos hid'] at ho
          intro a' w' M' ρ' e5 ht5 hS5 hd5
          simp only [Exit.then, Exit.inBlock]
          rw [if_pos hid']
          exact again t' H' ho a' w' M' ρ' e5 ht5 hS5 hd5
        · rw [if_neg hid'] at ho
          intro a' w' M' ρ' e5 ht5 hS5 hd5
          simp only [Exit.then, Exit.inBlock]
          rw [if_neg hid']
          exact pass _ ho a' w' M' ρ' e5 ht5 hS5 hd5
      | ret t' H' => exact pass _ ho
      | pan v t' H' => exact pass _ ho
      | no => exact (pass _ ho).elim
theorem SR.still (hS : SR T M ρ H w) {n b c : Nat} {blk : Blk} {o : Obj} (hn : H[n]? = some (some blk)) (hr : ρ[n]? = some (b, c)) (hM : M b = none) (ho : w.heap[b]? = some o) :
 SR T (fun k => if k = b then some o else M k) ρ (H.set n none) w ∧ Ext M ρ w (fun k => if k = b then some o else M k) ρ w := by
 have hle : M.le (fun k => if k = b then some o else M k) := fun k x hk => by
  show (if k = b then some o else M k) = some x;rw [if_neg (fun e => by rw [e, hM] at hk; cases hk)];exact hk
 have hset : ∀ {m : Nat} {z : Blk}, (H.set n none)[m]? = some (some z) → m ≠ n ∧ H[m]? = some (some z) := by
  intro m z hm;rw [List.getElem?_set] at hm;by_cases e : n = m
  ·rw [if_pos e] at hm;split at hm <;> cases hm
  ·rw [if_neg e] at hm;exact ⟨fun q => e q.symm, hm⟩
 refine ⟨⟨?_, by simp [hS.len], ?_, ?_, ?_, fun g hg => ?_⟩, ⟨rfl, rfl, rfl, Nat.le_refl _, hle, List.prefix_refl _, fun _ _ _ => rfl, fun k _ hk => ?_, fun k q hq => .inl ⟨q, hq⟩⟩⟩
 ·intro k x hk;split at hk
  ·rename_i e; subst e; cases hk; exact ho
  ·exact hS.frozen k x hk
 ·intro m z hm;obtain ⟨hne, hm⟩ := hset hm;obtain ⟨b', c', h1, h2, h3, h4⟩ := hS.blk m z hm;refine ⟨b', c', h1, ?_, h3, h4.mono hle (List.prefix_refl _)⟩;rw [if_neg]
  ·exact h2
  ·intro e;subst e;exact hne (hS.inj m n z blk b' c' c hm hn h1 hr)
 ·intro m k x y b' c' c'' h1 h2 h3 h4;exact hS.inj m k x y b' c' c'' (hset h1).2 (hset h2).2 h3 h4
 ·intro g l hg;obtain ⟨cs, ty, fr, h1, h2⟩ := hS.glob g l hg;exact ⟨cs, ty, fr, hle _ _ h1, relL_mono hle (List.prefix_refl _) _ _ h2⟩
 ·obtain ⟨m, ty, fr, h1⟩ := hS.gint g hg;exact ⟨m, ty, fr, hle _ _ h1⟩
 ·rw [if_neg (fun e => by subst e; exact hk c (List.mem_of_getElem? hr))]
theorem NTri.rangeMap (hT : TOk P T) {call : CallF} (hC : call.Sound P T) {ia b c d f it te x mt kt et n : Nat} {opsA opsC opsF : Array Oper} {oR oN oY : Oper} {rC rF : List Oper} {X : Code} (q : Nat) (I : List (V × V) → Tm → Heap → Prop) {Q : Out → Prop} {t1 : Tm} {H1 : Heap} {blk : Blk} (kvs : List (V × V))
    (hA : opsA.toList = opsA.toList.take q ++ [oR]) (hR : oR.op = .range mt (.tmp x)) (gR : oR.guard = none) (dR : oR.dst = some it) (hev : evSeq (evOp T call) opsA (opsA.toList.take q) t H = .norm t1 H1) (hfit : t1.fits (some it) = true) (hx : t1.get x = .mp n) (hb : mapAt H1 n = some blk) (hbc : blk.cells = kvs.flatMap fun p => [p.1, p.2]) (hall : H1.all Option.isSome = true) (hu : T.und mt = some (.map kt et))
    (hI : ∀ l, I kvs (t1.put (some it) (.itr l)) (H1.set n none))
    (hc : opsC.toList = oN :: rC) (hN : oN.op = .next (.tmp it) false) (gN : oN.guard = none) (hf : opsF.toList = oY :: rF) (hY : oY.op = .entry (.tmp it)) (gY : oY.guard = none)
    (hround : ∀ (left : List (V × V)) (t : Tm) (H : Heap) (j : Nat) (k v : V), I left t H → left[j]? = some (k, v) → ∃ t1 H1 t2 H2, t.fits oN.dst = true ∧ evSeq (evOp T call) opsC rC (t.put oN.dst (.tup [.b true, k, v])) H = .norm t1 H1 ∧ t1.get te = .b true ∧ t1.get it = t.get it ∧ t1.fits oY.dst = true ∧
      evSeq (evOp T call) opsF rF (t1.put oY.dst (.tup [k, v])) H1 = .norm t2 H2 ∧ t2.get it = t.get it ∧ NTri P T X t2 H2 (inBlkN d (rndN it (t.get it) (I (left.eraseIdx j)) (inBlkN b Q))))
    (hend : ∀ (t : Tm) (H : Heap), I [] t H → ∃ t1 H1, t.fits oN.dst = true ∧ evSeq (evOp T call) opsC rC (t.put oN.dst (.tup [.b false])) H = .norm t1 H1 ∧ t1.get te = .b false ∧ Q (.norm t1 H1)) :
    NTri P T (.seq (.region ia opsA false) (.block b (.loop (.seq (.region c opsC false) (.seq (.cond (.tmp te) .skip (.exit b)) (.block d (.seq (.region f opsF false) X))))))) t H Q := by
  intro a w M ρ R hS ht hQ
  refine wp_seq (wp_region_list ?_)
  rw [hA]
  have split : ∀ (l : List Oper) (t : Tm) (H : Heap) (a : Act) (w : World) (M : Mem) (ρ : Ren) (Q : Exit → Act → World → Prop), SR T M ρ H w → relTm M ρ t a.tmps → evSeq (evOp T call) opsA l t H = .norm t1 H1 →
      (∀ a' w' M' ρ', Ext M ρ w M' ρ' w' → relTm M' ρ' t1 a'.tmps → SR T M' ρ' H1 w' → a'.defers = a.defers → wpList P opsA Q [oR] a' w') → wpList P opsA Q (l ++ [oR]) a w := by
    intro l
    induction l with
    | nil =>
      intro t H a w M ρ Q hS ht h k
      cases h
      exact k a w M ρ (Ext.refl _ _ _) ht hS rfl
    | cons o l ih =>
      intro t H a w M ρ Q hS ht h k
      simp only [evSeq, putK_eq, opened_eq] at h
      rw [List.cons_append]
      refine wpList_step fun K hK => ?_
      split at h
      · rename_i hw
        rw [wants_ok ht.2 hw]
        simp only [if_true]
        split at h
        · rename_i v H2 hv
          split at h
          · rename_i hfit
            refine evOp_ok hT hC hS ht.2 (r := .val v H2) hv ?_
            intro x M' ρ' w' he hx hS'
            refine hK _ _ (ih _ H2 _ w' M' ρ' Q hS' (put_rel (relTm_mono he.mem he.pre ht) hx o.dst hfit) h ?_)
            intro a' w2 M2 ρ2 he2 ht2 hS2 hd
            rw [put_defers'] at hd
            exact k a' w2 M2 ρ2 (he.trans he2) ht2 hS2 hd
          · cases h
        · cases h
        · cases h
      · rename_i hw
        rw [wants_ok ht.2 hw]
        simp only [Bool.false_eq_true, if_false]
        split at h
        · rename_i hfit
          refine hK _ _ (ih _ H _ w M ρ Q hS (put_rel ht rel_undef o.dst hfit) h ?_)
          intro a' w2 M2 ρ2 he2 ht2 hS2 hd
          rw [put_defers'] at hd
          exact k a' w2 M2 ρ2 he2 ht2 hS2 hd
        · cases h
      · cases h
  refine split (opsA.toList.take q) t H a w M ρ _ hS ht hev ?_
  intro a1 w1 M1 ρ1 e1 ht1 hS1 hd1
  refine wpList_step fun K hK => ?_
  rw [show Region.wanted oR (yielded opsA a1.tmps) = true from by simp [Region.wanted, gR]]
  simp only [if_true]
  obtain ⟨bm, cm, es, clock, hr, hMb, hheap, hrel, hst⟩ := hS1.map hb
  have hbn := (mapAt_some hb).1
  obtain ⟨hS2, he2⟩ := hS1.still hbn hr hMb hheap
  have hv : a1.eval (.tmp x) = .map (some bm) := by
    have := ht1.2 x
    rw [hx] at this
    simp only [rel] at this
    obtain ⟨b', c', h1, h2⟩ := this
    rw [hr] at h1
    cases h1
    exact h2
  have hexR : execOp a1.eval oR = (do Pure.pure (.value (← Instr.range mt (.map (some bm))))) := by simp [execOp, hR, hv]
  refine step_sem hexR (run_range_map w1 mt kt et bm es.toArray clock (hT.und _ _ hu) hheap) (hK _ _ (wpList_nil ?_))
  have un := unused hS1 hall
  have hbl : bm < w1.heap.size := (Array.getElem?_eq_some_iff.1 hheap).1
  refine wp_block (wp_loop_rounds (kvs.length + 1) ?_)
  have hS3 := sr_alloc hS2 (.mapIter (some bm) clock #[] clock)
  have he3 := (he2.trans (ext_alloc (M := fun k => if k = bm then some (.map es.toArray clock) else M1 k) (ρ := ρ1) (w := w1) (.mapIter (some bm) clock #[] clock)))
  have hid : Hid w1.heap.size (.mapIter (some bm) clock #[] clock) (fun k => if k = bm then some (.map es.toArray clock) else M1 k) ρ1 (w1.alloc (.mapIter (some bm) clock #[] clock)) := by
    refine ⟨heap_alloc_new _ _, ?_, (un _ (Nat.le_refl _)).2⟩
    rw [if_neg (by omega)]
    exact (un _ (Nat.le_refl _)).1
  have hleft : leftOf es.toArray #[] = es.toArray := by
    unfold leftOf
    exact Array.filter_eq_self.2 (fun x _ => by simp)
  refine mapLoop hT hC hc hN gN hf hY gY (I := I) (Q := inBlkN b Q) hround ?_ (kvs.length + 1) kvs (t1.put (some it) (.itr w1.heap.size)) (H1.set n none) (by omega) (hI _) M1 ρ1 w1 (a1.put oR.dst (.pointer (some ⟨w1.heap.size, 0, none⟩))) _ _ ρ1 _ w1.heap.size he3 (Nat.le_refl _) hS3 ?_ ?_ ?_ ?_
  · intro t H hi
    obtain ⟨t2, H2, k1, k2, k3, k4⟩ := hend t H hi
    refine ⟨t2, H2, k1, k2, k3, ?_⟩
    simp only [inBlkN, if_true]
    exact k4
  · rw [dR]
    exact put_rel (relTm_mono he2.mem he2.pre ht1) (by simp only [rel]) (some it) hfit
  · rw [Tm.get_put]; simp [put]
  · refine ⟨bm, clock, es.toArray, #[], hid, by simp, by simpa using hst, ?_⟩
    rw [hleft]
    refine (relKV_of ?_).mono he2.mem he2.pre
    rw [← hbc]
    simpa using hrel
  · intro o ho
    rw [put_defers', hd1]
    cases o with
    | norm t' H' => exact (hQ _ ho).later e1
    | exit i t' H' =>
      simp only [inBlkN] at ho
      by_cases hi : i = b
      · rw [if_pos hi] at ho
        intro a' w' M' ρ' e5 ht5 hS5 hd5
        simp only [Exit.inBlock]
        rw [if_pos hi]
        exact (hQ _ ho).later e1 a' w' M' ρ' e5 ht5 hS5 hd5
      · rw [if_neg hi] at ho
        intro a' w' M' ρ' e5 ht5 hS5 hd5
        simp only [Exit.inBlock]
        rw [if_neg hi]
        exact (hQ _ ho).later e1 a' w' M' ρ' e5 ht5 hS5 hd5
    | ret t' H' => exact (hQ _ ho).later e1
    | pan v t' H' => exact (hQ _ ho).later e1
    | no => exact (hQ _ ho).elim
end
open Go
section
variable {P : Program} {T : Tab}
theorem evFunR_step (hT : TOk P T) {reg : CallF → RegF} (hreg : ∀ call : CallF, call.Sound P T → RegF.Sound P T (reg call)) {G : Gam} {n : Nat} (ih : (evFunR T reg G n).Sound P T) {f : FuncId} {vs : List V} {H : Heap} {r : OR} (hg : G f vs H = none) (h : evFunR T reg G (n + 1) f vs H = r) (hr : r ≠ .no) :
 Go.Proofs.Enters P f ∧ ∀ M ρ w args, SR T M ρ H w → relL M ρ vs args → CallOK P T f args.toArray M ρ w r := by
 simp only [evFunR, hg] at h
 ·split at h
  ·exact absurd h.symm hr
  ·rename_i fn hfn;split at h
   ·exact absurd h.symm hr
   ·rename_i c hc;obtain ⟨hf, hent⟩ := hT.func f fn c hfn hc;refine ⟨hent, fun M ρ w args hS hargs => ?_⟩;have hR := hreg _ ih;have hL := evLoop_ok (P := P) (T := T) hR n;cases hw : Nat.ble vs.length fn.ntmps with
    | false => rw [hw] at h; exact absurd h.symm hr
    | true =>
    rw [hw] at h;simp only [cond_true] at h;have hle : vs.length ≤ fn.ntmps := Nat.le_of_ble_eq_true hw;have hl := relL_length hargs;have htm : relTm M ρ (Tm.init fn.ntmps vs) (args.toArray ++ Array.replicate (fn.ntmps - args.toArray.size) undef) := by
     refine ⟨by simp [Tm.init]; omega, fun k => ?_⟩;simp only [Tm.init, Tm.get];rw [Tr.get_fill, if_pos (Nat.zero_le _), Nat.sub_zero];simp only [Tr.get, Array.getD_eq_getD_getElem?];by_cases hk : k < vs.length
     ·rw [Array.getElem?_append_left (by simp; omega)];obtain ⟨x, hx, hxr⟩ := relL_get hargs (i := k) (v := vs[k]) (List.getElem?_eq_getElem hk);rw [List.getElem?_eq_getElem hk];simp only [List.getElem?_toArray, hx, Option.getD_some];exact hxr
     ·rw [List.getElem?_eq_none (by omega)];have : ((args.toArray ++ Array.replicate (fn.ntmps - args.toArray.size) undef)[k]?).getD undef = undef := by
       rw [Array.getElem?_append_right (by simp; omega), Array.getElem?_replicate];split <;> rfl
      rw [this];exact rel_undef
    have key := fun R => evCode_ok (P := P) (T := T) hR hL c (Tm.init fn.ntmps vs) H { tmps := args.toArray ++ Array.replicate (fn.ntmps - args.toArray.size) undef, defers := [] } w M ρ (bodyPost P fn R) hS htm;cases hev : evCode (reg (evFunR T reg G n)) (evLoop (reg (evFunR T reg G n)) n) c (Tm.init fn.ntmps vs) H with
    | norm t' H' =>
     rw [hev] at h;simp only at h;cases r with
     | no => trivial
     | pan v H2 => exact absurd h finish_no_pan
     | val v H2 =>
      refine calls_of_wp hf hc ((key _ ?_).1);rw [hev];intro a' w' M' ρ' he ht' hS' hd;obtain ⟨rfl, x, hx, hxr⟩ := results_ok hT hS' ht'.2 h;exact ⟨hd, x, hx, x, M', ρ', rfl, he, hxr, hS'⟩
    | ret t' H' =>
     rw [hev] at h;simp only at h;cases r with
     | no => trivial
     | pan v H2 => exact absurd h finish_no_pan
     | val v H2 =>
      refine calls_of_wp hf hc ((key _ ?_).1);rw [hev];intro a' w' M' ρ' he ht' hS' hd;obtain ⟨rfl, x, hx, hxr⟩ := results_ok hT hS' ht'.2 h;exact ⟨hd, x, hx, x, M', ρ', rfl, he, hxr, hS'⟩
    | pan v t' H' =>
     rw [hev] at h;simp only at h;subst h;refine calls_of_wp hf hc ((key _ ?_).1);rw [hev];intro a' w' M' ρ' x he _ hx hS' hd;exact ⟨hd, x, M', ρ', rfl, he, hx, hS'⟩
    | exit id t' H' => rw [hev] at h; exact absurd h.symm hr
    | no => rw [hev] at h; exact absurd h.symm hr
def Gam.SoundX (P : Program) (T : Tab) (G : Gam) : Prop :=
 ∀ f vs H r, G f vs H = some r → r ≠ .no → (Go.Proofs.Enters P f ∧ ∀ M ρ w args, SR T M ρ H w → relL M ρ vs args → CallOK P T f args.toArray M ρ w r) ∨ Direct P T f vs H r
theorem evFunR_okX (hT : TOk P T) {reg : CallF → RegF} (hreg : ∀ call : CallF, call.Sound P T → RegF.Sound P T (reg call)) {G : Gam} (hG : G.SoundX P T) : ∀ n, (evFunR T reg G n).Sound P T
 | 0 => fun f vs H r h hr => absurd h.symm hr
 | n + 1 => by
  intro f vs H r h hr;cases hg : G f vs H with
  | none => exact .inl (evFunR_step hT hreg (evFunR_okX hT hreg hG n) hg h hr)
  | some r' =>
   simp only [evFunR, hg] at h;subst h;exact hG f vs H _ hg hr
theorem evFun_okX (hT : TOk P T) {G : Gam} (hG : G.SoundX P T) {n : Nat} {f : FuncId} {vs : List V} {H : Heap} {r : OR} (hg : G f vs H = none) (h : evFun T G (n + 1) f vs H = r) (hr : r ≠ .no) :
    Go.Proofs.Enters P f ∧ ∀ M ρ w args, SR T M ρ H w → relL M ρ vs args → CallOK P T f args.toArray M ρ w r :=
  evFunR_step hT (fun _ h => evReg_ok hT h) (evFunR_okX hT (fun _ h => evReg_ok hT h) hG n) hg h hr
end
end Go.Ev
