/- Triples for loops over functions, facts of functions on heaps, regions that draw their order and turn the heap. Regions whose order is drawn, of which one operation panics. -/
import Derived.Test.YtmjplflnlggbeaaGreatDoorFEvWP
namespace Go.Ev
open Go Go.Proofs
set_option linter.unusedSimpArgs false
set_option linter.unusedVariables false
set_option linter.unnecessarySimpa false
open Go Go.RowKit
structure HE where
  l : Nat
  o : Obj
  t : Tm
  ts : Array Value
section
variable {P : Program} {T : Tab}
structure StX (T : Tab) (M0 : Mem) (ρ0 : Ren) (w0 : World) (M : Mem) (ρ : Ren) (ms : List Nat) (t : Tm) (H : Heap) (hs : List HE) (a : Act) (w : World) : Prop where
  ext : Ext M0 ρ0 w0 M ρ w
  sr : SR T M ρ H w
  tm : relTm M ρ t a.tmps
  hid : ∀ e ∈ hs, w0.heap.size ≤ e.l ∧ Hid e.l e.o M ρ w ∧ relTm M ρ e.t e.ts
  defs : a.defers = ms.map mark
  marks : ∀ D ∈ ms, w0.heap.size ≤ D ∧ Hid D (.deferred (some [])) M ρ w
  nd : (ms ++ hs.map HE.l).Nodup
variable {M0 M M' : Mem} {ρ0 ρ ρ' : Ren} {w0 w w' : World} {ms : List Nat} {t t' : Tm} {H H' : Heap} {hs hs' xs : List HE} {a a' : Act} {r : Option Nat} {c x y : Code} {id : Nat}
theorem StX.step (h : StX T M0 ρ0 w0 M ρ ms t H hs a w) (he : Ext M ρ w M' ρ' w') (ht : relTm M' ρ' t' a'.tmps) (hS : SR T M' ρ' H' w') (hd : a'.defers = a.defers) : StX T M0 ρ0 w0 M' ρ' ms t' H' hs a' w' :=
 ⟨h.ext.trans he, hS, ht, fun e hm => ⟨(h.hid e hm).1, (h.hid e hm).2.1.ext he, relTm_mono he.mem he.pre (h.hid e hm).2.2⟩, hd.trans h.defs, fun D hD => ⟨(h.marks D hD).1, (h.marks D hD).2.ext he⟩, h.nd⟩
theorem relTm_none : relTm M ρ (Tm.init 0 []) #[] := by
 have := relTm_init (M := M) (ρ := ρ) (vs := []) (args := []) (by simp only [relL]) (n := 0) (by simp);simpa using this
theorem StX.bare (h : StX T M0 ρ0 w0 M ρ ms t H hs a w) : StX T M0 ρ0 w0 M ρ ms (Tm.init 0 []) H hs { tmps := #[], defers := a.defers } w :=
 ⟨h.ext, h.sr, relTm_none, h.hid, h.defs, h.marks, h.nd⟩
def Behind (T : Tab) (M0 : Mem) (ρ0 : Ren) (w0 : World) (M : Mem) (ρ : Ren) (t : Tm) (H : Heap) (hs : List HE) (a' : Act) (w' : World) : Prop :=
 ∃ M' ρ' ms, M.le M' ∧ ρ <+: ρ' ∧ StX T M0 ρ0 w0 M' ρ' ms t H hs a' w'
def BehindP (T : Tab) (M0 : Mem) (ρ0 : Ren) (w0 : World) (M : Mem) (ρ : Ren) (v : V) (H : Heap) (hs : List HE) (ch : List PanicEntry) (a' : Act) (w' : World) : Prop :=
 ∃ x M' ρ' ms, ch = [{ v := x, recovered := false }] ∧ M.le M' ∧ ρ <+: ρ' ∧ rel M' ρ' v x ∧ StX T M0 ρ0 w0 M' ρ' ms (Tm.init 0 []) H hs { tmps := #[], defers := a'.defers } w'
def PostG (T : Tab) (M0 : Mem) (ρ0 : Ren) (w0 : World) (M : Mem) (ρ : Ren) (xs : List HE) (o : Out) (hs : List HE) (e : Exit) (a' : Act) (w' : World) : Prop :=
 match o, e with
 | .norm t H, .normal => Behind T M0 ρ0 w0 M ρ t H (hs ++ xs) a' w'
 | .exit id t H, .exit j => j = id ∧ Behind T M0 ρ0 w0 M ρ t H (hs ++ xs) a' w'
 | .ret t H, .ret => Behind T M0 ρ0 w0 M ρ t H (hs ++ xs) a' w'
 | .pan v t H, .panic ch => BehindP T M0 ρ0 w0 M ρ v H (hs ++ xs) ch a' w'
 | _, _ => False
theorem Behind.later (h1 : M.le M') (h2 : ρ <+: ρ') (h : Behind T M0 ρ0 w0 M' ρ' t H hs a' w') : Behind T M0 ρ0 w0 M ρ t H hs a' w' := by
 obtain ⟨M2, ρ2, ms, k1, k2, k3⟩ := h;exact ⟨M2, ρ2, ms, h1.trans k1, h2.trans k2, k3⟩
theorem BehindP.later {v : V} {ch : List PanicEntry} (h1 : M.le M') (h2 : ρ <+: ρ') (h : BehindP T M0 ρ0 w0 M' ρ' v H hs ch a' w') : BehindP T M0 ρ0 w0 M ρ v H hs ch a' w' := by
 obtain ⟨x, M2, ρ2, ms, e, k1, k2, k3, k4⟩ := h;exact ⟨x, M2, ρ2, ms, e, h1.trans k1, h2.trans k2, k3, k4⟩
theorem PostG.later {o : Out} {e : Exit} (h1 : M.le M') (h2 : ρ <+: ρ') (h : PostG T M0 ρ0 w0 M' ρ' xs o hs e a' w') : PostG T M0 ρ0 w0 M ρ xs o hs e a' w' := by
 cases o <;> cases e <;> first
  | exact Behind.later h1 h2 h
  | exact BehindP.later h1 h2 h
  | exact ⟨h.1, Behind.later h1 h2 h.2⟩
  | exact h
def TriGX (P : Program) (T : Tab) (r : Option Nat) (hs : List HE) (c : Code) (t : Tm) (H : Heap) (o : Out) (hs' : List HE) : Prop :=
 ∀ (M0 : Mem) (ρ0 : Ren) (w0 : World) (M : Mem) (ρ : Ren) (ms : List Nat) (xs : List HE) (a : Act) (w : World), StX T M0 ρ0 w0 M ρ ms t H (hs ++ xs) a w → WP r P c (PostG T M0 ρ0 w0 M ρ xs o hs') a w
def LTriGX (P : Program) (T : Tab) (r : Option Nat) (hs : List HE) (c : Code) (t : Tm) (H : Heap) (o : Out) (hs' : List HE) : Prop :=
 ∃ m, ∀ (M0 : Mem) (ρ0 : Ren) (w0 : World) (M : Mem) (ρ : Ren) (ms : List Nat) (xs : List HE) (a : Act) (w : World), StX T M0 ρ0 w0 M ρ ms t H (hs ++ xs) a w → WPRounds r P c (PostG T M0 ρ0 w0 M ρ xs o hs') m a w
def TriG (P : Program) (T : Tab) (r : Option Nat) (hs : List HE) (c : Code) (t : Tm) (H : Heap) (Q : Out → List HE → Prop) : Prop := ∃ o hs', Q o hs' ∧ TriGX P T r hs c t H o hs'
def LTriG (P : Program) (T : Tab) (r : Option Nat) (hs : List HE) (c : Code) (t : Tm) (H : Heap) (Q : Out → List HE → Prop) : Prop := ∃ o hs', Q o hs' ∧ LTriGX P T r hs c t H o hs'
variable {Q Q' : Out → List HE → Prop}
theorem TriG.mono (h : TriG P T r hs c t H Q) (hq : ∀ o k, Q o k → Q' o k) : TriG P T r hs c t H Q' := by
 obtain ⟨o, k, h1, h2⟩ := h;exact ⟨o, k, hq o k h1, h2⟩
theorem LTriG.mono (h : LTriG P T r hs c t H Q) (hq : ∀ o k, Q o k → Q' o k) : LTriG P T r hs c t H Q' := by
 obtain ⟨o, k, h1, h2⟩ := h;exact ⟨o, k, hq o k h1, h2⟩
theorem StX.behind (h : StX T M0 ρ0 w0 M ρ ms t H hs a w) : Behind T M0 ρ0 w0 M ρ t H hs a w := ⟨M, ρ, ms, Mem.le.refl _, List.prefix_refl _, h⟩
theorem TriG.skip (h : Q (.norm t H) hs) : TriG P T r hs .skip t H Q := ⟨_, _, h, fun M0 ρ0 w0 M ρ ms xs a w k => WP.of 0 (wpIn_skip k.behind)⟩
theorem TriG.exit (h : Q (.exit id t H) hs) : TriG P T r hs (.exit id) t H Q := ⟨_, _, h, fun M0 ρ0 w0 M ρ ms xs a w k => WP.of 0 (wpIn_exit ⟨rfl, k.behind⟩)⟩
theorem TriG.ret (h : Q (.ret t H) hs) : TriG P T r hs .ret t H Q := ⟨_, _, h, fun M0 ρ0 w0 M ρ ms xs a w k => WP.of 0 (wpIn_ret k.behind)⟩
theorem TriG.reg (hT : TOk P T) {call : CallF} (hC : call.Sound P T) {ops : Array Oper} (hnd : noDefer ops = true) (he : evReg T call ops false t H = .norm t' H') (h : Q (.norm t' H') hs) : TriG P T r hs (.region id ops false) t H Q :=
 ⟨_, _, h, fun M0 ρ0 w0 M ρ ms xs a w k => WP.of 0 (regIn_ok hT hC k.sr k.tm (noDefer_at hnd) he fun a' w' M' ρ' e1 ht hS hd => ⟨M', ρ', ms, e1.mem, e1.pre, k.step e1 ht hS hd⟩)⟩
theorem TriG.regP (hT : TOk P T) {call : CallF} (hC : call.Sound P T) {ops : Array Oper} (q : Nat) {t1 : Tm} {H1 : Heap} {o : Oper} {v : V} (hnd : noDefer ops = true) (hops : ops.toList = ops.toList.take q ++ o :: ops.toList.drop (q + 1)) 
 (he : evSeq (evOp T call) ops (ops.toList.take q) t H = .norm t1 H1) (hg : wants ops o t1.get = some true) (ho : evOp T call o t1.get H1 = .pan v H') (h : Q (.pan v t1 H') hs) : TriG P T r hs (.region id ops false) t H Q := by
 refine ⟨_, _, h, fun M0 ρ0 w0 M ρ ms xs a w k => WP.of 0 (wpIn_region_list ?_)⟩;rw [hops];refine evSeqIn_ok hT hC ops (o :: ops.toList.drop (q + 1)) (ops.toList.take q) t H a w M ρ _ _ k.sr k.tm (fun o' ho' => noDefer_at hnd o' (List.mem_of_mem_take ho')) he ?_;intro a1 w1 M1 ρ1 e1 ht1 hS1 hd1;unfold wpListIn;rw [wants_ok ht1.2 hg];simp only [if_true];refine wpIn_of_wp (noDefer_at hnd o (by rw [hops]; simp)) (evOp_ok hT hC hS1 ht1.2 (r := .pan v H') ho ?_);intro x M' ρ' w' he' hx hS';exact ⟨x, M', ρ', ms, rfl, e1.mem.trans he'.mem, e1.pre.trans he'.pre, hx, ((k.step e1 ht1 hS1 hd1).step he' (relTm_mono he'.mem he'.pre ht1) hS' (a' := a1) rfl).bare⟩
def Out.good : Out → Prop
 | .no => False
 | _ => True
theorem TriG.lift {Q2 : Out → Prop} (h : Tri P T c t H Q2) (hq : ∀ o, Q2 o → o.good ∧ Q o hs) : TriG P T none hs c t H Q := by
 obtain ⟨o, h1, h2⟩ := h;refine ⟨o, hs, (hq o h1).2, fun M0 ρ0 w0 M ρ ms xs a w k => ?_⟩;refine WP.of 0 ?_;show c.wpIn (FR none) 0 P _ a w;refine wpIn_wide.2 (h2 a w M ρ _ k.sr k.tm ?_);have hp := (hq o h1).1;cases o with
 | norm t' H' => exact fun a' w' M' ρ' e1 ht hS hd => ⟨M', ρ', ms, e1.mem, e1.pre, k.step e1 ht hS hd⟩
 | exit id t' H' => exact fun a' w' M' ρ' e1 ht hS hd => ⟨rfl, M', ρ', ms, e1.mem, e1.pre, k.step e1 ht hS hd⟩
 | ret t' H' => exact fun a' w' M' ρ' e1 ht hS hd => ⟨M', ρ', ms, e1.mem, e1.pre, k.step e1 ht hS hd⟩
 | pan v t' H' => exact fun a' w' M' ρ' x e1 ht hx hS hd => ⟨x, M', ρ', ms, rfl, e1.mem, e1.pre, hx, (k.step e1 (relTm_mono e1.mem e1.pre k.tm) hS (a' := { a with defers := a'.defers }) hd).bare⟩
 | no => exact hp.elim
def inSeqG (P : Program) (T : Tab) (r : Option Nat) (y : Code) (Q : Out → List HE → Prop) : Out → List HE → Prop
 | .norm t H, hs => TriG P T r hs y t H Q
 | o, hs => Q o hs
def inBlkG (id : Nat) (Q : Out → List HE → Prop) : Out → List HE → Prop
 | .exit j t H, hs => if j = id then Q (.norm t H) hs else Q (.exit j t H) hs
 | o, hs => Q o hs
def inLoopG (P : Program) (T : Tab) (r : Option Nat) (c : Code) (Q : Out → List HE → Prop) : Out → List HE → Prop
 | .norm t H, hs => LTriG P T r hs c t H Q
 | o, hs => Q o hs
theorem TriG.seq (h : TriG P T r hs x t H (inSeqG P T r y Q)) : TriG P T r hs (.seq x y) t H Q := by
 obtain ⟨o, k, h1, h2⟩ := h;cases o with
 | norm t1 H1 =>
  obtain ⟨o2, k2, h3, h4⟩ := h1;refine ⟨o2, k2, h3, fun M0 ρ0 w0 M ρ ms xs a w s => WP.seq (WP.mono (h2 M0 ρ0 w0 M ρ ms xs a w s) ?_)⟩;intro e a' w' hp;cases e with
  | normal =>
   obtain ⟨M', ρ', ms', q1, q2, s'⟩ := hp;exact WP.mono (h4 M0 ρ0 w0 M' ρ' ms' xs a' w' s') fun e2 a2 w2 hp2 => hp2.later q1 q2
  | _ => exact hp.elim
 | exit j t1 H1 =>
  refine ⟨_, k, h1, fun M0 ρ0 w0 M ρ ms xs a w s => WP.seq (WP.mono (h2 M0 ρ0 w0 M ρ ms xs a w s) ?_)⟩;intro e a' w' hp;cases e <;> first
   | exact hp.elim
   | exact hp
 | ret t1 H1 =>
  refine ⟨_, k, h1, fun M0 ρ0 w0 M ρ ms xs a w s => WP.seq (WP.mono (h2 M0 ρ0 w0 M ρ ms xs a w s) ?_)⟩;intro e a' w' hp;cases e <;> first
   | exact hp.elim
   | exact hp
 | pan v t1 H1 =>
  refine ⟨_, k, h1, fun M0 ρ0 w0 M ρ ms xs a w s => WP.seq (WP.mono (h2 M0 ρ0 w0 M ρ ms xs a w s) ?_)⟩;intro e a' w' hp;cases e <;> first
   | exact hp.elim
   | exact hp
 | no =>
  refine ⟨_, k, h1, fun M0 ρ0 w0 M ρ ms xs a w s => WP.seq (WP.mono (h2 M0 ρ0 w0 M ρ ms xs a w s) ?_)⟩;intro e a' w' hp;cases e <;> first
   | exact hp.elim
   | exact hp
theorem TriG.block (h : TriG P T r hs x t H (inBlkG id Q)) : TriG P T r hs (.block id x) t H Q := by
  obtain ⟨o, k, h1, h2⟩ := h
  have key : ∀ o2, (∀ (M0 : Mem) (ρ0 : Ren) (w0 : World) (M : Mem) (ρ : Ren) (xs : List HE) e a' w', PostG T M0 ρ0 w0 M ρ xs o k e a' w' → Exit.inBlock id (PostG T M0 ρ0 w0 M ρ xs o2 k) e a' w') → Q o2 k → TriG P T r hs (.block id x) t H Q :=
    fun o2 hq hQ => ⟨o2, k, hQ, fun M0 ρ0 w0 M ρ ms xs a w s => WP.block (WP.mono (h2 M0 ρ0 w0 M ρ ms xs a w s) (hq M0 ρ0 w0 M ρ xs))⟩
  cases o with
  | exit j t1 H1 =>
    simp only [inBlkG] at h1
    by_cases e : j = id
    · rw [if_pos e] at h1
      refine key _ ?_ h1
      intro M0 ρ0 w0 M ρ xs ex a' w' hp
      cases ex <;> first
        | exact hp.elim
        | (obtain ⟨e2, hp⟩ := hp
           simp only [Exit.inBlock]
           rw [if_pos (e2.trans e)]
           exact hp)
    · rw [if_neg e] at h1
      refine key _ ?_ h1
      intro M0 ρ0 w0 M ρ xs ex a' w' hp
      cases ex <;> first
        | exact hp.elim
        | (simp only [Exit.inBlock]
           rw [if_neg (fun q => e (hp.1.symm.trans q))]
           exact hp)
  | norm t1 H1 =>
    refine key _ ?_ h1
    intro M0 ρ0 w0 M ρ xs ex a' w' hp
    cases ex <;> first
      | exact hp.elim
      | exact hp
  | ret t1 H1 =>
    refine key _ ?_ h1
    intro M0 ρ0 w0 M ρ xs ex a' w' hp
    cases ex <;> first
      | exact hp.elim
      | exact hp
  | pan v t1 H1 =>
    refine key _ ?_ h1
    intro M0 ρ0 w0 M ρ xs ex a' w' hp
    cases ex <;> first
      | exact hp.elim
      | exact hp
  | no =>
    refine key _ ?_ h1
    intro M0 ρ0 w0 M ρ xs ex a' w' hp
    cases ex <;> first
      | exact hp.elim
      | exact hp
theorem TriG.cond {g : Operand} {b : Bool} {o : Option V} (hg : ev1 t.get g = o) (ho : o = some (.b b)) (h1 : b = true → TriG P T r hs x t H Q) (h2 : b = false → TriG P T r hs y t H Q) : TriG P T r hs (.cond g x y) t H Q := by
 subst ho;have hv : ∀ {M : Mem} {ρ : Ren} {a : Act}, relTm M ρ t a.tmps → a.eval g = .bool b := fun ht => by
  have := ev1_rel ht.2 hg;simpa only [rel] using this
 cases b with
 | true =>
  obtain ⟨o, k, ho, hx⟩ := h1 rfl;exact ⟨o, k, ho, fun M0 ρ0 w0 M ρ ms xs a w s => WP.cond (hv s.tm) (by simpa using hx M0 ρ0 w0 M ρ ms xs a w s)⟩
 | false =>
  obtain ⟨o, k, ho, hx⟩ := h2 rfl;exact ⟨o, k, ho, fun M0 ρ0 w0 M ρ ms xs a w s => WP.cond (hv s.tm) (by simpa using hx M0 ρ0 w0 M ρ ms xs a w s)⟩
theorem LTriG.round (h : TriG P T r hs c t H (inLoopG P T r c Q)) : LTriG P T r hs c t H Q := by
 obtain ⟨o, k, h1, h2⟩ := h;cases o with
 | norm t1 H1 =>
  obtain ⟨o2, k2, h3, m, h4⟩ := h1;refine ⟨o2, k2, h3, m + 1, fun M0 ρ0 w0 M ρ ms xs a w s => ?_⟩;refine WP.mono (h2 M0 ρ0 w0 M ρ ms xs a w s) ?_;intro e a' w' hp;cases e with
  | normal =>
   obtain ⟨M', ρ', ms', q1, q2, s'⟩ := hp;have := h4 M0 ρ0 w0 M' ρ' ms' xs a' w' s';exact WPRounds.mono (fun e2 a2 w2 hp2 => hp2.later q1 q2) m a' w' this
  | _ => exact hp.elim
 | exit j t1 H1 =>
  refine ⟨_, k, h1, 1, fun M0 ρ0 w0 M ρ ms xs a w s => WP.mono (h2 M0 ρ0 w0 M ρ ms xs a w s) ?_⟩;intro e a' w' hp;cases e <;> first
   | exact hp.elim
   | exact hp
 | ret t1 H1 =>
  refine ⟨_, k, h1, 1, fun M0 ρ0 w0 M ρ ms xs a w s => WP.mono (h2 M0 ρ0 w0 M ρ ms xs a w s) ?_⟩;intro e a' w' hp;cases e <;> first
   | exact hp.elim
   | exact hp
 | pan v t1 H1 =>
  refine ⟨_, k, h1, 1, fun M0 ρ0 w0 M ρ ms xs a w s => WP.mono (h2 M0 ρ0 w0 M ρ ms xs a w s) ?_⟩;intro e a' w' hp;cases e <;> first
   | exact hp.elim
   | exact hp
 | no =>
  refine ⟨_, k, h1, 1, fun M0 ρ0 w0 M ρ ms xs a w s => WP.mono (h2 M0 ρ0 w0 M ρ ms xs a w s) ?_⟩;intro e a' w' hp;cases e <;> first
   | exact hp.elim
   | exact hp
theorem TriG.loop (h : LTriG P T r hs c t H Q) : TriG P T r hs (.loop c) t H Q := by
 obtain ⟨o, k, h1, m, h2⟩ := h;exact ⟨o, k, h1, fun M0 ρ0 w0 M ρ ms xs a w s => WP.loop m (h2 M0 ρ0 w0 M ρ ms xs a w s)⟩
end
open Go Go.RowKit
noncomputable def putL (t : Tm) : List Nat → List V → Tm
 | p :: ps, v :: vs => putL (t.put (some p) v) ps vs
 | _, _ => t
section
variable {P : Program} {T : Tab} {M0 M M' : Mem} {ρ0 ρ ρ' : Ren} {w0 w w' : World} {ms : List Nat} {t t' : Tm} {H H' : Heap} {hs hs' xs : List HE} {a a' : Act} {r : Option Nat} {c x y : Code} {id : Nat} {Q : Out → List HE → Prop}
theorem relTm_foldl : ∀ (ps : List Nat) (vs : List V) (args : List Value) (t : Tm) (ts : Array Value), relTm M ρ t ts → relL M ρ vs args → (∀ p ∈ ps, p < t.wid) →
    relTm M ρ (putL t ps vs) ((ps.zip args).foldl (fun (tmps : Array Value) (x : Nat × Value) => tmps.setIfInBounds x.1 x.2) ts)
  | [], vs, args, t, ts, h, _, _ => by simpa [putL] using h
  | p :: ps, [], args, t, ts, h, hr, _ => by
    simp only [relL] at hr
    subst hr
    simpa [putL] using h
  | p :: ps, v :: vs, args, t, ts, h, hr, hp => by
    simp only [relL] at hr
    obtain ⟨x, r, rfl, hx, hr⟩ := hr
    simp only [putL, List.zip_cons_cons, List.foldl_cons]
    refine relTm_foldl ps vs r _ _ (put_rel (a := { tmps := ts, defers := [] }) h hx (some p) ?_) hr (fun q hq => by rw [Tm.wid_put]; exact hp q (List.mem_cons_of_mem _ hq))
    have := hp p (by simp)
    simp only [Tm.fits]
    rw [Nat.blt_eq]; exact this
theorem foldl_zip (params : Array Nat) (args : List Value) (ts : Array Value) : (params.zip args.toArray).foldl (fun tmps (x : Nat × Value) => match x with | (t, a) => tmps.setIfInBounds t a) ts = (params.toList.zip args).foldl (fun (tmps : Array Value) (x : Nat × Value) => tmps.setIfInBounds x.1 x.2) ts := by
 rw [← Array.foldl_toList, Array.toList_zip]
theorem StX.turn {e : HE} (o' : Obj) (h : StX T M0 ρ0 w0 M ρ ms t H (e :: hs) a w) : StX T M0 ρ0 w0 M ρ ms t H ({ e with o := o' } :: hs) a (w.putObj e.l o') := by
 obtain ⟨h1, h2, h3⟩ := h.hid e (by simp);have hnd := h.nd;rw [List.map_cons, List.nodup_append] at hnd;obtain ⟨n1, n2, n3⟩ := hnd;rw [List.nodup_cons] at n2;refine ⟨ext_put h.ext h1, sr_put h.sr h2, h.tm, ?_, h.defs, ?_, ?_⟩
 ·intro f hf;rcases List.mem_cons.1 hf with rfl | hf
  ·exact ⟨h1, h2.put o', h3⟩
  ·obtain ⟨k1, k2, k3⟩ := h.hid f (by simp [hf]);refine ⟨k1, k2.other ?_, k3⟩;intro e2;exact n2.1 (e2 ▸ List.mem_map_of_mem hf)
 ·intro D hD;obtain ⟨k1, k2⟩ := h.marks D hD;exact ⟨k1, k2.other (n3 D hD e.l (by simp))⟩
 ·simpa using h.nd
noncomputable def mE (D : Nat) : HE := ⟨D, .deferred (some []), Tm.init 0 [], #[]⟩
theorem relTm_zero : relTm M ρ (Tm.init 0 []) #[] := relTm_none
theorem mE_l (ms : List Nat) : (ms.map mE).map HE.l = ms := by
 induction ms with
 | nil => rfl
 | cons D ms ih => simp [mE, ih]
theorem StX.down (h : StX T M0 ρ0 w0 M ρ ms t H hs a w) (ht : relTm M ρ t' a'.tmps) (hd : a'.defers = []) : StX T M0 ρ0 w0 M ρ [] t' H (hs ++ ms.map mE) a' w := by
 refine ⟨h.ext, h.sr, ht, ?_, by simpa using hd, by simp, ?_⟩
 ·intro e he;rcases List.mem_append.1 he with he | he
  ·exact h.hid e he
  ·obtain ⟨D, hD, rfl⟩ := List.mem_map.1 he;exact ⟨(h.marks D hD).1, (h.marks D hD).2, relTm_zero⟩
 ·rw [List.nil_append, List.map_append, mE_l];exact (List.perm_append_comm.nodup_iff).1 h.nd
theorem StX.up {ms2 : List Nat} (h : StX T M0 ρ0 w0 M ρ ms2 t H (hs ++ ms.map mE) a w) (ht : relTm M ρ t' a'.tmps) (hd : a'.defers = ms.map mark) : StX T M0 ρ0 w0 M ρ ms t' H hs a' w := by
 refine ⟨h.ext, h.sr, ht, fun e he => h.hid e (List.mem_append_left _ he), hd, fun D hD => ?_, ?_⟩
 ·obtain ⟨k1, k2, _⟩ := h.hid (mE D) (List.mem_append_right _ (List.mem_map_of_mem hD));exact ⟨k1, k2⟩
 ·have := h.nd;rw [List.map_append, mE_l, List.nodup_append] at this;exact (List.perm_append_comm.nodup_iff).1 this.2.1
theorem StX.sub {k : List HE} (h : StX T M0 ρ0 w0 M ρ ms t H (k ++ hs) a w) : StX T M0 ρ0 w0 M ρ ms t H hs a w := by
 refine ⟨h.ext, h.sr, h.tm, fun e he => h.hid e (List.mem_append_right _ he), h.defs, h.marks, ?_⟩;have := h.nd;rw [List.map_append] at this;rw [List.nodup_append] at this ⊢;obtain ⟨n1, n2, n3⟩ := this;rw [List.nodup_append] at n2;exact ⟨n1, n2.2.1, fun a ha b hb => n3 a ha b (List.mem_append_right _ hb)⟩
theorem evSeqIn_end' (hT : TOk P T) {call : CallF} (hcall : call.Sound P T) (ops : Array Oper) {r : Option Nat} {n : Nat} {Q : Exit → Act → World → Prop} {l : List Oper} {t : Tm} {H : Heap} {a : Act} {w : World} {M : Mem} {ρ : Ren} {t' : Tm} {H' : Heap} (hS : SR T M ρ H w) (ht : relTm M ρ t a.tmps)
 (hnd : ∀ o ∈ l, ∀ c, o.op ≠ .defer c) (h : evSeq (evOp T call) ops l t H = .norm t' H')
 (k : ∀ a' w' M' ρ', Ext M ρ w M' ρ' w' → relTm M' ρ' t' a'.tmps → SR T M' ρ' H' w' → a'.defers = a.defers → Q .normal a' w') : wpListIn (FR r) n P ops Q l a w := by
 have := evSeqIn_ok hT hcall ops (r := r) (n := n) (Q := Q) [] l t H a w M ρ t' H' hS ht hnd h k;rwa [List.append_nil] at this
noncomputable def BodyQ (T : Tab) (call : CallF) (ops : Array Oper) (q : Nat) (o : Oper) (t1 : Tm) (l : Nat) (rec : Loop) (t0 : Tm) (Q : Out → List HE → Prop) : Out → List HE → Prop := fun o2 hs4 =>
 ∃ hs5, hs4 = ⟨l, .loop { rec with state := .busy }, t0, rec.tmps⟩ :: hs5 ∧ ∃ (j : Option Code) (HB : Heap), (match o2 with
  | .norm _ H => j = none ∧ HB = H
  | .ret _ H => j = some .ret ∧ HB = H
  | .exit id _ H => j = some (.exit id) ∧ HB = H
  | _ => False) ∧ ∃ t2 H2, evSeq (evOp T call) ops (ops.toList.drop (q + 1)) (t1.put o.dst (.b j.isNone)) HB = .norm t2 H2 ∧ Q (.norm t2 H2) (⟨l, .loop { rec with state := if j.isNone then .ready else .done, pending := j }, t0, rec.tmps⟩ :: hs5)
theorem yield_okP {r : Option Nat} {n l k : Nat} {o : Oper} {K : Act → World → Prop} {Q : Exit → Act → World → Prop} {c : Call} {t : Tm} {vs : List V} {rec : Loop} (ht : relTm M ρ t a.tmps)
 (ho : o.op = .call c) (hc : c.callee = .value (.tmp k)) (hk : t.get k = .yld l) (hvs : evs t.get c.args.toList = some vs) (hl : w.heap[l]? = some (.loop rec)) (hlen : vs.length = rec.params.size)
 (h : ∀ args : List Value, relL M ρ vs args → RoundIn (FR r) (n - 1) P l rec.fn ((rec.params.zip args.toArray).foldl (fun tmps (t, a) => tmps.setIfInBounds t a) rec.tmps) rec.assign rec.body w fun e w' => match e with | .panicked ch => Q (.panic ch) a w' | _ => False) : o.wpIn (FR r) n P a w K Q := by
 have hv := ht.2 k;rw [hk] at hv;simp only [rel] at hv;have hrel := evs_rel ht.2 hvs;have hsz : (c.args.map a.eval).size = rec.params.size := by
  have := relL_length hrel;simp at this;simp [this, ← hlen]
 refine ⟨fun f _ => trivial, ?_⟩;rw [Oper.semAt_eq _ _ _ (fun c' e => by rw [ho] at e; cases e)];have hy := run_yield (P := P) (args := c.args.map a.eval) hl hsz;have hexec : (execOp a.eval o).run P w = .ok (.round l rec.fn ((rec.params.zip (c.args.map a.eval)).foldl (fun tmps (t, a) => tmps.setIfInBounds t a) rec.tmps) rec.assign rec.body) w := by
  have h1 : a.eval (.tmp k) = .func (.yield l) #[] #[] := hv;simp [execOp, ho, resolve, hc, h1, Deferred.ofValue, invoke, hy]
 rw [hexec, Oper.uponIn_round];refine ⟨fun e => (by cases e), ?_⟩;have := h (c.args.toList.map a.eval) hrel;have e2 : (c.args.toList.map a.eval).toArray = c.args.map a.eval := by apply Array.ext'; simp
 rw [e2] at this;refine this.mono fun e w' he => ?_;cases e with
 | returned v => exact he.elim
 | panicked chain => exact he
 | outgrown => exact he.elim
theorem StX.take {D : Nat} (h : StX T M0 ρ0 w0 M ρ (D :: ms) t H hs a w) (hd : a'.defers = ms.map mark) (ht : a'.tmps = a.tmps) : StX T M0 ρ0 w0 M ρ ms t H hs a' (w.putObj D (.deferred none)) := by
 obtain ⟨k1, k2⟩ := h.marks D (by simp);have hnd := h.nd;rw [List.cons_append, List.nodup_cons] at hnd;refine ⟨ext_put h.ext k1, sr_put h.sr k2, ht ▸ h.tm, ?_, hd, ?_, hnd.2⟩
 ·intro e he;obtain ⟨j1, j2, j3⟩ := h.hid e he;refine ⟨j1, j2.other ?_, j3⟩;intro e2;exact hnd.1 (List.mem_append_right _ (e2 ▸ List.mem_map_of_mem he))
 ·intro D' hD';obtain ⟨j1, j2⟩ := h.marks D' (by simp [hD']);refine ⟨j1, j2.other ?_⟩;intro e2;exact hnd.1 (List.mem_append_left _ (e2 ▸ hD'))
theorem leaves_panM {n : Nat} {fn : Func} {ts : Array Value} {ch : List PanicEntry} {R : Ending → World → Prop} {hs : List HE} : ∀ (ms : List Nat) (a : Act) (w : World), StX T M0 ρ0 w0 M ρ ms (Tm.init 0 []) H hs a w →
    (∀ a' w', StX T M0 ρ0 w0 M ρ [] (Tm.init 0 []) H hs a' w' → R (.panicked ch) w') → LeavesInM Fence.wide n P fn ts R a.defers (.panicking ch) w
  | [], a, w, s, k => by
    rw [s.defs]
    exact k _ _ s
  | D :: ms, a, w, s, k => by
    have kD := s.marks D (by simp)
    have ih := leaves_panM (n := n) (fn := fn) (ts := ts) (ch := ch) (R := R) ms { a with defers := ms.map mark } _ (s.take rfl rfl) k
    rw [s.defs]
    exact ⟨by simp, .inl ⟨D, _, rfl, run_takeDeferred kD.2.at_, ih⟩⟩
theorem TriG.yield (hT : TOk P T) {call : CallF} (hC : call.Sound P T) {ops : Array Oper} (hnd : noDefer ops = true) (q : Nat) {j l : Nat} {ops2 : List Operand} {vs : List V} {o : Oper} {rec : Loop} {t0 t1 : Tm} {H1 : Heap} {hs1 : List HE} {ps : Array Nat} {asg body : Code} (hP : rec.params = ps) (hA : rec.assign = asg) (hB : rec.body = body)
    (hops : ops.toList = ops.toList.take q ++ o :: ops.toList.drop (q + 1)) (h1 : evSeq (evOp T call) ops (ops.toList.take q) t H = .norm t1 H1) (hg : wants ops o t1.get = some true) (ho : callTmp o = some (j, ops2)) (hj : t1.get j = .yld l) (hvs : evs t1.get ops2 = some vs)
    (hfn : ∃ f, P.funcs[rec.fn]? = some f) (hlen : vs.length = ps.size) (hst : rec.state = .ready) (hfit : t1.fits o.dst = true) (hps : ∀ p ∈ ps.toList, p < t0.wid)
    (hround : TriG P T (some l) (⟨l, .loop rec, t0, rec.tmps⟩ :: hs1) asg (putL t0 ps.toList vs) H1 fun o1 hs2 => ∃ tA HA hs3, o1 = .norm tA HA ∧ hs2 = ⟨l, .loop rec, t0, rec.tmps⟩ :: hs3 ∧
      TriG P T (some l) (⟨l, .loop { rec with state := .busy }, t0, rec.tmps⟩ :: hs3) body tA HA (BodyQ T call ops q o t1 l rec t0 Q)) :
    TriG P T r (⟨l, .loop rec, t0, rec.tmps⟩ :: hs1) (.region id ops false) t H Q := by
  subst hP hA hB
  obtain ⟨o1, hs2, ⟨tA, HA, hs3, rfl, rfl, o2, hs4, ⟨hs5, rfl, jm, HB, hm, t2, H2, he2, hQ⟩, hbody⟩, hasg⟩ := hround
  refine ⟨_, _, hQ, fun M0 ρ0 w0 M ρ ms xs a w s => WP.of 0 (wpIn_region_list ?_)⟩
  rw [hops]
  refine evSeqIn_ok hT hC ops (o :: ops.toList.drop (q + 1)) (ops.toList.take q) t H a w M ρ _ _ s.sr s.tm (fun o' ho' => noDefer_at hnd o' (List.mem_of_mem_take ho')) h1 ?_
  intro a1 w1 M1 ρ1 e1 ht1 hS1 hd1
  have s1 := s.step e1 ht1 hS1 hd1
  obtain ⟨c, k1, k2, k3⟩ := callTmp_at ho
  unfold wpListIn
  rw [wants_ok ht1.2 hg]
  simp only [if_true]
  have hE := s1.hid ⟨l, .loop rec, t0, rec.tmps⟩ (by simp)
  refine yield_ok ht1 k1 k2 hj (by rw [k3]; exact hvs) hE.2.1.at_ hlen ?_
  intro args hargs
  refine WP.round hfn ?_
  have hfold : relTm M1 ρ1 (putL t0 rec.params.toList vs) ((rec.params.zip args.toArray).foldl (fun tmps (x : Nat × Value) => match x with | (t, a) => tmps.setIfInBounds t a) rec.tmps) := by
    rw [foldl_zip]
    exact relTm_foldl _ _ _ _ _ hE.2.2 hargs hps
  have sA := s1.down (t' := putL t0 rec.params.toList vs) (a' := { tmps := (rec.params.zip args.toArray).foldl (fun tmps (x : Nat × Value) => match x with | (t, a) => tmps.setIfInBounds t a) rec.tmps, defers := [] }) hfold rfl
  rw [List.append_assoc] at sA
  refine WP.mono (hasg M0 ρ0 w0 M1 ρ1 [] (xs ++ ms.map mE) _ w1 sA) ?_
  intro e a2 w2 hp
  cases e with
  | normal =>
    obtain ⟨M2, ρ2, ms2, q1, q2, sB⟩ := hp
    rw [List.cons_append] at sB
    have hE2 := sB.hid ⟨l, .loop rec, t0, rec.tmps⟩ (by simp)
    refine ⟨_, run_beginRound hE2.2.1.at_ hst, ?_⟩
    have sC := sB.turn (.loop { rec with state := .busy })
    refine WP.mono (hbody M0 ρ0 w0 M2 ρ2 ms2 (xs ++ ms.map mE) a2 _ (by rw [List.cons_append]; exact sC)) ?_
    intro e3 a3 w3 hp3
    have fin : ∀ (jm' : Option Code) (tB : Tm), jm' = jm → Behind T M0 ρ0 w0 M2 ρ2 tB HB (⟨l, .loop { rec with state := .busy }, t0, rec.tmps⟩ :: hs5 ++ (xs ++ ms.map mE)) a3 w3 →
        ∃ v w', (Instr.endRound l jm').run P w3 = .ok v w' ∧ (match (Ending.returned v : Ending) with | .returned v => wpListIn (FR r) 0 P ops (PostG T M0 ρ0 w0 M ρ xs (.norm t2 H2) (⟨l, .loop { rec with state := if jm.isNone then .ready else .done, pending := jm }, t0, rec.tmps⟩ :: hs5)) (ops.toList.drop (q + 1)) (a1.put o.dst v) w' | _ => False) := by
      intro jm' tB ej hb
      subst ej
      obtain ⟨M3, ρ3, ms3, q3, q4, sD⟩ := hb
      rw [List.cons_append] at sD
      have hE3 := sD.hid ⟨l, .loop { rec with state := .busy }, t0, rec.tmps⟩ (by simp)
      refine ⟨_, _, run_endRound jm' hE3.2.1.at_, ?_⟩
      have sE := sD.turn (.loop { rec with state := if jm'.isNone then .ready else .done, pending := jm' })
      rw [← List.cons_append, ← List.append_assoc] at sE
      have hmem := (q1.trans q3)
      have hpre := (q2.trans q4)
      have htm : relTm M3 ρ3 (t1.put o.dst (.b jm'.isNone)) (a1.put o.dst (.bool jm'.isNone)).tmps := put_rel (relTm_mono hmem hpre ht1) (by simp only [rel]) o.dst hfit
      have sF := sE.up (a' := a1.put o.dst (.bool jm'.isNone)) htm (by rw [put_defers']; exact s1.defs)
      refine evSeqIn_end' hT hC ops sF.sr sF.tm (fun o' ho' => noDefer_at hnd o' (List.mem_of_mem_drop ho')) he2 ?_
      intro a4 w4 M4 ρ4 e4 ht4 hS4 hd4
      exact ⟨M4, ρ4, ms, (e1.mem.trans hmem).trans e4.mem, (e1.pre.trans hpre).trans e4.pre, sF.step e4 ht4 hS4 hd4⟩
    cases o2 <;> cases e3 <;> first
      | exact hp3.elim
      | exact hm.elim
      | (obtain ⟨rfl, rfl⟩ := hm
         exact fin _ _ rfl hp3)
      | (obtain ⟨rfl, rfl⟩ := hm
         obtain ⟨rfl, hp3⟩ := hp3
         exact fin _ _ rfl hp3)
  | _ => exact hp.elim
theorem TriG.yieldP (hT : TOk P T) {call : CallF} (hC : call.Sound P T) {ops : Array Oper} (hnd : noDefer ops = true) (q : Nat) {j l : Nat} {ops2 : List Operand} {vs : List V} {o : Oper} {rec : Loop} {t0 t1 : Tm} {H1 : Heap} {hs1 : List HE} {ps : Array Nat} {asg body : Code} (hP : rec.params = ps) (hA : rec.assign = asg) (hB : rec.body = body)
 (hops : ops.toList = ops.toList.take q ++ o :: ops.toList.drop (q + 1)) (h1 : evSeq (evOp T call) ops (ops.toList.take q) t H = .norm t1 H1) (hg : wants ops o t1.get = some true) (ho : callTmp o = some (j, ops2)) (hj : t1.get j = .yld l) (hvs : evs t1.get ops2 = some vs)
 (hfn : ∃ f, P.funcs[rec.fn]? = some f) (hlen : vs.length = ps.size) (hst : rec.state = .ready) (hps : ∀ p ∈ ps.toList, p < t0.wid)
 (hround : TriG P T (some l) (⟨l, .loop rec, t0, rec.tmps⟩ :: hs1) asg (putL t0 ps.toList vs) H1 fun o1 hs2 => ∃ tA HA hs3, o1 = .norm tA HA ∧ hs2 = ⟨l, .loop rec, t0, rec.tmps⟩ :: hs3 ∧
  TriG P T (some l) (⟨l, .loop { rec with state := .busy }, t0, rec.tmps⟩ :: hs3) body tA HA fun o2 hs4 => ∃ (v : V) (tB : Tm) (HB : Heap) (hs5 : List HE), o2 = .pan v tB HB ∧ hs4 = ⟨l, .loop { rec with state := .busy }, t0, rec.tmps⟩ :: hs5 ∧ Q (.pan v t1 HB) (⟨l, .loop { rec with state := .busy }, t0, rec.tmps⟩ :: hs5)) :
 TriG P T r (⟨l, .loop rec, t0, rec.tmps⟩ :: hs1) (.region id ops false) t H Q := by
 subst hP hA hB;obtain ⟨o1, hs2, ⟨tA, HA, hs3, rfl, rfl, o2, hs4, ⟨v, tB, HB, hs5, rfl, rfl, hQ⟩, hbody⟩, hasg⟩ := hround;refine ⟨_, _, hQ, fun M0 ρ0 w0 M ρ ms xs a w s => WP.of 0 (wpIn_region_list ?_)⟩;rw [hops];refine evSeqIn_ok hT hC ops (o :: ops.toList.drop (q + 1)) (ops.toList.take q) t H a w M ρ _ _ s.sr s.tm (fun o' ho' => noDefer_at hnd o' (List.mem_of_mem_take ho')) h1 ?_;intro a1 w1 M1 ρ1 e1 ht1 hS1 hd1;have s1 := s.step e1 ht1 hS1 hd1;obtain ⟨c, k1, k2, k3⟩ := callTmp_at ho;unfold wpListIn;rw [wants_ok ht1.2 hg];simp only [if_true];have hE := s1.hid ⟨l, .loop rec, t0, rec.tmps⟩ (by simp);refine yield_okP ht1 k1 k2 hj (by rw [k3]; exact hvs) hE.2.1.at_ hlen ?_;intro args hargs;refine WP.round hfn ?_;have hfold : relTm M1 ρ1 (putL t0 rec.params.toList vs) ((rec.params.zip args.toArray).foldl (fun tmps (x : Nat × Value) => match x with | (t, a) => tmps.setIfInBounds t a) rec.tmps) := by
  rw [foldl_zip];exact relTm_foldl _ _ _ _ _ hE.2.2 hargs hps
 have sA := s1.down (t' := putL t0 rec.params.toList vs) (a' := { tmps := (rec.params.zip args.toArray).foldl (fun tmps (x : Nat × Value) => match x with | (t, a) => tmps.setIfInBounds t a) rec.tmps, defers := [] }) hfold rfl;rw [List.append_assoc] at sA;refine WP.mono (hasg M0 ρ0 w0 M1 ρ1 [] (xs ++ ms.map mE) _ w1 sA) ?_;intro e a2 w2 hp;cases e with
 | normal =>
  obtain ⟨M2, ρ2, ms2, q1, q2, sB⟩ := hp;rw [List.cons_append] at sB;have hE2 := sB.hid ⟨l, .loop rec, t0, rec.tmps⟩ (by simp);refine ⟨_, run_beginRound hE2.2.1.at_ hst, ?_⟩;have sC := sB.turn (.loop { rec with state := .busy });refine WP.mono (hbody M0 ρ0 w0 M2 ρ2 ms2 (xs ++ ms.map mE) a2 _ (by rw [List.cons_append]; exact sC)) ?_;intro e3 a3 w3 hp3;have hp4 : PostG T M0 ρ0 w0 M2 ρ2 (xs ++ ms.map mE) (.pan v tB HB) (⟨l, .loop { rec with state := .busy }, t0, rec.tmps⟩ :: hs5) e3 a3 w3 := hp3;cases e3 with
  | panic ch =>
   obtain ⟨x, M3, ρ3, ms3, rfl, q3, q4, hx, sD⟩ := hp4;have sE : StX T M0 ρ0 w0 M3 ρ3 ms3 (Tm.init 0 []) HB (((⟨l, .loop { rec with state := .busy }, t0, rec.tmps⟩ :: hs5) ++ xs) ++ ms.map mE) { tmps := #[], defers := a3.defers } w3 := by rw [List.append_assoc]; exact sD
   have hd3 : a3.defers = ms3.map mark := sD.defs;refine ⟨fun d hd => ?_, fun fn => ?_⟩
   ·rw [hd3] at hd;obtain ⟨D, _, rfl⟩ := List.mem_map.1 hd;exact ⟨D, rfl⟩
   ·show LeavesInM Fence.wide 0 P fn a3.tmps _ ({ tmps := #[], defers := a3.defers } : Act).defers _ w3;refine leaves_panM ms3 _ w3 sE fun a' w' s' => ?_;have hmem := q1.trans q3;have hpre := q2.trans q4;exact ⟨x, M3, ρ3, ms, rfl, e1.mem.trans hmem, e1.pre.trans hpre, hx, s'.up relTm_none s1.defs⟩
  | _ => exact hp4.elim
 | _ => exact hp.elim
end
open Go Go.RowKit
section
variable {P : Program} {T : Tab} {M0 M M' : Mem} {ρ0 ρ ρ' : Ren} {w0 w w' : World} {ms : List Nat} {t t' : Tm} {H H' : Heap} {hs hs' xs : List HE} {a a' : Act} {r : Option Nat} {c x y : Code} {id : Nat} {Q : Out → List HE → Prop}
def PostC (T : Tab) (M0 : Mem) (ρ0 : Ren) (w0 : World) (M : Mem) (ρ : Ren) (v : V) (H : Heap) (hs : List HE) (e : Ending) (w' : World) : Prop :=
 ∃ x M' ρ', e = .returned x ∧ M.le M' ∧ ρ <+: ρ' ∧ rel M' ρ' v x ∧ StX T M0 ρ0 w0 M' ρ' [] (Tm.init 0 []) H hs { tmps := #[], defers := [] } w'
theorem leaves_marks (hT : TOk P T) {fn : Func} {v : V} (hf : finish T fn t.get H = .val v H) (h1 : M.le M') (h2 : ρ <+: ρ') : ∀ (ms : List Nat) (a : Act) (w : World), StX T M0 ρ0 w0 M' ρ' ms t H hs a w →
    LeavesInM Fence.wide 0 P fn a.tmps (PostC T M0 ρ0 w0 M ρ v H hs) a.defers .returning w
  | [], a, w, s => by
    rw [s.defs]
    obtain ⟨_, x, hx, hr⟩ := results_ok hT s.sr s.tm.2 hf
    exact ⟨x, hx, x, M', ρ', rfl, h1, h2, hr, ⟨s.ext, s.sr, relTm_zero, s.hid, rfl, by simp, s.nd⟩⟩
  | D :: ms, a, w, s => by
    have k := s.marks D (by simp)
    have ih := leaves_marks hT hf h1 h2 ms { a with defers := ms.map mark } _ (s.take rfl rfl)
    rw [s.defs]
    exact ⟨by simp, .inl ⟨D, _, rfl, run_takeDeferred k.2.at_, ih⟩⟩
theorem calls_of_triGX (hT : TOk P T) {f : FuncId} {fn : Func} {vs : List V} {args : List Value} {o : Out} {v : V} (hf : P.funcs[f]? = some fn) (hb : fn.body = some c) (hle : vs.length ≤ fn.ntmps)
 (h : TriGX P T none hs c (Tm.init fn.ntmps vs) H o hs') (ho : (∃ tI, (o = .norm tI H' ∨ o = .ret tI H') ∧ finish T fn tI.get H' = .val v H')) (hr : relL M ρ vs args)
 (s : StX T M0 ρ0 w0 M ρ [] t H (hs ++ xs) a w) : CallsIn Fence.wide 0 P f args.toArray w (PostC T M0 ρ0 w0 M ρ v H' (hs' ++ xs)) := by
 obtain ⟨tI, ho, hfin⟩ := ho;refine calls_of_WP hf hb ?_;have ht0 := relTm_init (M := M) (ρ := ρ) hr hle;refine WP.mono (h M0 ρ0 w0 M ρ [] xs _ w ⟨s.ext, s.sr, ht0, s.hid, rfl, by simp, s.nd⟩) ?_;intro e a' w' hp;have key : Behind T M0 ρ0 w0 M ρ tI H' (hs' ++ xs) a' w' → LeavesInM Fence.wide 0 P fn a'.tmps (PostC T M0 ρ0 w0 M ρ v H' (hs' ++ xs)) a'.defers .returning w' := by
  rintro ⟨M', ρ', ms, h1, h2, s'⟩;exact leaves_marks hT hfin h1 h2 ms a' w' s'
 rcases ho with rfl | rfl
 ·cases e <;> first
   | exact hp.elim
   | exact key hp
 ·cases e <;> first
   | exact hp.elim
   | exact key hp
def PostCP (T : Tab) (M0 : Mem) (ρ0 : Ren) (w0 : World) (M : Mem) (ρ : Ren) (v : V) (H : Heap) (hs : List HE) (e : Ending) (w' : World) : Prop :=
 ∃ x M' ρ', e = .panicked [{ v := x, recovered := false }] ∧ M.le M' ∧ ρ <+: ρ' ∧ rel M' ρ' v x ∧ StX T M0 ρ0 w0 M' ρ' [] (Tm.init 0 []) H hs { tmps := #[], defers := [] } w'
theorem calls_of_triGP {f : FuncId} {fn : Func} {vs : List V} {args : List Value} {tI : Tm} {v : V} (hf : P.funcs[f]? = some fn) (hb : fn.body = some c) (hle : vs.length ≤ fn.ntmps)
 (h : TriGX P T none hs c (Tm.init fn.ntmps vs) H (.pan v tI H') hs') (hr : relL M ρ vs args) (s : StX T M0 ρ0 w0 M ρ [] t H (hs ++ xs) a w) : CallsIn Fence.wide 0 P f args.toArray w (PostCP T M0 ρ0 w0 M ρ v H' (hs' ++ xs)) := by
 refine calls_of_WP hf hb ?_;have ht0 := relTm_init (M := M) (ρ := ρ) hr hle;refine WP.mono (h M0 ρ0 w0 M ρ [] xs _ w ⟨s.ext, s.sr, ht0, s.hid, rfl, by simp, s.nd⟩) ?_;intro e a' w' hp;cases e with
 | panic ch =>
  obtain ⟨x, M', ρ', ms, rfl, h1, h2, hx, s'⟩ := hp;show LeavesInM Fence.wide 0 P fn a'.tmps _ ({ tmps := #[], defers := a'.defers } : Act).defers _ w';refine leaves_panM ms _ w' s' fun a2 w2 s2 => ?_;exact ⟨x, M', ρ', rfl, h1, h2, hx, ⟨s2.ext, s2.sr, relTm_none, s2.hid, rfl, by simp, by simpa using s2.nd⟩⟩
 | _ => exact hp.elim
def HLe (H2 H : Heap) : Prop := H2.length = H.length ∧ ∀ (i : Nat) (b : Blk), H2[i]? = some (some b) → H[i]? = some (some b)
theorem HLe.refl (H : Heap) : HLe H H := ⟨rfl, fun _ _ h => h⟩
theorem SR.less {H2 : Heap} (h : HLe H2 H) (hS : SR T M ρ H w) : SR T M ρ H2 w where
 frozen := hS.frozen
 len := hS.len.trans h.1.symm
 blk n b hn := hS.blk n b (h.2 n b hn)
 inj n m x y b c c' h1 h2 := hS.inj n m x y b c c' (h.2 n x h1) (h.2 m y h2)
 glob := hS.glob
 gint := hS.gint
theorem StX.less {H2 : Heap} (h : HLe H2 H) (s : StX T M0 ρ0 w0 M ρ ms t H hs a w) : StX T M0 ρ0 w0 M ρ ms t H2 hs a w := ⟨s.ext, SR.less h s.sr, s.tm, s.hid, s.defs, s.marks, s.nd⟩
def RangeQ (T : Tab) (fn : Func) (l : Nat) (ts : Array Value) (t : Tm) (oz : Out) (hsz : List HE) : Out → List HE → Prop := fun o hs' =>
 ∃ (rec : Loop) (HI H2 : Heap) (v : V), HLe H2 HI ∧ (∃ tI, (o = .norm tI HI ∨ o = .ret tI HI) ∧ finish T fn tI.get HI = .val v HI) ∧ hs' = ⟨l, .loop rec, t, ts⟩ :: hsz ∧ rec.state ≠ .busy ∧
  ((rec.pending = none ∧ oz = .norm t H2) ∨ (rec.pending = some .ret ∧ oz = .ret t H2) ∨ ∃ id, rec.pending = some (.exit id) ∧ oz = .exit id t H2)
def RangeQP (T : Tab) (fn : Func) (l : Nat) (ts : Array Value) (t : Tm) (oz : Out) (hsz : List HE) : Out → List HE → Prop := fun o hs' =>
 RangeQ T fn l ts t oz hsz o hs' ∨ ∃ (rec : Loop) (v : V) (tI : Tm) (HI H2 : Heap), HLe H2 HI ∧ o = .pan v tI HI ∧ hs' = ⟨l, .loop rec, t, ts⟩ :: hsz ∧ oz = .pan v t H2
theorem unused (hS : SR T M ρ H w) (hH : H.all Option.isSome = true) : ∀ k, w.heap.size ≤ k → M k = none ∧ ∀ c, (k, c) ∉ ρ := by
 intro k hk;refine ⟨?_, fun c hc => ?_⟩
 ·cases h : M k with
  | none => rfl
  | some o =>
   have := hS.frozen k o h;rw [Array.getElem?_eq_none hk] at this;cases this
 ·obtain ⟨i, hi⟩ := List.mem_iff_getElem?.1 hc;have hil : i < H.length := by rw [← hS.len]; exact (List.getElem?_eq_some_iff.1 hi).1
  have h2 := List.all_eq_true.1 hH _ (List.getElem_mem hil);obtain ⟨blk, hb⟩ := Option.isSome_iff_exists.1 h2;obtain ⟨b, c', h3, _, h4, _⟩ := hS.blk i blk (by rw [List.getElem?_eq_getElem hil, hb]);rw [hi] at h3;cases h3;omega
theorem TriG.range (hT : TOk P T) {g : Operand} {ps : Array Nat} {assign body cf : Code} {f : FuncId} {caps : List V} {fnf : Func} {gv : Option V} (hg : ev1 t.get g = gv) (hgv : gv = some (.fn f caps)) (hf : P.funcs[f]? = some fnf) (hb : fnf.body = some cf) (hent : Go.Proofs.Enters P f)
 (hle : caps.length + 1 ≤ fnf.ntmps) (hH : H.all Option.isSome = true) {oz : Out} {hsz : List HE} (hQ : Q oz hsz)
 (h : ∀ (l : Nat) (rec : Loop), (∃ f, P.funcs[rec.fn]? = some f) → rec.state = .ready → rec.pending = none → rec.params = ps → rec.assign = assign → rec.body = body → TriG P T none (⟨l, .loop rec, t, rec.tmps⟩ :: hs) cf (Tm.init fnf.ntmps (.yld l :: caps)) H (RangeQP T fnf l rec.tmps t oz hsz)) :
 TriG P T none hs (.rangeFunc g ps assign body) t H Q := by
 subst hgv;refine ⟨oz, hsz, hQ, fun M0 ρ0 w0 M ρ ms xs a w s => WP.range fun fn hfn => ?_⟩;have hv := ev1_rel s.tm.2 hg;simp only [rel] at hv;obtain ⟨cs, hcv, hcs⟩ := hv;obtain ⟨rec, hrec⟩ : ∃ rec : Loop, rec = { state := .ready, pending := none, fn, tmps := a.tmps, params := ps, assign, body, defers := w.heap.size } := ⟨_, rfl⟩;obtain ⟨l, hl⟩ : ∃ l, w.heap.size + 1 = l := ⟨_, rfl⟩;obtain ⟨W1, hW1⟩ : ∃ W1, (w.alloc (.deferred (some []))).alloc (.loop rec) = W1 := ⟨_, rfl⟩;have nun := unused s.sr hH;have hS1 : SR T M ρ H W1 := by rw [← hW1]; exact sr_alloc (sr_alloc s.sr _) _
 have E1 : Ext M ρ w M ρ W1 := by rw [← hW1]; exact (ext_alloc _).trans (ext_alloc _)
 have hL : Hid l (.loop rec) M ρ W1 := ⟨by
  rw [← hW1, ← hl];have := World.alloc_heap_new (w.alloc (.deferred (some []))) (.loop rec);rwa [World.size_alloc] at this, (nun l (by omega)).1, (nun l (by omega)).2⟩
 have hK : Hid w.heap.size (.deferred (some [])) M ρ W1 := ⟨by
  rw [← hW1]; exact (Below.heap_alloc _ _ _ (by simp)).trans (World.alloc_heap_new w _), (nun _ (Nat.le_refl _)).1, (nun _ (Nat.le_refl _)).2⟩
 have hw0 : w0.heap.size ≤ w.heap.size := s.ext.size;have s1 : StX T M0 ρ0 w0 M ρ [] (Tm.init 0 []) H ((⟨l, .loop rec, t, rec.tmps⟩ :: hs) ++ (xs ++ (w.heap.size :: ms).map mE)) { tmps := #[], defers := [] } W1 := by
  have s0 := (s.step E1 (relTm_mono E1.mem E1.pre s.tm) hS1 (a' := a) rfl).down (t' := Tm.init 0 []) (a' := { tmps := #[], defers := [] }) relTm_zero rfl;have old : ∀ k ∈ ((hs ++ xs) ++ ms.map mE).map HE.l, k < w.heap.size := by
   intro k hk;rw [List.mem_map] at hk;obtain ⟨e, he, rfl⟩ := hk;rcases List.mem_append.1 he with he | he
   ·exact (s.hid e he).2.1.lt
   ·obtain ⟨D, hD, rfl⟩ := List.mem_map.1 he;exact (s.marks D hD).2.lt
  refine ⟨s0.ext, s0.sr, s0.tm, ?_, rfl, by simp, ?_⟩
  ·intro e he;simp only [List.cons_append, List.mem_cons, List.mem_append, List.map_cons] at he;rcases he with rfl | he | he | rfl | he
   ·exact ⟨by show w0.heap.size ≤ l; omega, hL, by rw [hrec]; exact s.tm⟩
   ·exact s0.hid e (by simp [he])
   ·exact s0.hid e (by simp [he])
   ·exact ⟨hw0, hK, relTm_zero⟩
   ·exact s0.hid e (List.mem_append_right _ he)
  ·have hn := s0.nd;simp only [List.nil_append] at hn ⊢;have p1 : (((⟨l, .loop rec, t, rec.tmps⟩ :: hs) ++ (xs ++ (w.heap.size :: ms).map mE)).map HE.l).Perm (l :: w.heap.size :: ((hs ++ xs) ++ ms.map mE).map HE.l) := by
    simp only [List.cons_append, List.map_cons, List.map_append, mE];refine List.Perm.cons _ ?_;rw [← List.append_assoc];exact List.perm_middle
   rw [p1.nodup_iff, List.nodup_cons, List.nodup_cons];refine ⟨?_, ?_, hn⟩
   ·intro hm;rcases List.mem_cons.1 hm with e | hm
    ·omega
    ·have := old _ hm; omega
   ·intro hm;have := old _ hm; omega
 refine ⟨l, [{ target := .collected w.heap.size, args := #[] }], W1, { target := .fn (.func f) cs.toArray, args := #[.func (.yield l) #[] #[]] }, W1, f,
  #[.func (.yield l) #[] #[]] ++ cs.toArray, W1, ?_, ?_, ?_, ?_⟩
 ·rw [← hW1, hrec, ← hl]; exact run_enterLoop_outer _ _ _ _ _
 ·have hev : a.eval g = .func (.func f) #[] cs.toArray := hcv;simp [resolve, hev, Deferred.ofValue]; rfl
 ·have := hent (#[.func (.yield l) #[] #[]] ++ cs.toArray) W1;simpa [invoke] using this
 ·obtain ⟨o, hs', hq, hbody⟩ := h l rec (by rw [hrec]; exact hfn) (by rw [hrec]) (by rw [hrec]) (by rw [hrec]) (by rw [hrec]) (by rw [hrec]);have hrelI : relL M ρ (.yld l :: caps) (.func (.yield l) #[] #[] :: cs) := relL_cons (by simp only [rel]) hcs;have hargs : (#[.func (.yield l) #[] #[]] ++ cs.toArray : Array Value) = (.func (.yield l) #[] #[] :: cs).toArray := by apply Array.ext'; simp
  rw [hargs];rcases hq with ⟨rec', HI, H2, v, hless, hfin, rfl, hbusy, hpend⟩ | ⟨rec', v, tI, HI, H2, hless, rfl, rfl, rfl⟩;case inr =>
   refine CallsIn.mono (calls_of_triGP hf hb (by simpa using hle) hbody hrelI s1) ?_;rintro e w3 ⟨x, M', ρ', rfl, h1, h2, hx, s3⟩;have s5 : StX T M0 ρ0 w0 M' ρ' [] (Tm.init 0 []) HI ((hsz ++ xs) ++ (w.heap.size :: ms).map mE) { tmps := #[], defers := [] } w3 := by
    rw [List.append_assoc];exact StX.sub (k := [_]) s3
   have s6 := s5.up (t' := Tm.init 0 []) (a' := { tmps := #[], defers := { target := .collected w.heap.size, args := #[] } :: a.defers }) relTm_none (by
    show mark w.heap.size :: a.defers = _;rw [s.defs]; rfl)
   exact ⟨x, M', ρ', _, rfl, h1, h2, hx, s6.less hless⟩
  refine CallsIn.mono (calls_of_triGX hT hf hb (by simpa using hle) hbody hfin hrelI s1) ?_;rintro e w3 ⟨x, M', ρ', rfl, h1, h2, _, s3⟩;rw [List.cons_append] at s3;have hE := s3.hid ⟨l, .loop rec', t, rec.tmps⟩ (by simp);refine ⟨rec'.pending, _, run_endLoop hE.2.1.at_ hbusy, ?_⟩;have s4 := s3.turn (.loop { rec' with state := .exhausted });have s5 : StX T M0 ρ0 w0 M' ρ' [] (Tm.init 0 []) HI ((hsz ++ xs) ++ (w.heap.size :: ms).map mE) { tmps := #[], defers := [] } (w3.putObj l (.loop { rec' with state := .exhausted })) := by
   rw [List.append_assoc];exact StX.sub (k := [_]) s4
  have s6 := s5.up (t' := t) (a' := { a with defers := { target := .collected w.heap.size, args := #[] } :: a.defers }) (relTm_mono h1 h2 s.tm) (by
   show mark w.heap.size :: a.defers = _;rw [s.defs]; rfl)
  replace s6 := s6.less hless;obtain ⟨W4, hW4⟩ : ∃ W4, w3.putObj l (.loop { rec' with state := .exhausted }) = W4 := ⟨_, rfl⟩;rw [hW4] at s6;show match rec'.pending with | none => _ | some c => _
  rw [hW4];rcases hpend with ⟨e, rfl⟩ | ⟨e, rfl⟩ | ⟨id, e, rfl⟩
  ·rw [e];exact ⟨M', ρ', _, h1, h2, s6⟩
  ·rw [e];exact WP.of 0 (wpIn_ret ⟨M', ρ', _, h1, h2, s6⟩)
  ·rw [e];exact WP.of 0 (wpIn_exit ⟨rfl, M', ρ', _, h1, h2, s6⟩)
end
open Go Go.RowKit
section
variable {P : Program} {T : Tab} {F : FuncId}
def HFact (P : Program) (T : Tab) (F : FuncId) (vs : List V) (H : Heap) (R : V → Heap → Prop) : Prop :=
 ∃ v H', R v H' ∧ Go.Proofs.Enters P F ∧ ∀ (M : Mem) (ρ : Ren) (w : World) (args : List Value), SR T M ρ H w → relL M ρ vs args → CallOK P T F args.toArray M ρ w (.val v H')
theorem HFact.mono {vs : List V} {H : Heap} {R R' : V → Heap → Prop} (h : HFact P T F vs H R) (hr : ∀ v H', R v H' → R' v H') : HFact P T F vs H R' := by
 obtain ⟨v, H', h1, h2⟩ := h;exact ⟨v, H', hr v H' h1, h2⟩
def EndsG (T : Tab) (fn : Func) (R : V → Heap → Prop) : Out → List HE → Prop := fun o hs' => ∃ v H', (∃ tI, (o = .norm tI H' ∨ o = .ret tI H') ∧ finish T fn tI.get H' = .val v H') ∧ R v H'
def GBody (P : Program) (T : Tab) (F : FuncId) (vs : List V) (H : Heap) (R : V → Heap → Prop) : Prop :=
 ∃ fn c, T.func F = some fn ∧ fn.body = some c ∧ vs.length ≤ fn.ntmps ∧ TriG P T none [] c (Tm.init fn.ntmps vs) H (EndsG T fn R)
theorem GBody.fact (hT : TOk P T) {vs : List V} {H : Heap} {R : V → Heap → Prop} (h : GBody P T F vs H R) : HFact P T F vs H R := by
 obtain ⟨fn, c, hfn, hc, hle, o, hs', ⟨v, H', ho, hR⟩, hx⟩ := h;obtain ⟨hf, hent⟩ := hT.func F fn c hfn hc;refine ⟨v, H', hR, hent, fun M ρ w args hS hr => ?_⟩;have s : StX T M ρ w M ρ [] (Tm.init 0 []) H ([] ++ []) { tmps := #[], defers := [] } w := ⟨Ext.refl _ _ _, hS, relTm_zero, by simp, rfl, by simp, by simp⟩;have := calls_of_triGX hT hf hc hle hx ho hr s;refine Calls.mono (callsIn_wide.1 this) ?_;rintro e w' ⟨x, M', ρ', rfl, _, _, hv, s'⟩;exact ⟨x, M', ρ', rfl, s'.ext, hv, s'.sr⟩
theorem HBody.fact (hT : TOk P T) {vs : List V} {H : Heap} {R : V → Heap → Prop} (h : HBody P T F vs H R) : HFact P T F vs H R := hbody_fact hT h
theorem spec_fact (hT : TOk P T) (F : FuncId) (D : Nat → List V → Heap → Prop) (R : List V → Heap → V → Heap → Prop)
    (h : ∀ k vs H, D k vs H → ∀ g, SpecOK P T F g → (∀ j, j < k → ∀ us J, D j us J → ∃ v J', R us J v J' ∧ g us J = .val v J') → HFact P T F vs H (R vs H)) (K : Nat) :
    ∃ g, SpecOK P T F g ∧ ∀ j, j < K → ∀ vs H, D j vs H → ∃ v H', R vs H v H' ∧ g vs H = .val v H' := by
  classical
  induction K with
  | zero => exact ⟨fun _ _ => .no, fun _ _ _ e hr => absurd e.symm hr, fun j hj => absurd hj (Nat.not_lt_zero j)⟩
  | succ K ih =>
    obtain ⟨g, hg, hgs⟩ := ih
    have hx : ∀ vs H, D K vs H → ∃ p : V × Heap, R vs H p.1 p.2 ∧ Go.Proofs.Enters P F ∧ ∀ (M : Mem) (ρ : Ren) (w : World) (args : List Value), SR T M ρ H w → relL M ρ vs args → CallOK P T F args.toArray M ρ w (.val p.1 p.2) := fun vs H hd => by
      obtain ⟨v, H', h1, h2⟩ := h K vs H hd g hg hgs
      exact ⟨(v, H'), h1, h2⟩
    refine ⟨fun vs H => if hd : D K vs H then .val (hx vs H hd).choose.1 (hx vs H hd).choose.2 else g vs H, ?_, ?_⟩
    · intro vs H r hr hne
      simp only at hr
      split at hr
      · rename_i hd
        obtain ⟨_, h2⟩ := (hx vs H hd).choose_spec
        subst hr
        exact h2
      · exact hg vs H r hr hne
    · intro j hj vs H hd
      by_cases hk : D K vs H
      · exact ⟨_, _, (hx vs H hk).choose_spec.1, dif_pos hk⟩
      · have : j < K := by
          rcases Nat.lt_succ_iff_lt_or_eq.1 hj with h1 | h1
          · exact h1
          · subst h1; exact absurd hd hk
        obtain ⟨v, H', h1, h2⟩ := hgs j this vs H hd
        exact ⟨v, H', h1, (dif_neg hk).trans h2⟩
theorem HFact.spec (hT : TOk P T) {D : List V → Heap → Prop} {R : List V → Heap → V → Heap → Prop} (h : ∀ vs H, D vs H → HFact P T F vs H (R vs H)) : ∃ g, SpecOK P T F g ∧ ∀ vs H, D vs H → ∃ v H', R vs H v H' ∧ g vs H = .val v H' := by
 obtain ⟨g, h1, h2⟩ := spec_fact (P := P) (T := T) hT F (fun _ => D) R (fun _ vs H hd _ _ _ => h vs H hd) 1;exact ⟨g, h1, h2 0 (by omega)⟩
end
open Go
section
variable {step : Oper → Env → Heap → OR} {ops : Array Oper} {H H1 H2 : Heap}
theorem drawRun_val {o : Oper} {r : List Oper} {t : Tm} {v : V} (hw : wants ops o t.get = some true) (hs : step o t.get H = .val v H) (hf : t.fits o.dst = true) {rs : List Rec} {Hs : List Heap} {tf : Tm}
 (h : drawRun step ops r (t.put o.dst v) H = some (rs, Hs, tf)) : drawRun step ops (o :: r) t H = some (⟨o, t.get, v, true, false⟩ :: rs, Hs, tf) := by
 simp only [drawRun, hw, hs, opened_eq, putK_eq, hf, if_true, h, Heap.beq_refl, Bool.not_true, Bool.and_false, Bool.false_eq_true, if_false]
theorem drawRun_eff {o : Oper} {r : List Oper} {t : Tm} {v : V} (he : isEff o.op = true) (hne : Heap.beq H1 H = false) (hw : wants ops o t.get = some true) (hs : step o t.get H = .val v H1) (hf : t.fits o.dst = true) {rs : List Rec} {Hs : List Heap} {tf : Tm}
 (h : drawRun step ops r (t.put o.dst v) H1 = some (rs, Hs, tf)) : drawRun step ops (o :: r) t H = some (⟨o, t.get, v, true, true⟩ :: rs, H :: Hs, tf) := by
 simp only [drawRun, hw, hs, opened_eq, putK_eq, hf, if_true, h, hne, he, Bool.not_false, Bool.and_true]
end
open Go
inductive DK where
  | q | f | a | e | l
  deriving DecidableEq
def befM (ms : List Nat) (i j : Nat) : Bool := (ms.getD i 0).testBit j
def chkD (ms : List Nat) (ks : List DK) : Bool :=
 (List.range ks.length).all fun i => (List.range ks.length).all fun p => i == p || (ks.getD p .q != .e && ks.getD p .q != .l) || match ks.getD i .q with
  | .e => befM ms i p == decide (p < i) && befM ms p i == decide (i < p)
  | .f => befM ms i p == decide (p < i) && befM ms p i == decide (i < p)
  | .l => befM ms i p == decide (p < i) && befM ms p i == decide (i < p)
  | .a => ks.getD p .q != .l || befM ms p i
  | .q => true
section
variable {step : Oper → Env → Heap → OR} {ops : Array Oper} {A : Heap → Prop}
inductive DR (step : Oper → Env → Heap → OR) (ops : Array Oper) (A : Heap → Prop) : List Oper → List DK → Tm → Heap → Tm → Heap → Prop
  | nil {t : Tm} {H : Heap} : DR step ops A [] [] t H t H
  | off {o : Oper} {r : List Oper} {ks : List DK} {k : DK} {t t' : Tm} {H H' : Heap} (hw : wants ops o t.get = some false) (hf : t.fits o.dst = true) (h : DR step ops A r ks (t.put o.dst .un) H t' H') : DR step ops A (o :: r) (k :: ks) t H t' H'
  | blind {o : Oper} {r : List Oper} {ks : List DK} {k : DK} {t t' : Tm} {H H' : Heap} {x : OR} {v : V} (hl : looks o.op = false) (hw : wants ops o t.get = some true) (hs : step o t.get H = x) (hx : x = .val v H) (hf : t.fits o.dst = true) (h : DR step ops A r ks (t.put o.dst v) H t' H') : DR step ops A (o :: r) (k :: ks) t H t' H'
  | fix {o : Oper} {r : List Oper} {ks : List DK} {t t' : Tm} {H H' : Heap} {x : OR} {v : V} (hw : wants ops o t.get = some true) (hs : step o t.get H = x) (hx : x = .val v H) (hf : t.fits o.dst = true) (h : DR step ops A r ks (t.put o.dst v) H t' H') : DR step ops A (o :: r) (.f :: ks) t H t' H'
  | any {o : Oper} {r : List Oper} {ks : List DK} {t t' : Tm} {H H' : Heap} {x : OR} {v : V} (hw : wants ops o t.get = some true) (hs : step o t.get H = x) (hx : x = .val v H) (hf : t.fits o.dst = true) (ha : ∀ K, A K → step o t.get K = .val v K) (h : DR step ops A r ks (t.put o.dst v) H t' H') : DR step ops A (o :: r) (.a :: ks) t H t' H'
  | eff {o : Oper} {r : List Oper} {ks : List DK} {t t' : Tm} {H H1 H' : Heap} {x : OR} {v : V} (he : isEff o.op = true) (hw : wants ops o t.get = some true) (hs : step o t.get H = x) (hx : x = .val v H1) (hf : t.fits o.dst = true) (hA : A H1) (h : DR step ops A r ks (t.put o.dst v) H1 t' H') : DR step ops A (o :: r) (.e :: ks) t H t' H'
  | last {o : Oper} {t : Tm} {H H1 : Heap} {x : OR} {v : V} (he : isEff o.op = true) (hw : wants ops o t.get = some true) (hs : step o t.get H = x) (hx : x = .val v H1) (hf : t.fits o.dst = true) : DR step ops A [o] [.l] t H (t.put o.dst v) H1
theorem effsFrom_succ : ∀ (rs : List Rec) (k : Nat), effsFrom rs (k + 1) = (effsFrom rs k).map (· + 1)
 | [], _ => rfl
 | r :: rs, k => by
  simp only [effsFrom];rw [effsFrom_succ rs (k + 1)];cases r.e <;> simp
theorem effs_cons (r : Rec) (rs : List Rec) : effs (r :: rs) = if r.e then 0 :: (effs rs).map (· + 1) else (effs rs).map (· + 1) := by
 simp only [effs, effsFrom];rw [effsFrom_succ]
theorem effs_at : ∀ {rs : List Rec} {p : Nat}, p ∈ effs rs → ∃ r, rs[p]? = some r ∧ r.e = true
 | [], p, h => by simp [effs, effsFrom] at h
 | r :: rs, p, h => by
  rw [effs_cons] at h;have key : p ∈ (effs rs).map (· + 1) → ∃ r', (r :: rs)[p]? = some r' ∧ r'.e = true := fun h => by
   obtain ⟨j, hj, rfl⟩ := List.mem_map.1 h;obtain ⟨r', h1, h2⟩ := effs_at hj;exact ⟨r', by simpa using h1, h2⟩
  split at h
  ·rename_i he;rcases List.mem_cons.1 h with rfl | h
   ·exact ⟨r, rfl, he⟩
   ·exact key h
  ·exact key h
def cntE (rs : List Rec) (i : Nat) : Nat := ((effs rs).filter fun p => decide (p < i)).length
theorem cntE_zero (rs : List Rec) : cntE rs 0 = 0 := by simp [cntE]
theorem cntE_succ (r : Rec) (rs : List Rec) (i : Nat) : cntE (r :: rs) (i + 1) = (if r.e then 1 else 0) + cntE rs i := by
 have h : ∀ l : List Nat, ((l.map (· + 1)).filter fun p => decide (p < i + 1)).length = (l.filter fun p => decide (p < i)).length := fun l => by
  induction l with
  | nil => rfl
  | cons x l ih =>
   simp only [List.map_cons, List.filter_cons];have : (decide (x + 1 < i + 1)) = decide (x < i) := by simp
   rw [this];split <;> simp [ih]
 simp only [cntE, effs_cons];cases r.e with
 | true =>
  simp only [if_true];rw [List.filter_cons];simp only [Nat.zero_lt_succ, decide_true, if_true, List.length_cons, h];omega
 | false =>
  simp only [Bool.false_eq_true, if_false, h];omega
def GoodR (step : Oper → Env → Heap → OR) (A : Heap → Prop) (ks : List DK) (rs : List Rec) (Hs : List Heap) : Prop :=
 ∀ (i : Nat) (r : Rec), rs[i]? = some r → (r.e = true → ks[i]? = some .e ∨ ks[i]? = some .l) ∧ (r.e = false → looks r.o.op = true → r.w = true →
  (ks[i]? = some .a ∧ ∀ K, A K → step r.o r.t K = .val r.v K) ∨ ((ks[i]? = some .f ∨ ks[i]? = some .e ∨ ks[i]? = some .l) ∧ ∃ K, Hs[cntE rs i]? = some K ∧ step r.o r.t K = .val r.v K))
def AllA (A : Heap → Prop) (ks : List DK) (rs : List Rec) (Hs : List Heap) : Prop :=
 ∀ (q : Nat) (K : Heap), Hs[q]? = some K → A K ∨ (q + 1 = Hs.length ∧ ∃ p, p + 1 = rs.length ∧ ks[p]? = some .l ∧ ∃ r, rs[p]? = some r ∧ r.e = true)
theorem AllA.one {H : Heap} {ks : List DK} {rs : List Rec} (h : A H) : AllA A ks rs [H] := fun q K hq => by
 cases q with
 | zero => simp at hq; subst hq; exact .inl h
 | succ q => simp at hq
theorem AllA.same {k : DK} {ks : List DK} {r : Rec} {rs : List Rec} {Hs : List Heap} (h : AllA A ks rs Hs) : AllA A (k :: ks) (r :: rs) Hs := fun q K hq => by
 rcases h q K hq with h | ⟨h1, p, h2, h3, r', h4, h5⟩
 ·exact .inl h
 ·exact .inr ⟨h1, p + 1, by simp [h2], by simpa using h3, r', by simpa using h4, h5⟩
theorem AllA.cons {H : Heap} {k : DK} {ks : List DK} {r : Rec} {rs : List Rec} {Hs : List Heap} (h : AllA A ks rs Hs) (hA : A H) : AllA A (k :: ks) (r :: rs) (H :: Hs) := fun q K hq => by
 cases q with
 | zero => simp at hq; subst hq; exact .inl hA
 | succ q =>
  simp at hq;rcases h q K hq with h | ⟨h1, p, h2, h3, r', h4, h5⟩
  ·exact .inl h
  ·exact .inr ⟨by simp [h1], p + 1, by simp [h2], by simpa using h3, r', by simpa using h4, h5⟩
theorem GoodR.same {ks : List DK} {k : DK} {rs : List Rec} {Hs : List Heap} {r : Rec} (he : r.e = false) (h : GoodR step A ks rs Hs)
 (hr : looks r.o.op = true → r.w = true → (k = .a ∧ ∀ K, A K → step r.o r.t K = .val r.v K) ∨ ((k = .f ∨ k = .e ∨ k = .l) ∧ ∃ K, Hs[0]? = some K ∧ step r.o r.t K = .val r.v K)) : GoodR step A (k :: ks) (r :: rs) Hs := by
 intro i r' hi;cases i with
 | zero =>
  simp only [List.getElem?_cons_zero, Option.some.injEq] at hi;subst hi;refine ⟨fun h1 => (by rw [he] at h1; cases h1), fun _ h1 h2 => ?_⟩;rw [cntE_zero];simpa using hr h1 h2
 | succ i =>
  simp only [List.getElem?_cons_succ] at hi ⊢;have := h i r' hi;rw [cntE_succ, he];simpa using this
theorem DR.run : ∀ {l : List Oper} {ks : List DK} {t t' : Tm} {H H' : Heap}, DR step ops A l ks t H t' H' → A H → ∃ rs Hs, drawRun step ops l t H = some (rs, Hs, t') ∧ Hs.getLast? = some H' ∧ Hs.head? = some H ∧ Hs.length = (effs rs).length + 1 ∧ AllA A ks rs Hs ∧ GoodR step A ks rs Hs ∧ rs.length = ks.length
 | _, _, _, _, H, _, .nil, hA => ⟨[], [H], rfl, rfl, rfl, rfl, AllA.one hA, fun i r h => by simp at h, rfl⟩
 | _, _, _, _, H, _, .off (o := o) (r := l) (t := t) (k := k) hw hf h, hA => by
  obtain ⟨rs, Hs, h1, h2, h3, h4, h5, h6, h7⟩ := DR.run h hA;refine ⟨⟨o, t.get, .un, false, false⟩ :: rs, Hs, ?_, h2, h3, by simpa [effs_cons] using h4, h5.same, GoodR.same rfl h6 fun _ hw => absurd hw (by simp), by simp [h7]⟩;simp only [drawRun, hw, putK_eq, hf, if_true, h1]
 | _, _, _, _, H, _, .blind (o := o) (r := l) (t := t) (v := v) hl hw hs hx hf h, hA => by
  obtain ⟨rs, Hs, h1, h2, h3, h4, h5, h6, h7⟩ := DR.run h hA;subst hx;exact ⟨⟨o, t.get, v, true, false⟩ :: rs, Hs, drawRun_val hw hs hf h1, h2, h3, by simpa [effs_cons] using h4, h5.same, GoodR.same rfl h6 fun h8 => absurd (h8.symm.trans hl) (by simp), by simp [h7]⟩
 | _, _, _, _, H, _, .fix (o := o) (r := l) (t := t) (v := v) hw hs hx hf h, hA => by
  obtain ⟨rs, Hs, h1, h2, h3, h4, h5, h6, h7⟩ := DR.run h hA;subst hx;refine ⟨⟨o, t.get, v, true, false⟩ :: rs, Hs, drawRun_val hw hs hf h1, h2, h3, by simpa [effs_cons] using h4, h5.same, GoodR.same rfl h6 fun _ _ => .inr ⟨.inl rfl, H, ?_, hs⟩, by simp [h7]⟩;rw [← List.head?_eq_getElem?]; exact h3
 | _, _, _, _, H, _, .any (o := o) (r := l) (t := t) (v := v) hw hs hx hf ha h, hA => by
  obtain ⟨rs, Hs, h1, h2, h3, h4, h5, h6, h7⟩ := DR.run h hA;subst hx;exact ⟨⟨o, t.get, v, true, false⟩ :: rs, Hs, drawRun_val hw hs hf h1, h2, h3, by simpa [effs_cons] using h4, h5.same, GoodR.same rfl h6 fun _ _ => .inl ⟨rfl, ha⟩, by simp [h7]⟩
 | _, _, _, _, H, _, .eff (o := o) (r := l) (t := t) (v := v) (H1 := H1) he hw hs hx hf hA1 h, hA => by
  obtain ⟨rs, Hs, h1, h2, h3, h4, h5, h6, h7⟩ := DR.run h hA1;subst hx;cases hb : Heap.beq H1 H with
  | true =>
   have := Heap.beq_eq _ _ hb;subst this;refine ⟨⟨o, t.get, v, true, false⟩ :: rs, Hs, drawRun_val hw hs hf h1, h2, h3, by simpa [effs_cons] using h4, h5.same, GoodR.same rfl h6 fun _ _ => .inr ⟨.inr (.inl rfl), H1, ?_, hs⟩, by simp [h7]⟩;rw [← List.head?_eq_getElem?]; exact h3
  | false =>
   refine ⟨⟨o, t.get, v, true, true⟩ :: rs, H :: Hs, drawRun_eff he hb hw hs hf h1, ?_, rfl, by simp [effs_cons, h4], ?_, ?_, by simp [h7]⟩
   ·cases Hs with
    | nil => simp at h2
    | cons K Hs => rw [List.getLast?_cons_cons]; exact h2
   ·exact h5.cons hA
   ·intro i r' hi;cases i with
    | zero =>
     simp only [List.getElem?_cons_zero, Option.some.injEq] at hi;subst hi;exact ⟨fun _ => .inl rfl, fun h8 => by cases h8⟩
    | succ i =>
     simp only [List.getElem?_cons_succ] at hi ⊢;have h9 := h6 i r' hi;rw [cntE_succ];simp only [if_true];rw [Nat.add_comm, List.getElem?_cons_succ];exact h9
 | _, _, _, _, H, _, .last (o := o) (t := t) (v := v) (H1 := H1) he hw hs hx hf, hA => by
  subst hx;cases hb : Heap.beq H1 H with
  | true =>
   have := Heap.beq_eq _ _ hb;subst this;refine ⟨[⟨o, t.get, v, true, false⟩], [H1], drawRun_val hw hs hf rfl, rfl, rfl, rfl, AllA.one hA, fun i r hi => ?_, rfl⟩;cases i with
   | zero =>
    simp only [List.getElem?_cons_zero, Option.some.injEq] at hi;subst hi;exact ⟨fun h => (by cases h), fun _ _ _ => .inr ⟨.inr (.inr rfl), H1, by simp [cntE], hs⟩⟩
   | succ i => simp at hi
  | false =>
   refine ⟨[⟨o, t.get, v, true, true⟩], [H, H1], drawRun_eff he hb hw hs hf rfl, rfl, rfl, rfl, fun q K hq => ?_, fun i r hi => ?_, rfl⟩
   ·cases q with
    | zero => simp at hq; subst hq; exact .inl hA
    | succ q =>
     cases q with
     | zero => exact .inr ⟨rfl, 0, rfl, rfl, _, rfl, rfl⟩
     | succ q => simp at hq
   ·cases i with
    | zero =>
     simp only [List.getElem?_cons_zero, Option.some.injEq] at hi;subst hi;exact ⟨fun _ => .inr rfl, fun h => (by cases h)⟩
    | succ i => simp at hi
theorem chkD_at {ms : List Nat} {ks : List DK} (h : chkD ms ks = true) {i p : Nat} (hi : ks[i]? = some .f ∨ ks[i]? = some .e ∨ ks[i]? = some .l) (hp : ks[p]? = some .e ∨ ks[p]? = some .l) (hne : i ≠ p) : befM ms i p = decide (p < i) ∧ befM ms p i = decide (i < p) := by
 have hil : i < ks.length := by rcases hi with hi | hi | hi <;> exact (List.getElem?_eq_some_iff.1 hi).1
 have hpl : p < ks.length := by rcases hp with hp | hp <;> exact (List.getElem?_eq_some_iff.1 hp).1
 have h1 := List.all_eq_true.1 h i (List.mem_range.2 hil);have h2 := List.all_eq_true.1 h1 p (List.mem_range.2 hpl);have e1 : (i == p) = false := by simpa using hne
 have e2 : (ks.getD p .q != .e && ks.getD p .q != .l) = false := by rcases hp with hp | hp <;> rw [List.getD_eq_getElem?_getD, hp] <;> rfl
 rw [e1, e2] at h2;rcases hi with hi | hi | hi <;> rw [List.getD_eq_getElem?_getD, hi] at h2 <;> simpa using h2
theorem chkD_any {ms : List Nat} {ks : List DK} (h : chkD ms ks = true) {i p : Nat} (hi : ks[i]? = some .a) (hp : ks[p]? = some .l) : befM ms p i = true := by
 have hil : i < ks.length := (List.getElem?_eq_some_iff.1 hi).1;have hpl : p < ks.length := (List.getElem?_eq_some_iff.1 hp).1;have hne : ¬ i = p := fun e => by subst e; rw [hi] at hp; cases hp
 have h1 := List.all_eq_true.1 h i (List.mem_range.2 hil);have h2 := List.all_eq_true.1 h1 p (List.mem_range.2 hpl);have e1 : (i == p) = false := by simpa using hne
 have e2 : ks.getD p .q = .l := by rw [List.getD_eq_getElem?_getD, hp]; rfl
 have e3 : ks.getD i .q = .a := by rw [List.getD_eq_getElem?_getD, hi]; rfl
 rw [e1, e2, e3] at h2;simpa using h2
theorem effs_of : ∀ {rs : List Rec} {p : Nat} {r : Rec}, rs[p]? = some r → r.e = true → p ∈ effs rs
 | [], p, r, h, _ => by simp at h
 | r0 :: rs, 0, r, h, he => by
  simp only [List.getElem?_cons_zero, Option.some.injEq] at h;subst h;rw [effs_cons, he];simp
 | r0 :: rs, p + 1, r, h, he => by
  simp only [List.getElem?_cons_succ] at h;have := effs_of h he;rw [effs_cons];split
  ·exact List.mem_cons_of_mem _ (List.mem_map.2 ⟨p, this, rfl⟩)
  ·exact List.mem_map.2 ⟨p, this, rfl⟩
theorem filter_eq_of {l : List Nat} {f g : Nat → Bool} (h : ∀ p ∈ l, f p = g p) : l.filter f = l.filter g := List.filter_congr h
theorem DR.draw {ks : List DK} {t t' : Tm} {H H' : Heap} (h : DR step ops A ops.toList ks t H t' H') (hA : A H) (hs : (drawStat ops.toList ops (masks ops.toList []) && chkD (masks ops.toList []) ks) = true) : evDraw step ops t H = .norm t' H' := by
 obtain ⟨rs, Hs, h1, h2, h3, h4, h5, h6, h7⟩ := h.run hA;rw [Bool.and_eq_true] at hs;obtain ⟨hs, hc⟩ := hs;have hdyn : drawDyn step (masks ops.toList []) rs Hs = true := by
  rw [drawDyn, List.all_eq_true];intro i hi;rw [List.mem_range] at hi;have hri : rs[i]? = some rs[i] := List.getElem?_eq_getElem hi;obtain ⟨g1, g2⟩ := h6 i _ hri;simp only [hri];cases he : rs[i].e with
  | true =>
   simp only [if_true, List.all_eq_true, decide_eq_true_eq];intro p hp;obtain ⟨rp, k1, k2⟩ := effs_at hp;have k3 := (h6 p rp k1).1 k2;by_cases hip : i = p
   ·left; omega
   ·have := (chkD_at hc (.inr (g1 he)) k3 hip).2;simp only [befM] at this;rw [this];simp only [decide_eq_true_eq];omega
  | false =>
   simp only [Bool.false_eq_true, if_false];by_cases hl : (looks rs[i].o.op && rs[i].w) = true
   ·rw [Bool.and_eq_true] at hl;have key : ∀ q, ((effs rs).filter fun p => ((masks ops.toList []).getD i 0).testBit p).length ≤ q → q ≤ ((effs rs).filter fun p => !((masks ops.toList []).getD p 0).testBit i).length → ∃ K, Hs[q]? = some K ∧ step rs[i].o rs[i].t K = .val rs[i].v K := by
     intro q q1 q2;rcases g2 he hl.1 hl.2 with ⟨hka, ha⟩ | ⟨hk, K, k1, k2⟩
     ·have hle := List.length_filter_le (fun p => !((masks ops.toList []).getD p 0).testBit i) (effs rs);have hq : q < Hs.length := by omega
      refine ⟨Hs[q], List.getElem?_eq_getElem hq, ha _ ((h5 q _ (List.getElem?_eq_getElem hq)).resolve_right ?_)⟩;rintro ⟨hl1, p, hp1, hp2, rp, hp3, hp4⟩;have hb := chkD_any hc hka hp2;have hmem := effs_of hp3 hp4;have hlt : ((effs rs).filter fun p => !((masks ops.toList []).getD p 0).testBit i).length < (effs rs).length := by
       rw [← List.countP_eq_length_filter];refine Nat.lt_of_le_of_ne List.countP_le_length fun e => ?_;have := List.countP_eq_length.1 e p hmem;simp only [befM] at hb;rw [hb] at this;cases this
      omega
     ·have hne : ∀ p ∈ effs rs, i ≠ p := fun p hp hip => by
       obtain ⟨rp, k3, k4⟩ := effs_at hp;subst hip;rw [hri] at k3;cases k3;rw [he] at k4;cases k4
      have e1 : (effs rs).filter (fun p => ((masks ops.toList []).getD i 0).testBit p) = (effs rs).filter fun p => decide (p < i) := filter_eq_of fun p hp => by
       obtain ⟨rp, k3, k4⟩ := effs_at hp;exact (chkD_at hc hk ((h6 p rp k3).1 k4) (hne p hp)).1
      have e2 : (effs rs).filter (fun p => !((masks ops.toList []).getD p 0).testBit i) = (effs rs).filter fun p => decide (p < i) := filter_eq_of fun p hp => by
       obtain ⟨rp, k3, k4⟩ := effs_at hp;have := (chkD_at hc hk ((h6 p rp k3).1 k4) (hne p hp)).2;simp only [befM] at this;rw [this];have := hne p hp;by_cases hlt : i < p
       ·have : ¬ p < i := by omega
        simp [hlt, this]
       ·have : p < i := by omega
        simp [hlt, this]
      rw [e1] at q1;rw [e2] at q2;have : q = cntE rs i := Nat.le_antisymm q2 q1;subst this;exact ⟨K, k1, k2⟩
    rw [hl.1, hl.2];simp only [Bool.and_self, Bool.not_true, Bool.false_or, List.all_eq_true];intro q _;by_cases hq : ((effs rs).filter fun p => ((masks ops.toList []).getD i 0).testBit p).length ≤ q ∧ q ≤ ((effs rs).filter fun p => !((masks ops.toList []).getD p 0).testBit i).length
    ·obtain ⟨K, k1, k2⟩ := key q hq.1 hq.2;simp only [k1, k2, sameOR, V.beq_refl, Heap.beq_refl, Bool.and_self, Bool.or_true]
    ·have : (decide (((effs rs).filter fun p => ((masks ops.toList []).getD i 0).testBit p).length ≤ q) && decide (q ≤ ((effs rs).filter fun p => !((masks ops.toList []).getD p 0).testBit i).length)) = false := by
      rw [Bool.and_eq_false_iff, decide_eq_false_iff_not, decide_eq_false_iff_not];omega
     rw [this];rfl
   ·have : (looks rs[i].o.op && rs[i].w) = false := by simpa using hl
    rw [this];rfl
 simp only [evDraw, h1, hs, hdyn, Bool.or_true, Bool.and_self, if_true, h2]
theorem evReg_draw {T : Tab} {call : CallF} {ks : List DK} {t t' : Tm} {H H' : Heap} {out : Out} (A : Heap → Prop) (hs : (drawStat ops.toList ops (masks ops.toList []) && chkD (masks ops.toList []) ks) = true) (hA : A H) (h : DR (evOp T call) ops A ops.toList ks t H t' H') (ho : Out.norm t' H' = out) : evReg T call ops true t H = out := by
 rw [← ho];exact h.draw hA hs
end
open Go
section
variable {step : Oper → Env → Heap → OR} {ops : Array Oper} {H H' : Heap} {q : Nat} {v : V}
inductive QP (step : Oper → Env → Heap → OR) (ops : Array Oper) (H : Heap) (q : Nat) (v : V) (H' : Heap) : Nat → List Oper → List Bool → Tm → Prop
  | nil {i : Nat} {t : Tm} : QP step ops H q v H' i [] [] t
  | val {i : Nat} {o : Oper} {r : List Oper} {fl : List Bool} {t : Tm} {x : OR} {u : V} (hw : wants ops o t.get = some true) (hs : step o t.get H = x) (hx : x = .val u H) (hf : t.fits o.dst = true) (h : QP step ops H q v H' (i + 1) r fl (t.put o.dst u)) : QP step ops H q v H' i (o :: r) (false :: fl) t
  | off {i : Nat} {o : Oper} {r : List Oper} {fl : List Bool} {t : Tm} (hw : wants ops o t.get = some false) (hf : t.fits o.dst = true) (h : QP step ops H q v H' (i + 1) r fl (t.put o.dst .un)) : QP step ops H q v H' i (o :: r) (false :: fl) t
  | skip {i : Nat} {o : Oper} {r : List Oper} {fl : List Bool} {t : Tm} (hi : (i == q) = false) (hf : t.fits o.dst = true) (h : QP step ops H q v H' (i + 1) r fl (t.put o.dst .un)) : QP step ops H q v H' i (o :: r) (true :: fl) t
  | stop {i : Nat} {o : Oper} {r : List Oper} {fl : List Bool} {t : Tm} {x : OR} (hi : (i == q) = true) (hw : wants ops o t.get = some true) (hs : step o t.get H = x) (hx : x = .pan v H') (hf : t.fits o.dst = true) (h : QP step ops H q v H' (i + 1) r fl (t.put o.dst .un)) : QP step ops H q v H' i (o :: r) (true :: fl) t
def chkP (ms : List Nat) (q : Nat) (fl : List Bool) : Bool :=
 fl.getD q false && (List.range fl.length).all fun i => !fl.getD i false || i == q || (ms.getD i 0).testBit q
structure RanP (step : Oper → Env → Heap → OR) (ops : Array Oper) (t : Tm) (H : Heap) (q : Nat) (v : V) (H' : Heap) (i0 : Nat) (l : List Oper) (fl : List Bool) (rs : List Rec) : Prop where
  opers : rs.map (·.o) = l
  len : fl.length = l.length
  seen : ∀ (i : Nat) (r : Rec), rs[i]? = some r → r.t = curs t.get rs (fun j => decide (j < i))
  fits : ∀ (i : Nat) (r : Rec), rs[i]? = some r → t.fits r.o.dst = true
  off : ∀ (i : Nat) (r : Rec), rs[i]? = some r → fl[i]? = some false → r.w = false → wants ops r.o r.t = some false ∧ r.v = .un
  on : ∀ (i : Nat) (r : Rec), rs[i]? = some r → fl[i]? = some false → r.w = true → wants ops r.o r.t = some true ∧ step r.o r.t H = .val r.v H
  pan : ∀ (i : Nat) (r : Rec), rs[i]? = some r → i0 + i = q → wants ops r.o r.t = some true ∧ step r.o r.t H = .pan v H'
theorem curs_none : ∀ (rs : List Rec) (t : Env), curs t rs (fun _ => false) = t
 | [], t => rfl
 | r :: rs, t => by simp only [curs]; exact curs_none rs t
theorem QP.run : ∀ {i0 : Nat} {l : List Oper} {fl : List Bool} {t : Tm}, QP step ops H q v H' i0 l fl t → (fl.getD (q - i0) false = true ∨ q < i0) → ∃ rs, RanP step ops t H q v H' i0 l fl rs
 | i0, _, _, t, .nil, _ => ⟨[], rfl, rfl, by simp, by simp, by simp, by simp, by simp⟩
 | i0, _, _, t, .val (o := o) (r := l) (fl := fl) (u := u) hw hs hx hf h, hq => by
  have hne : i0 ≠ q := by
   rintro rfl;rcases hq with hq | hq
   ·simp at hq
   ·omega
  obtain ⟨rs, ih⟩ := QP.run h (by
   rcases hq with hq | hq
   ·by_cases hlt : i0 < q
    ·left; rw [show q - i0 = (q - (i0 + 1)) + 1 from by omega] at hq; simpa using hq
    ·right; omega
   ·right; omega)
  subst hx;refine ⟨⟨o, t.get, u, true, false⟩ :: rs, by simp [ih.opers], by simp [ih.len], ?_, ?_, ?_, ?_, ?_⟩
  ·intro i r hi;cases i with
   | zero => simp at hi; subst hi; simp only [Nat.not_lt_zero, decide_false]; exact (curs_none _ _).symm
   | succ i =>
    have := ih.seen i r (by simpa using hi);rw [this, Tm.get_put];simp only [curs, Nat.zero_lt_succ, decide_true, if_true, Nat.add_lt_add_iff_right]
  ·intro i r hi;cases i with
   | zero => simp at hi; subst hi; exact hf
   | succ i =>
    have := ih.fits i r (by simpa using hi);cases hq : r.o.dst with
    | none => rfl
    | some d => rw [hq] at this; simpa [Tm.fits] using this
  ·intro i r hi hfl hw';cases i with
   | zero => simp at hi; subst hi; cases hw'
   | succ i => exact ih.off i r (by simpa using hi) (by simpa using hfl) hw'
  ·intro i r hi hfl hw';cases i with
   | zero => simp at hi; subst hi; exact ⟨hw, hs⟩
   | succ i => exact ih.on i r (by simpa using hi) (by simpa using hfl) hw'
  ·intro i r hi he;cases i with
   | zero => exact absurd he hne
   | succ i => exact ih.pan i r (by simpa using hi) (by omega)
 | i0, _, _, t, .off (o := o) (r := l) (fl := fl) hw hf h, hq => by
  have hne : i0 ≠ q := by
   rintro rfl;rcases hq with hq | hq
   ·simp at hq
   ·omega
  obtain ⟨rs, ih⟩ := QP.run h (by
   rcases hq with hq | hq
   ·by_cases hlt : i0 < q
    ·left; rw [show q - i0 = (q - (i0 + 1)) + 1 from by omega] at hq; simpa using hq
    ·right; omega
   ·right; omega)
  refine ⟨⟨o, t.get, .un, false, false⟩ :: rs, by simp [ih.opers], by simp [ih.len], ?_, ?_, ?_, ?_, ?_⟩
  ·intro i r hi;cases i with
   | zero => simp at hi; subst hi; simp only [Nat.not_lt_zero, decide_false]; exact (curs_none _ _).symm
   | succ i =>
    have := ih.seen i r (by simpa using hi);rw [this, Tm.get_put];simp only [curs, Nat.zero_lt_succ, decide_true, if_true, Nat.add_lt_add_iff_right]
  ·intro i r hi;cases i with
   | zero => simp at hi; subst hi; exact hf
   | succ i =>
    have := ih.fits i r (by simpa using hi);cases hq : r.o.dst with
    | none => rfl
    | some d => rw [hq] at this; simpa [Tm.fits] using this
  ·intro i r hi hfl hw';cases i with
   | zero => simp at hi; subst hi; exact ⟨hw, rfl⟩
   | succ i => exact ih.off i r (by simpa using hi) (by simpa using hfl) hw'
  ·intro i r hi hfl hw';cases i with
   | zero => simp at hi; subst hi; cases hw'
   | succ i => exact ih.on i r (by simpa using hi) (by simpa using hfl) hw'
  ·intro i r hi he;cases i with
   | zero => exact absurd he hne
   | succ i => exact ih.pan i r (by simpa using hi) (by omega)
 | i0, _, _, t, .skip (o := o) (r := l) (fl := fl) hi0 hf h, hq => by
  have hne : i0 ≠ q := by simpa using hi0
  obtain ⟨rs, ih⟩ := QP.run h (by
   rcases hq with hq | hq
   ·by_cases hlt : i0 < q
    ·left; rw [show q - i0 = (q - (i0 + 1)) + 1 from by omega] at hq; simpa using hq
    ·right; omega
   ·right; omega)
  refine ⟨⟨o, t.get, .un, false, false⟩ :: rs, by simp [ih.opers], by simp [ih.len], ?_, ?_, ?_, ?_, ?_⟩
  ·intro i r hi;cases i with
   | zero => simp at hi; subst hi; simp only [Nat.not_lt_zero, decide_false]; exact (curs_none _ _).symm
   | succ i =>
    have := ih.seen i r (by simpa using hi);rw [this, Tm.get_put];simp only [curs, Nat.zero_lt_succ, decide_true, if_true, Nat.add_lt_add_iff_right]
  ·intro i r hi;cases i with
   | zero => simp at hi; subst hi; exact hf
   | succ i =>
    have := ih.fits i r (by simpa using hi);cases hq : r.o.dst with
    | none => rfl
    | some d => rw [hq] at this; simpa [Tm.fits] using this
  ·intro i r hi hfl hw';cases i with
   | zero => simp at hfl
   | succ i => exact ih.off i r (by simpa using hi) (by simpa using hfl) hw'
  ·intro i r hi hfl hw';cases i with
   | zero => simp at hfl
   | succ i => exact ih.on i r (by simpa using hi) (by simpa using hfl) hw'
  ·intro i r hi he;cases i with
   | zero => exact absurd he hne
   | succ i => exact ih.pan i r (by simpa using hi) (by omega)
 | i0, _, _, t, .stop (o := o) (r := l) (fl := fl) hi0 hw hs hx hf h, hq => by
  have heq : i0 = q := by simpa using hi0
  obtain ⟨rs, ih⟩ := QP.run h (.inr (by omega));subst hx;refine ⟨⟨o, t.get, .un, false, false⟩ :: rs, by simp [ih.opers], by simp [ih.len], ?_, ?_, ?_, ?_, ?_⟩
  ·intro i r hi;cases i with
   | zero => simp at hi; subst hi; simp only [Nat.not_lt_zero, decide_false]; exact (curs_none _ _).symm
   | succ i =>
    have := ih.seen i r (by simpa using hi);rw [this, Tm.get_put];simp only [curs, Nat.zero_lt_succ, decide_true, if_true, Nat.add_lt_add_iff_right]
  ·intro i r hi;cases i with
   | zero => simp at hi; subst hi; exact hf
   | succ i =>
    have := ih.fits i r (by simpa using hi);cases hq : r.o.dst with
    | none => rfl
    | some d => rw [hq] at this; simpa [Tm.fits] using this
  ·intro i r hi hfl hw';cases i with
   | zero => simp at hfl
   | succ i => exact ih.off i r (by simpa using hi) (by simpa using hfl) hw'
  ·intro i r hi hfl hw';cases i with
   | zero => simp at hfl
   | succ i => exact ih.on i r (by simpa using hi) (by simpa using hfl) hw'
  ·intro i r hi he;cases i with
   | zero => simp at hi; subst hi; exact ⟨hw, hs⟩
   | succ i => exact ih.pan i r (by simpa using hi) (by omega)
theorem stat_free {ms : List Nat} {rs : List Rec} (hopers : rs.map (·.o) = ops.toList) (h : drawStat ops.toList ops ms = true) :
 (∀ (i : Nat) (r : Rec), rs[i]? = some r → ∀ e ∈ edges r.o, e < i) ∧ (∀ (i j : Nat) (r q : Rec), rs[i]? = some r → rs[j]? = some q → i ≠ j → ∀ d, q.o.dst = some d → r.o.dst ≠ some d ∧ (d ∈ slots ops r.o → if j < i then (ms.getD i 0).testBit j = true else (ms.getD j 0).testBit i = true)) := by
 have hop : ∀ {i : Nat} {r : Rec}, rs[i]? = some r → ops.toList[i]? = some r.o := by
  intro i r hi;have : (rs.map (·.o))[i]? = some r.o := by simp [hi]
  rwa [hopers] at this
 have hall : ∀ (i : Nat) (o : Oper), ops.toList[i]? = some o → _ := fun i r hi => by
  have hlt := (List.getElem?_eq_some_iff.1 hi).1;have := List.all_eq_true.1 h i (List.mem_range.2 hlt);simp only [hi] at this;exact this
 refine ⟨?_, ?_⟩
 ·intro i r hi e he;have := hall i r.o (hop hi);simp only [Bool.and_eq_true] at this;simpa using List.all_eq_true.1 this.1 e he
 ·intro i j r q hi hj hne d hd;have := hall i r.o (hop hi);simp only [Bool.and_eq_true] at this;have hlt := (List.getElem?_eq_some_iff.1 (hop hj)).1;have := List.all_eq_true.1 this.2 j (List.mem_range.2 hlt);simp only [hop hj, hd, Bool.or_eq_true, Bool.and_eq_true, beq_iff_eq, decide_eq_true_eq, Bool.not_eq_true', List.contains_eq_mem, decide_eq_false_iff_not] at this;rcases this with e | ⟨h1, h2⟩
  ·exact absurd e hne
  ·refine ⟨h1, fun hd => ?_⟩;rcases h2 with h2 | h2
   ·exact absurd hd h2
   ·split <;> simp_all
theorem curs_not : ∀ (rs : List Rec) (t : Env) (L : Nat → Bool) (k : Nat), (∀ r ∈ rs, r.o.dst ≠ some k) → curs t rs L k = t k
 | [], t, L, k, _ => rfl
 | r :: rs, t, L, k, h => by
  simp only [curs];rw [curs_not rs _ _ k fun r' hr => h r' (by simp [hr])];split
  ·have := h r (by simp);cases hd : r.o.dst with
   | none => rfl
   | some d =>
    have : ¬ k = d := fun e => by rw [hd, e] at this; exact this rfl
    simp [put, this]
  ·rfl
end
section
variable {P : Program} {T : Tab}
theorem evDrawPan_ok (hT : TOk P T) {call : CallF} (hcall : call.Sound P T) {id : Nat} {ops : Array Oper} {t t' : Tm} {H H' : Heap} {q : Nat} {v : V} {fl : List Bool} {a : Act} {w : World} {M : Mem} {ρ : Ren} {Q : Exit → Act → World → Prop} (hS : SR T M ρ H w) (ht : relTm M ρ t a.tmps)
    (hs : (drawStat ops.toList ops (masks ops.toList []) && chkP (masks ops.toList []) q fl) = true) (hq : QP (evOp T call) ops H q v H' 0 ops.toList fl t)
    (hpan : ∀ k, t'.get k = .un ∨ (t'.get k = t.get k ∧ ∀ o ∈ ops.toList, o.dst ≠ some k))
    (h : OutOK T M ρ w Q a.defers (.pan v t' H')) : (Code.region id ops true).wp P Q a w := by
  rw [Bool.and_eq_true] at hs
  obtain ⟨hst, hchk⟩ := hs
  simp only [chkP, Bool.and_eq_true] at hchk
  obtain ⟨hchk0, hchk⟩ := hchk
  obtain ⟨rs, R⟩ := hq.run (.inl (by simpa using hchk0))
  obtain ⟨Fedge, Fslot⟩ := stat_free R.opers hst
  generalize hbefd : (fun i j => ((masks ops.toList []).getD i 0).testBit j) = bef
  have hlen : rs.length = ops.size := by have := congrArg List.length R.opers; simpa using this
  have hfll : fl.length = ops.size := by have := R.len; simpa using this
  have hop : ∀ {i : Nat} {r : Rec}, rs[i]? = some r → ops[i]? = some r.o := by
    intro i r hi
    have : (rs.map (·.o))[i]? = some r.o := by simp [hi]
    rw [R.opers] at this
    simpa using this
  have hbef : ∀ (i : Nat) (r : Rec) (j : Nat), rs[i]? = some r → bef i j = true → ∃ e ∈ edges r.o, j = e ∨ bef e j = true := by
    intro i r j hi hb
    subst hbefd
    exact masks_spec ops.toList [] i r.o j (by simpa using hop hi) (by simpa using hb)
  have hslotb : ∀ (i j : Nat) (r q : Rec), rs[i]? = some r → rs[j]? = some q → i ≠ j → ∀ d, q.o.dst = some d → r.o.dst ≠ some d ∧ (d ∈ slots ops r.o → if j < i then bef i j = true else bef j i = true) := by
    subst hbefd
    exact Fslot
  have hflb : ∀ i, i < ops.size → fl.getD i false = true → i ≠ q → bef i q = true := by
    intro i hi hf hne
    have := List.all_eq_true.1 hchk i (List.mem_range.2 (by omega))
    rw [hf] at this
    have e : (i == q) = false := by simpa using hne
    rw [e] at this
    subst hbefd
    simpa using this
  have hget : ∀ {i : Nat}, i < rs.length → ∃ r, rs[i]? = some r := fun hi => ⟨_, List.getElem?_eq_getElem hi⟩
  have hqlt : q < ops.size := by
    rw [List.getD_eq_getElem?_getD] at hchk0
    rcases Nat.lt_or_ge q fl.length with h1 | h1
    · omega
    · rw [List.getElem?_eq_none h1] at hchk0; cases hchk0
  have hin : ∀ (L : Nat → Bool), (∀ i r, rs[i]? = some r → L i = true → ∀ e ∈ edges r.o, L e = true) → ∀ (i : Nat) (r : Rec) (j : Nat), rs[i]? = some r → (∀ e ∈ edges r.o, L e = true) → bef i j = true → L j = true := by
    intro L hcl i
    induction i using Nat.strongRecOn with
    | _ i ih =>
      intro r j hi he hb
      obtain ⟨e, hem, hj⟩ := hbef i r j hi hb
      rcases hj with rfl | hj
      · exact he _ hem
      · have hlt := Fedge i r hi e hem
        obtain ⟨re, hre⟩ := hget (i := e) (by have := (List.getElem?_eq_some_iff.1 hi).1; omega)
        exact ih e hlt re j hre (hcl e re hre (he e hem)) hj
  refine wp_region_any hT.mixed ?_
  have key : ∀ (fuel : Nat) (listed : Array Bool) (a' : Act) (w' : World) (M' : Mem) (ρ' : Ren), listed.size = ops.size →
      (∀ i r, rs[i]? = some r → listed.getD i false = true → ∀ e ∈ edges r.o, listed.getD e false = true) → listed.getD q false = false →
      ((List.range ops.size).filter fun i => !listed.getD i false).length ≤ fuel → Ext M ρ w M' ρ' w' →
      relT M' ρ' (curs t.get rs fun j => listed.getD j false) a'.tmps → a'.tmps.size = t.wid →
      SR T M' ρ' H w' → a'.defers = a.defers →
      wpAny P .any ops Q fuel listed a' w' := by
    have hready : ∀ (listed : Array Bool) (i : Nat), listed.size = ops.size → (i ∈ Region.ready .any ops listed ↔ ∃ r, rs[i]? = some r ∧ listed.getD i false = false ∧ ∀ e ∈ edges r.o, listed.getD e false = true) := by
      intro listed i hsz
      unfold Region.ready
      rw [List.mem_filter, List.mem_range]
      constructor
      · rintro ⟨hi, hh⟩
        obtain ⟨r, hr⟩ := hget (i := i) (by omega)
        rw [hop hr] at hh
        simp only [Option.map_some, Option.getD_some, Bool.and_eq_true, Bool.not_eq_true', Array.all_eq_true'] at hh
        refine ⟨r, hr, ?_, fun e he => ?_⟩
        · have := hh.1
          rw [Array.getD_eq_getD_getElem?] at this ⊢
          rw [Array.getElem?_eq_getElem (by omega)] at this ⊢
          exact this
        · simp only [edges, List.mem_map, List.mem_filter] at he
          obtain ⟨x, ⟨hx, hb⟩, rfl⟩ := he
          have := hh.2 x (by simpa using hx)
          simpa [hb] using this
      · rintro ⟨r, hr, hL, he⟩
        have hi := (List.getElem?_eq_some_iff.1 hr).1
        refine ⟨by omega, ?_⟩
        rw [hop hr]
        simp only [Option.map_some, Option.getD_some, Bool.and_eq_true, Bool.not_eq_true', Array.all_eq_true']
        refine ⟨?_, fun x hx => ?_⟩
        · rw [Array.getD_eq_getD_getElem?] at hL ⊢
          rw [Array.getElem?_eq_getElem (by omega)] at hL ⊢
          exact hL
        · cases hb : Region.binds .any x with
          | false => simp
          | true =>
            simp only [Bool.not_true, Bool.false_or]
            exact he x.on (List.mem_map.2 ⟨x, List.mem_filter.2 ⟨by simpa using hx, hb⟩, rfl⟩)
    have hnil : ∀ (listed : Array Bool), listed.size = ops.size → Region.ready .any ops listed = [] → ∀ i, i < ops.size → listed.getD i false = true := by
      intro listed hsz hr i
      induction i using Nat.strongRecOn with
      | _ i ihi =>
        intro hi
        obtain ⟨r, hri⟩ := hget (i := i) (by omega)
        cases hL : listed.getD i false with
        | true => rfl
        | false =>
          have : i ∈ Region.ready .any ops listed := (hready listed i hsz).2 ⟨r, hri, hL, fun e he => ihi e (Fedge i r hri e he) (by have := Fedge i r hri e he; omega)⟩
          rw [hr] at this
          cases this
    intro fuel
    induction fuel with
    | zero =>
      intro listed a' w' M' ρ' hsz hcl hnq hcount hext hrel hsize hS' hdef
      exfalso
      have : (List.range ops.size).filter (fun i => !listed.getD i false) = [] := List.eq_nil_of_length_eq_zero (by omega)
      have := (List.filter_eq_nil_iff.1 this) q (List.mem_range.2 hqlt)
      rw [hnq] at this
      exact this rfl
    | succ fuel ih =>
      intro listed a' w' M' ρ' hsz hcl hnq hcount hext hrel hsize hS' hdef
      refine ⟨fun hr => ?_, fun i hi => ?_⟩
      · have := hnil listed hsz hr q hqlt
        rw [hnq] at this
        cases this
      obtain ⟨r, hri, hL, hedge⟩ := (hready listed i hsz).1 hi
      have hilt : i < ops.size := by have := (List.getElem?_eq_some_iff.1 hri).1; omega
      have hset : ∀ j, (listed.setIfInBounds i true).getD j false = (listed.getD j false || j == i) := by
        intro j
        simp only [Array.getD_eq_getD_getElem?, Array.getElem?_setIfInBounds]
        by_cases hj : i = j
        · subst hj
          simp [hsz, hilt]
        · have : (j == i) = false := by simp; omega
          simp [hj, this]
      have hslot : ∀ d ∈ r.o.looksAt ops, (curs t.get rs fun j => listed.getD j false) d = r.t d := by
        intro d hd
        rw [R.seen i r hri]
        refine curs_congr rs t.get _ _ d (fun j q hj hqd => ?_) t.get rfl
        by_cases hji : i = j
        · subst hji
          simp only [hL]
          simp
        · have hsl := (hslotb i j r q hri hj hji d hqd).2 hd
          by_cases hlt : j < i
          · rw [if_pos hlt] at hsl
            have := hin (fun j => listed.getD j false) hcl i r j hri hedge hsl
            simp only [this]
            simp [hlt]
          · rw [if_neg hlt] at hsl
            cases hLj : listed.getD j false with
            | false => simp [hlt]
            | true =>
              have := hin (fun j => listed.getD j false) hcl j q i hj (hcl j q hj hLj) hsl
              rw [hL] at this
              cases this
      have hwants : wants ops r.o (curs t.get rs fun j => listed.getD j false) = wants ops r.o r.t := wants_congr hslot
      unfold wpOp
      rw [hop hri]
      simp only
      by_cases hiq : i = q
      · subst hiq
        obtain ⟨h1, h2⟩ := R.pan i r hri (by omega)
        rw [wants_ok hrel (hwants.trans h1)]
        simp only [if_true]
        refine .inl ?_
        refine evOp_ok hT hcall hS' hrel ((evOp_congr (looks_congr hslot)).trans h2) ?_
        intro x M2 ρ2 w2 hx hv hS2
        refine h a' w2 M2 ρ2 x (hext.trans hx) (fun k => ?_) hv hS2 hdef
        rcases hpan k with hk | ⟨hk, hno⟩
        · exact .inl hk
        · right
          have := hrel k
          rw [curs_not rs t.get _ k (fun r' hr' => hno r'.o (by rw [← R.opers]; exact List.mem_map_of_mem hr'))] at this
          rw [hk]
          exact rel_mono hx.mem hx.pre _ _ this
      · cases hf : fl.getD i false with
        | true =>
          have hb := hflb i hilt hf hiq
          have := hin (fun j => listed.getD j false) hcl i r q hri hedge hb
          rw [hnq] at this
          cases this
        | false =>
          have hfi : fl[i]? = some false := by
            rw [List.getD_eq_getElem?_getD, List.getElem?_eq_getElem (by omega)] at hf
            rw [List.getElem?_eq_getElem (by omega)]
            simpa using hf
          have hcl' : ∀ k q, rs[k]? = some q → (listed.setIfInBounds i true).getD k false = true → ∀ e ∈ edges q.o, (listed.setIfInBounds i true).getD e false = true := by
            intro k q hk hLk e he
            rw [hset] at hLk ⊢
            by_cases hki : k = i
            · subst hki
              rw [hri] at hk
              cases hk
              simp [hedge e he]
            · have : (k == i) = false := by simpa using hki
              rw [this, Bool.or_false] at hLk
              simp [hcl k q hk hLk e he]
          have hcount' : ((List.range ops.size).filter fun j => !(listed.setIfInBounds i true).getD j false).length ≤ fuel := by
            have e1 := count_add (l := List.range ops.size) (L := fun j => listed.getD j false) (L' := fun j => (listed.setIfInBounds i true).getD j false) (i := i) List.nodup_range (List.mem_range.2 hilt) hL hset
            have e2 : ∀ (l : List Nat) (p : Nat → Bool), (l.filter p).length + (l.filter fun j => !p j).length = l.length := by
              intro l p
              induction l with
              | nil => rfl
              | cons x l ih => simp only [List.filter_cons]; cases p x <;> simp <;> omega
            have e3 := e2 (List.range ops.size) (fun j => listed.getD j false)
            have e4 := e2 (List.range ops.size) (fun j => (listed.setIfInBounds i true).getD j false)
            omega
          have hcurs : curs t.get rs (fun j => (listed.setIfInBounds i true).getD j false) = put (curs t.get rs fun j => listed.getD j false) r.o.dst r.v :=
            curs_add rs t.get _ _ i r hri hL hset fun j q hji hj d hqd => (hslotb i j r q hri hj (fun e => hji e.symm) d hqd).1
          have hfd : ∀ e, r.o.dst = some e → e < a'.tmps.size := by rw [hsize]; exact fits_lt (R.fits i r hri)
          have hnq' : (listed.setIfInBounds i true).getD q false = false := by
            rw [hset, hnq]
            have : (q == i) = false := by simp; omega
            simp [this]
          cases hw : r.w with
          | false =>
            obtain ⟨h1, h2⟩ := R.off i r hri hfi hw
            rw [wants_ok hrel (hwants.trans h1)]
            simp only [Bool.false_eq_true, if_false]
            exact ih _ _ _ M' ρ' (by simpa using hsz) hcl' hnq' hcount' hext (by rw [hcurs, h2]; exact put_relT hrel rel_undef r.o.dst hfd) (by rw [put_size]; exact hsize) hS' (by rw [put_defers']; exact hdef)
          | true =>
            obtain ⟨h1, h2⟩ := R.on i r hri hfi hw
            rw [wants_ok hrel (hwants.trans h1)]
            simp only [if_true]
            refine .inl ?_
            refine evOp_ok hT hcall hS' hrel ((evOp_congr (looks_congr hslot)).trans h2) ?_
            intro x M2 ρ2 w2 hx hv hS2
            exact ih _ _ _ M2 ρ2 (by simpa using hsz) hcl' hnq' hcount' (hext.trans hx) (by rw [hcurs]; exact put_relT (relT_mono hx.mem hx.pre hrel) hv r.o.dst hfd) (by rw [put_size]; exact hsize) hS2 (by rw [put_defers']; exact hdef)
  refine key ops.size (Array.replicate ops.size false) a _ M ρ (by simp) (fun i r hi hL => ?_) ?_ ?_ (Ext.drew M ρ w) ?_ ht.1.symm hS.drew rfl
  · exfalso
    simp [Array.getD_eq_getD_getElem?, Array.getElem?_replicate] at hL
    split at hL <;> simp at hL
  · simp only [Array.getD_eq_getD_getElem?, Array.getElem?_replicate]
    split <;> rfl
  · exact Nat.le_trans (List.length_filter_le _ _) (by simp)
  · have h0 : ∀ j, (Array.replicate ops.size false).getD j false = false := by
      intro j
      simp only [Array.getD_eq_getD_getElem?, Array.getElem?_replicate]
      split <;> rfl
    simp only [h0]
    rw [curs_none]
    exact ht.2
noncomputable def forget (t : Tm) : List Nat → Tm
 | [] => t
 | d :: l => forget (t.put (some d) .un) l
theorem forget_get : ∀ (l : List Nat) (t : Tm) (k : Nat), (forget t l).get k = if k ∈ l then .un else t.get k
 | [], t, k => by simp [forget]
 | d :: l, t, k => by
  rw [forget, forget_get l];by_cases h : k ∈ l
  ·simp [h]
  ·by_cases e : k = d
   ·subst e; simp [h, Tm.get_put, put]
   ·simp [h, e, Tm.get_put, put]
theorem Tri.drawPan (hT : TOk P T) {call : CallF} (hC : call.Sound P T) {id : Nat} {ops : Array Oper} {t : Tm} {H : Heap} (q : Nat) (v : V) (H' : Heap) (fl : List Bool) {Q : Out → Prop}
 (hs : (drawStat ops.toList ops (masks ops.toList []) && chkP (masks ops.toList []) q fl) = true) (hq : QP (evOp T call) ops H q v H' 0 ops.toList fl t)
 (h : Q (.pan v (forget t (ops.toList.filterMap (·.dst))) H')) : Tri P T (.region id ops true) t H Q := by
 refine ⟨_, h, fun a w M ρ R hS ht k => evDrawPan_ok hT hC hS ht hs hq (fun k => ?_) k⟩;rw [forget_get];by_cases hk : k ∈ ops.toList.filterMap (·.dst)
 ·simp [hk]
 ·rw [if_neg hk];exact .inr ⟨rfl, fun o ho e => hk (List.mem_filterMap.2 ⟨o, ho, e⟩)⟩
end
open Go Go.RowKit
section
variable {P : Program} {T : Tab} {t t' : Tm} {H H' : Heap} {hs : List HE} {r : Option Nat} {c x y : Code} {id j : Nat} {v : V} {Q : Out → List HE → Prop} {F : FuncId}
theorem inSeqG_norm (h : TriG P T r hs y t H Q) : inSeqG P T r y Q (.norm t H) hs := h
theorem inBlkG_norm (h : Q (.norm t H) hs) : inBlkG id Q (.norm t H) hs := h
theorem inBlkG_exit (h : Q (.norm t H) hs) : inBlkG id Q (.exit id t H) hs := by simpa only [inBlkG, if_true] using h
theorem inLoopG_norm (h : LTriG P T r hs c t H Q) : inLoopG P T r c Q (.norm t H) hs := h
def Weak (v v' : V) : Prop := ∀ (M : Mem) (ρ : Ren) (x : Value), rel M ρ v x → rel M ρ v' x
theorem Weak.refl (v : V) : Weak v v := fun _ _ _ h => h
theorem weak_nils (n : Nat) : Weak .nils (.isl n []) := fun M ρ x h => by
 simp only [rel] at h ⊢;exact ⟨none, 0, h, by simp, fun e => absurd rfl e⟩
def WeakL (l l' : List V) : Prop := ∀ (M : Mem) (ρ : Ren) (x : List Value), relL M ρ l x → relL M ρ l' x
theorem WeakL.nil : WeakL [] [] := fun _ _ _ h => h
theorem WeakL.cons {v v' : V} {l l' : List V} (h : Weak v v') (hl : WeakL l l') : WeakL (v :: l) (v' :: l') := fun M ρ x k => by
 simp only [relL] at k ⊢;obtain ⟨a, b, e, h1, h2⟩ := k;exact ⟨a, b, e, h M ρ a h1, hl M ρ b h2⟩
theorem WeakL.agg {l l' : List V} (h : WeakL l l') : Weak (.agg l) (.agg l') := fun M ρ x k => by
 simp only [rel] at k ⊢;obtain ⟨cs, e, h1⟩ := k;exact ⟨cs, e, h M ρ cs h1⟩
theorem WeakL.tup {l l' : List V} (h : WeakL l l') : Weak (.tup l) (.tup l') := fun M ρ x k => by
 simp only [rel] at k ⊢;obtain ⟨cs, e, h1⟩ := k;exact ⟨cs, e, h M ρ cs h1⟩
theorem CallOK.weak {f : FuncId} {args : Array Value} {M : Mem} {ρ : Ren} {w : World} {v v' : V} (hv : Weak v v') (h : CallOK P T f args M ρ w (.val v H)) : CallOK P T f args M ρ w (.val v' H) := by
 refine Calls.mono h ?_;rintro e w' ⟨x, M', σ, rfl, he, hx, hk⟩;exact ⟨x, M', σ, rfl, he, hv _ _ _ hx, hk⟩
theorem spec_frzw (hp : T.Plain) {g : Spec} (hg : SpecOK P T F g) (D : List V → Prop) (R : List V → V → Prop)
    (h : ∀ vs, D vs → nlL vs = true ∧ ∃ v J k v' u, g vs [] = .val v J ∧ fz J k v = some v' ∧ Weak v' u ∧ R vs u) : ∃ g', SpecOK P T F g' ∧ ∀ vs, D vs → ∃ v', R vs v' ∧ ∀ H, g' vs H = .val v' H := by
  classical
  have hx : ∀ vs, D vs → ∃ u, (∃ v J k v', g vs [] = .val v J ∧ fz J k v = some v' ∧ Weak v' u) ∧ R vs u := fun vs hd => by
    obtain ⟨_, v, J, k, v', u, h1, h2, h3, h4⟩ := h vs hd
    exact ⟨u, ⟨v, J, k, v', h1, h2, h3⟩, h4⟩
  refine ⟨fun vs H => if hd : D vs then .val (hx vs hd).choose H else .no, ?_, ?_⟩
  · intro vs H r hr hne
    simp only at hr
    split at hr
    · rename_i hd
      obtain ⟨⟨v, J, k, v', h1, h2, h3⟩, _⟩ := (hx vs hd).choose_spec
      obtain ⟨k1, k2⟩ := hg vs [] _ h1 (by simp)
      subst hr
      exact ⟨k1, fun M ρ w args hS hr => CallOK.weak h3 (CallOK.frame_fz hp hS (k2 M [] w args (hS.forget hp) (nlL_rel vs args (h vs hd).1 hr)) h2)⟩
    · exact absurd hr.symm hne
  · intro vs hd
    exact ⟨_, (hx vs hd).choose_spec.2, fun H => dif_pos hd⟩
end
end Go.Ev
