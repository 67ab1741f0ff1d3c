/- Triples for loops over functions, facts of functions on heaps, regions that draw their order and turn the heap. -/
import Derived.Test.YtddpjgoboboidaaGreatDoorEvRange
import Derived.Test.YtddpjgoboboidaaGreatDoorEvFact
import Derived.LoopNIn
import Derived.Test.YtddpjgoboboidaaGreatDoorEvFz
namespace Go.Ev
open Go Go.RowKit
set_option linter.unusedVariables false
/-- A block that is kept apart: a loop's record, with the temporaries that it holds. -/
structure HE where
  l : Nat
  o : Obj
  t : Tm
  ts : Array Value
/-- The mark of a block of deferred calls. -/
def mark (D : Nat) : Deferred := { target := .collected D, args := #[] }
section
variable {P : Program} {T : Tab}
/-- How a state stands to what is known of it. -/
structure StX (T : Tab) (M0 : Mem) (ρ0 : Ren) (w0 : World) (M : Mem) (ρ : Ren) (ms : List Nat) (t : Tm) (H : Heap) (hs : List HE) (a : Act) (w : World) : Prop where
  ext : Ext M0 ρ0 w0 M ρ w
  sr : SR T M ρ H w
  tm : relTm M ρ t a.tmps
  hid : ∀ e ∈ hs, w0.heap.size ≤ e.l ∧ Hid e.l e.o M ρ w ∧ relTm M ρ e.t e.ts
  defs : a.defers = ms.map mark
  marks : ∀ D ∈ ms, w0.heap.size ≤ D ∧ Hid D (.deferred (some [])) M ρ w
  nd : (ms ++ hs.map HE.l).Nodup
variable {M0 M M' : Mem} {ρ0 ρ ρ' : Ren} {w0 w w' : World} {ms : List Nat} {t t' : Tm} {H H' : Heap} {hs hs' xs : List HE} {a a' : Act} {r : Option Nat} {c x y : Code} {id : Nat}
theorem StX.step (h : StX T M0 ρ0 w0 M ρ ms t H hs a w) (he : Ext M ρ w M' ρ' w') (ht : relTm M' ρ' t' a'.tmps) (hS : SR T M' ρ' H' w') (hd : a'.defers = a.defers) : StX T M0 ρ0 w0 M' ρ' ms t' H' hs a' w' :=
  ⟨h.ext.trans he, hS, ht, fun e hm => ⟨(h.hid e hm).1, (h.hid e hm).2.1.ext he, relTm_mono he.mem he.pre (h.hid e hm).2.2⟩, hd.trans h.defs, fun D hD => ⟨(h.marks D hD).1, (h.marks D hD).2.ext he⟩, h.nd⟩
def Behind (T : Tab) (M0 : Mem) (ρ0 : Ren) (w0 : World) (M : Mem) (ρ : Ren) (t : Tm) (H : Heap) (hs : List HE) (a' : Act) (w' : World) : Prop :=
  ∃ M' ρ' ms, M.le M' ∧ ρ <+: ρ' ∧ StX T M0 ρ0 w0 M' ρ' ms t H hs a' w'
/-- What is so behind a piece of code. -/
def PostG (T : Tab) (M0 : Mem) (ρ0 : Ren) (w0 : World) (M : Mem) (ρ : Ren) (xs : List HE) (o : Out) (hs : List HE) (e : Exit) (a' : Act) (w' : World) : Prop :=
  match o, e with
  | .norm t H, .normal => Behind T M0 ρ0 w0 M ρ t H (hs ++ xs) a' w'
  | .exit id t H, .exit j => j = id ∧ Behind T M0 ρ0 w0 M ρ t H (hs ++ xs) a' w'
  | .ret t H, .ret => Behind T M0 ρ0 w0 M ρ t H (hs ++ xs) a' w'
  | _, _ => False
theorem Behind.later (h1 : M.le M') (h2 : ρ <+: ρ') (h : Behind T M0 ρ0 w0 M' ρ' t H hs a' w') : Behind T M0 ρ0 w0 M ρ t H hs a' w' := by
  obtain ⟨M2, ρ2, ms, k1, k2, k3⟩ := h
  exact ⟨M2, ρ2, ms, h1.trans k1, h2.trans k2, k3⟩
theorem PostG.later {o : Out} {e : Exit} (h1 : M.le M') (h2 : ρ <+: ρ') (h : PostG T M0 ρ0 w0 M' ρ' xs o hs e a' w') : PostG T M0 ρ0 w0 M ρ xs o hs e a' w' := by
  cases o <;> cases e <;> first
    | exact Behind.later h1 h2 h
    | exact ⟨h.1, Behind.later h1 h2 h.2⟩
    | exact h
def TriGX (P : Program) (T : Tab) (r : Option Nat) (hs : List HE) (c : Code) (t : Tm) (H : Heap) (o : Out) (hs' : List HE) : Prop :=
  ∀ (n : Nat) (M0 : Mem) (ρ0 : Ren) (w0 : World) (M : Mem) (ρ : Ren) (ms : List Nat) (xs : List HE) (a : Act) (w : World), StX T M0 ρ0 w0 M ρ ms t H (hs ++ xs) a w → c.wpIn (FR r) n P (PostG T M0 ρ0 w0 M ρ xs o hs') a w
def LTriGX (P : Program) (T : Tab) (r : Option Nat) (hs : List HE) (c : Code) (t : Tm) (H : Heap) (o : Out) (hs' : List HE) : Prop :=
  ∃ m, ∀ (n : Nat) (M0 : Mem) (ρ0 : Ren) (w0 : World) (M : Mem) (ρ : Ren) (ms : List Nat) (xs : List HE) (a : Act) (w : World), StX T M0 ρ0 w0 M ρ ms t H (hs ++ xs) a w → Code.roundsIn (FR r) n P c (PostG T M0 ρ0 w0 M ρ xs o hs') m a w
/-- Code, in a round or not, with blocks kept apart: one outcome for all worlds. -/
def TriG (P : Program) (T : Tab) (r : Option Nat) (hs : List HE) (c : Code) (t : Tm) (H : Heap) (Q : Out → List HE → Prop) : Prop := ∃ o hs', Q o hs' ∧ TriGX P T r hs c t H o hs'
def LTriG (P : Program) (T : Tab) (r : Option Nat) (hs : List HE) (c : Code) (t : Tm) (H : Heap) (Q : Out → List HE → Prop) : Prop := ∃ o hs', Q o hs' ∧ LTriGX P T r hs c t H o hs'
variable {Q Q' : Out → List HE → Prop}
theorem TriG.mono (h : TriG P T r hs c t H Q) (hq : ∀ o k, Q o k → Q' o k) : TriG P T r hs c t H Q' := by
  obtain ⟨o, k, h1, h2⟩ := h
  exact ⟨o, k, hq o k h1, h2⟩
theorem LTriG.mono (h : LTriG P T r hs c t H Q) (hq : ∀ o k, Q o k → Q' o k) : LTriG P T r hs c t H Q' := by
  obtain ⟨o, k, h1, h2⟩ := h
  exact ⟨o, k, hq o k h1, h2⟩
theorem StX.behind (h : StX T M0 ρ0 w0 M ρ ms t H hs a w) : Behind T M0 ρ0 w0 M ρ t H hs a w := ⟨M, ρ, ms, Mem.le.refl _, List.prefix_refl _, h⟩
theorem TriG.skip (h : Q (.norm t H) hs) : TriG P T r hs .skip t H Q := ⟨_, _, h, fun n M0 ρ0 w0 M ρ ms xs a w k => wpIn_skip k.behind⟩
theorem TriG.exit (h : Q (.exit id t H) hs) : TriG P T r hs (.exit id) t H Q := ⟨_, _, h, fun n M0 ρ0 w0 M ρ ms xs a w k => wpIn_exit ⟨rfl, k.behind⟩⟩
theorem TriG.ret (h : Q (.ret t H) hs) : TriG P T r hs .ret t H Q := ⟨_, _, h, fun n M0 ρ0 w0 M ρ ms xs a w k => wpIn_ret k.behind⟩
/-- A region without draws. -/
theorem TriG.reg (hT : TOk P T) {call : CallF} (hC : call.Sound P T) {ops : Array Oper} (hnd : noDefer ops = true) (he : evReg T call ops false t H = .norm t' H') (h : Q (.norm t' H') hs) : TriG P T r hs (.region id ops false) t H Q :=
  ⟨_, _, h, fun n M0 ρ0 w0 M ρ ms xs a w k => regIn_ok hT hC k.sr k.tm (noDefer_at hnd) he fun a' w' M' ρ' e1 ht hS hd => ⟨M', ρ', ms, e1.mem, e1.pre, k.step e1 ht hS hd⟩⟩
theorem ext_refl_le (he : Ext M ρ w M' ρ' w') : M.le M' ∧ ρ <+: ρ' := ⟨he.mem, he.pre⟩
/-- An end that is no panic. -/
def Out.good : Out → Prop
  | .pan .. => False
  | .no => False
  | _ => True
/-- Code without loops over functions, not in a round. -/
theorem TriG.lift {Q2 : Out → Prop} (h : Tri P T c t H Q2) (hq : ∀ o, Q2 o → o.good ∧ Q o hs) : TriG P T none hs c t H Q := by
  obtain ⟨o, h1, h2⟩ := h
  refine ⟨o, hs, (hq o h1).2, fun n M0 ρ0 w0 M ρ ms xs a w k => ?_⟩
  show c.wpIn (FR none) n P _ a w
  refine wpIn_wide.2 (h2 a w M ρ _ k.sr k.tm ?_)
  have hp := (hq o h1).1
  cases o with
  | norm t' H' => exact fun a' w' M' ρ' e1 ht hS hd => ⟨M', ρ', ms, e1.mem, e1.pre, k.step e1 ht hS hd⟩
  | exit id t' H' => exact fun a' w' M' ρ' e1 ht hS hd => ⟨rfl, M', ρ', ms, e1.mem, e1.pre, k.step e1 ht hS hd⟩
  | ret t' H' => exact fun a' w' M' ρ' e1 ht hS hd => ⟨M', ρ', ms, e1.mem, e1.pre, k.step e1 ht hS hd⟩
  | pan v t' H' => exact hp.elim
  | no => exact hp.elim
def inSeqG (P : Program) (T : Tab) (r : Option Nat) (y : Code) (Q : Out → List HE → Prop) : Out → List HE → Prop
  | .norm t H, hs => TriG P T r hs y t H Q
  | o, hs => Q o hs
def inBlkG (id : Nat) (Q : Out → List HE → Prop) : Out → List HE → Prop
  | .exit j t H, hs => if j = id then Q (.norm t H) hs else Q (.exit j t H) hs
  | o, hs => Q o hs
def inLoopG (P : Program) (T : Tab) (r : Option Nat) (c : Code) (Q : Out → List HE → Prop) : Out → List HE → Prop
  | .norm t H, hs => LTriG P T r hs c t H Q
  | o, hs => Q o hs
theorem TriG.seq (h : TriG P T r hs x t H (inSeqG P T r y Q)) : TriG P T r hs (.seq x y) t H Q := by
  obtain ⟨o, k, h1, h2⟩ := h
  cases o with
  | norm t1 H1 =>
    obtain ⟨o2, k2, h3, h4⟩ := h1
    refine ⟨o2, k2, h3, fun n M0 ρ0 w0 M ρ ms xs a w s => wpIn_seq (wpIn_mono (h2 n M0 ρ0 w0 M ρ ms xs a w s) ?_)⟩
    intro e a' w' hp
    cases e with
    | normal =>
      obtain ⟨M', ρ', ms', q1, q2, s'⟩ := hp
      exact wpIn_mono (h4 n M0 ρ0 w0 M' ρ' ms' xs a' w' s') fun e2 a2 w2 hp2 => hp2.later q1 q2
    | _ => exact hp.elim
  | exit j t1 H1 =>
    refine ⟨_, k, h1, fun n M0 ρ0 w0 M ρ ms xs a w s => wpIn_seq (wpIn_mono (h2 n M0 ρ0 w0 M ρ ms xs a w s) ?_)⟩
    intro e a' w' hp
    cases e <;> first
      | exact hp.elim
      | exact hp
  | ret t1 H1 =>
    refine ⟨_, k, h1, fun n M0 ρ0 w0 M ρ ms xs a w s => wpIn_seq (wpIn_mono (h2 n M0 ρ0 w0 M ρ ms xs a w s) ?_)⟩
    intro e a' w' hp
    cases e <;> first
      | exact hp.elim
      | exact hp
  | pan v t1 H1 =>
    refine ⟨_, k, h1, fun n M0 ρ0 w0 M ρ ms xs a w s => wpIn_seq (wpIn_mono (h2 n M0 ρ0 w0 M ρ ms xs a w s) ?_)⟩
    intro e a' w' hp
    cases e <;> exact hp.elim
  | no =>
    refine ⟨_, k, h1, fun n M0 ρ0 w0 M ρ ms xs a w s => wpIn_seq (wpIn_mono (h2 n M0 ρ0 w0 M ρ ms xs a w s) ?_)⟩
    intro e a' w' hp
    cases e <;> exact hp.elim
theorem TriG.block (h : TriG P T r hs x t H (inBlkG id Q)) : TriG P T r hs (.block id x) t H Q := by
  obtain ⟨o, k, h1, h2⟩ := h
  have key : ∀ o2, (∀ (n : Nat) (M0 : Mem) (ρ0 : Ren) (w0 : World) (M : Mem) (ρ : Ren) (xs : List HE) e a' w', PostG T M0 ρ0 w0 M ρ xs o k e a' w' → Exit.inBlock id (PostG T M0 ρ0 w0 M ρ xs o2 k) e a' w') → Q o2 k → TriG P T r hs (.block id x) t H Q :=
    fun o2 hq hQ => ⟨o2, k, hQ, fun n M0 ρ0 w0 M ρ ms xs a w s => wpIn_block (wpIn_mono (h2 n M0 ρ0 w0 M ρ ms xs a w s) (hq n M0 ρ0 w0 M ρ xs))⟩
  cases o with
  | exit j t1 H1 =>
    simp only [inBlkG] at h1
    by_cases e : j = id
    · rw [if_pos e] at h1
      refine key _ ?_ h1
      intro n M0 ρ0 w0 M ρ xs ex a' w' hp
      cases ex <;> first
        | exact hp.elim
        | (obtain ⟨e2, hp⟩ := hp
           simp only [Exit.inBlock]
           rw [if_pos (e2.trans e)]
           exact hp)
    · rw [if_neg e] at h1
      refine key _ ?_ h1
      intro n M0 ρ0 w0 M ρ xs ex a' w' hp
      cases ex <;> first
        | exact hp.elim
        | (simp only [Exit.inBlock]
           rw [if_neg (fun q => e (hp.1.symm.trans q))]
           exact hp)
  | norm t1 H1 =>
    refine key _ ?_ h1
    intro n M0 ρ0 w0 M ρ xs ex a' w' hp
    cases ex <;> first
      | exact hp.elim
      | exact hp
  | ret t1 H1 =>
    refine key _ ?_ h1
    intro n M0 ρ0 w0 M ρ xs ex a' w' hp
    cases ex <;> first
      | exact hp.elim
      | exact hp
  | pan v t1 H1 =>
    refine key _ ?_ h1
    intro n M0 ρ0 w0 M ρ xs ex a' w' hp
    cases ex <;> exact hp.elim
  | no =>
    refine key _ ?_ h1
    intro n M0 ρ0 w0 M ρ xs ex a' w' hp
    cases ex <;> exact hp.elim
theorem TriG.cond {g : Operand} {b : Bool} {o : Option V} (hg : ev1 t.get g = o) (ho : o = some (.b b)) (h1 : b = true → TriG P T r hs x t H Q) (h2 : b = false → TriG P T r hs y t H Q) : TriG P T r hs (.cond g x y) t H Q := by
  subst ho
  have hv : ∀ {M : Mem} {ρ : Ren} {a : Act}, relTm M ρ t a.tmps → a.eval g = .bool b := fun ht => by
    have := ev1_rel ht.2 hg
    simpa only [rel] using this
  cases b with
  | true =>
    obtain ⟨o, k, ho, hx⟩ := h1 rfl
    exact ⟨o, k, ho, fun n M0 ρ0 w0 M ρ ms xs a w s => wpIn_cond_true (hv s.tm) (hx n M0 ρ0 w0 M ρ ms xs a w s)⟩
  | false =>
    obtain ⟨o, k, ho, hx⟩ := h2 rfl
    exact ⟨o, k, ho, fun n M0 ρ0 w0 M ρ ms xs a w s => wpIn_cond_false (hv s.tm) (hx n M0 ρ0 w0 M ρ ms xs a w s)⟩
theorem roundsIn_mono {F : Fence} {n : Nat} {c : Code} {R R' : Exit → Act → World → Prop} (hq : ∀ e a w, R e a w → R' e a w) : ∀ (m : Nat) (a : Act) (w : World), Code.roundsIn F n P c R m a w → Code.roundsIn F n P c R' m a w
  | 0, _, _, h => h
  | m + 1, a, w, h => by
    rw [roundsIn_succ] at h ⊢
    refine wpIn_mono h ?_
    intro e a' w' hp
    cases e with
    | normal => exact roundsIn_mono hq m a' w' hp
    | _ => exact hq _ _ _ hp
theorem LTriG.round (h : TriG P T r hs c t H (inLoopG P T r c Q)) : LTriG P T r hs c t H Q := by
  obtain ⟨o, k, h1, h2⟩ := h
  cases o with
  | norm t1 H1 =>
    obtain ⟨o2, k2, h3, m, h4⟩ := h1
    refine ⟨o2, k2, h3, m + 1, fun n M0 ρ0 w0 M ρ ms xs a w s => ?_⟩
    rw [roundsIn_succ]
    refine wpIn_mono (h2 n M0 ρ0 w0 M ρ ms xs a w s) ?_
    intro e a' w' hp
    cases e with
    | normal =>
      obtain ⟨M', ρ', ms', q1, q2, s'⟩ := hp
      have := h4 n M0 ρ0 w0 M' ρ' ms' xs a' w' s'
      exact roundsIn_mono (fun e2 a2 w2 hp2 => hp2.later q1 q2) m a' w' this
    | _ => exact hp.elim
  | exit j t1 H1 =>
    refine ⟨_, k, h1, 1, fun n M0 ρ0 w0 M ρ ms xs a w s => wpIn_mono (h2 n M0 ρ0 w0 M ρ ms xs a w s) ?_⟩
    intro e a' w' hp
    cases e <;> first
      | exact hp.elim
      | exact hp
  | ret t1 H1 =>
    refine ⟨_, k, h1, 1, fun n M0 ρ0 w0 M ρ ms xs a w s => wpIn_mono (h2 n M0 ρ0 w0 M ρ ms xs a w s) ?_⟩
    intro e a' w' hp
    cases e <;> first
      | exact hp.elim
      | exact hp
  | pan v t1 H1 =>
    refine ⟨_, k, h1, 1, fun n M0 ρ0 w0 M ρ ms xs a w s => wpIn_mono (h2 n M0 ρ0 w0 M ρ ms xs a w s) ?_⟩
    intro e a' w' hp
    cases e <;> exact hp.elim
  | no =>
    refine ⟨_, k, h1, 1, fun n M0 ρ0 w0 M ρ ms xs a w s => wpIn_mono (h2 n M0 ρ0 w0 M ρ ms xs a w s) ?_⟩
    intro e a' w' hp
    cases e <;> exact hp.elim
theorem TriG.loop (h : LTriG P T r hs c t H Q) : TriG P T r hs (.loop c) t H Q := by
  obtain ⟨o, k, h1, m, h2⟩ := h
  exact ⟨o, k, h1, fun n M0 ρ0 w0 M ρ ms xs a w s => wpIn_loop_rounds m (h2 n M0 ρ0 w0 M ρ ms xs a w s)⟩
end
end Go.Ev

namespace Go.Ev
open Go Go.RowKit
set_option linter.unusedVariables false
theorem FRw' : FR none = Fence.wide := rfl
noncomputable def putL (t : Tm) : List Nat → List V → Tm
  | p :: ps, v :: vs => putL (t.put (some p) v) ps vs
  | _, _ => t
section
variable {P : Program} {T : Tab} {M0 M M' : Mem} {ρ0 ρ ρ' : Ren} {w0 w w' : World} {ms : List Nat} {t t' : Tm} {H H' : Heap} {hs hs' xs : List HE} {a a' : Act} {r : Option Nat} {c x y : Code} {id : Nat} {Q : Out → List HE → Prop}
theorem relTm_foldl : ∀ (ps : List Nat) (vs : List V) (args : List Value) (t : Tm) (ts : Array Value), relTm M ρ t ts → relL M ρ vs args → (∀ p ∈ ps, p < t.wid) →
    relTm M ρ (putL t ps vs) ((ps.zip args).foldl (fun (tmps : Array Value) (x : Nat × Value) => tmps.setIfInBounds x.1 x.2) ts)
  | [], vs, args, t, ts, h, _, _ => by simpa [putL] using h
  | p :: ps, [], args, t, ts, h, hr, _ => by
    simp only [relL] at hr
    subst hr
    simpa [putL] using h
  | p :: ps, v :: vs, args, t, ts, h, hr, hp => by
    simp only [relL] at hr
    obtain ⟨x, r, rfl, hx, hr⟩ := hr
    simp only [putL, List.zip_cons_cons, List.foldl_cons]
    refine relTm_foldl ps vs r _ _ (put_rel (a := { tmps := ts, defers := [] }) h hx (some p) ?_) hr (fun q hq => by rw [Tm.wid_put]; exact hp q (List.mem_cons_of_mem _ hq))
    have := hp p (by simp)
    simp only [Tm.fits]
    rw [Nat.blt_eq]; exact this
theorem foldl_zip (params : Array Nat) (args : List Value) (ts : Array Value) : (params.zip args.toArray).foldl (fun tmps (x : Nat × Value) => match x with | (t, a) => tmps.setIfInBounds t a) ts = (params.toList.zip args).foldl (fun (tmps : Array Value) (x : Nat × Value) => tmps.setIfInBounds x.1 x.2) ts := by
  rw [← Array.foldl_toList, Array.toList_zip]
/-- A record is turned. -/
theorem StX.turn {e : HE} (o' : Obj) (h : StX T M0 ρ0 w0 M ρ ms t H (e :: hs) a w) : StX T M0 ρ0 w0 M ρ ms t H ({ e with o := o' } :: hs) a (w.putObj e.l o') := by
  obtain ⟨h1, h2, h3⟩ := h.hid e (by simp)
  have hnd := h.nd
  rw [List.map_cons, List.nodup_append] at hnd
  obtain ⟨n1, n2, n3⟩ := hnd
  rw [List.nodup_cons] at n2
  refine ⟨ext_put h.ext h1, sr_put h.sr h2, h.tm, ?_, h.defs, ?_, ?_⟩
  · intro f hf
    rcases List.mem_cons.1 hf with rfl | hf
    · exact ⟨h1, h2.put o', h3⟩
    · obtain ⟨k1, k2, k3⟩ := h.hid f (by simp [hf])
      refine ⟨k1, k2.other ?_, k3⟩
      intro e2
      exact n2.1 (e2 ▸ List.mem_map_of_mem hf)
  · intro D hD
    obtain ⟨k1, k2⟩ := h.marks D hD
    exact ⟨k1, k2.other (n3 D hD e.l (by simp))⟩
  · simpa using h.nd
/-- The marks of a frame, as blocks kept apart. -/
noncomputable def mE (D : Nat) : HE := ⟨D, .deferred (some []), Tm.init 0 [], #[]⟩
theorem relTm_zero : relTm M ρ (Tm.init 0 []) #[] := by
  have := relTm_init (M := M) (ρ := ρ) (vs := []) (args := []) (by simp only [relL]) (n := 0) (by simp)
  simpa using this
theorem mE_l (ms : List Nat) : (ms.map mE).map HE.l = ms := by
  induction ms with
  | nil => rfl
  | cons D ms ih => simp [mE, ih]
/-- Into a frame of its own, and back. -/
theorem StX.down (h : StX T M0 ρ0 w0 M ρ ms t H hs a w) (ht : relTm M ρ t' a'.tmps) (hd : a'.defers = []) : StX T M0 ρ0 w0 M ρ [] t' H (hs ++ ms.map mE) a' w := by
  refine ⟨h.ext, h.sr, ht, ?_, by simpa using hd, by simp, ?_⟩
  · intro e he
    rcases List.mem_append.1 he with he | he
    · exact h.hid e he
    · obtain ⟨D, hD, rfl⟩ := List.mem_map.1 he
      exact ⟨(h.marks D hD).1, (h.marks D hD).2, relTm_zero⟩
  · rw [List.nil_append, List.map_append, mE_l]
    exact (List.perm_append_comm.nodup_iff).1 h.nd
theorem StX.up {ms2 : List Nat} (h : StX T M0 ρ0 w0 M ρ ms2 t H (hs ++ ms.map mE) a w) (ht : relTm M ρ t' a'.tmps) (hd : a'.defers = ms.map mark) : StX T M0 ρ0 w0 M ρ ms t' H hs a' w := by
  refine ⟨h.ext, h.sr, ht, fun e he => h.hid e (List.mem_append_left _ he), hd, fun D hD => ?_, ?_⟩
  · obtain ⟨k1, k2, _⟩ := h.hid (mE D) (List.mem_append_right _ (List.mem_map_of_mem hD))
    exact ⟨k1, k2⟩
  · have := h.nd
    rw [List.map_append, mE_l, List.nodup_append] at this
    exact (List.perm_append_comm.nodup_iff).1 this.2.1
theorem StX.sub {k : List HE} (h : StX T M0 ρ0 w0 M ρ ms t H (k ++ hs) a w) : StX T M0 ρ0 w0 M ρ ms t H hs a w := by
  refine ⟨h.ext, h.sr, h.tm, fun e he => h.hid e (List.mem_append_right _ he), h.defs, h.marks, ?_⟩
  have := h.nd
  rw [List.map_append] at this
  rw [List.nodup_append] at this ⊢
  obtain ⟨n1, n2, n3⟩ := this
  rw [List.nodup_append] at n2
  exact ⟨n1, n2.2.1, fun a ha b hb => n3 a ha b (List.mem_append_right _ hb)⟩
/-- Operations in their order, without draws, to the end. -/
theorem evSeqIn_end' (hT : TOk P T) {call : CallF} (hcall : call.Sound P T) (ops : Array Oper) {r : Option Nat} {n : Nat} {Q : Exit → Act → World → Prop} {l : List Oper} {t : Tm} {H : Heap} {a : Act} {w : World} {M : Mem} {ρ : Ren} {t' : Tm} {H' : Heap} (hS : SR T M ρ H w) (ht : relTm M ρ t a.tmps)
    (hnd : ∀ o ∈ l, ∀ c, o.op ≠ .defer c) (h : evSeq (evOp T call) ops l t H = .norm t' H')
    (k : ∀ a' w' M' ρ', Ext M ρ w M' ρ' w' → relTm M' ρ' t' a'.tmps → SR T M' ρ' H' w' → a'.defers = a.defers → Q .normal a' w') : wpListIn (FR r) n P ops Q l a w := by
  have := evSeqIn_ok hT hcall ops (r := r) (n := n) (Q := Q) [] l t H a w M ρ t' H' hS ht hnd h k
  rwa [List.append_nil] at this
/-- What is so behind a round. -/
noncomputable def BodyQ (T : Tab) (call : CallF) (ops : Array Oper) (q : Nat) (o : Oper) (t1 : Tm) (l : Nat) (rec : Loop) (t0 : Tm) (Q : Out → List HE → Prop) : Out → List HE → Prop := fun o2 hs4 =>
  ∃ hs5, hs4 = ⟨l, .loop { rec with state := .busy }, t0, rec.tmps⟩ :: hs5 ∧ ∃ (j : Option Code) (HB : Heap), (match o2 with
    | .norm _ H => j = none ∧ HB = H
    | .ret _ H => j = some .ret ∧ HB = H
    | .exit id _ H => j = some (.exit id) ∧ HB = H
    | _ => False) ∧ ∃ t2 H2, evSeq (evOp T call) ops (ops.toList.drop (q + 1)) (t1.put o.dst (.b j.isNone)) HB = .norm t2 H2 ∧ Q (.norm t2 H2) (⟨l, .loop { rec with state := if j.isNone then .ready else .done, pending := j }, t0, rec.tmps⟩ :: hs5)
/-- A region with a call of yield. -/
theorem TriG.yield (hT : TOk P T) {call : CallF} (hC : call.Sound P T) {ops : Array Oper} (hnd : noDefer ops = true) (q : Nat) {j l : Nat} {ops2 : List Operand} {vs : List V} {o : Oper} {rec : Loop} {t0 t1 : Tm} {H1 : Heap} {hs1 : List HE} {ps : Array Nat} {asg body : Code} (hP : rec.params = ps) (hA : rec.assign = asg) (hB : rec.body = body)
    (hops : ops.toList = ops.toList.take q ++ o :: ops.toList.drop (q + 1)) (hg : o.guard = none) (h1 : evSeq (evOp T call) ops (ops.toList.take q) t H = .norm t1 H1) (ho : callTmp o = some (j, ops2)) (hj : t1.get j = .yld l) (hvs : evs t1.get ops2 = some vs)
    (hlen : vs.length = ps.size) (hst : rec.state = .ready) (hfit : t1.fits o.dst = true) (hps : ∀ p ∈ ps.toList, p < t0.wid)
    (hround : TriG P T (some l) (⟨l, .loop rec, t0, rec.tmps⟩ :: hs1) asg (putL t0 ps.toList vs) H1 fun o1 hs2 => ∃ tA HA hs3, o1 = .norm tA HA ∧ hs2 = ⟨l, .loop rec, t0, rec.tmps⟩ :: hs3 ∧
      TriG P T (some l) (⟨l, .loop { rec with state := .busy }, t0, rec.tmps⟩ :: hs3) body tA HA (BodyQ T call ops q o t1 l rec t0 Q)) :
    TriG P T r (⟨l, .loop rec, t0, rec.tmps⟩ :: hs1) (.region id ops false) t H Q := by
  subst hP hA hB
  obtain ⟨o1, hs2, ⟨tA, HA, hs3, rfl, rfl, o2, hs4, ⟨hs5, rfl, jm, HB, hm, t2, H2, he2, hQ⟩, hbody⟩, hasg⟩ := hround
  refine ⟨_, _, hQ, fun n M0 ρ0 w0 M ρ ms xs a w s => ?_⟩
  refine wpIn_region_list ?_
  rw [hops]
  refine evSeqIn_ok hT hC ops (o :: ops.toList.drop (q + 1)) (ops.toList.take q) t H a w M ρ _ _ s.sr s.tm (fun o' ho' => noDefer_at hnd o' (List.mem_of_mem_take ho')) h1 ?_
  intro a1 w1 M1 ρ1 e1 ht1 hS1 hd1
  have s1 := s.step e1 ht1 hS1 hd1
  obtain ⟨c, k1, k2, k3⟩ := callTmp_at ho
  unfold wpListIn
  simp only [Region.wanted, hg, if_true]
  have hE := s1.hid ⟨l, .loop rec, t0, rec.tmps⟩ (by simp)
  refine yield_ok ht1 k1 k2 hj (by rw [k3]; exact hvs) hE.2.1.at_ hlen ?_
  intro args hargs
  refine roundIn_of_wpIn trivial ?_
  show rec.assign.wpIn (FR (some l)) (n - 1) P _ _ _
  have hfold : relTm M1 ρ1 (putL t0 rec.params.toList vs) ((rec.params.zip args.toArray).foldl (fun tmps (x : Nat × Value) => match x with | (t, a) => tmps.setIfInBounds t a) rec.tmps) := by
    rw [foldl_zip]
    exact relTm_foldl _ _ _ _ _ hE.2.2 hargs hps
  have sA := s1.down (t' := putL t0 rec.params.toList vs) (a' := { tmps := (rec.params.zip args.toArray).foldl (fun tmps (x : Nat × Value) => match x with | (t, a) => tmps.setIfInBounds t a) rec.tmps, defers := [] }) hfold rfl
  rw [List.append_assoc] at sA
  refine wpIn_mono (hasg (n - 1) M0 ρ0 w0 M1 ρ1 [] (xs ++ ms.map mE) _ w1 sA) ?_
  intro e a2 w2 hp
  cases e with
  | normal =>
    obtain ⟨M2, ρ2, ms2, q1, q2, sB⟩ := hp
    rw [List.cons_append] at sB
    have hE2 := sB.hid ⟨l, .loop rec, t0, rec.tmps⟩ (by simp)
    refine ⟨_, run_beginRound hE2.2.1.at_ hst, ?_⟩
    have sC := sB.turn (.loop { rec with state := .busy })
    show rec.body.wpIn (FR (some l)) (n - 1) P _ _ _
    refine wpIn_mono (hbody (n - 1) M0 ρ0 w0 M2 ρ2 ms2 (xs ++ ms.map mE) a2 _ (by rw [List.cons_append]; exact sC)) ?_
    intro e3 a3 w3 hp3
    have fin : ∀ (jm' : Option Code) (tB : Tm), jm' = jm → Behind T M0 ρ0 w0 M2 ρ2 tB HB (⟨l, .loop { rec with state := .busy }, t0, rec.tmps⟩ :: hs5 ++ (xs ++ ms.map mE)) a3 w3 →
        ∃ v w', (Instr.endRound l jm').run P w3 = .ok v w' ∧ (match (Ending.returned v : Ending) with | .returned v => wpListIn (FR r) n P ops (PostG T M0 ρ0 w0 M ρ xs (.norm t2 H2) (⟨l, .loop { rec with state := if jm.isNone then .ready else .done, pending := jm }, t0, rec.tmps⟩ :: hs5)) (ops.toList.drop (q + 1)) (a1.put o.dst v) w' | _ => False) := by
      intro jm' tB ej hb
      subst ej
      obtain ⟨M3, ρ3, ms3, q3, q4, sD⟩ := hb
      rw [List.cons_append] at sD
      have hE3 := sD.hid ⟨l, .loop { rec with state := .busy }, t0, rec.tmps⟩ (by simp)
      refine ⟨_, _, run_endRound jm' hE3.2.1.at_, ?_⟩
      have sE := sD.turn (.loop { rec with state := if jm'.isNone then .ready else .done, pending := jm' })
      rw [← List.cons_append, ← List.append_assoc] at sE
      have hmem := (q1.trans q3)
      have hpre := (q2.trans q4)
      have htm : relTm M3 ρ3 (t1.put o.dst (.b jm'.isNone)) (a1.put o.dst (.bool jm'.isNone)).tmps := put_rel (relTm_mono hmem hpre ht1) (by simp only [rel]) o.dst hfit
      have sF := sE.up (a' := a1.put o.dst (.bool jm'.isNone)) htm (by rw [put_defers']; exact s1.defs)
      refine evSeqIn_end' hT hC ops sF.sr sF.tm (fun o' ho' => noDefer_at hnd o' (List.mem_of_mem_drop ho')) he2 ?_
      intro a4 w4 M4 ρ4 e4 ht4 hS4 hd4
      exact ⟨M4, ρ4, ms, (e1.mem.trans hmem).trans e4.mem, (e1.pre.trans hpre).trans e4.pre, sF.step e4 ht4 hS4 hd4⟩
    cases o2 <;> cases e3 <;> first
      | exact hp3.elim
      | exact hm.elim
      | (obtain ⟨rfl, rfl⟩ := hm
         exact fin _ _ rfl hp3)
      | (obtain ⟨rfl, rfl⟩ := hm
         obtain ⟨rfl, hp3⟩ := hp3
         exact fin _ _ rfl hp3)
  | _ => exact hp.elim
end
end Go.Ev

namespace Go.Ev
open Go Go.RowKit
set_option linter.unusedVariables false
section
variable {P : Program} {T : Tab} {M0 M M' : Mem} {ρ0 ρ ρ' : Ren} {w0 w w' : World} {ms : List Nat} {t t' : Tm} {H H' : Heap} {hs hs' xs : List HE} {a a' : Act} {r : Option Nat} {c x y : Code} {id : Nat} {Q : Out → List HE → Prop}
theorem StX.take {D : Nat} (h : StX T M0 ρ0 w0 M ρ (D :: ms) t H hs a w) (hd : a'.defers = ms.map mark) (ht : a'.tmps = a.tmps) : StX T M0 ρ0 w0 M ρ ms t H hs a' (w.putObj D (.deferred none)) := by
  obtain ⟨k1, k2⟩ := h.marks D (by simp)
  have hnd := h.nd
  rw [List.cons_append, List.nodup_cons] at hnd
  refine ⟨ext_put h.ext k1, sr_put h.sr k2, ht ▸ h.tm, ?_, hd, ?_, hnd.2⟩
  · intro e he
    obtain ⟨j1, j2, j3⟩ := h.hid e he
    refine ⟨j1, j2.other ?_, j3⟩
    intro e2
    exact hnd.1 (List.mem_append_right _ (e2 ▸ List.mem_map_of_mem he))
  · intro D' hD'
    obtain ⟨j1, j2⟩ := h.marks D' (by simp [hD'])
    refine ⟨j1, j2.other ?_⟩
    intro e2
    exact hnd.1 (List.mem_append_left _ (e2 ▸ hD'))
/-- What is so behind a call. -/
def PostC (T : Tab) (M0 : Mem) (ρ0 : Ren) (w0 : World) (M : Mem) (ρ : Ren) (v : V) (H : Heap) (hs : List HE) (e : Ending) (w' : World) : Prop :=
  ∃ x M' ρ', e = .returned x ∧ M.le M' ∧ ρ <+: ρ' ∧ rel M' ρ' v x ∧ StX T M0 ρ0 w0 M' ρ' [] (Tm.init 0 []) H hs { tmps := #[], defers := [] } w'
theorem leaves_marks (hT : TOk P T) {n : Nat} {fn : Func} {v : V} (hf : finish T fn t.get H = .val v H) (h1 : M.le M') (h2 : ρ <+: ρ') : ∀ (ms : List Nat) (a : Act) (w : World), StX T M0 ρ0 w0 M' ρ' ms t H hs a w →
    LeavesInM (FR none) n P fn a.tmps (PostC T M0 ρ0 w0 M ρ v H hs) a.defers .returning w
  | [], a, w, s => by
    rw [s.defs]
    obtain ⟨_, x, hx, hr⟩ := results_ok hT s.sr s.tm.2 hf
    exact ⟨x, hx, x, M', ρ', rfl, h1, h2, hr, ⟨s.ext, s.sr, relTm_zero, s.hid, rfl, by simp, s.nd⟩⟩
  | D :: ms, a, w, s => by
    have k := s.marks D (by simp)
    have ih := leaves_marks (n := n) hT hf h1 h2 ms { a with defers := ms.map mark } _ (s.take rfl rfl)
    rw [s.defs]
    exact ⟨by simp, .inl ⟨D, _, rfl, run_takeDeferred k.2.at_, ih⟩⟩
/-- A function's call, out of its body. -/
theorem calls_of_triGX (hT : TOk P T) {f : FuncId} {fn : Func} {vs : List V} {args : List Value} {o : Out} {v : V} {n : Nat} (hf : P.funcs[f]? = some fn) (hb : fn.body = some c) (hle : vs.length ≤ fn.ntmps)
    (h : TriGX P T none hs c (Tm.init fn.ntmps vs) H o hs') (ho : (∃ tI, (o = .norm tI H' ∨ o = .ret tI H') ∧ finish T fn tI.get H' = .val v H')) (hr : relL M ρ vs args)
    (s : StX T M0 ρ0 w0 M ρ [] t H (hs ++ xs) a w) : CallsIn (FR none) n P f args.toArray w (PostC T M0 ρ0 w0 M ρ v H' (hs' ++ xs)) := by
  obtain ⟨tI, ho, hfin⟩ := ho
  refine callsIn_of_wp_marks hf hb trivial ?_ rfl
  have ht0 := relTm_init (M := M) (ρ := ρ) hr hle
  refine wpIn_mono (h n M0 ρ0 w0 M ρ [] xs _ w ⟨s.ext, s.sr, ht0, s.hid, rfl, by simp, s.nd⟩) ?_
  intro e a' w' hp
  have key : Behind T M0 ρ0 w0 M ρ tI H' (hs' ++ xs) a' w' → LeavesInM (FR none) n P fn a'.tmps (PostC T M0 ρ0 w0 M ρ v H' (hs' ++ xs)) a'.defers .returning w' := by
    rintro ⟨M', ρ', ms, h1, h2, s'⟩
    exact leaves_marks hT hfin h1 h2 ms a' w' s'
  rcases ho with rfl | rfl
  · cases e <;> first
      | exact hp.elim
      | exact key hp
  · cases e <;> first
      | exact hp.elim
      | exact key hp
/-- A heap of which less is known. -/
def HLe (H2 H : Heap) : Prop := H2.length = H.length ∧ ∀ (i : Nat) (b : Blk), H2[i]? = some (some b) → H[i]? = some (some b)
theorem HLe.refl (H : Heap) : HLe H H := ⟨rfl, fun _ _ h => h⟩
theorem SR.less {H2 : Heap} (h : HLe H2 H) (hS : SR T M ρ H w) : SR T M ρ H2 w where
  frozen := hS.frozen
  len := hS.len.trans h.1.symm
  blk n b hn := hS.blk n b (h.2 n b hn)
  inj n m x y b c c' h1 h2 := hS.inj n m x y b c c' (h.2 n x h1) (h.2 m y h2)
  glob := hS.glob
theorem StX.less {H2 : Heap} (h : HLe H2 H) (s : StX T M0 ρ0 w0 M ρ ms t H hs a w) : StX T M0 ρ0 w0 M ρ ms t H2 hs a w := ⟨s.ext, SR.less h s.sr, s.tm, s.hid, s.defs, s.marks, s.nd⟩
/-- What is so behind a function that was ranged over. -/
def RangeQ (T : Tab) (fn : Func) (l : Nat) (ts : Array Value) (t : Tm) (oz : Out) (hsz : List HE) : Out → List HE → Prop := fun o hs' =>
  ∃ (rec : Loop) (HI H2 : Heap) (v : V), HLe H2 HI ∧ (∃ tI, (o = .norm tI HI ∨ o = .ret tI HI) ∧ finish T fn tI.get HI = .val v HI) ∧ hs' = ⟨l, .loop rec, t, ts⟩ :: hsz ∧ rec.state ≠ .busy ∧
    ((rec.pending = none ∧ oz = .norm t H2) ∨ (rec.pending = some .ret ∧ oz = .ret t H2) ∨ ∃ id, rec.pending = some (.exit id) ∧ oz = .exit id t H2)
theorem unused (hS : SR T M ρ H w) (hH : H.all Option.isSome = true) : ∀ k, w.heap.size ≤ k → M k = none ∧ ∀ c, (k, c) ∉ ρ := by
  intro k hk
  refine ⟨?_, fun c hc => ?_⟩
  · cases h : M k with
    | none => rfl
    | some o =>
      have := hS.frozen k o h
      rw [Array.getElem?_eq_none hk] at this
      cases this
  · obtain ⟨i, hi⟩ := List.mem_iff_getElem?.1 hc
    have hil : i < H.length := by rw [← hS.len]; exact (List.getElem?_eq_some_iff.1 hi).1
    have h2 := List.all_eq_true.1 hH _ (List.getElem_mem hil)
    obtain ⟨blk, hb⟩ := Option.isSome_iff_exists.1 h2
    obtain ⟨b, c', h3, _, h4, _⟩ := hS.blk i blk (by rw [List.getElem?_eq_getElem hil, hb])
    rw [hi] at h3
    cases h3
    omega
/-- A range over a function, not in a round. -/
theorem TriG.range (hT : TOk P T) {g : Operand} {ps : Array Nat} {assign body cf : Code} {f : FuncId} {caps : List V} {fnf : Func} {gv : Option V} (hg : ev1 t.get g = gv) (hgv : gv = some (.fn f caps)) (hf : P.funcs[f]? = some fnf) (hb : fnf.body = some cf) (hent : Go.Proofs.Enters P f)
    (hle : caps.length + 1 ≤ fnf.ntmps) (hH : H.all Option.isSome = true) {oz : Out} {hsz : List HE} (hQ : Q oz hsz)
    (h : ∀ (l : Nat) (rec : Loop), rec.state = .ready → rec.pending = none → rec.params = ps → rec.assign = assign → rec.body = body → TriG P T none (⟨l, .loop rec, t, rec.tmps⟩ :: hs) cf (Tm.init fnf.ntmps (.yld l :: caps)) H (RangeQ T fnf l rec.tmps t oz hsz)) :
    TriG P T none hs (.rangeFunc g ps assign body) t H Q := by
  subst hgv
  refine ⟨oz, hsz, hQ, fun n M0 ρ0 w0 M ρ ms xs a w s => wpIn_rangeFunc fun fn _ => ?_⟩
  have hv := ev1_rel s.tm.2 hg
  simp only [rel] at hv
  obtain ⟨cs, hcv, hcs⟩ := hv
  obtain ⟨rec, hrec⟩ : ∃ rec : Loop, rec = { state := .ready, pending := none, fn, tmps := a.tmps, params := ps, assign, body, defers := w.heap.size } := ⟨_, rfl⟩
  obtain ⟨l, hl⟩ : ∃ l, w.heap.size + 1 = l := ⟨_, rfl⟩
  obtain ⟨W1, hW1⟩ : ∃ W1, (w.alloc (.deferred (some []))).alloc (.loop rec) = W1 := ⟨_, rfl⟩
  have nun := unused s.sr hH
  have hS1 : SR T M ρ H W1 := by rw [← hW1]; exact sr_alloc (sr_alloc s.sr _) _
  have E1 : Ext M ρ w M ρ W1 := by rw [← hW1]; exact (ext_alloc _).trans (ext_alloc _)
  have hL : Hid l (.loop rec) M ρ W1 := ⟨by
    rw [← hW1, ← hl]
    have := World.alloc_heap_new (w.alloc (.deferred (some []))) (.loop rec)
    rwa [World.size_alloc] at this, (nun l (by omega)).1, (nun l (by omega)).2⟩
  have hK : Hid w.heap.size (.deferred (some [])) M ρ W1 := ⟨by
    rw [← hW1]; exact (Below.heap_alloc _ _ _ (by simp)).trans (World.alloc_heap_new w _), (nun _ (Nat.le_refl _)).1, (nun _ (Nat.le_refl _)).2⟩
  have hw0 : w0.heap.size ≤ w.heap.size := s.ext.size
  have s1 : StX T M0 ρ0 w0 M ρ [] (Tm.init 0 []) H ((⟨l, .loop rec, t, rec.tmps⟩ :: hs) ++ (xs ++ (w.heap.size :: ms).map mE)) { tmps := #[], defers := [] } W1 := by
    have s0 := (s.step E1 (relTm_mono E1.mem E1.pre s.tm) hS1 (a' := a) rfl).down (t' := Tm.init 0 []) (a' := { tmps := #[], defers := [] }) relTm_zero rfl
    have old : ∀ k ∈ ((hs ++ xs) ++ ms.map mE).map HE.l, k < w.heap.size := by
      intro k hk
      rw [List.mem_map] at hk
      obtain ⟨e, he, rfl⟩ := hk
      rcases List.mem_append.1 he with he | he
      · exact (s.hid e he).2.1.lt
      · obtain ⟨D, hD, rfl⟩ := List.mem_map.1 he
        exact (s.marks D hD).2.lt
    refine ⟨s0.ext, s0.sr, s0.tm, ?_, rfl, by simp, ?_⟩
    · intro e he
      simp only [List.cons_append, List.mem_cons, List.mem_append, List.map_cons] at he
      rcases he with rfl | he | he | rfl | he
      · exact ⟨by show w0.heap.size ≤ l; omega, hL, by rw [hrec]; exact s.tm⟩
      · exact s0.hid e (by simp [he])
      · exact s0.hid e (by simp [he])
      · exact ⟨hw0, hK, relTm_zero⟩
      · exact s0.hid e (List.mem_append_right _ he)
    · have hn := s0.nd
      simp only [List.nil_append] at hn ⊢
      have p1 : (((⟨l, .loop rec, t, rec.tmps⟩ :: hs) ++ (xs ++ (w.heap.size :: ms).map mE)).map HE.l).Perm (l :: w.heap.size :: ((hs ++ xs) ++ ms.map mE).map HE.l) := by
        simp only [List.cons_append, List.map_cons, List.map_append, mE]
        refine List.Perm.cons _ ?_
        rw [← List.append_assoc]
        exact List.perm_middle
      rw [p1.nodup_iff, List.nodup_cons, List.nodup_cons]
      refine ⟨?_, ?_, hn⟩
      · intro hm
        rcases List.mem_cons.1 hm with e | hm
        · omega
        · have := old _ hm; omega
      · intro hm
        have := old _ hm; omega
  refine ⟨l, [{ target := .collected w.heap.size, args := #[] }], W1, { target := .fn (.func f) cs.toArray, args := #[.func (.yield l) #[] #[]] }, W1, f,
    #[.func (.yield l) #[] #[]] ++ cs.toArray, W1, ?_, ?_, fun _ _ => trivial, ?_, fun e => (by cases e), ?_⟩
  · rw [← hW1, hrec, ← hl]; exact run_enterLoop_outer _ _ _ _ _
  · have hev : a.eval g = .func (.func f) #[] cs.toArray := hcv
    simp [resolve, hev, Deferred.ofValue]; rfl
  · have := hent (#[.func (.yield l) #[] #[]] ++ cs.toArray) W1
    simpa [invoke] using this
  · obtain ⟨o, hs', ⟨rec', HI, H2, v, hless, hfin, rfl, hbusy, hpend⟩, hbody⟩ := h l rec (by rw [hrec]) (by rw [hrec]) (by rw [hrec]) (by rw [hrec]) (by rw [hrec])
    have hrelI : relL M ρ (.yld l :: caps) (.func (.yield l) #[] #[] :: cs) := relL_cons (by simp only [rel]) hcs
    have hargs : (#[.func (.yield l) #[] #[]] ++ cs.toArray : Array Value) = (.func (.yield l) #[] #[] :: cs).toArray := by apply Array.ext'; simp
    show CallsIn (FR none) (n - 1) P f _ W1 _
    rw [hargs]
    refine CallsIn.mono (calls_of_triGX hT hf hb (by simpa using hle) hbody hfin hrelI s1) ?_
    rintro e w3 ⟨x, M', ρ', rfl, h1, h2, _, s3⟩
    rw [List.cons_append] at s3
    have hE := s3.hid ⟨l, .loop rec', t, rec.tmps⟩ (by simp)
    refine ⟨rec'.pending, _, run_endLoop hE.2.1.at_ hbusy, ?_⟩
    have s4 := s3.turn (.loop { rec' with state := .exhausted })
    have s5 : StX T M0 ρ0 w0 M' ρ' [] (Tm.init 0 []) HI ((hsz ++ xs) ++ (w.heap.size :: ms).map mE) { tmps := #[], defers := [] } (w3.putObj l (.loop { rec' with state := .exhausted })) := by
      rw [List.append_assoc]
      exact StX.sub (k := [_]) s4
    have s6 := s5.up (t' := t) (a' := { a with defers := { target := .collected w.heap.size, args := #[] } :: a.defers }) (relTm_mono h1 h2 s.tm) (by
      show mark w.heap.size :: a.defers = _
      rw [s.defs]; rfl)
    replace s6 := s6.less hless
    obtain ⟨W4, hW4⟩ : ∃ W4, w3.putObj l (.loop { rec' with state := .exhausted }) = W4 := ⟨_, rfl⟩
    rw [hW4] at s6
    show match rec'.pending with | none => _ | some c => _
    rw [hW4]
    rcases hpend with ⟨e, rfl⟩ | ⟨e, rfl⟩ | ⟨id, e, rfl⟩
    · rw [e]
      exact ⟨M', ρ', _, h1, h2, s6⟩
    · rw [e]
      exact wpIn_ret ⟨M', ρ', _, h1, h2, s6⟩
    · rw [e]
      exact wpIn_exit ⟨rfl, M', ρ', _, h1, h2, s6⟩
/-- It comes to its end, or is left. -/
theorem TriG.range_norm (hT : TOk P T) (Hw : Heap) {g : Operand} {ps : Array Nat} {assign body cf : Code} {f : FuncId} {caps : List V} {fnf : Func} {gv : Option V} (hg : ev1 t.get g = gv) (hgv : gv = some (.fn f caps)) (hf : P.funcs[f]? = some fnf) (hb : fnf.body = some cf) (hent : Go.Proofs.Enters P f)
    (hle : caps.length + 1 ≤ fnf.ntmps) (hH : H.all Option.isSome = true) {hsz : List HE}
    (h : ∀ (l : Nat) (rec : Loop), rec.state = .ready → rec.pending = none → rec.params = ps → rec.assign = assign → rec.body = body → TriG P T none (⟨l, .loop rec, t, rec.tmps⟩ :: hs) cf (Tm.init fnf.ntmps (.yld l :: caps)) H (RangeQ T fnf l rec.tmps t (.norm t Hw) hsz)) (hQ : Q (.norm t Hw) hsz) :
    TriG P T none hs (.rangeFunc g ps assign body) t H Q :=
  TriG.range hT hg hgv hf hb hent hle hH hQ h
/-- It comes to its end, or is left. -/
theorem TriG.range_ret (hT : TOk P T) (Hw : Heap) {g : Operand} {ps : Array Nat} {assign body cf : Code} {f : FuncId} {caps : List V} {fnf : Func} {gv : Option V} (hg : ev1 t.get g = gv) (hgv : gv = some (.fn f caps)) (hf : P.funcs[f]? = some fnf) (hb : fnf.body = some cf) (hent : Go.Proofs.Enters P f)
    (hle : caps.length + 1 ≤ fnf.ntmps) (hH : H.all Option.isSome = true) {hsz : List HE}
    (h : ∀ (l : Nat) (rec : Loop), rec.state = .ready → rec.pending = none → rec.params = ps → rec.assign = assign → rec.body = body → TriG P T none (⟨l, .loop rec, t, rec.tmps⟩ :: hs) cf (Tm.init fnf.ntmps (.yld l :: caps)) H (RangeQ T fnf l rec.tmps t (.ret t Hw) hsz)) (hQ : Q (.ret t Hw) hsz) :
    TriG P T none hs (.rangeFunc g ps assign body) t H Q :=
  TriG.range hT hg hgv hf hb hent hle hH hQ h
end
end Go.Ev

namespace Go.Ev
open Go Go.RowKit
set_option linter.unusedVariables false
section
variable {P : Program} {T : Tab} {F : FuncId}
/-- What a call comes to, in all worlds. -/
def HFact (P : Program) (T : Tab) (F : FuncId) (vs : List V) (H : Heap) (R : V → Heap → Prop) : Prop :=
  ∃ v H', R v H' ∧ Go.Proofs.Enters P F ∧ ∀ (M : Mem) (ρ : Ren) (w : World) (args : List Value), SR T M ρ H w → relL M ρ vs args → CallOK P T F args.toArray M ρ w (.val v H')
theorem HFact.mono {vs : List V} {H : Heap} {R R' : V → Heap → Prop} (h : HFact P T F vs H R) (hr : ∀ v H', R v H' → R' v H') : HFact P T F vs H R' := by
  obtain ⟨v, H', h1, h2⟩ := h
  exact ⟨v, H', hr v H' h1, h2⟩
/-- What the end of a body comes to. -/
def EndsG (T : Tab) (fn : Func) (R : V → Heap → Prop) : Out → List HE → Prop := fun o hs' => ∃ v H', (∃ tI, (o = .norm tI H' ∨ o = .ret tI H') ∧ finish T fn tI.get H' = .val v H') ∧ R v H'
/-- A body with loops over functions. -/
def GBody (P : Program) (T : Tab) (F : FuncId) (vs : List V) (H : Heap) (R : V → Heap → Prop) : Prop :=
  ∃ fn c, T.func F = some fn ∧ fn.body = some c ∧ vs.length ≤ fn.ntmps ∧ TriG P T none [] c (Tm.init fn.ntmps vs) H (EndsG T fn R)
theorem GBody.fact (hT : TOk P T) {vs : List V} {H : Heap} {R : V → Heap → Prop} (h : GBody P T F vs H R) : HFact P T F vs H R := by
  obtain ⟨fn, c, hfn, hc, hle, o, hs', ⟨v, H', ho, hR⟩, hx⟩ := h
  obtain ⟨hf, hent⟩ := hT.func F fn c hfn hc
  refine ⟨v, H', hR, hent, fun M ρ w args hS hr => ?_⟩
  have s : StX T M ρ w M ρ [] (Tm.init 0 []) H ([] ++ []) { tmps := #[], defers := [] } w := ⟨Ext.refl _ _ _, hS, relTm_zero, by simp, rfl, by simp, by simp⟩
  have := calls_of_triGX (n := 0) hT hf hc hle hx ho hr s
  refine Calls.mono (callsIn_wide.1 (by rw [FRw'] at this; exact this)) ?_
  rintro e w' ⟨x, M', ρ', rfl, _, _, hv, s'⟩
  exact ⟨x, M', ρ', rfl, s'.ext, hv, s'.sr⟩
theorem HBody.fact (hT : TOk P T) {vs : List V} {H : Heap} {R : V → Heap → Prop} (h : HBody P T F vs H R) : HFact P T F vs H R := hbody_fact hT h
/-- What a function returns on some arguments and heaps, and what it leaves. -/
theorem spec_fact (hT : TOk P T) (F : FuncId) (D : Nat → List V → Heap → Prop) (R : List V → Heap → V → Heap → Prop)
    (h : ∀ k vs H, D k vs H → ∀ g, SpecOK P T F g → (∀ j, j < k → ∀ us J, D j us J → ∃ v J', R us J v J' ∧ g us J = .val v J') → HFact P T F vs H (R vs H)) (K : Nat) :
    ∃ g, SpecOK P T F g ∧ ∀ j, j < K → ∀ vs H, D j vs H → ∃ v H', R vs H v H' ∧ g vs H = .val v H' := by
  classical
  induction K with
  | zero => exact ⟨fun _ _ => .no, fun _ _ _ e hr => absurd e.symm hr, fun j hj => absurd hj (Nat.not_lt_zero j)⟩
  | succ K ih =>
    obtain ⟨g, hg, hgs⟩ := ih
    have hx : ∀ vs H, D K vs H → ∃ p : V × Heap, R vs H p.1 p.2 ∧ Go.Proofs.Enters P F ∧ ∀ (M : Mem) (ρ : Ren) (w : World) (args : List Value), SR T M ρ H w → relL M ρ vs args → CallOK P T F args.toArray M ρ w (.val p.1 p.2) := fun vs H hd => by
      obtain ⟨v, H', h1, h2⟩ := h K vs H hd g hg hgs
      exact ⟨(v, H'), h1, h2⟩
    refine ⟨fun vs H => if hd : D K vs H then .val (hx vs H hd).choose.1 (hx vs H hd).choose.2 else g vs H, ?_, ?_⟩
    · intro vs H r hr hne
      simp only at hr
      split at hr
      · rename_i hd
        obtain ⟨_, h2⟩ := (hx vs H hd).choose_spec
        subst hr
        exact h2
      · exact hg vs H r hr hne
    · intro j hj vs H hd
      by_cases hk : D K vs H
      · exact ⟨_, _, (hx vs H hk).choose_spec.1, dif_pos hk⟩
      · have : j < K := by
          rcases Nat.lt_succ_iff_lt_or_eq.1 hj with h1 | h1
          · exact h1
          · subst h1; exact absurd hd hk
        obtain ⟨v, H', h1, h2⟩ := hgs j this vs H hd
        exact ⟨v, H', h1, (dif_neg hk).trans h2⟩
/-- On the empty heap, and then on every heap: the value, nothing written any more. -/
theorem spec_frz (hp : T.Plain) {g : Spec} (hg : SpecOK P T F g) (D : List V → Prop) (R : List V → V → Prop)
    (h : ∀ vs, D vs → nlL vs = true ∧ ∃ v J k v', g vs [] = .val v J ∧ fz J k v = some v' ∧ R vs v') : ∃ g', SpecOK P T F g' ∧ ∀ vs, D vs → ∃ v', R vs v' ∧ ∀ H, g' vs H = .val v' H := by
  classical
  have hx : ∀ vs, D vs → ∃ v', (∃ v J k, g vs [] = .val v J ∧ fz J k v = some v') ∧ R vs v' := fun vs hd => by
    obtain ⟨_, v, J, k, v', h1, h2, h3⟩ := h vs hd
    exact ⟨v', ⟨v, J, k, h1, h2⟩, h3⟩
  refine ⟨fun vs H => if hd : D vs then .val (hx vs hd).choose H else .no, ?_, ?_⟩
  · intro vs H r hr hne
    simp only at hr
    split at hr
    · rename_i hd
      obtain ⟨⟨v, J, k, h1, h2⟩, _⟩ := (hx vs hd).choose_spec
      obtain ⟨k1, k2⟩ := hg vs [] _ h1 (by simp)
      subst hr
      exact ⟨k1, fun M ρ w args hS hr => CallOK.frame_fz hp hS (k2 M [] w args (hS.forget hp) (nlL_rel vs args (h vs hd).1 hr)) h2⟩
    · exact absurd hr.symm hne
  · intro vs hd
    exact ⟨_, (hx vs hd).choose_spec.2, fun H => dif_pos hd⟩
theorem HFact.spec (hT : TOk P T) {D : List V → Heap → Prop} {R : List V → Heap → V → Heap → Prop} (h : ∀ vs H, D vs H → HFact P T F vs H (R vs H)) : ∃ g, SpecOK P T F g ∧ ∀ vs H, D vs H → ∃ v H', R vs H v H' ∧ g vs H = .val v H' := by
  obtain ⟨g, h1, h2⟩ := spec_fact (P := P) (T := T) hT F (fun _ => D) R (fun _ vs H hd _ _ _ => h vs H hd) 1
  exact ⟨g, h1, h2 0 (by omega)⟩
end
end Go.Ev

namespace Go.Ev
open Go Go.RowKit
set_option linter.unusedVariables false
section
variable {P : Program} {T : Tab} {t t' : Tm} {H H' : Heap} {hs : List HE} {r : Option Nat} {c x y : Code} {id j : Nat} {v : V} {Q : Out → List HE → Prop} {F : FuncId}
theorem inSeqG_norm (h : TriG P T r hs y t H Q) : inSeqG P T r y Q (.norm t H) hs := h
theorem inSeqG_exit (h : Q (.exit j t H) hs) : inSeqG P T r y Q (.exit j t H) hs := h
theorem inSeqG_ret (h : Q (.ret t H) hs) : inSeqG P T r y Q (.ret t H) hs := h
theorem inBlkG_norm (h : Q (.norm t H) hs) : inBlkG id Q (.norm t H) hs := h
theorem inBlkG_exit (h : Q (.norm t H) hs) : inBlkG id Q (.exit id t H) hs := by simpa only [inBlkG, if_true] using h
theorem inBlkG_pass (hj : (j == id) = false) (h : Q (.exit j t H) hs) : inBlkG id Q (.exit j t H) hs := by
  have : ¬ j = id := by simpa using hj
  simpa only [inBlkG, if_neg this] using h
theorem inBlkG_ret (h : Q (.ret t H) hs) : inBlkG id Q (.ret t H) hs := h
theorem inLoopG_norm (h : LTriG P T r hs c t H Q) : inLoopG P T r c Q (.norm t H) hs := h
theorem inLoopG_exit (h : Q (.exit j t H) hs) : inLoopG P T r c Q (.exit j t H) hs := h
theorem inLoopG_ret (h : Q (.ret t H) hs) : inLoopG P T r c Q (.ret t H) hs := h
/-- A value that says less. -/
def Weak (v v' : V) : Prop := ∀ (M : Mem) (ρ : Ren) (x : Value), rel M ρ v x → rel M ρ v' x
theorem Weak.refl (v : V) : Weak v v := fun _ _ _ h => h
theorem weak_nils (n : Nat) : Weak .nils (.isl n []) := fun M ρ x h => by
  simp only [rel] at h ⊢
  exact ⟨none, 0, h, by simp, fun e => absurd rfl e⟩
def WeakL (l l' : List V) : Prop := ∀ (M : Mem) (ρ : Ren) (x : List Value), relL M ρ l x → relL M ρ l' x
theorem WeakL.nil : WeakL [] [] := fun _ _ _ h => h
theorem WeakL.cons {v v' : V} {l l' : List V} (h : Weak v v') (hl : WeakL l l') : WeakL (v :: l) (v' :: l') := fun M ρ x k => by
  simp only [relL] at k ⊢
  obtain ⟨a, b, e, h1, h2⟩ := k
  exact ⟨a, b, e, h M ρ a h1, hl M ρ b h2⟩
theorem WeakL.agg {l l' : List V} (h : WeakL l l') : Weak (.agg l) (.agg l') := fun M ρ x k => by
  simp only [rel] at k ⊢
  obtain ⟨cs, e, h1⟩ := k
  exact ⟨cs, e, h M ρ cs h1⟩
theorem WeakL.tup {l l' : List V} (h : WeakL l l') : Weak (.tup l) (.tup l') := fun M ρ x k => by
  simp only [rel] at k ⊢
  obtain ⟨cs, e, h1⟩ := k
  exact ⟨cs, e, h M ρ cs h1⟩
theorem CallOK.weak {f : FuncId} {args : Array Value} {M : Mem} {ρ : Ren} {w : World} {v v' : V} (hv : Weak v v') (h : CallOK P T f args M ρ w (.val v H)) : CallOK P T f args M ρ w (.val v' H) := by
  refine Calls.mono h ?_
  rintro e w' ⟨x, M', σ, rfl, he, hx, hk⟩
  exact ⟨x, M', σ, rfl, he, hv _ _ _ hx, hk⟩
/-- On the empty heap, and then on every heap: a value that says less, nothing written any more. -/
theorem spec_frzw (hp : T.Plain) {g : Spec} (hg : SpecOK P T F g) (D : List V → Prop) (R : List V → V → Prop)
    (h : ∀ vs, D vs → nlL vs = true ∧ ∃ v J k v' u, g vs [] = .val v J ∧ fz J k v = some v' ∧ Weak v' u ∧ R vs u) : ∃ g', SpecOK P T F g' ∧ ∀ vs, D vs → ∃ v', R vs v' ∧ ∀ H, g' vs H = .val v' H := by
  classical
  have hx : ∀ vs, D vs → ∃ u, (∃ v J k v', g vs [] = .val v J ∧ fz J k v = some v' ∧ Weak v' u) ∧ R vs u := fun vs hd => by
    obtain ⟨_, v, J, k, v', u, h1, h2, h3, h4⟩ := h vs hd
    exact ⟨u, ⟨v, J, k, v', h1, h2, h3⟩, h4⟩
  refine ⟨fun vs H => if hd : D vs then .val (hx vs hd).choose H else .no, ?_, ?_⟩
  · intro vs H r hr hne
    simp only at hr
    split at hr
    · rename_i hd
      obtain ⟨⟨v, J, k, v', h1, h2, h3⟩, _⟩ := (hx vs hd).choose_spec
      obtain ⟨k1, k2⟩ := hg vs [] _ h1 (by simp)
      subst hr
      exact ⟨k1, fun M ρ w args hS hr => CallOK.weak h3 (CallOK.frame_fz hp hS (k2 M [] w args (hS.forget hp) (nlL_rel vs args (h vs hd).1 hr)) h2)⟩
    · exact absurd hr.symm hne
  · intro vs hd
    exact ⟨_, (hx vs hd).choose_spec.2, fun H => dif_pos hd⟩
end
end Go.Ev

namespace Go.Ev
open Go
set_option linter.unusedVariables false
set_option linter.unusedSimpArgs false
section
variable {step : Oper → Env → Heap → OR} {ops : Array Oper} {H H1 H2 : Heap}
theorem drawRun_val {o : Oper} {r : List Oper} {t : Tm} {v : V} (hw : wants ops o t.get = some true) (hs : step o t.get H = .val v H) (hf : t.fits o.dst = true) {rs : List Rec} {Hs : List Heap} {tf : Tm}
    (h : drawRun step ops r (t.put o.dst v) H = some (rs, Hs, tf)) : drawRun step ops (o :: r) t H = some (⟨o, t.get, v, true, false⟩ :: rs, Hs, tf) := by
  simp only [drawRun, hw, hs, opened_eq, putK_eq, hf, if_true, h, Heap.beq_refl, Bool.not_true, Bool.and_false, Bool.false_eq_true, if_false]
theorem drawRun_eff {o : Oper} {r : List Oper} {t : Tm} {v : V} (he : isEff o.op = true) (hne : Heap.beq H1 H = false) (hw : wants ops o t.get = some true) (hs : step o t.get H = .val v H1) (hf : t.fits o.dst = true) {rs : List Rec} {Hs : List Heap} {tf : Tm}
    (h : drawRun step ops r (t.put o.dst v) H1 = some (rs, Hs, tf)) : drawRun step ops (o :: r) t H = some (⟨o, t.get, v, true, true⟩ :: rs, H :: Hs, tf) := by
  simp only [drawRun, hw, hs, opened_eq, putK_eq, hf, if_true, h, hne, he, Bool.not_false, Bool.and_true]
theorem drawRun_nil {t : Tm} : drawRun step ops [] t H = some ([], [H], t) := rfl
/-- A region: some looks, a call that turns the heap, an address, a store. -/
theorem draw_call7 {o0 o1 o2 o3 o4 o5 o6 : Oper} {t : Tm} {v0 v1 v2 v3 v4 v5 v6 : V} (hops : ops.toList = [o0, o1, o2, o3, o4, o5, o6]) (hst : drawStat ops.toList ops (masks ops.toList []) = true) (hm : masks ops.toList [] = [0, 1, 0, 0, 8, 31, 63])
    (w0 : wants ops o0 t.get = some true) (s0 : step o0 t.get H = .val v0 H) (f0 : t.fits o0.dst = true) (l0 : looks o0.op = false)
    {t1 : Tm} (e1 : t1 = t.put o0.dst v0) (w1 : wants ops o1 t1.get = some true) (s1 : step o1 t1.get H = .val v1 H) (f1 : t1.fits o1.dst = true) (s1' : step o1 t1.get H1 = .val v1 H1)
    {t2 : Tm} (e2 : t2 = t1.put o1.dst v1) (w2 : wants ops o2 t2.get = some true) (s2 : step o2 t2.get H = .val v2 H) (f2 : t2.fits o2.dst = true) (l2 : looks o2.op = false)
    {t3 : Tm} (e3 : t3 = t2.put o2.dst v2) (w3 : wants ops o3 t3.get = some true) (s3 : step o3 t3.get H = .val v3 H) (f3 : t3.fits o3.dst = true)
    {t4 : Tm} (e4 : t4 = t3.put o3.dst v3) (w4 : wants ops o4 t4.get = some true) (s4 : step o4 t4.get H = .val v4 H1) (f4 : t4.fits o4.dst = true) (i4 : isEff o4.op = true) (hne : Heap.beq H1 H = false)
    {t5 : Tm} (e5 : t5 = t4.put o4.dst v4) (w5 : wants ops o5 t5.get = some true) (s5 : step o5 t5.get H1 = .val v5 H1) (f5 : t5.fits o5.dst = true) (l5 : looks o5.op = false)
    {t6 : Tm} (e6 : t6 = t5.put o5.dst v5) (w6 : wants ops o6 t6.get = some true) (s6 : step o6 t6.get H1 = .val v6 H2) (f6 : t6.fits o6.dst = true) (i6 : isEff o6.op = true) {out : Out} (ho : Out.norm (t6.put o6.dst v6) H2 = out) : evDraw step ops t H = out := by
  subst e1 e2 e3 e4 e5 e6 ho
  have hst' := hst
  rw [hm] at hst'
  cases hb : Heap.beq H2 H1 with
  | true =>
    have := Heap.beq_eq _ _ hb
    subst this
    have hr := drawRun_val w0 s0 f0 (drawRun_val w1 s1 f1 (drawRun_val w2 s2 f2 (drawRun_val w3 s3 f3 (drawRun_eff i4 hne w4 s4 f4 (drawRun_val w5 s5 f5 (drawRun_val w6 s6 f6 drawRun_nil))))))
    rw [← hops] at hr
    simp only [evDraw, hr, hm, List.getLast?_cons_cons, List.getLast?_singleton]
    rw [if_pos]
    simp [hst', effs, effsFrom, drawDyn, List.range_succ, l0, l2, l5, s1, s1', s3, s6, sameOR, V.beq_refl, Heap.beq_refl, Nat.testBit]
  | false =>
    have hr := drawRun_val w0 s0 f0 (drawRun_val w1 s1 f1 (drawRun_val w2 s2 f2 (drawRun_val w3 s3 f3 (drawRun_eff i4 hne w4 s4 f4 (drawRun_val w5 s5 f5 (drawRun_eff i6 hb w6 s6 f6 drawRun_nil))))))
    rw [← hops] at hr
    simp only [evDraw, hr, hm, List.getLast?_cons_cons, List.getLast?_singleton]
    rw [if_pos]
    simp [hst', effs, effsFrom, drawDyn, List.range_succ, l0, l2, l5, s1, s1', s3, sameOR, V.beq_refl, Heap.beq_refl, Nat.testBit]
end
end Go.Ev

namespace Go.Ev
open Go
set_option linter.unusedVariables false
set_option linter.unusedSimpArgs false
/-- How an operation of a drawn region stands to those that turn the heap: it does not look; its place among them is fixed; it finds the same at all times; it is one of them. -/
inductive DK where
  | q | f | a | e
  deriving DecidableEq
def befM (ms : List Nat) (i j : Nat) : Bool := (ms.getD i 0).testBit j
def chkD (ms : List Nat) (ks : List DK) : Bool :=
  (List.range ks.length).all fun i => (List.range ks.length).all fun p => i == p || ks.getD p .q != .e || match ks.getD i .q with
    | .e => befM ms i p == decide (p < i) && befM ms p i == decide (i < p)
    | .f => befM ms i p == decide (p < i) && befM ms p i == decide (i < p)
    | _ => true
section
variable {step : Oper → Env → Heap → OR} {ops : Array Oper} {A : Heap → Prop}
inductive DR (step : Oper → Env → Heap → OR) (ops : Array Oper) (A : Heap → Prop) : List Oper → List DK → Tm → Heap → Tm → Heap → Prop
  | nil {t : Tm} {H : Heap} : DR step ops A [] [] t H t H
  | off {o : Oper} {r : List Oper} {ks : List DK} {k : DK} {t t' : Tm} {H H' : Heap} (hw : wants ops o t.get = some false) (hf : t.fits o.dst = true) (h : DR step ops A r ks (t.put o.dst .un) H t' H') : DR step ops A (o :: r) (k :: ks) t H t' H'
  | blind {o : Oper} {r : List Oper} {ks : List DK} {k : DK} {t t' : Tm} {H H' : Heap} {x : OR} {v : V} (hl : looks o.op = false) (hw : wants ops o t.get = some true) (hs : step o t.get H = x) (hx : x = .val v H) (hf : t.fits o.dst = true) (h : DR step ops A r ks (t.put o.dst v) H t' H') : DR step ops A (o :: r) (k :: ks) t H t' H'
  | fix {o : Oper} {r : List Oper} {ks : List DK} {t t' : Tm} {H H' : Heap} {x : OR} {v : V} (hw : wants ops o t.get = some true) (hs : step o t.get H = x) (hx : x = .val v H) (hf : t.fits o.dst = true) (h : DR step ops A r ks (t.put o.dst v) H t' H') : DR step ops A (o :: r) (.f :: ks) t H t' H'
  | any {o : Oper} {r : List Oper} {ks : List DK} {t t' : Tm} {H H' : Heap} {x : OR} {v : V} (hw : wants ops o t.get = some true) (hs : step o t.get H = x) (hx : x = .val v H) (hf : t.fits o.dst = true) (ha : ∀ K, A K → step o t.get K = .val v K) (h : DR step ops A r ks (t.put o.dst v) H t' H') : DR step ops A (o :: r) (.a :: ks) t H t' H'
  | eff {o : Oper} {r : List Oper} {ks : List DK} {t t' : Tm} {H H1 H' : Heap} {x : OR} {v : V} (he : isEff o.op = true) (hw : wants ops o t.get = some true) (hs : step o t.get H = x) (hx : x = .val v H1) (hf : t.fits o.dst = true) (hA : A H1) (h : DR step ops A r ks (t.put o.dst v) H1 t' H') : DR step ops A (o :: r) (.e :: ks) t H t' H'
theorem effsFrom_succ : ∀ (rs : List Rec) (k : Nat), effsFrom rs (k + 1) = (effsFrom rs k).map (· + 1)
  | [], _ => rfl
  | r :: rs, k => by
    simp only [effsFrom]
    rw [effsFrom_succ rs (k + 1)]
    cases r.e <;> simp
theorem effs_cons (r : Rec) (rs : List Rec) : effs (r :: rs) = if r.e then 0 :: (effs rs).map (· + 1) else (effs rs).map (· + 1) := by
  simp only [effs, effsFrom]
  rw [effsFrom_succ]
theorem effs_at : ∀ {rs : List Rec} {p : Nat}, p ∈ effs rs → ∃ r, rs[p]? = some r ∧ r.e = true
  | [], p, h => by simp [effs, effsFrom] at h
  | r :: rs, p, h => by
    rw [effs_cons] at h
    have key : p ∈ (effs rs).map (· + 1) → ∃ r', (r :: rs)[p]? = some r' ∧ r'.e = true := fun h => by
      obtain ⟨j, hj, rfl⟩ := List.mem_map.1 h
      obtain ⟨r', h1, h2⟩ := effs_at hj
      exact ⟨r', by simpa using h1, h2⟩
    split at h
    · rename_i he
      rcases List.mem_cons.1 h with rfl | h
      · exact ⟨r, rfl, he⟩
      · exact key h
    · exact key h
/-- How many have turned the heap ahead of one. -/
def cntE (rs : List Rec) (i : Nat) : Nat := ((effs rs).filter fun p => decide (p < i)).length
theorem cntE_zero (rs : List Rec) : cntE rs 0 = 0 := by simp [cntE]
theorem cntE_succ (r : Rec) (rs : List Rec) (i : Nat) : cntE (r :: rs) (i + 1) = (if r.e then 1 else 0) + cntE rs i := by
  have h : ∀ l : List Nat, ((l.map (· + 1)).filter fun p => decide (p < i + 1)).length = (l.filter fun p => decide (p < i)).length := fun l => by
    induction l with
    | nil => rfl
    | cons x l ih =>
      simp only [List.map_cons, List.filter_cons]
      have : (decide (x + 1 < i + 1)) = decide (x < i) := by simp
      rw [this]
      split <;> simp [ih]
  simp only [cntE, effs_cons]
  cases r.e with
  | true =>
    simp only [if_true]
    rw [List.filter_cons]
    simp only [Nat.zero_lt_succ, decide_true, if_true, List.length_cons, h]
    omega
  | false =>
    simp only [Bool.false_eq_true, if_false, h]
    omega
/-- What a run of such operations records. -/
def GoodR (step : Oper → Env → Heap → OR) (A : Heap → Prop) (ks : List DK) (rs : List Rec) (Hs : List Heap) : Prop :=
  ∀ (i : Nat) (r : Rec), rs[i]? = some r → (r.e = true → ks[i]? = some .e) ∧ (r.e = false → looks r.o.op = true → r.w = true →
    (∀ K, A K → step r.o r.t K = .val r.v K) ∨ ((ks[i]? = some .f ∨ ks[i]? = some .e) ∧ ∃ K, Hs[cntE rs i]? = some K ∧ step r.o r.t K = .val r.v K))
theorem GoodR.same {ks : List DK} {k : DK} {rs : List Rec} {Hs : List Heap} {r : Rec} (he : r.e = false) (h : GoodR step A ks rs Hs)
    (hr : looks r.o.op = true → r.w = true → (∀ K, A K → step r.o r.t K = .val r.v K) ∨ ((k = .f ∨ k = .e) ∧ ∃ K, Hs[0]? = some K ∧ step r.o r.t K = .val r.v K)) : GoodR step A (k :: ks) (r :: rs) Hs := by
  intro i r' hi
  cases i with
  | zero =>
    simp only [List.getElem?_cons_zero, Option.some.injEq] at hi
    subst hi
    refine ⟨fun h1 => (by rw [he] at h1; cases h1), fun _ h1 h2 => ?_⟩
    rw [cntE_zero]
    simpa using hr h1 h2
  | succ i =>
    simp only [List.getElem?_cons_succ] at hi ⊢
    have := h i r' hi
    rw [cntE_succ, he]
    simpa using this
theorem DR.run : ∀ {l : List Oper} {ks : List DK} {t t' : Tm} {H H' : Heap}, DR step ops A l ks t H t' H' → A H → ∃ rs Hs, drawRun step ops l t H = some (rs, Hs, t') ∧ Hs.getLast? = some H' ∧ Hs.head? = some H ∧ Hs.length = (effs rs).length + 1 ∧ (∀ K ∈ Hs, A K) ∧ GoodR step A ks rs Hs ∧ rs.length = ks.length
  | _, _, _, _, H, _, .nil, hA => ⟨[], [H], rfl, rfl, rfl, rfl, by simpa using hA, fun i r h => by simp at h, rfl⟩
  | _, _, _, _, H, _, .off (o := o) (r := l) (t := t) (k := k) hw hf h, hA => by
    obtain ⟨rs, Hs, h1, h2, h3, h4, h5, h6, h7⟩ := DR.run h hA
    refine ⟨⟨o, t.get, .un, false, false⟩ :: rs, Hs, ?_, h2, h3, by simpa [effs_cons] using h4, h5, GoodR.same rfl h6 fun _ hw => absurd hw (by simp), by simp [h7]⟩
    simp only [drawRun, hw, putK_eq, hf, if_true, h1]
  | _, _, _, _, H, _, .blind (o := o) (r := l) (t := t) (v := v) hl hw hs hx hf h, hA => by
    obtain ⟨rs, Hs, h1, h2, h3, h4, h5, h6, h7⟩ := DR.run h hA
    subst hx
    exact ⟨⟨o, t.get, v, true, false⟩ :: rs, Hs, drawRun_val hw hs hf h1, h2, h3, by simpa [effs_cons] using h4, h5, GoodR.same rfl h6 fun h8 => absurd (h8.symm.trans hl) (by simp), by simp [h7]⟩
  | _, _, _, _, H, _, .fix (o := o) (r := l) (t := t) (v := v) hw hs hx hf h, hA => by
    obtain ⟨rs, Hs, h1, h2, h3, h4, h5, h6, h7⟩ := DR.run h hA
    subst hx
    refine ⟨⟨o, t.get, v, true, false⟩ :: rs, Hs, drawRun_val hw hs hf h1, h2, h3, by simpa [effs_cons] using h4, h5, GoodR.same rfl h6 fun _ _ => .inr ⟨.inl rfl, H, ?_, hs⟩, by simp [h7]⟩
    rw [← List.head?_eq_getElem?]; exact h3
  | _, _, _, _, H, _, .any (o := o) (r := l) (t := t) (v := v) hw hs hx hf ha h, hA => by
    obtain ⟨rs, Hs, h1, h2, h3, h4, h5, h6, h7⟩ := DR.run h hA
    subst hx
    exact ⟨⟨o, t.get, v, true, false⟩ :: rs, Hs, drawRun_val hw hs hf h1, h2, h3, by simpa [effs_cons] using h4, h5, GoodR.same rfl h6 fun _ _ => .inl ha, by simp [h7]⟩
  | _, _, _, _, H, _, .eff (o := o) (r := l) (t := t) (v := v) (H1 := H1) he hw hs hx hf hA1 h, hA => by
    obtain ⟨rs, Hs, h1, h2, h3, h4, h5, h6, h7⟩ := DR.run h hA1
    subst hx
    cases hb : Heap.beq H1 H with
    | true =>
      have := Heap.beq_eq _ _ hb
      subst this
      refine ⟨⟨o, t.get, v, true, false⟩ :: rs, Hs, drawRun_val hw hs hf h1, h2, h3, by simpa [effs_cons] using h4, h5, GoodR.same rfl h6 fun _ _ => .inr ⟨.inr rfl, H1, ?_, hs⟩, by simp [h7]⟩
      rw [← List.head?_eq_getElem?]; exact h3
    | false =>
      refine ⟨⟨o, t.get, v, true, true⟩ :: rs, H :: Hs, drawRun_eff he hb hw hs hf h1, ?_, rfl, by simp [effs_cons, h4], ?_, ?_, by simp [h7]⟩
      · cases Hs with
        | nil => simp at h2
        | cons K Hs => rw [List.getLast?_cons_cons]; exact h2
      · intro K hK
        rcases List.mem_cons.1 hK with rfl | hK
        · exact hA
        · exact h5 K hK
      · intro i r' hi
        cases i with
        | zero =>
          simp only [List.getElem?_cons_zero, Option.some.injEq] at hi
          subst hi
          exact ⟨fun _ => rfl, fun h8 => by cases h8⟩
        | succ i =>
          simp only [List.getElem?_cons_succ] at hi ⊢
          have h9 := h6 i r' hi
          rw [cntE_succ]
          simp only [if_true]
          rw [Nat.add_comm, List.getElem?_cons_succ]
          exact h9
theorem chkD_at {ms : List Nat} {ks : List DK} (h : chkD ms ks = true) {i p : Nat} (hi : ks[i]? = some .f ∨ ks[i]? = some .e) (hp : ks[p]? = some .e) (hne : i ≠ p) : befM ms i p = decide (p < i) ∧ befM ms p i = decide (i < p) := by
  have hil : i < ks.length := by rcases hi with hi | hi <;> exact (List.getElem?_eq_some_iff.1 hi).1
  have hpl : p < ks.length := (List.getElem?_eq_some_iff.1 hp).1
  have h1 := List.all_eq_true.1 h i (List.mem_range.2 hil)
  have h2 := List.all_eq_true.1 h1 p (List.mem_range.2 hpl)
  have e1 : (i == p) = false := by simpa using hne
  have e2 : ks.getD p .q = .e := by rw [List.getD_eq_getElem?_getD, hp]; rfl
  rcases hi with hi | hi
  · have e3 : ks.getD i .q = .f := by rw [List.getD_eq_getElem?_getD, hi]; rfl
    rw [e1, e2, e3] at h2
    simpa using h2
  · have e3 : ks.getD i .q = .e := by rw [List.getD_eq_getElem?_getD, hi]; rfl
    rw [e1, e2, e3] at h2
    simpa using h2
theorem filter_eq_of {l : List Nat} {f g : Nat → Bool} (h : ∀ p ∈ l, f p = g p) : l.filter f = l.filter g := List.filter_congr h
theorem DR.draw {ks : List DK} {t t' : Tm} {H H' : Heap} (h : DR step ops A ops.toList ks t H t' H') (hA : A H) (hs : (drawStat ops.toList ops (masks ops.toList []) && chkD (masks ops.toList []) ks) = true) : evDraw step ops t H = .norm t' H' := by
  obtain ⟨rs, Hs, h1, h2, h3, h4, h5, h6, h7⟩ := h.run hA
  rw [Bool.and_eq_true] at hs
  obtain ⟨hs, hc⟩ := hs
  have hdyn : drawDyn step (masks ops.toList []) rs Hs = true := by
    rw [drawDyn, List.all_eq_true]
    intro i hi
    rw [List.mem_range] at hi
    have hri : rs[i]? = some rs[i] := List.getElem?_eq_getElem hi
    obtain ⟨g1, g2⟩ := h6 i _ hri
    simp only [hri]
    cases he : rs[i].e with
    | true =>
      simp only [if_true, List.all_eq_true, decide_eq_true_eq]
      intro p hp
      obtain ⟨rp, k1, k2⟩ := effs_at hp
      have k3 := (h6 p rp k1).1 k2
      by_cases hip : i = p
      · left; omega
      · have := (chkD_at hc (.inr (g1 he)) k3 hip).2
        simp only [befM] at this
        rw [this]
        simp only [decide_eq_true_eq]
        omega
    | false =>
      simp only [Bool.false_eq_true, if_false]
      by_cases hl : (looks rs[i].o.op && rs[i].w) = true
      · rw [Bool.and_eq_true] at hl
        have key : ∀ q, ((effs rs).filter fun p => ((masks ops.toList []).getD i 0).testBit p).length ≤ q → q ≤ ((effs rs).filter fun p => !((masks ops.toList []).getD p 0).testBit i).length → ∃ K, Hs[q]? = some K ∧ step rs[i].o rs[i].t K = .val rs[i].v K := by
          intro q q1 q2
          rcases g2 he hl.1 hl.2 with ha | ⟨hk, K, k1, k2⟩
          · have : q < Hs.length := by
              have := List.length_filter_le (fun p => !((masks ops.toList []).getD p 0).testBit i) (effs rs)
              omega
            exact ⟨Hs[q], List.getElem?_eq_getElem this, ha _ (h5 _ (List.getElem_mem this))⟩
          · have hne : ∀ p ∈ effs rs, i ≠ p := fun p hp hip => by
              obtain ⟨rp, k3, k4⟩ := effs_at hp
              subst hip
              rw [hri] at k3
              cases k3
              rw [he] at k4
              cases k4
            have e1 : (effs rs).filter (fun p => ((masks ops.toList []).getD i 0).testBit p) = (effs rs).filter fun p => decide (p < i) := filter_eq_of fun p hp => by
              obtain ⟨rp, k3, k4⟩ := effs_at hp
              exact (chkD_at hc hk ((h6 p rp k3).1 k4) (hne p hp)).1
            have e2 : (effs rs).filter (fun p => !((masks ops.toList []).getD p 0).testBit i) = (effs rs).filter fun p => decide (p < i) := filter_eq_of fun p hp => by
              obtain ⟨rp, k3, k4⟩ := effs_at hp
              have := (chkD_at hc hk ((h6 p rp k3).1 k4) (hne p hp)).2
              simp only [befM] at this
              rw [this]
              have := hne p hp
              by_cases hlt : i < p
              · have : ¬ p < i := by omega
                simp [hlt, this]
              · have : p < i := by omega
                simp [hlt, this]
            rw [e1] at q1
            rw [e2] at q2
            have : q = cntE rs i := Nat.le_antisymm q2 q1
            subst this
            exact ⟨K, k1, k2⟩
        rw [hl.1, hl.2]
        simp only [Bool.and_self, Bool.not_true, Bool.false_or, List.all_eq_true]
        intro q _
        by_cases hq : ((effs rs).filter fun p => ((masks ops.toList []).getD i 0).testBit p).length ≤ q ∧ q ≤ ((effs rs).filter fun p => !((masks ops.toList []).getD p 0).testBit i).length
        · obtain ⟨K, k1, k2⟩ := key q hq.1 hq.2
          simp only [k1, k2, sameOR, V.beq_refl, Heap.beq_refl, Bool.and_self, Bool.or_true]
        · have : (decide (((effs rs).filter fun p => ((masks ops.toList []).getD i 0).testBit p).length ≤ q) && decide (q ≤ ((effs rs).filter fun p => !((masks ops.toList []).getD p 0).testBit i).length)) = false := by
            rw [Bool.and_eq_false_iff, decide_eq_false_iff_not, decide_eq_false_iff_not]
            omega
          rw [this]
          rfl
      · have : (looks rs[i].o.op && rs[i].w) = false := by simpa using hl
        rw [this]
        rfl
  simp only [evDraw, h1, hs, hdyn, Bool.or_true, Bool.and_self, if_true, h2]
theorem evReg_draw {T : Tab} {call : CallF} {ks : List DK} {t t' : Tm} {H H' : Heap} {out : Out} (A : Heap → Prop) (hs : (drawStat ops.toList ops (masks ops.toList []) && chkD (masks ops.toList []) ks) = true) (hA : A H) (h : DR (evOp T call) ops A ops.toList ks t H t' H') (ho : Out.norm t' H' = out) : evReg T call ops true t H = out := by
  rw [← ho]
  exact h.draw hA hs
end
end Go.Ev

namespace Go.Ev
open Go Go.Proofs
open Go.RowKit (Below)
set_option maxRecDepth 100000
section
variable {P : Program} {T : Tab} {M : Mem} {ρ : Ren} {H : Heap} {w w' : World}
/-- What only lays new blocks leaves all that is known. -/
theorem ext_below (hb : Below w.heap.size w w') : Ext M ρ w M ρ w' where
  os := hb.os
  tape := hb.tape
  output := hb.output
  size := hb.size
  mem := Mem.le.refl _
  pre := List.prefix_refl _
  frame k h _ := hb.block k h
  newM _ _ _ := rfl
  newR _ c h := .inl ⟨c, h⟩
theorem frozen_lt (hS : SR T M ρ H w) {b : Nat} {o : Obj} (h : M b = some o) : b < w.heap.size := by
  have := hS.frozen b o h
  by_cases hlt : b < w.heap.size
  · exact hlt
  · rw [Array.getElem?_eq_none (by omega)] at this; cases this
theorem sr_below (hS : SR T M ρ H w) (hb : Below w.heap.size w w') : SR T M ρ H w' where
  frozen b o h := by rw [hb.block b (frozen_lt hS h)]; exact hS.frozen b o h
  len := hS.len
  blk n b hn := by
    obtain ⟨c, q, hr, hM, hlt, hok⟩ := hS.blk n b hn
    refine ⟨c, q, hr, hM, Nat.lt_of_lt_of_le hlt hb.size, ?_⟩
    rw [hb.block c hlt]
    exact hok
  inj := hS.inj
  glob := hS.glob
theorem callOK_below {f : FuncId} {args : Array Value} {x : Value} {v : V} (hS : SR T M ρ H w) (h : Calls P f args w fun e w' => e = .returned x ∧ Below w.heap.size w w') (hx : rel M ρ v x) : CallOK P T f args M ρ w (.val v H) := by
  refine Calls.mono h ?_
  rintro e w' ⟨rfl, hb⟩
  exact ⟨x, M, ρ, rfl, ext_below hb, hx, sr_below hS hb⟩
/-- A new block that is frozen at once. -/
theorem callOK_new {f : FuncId} {args : Array Value} {x : Value} {v : V} {o : Obj} (hS : SR T M ρ H w) (h : Calls P f args w fun e w' => e = .returned x ∧ w' = w.alloc o)
    (hx : ∀ M' : Mem, M.le M' → M' w.heap.size = some o → rel M' ρ v x) : CallOK P T f args M ρ w (.val v H) := by
  have hnew := Go.heap_alloc_new w o
  have hold := fun i (h : i < w.heap.size) => RowKit.Below.heap_alloc w o i h
  let M' : Mem := fun b => if b = w.heap.size then some o else M b
  have hle : M.le M' := fun b q hb => by
    have := frozen_lt hS hb
    simp only [M']
    rw [if_neg (by omega)]
    exact hb
  have hB : Below w.heap.size w (w.alloc o) := (Below.refl _ _).alloc (Nat.le_refl _) _
  refine Calls.mono h ?_
  rintro e w' ⟨rfl, rfl⟩
  refine ⟨x, M', ρ, rfl, ?_, hx M' hle (by simp [M']), ?_⟩
  · have he := ext_below (M := M) (ρ := ρ) hB
    exact { os := he.os, tape := he.tape, output := he.output, size := he.size, mem := hle, pre := List.prefix_refl _, frame := he.frame
            newM := fun b hb _ => by simp only [M']; rw [if_neg (by omega)]
            newR := he.newR }
  · have hs := sr_below hS hB
    exact {
      frozen := fun b q hb => by
        simp only [M'] at hb
        split at hb
        · rename_i e; subst e; cases hb; exact hnew
        · exact hs.frozen b q hb
      len := hs.len
      blk := fun n b hn => by
        obtain ⟨c, q, hr, hM, hlt, hok⟩ := hS.blk n b hn
        refine ⟨c, q, hr, by simp only [M']; rw [if_neg (by omega)]; exact hM, by simp; omega, ?_⟩
        rw [hold c hlt]
        exact hok.mono hle (List.prefix_refl _)
      inj := hs.inj
      glob := fun g l hl => by
        obtain ⟨cs, ty, fr, hM, hr⟩ := hS.glob g l hl
        exact ⟨cs, ty, fr, hle _ _ hM, relL_mono hle (List.prefix_refl _) _ _ hr⟩ }
end
end Go.Ev
