/- Walks over blanks and comments. Blanks and comments at a place. A string of the second kind. Walks over a literal with marks. Walks over an escape. Escapes, literals and names of the reference. The decimal digits of a number, as an answer for the evaluator. Walks over the symbols. Where a token at a place ends. The token at a place. -/
import Derived.Test.YtmjplflnlggbeaaGreatDoorET23
import Derived.Test.YtmjplflnlggbeaaGreatDoorEWE2
import Derived.Shelf.LaysM
import Derived.Shelf.Strconv.Itoa3
namespace Go.Ev
open Go Go.Proofs
set_option linter.unusedSimpArgs false
set_option linter.unusedVariables false
set_option linter.unnecessarySimpa false
open Tryz List
set_option maxRecDepth 100000
def zfN (s : Bs) (i j : Nat) : Bs := (s.take j).drop i
def zbE (s : Bs) : Nat → Nat → Bool → Nat × Bool × Int
  | 0, i, l => (i, l, -1)
  | n + 1, i, l => if s.length ≤ i then (i, l, -1)
    else if ((atR s i == 10) : Bool) = true then zbE s n (i + 1) true
    else if (((atR s i == 32) || (atR s i == 9)) || (atR s i == 13)) = true then zbE s n (i + 1) l
    else if zdM s i [47, 47] = true then (if Lib.validD (zfN s i (i + lnL (s.drop i))) = true then zbE s n (i + lnL (s.drop i)) l else (i, l, i))
    else if zdM s i [47, 42] = true then (if (cmF s (s.length + 1) (i + 2) 1 l).1 = true then
        (if Lib.validD (zfN s i (cmF s (s.length + 1) (i + 2) 1 l).2.1) = true then zbE s n (cmF s (s.length + 1) (i + 2) 1 l).2.1 (cmF s (s.length + 1) (i + 2) 1 l).2.2 else (i, (cmF s (s.length + 1) (i + 2) 1 l).2.2, i))
      else (i, (cmF s (s.length + 1) (i + 2) 1 l).2.2, i))
    else (i, l, -1)
theorem zqd {s : Bs} {i : Nat} (h : zdM s i [47, 47] = true) : 0 < lnL (s.drop i) := by
 have h1 := zbZ h;simp only [zdM, jMa, jOa, jIa, jVa] at h h1;have h2 := h.2;have h3 : i < s.length := by omega
 have h4 : ((s.take (i + 2)).drop i)[0]? = some 47 := by rw [h2]; rfl
 rw [jOc, List.getElem?_take_of_lt (by omega)] at h4;rw [jAb h3];have h5 : s[i] = 47 := by
  have := jKa h3;simp only [jNd] at h4;rw [this] at h4;exact jWa h4
 simp [lnL, h5]
theorem zyB : zaQ TT shf Tryz.f32.ntmps [] (zae Tryz.f32) [] ⟨[(0, .f1 .vs (.va 0)), (1, .f1 (.vi .i64) (.va 1))], ⟨.va 2, [], []⟩, 3, []⟩ (KF TT Tryz.f32 [0, 1, 7]) = .leaf (.stop [.true, .true, .false, .false]) [(0, .f1 .vs (.va 0)), (1, .f1 (.vi .i64) (.va 1)), (7, .f1 .vb (.cb .false))] ⟨.va 2, [], []⟩ := by kernel_rfl
theorem zyC : goT TT shf Tryz.f32.ntmps [] [tt, tt, ff, ff, ff] (zae Tryz.f32) [] ⟨[(0, .f1 .vs (.va 0)), (1, .f1 (.vi .i64) (.va 1)), (7, .f1 .vb (.va 2))], ⟨.va 3, [], []⟩, 4, []⟩ (KF TT Tryz.f32 [0, 1, 7, 8, 9, 10]) = .ite (.f2 .ltI (.va 1) (.f1 .lenS (.va 0))) (.need (.f2 .leI (.ci 0) (.va 1)) (.ite (.f2 .eqI (.f2 .at (.va 0) (.va 1)) (.ci 10)) (.leaf (.again [.true, .true, .false, .false, .false]) [(0, .f1 .vs (.va 0)), (1, .f1 (.vi .i64) (.f1 (.wrap .i64) (.f2 .add (.va 1) (.ci 1)))), (7, .f1 .vb (.cb .true))] ⟨.va 3, [], []⟩) (.ite (.f2 .eqI (.f2 .at (.va 0) (.va 1)) (.ci 32)) (.leaf (.again [.true, .true, .false, .false, .false]) [(0, .f1 .vs (.va 0)), (1, .f1 (.vi .i64) (.f1 (.wrap .i64) (.f2 .add (.va 1) (.ci 1)))), (7, .f1 .vb (.va 2))] ⟨.va 3, [], []⟩) (.ite (.f2 .eqI (.f2 .at (.va 0) (.va 1)) (.ci 9)) (.leaf (.again [.true, .true, .false, .false, .false]) [(0, .f1 .vs (.va 0)), (1, .f1 (.vi .i64) (.f1 (.wrap .i64) (.f2 .add (.va 1) (.ci 1)))), (7, .f1 .vb (.va 2))] ⟨.va 3, [], []⟩) (.ite (.f2 .eqI (.f2 .at (.va 0) (.va 1)) (.ci 13)) (.leaf (.again [.true, .true, .false, .false, .false]) [(0, .f1 .vs (.va 0)), (1, .f1 (.vi .i64) (.f1 (.wrap .i64) (.f2 .add (.va 1) (.ci 1)))), (7, .f1 .vb (.va 2))] ⟨.va 3, [], []⟩) (.asks (.call 56 (.f2 .cons (.f1 .vs (.va 0)) (.f2 .cons (.f1 (.vi .i64) (.va 1)) (.f2 .cons (.f1 .vs (.cs [47, 47])) .nil)))) [.b] (.f1 .vb (.va 4)) (.ite (.va 4) (.leaf (.stop [.true, .true, .false, .false, .false, .true, .false, .false, .true, .true, .true, .true, .true, .false, .true, .false, .false]) [(0, .f1 .vs (.va 0)), (1, .f1 (.vi .i64) (.va 1)), (7, .f1 .vb (.va 2)), (8, .f1 (.vi .i64) (.va 1))] ⟨.va 3, [], []⟩) (.asks (.call 56 (.f2 .cons (.f1 .vs (.va 0)) (.f2 .cons (.f1 (.vi .i64) (.va 1)) (.f2 .cons (.f1 .vs (.cs [47, 42])) .nil)))) [.b] (.f1 .vb (.va 5)) (.ite (.va 5) (.leaf (.stop [.true, .true, .false, .false, .false, .true, .false, .false, .true, .true, .true, .true, .true, .true, .true, .false, .true, .true, .false, .false]) [(0, .f1 .vs (.va 0)), (1, .f1 (.vi .i64) (.f1 (.wrap .i64) (.f2 .add (.va 1) (.ci 2)))), (7, .f1 .vb (.va 2)), (9, .f1 (.vi .i64) (.va 1)), (10, .f1 (.vi .i64) (.ci 1))] ⟨.va 3, [], []⟩) (.fin (.f1 .tup (.f2 .cons (.f1 (.vi .i64) (.va 1)) (.f2 .cons (.f1 .vb (.va 2)) (.f2 .cons (.f1 (.vi .i64) (.ci (-1))) .nil)))) ⟨.va 3, [], []⟩)) (.stuck 0))) (.stuck 0))))))) (.fin (.f1 .tup (.f2 .cons (.f1 (.vi .i64) (.va 1)) (.f2 .cons (.f1 .vb (.va 2)) (.f2 .cons (.f1 (.vi .i64) (.ci (-1))) .nil)))) ⟨.va 3, [], []⟩) := by kernel_rfl
theorem zyD : goT TT shf Tryz.f32.ntmps [] [tt, tt, ff, ff, ff, tt, ff, ff, tt, tt, tt, tt, tt, ff, tt, ff, ff, ff] (zae Tryz.f32) [] ⟨[(0, .f1 .vs (.va 0)), (1, .f1 (.vi .i64) (.va 1)), (7, .f1 .vb (.va 2)), (8, .f1 (.vi .i64) (.va 3))], ⟨.va 4, [], []⟩, 5, []⟩ (KF TT Tryz.f32 [0, 1, 7, 8]) = .ite (.f2 .ltI (.va 1) (.f1 .lenS (.va 0))) (.need (.f2 .leI (.ci 0) (.va 1)) (.ite (.f2 .neI (.f2 .at (.va 0) (.va 1)) (.ci 10)) (.leaf (.again [.true, .true, .false, .false, .false, .true, .false, .false, .true, .true, .true, .true, .true, .false, .true, .false, .false, .false]) [(0, .f1 .vs (.va 0)), (1, .f1 (.vi .i64) (.f1 (.wrap .i64) (.f2 .add (.va 1) (.ci 1)))), (7, .f1 .vb (.va 2)), (8, .f1 (.vi .i64) (.va 3))] ⟨.va 4, [], []⟩) (.need (.f2 .leI (.ci 0) (.va 3)) (.need (.f2 .leI (.va 3) (.va 1)) (.need (.f2 .leI (.va 1) (.f1 .lenS (.va 0))) (.asks (.call 36 (.f2 .cons (.f1 .vs (.f3 .sub (.va 0) (.va 3) (.va 1))) .nil)) [.b] (.f1 .vb (.va 5)) (.ite (.va 5) (.leaf (.again [.true, .true, .false, .false, .false]) [(0, .f1 .vs (.va 0)), (1, .f1 (.vi .i64) (.va 1)), (7, .f1 .vb (.va 2)), (8, .f1 (.vi .i64) (.va 3))] ⟨.va 4, [], []⟩) (.fin (.f1 .tup (.f2 .cons (.f1 (.vi .i64) (.va 3)) (.f2 .cons (.f1 .vb (.va 2)) (.f2 .cons (.f1 (.vi .i64) (.va 3)) .nil)))) ⟨.va 4, [], []⟩)) (.stuck 0))))))) (.need (.f2 .leI (.ci 0) (.va 3)) (.need (.f2 .leI (.va 3) (.va 1)) (.need (.f2 .leI (.va 1) (.f1 .lenS (.va 0))) (.asks (.call 36 (.f2 .cons (.f1 .vs (.f3 .sub (.va 0) (.va 3) (.va 1))) .nil)) [.b] (.f1 .vb (.va 5)) (.ite (.va 5) (.leaf (.again [.true, .true, .false, .false, .false]) [(0, .f1 .vs (.va 0)), (1, .f1 (.vi .i64) (.va 1)), (7, .f1 .vb (.va 2)), (8, .f1 (.vi .i64) (.va 3))] ⟨.va 4, [], []⟩) (.fin (.f1 .tup (.f2 .cons (.f1 (.vi .i64) (.va 3)) (.f2 .cons (.f1 .vb (.va 2)) (.f2 .cons (.f1 (.vi .i64) (.va 3)) .nil)))) ⟨.va 4, [], []⟩)) (.stuck 0))))) := by kernel_rfl
theorem zyE : goT TT shf Tryz.f32.ntmps [] [tt, tt, ff, ff, ff, tt, ff, ff, tt, tt, tt, tt, tt, tt, tt, ff, tt, tt, ff, ff, ff] (zae Tryz.f32) [] ⟨[(0, .f1 .vs (.va 0)), (1, .f1 (.vi .i64) (.va 1)), (7, .f1 .vb (.va 2)), (9, .f1 (.vi .i64) (.va 3)), (10, .f1 (.vi .i64) (.va 4))], ⟨.va 5, [], []⟩, 6, []⟩ (KF TT Tryz.f32 [0, 1, 7, 9, 10]) = .ite (.f2 .gtI (.va 4) (.ci 0)) (.ite (.f2 .geI (.va 1) (.f1 .lenS (.va 0))) (.fin (.f1 .tup (.f2 .cons (.f1 (.vi .i64) (.va 3)) (.f2 .cons (.f1 .vb (.va 2)) (.f2 .cons (.f1 (.vi .i64) (.va 3)) .nil)))) ⟨.va 5, [], []⟩) (.asks (.call 56 (.f2 .cons (.f1 .vs (.va 0)) (.f2 .cons (.f1 (.vi .i64) (.va 1)) (.f2 .cons (.f1 .vs (.cs [47, 42])) .nil)))) [.b] (.f1 .vb (.va 6)) (.ite (.va 6) (.leaf (.again [.true, .true, .false, .false, .false, .true, .false, .false, .true, .true, .true, .true, .true, .true, .true, .false, .true, .true, .false, .false, .false]) [(0, .f1 .vs (.va 0)), (1, .f1 (.vi .i64) (.f1 (.wrap .i64) (.f2 .add (.va 1) (.ci 2)))), (7, .f1 .vb (.va 2)), (9, .f1 (.vi .i64) (.va 3)), (10, .f1 (.vi .i64) (.f1 (.wrap .i64) (.f2 .add (.va 4) (.ci 1))))] ⟨.va 5, [], []⟩) (.asks (.call 56 (.f2 .cons (.f1 .vs (.va 0)) (.f2 .cons (.f1 (.vi .i64) (.va 1)) (.f2 .cons (.f1 .vs (.cs [42, 47])) .nil)))) [.b] (.f1 .vb (.va 7)) (.ite (.va 7) (.leaf (.again [.true, .true, .false, .false, .false, .true, .false, .false, .true, .true, .true, .true, .true, .true, .true, .false, .true, .true, .false, .false, .false]) [(0, .f1 .vs (.va 0)), (1, .f1 (.vi .i64) (.f1 (.wrap .i64) (.f2 .add (.va 1) (.ci 2)))), (7, .f1 .vb (.va 2)), (9, .f1 (.vi .i64) (.va 3)), (10, .f1 (.vi .i64) (.f1 (.wrap .i64) (.f2 .sub (.va 4) (.ci 1))))] ⟨.va 5, [], []⟩) (.ite (.va 2) (.leaf (.again [.true, .true, .false, .false, .false, .true, .false, .false, .true, .true, .true, .true, .true, .true, .true, .false, .true, .true, .false, .false, .false]) [(0, .f1 .vs (.va 0)), (1, .f1 (.vi .i64) (.f1 (.wrap .i64) (.f2 .add (.va 1) (.ci 1)))), (7, .f1 .vb (.cb .true)), (9, .f1 (.vi .i64) (.va 3)), (10, .f1 (.vi .i64) (.va 4))] ⟨.va 5, [], []⟩) (.need (.f2 .leI (.ci 0) (.va 1)) (.need (.f2 .ltI (.va 1) (.f1 .lenS (.va 0))) (.leaf (.again [.true, .true, .false, .false, .false, .true, .false, .false, .true, .true, .true, .true, .true, .true, .true, .false, .true, .true, .false, .false, .false]) [(0, .f1 .vs (.va 0)), (1, .f1 (.vi .i64) (.f1 (.wrap .i64) (.f2 .add (.va 1) (.ci 1)))), (7, .f1 .vb (.f2 .eqI (.f2 .at (.va 0) (.va 1)) (.ci 10))), (9, .f1 (.vi .i64) (.va 3)), (10, .f1 (.vi .i64) (.va 4))] ⟨.va 5, [], []⟩))))) (.stuck 0))) (.stuck 0))) (.need (.f2 .leI (.ci 0) (.va 3)) (.need (.f2 .leI (.va 3) (.va 1)) (.need (.f2 .leI (.va 1) (.f1 .lenS (.va 0))) (.asks (.call 36 (.f2 .cons (.f1 .vs (.f3 .sub (.va 0) (.va 3) (.va 1))) .nil)) [.b] (.f1 .vb (.va 6)) (.ite (.va 6) (.leaf (.again [.true, .true, .false, .false, .false]) [(0, .f1 .vs (.va 0)), (1, .f1 (.vi .i64) (.va 1)), (7, .f1 .vb (.va 2)), (9, .f1 (.vi .i64) (.va 3)), (10, .f1 (.vi .i64) (.va 4))] ⟨.va 5, [], []⟩) (.fin (.f1 .tup (.f2 .cons (.f1 (.vi .i64) (.va 3)) (.f2 .cons (.f1 .vb (.va 2)) (.f2 .cons (.f1 (.vi .i64) (.va 3)) .nil)))) ⟨.va 5, [], []⟩)) (.stuck 0))))) := by kernel_rfl
theorem zmo (s : Bs) (i : Nat) : atS s (i : Nat) = atR s i := rfl
def zwO (p : Nat × Bool × Int) : V := .tup [.i .i64 p.1, .b p.2.1, .i .i64 p.2.2]
section
variable {call : zad} (hC : call.Sound Tryz.prog TT) (s : Bs) (hsl : s.length < 100000000) (hbg : ∀ (i : Nat) (a b : UInt8), i < 100000000 → ∀ H, call 56 [.s s, .i .i64 i, .s [a, b]] H = .val (.b (zdM s i [a, b])) H) (hvd : ∀ x : Bs, x.length < 100000000 → ∀ H, call 36 [.s x] H = .val (.b (Lib.validD x)) H)
include hC hsl hvd in
theorem zuY (r : Res) (f : Nat) (l : Bool)
 (hfin : Lib.validD (zfN s f (f + lnL (s.drop f))) = true → ∀ (t : Tm) (H : zaa), t.wid = Tryz.f32.ntmps → t.get 0 = .s s → t.get 1 = .i .i64 ((f + lnL (s.drop f) : Nat) : Int) → t.get 7 = .b l → ctx Tryz.prog TT [tt, tt, ff, ff, ff] (zae Tryz.f32) (zaF TT Tryz.f32 (isR r)) (.norm t H))
 (hbad : ¬ Lib.validD (zfN s f (f + lnL (s.drop f))) = true → r = .val (zwO (f, l, f))) :
 ∀ (n j : Nat) (t : Tm) (H : zaa), s.length < n + j → f ≤ j → j ≤ s.length → j + lnL (s.drop j) = f + lnL (s.drop f) → t.wid = Tryz.f32.ntmps → t.get 0 = .s s → t.get 1 = .i .i64 (j : Nat) → t.get 7 = .b l → t.get 8 = .i .i64 (f : Nat) →
 ctx Tryz.prog TT [tt, tt, ff, ff, ff, tt, ff, ff, tt, tt, tt, tt, tt, ff, tt, ff, ff, ff] (zae Tryz.f32) (zaF TT Tryz.f32 (isR r)) (.norm t H) := by
 intro n;induction n with
 | zero => intro j t H h1 h2 h3; omega
 | succ n ih =>
  intro j t H hn hf hj he hw t0 t1 t7 t8;refine zaM.symIn (p := [tt, tt, ff, ff, ff, tt, ff, ff, tt, tt, tt, tt, tt, ff, tt, ff, ff]) zaf hC rfl zyD (by kernel_rfl) [.us s, .ui (j : Nat), .ub l, .ui (f : Nat), .uh H] rfl hw ⟨t0, t1, t7, t8, trivial⟩ rfl (zaC _ _) ?_;clear t0 t1 t7 t8 hw;simp -implicitDefEqProofs only [VC, isR, exU, Ask.den, E.den, O1.den, O2.den, O3.den, SH.den, zat, za9, bD, SB.den, zai, LQ, uu, uW, jOa, jUa, jDa];have w1 : IntKind.i64.wrap ((j : Int) + 1) = ((j + 1 : Nat) : Int) := by rw [zaj (by omega) (by omega)]; omega
  simp only [w1, jCa, zmo];have stop : lnL (s.drop j) = 0 → (0 : Int) ≤ (f : Nat) ∧ ((f : Nat) : Int) ≤ (j : Nat) ∧ ((j : Nat) : Int) ≤ (s.length : Nat) ∧ ((∃ x, (∀ (K : zaa), call 36 [.s ((s.take j).drop f)] K = .val (.b x) K) ∧ (x = true → ∀ (t : Tm), t.wid = Tryz.f32.ntmps → t.get 0 = .s s → t.get 1 = .i .i64 (j : Nat) → t.get 7 = .b l → t.get 8 = .i .i64 (f : Nat) → ctx Tryz.prog TT [tt, tt, ff, ff, ff] (zae Tryz.f32) (zaF TT Tryz.f32 (isR r)) (.norm t H)) ∧ (x = false → r = .val (.tup [.i .i64 (f : Nat), .b l, .i .i64 (f : Nat)]))) ∨ ∃ v, (∀ (K : zaa), call 36 [.s ((s.take j).drop f)] K = .pan v K) ∧ False) := fun h0 => by
   have e : f + lnL (s.drop f) = j := by omega
   rw [e] at hfin hbad;refine ⟨by omega, by omega, by omega, .inl ⟨_, hvd _ (by rw [jJa, jSb]; omega), fun hx t hw f0 f1 f7 f8 => hfin hx t H hw f0 f1 f7, fun hx => ?_⟩⟩;exact hbad (by rw [show zfN s f j = (s.take j).drop f from rfl, hx]; decide)
  refine ⟨fun h => ⟨by omega, fun h10 t hw f0 f1 f7 f8 => ?_, fun h10 => ?_⟩, fun h => ?_⟩
  ·have hd : s.drop j = s[j]'(by omega) :: s.drop (j + 1) := jAb (by omega);have hb : ¬ (s[j]'(by omega) == 10) = true := fun e => h10 (by
    rw [jOa] at e;unfold atR;rw [jKa (by omega), e];rfl)
   refine ih (j + 1) t H (by omega) (by omega) (by omega) ?_ hw f0 f1 f7 f8;rw [hd] at he;simp only [lnL] at he;rw [if_neg hb] at he;omega
  ·refine stop ?_;have hd : s.drop j = s[j]'(by omega) :: s.drop (j + 1) := jAb (by omega);have hb : (s[j]'(by omega) == 10) = true := by
    simp only [bne_eq_false_iff_eq] at h10;unfold atR at h10;rw [jKa (by omega)] at h10;simp only at h10;rw [jOa];exact jUd (by have : (10 : UInt8).toNat = 10 := rfl; omega)
   rw [hd];simp only [lnL];rw [if_pos hb]
  ·refine stop ?_;rw [jAc (by omega)];rfl
include hC hsl hbg hvd in
theorem zuV (r : Res) (f : Nat) (q : Bool × Nat × Bool)
 (hfin : q.1 = true → Lib.validD (zfN s f q.2.1) = true → ∀ (t : Tm) (H : zaa), t.wid = Tryz.f32.ntmps → t.get 0 = .s s → t.get 1 = .i .i64 (q.2.1 : Nat) → t.get 7 = .b q.2.2 → ctx Tryz.prog TT [tt, tt, ff, ff, ff] (zae Tryz.f32) (zaF TT Tryz.f32 (isR r)) (.norm t H))
 (hbad : q.1 = false ∨ ¬ Lib.validD (zfN s f q.2.1) = true → r = .val (zwO (f, q.2.2, f))) :
 ∀ (n j d : Nat) (l : Bool) (t : Tm) (H : zaa), s.length < n + j → f ≤ j → j ≤ s.length → d ≤ j → cmF s n j d l = q → t.wid = Tryz.f32.ntmps → t.get 0 = .s s → t.get 1 = .i .i64 (j : Nat) → t.get 7 = .b l → t.get 9 = .i .i64 (f : Nat) → t.get 10 = .i .i64 (d : Nat) →
 ctx Tryz.prog TT [tt, tt, ff, ff, ff, tt, ff, ff, tt, tt, tt, tt, tt, tt, tt, ff, tt, tt, ff, ff, ff] (zae Tryz.f32) (zaF TT Tryz.f32 (isR r)) (.norm t H) := by
 intro n;induction n with
 | zero => intro j d l t H h1 h2 h3; omega
 | succ n ih =>
  intro j d l t H hn hf hj hdj hq hw t0 t1 t7 t9 t10;refine zaM.symIn (p := [tt, tt, ff, ff, ff, tt, ff, ff, tt, tt, tt, tt, tt, tt, tt, ff, tt, tt, ff, ff]) zaf hC rfl zyE (by kernel_rfl) [.us s, .ui (j : Nat), .ub l, .ui (f : Nat), .ui (d : Nat), .uh H] rfl hw ⟨t0, t1, t7, t9, t10, trivial⟩ rfl (zaC _ _) ?_;clear t0 t1 t7 t9 t10 hw;simp -implicitDefEqProofs only [VC, isR, exU, Ask.den, E.den, O1.den, O2.den, O3.den, SH.den, zat, za9, bD, SB.den, zai, LQ, uu, uW, jOa, jUa, jDa];have w1 : IntKind.i64.wrap ((j : Int) + 1) = ((j + 1 : Nat) : Int) := by rw [zaj (by omega) (by omega)]; omega
  have w2 : IntKind.i64.wrap ((j : Int) + 2) = ((j + 2 : Nat) : Int) := by rw [zaj (by omega) (by omega)]; omega
  have w3 : IntKind.i64.wrap ((d : Int) + 1) = ((d + 1 : Nat) : Int) := by rw [zaj (by omega) (by omega)]; omega
  simp only [w1, w2, w3, jCa, zmo];simp only [cmF] at hq;refine ⟨fun h => ⟨fun h2 => ?_, fun h2 => .inl ⟨_, hbg j 47 42 (by omega), fun hb => fun t hw f0 f1 f7 f9 f10 => ?_, fun hb => .inl ⟨_, hbg j 42 47 (by omega), fun hc => fun t hw f0 f1 f7 f9 f10 => ?_, fun hc => ⟨fun hl => fun t hw f0 f1 f7 f9 f10 => ?_, fun hl => ⟨by omega, by omega, fun t hw f0 f1 f7 f9 f10 => ?_⟩⟩⟩⟩⟩, fun h => ?_⟩
  ·rw [if_neg (by omega), if_pos (by omega)] at hq;subst hq;exact hbad (.inl rfl)
  ·have := zbZ hb;simp only [jIa, jVa] at this;rw [if_neg (by omega), if_neg (by omega), if_pos hb] at hq;exact ih (j + 2) (d + 1) l t H (by omega) (by omega) (by omega) (by omega) hq hw f0 f1 f7 f9 f10
  ·have := zbZ hc;simp only [jIa, jVa] at this;rw [if_neg (by omega), if_neg (by omega), if_neg (by rw [hb]; decide), if_pos hc] at hq;refine ih (j + 2) (d - 1) l t H (by omega) (by omega) (by omega) (by omega) hq hw f0 f1 f7 f9 ?_;rw [f10, zaj (by omega) (by omega)];congr 1;omega
  ·rw [if_neg (by omega), if_neg (by omega), if_neg (by rw [hb]; decide), if_neg (by rw [hc]; decide), hl] at hq;exact ih (j + 1) d true t H (by omega) (by omega) (by omega) (by omega) hq hw f0 f1 f7 f9 f10
  ·rw [if_neg (by omega), if_neg (by omega), if_neg (by rw [hb]; decide), if_neg (by rw [hc]; decide), hl, jVd] at hq;exact ih (j + 1) d _ t H (by omega) (by omega) (by omega) (by omega) hq hw f0 f1 f7 f9 f10
  ·have hd0 : d = 0 := by omega
   rw [if_pos hd0] at hq;subst hq;refine ⟨by omega, by omega, by omega, .inl ⟨_, hvd _ (by rw [jJa, jSb]; omega), fun hx t hw f0 f1 f7 f9 f10 => hfin rfl hx t H hw f0 f1 f7, fun hx => ?_⟩⟩;exact hbad (.inr (by rw [show zfN s f j = (s.take j).drop f from rfl, hx]; decide))
include hC hsl hbg hvd in
theorem zuU : ∀ (n i : Nat) (l : Bool) (t : Tm) (H : zaa), s.length < n + i → i ≤ s.length → t.wid = Tryz.f32.ntmps → t.get 0 = .s s → t.get 1 = .i .i64 (i : Nat) → t.get 7 = .b l →
    ctx Tryz.prog TT [tt, tt, ff, ff, ff] (zae Tryz.f32) (zaF TT Tryz.f32 (isR (.val (zwO (zbE s n i l))))) (.norm t H) := by
  intro n
  induction n with
  | zero => intro i l t H h1 h2; omega
  | succ n ih =>
    intro i l t H hn hi hw t0 t1 t7
    refine zaM.symIn (p := [tt, tt, ff, ff]) zaf hC rfl zyC (by kernel_rfl) [.us s, .ui (i : Nat), .ub l, .uh H] rfl hw ⟨t0, t1, t7, trivial⟩ rfl (zaC _ _) ?_
    clear t0 t1 t7 hw
    simp -implicitDefEqProofs only [VC, isR, exU, Ask.den, E.den, O1.den, O2.den, O3.den, SH.den, zat, za9, bD, SB.den, zai, LQ, uu, uW, jOa, jUa, jDa]
    have w1 : IntKind.i64.wrap ((i : Int) + 1) = ((i + 1 : Nat) : Int) := by rw [zaj (by omega) (by omega)]; omega
    have w2 : IntKind.i64.wrap ((i : Int) + 2) = ((i + 2 : Nat) : Int) := by rw [zaj (by omega) (by omega)]; omega
    simp only [w1, w2, jCa, zmo]
    have sp : (atR s i = 32 ∨ atR s i = 9 ∨ atR s i = 13) → i < s.length → atR s i ≠ 10 → ∀ t : Tm, t.wid = Tryz.f32.ntmps → t.get 0 = .s s → t.get 1 = .i .i64 ((i + 1 : Nat) : Int) → t.get 7 = .b l → ctx Tryz.prog TT [tt, tt, ff, ff, ff] (zae Tryz.f32) (zaF TT Tryz.f32 (isR (.val (zwO (zbE s (n + 1) i l))))) (.norm t H) := fun hb hlt h10 t hw f0 f1 f7 => by
      have e : zbE s (n + 1) i l = zbE s n (i + 1) l := by
        simp only [zbE]
        rw [if_neg (show ¬ s.length ≤ i by omega), if_neg (by rw [jOa]; exact h10), if_pos (by rcases hb with h | h | h <;> simp [h])]
      rw [e]
      exact ih (i + 1) l t H (by omega) (by omega) hw f0 f1 f7
    refine ⟨fun h => ⟨by omega, fun h10 t hw f0 f1 f7 => ?_, fun h10 => ⟨fun h32 => sp (.inl h32) (by omega) h10, fun h32 => ⟨fun h9 => sp (.inr (.inl h9)) (by omega) h10, fun h9 => ⟨fun h13 => sp (.inr (.inr h13)) (by omega) h10, fun h13 => ?_⟩⟩⟩⟩, fun h => ?_⟩
    · have e : zbE s (n + 1) i l = zbE s n (i + 1) true := by
        simp only [zbE]
        rw [if_neg (show ¬ s.length ≤ i by omega), if_pos (by rw [jOa]; exact h10)]
      rw [e]
      exact ih (i + 1) true t H (by omega) (by omega) hw f0 f1 f7
    · have e0 : zbE s (n + 1) i l = (if zdM s i [47, 47] = true then (if Lib.validD (zfN s i (i + lnL (s.drop i))) = true then zbE s n (i + lnL (s.drop i)) l else (i, l, i))
          else if zdM s i [47, 42] = true then (if (cmF s (s.length + 1) (i + 2) 1 l).1 = true then
            (if Lib.validD (zfN s i (cmF s (s.length + 1) (i + 2) 1 l).2.1) = true then zbE s n (cmF s (s.length + 1) (i + 2) 1 l).2.1 (cmF s (s.length + 1) (i + 2) 1 l).2.2 else (i, (cmF s (s.length + 1) (i + 2) 1 l).2.2, i))
            else (i, (cmF s (s.length + 1) (i + 2) 1 l).2.2, i))
          else (i, l, -1)) := by
        simp only [zbE]
        rw [if_neg (show ¬ s.length ≤ i by omega), if_neg (by rw [jOa]; exact h10), if_neg (by simp [h32, h9, h13])]
      rw [e0]
      refine .inl ⟨_, hbg i 47 47 (by omega), fun hb t hw f0 f1 f7 f8 => ?_, fun hb => .inl ⟨_, hbg i 47 42 (by omega), fun hc t hw f0 f1 f7 f9 f10 => ?_, fun hc => ?_⟩⟩
      · have h1 := zqd hb
        have h2 := zmL (s.drop i)
        rw [jJa] at h2
        rw [if_pos hb]
        refine Tri.symLoop rfl (zuY hC s hsl hvd _ i l (fun hv t H hw f0 f1 f7 => ?_) (fun hv => by rw [if_neg hv]) (s.length + 1) i t H (by omega) (by omega) hi rfl hw f0 f1 f7 f8)
        rw [if_pos hv]
        exact ih _ l t H (by omega) (by omega) hw f0 f1 f7
      · have h1 := zbZ hc
        simp only [jIa, jVa] at h1
        have h2 := zhV s (s.length + 1) (i + 2) 1 l (by omega)
        rw [if_neg (by rw [hb]; decide), if_pos hc]
        refine Tri.symLoop rfl (zuV hC s hsl hbg hvd _ i (cmF s (s.length + 1) (i + 2) 1 l) (fun hq hv t H hw f0 f1 f7 => ?_) (fun hv => ?_) (s.length + 1) (i + 2) 1 l t H (by omega) (by omega) (by omega) (by omega) rfl hw f0 f1 f7 f9 f10)
        · rw [if_pos hq, if_pos hv]
          exact ih _ _ t H (by omega) (by omega) hw f0 f1 f7
        · rcases hv with hv | hv
          · rw [if_neg (by rw [hv]; decide)]
          · rw [if_neg hv]
            split <;> rfl
      · rw [if_neg (by rw [hb]; decide), if_neg (by rw [hc]; decide)]
        rfl
    · have e : zbE s (n + 1) i l = (i, l, -1) := by
        simp only [zbE]
        rw [if_pos (show s.length ≤ i by omega)]
      rw [e]
      rfl
include hC hsl hbg hvd in
theorem zoT (i : Nat) (hi : i ≤ s.length) : zaV Tryz.prog TT 32 [.s s, .i .i64 i] (fun r => r = .val (zwO (zbE s (s.length + 1) i false))) := by
 apply zaA.is;refine zaA.sym zaf hC (fn := Tryz.f32) rfl rfl (by simp [Tryz.f32]) zyB (by kernel_rfl) [.us s, .ui (i : Nat), .uh []] rfl ⟨by rw [zag]; rfl, by rw [zag]; rfl, trivial⟩ rfl (zaC _ _) ?_;simp -implicitDefEqProofs only [VC, isR, exU, Ask.den, E.den, O1.den, O2.den, O3.den, SH.den, zat, za9, bD, SB.den, zai, LQ, uu, uW, jOa, jUa, jDa];intro t hw t0 t1 t7;exact Tri.symLoop rfl (zuU hC s hsl hbg hvd (s.length + 1) i false t _ (by omega) hi hw t0 t1 t7)
end
theorem zht:∃g,zak prog TT 36 g∧∀s:Bs,s.length<100000000→∀H,g [.s s] H=.val (.b (Lib.validD s)) H:=⟨zjG,zAU,fun s hs H=>by
 have:s.length<4294967281:=by omega
 simp only[zjG];rw[if_pos this]⟩
theorem zgy (s:Bs):∀(n i:Nat)(l:Bool),i≤s.length→i≤(zbE s n i l).1∧(zbE s n i l).1≤s.length
 |0,i,l,h=>⟨jDb _,h⟩
 |n+1,i,l,h=>by
  simp only[zbE];split
  ·exact⟨jDb _,h⟩
  split
  ·have:=zgy s n (i+1) true (by omega);omega
  split
  ·have:=zgy s n (i+1) l (by omega);omega
  split
  ·have h1:=zmL (s.drop i);rw[jJa]at h1;split
   ·have:=zgy s n (i+lnL (s.drop i)) l (by omega);omega
   ·exact⟨jDb _,h⟩
  split
  ·rename_i hb;have hb:=zbZ hb;simp only[jIa,jVa]at hb;have h1:=zhV s (s.length+1) (i+2) 1 l (by omega);split
   ·split
    ·have:=zgy s n (cmF s (s.length+1) (i+2) 1 l).2.1 (cmF s (s.length+1) (i+2) 1 l).2.2 (by omega);omega
    ·exact⟨jDb _,h⟩
   ·exact⟨jDb _,h⟩
  ·exact⟨jDb _,h⟩
theorem zxU:∃g,zak prog TT 32 g∧∀(s:Bs)(i:Nat),s.length<100000000→i≤s.length→∀H,g [.s s,.i .i64 i] H=.val (.tup [.i .i64 (zbE s (s.length+1) i false).1,.b (zbE s (s.length+1) i false).2.1,.i .i64 (zbE s (s.length+1) i false).2.2]) H:=by
 obtain⟨g1,k1,s1⟩:=zq0;obtain⟨g2,k2,s2⟩:=zht;obtain⟨g,k,s⟩:=zbd zaf zao 32 (fun p:Bs×Nat=>[.s p.1,.i .i64 p.2]) (fun p=>p.1.length<100000000∧p.2≤p.1.length) (fun p=>.tup [.i .i64 (zbE p.1 (p.1.length+1) p.2 false).1,.b (zbE p.1 (p.1.length+1) p.2 false).2.1,.i .i64 (zbE p.1 (p.1.length+1) p.2 false).2.2]) (fun p _=>by simp[nlL,nl]) (fun _=>by simp[nl,nlL]) (fun a b h=>by
  simp only[jPa,V.s.injEq,V.i.injEq,jLb,jGb]at h;rw[h.1,show a.2=b.2 from by omega]) (fun p hp=>zaV.of1 (zoT (ws (ws n0 k1) k2) p.1 hp.1 (fun i a b hi H=>by
   rw[zac _ _ _ _ rfl,zan];exact s1 p.1 i [a,b] (by omega) (by simp) H) (fun x hx H=>by
   rw[zan];exact s2 x hx H) p.2 hp.2))
 exact⟨g,k,fun a i h1 h2 H=>s (a,i) ⟨h1,h2⟩ H⟩
def zhP (s:Bs):Nat→Nat→Option Nat
 |0,_=>none
 |n+1,k=>if k+3≤s.length then(if((s.take (k+3)).drop k==[34,34,34])=true then some k else zhP s n (k+1))else none
theorem zjq (s:Bs):∀(n k j:Nat),zhP s n k=some j→k≤j∧j+3≤s.length
 |0,k,j,h=>by cases h
 |n+1,k,j,h=>by
  simp only[zhP]at h;split at h
  ·split at h
   ·cases h;omega
   ·have:=zjq s n (k+1) j h;omega
  ·cases h
def zsW (s:Bs)(i:Nat):V:=match zhP s (s.length+1) (i+3)with
 |none=>.tup [.s [],.i .i64 0,.b false]
 |some k=>.tup [.s (zfN s (i+3) k),.i .i64 ((k+3:Nat):Int),.b (Lib.validD (zfN s (i+3) k))]
theorem zsC {call:zad}(hC:call.Sound prog TT)(s:Bs)(i:Nat)(hsl:s.length<100000000)(hil:i≤s.length)(hvd:∀x:Bs,x.length<100000000→∀H,call 36 [.s x] H=.val (.b (Lib.validD x)) H){Q:Out→Prop}:∀(n k:Nat)(t:Tm)(H:zaa),s.length+4-k<n+4→i+3≤k∧k≤s.length+3 →
 t.wid=36→t.get 0=.s s→t.get 1=.i .i64 i→t.get 7=.i .i64 k →
 (∀(t':Tm)(H':zaa),t'.wid=36→zhP s n k=none→Q (.exit 0 t' H')) →
 (∀(t':Tm)(H':zaa)(j:Nat),zhP s n k=some j→t'.get 4=.s (zfN s (i+3) j)→t'.get 5=.i .i64 ((j+3:Nat):Int)→t'.get 6=.b (Lib.validD (zfN s (i+3) j))→Q (.ret t' H')) →
 zaM prog TT (sub [tt,ff,tt,ff,ff] (zae f59)) t H Q:=by
 intro n;induction n with
 |zero=>
  intro k t H hn hk hw h0 h1 h7 hE hR;have hwk:IntKind.i64.wrap ((k:Int)+3)=(k:Int)+3:=zaj (by omega) (by omega);have hge:¬(k:Int)+3≤s.length:=by omega
  have hres:zhP s 0 k=none:=rfl;have hF:=ai @h0 (ai @h1 (ai @h7 (ai @hwk @hge)));refine zaM.round' ?_;apply sQ;apply rS hC
  ·iterate 5 refine oA ?_
   rfl
  refine cF (by simp[hF]<;>rfl) ?_;refine Tri.exit ?_;refine zaz ?_;refine zay ?_;exact hE _ _ (by simp[hw]) hres
 |succ n ih=>
  intro k t H hn hk hw h0 h1 h7 hE hR;have hwk:IntKind.i64.wrap ((k:Int)+3)=(k:Int)+3:=zaj (by omega) (by omega);by_cases hlt2:k+3≤s.length
  ·have hlt:(k:Int)+3≤s.length:=by omega
   have hwi:IntKind.i64.wrap ((i:Int)+3)=(i:Int)+3:=zaj (by omega) (by omega);have hwk1:IntKind.i64.wrap ((k:Int)+1)=(k:Int)+1:=zaj (by omega) (by omega);have b1:(0:Int)≤(k:Int)+3:=by omega
   have b2:((k:Int)+3).toNat=k+3:=by omega
   have b3:(k:Int)≤(k:Int)+3:=by omega
   have b4:k≤k+3:=by omega
   have c1:(0:Int)≤(i:Int)+3:=by omega
   have c2:((i:Int)+3).toNat=i+3:=by omega
   have c3:(i:Int)+3≤k:=by omega
   have c4:k≤s.length:=by omega
   have hva:=hvd (zfN s (i+3) k) (by simp[zfN];omega);unfold zfN at hva;cases heq:((s.take (k+3)).drop k==[34,34,34])with
   |true=>
    have hres:zhP s (n+1) k=some k:=by simp only[zhP];rw[if_pos hlt2,if_pos heq]
    have hF:=And.intro c3<|And.intro c4<|ai @h0 (ai @h1 (ai @h7 (ai @hwk (ai @hlt (ai @heq (ai @hwi (ai @hva (ai @c1 (ai @c2 (ai @b1 (ai @b2 (ai @b3 @b4))))))))))));refine zaM.round' ?_;apply sQ;apply rS hC
    ·iterate 5 refine oA ?_
     rfl
    refine cT (by simp[hF]<;>rfl) ?_;apply Tri.skip;apply sN;apply sQ;apply bK;apply rS hC
    ·iterate 6 refine oA ?_
     rfl
    refine cT (by simp[hF]<;>rfl) ?_;apply sQ;refine Tri.regN (t':=?th5) (H':=?Hh5) zaf hC ?eh5 ?qh5;case eh5=>
     refine zcF (t':=?th5) (by kernel_rfl) ?_ ?rh905;iterate 16 refine QR.val rfl (by simp[hF]<;>rfl) (by rfl) (by simp[hw]) ?_
     exact QR.nil;case rh905=>exact rfl
    apply sN;apply Tri.ret;apply bR;apply sR;refine zce ?_;exact hR _ _ k hres (by simp[zfN]) (by simp) (by simp[zfN])
   |false=>
    have hres:zhP s (n+1) k=zhP s n (k+1):=by simp only[zhP];rw[if_pos hlt2,if_neg (by rw[heq];simp)]
    have hF:=ai @h0 (ai @h1 (ai @h7 (ai @hwk (ai @hlt (ai @heq (ai @hwk1 (ai @b1 (ai @b2 (ai @b3 @b4)))))))));refine zaM.round' ?_;apply sQ;apply rS hC
    ·iterate 5 refine oA ?_
     rfl
    refine cT (by simp[hF]<;>rfl) ?_;apply Tri.skip;apply sN;apply sQ;apply bK;apply rS hC
    ·iterate 6 refine oA ?_
     rfl
    refine cF (by simp[hF]<;>rfl) ?_;apply Tri.skip;apply bN;apply sN;apply rN hC
    ·iterate 3 refine oA ?_
     rfl
    refine zaq ?_;refine ih (k+1) _ _ (by omega) (by omega) (by simp[hw]) (by simp[h0]) (by simp[h1]) (by simp) (fun t' H' k1 k2=>hE t' H' k1 (by rw[hres];exact k2)) (fun t' H' j k2=>hR t' H' j (by rw[hres];exact k2))
  ·have hge:¬(k:Int)+3≤s.length:=by omega
   have hres:zhP s (n+1) k=none:=by simp only[zhP];rw[if_neg hlt2]
   have hF:=ai @h0 (ai @h1 (ai @h7 (ai @hwk @hge)));refine zaM.round' ?_;apply sQ;apply rS hC
   ·iterate 5 refine oA ?_
    rfl
   refine cF (by simp[hF]<;>rfl) ?_;refine Tri.exit ?_;refine zaz ?_;refine zay ?_;exact hE _ _ (by simp[hw]) hres
theorem zoW {call:zad}(hC:call.Sound prog TT)(s:Bs)(i:Nat)(hsl:s.length<100000000)(hil:i≤s.length)(hwi:IntKind.i64.wrap ((i:Int)+3)=(i:Int)+3)(hvd:∀x:Bs,x.length<100000000→∀H,call 36 [.s x] H=.val (.b (Lib.validD x)) H)  : zaV prog TT 59 [.s s,.i .i64 i] (fun r=>r=.val (zsW s i)):=by
 refine en f59 rfl rfl (by simp[f59]) 36 rfl fun t hw hg=>?_;have h0:=hg 0 _ rfl;have h1:=hg 1 _ rfl;clear hg;try simp only[Nd.enc_eq]at *
 have hF:=ai @h0 (ai @h1 @hwi);apply rS hC
 ·iterate 3 refine oA ?_
  rfl
 apply sQ;apply rS hC
 ·iterate 3 refine oA ?_
  rfl
 apply bK;refine Tri.loop ?_;refine zsC hC s i hsl hil hvd (s.length+1) (i+3) _ _ (by omega) (by omega) (by simp[hw]) (by simp[h0]) (by simp[h1]) (by simp[hwi]) ?exit ?ret;case exit=>
  intro t2 H2 hw hr;have q4:True:=trivial;have q5:True:=trivial;have q6:True:=trivial;refine zav ?_;apply sN;apply rS hC
  ·iterate 3 refine oA ?_
   rfl
  apply Tri.ret;simp only[zsW,hr];refine zcP (by simp[f59,q4,q5,q6]<;>rfl) (by rfl) ?_;first
   |rfl
   |simp
 case ret=>
  intro t2 H2 j hr q4 q5 q6;apply bR;apply sR;simp only[zsW,hr];refine zcP (by simp[f59,q4,q5,q6]<;>rfl) (by rfl) ?_;first
   |rfl
   |simp
def zoD (s:Bs)(esc:Nat→Option (Bs×Nat))(mk:Int):Nat→Nat→Bs→Option (Bs×Nat)
 |0,_,_=>none
 |n+1,i,out=>if s.length≤i then none else if((atR s i==10):Bool)=true then none
  else if((atR s i==mk):Bool)=true then some (out,i+1)
  else if((atR s i==92):Bool)=true then(match esc i with|some p=>zoD s esc mk n p.2 (out++p.1)|none=>none)
  else zoD s esc mk n (i+1) (out++(s.take (i+1)).drop i)
def zls:Option (Bs×Nat)→V
 |some p=>.tup [.s p.1,.i .i64 p.2,.b true]
 |none=>.tup [.s [],.i .i64 0,.b false]
def zxA:Option (Bs×Nat)→V
 |some p=>.tup [.s p.1,.i .i64 p.2,.b (Lib.validD p.1)]
 |none=>.tup [.s [],.i .i64 0,.b false]
def zhO:Option (Bs×Nat)→Bs×Nat×Bool
 |some p=>(p.1,p.2,Lib.validD p.1)
 |none=>([],0,false)
theorem zyY:zaQ TT shf f60.ntmps [] (zae f60) [] ⟨[(0,.f1 .vs (.va 0)),(1,.f1 (.vi .i64) (.va 1)),(2,.f1 (.vi .u8) (.va 2))],⟨.va 3,[],[]⟩,4,[]⟩ (KF TT f60 [0,1,2,9])=.leaf (.stop [tt,tt,tt,ff,ff]) [(0,xs v0),(1,xi (xw (xa v1 c1))),(2,xu v2),(9,xs (.cs []))] ⟨v3,[],[]⟩:=by kernel_rfl
theorem zyZ:goT TT shf f60.ntmps [] [tt,tt,tt,ff,ff,ff] (zae f60) [] ⟨[(0,.f1 .vs (.va 0)),(1,.f1 (.vi .i64) (.va 1)),(2,.f1 (.vi .u8) (.va 2)),(9,.f1 .vs (.va 3))],⟨.va 4,[],[]⟩,5,[]⟩ (KF TT f60 [0,1,2,9])=let qf:E:=xA v0 v1;let qb:E:=xw (xa v1 c1);let qc:SH:=⟨v4,[],[]⟩;let qd:E:=xc 9223372036854775807;let qa:Tree:=.fin (xt (x3 (xs (.cs [])) (xi c0) (xb (.cb false)))) qc;let qe:E:=.f3 .sub v0 v1 qb;.ite (xL v1 (xl v0)) (.need (xE c0 v1) (.ite (xM qf c10) (.ite (xe qf v2) (.asks (.call 36 (x1 (xs v3))) [.b] (xb v5) (.fin (xt (x3 (xs v3) (xi qb) (xb v5))) qc) (.stuck 0)) (.ite (xe qf (xc 92)) (.asks (.call 85 (x2 (xs v0) (xi v1))) [.s,.i,.b] (xt (x3 (xs v5) (xi v6) (xb v7))) (.ite v7 (.need (xE (xa (xl v3) (xl v5)) qd) (.leaf (.again [tt,tt,tt,ff,ff,ff]) [(0,xs v0),(1,xi v6),(2,xu v2),(9,xs (xP v3 v5))] qc)) qa) (.stuck 0)) (.need (xE v1 qb) (.need (xE qb (xl v0)) (.need (xE (xa (xl v3) (xl qe)) qd) (.leaf (.again [tt,tt,tt,ff,ff,ff]) [(0,xs v0),(1,xi qb),(2,xu v2),(9,xs (xP v3 qe))] qc)))))) qa)) qa:=by kernel_rfl
theorem zqt (r:Option (Bs×Nat)):zxA r=.tup [.s (zhO r).1,.i .i64 (zhO r).2.1,.b (zhO r).2.2]:=by cases r<;>rfl
theorem zuA (s:Bs)(i:Nat)(h:i<s.length):((s.take (i+1)).drop i).length=1:=by rw[jJa,jSb];omega
theorem zu1 {call:zad}(hC:call.Sound prog TT)(s:Bs)(esc:Nat→Option (Bs×Nat))(mk:Int)(hsl:s.length<100000000)(hvd:∀x:Bs,x.length≤4*s.length→∀H,call 36 [.s x] H=.val (.b (Lib.validD x)) H)
 (hesc:∀i:Nat,i<s.length→∀H,call 85 [.s s,.i .i64 i] H=.val (zls (esc i)) H)(hej:∀(i:Nat)(tx:Bs)(j:Nat),i<s.length→esc i=some (tx,j)→i<j∧j≤s.length∧tx.length≤4) :
 ∀(n i:Nat)(out:Bs)(t:Tm)(H:zaa),s.length<n+i→i≤s.length→out.length≤4*i→t.wid=f60.ntmps→t.get 0=.s s→t.get 1=.i .i64 (i:Nat)→t.get 2=.i .u8 mk→t.get 9=.s out →
 ctx prog TT [tt,tt,tt,ff,ff,ff] (zae f60) (zaF TT f60 (isR (.val (zxA (zoD s esc mk n i out))))) (.norm t H):=by
 intro n;induction n with
 |zero=>intro i out t H h1 h2;omega
 |succ n ih=>
  intro i out t H hn hi ho hw t0 t1 t2 t9;refine zaM.symIn (p:=[tt,tt,tt,ff,ff]) zaf hC rfl zyZ (by kernel_rfl) [.us s,.ui (i:Nat),.ui mk,.us out,.uh H] rfl hw ⟨t0,t1,t2,t9,trivial⟩ rfl (zaC _ _) ?_;clear t0 t1 t2 t9 hw;simp -implicitDefEqProofs only[VC,isR,exU,Ask.den,E.den,O1.den,O2.den,O3.den,SH.den,zat,za9,bD,SB.den,zai,LQ,uu,uW,jOa,jUa,jDa];have w1:IntKind.i64.wrap ((i:Int)+1)=((i+1:Nat):Int):=by rw[zaj (by omega) (by omega)];omega
  simp only[w1,jCa,zmo,zoD,jOa];refine⟨fun h=>?_,fun h=>by rw[if_pos (show s.length≤i by omega)];rfl⟩;rw[if_neg (show ¬s.length≤i by omega)];have hc:=zuA s i (by omega);refine⟨by omega,fun h10=>?_,fun h10=>by rw[if_pos (by simpa using h10)];rfl⟩;rw[if_neg h10];refine⟨fun hm=>.inl ⟨_,hvd out (by omega),by rw[if_pos hm];rfl⟩,fun hm=>?_⟩;rw[if_neg hm];refine⟨fun h92=>?_,fun h92=>?_⟩
  ·rw[if_pos h92];have he:=hesc i (by omega);cases hq:esc i with
   |none=>
    rw[hq]at he;exact .inl ⟨_,_,_,he,fun h=>(by cases h),fun _=>rfl⟩
   |some p=>
    rw[hq]at he;have hj:=hej i p.1 p.2 (by omega) hq;exact .inl ⟨_,_,_,he,fun _=>⟨by omega,fun t hw f0 f1 f2 f9=>ih p.2 _ t H (by omega) hj.2.1 (by rw[jLa];omega) hw f0 f1 f2 f9⟩,fun h=>by cases h⟩
  ·rw[if_neg h92];exact⟨by omega,by omega,by rw[hc];omega,fun t hw f0 f1 f2 f9=>ih (i+1) _ t H (by omega) (by omega) (by rw[jLa,hc];omega) hw f0 f1 f2 f9⟩
theorem zoX {call:zad}(hC:call.Sound prog TT)(s:Bs)(esc:Nat→Option (Bs×Nat))(mk:Int)(i:Nat)(hil:i<s.length)(hwi:IntKind.i64.wrap ((i:Int)+1)=(i:Int)+1)(hsl:s.length<100000000)(hvd:∀x:Bs,x.length≤4*s.length→∀H,call 36 [.s x] H=.val (.b (Lib.validD x)) H)
 (hesc:∀i:Nat,i<s.length→∀H,call 85 [.s s,.i .i64 i] H=.val (zls (esc i)) H)(hej:∀(i:Nat)(tx:Bs)(j:Nat),i<s.length→esc i=some (tx,j)→i<j∧j≤s.length∧tx.length≤4)  : zaV prog TT 60 [.s s,.i .i64 i,.i .u8 mk] (fun r=>r=.val (zxA (zoD s esc mk (s.length+1) (i+1) []))):=by
 apply zaA.is;refine zaA.sym zaf hC (fn:=f60) rfl rfl (by simp[f60]) zyY (by kernel_rfl) [.us s,.ui (i:Nat),.ui mk,.uh []] rfl ⟨by rw[zag];rfl,by rw[zag];rfl,by rw[zag];rfl,trivial⟩ rfl (zaC _ _) ?_;simp -implicitDefEqProofs only[VC,isR,exU,Ask.den,E.den,O1.den,O2.den,O3.den,SH.den,zat,za9,bD,SB.den,zai,LQ,uu,uW,jOa,jUa,jDa];rw[hwi];intro t hw t0 t1 t2 t9;exact Tri.symLoop rfl (zu1 hC s esc mk hsl hvd hesc hej (s.length+1) (i+1) [] t _ (by omega) (by omega) (by simp) hw t0 (by rw[t1];rfl) t2 t9)
def zkc (c:Int)(ok:Bool):Bs→Bs→Option (Bs)
 |x::xs,y::ys=>if((c==(x.toNat:Int))&&ok)=true then some [y]else zkc c ok xs ys
 |_,_=>none
def zkq (s:Bs)(i:Nat):Nat→Nat→Int→Option Int
 |0,_,n=>some n
 |m+1,k,n=>if zby (atR s (i+2+k)) 16<0 then none else zkq s i m (k+1) (n*16+zby (atR s (i+2+k)) 16)
theorem zpu:∀c:Int,0≤c→c<256→zby c 16<16∧-1≤zby c 16:=fun c h0 h1=>by
 obtain⟨k,rfl,hk⟩:=zek (p:=fun c=>decide (zby (c:Int) 16<16∧-1≤zby (c:Int) 16)) (n:=256) (by decide +kernel) h0 h1;simpa using hk
def zlr (i m:Nat)(v:Int):Option (Bs×Nat):=
 if((((((m:Int)==0)||(((m:Int)==2)&&decide (127<v)))||decide (1114111<v)))||(decide (55296≤v)&&decide (v<57344)))=true then none else some (zdG [v],i+2+m)
theorem ztz {n:Int}(h1:-2147483648≤n)(h2:n<2147483648):IntKind.i32.wrap n=n:=by
 have e:(2:Int)^IntKind.i32.bits=4294967296:=rfl;have e2:(2:Int)^(IntKind.i32.bits-1)=2147483648:=rfl;simp only[IntKind.wrap,e,e2,IntKind.signed,jSd,jTa];split<;>omega
theorem zzG (v:Int)(H:zaa):zaE TT 95 1 [(0,.i .i32 v)] H=.val (.sl H.length 1 0 1 (some 1)) (H++[some {ty:=21,cells:=[.i .i32 v],kind:=.all}]):=by
 have e1:TT.und 95=some (.slice 21):=rfl;have e2:TT.size 21=some 1:=rfl;have e3:TT.zero 21=some (.i .i32 0):=rfl;simp only[zaE,e1,e2,e3];simp[zgo,zes,splice,zaX,V.cells]
theorem zzI (v:Int)(H:zaa):zaT TT 95 9 (.sl H.length 1 0 1 (some 1)) (H++[some {ty:=21,cells:=[.i .i32 v],kind:=.all}])=.val (.s (zdG [v])) (H++[some {ty:=21,cells:=[.i .i32 v],kind:=.all}]):=by
 have e1:TT.und 95=some (.slice 21):=rfl;have e2:TT.und 9=some .string:=rfl;have e3:TT.und 21=some (.int .i32):=rfl;simp only[zaT,e1,e2,e3];simp[zap,cut,ziq]
def zzP:Option (Bs×Nat)→Bs×Int×Bool
 |some p=>(p.1,p.2,true)
 |none=>([],0,false)
def zd0 (c:Int):Nat:=if(c==120)=true then 2 else if(c==117)=true then 4 else if(c==85)=true then 6 else 0
def znP:Bs:=[110,116,114,48,92,34,39]
def znO:Bs:=[10,9,13,0,92,34,39]
def zoA (s:Bs)(i:Nat):Option (Bs×Nat):=
 match zkc (atR s (i+1)) (decide ((i:Int)+1<s.length)) znP znO with
 |some t=>some (t,i+2)
 |none=>match zkq s i (zd0 (atR s (i+1))) 0 0 with
  |none=>none
  |some v=>zlr i (zd0 (atR s (i+1))) v
theorem zuL (r:Option (Bs×Nat)):zls r=.tup [.s (zzP r).1,.i .i64 (zzP r).2.1,.b (zzP r).2.2]:=by cases r<;>rfl
theorem zyP:zaQ TT shf f85.ntmps [] (zae f85) [] ⟨[(0,.f1 .vs (.va 0)),(1,.f1 (.vi .i64) (.va 1))],⟨.va 2,[],[]⟩,3,[]⟩ (KF TT f85 [0,1,7,8,9])=.leaf (.stop [tt,tt,tt,ff,tt,ff]) [(0,xs v0),(1,xi v1),(7,xs (.cs [110,116,114,48,92,34,39])),(8,xs (.cs [10,9,13,0,92,34,39])),(9,xi c0)] ⟨v2,[],[]⟩:=by kernel_rfl
theorem zt3:goT TT shf f85.ntmps [] [tt,tt,tt,ff,tt,ff,ff] (zae f85) [] ⟨[(0,.f1 .vs (.va 0)),(1,.f1 (.vi .i64) (.va 1)),(7,.f1 .vs (.cs [110,116,114,48,92,34,39])),(8,.f1 .vs (.cs [10,9,13,0,92,34,39])),(9,.f1 (.vi .i64) (.va 2))],⟨.va 3,[],[]⟩,4,[]⟩ (KF TT f85 [0,1,7,8,9,10,11,12])=let qh:E:=xs v0;let qg:E:=x2 qh (xi (xw (xa v1 c1)));let qb:E:=.cs [110,116,114,48,92,34,39];let qf:E:=xw (xa v2 c1);let qc:E:=.cs [10,9,13,0,92,34,39];let qd:SH:=⟨v3,[],[]⟩;let qi:E:=xi v1;let qj:E:=xs qb;let qk:E:=xs qc;let qa:Tree:=.leaf (.again [tt,tt,tt,ff,tt,ff,ff]) [(0,qh),(1,qi),(7,qj),(8,qk),(9,xi qf)] qd;let qe:E:=xi c0;.ite (xL v2 (xc 7)) (.asks (.call 64 qg) [.i] (xu v4) (.need (xE c0 v2) (.ite (xe v4 (xA qb v2)) (.ite (xL (xw (xa v1 c1)) (xl v0)) (.need (xE v2 qf) (.need (xE qf (xc 7)) (.fin (xt (x3 (xs (.f3 .sub qc v2 qf)) (xi (xw (xa v1 c2))) (xb (.cb true)))) qd))) qa) qa)) (.stuck 0)) (.asks (.call 64 qg) [.i] (xu v4) (.ite (xe v4 (xc 120)) (.leaf (.stop [tt,tt,tt,tt,tt,tt,tt,ff,tt,ff]) [(0,qh),(1,qi),(7,qj),(8,qk),(9,xi v2),(10,xi c2),(11,qe),(12,qe)] qd) (.ite (xe v4 (xc 117)) (.leaf (.stop [tt,tt,tt,tt,tt,tt,tt,ff,tt,ff]) [(0,qh),(1,qi),(7,qj),(8,qk),(9,xi v2),(10,xi (xc 4)),(11,qe),(12,qe)] qd) (.ite (xe v4 (xc 85)) (.leaf (.stop [tt,tt,tt,tt,tt,tt,tt,ff,tt,ff]) [(0,qh),(1,qi),(7,qj),(8,qk),(9,xi v2),(10,xi (xc 6)),(11,qe),(12,qe)] qd) (.leaf (.stop [tt,tt,tt,tt,tt,tt,tt,ff,tt,ff]) [(0,qh),(1,qi),(7,qj),(8,qk),(9,xi v2),(10,qe),(11,qe),(12,qe)] qd)))) (.stuck 0)):=by kernel_rfl
theorem zt4:goT TT shf f85.ntmps [26] [tt,tt,tt,tt,tt,tt,tt,ff,tt,ff,ff] (zae f85) [] ⟨[(0,.f1 .vs (.va 0)),(1,.f1 (.vi .i64) (.va 1)),(10,.f1 (.vi .i64) (.va 2)),(11,.f1 (.vi .i64) (.va 3)),(12,.f1 (.vi .i64) (.va 4))],⟨.va 5,[],[]⟩,6,[]⟩ (KF TT f85 [0,1,10,11,12])=let qd:SH:=⟨v5,[],[]⟩;let qb:Tree:=.fin (xt (x3 (xs (.cs [])) (xi c0) (xb (.cb false)))) qd;let qc:Tree:=.leaf (.stop [tt,tt,tt,tt,tt,tt,tt,tt,tt,ff]) [(0,xs v0),(1,xi v1),(10,xi v2),(11,xi v3),(12,xi v4)] qd;let qa:Tree:=.ite (xG v3 (xc 1114111)) qb (.ite (xH v3 (xc 55296)) (.ite (xL v3 (xc 57344)) qb qc) qc);.ite (xL v4 v2) (.asks (.call 64 (x2 (xs v0) (xi (xw (xa (xw (xa v1 c2)) v4))))) [.i] (xu v6) (.asks (.call 57 (x2 (xu v6) (xi (xc 16)))) [.i] (xi v7) (.ite (xL v7 c0) qb (.leaf (.again [tt,tt,tt,tt,tt,tt,tt,ff,tt,ff,ff]) [(0,xs v0),(1,xi v1),(10,xi v2),(11,xi (xw (xa (xw (.f2 .mul v3 (xc 16))) v7))),(12,xi (xw (xa v4 c1)))] qd)) (.stuck 0)) (.stuck 0)) (.ite (xe v2 c0) qb (.ite (xe v2 c2) (.ite (xG v3 (xc 127)) qb qa) qa)):=by kernel_rfl
theorem zxD {call:zad}(hC:call.Sound prog TT){i m:Nat}{v:Int}{t:Tm}{H:zaa}{Q:Out→Prop}(hi:i<1000000000)(hm:m≤6)(hv0:0≤v)(hv1:v<16777216)(hw:t.wid=f85.ntmps)(h1:t.get 1=.i .i64 (i:Nat))(h10:t.get 10=.i .i64 (m:Nat))(h11:t.get 11=.i .i64 v)
 (hQ:∀(t':Tm)(H':zaa),t'.get 4=.s (zdG [v])→t'.get 5=.i .i64 ((i+2+m:Nat):Int)→t'.get 6=.b true→Q (.norm t' H')):Tri prog TT (sub [tt,tt,tt,tt,tt,tt,tt,tt,tt,ff] (zae f85)) t H Q:=by
 have hw0:t.wid=100:=hw;have hw1:IntKind.i64.wrap ((i:Int)+2)=(i:Int)+2:=zaj (by omega) (by omega);have hw2:IntKind.i64.wrap ((i:Int)+2+m)=(i:Int)+2+m:=zaj (by omega) (by omega);have hw3:IntKind.i32.wrap v=v:=ztz (by omega) (by omega);have hF:=ai @h1 (ai @h10 (ai @h11 (ai @hw1 (ai @hw2 @hw3))));refine Tri.regN (t':=?t1) (H':=?H1) zaf hC ?e1 ?q1;case e1=>
  refine zar ?_;iterate 2 refine zab rfl (by simp[hF]<;>rfl) (by rfl) (by simp[hw0]) ?_
  refine zab rfl (by simp[zzG]<;>rfl) (by rfl) (by simp[hw0]) ?_;refine zab rfl (by simp[zzI]<;>rfl) (by rfl) (by simp[hw0]) ?_;iterate 7 refine zab rfl (by simp[hF]<;>rfl) (by rfl) (by simp[hw0]) ?_
  exact zal
 exact hQ _ _ (by simp) (by simp) (by simp)
section
variable {call:zad}(hC:call.Sound prog TT)(s:Bs)(i:Nat)(hi:i<1000000000)(c2:∀(j:Nat) H,call 64 [.s s,.i .i64 j] H=.val (.i .u8 (atR s j)) H)(c3:∀c:Int,0≤c→c<256→∀H,call 57 [.i .u8 c,.i .i64 16] H=.val (.i .i64 (zby c 16)) H)
include hC hi c2 c3 in
theorem zsj (m:Nat) (hm:m≤6):∀(n k:Nat) (v:Int) (t:Tm) (H:zaa),k+n=m→0≤v→v<16^k→t.wid=f85.ntmps→t.get 0=.s s→t.get 1=.i .i64 (i:Nat)→t.get 10=.i .i64 (m:Nat)→t.get 11=.i .i64 v→t.get 12=.i .i64 (k:Nat) →
    ctx prog TT [tt,tt,tt,tt,tt,tt,tt,ff,tt,ff,ff] (zae f85) (zaF TT f85 (isR (.val (zls (match zkq s i n k v with|none=>none|some v=>zlr i m v))))) (.norm t H):=by
  intro n
  induction n with
  | zero =>
    intro k v t H hk hv0 hv1 hw t0 t1 t10 t11 t12
    have hp:(16:Int)^k≤16^6:=by exact_mod_cast Nat.pow_le_pow_right (by decide) (show k≤6 by omega)
    refine zaM.symIn (p:=[tt,tt,tt,tt,tt,tt,tt,ff,tt,ff]) zaf hC rfl zt4 (by kernel_rfl) [.us s,.ui (i:Nat),.ui (m:Nat),.ui v,.ui (k:Nat),.uh H] rfl hw ⟨t0,t1,t10,t11,t12,trivial⟩ rfl (zaC _ _) ?_
    clear t0 t1 t10 t11 t12 hw
    simp -implicitDefEqProofs only[VC,isR,exU,Ask.den,E.den,O1.den,O2.den,O3.den,SH.den,zat,za9,bD,SB.den,zai,LQ,uu,uW,jOa,jUa,jDa]
    simp only[zkq]
    have esc:∀w:Option (Bs×Nat),zlr i m v=w→∀{A:Option (Bs×Nat)→Prop},A w→A (zlr i m v):=fun w e A h=>by rw[e];exact h
    have bad:(m=0∨(m=2∧127<v)∨1114111<v∨(55296≤v∧v<57344))→(Res.val (zls (zlr i m v))=Res.val (.tup [.s [],.i .i64 0,.b false])):=fun h=>by
      unfold zlr
      rw[if_pos (by simp only[jNc,jMa,jOa,jTa];omega)]
      rfl
    have good:¬(m=0∨(m=2∧127<v)∨1114111<v∨(55296≤v∧v<57344))→∀(t:Tm) ,t.wid=f85.ntmps→t.get 0=.s s→t.get 1=.i .i64 (i:Nat)→t.get 10=.i .i64 (m:Nat)→t.get 11=.i .i64 v→t.get 12=.i .i64 (k:Nat) →
        Tri prog TT (sub [tt,tt,tt,tt,tt,tt,tt,tt,tt,ff] (zae f85)) t H (ctx prog TT [tt,tt,tt,tt,tt,tt,tt,tt,tt,ff] (zae f85) (zaF TT f85 (isR (.val (zls (zlr i m v)))))):=fun h t hw f0 f1 f10 f11 f12=>by
      have e:zlr i m v=some (zdG [v],i+2+m):=by
        unfold zlr
        rw[if_neg (by simp only[jNc,jMa,jOa,jTa];omega)]
      rw[e]
      refine zxD hC hi hm hv0 (by omega) hw f1 f10 f11 fun t' H' g4 g5 g6=>?_
      show Tri prog TT .ret t' H' (ctx prog TT [tt,tt,tt,tt,tt,tt,tt,tt,tt,tt] (zae f85) _)
      apply Tri.ret
      exact zlh _ _ _ ⟨_,rfl,by simp[f85,g4,g5,g6,zls]⟩
    refine ⟨fun h=>absurd h (by omega),fun _=>⟨fun a=>bad (.inl (by omega)),fun a=>⟨fun b=>⟨fun c=>bad (.inr (.inl ⟨by omega,c⟩)),fun c=>⟨fun d=>bad (.inr (.inr (.inl d))),fun d=>⟨fun e=>⟨fun f=>bad (.inr (.inr (.inr ⟨e,f⟩))),fun f=>good (by omega)⟩,fun e=>good (by omega)⟩⟩⟩,
      fun b=>⟨fun d=>bad (.inr (.inr (.inl d))),fun d=>⟨fun e=>⟨fun f=>bad (.inr (.inr (.inr ⟨e,f⟩))),fun f=>good (by omega)⟩,fun e=>good (by omega)⟩⟩⟩⟩⟩
  | succ n ih=>
    intro k v t H hk hv0 hv1 hw t0 t1 t10 t11 t12
    have hp:(16:Int)^k≤16^6:=by exact_mod_cast Nat.pow_le_pow_right (by decide) (show k≤6 by omega)
    refine zaM.symIn (p:=[tt,tt,tt,tt,tt,tt,tt,ff,tt,ff]) zaf hC rfl zt4 (by kernel_rfl) [.us s,.ui (i:Nat),.ui (m:Nat),.ui v,.ui (k:Nat),.uh H] rfl hw ⟨t0,t1,t10,t11,t12,trivial⟩ rfl (zaC _ _) ?_
    clear t0 t1 t10 t11 t12 hw
    simp -implicitDefEqProofs only[VC,isR,exU,Ask.den,E.den,O1.den,O2.den,O3.den,SH.den,zat,za9,bD,SB.den,zai,LQ,uu,uW,jOa,jUa,jDa]
    have hr:=zbY s (i+2+k)
    have hd:=zpu (atR s (i+2+k)) hr.1 hr.2
    have w1:IntKind.i64.wrap ((i:Int)+2)=(i:Int)+2:=zaj (by omega) (by omega)
    have w2:IntKind.i64.wrap ((i:Int)+2+k)=((i+2+k:Nat):Int):=by rw[zaj (by omega) (by omega)];omega
    have w3:IntKind.i64.wrap ((k:Int)+1)=((k+1:Nat):Int):=by rw[zaj (by omega) (by omega)];omega
    have w4:IntKind.i64.wrap (v*16)=v*16:=zaj (by omega) (by omega)
    have w5:IntKind.i64.wrap (v*16+zby (atR s (i+2+k)) 16)=v*16+zby (atR s (i+2+k)) 16:=zaj (by omega) (by omega)
    rw[w1,w2,w3,w4]
    refine⟨fun _=>.inl ⟨_,c2 (i+2+k),.inl ⟨_,c3 _ hr.1 hr.2,fun h=>?_,fun h t hw f0 f1 f10 f11 f12=>?_⟩⟩,fun h=>absurd (show((k:Nat):Int)<(m:Nat)by omega) h⟩
    · simp only[zkq]
      rw[if_pos h]
      rfl
    · have e:zkq s i (n+1) k v=zkq s i n (k+1) (v*16+zby (atR s (i+2+k)) 16):=by
        simp only[zkq]
        rw[if_neg h]
      rw[e]
      exact ih (k+1) _ t H (by omega) (by omega) (by rw[Int.pow_succ];omega) hw f0 f1 f10 (by rw[f11,w5]) f12
include hC hi c2 c3 in
theorem zsi:∀(n k:Nat) (t:Tm) (H:zaa),k+n=7→t.wid=f85.ntmps→t.get 0=.s s→t.get 1=.i .i64 (i:Nat)→t.get 7=.s znP→t.get 8=.s znO→t.get 9=.i .i64 (k:Nat) →
    ctx prog TT [tt,tt,tt,ff,tt,ff,ff] (zae f85) (zaF TT f85 (isR (.val (zls (match zkc (atR s (i+1)) (decide ((i:Int)+1<s.length)) (znP.drop k) (znO.drop k)with
      |some t=>some (t,i+2)
      | none=>match zkq s i (zd0 (atR s (i+1))) 0 0 with
        |none=>none
        |some v=>zlr i (zd0 (atR s (i+1))) v))))) (.norm t H):=by
  have w1:IntKind.i64.wrap ((i:Int)+1)=((i+1:Nat):Int):=by rw[zaj (by omega) (by omega)];omega
  have w2:IntKind.i64.wrap ((i:Int)+2)=((i+2:Nat):Int):=by rw[zaj (by omega) (by omega)];omega
  intro n
  induction n with
  | zero =>
    intro k t H hk hw t0 t1 t7 t8 t9
    refine zaM.symIn (p:=[tt,tt,tt,ff,tt,ff]) zaf hC rfl zt3 (by kernel_rfl) [.us s,.ui (i:Nat),.ui (k:Nat),.uh H] rfl hw ⟨t0,t1,t7,t8,t9,trivial⟩ rfl (zaC _ _) ?_
    clear t0 t1 t7 t8 t9 hw
    simp -implicitDefEqProofs only[VC,isR,exU,Ask.den,E.den,O1.den,O2.den,O3.den,SH.den,zat,za9,bD,SB.den,zai,LQ,uu,uW,jOa,jUa,jDa]
    have hk7:k=7:=by omega
    subst hk7
    rw[w1]
    refine⟨fun h=>absurd h (by decide),fun _=>.inl ⟨_,c2 (i+1),?_⟩⟩
    generalize atR s (i+1)=c
    have e:zkc c (decide ((i:Int)+1<s.length)) (znP.drop 7) (znO.drop 7)=none:=rfl
    rw[e]
    have go:∀m:Nat,m≤6→zd0 c=m→∀t:Tm,t.wid=f85.ntmps→t.get 0=.s s→t.get 1=.i .i64 (i:Nat)→t.get 10=.i .i64 (m:Nat)→t.get 11=.i .i64 0→t.get 12=.i .i64 0 →
        Tri prog TT (sub [tt,tt,tt,tt,tt,tt,tt,ff,tt,ff] (zae f85)) t H (ctx prog TT [tt,tt,tt,tt,tt,tt,tt,ff,tt,ff] (zae f85) (zaF TT f85 (isR (.val (zls (match zkq s i (zd0 c) 0 0 with|none=>none|some v=>zlr i (zd0 c) v)))))):=fun m hm e t hw f0 f1 f10 f11 f12=>by
      rw[e]
      exact Tri.symLoop rfl (zsj hC s i hi c2 c3 m hm m 0 0 t H (by omega) (by omega) (by decide) hw f0 f1 f10 f11 f12)
    refine⟨fun h t hw f0 f1 f7 f8 f9 f10 f11 f12=>go 2 (by omega) (by simp[zd0,h]) t hw f0 f1 f10 f11 f12,fun h=>⟨fun h' t hw f0 f1 f7 f8 f9 f10 f11 f12=>go 4 (by omega) (by simp[zd0,h,h']) t hw f0 f1 f10 f11 f12,fun h'=>⟨fun h'' t hw f0 f1 f7 f8 f9 f10 f11 f12=>go 6 (by omega) (by simp[zd0,h,h',h'']) t hw f0 f1 f10 f11 f12,fun h'' t hw f0 f1 f7 f8 f9 f10 f11 f12=>go 0 (by omega) (by simp[zd0,h,h',h'']) t hw f0 f1 f10 f11 f12⟩⟩⟩
  | succ n ih=>
    intro k t H hk hw t0 t1 t7 t8 t9
    refine zaM.symIn (p:=[tt,tt,tt,ff,tt,ff]) zaf hC rfl zt3 (by kernel_rfl) [.us s,.ui (i:Nat),.ui (k:Nat),.uh H] rfl hw ⟨t0,t1,t7,t8,t9,trivial⟩ rfl (zaC _ _) ?_
    clear t0 t1 t7 t8 t9 hw
    simp -implicitDefEqProofs only[VC,isR,exU,Ask.den,E.den,O1.den,O2.den,O3.den,SH.den,zat,za9,bD,SB.den,zai,LQ,uu,uW,jOa,jUa,jDa]
    have w3:IntKind.i64.wrap ((k:Int)+1)=((k+1:Nat):Int):=by rw[zaj (by omega) (by omega)];omega
    rw[w1,w2,w3]
    simp only[jCa]
    obtain ⟨x,y,e1,e2,e3,e4⟩:∃x y:UInt8,znP.drop k=x::znP.drop (k+1)∧znO.drop k=y::znO.drop (k+1)∧atS [110,116,114,48,92,34,39] (k:Nat)=x.toNat∧(([10,9,13,0,92,34,39]:Bs).take (k+1)).drop k=[y]:=by
      have:k=0∨k=1∨k=2∨k=3∨k=4∨k=5∨k=6:=by omega
      rcases this with rfl|rfl|rfl|rfl|rfl|rfl|rfl<;>exact⟨_,_,rfl,rfl,rfl,rfl⟩
    rw[e1,e2,e3,e4]
    have go : ((atR s (i+1)==(x.toNat:Int))&&decide ((i:Int)+1<s.length))=false→∀t:Tm,t.wid=f85.ntmps→t.get 0=.s s→t.get 1=.i .i64 (i:Nat)→t.get 7=.s [110,116,114,48,92,34,39]→t.get 8=.s [10,9,13,0,92,34,39]→t.get 9=.i .i64 ((k+1:Nat):Int) →
        ctx prog TT [tt,tt,tt,ff,tt,ff,ff] (zae f85) (zaF TT f85 (isR (.val (zls (match zkc (atR s (i+1)) (decide ((i:Int)+1<s.length)) (x::znP.drop (k+1)) (y::znO.drop (k+1))with
          |some t=>some (t,i+2)
          | none=>match zkq s i (zd0 (atR s (i+1))) 0 0 with
            |none=>none
            |some v=>zlr i (zd0 (atR s (i+1))) v))))) (.norm t H):=fun h t hw f0 f1 f7 f8 f9=>by
      have e:zkc (atR s (i+1)) (decide ((i:Int)+1<s.length)) (x::znP.drop (k+1)) (y::znO.drop (k+1))=zkc (atR s (i+1)) (decide ((i:Int)+1<s.length)) (znP.drop (k+1)) (znO.drop (k+1)):=by
        rw[zkc,if_neg (by rw[h];decide)]
      rw[e]
      exact ih (k+1) t H (by omega) hw f0 f1 f7 f8 f9
    refine⟨fun _=>.inl ⟨_,c2 (i+1),by omega,fun hx=>⟨fun hl=>⟨by omega,by omega,?_⟩,fun hl=>go (by rw[jNb (by omega),Bool.and_false])⟩,fun hx=>go (by rw[jDa.2 hx,Bool.false_and])⟩,fun h=>absurd h (by omega)⟩
    rw[zkc,if_pos (by rw[hx,jVb (by omega)];simp)]
    rfl
include hC hi c2 c3 in
theorem znB:zaV prog TT 85 [.s s,.i .i64 i] (fun r=>r=.val (zls (zoA s i))):=by
 apply zaA.is;refine zaA.sym zaf hC (fn:=f85) rfl rfl (by simp[f85]) zyP (by kernel_rfl) [.us s,.ui (i:Nat),.uh []] rfl ⟨by rw[zag];rfl,by rw[zag];rfl,trivial⟩ rfl (zaC _ _) ?_;simp -implicitDefEqProofs only[VC,isR,exU,Ask.den,E.den,O1.den,O2.den,O3.den,SH.den,zat,za9,bD,SB.den,zai,LQ,uu,uW,jOa,jUa,jDa];intro t hw t0 t1 t7 t8 t9;exact Tri.symLoop rfl (zsi hC s i hi c2 c3 7 0 t _ rfl hw t0 t1 t7 t8 t9)
end
theorem zo0 {call:zad}(hC:call.Sound prog TT)(s:Bs)(i:Nat)(hi:i<1000000000)(hwi1:IntKind.i64.wrap ((i:Int)+1)=(i:Int)+1)(c2a:∀H,call 64 [.s s,.i .i64 ((i:Int)+1)] H=.val (.i .u8 (atR s (i+1))) H)(c2:∀(j:Nat) H,call 64 [.s s,.i .i64 j] H=.val (.i .u8 (atR s j)) H)(c3:∀c:Int,0≤c→c<256→∀H,call 57 [.i .u8 c,.i .i64 16] H=.val (.i .i64 (zby c 16)) H)  : zaV prog TT 85 [.s s,.i .i64 i] (fun r=>r=.val (zls (zoA s i))):=by
 exact znB hC s i hi c2 c3
end Go.Ev
-- no T33
namespace Go.Ev
open Go Go.Proofs
set_option maxRecDepth 1000000
set_option linter.unusedVariables false
theorem zkd {c:Int}{ok:Bool}:∀{l l' r:Bs},zkc c ok l l'=some r→ok=true∧r.length=1
 |x::xs,y::ys,r,h=>by
  simp only[zkc]at h;split at h
  ·rename_i hc;simp only[jMa]at hc;cases h;exact⟨hc.2,rfl⟩
  ·exact zkd h
 | [],_,r,h=>by simp[zkc]at h
 |_::_,[],r,h=>by simp[zkc]at h
theorem zuk {s:Bs}{i:Nat}(h:s.length≤i):atR s i=0:=by simp[atR,jGc h]
theorem zp2 {s:Bs}{i:Nat}:∀(m k:Nat)(v v':Int),zkq s i m k v=some v'→0<m→i+2+k+m≤s.length
 |0,k,v,v',h,h0=>by omega
 |m+1,k,v,v',h,h0=>by
  simp only[zkq]at h;split at h
  ·cases h
  ·rename_i hd;by_cases hm:m=0
   ·subst hm;by_cases hl:i+2+k<s.length
    ·omega
    ·rw[zuk (by omega)]at hd;exact absurd (by decide) hd
   ·have:=zp2 m (k+1) _ v' h (by omega);omega
theorem zkL (v:Int):(zdG [v]).length≤4:=by
 have h:=foldl_size_le [v] ByteArray.empty;have e:(zdG [v]).length=(([v]:List Int).foldl (fun r n=>r++Utf8.encode n) ByteArray.empty).size:=by
  unfold zdG;rw[Array.length_toList];rfl
 rw[e];exact h
theorem zpF {s:Bs}{i:Nat}{tx:Bs}{j:Nat}(hi:i<s.length)(h:zoA s i=some (tx,j)):i<j∧j≤s.length∧tx.length≤4:=by
 unfold zoA at h;split at h
 ·rename_i t ht;obtain⟨h1,h2⟩:=zkd ht;simp only[jTa]at h1;cases h;omega
 ·split at h
  ·cases h
  ·rename_i v hv;unfold zlr at h;split at h
   ·cases h
   ·rename_i hc;cases h;have hm:0<zd0 (atR s (i+1)):=by
     rcases Nat.eq_zero_or_pos (zd0 (atR s (i+1)))with h0|h0
     ·rw[h0]at hc;simp at hc
     ·exact h0
    have:=zp2 _ _ _ _ hv hm;exact⟨by omega,by omega,zkL v⟩
theorem zx3:∃g,zak Tryz.prog TT 85 g∧∀(s:Bs)(i:Nat),i<100000000→∀H,g [.s s,.i .i64 i] H=.val (zls (zoA s i)) H:=by
 obtain⟨g2,k2,s2⟩:=zkR;obtain⟨g3,k3,s3⟩:=zkS;obtain⟨g,k,s⟩:=zbd zaf zao 85 (fun p:Bs×Nat=>[.s p.1,.i .i64 p.2]) (fun p=>p.2<100000000) (fun p=>zls (zoA p.1 p.2)) (fun p _=>by simp[nlL,nl]) (fun p=>by rw[zuL];rfl) (fun a b h=>by
  simp only[jPa,V.s.injEq,V.i.injEq,jLb,jGb]at h;rw[h.1,show a.2=b.2 from by omega]) (fun p hp=>by
  obtain⟨s,i⟩:=p;simp only at hp ⊢;have hC:=ws (ws n0 k2) k3;generalize hc:(zad.none.with 64 g2).with 57 g3=call at hC;have c2:∀(j:Nat) H,call 64 [.s s,.i .i64 j] H=.val (.i .u8 (atR s j)) H:=fun j H=>by rw[←hc,zac _ _ _ _ rfl,zan];exact s2 _ _ H
  have c3:∀c:Int,0≤c→c<256→∀H,call 57 [.i .u8 c,.i .i64 16] H=.val (.i .i64 (zby c 16)) H:=fun c a b H=>by rw[←hc,zan];exact s3 c 16 a b (by simp) H
  exact zaV.of1 (zo0 hC s i (by omega) (zaj (by omega) (by omega)) (fun H=>c2 (i+1) H) c2 c3))
 exact⟨g,k,fun s' i h H=>s (s',i) h H⟩
def zig (s:Bs)(mk:Int)(i:Nat):Option (Bs×Nat):=zoD s (zoA s) mk (s.length+1) (i+1) []
theorem zxY:∃g,zak Tryz.prog TT 60 g∧∀(s:Bs)(i:Nat)(mk:Int),s.length<20000000→i<s.length→∀H,g [.s s,.i .i64 i,.i .u8 mk] H=.val (zxA (zig s mk i)) H:=by
 obtain⟨g2,k2,s2⟩:=zx3;obtain⟨g3,k3,s3⟩:=zht;obtain⟨g,k,s⟩:=zbd zaf zao 60 (fun p:Bs×Nat×Int=>[.s p.1,.i .i64 p.2.1,.i .u8 p.2.2]) (fun p=>p.1.length<20000000∧p.2.1<p.1.length) (fun p=>zxA (zig p.1 p.2.2 p.2.1)) (fun p _=>by simp[nlL,nl]) (fun p=>by rw[zqt];rfl) (fun a b h=>by
  simp only[jPa,V.s.injEq,V.i.injEq,jLb,jGb]at h;rw[h.1,show a.2.1=b.2.1 from by omega,h.2.2]) (fun p hp=>by
  obtain⟨s,i,mk⟩:=p;simp only at hp ⊢;have hC:=ws (ws n0 k2) k3;generalize hc:(zad.none.with 85 g2).with 36 g3=call at hC;have c2:∀i:Nat,i<s.length→∀H,call 85 [.s s,.i .i64 i] H=.val (zls (zoA s i)) H:=fun j hj H=>by rw[←hc,zac _ _ _ _ rfl,zan];exact s2 _ _ (by omega) H
  have c3:∀x:Bs,x.length≤4*s.length→∀H,call 36 [.s x] H=.val (.b (Lib.validD x)) H:=fun x hx H=>by rw[←hc,zan];exact s3 x (by omega) H
  exact zaV.of1 (zoX hC s (zoA s) mk i hp.2 (zaj (by omega) (by omega)) (by omega) c3 c2 (fun i tx j h1 h2=>zpF h1 h2)))
 exact⟨g,k,fun s' i mk h1 h2 H=>s (s',i,mk) ⟨h1,h2⟩ H⟩
theorem zvr (s:Bs)(i:Nat):nl (zsW s i)=true:=by unfold zsW;split<;>rfl
theorem zxX:∃g,zak Tryz.prog TT 59 g∧∀(s:Bs)(i:Nat),s.length<20000000→i<s.length→∀H,g [.s s,.i .i64 i] H=.val (zsW s i) H:=by
 obtain⟨g3,k3,s3⟩:=zht;obtain⟨g,k,s⟩:=zbd zaf zao 59 (fun p:Bs×Nat=>[.s p.1,.i .i64 p.2]) (fun p=>p.1.length<20000000∧p.2<p.1.length) (fun p=>zsW p.1 p.2) (fun p _=>by simp[nlL,nl]) (fun p=>zvr _ _) (fun a b h=>by
  simp only[jPa,V.s.injEq,V.i.injEq,jLb,jGb]at h;rw[h.1,show a.2=b.2 from by omega]) (fun p hp=>by
  obtain⟨s,i⟩:=p;simp only at hp ⊢;have hC:=ws n0 k3;generalize hc:zad.none.with 36 g3=call at hC;have c3:∀x:Bs,x.length<100000000→∀H,call 36 [.s x] H=.val (.b (Lib.validD x)) H:=fun x hx H=>by rw[←hc,zan];exact s3 x hx H
  exact zaV.of1 (zoW hC s i (by omega) (by omega) (zaj (by omega) (by omega)) c3))
 exact⟨g,k,fun s' i h1 h2 H=>s (s',i) ⟨h1,h2⟩ H⟩
end Go.Ev
namespace Go.Proofs
def Tryz.laysM171_ren:Go.Shelf.Ren:=⟨fun|171=>61|243=>86|246=>104|283=>117|284=>118|285=>119|286=>120|129=>129|317=>128|318=>130|319=>131|320=>132|337=>139|338=>140|n=>n,fun|3=>3|9=>9|2=>2|4=>4|171=>174|0=>0|53=>119|37=>64|5=>5|173=>177|212=>196|51=>125|20=>20|213=>197|46=>72|232=>225|233=>226|n=>n,fun|17=>8|18=>9|19=>10|n=>n⟩
theorem Tryz.laysM171:Go.Proofs.LaysM.n171 Tryz.prog Tryz.laysM171_ren:={
 mixed:=by kernel_rfl
 f129:=Tryz.func129.trans (congrArg some (by kernel_rfl))
 f171:=Tryz.func61.trans (congrArg some (by kernel_rfl))
 f243:=Tryz.func86.trans (congrArg some (by kernel_rfl))
 f246:=Tryz.func104.trans (congrArg some (by kernel_rfl))
 f283:=Tryz.func117.trans (congrArg some (by kernel_rfl))
 f284:=Tryz.func118.trans (congrArg some (by kernel_rfl))
 f285:=Tryz.func119.trans (congrArg some (by kernel_rfl))
 f286:=Tryz.func120.trans (congrArg some (by kernel_rfl))
 f317:=Tryz.func128.trans (congrArg some (by kernel_rfl))
 f318:=Tryz.func130.trans (congrArg some (by kernel_rfl))
 f319:=Tryz.func131.trans (congrArg some (by kernel_rfl))
 f320:=Tryz.func132.trans (congrArg some (by kernel_rfl))
 f337:=Tryz.func139.trans (congrArg some (by kernel_rfl))
 f338:=Tryz.func140.trans (congrArg some (by kernel_rfl))
 t0:=Tryz.underlying0
 a0:=Tryz.isAgg0
 z0:=Tryz.sizeOf0
 v0:=Tryz.zeroValue0
 t2:=Tryz.underlying2
 a2:=Tryz.isAgg2
 z2:=Tryz.sizeOf2
 v2:=Tryz.zeroValue2
 t3:=Tryz.underlying3
 a3:=Tryz.isAgg3
 z3:=Tryz.sizeOf3
 v3:=Tryz.zeroValue3
 t4:=Tryz.underlying4
 a4:=Tryz.isAgg4
 z4:=Tryz.sizeOf4
 v4:=Tryz.zeroValue4
 t5:=Tryz.underlying5
 a5:=Tryz.isAgg5
 z5:=Tryz.sizeOf5
 v5:=Tryz.zeroValue5
 t9:=Tryz.underlying9
 a9:=Tryz.isAgg9
 z9:=Tryz.sizeOf9
 v9:=Tryz.zeroValue9
 t20:=Tryz.underlying20
 a20:=Tryz.isAgg20
 z20:=Tryz.sizeOf20
 v20:=Tryz.zeroValue20
 t37:=Tryz.underlying64
 a37:=Tryz.isAgg64
 z37:=Tryz.sizeOf64
 v37:=Tryz.zeroValue64
 t46:=Tryz.underlying72
 a46:=Tryz.isAgg72
 z46:=Tryz.sizeOf72
 v46:=Tryz.zeroValue72
 t51:=Tryz.underlying125
 a51:=Tryz.isAgg125
 z51:=Tryz.sizeOf125
 v51:=Tryz.zeroValue125
 t53:=Tryz.underlying119
 a53:=Tryz.isAgg119
 z53:=Tryz.sizeOf119
 v53:=Tryz.zeroValue119
 t171:=Tryz.underlying174
 a171:=Tryz.isAgg174
 z171:=Tryz.sizeOf174
 v171:=Tryz.zeroValue174
 t173:=Tryz.underlying177
 a173:=Tryz.isAgg177
 z173:=Tryz.sizeOf177
 v173:=Tryz.zeroValue177
 t212:=Tryz.underlying196
 a212:=Tryz.isAgg196
 z212:=Tryz.sizeOf196
 v212:=Tryz.zeroValue196
 t213:=Tryz.underlying197
 a213:=Tryz.isAgg197
 z213:=Tryz.sizeOf197
 t232:=Tryz.underlying225
 a232:=Tryz.isAgg225
 z232:=Tryz.sizeOf225
 v232:=Tryz.zeroValue225
 t233:=Tryz.underlying226
 a233:=Tryz.isAgg226
 z233:=Tryz.sizeOf226
 v233:=Tryz.zeroValue226
 g17:=by kernel_rfl
 g18:=by kernel_rfl
 g19:=by kernel_rfl
 i0:=by kernel_rfl
 i2:=by kernel_rfl
 i3:=by kernel_rfl
 i4:=by kernel_rfl
 i5:=by kernel_rfl
 i9:=by kernel_rfl
 i20:=by kernel_rfl
 i37:=by kernel_rfl
 i46:=by kernel_rfl
 i51:=by kernel_rfl
 i53:=by kernel_rfl
 i171:=by kernel_rfl
 i173:=by kernel_rfl
 i212:=by kernel_rfl
 i232:=by kernel_rfl
 i233:=by kernel_rfl
 m17:=by kernel_rfl
 m18:=by kernel_rfl
 m19:=by kernel_rfl}
end Go.Proofs
namespace Go.Ev
open Go Go.Proofs
open Go.RowKit (Below)
set_option maxRecDepth 100000
def zeC:List V→zaa→OR
 | [.i .i64 n],H=>if -9223372036854775808≤n∧n≤9223372036854775807 then .val (.s (Lib.itoa n)) H else .no
 |_,_=>.no
theorem zma {M:Mem} {ρ:Ren} {H:zaa} {w:World} (hS:SR TT M ρ H w):Lib.TabIs Tryz.prog w "internal/strconv.uint64pow10" .u64 Lib.pow10Tab:=by
  obtain⟨cs,ty,fr,hM,hr⟩:=hS.glob 8 _ rfl
  have hw:=hS.frozen _ _ hM
  have hg:Tryz.prog.globalNamed "internal/strconv.uint64pow10" = some 8:=by kernel_rfl
  unfold Lib.TabIs World.var?
  rw[hg]
  simp only[Option.bind_some,hw]
  congr 2
  have key:∀(l:List Int) (cs:List Value),relL M ρ (l.map fun z=>V.i .u64 z) cs→cs=l.map fun z=>Value.int .u64 z:=by
    intro l
    induction l with
    |nil=>intro cs h;simpa[relL]using h
    | cons z l ih=>
      intro cs h
      simp only[List.map_cons,relL,rel]at h
      obtain⟨x,r,rfl,rfl,hr⟩:=h
      rw[ih r hr]
      rfl
  refine key Lib.pow10Tab cs ?_
  have e:(Lib.pow10Tab.map fun z=>V.i .u64 z)=((List.range 20).map fun i=>V.i .u64 ((10^i:Nat):Int)):=by
    simp only[Lib.pow10Tab,List.map_map]
    rfl
  rw[e]
  exact hr
theorem zxm:zak Tryz.prog TT 61 zeC:=by
 intro vs H r h hne;unfold zeC at h;split at h
 ·rename_i H n;split at h
  ·rename_i hc;subst h;refine⟨zcl (f:=61) rfl rfl,fun M ρ w args hS hr=>?_⟩;have ha:args=[.int .i64 n]:=by
    simp only[relL,rel]at hr;obtain⟨x,r,rfl,rfl,rfl⟩:=hr;rfl
   rw[ha];refine zbk (x:=.string ⟨(Lib.itoa n).toArray⟩) hS ?_ (by simp only[rel]);refine(Any.strconv_Itoa Tryz.laysM171 n hc.1 hc.2 w (zma hS)).mono ?_;rintro e w' ⟨rfl,k,os,rfl⟩;exact⟨rfl,rfl,rfl,rfl,by simp[Sort.grow,World.drewN],fun j hj=>by simp only[Sort.grow,World.drewN];rw[Array.getElem?_append_left hj]⟩
  ·exact absurd h.symm hne
 ·exact absurd h.symm hne
theorem zez:∀u:Nat,∀b∈Lib.decDigits u,48≤b.toNat∧b.toNat≤57:=by
 intro u;rw[Lib.decDigits_eq];intro b hb;obtain⟨t,_,rfl⟩:=List.mem_map.1 hb;simp only[Lib.dg];have:∀d,d<10→48≤(UInt8.ofNat (48+d)).toNat∧(UInt8.ofNat (48+d)).toNat≤57:=by decide
 exact this _ (Nat.mod_lt _ (by decide))
theorem zp4 (n:Int):∀b∈Lib.itoa n,b≠39:=by
 intro b hb h;subst h;unfold Lib.itoa at hb;split at hb
 ·rcases List.mem_cons.1 hb with h|h
  ·exact absurd h (by decide)
  ·exact absurd (zez _ _ h).1 (by decide)
 ·exact absurd (zez _ _ hb).1 (by decide)
end Go.Ev
namespace Go.Ev
open Go Go.Proofs
set_option linter.unusedSimpArgs false
set_option linter.unusedVariables false
set_option linter.unnecessarySimpa false
open Tryz List
set_option maxRecDepth 1000000
def zf6 (x:Bs):Int:=match x.getLast? with|some b=>b.toNat|none=>0
def okS (s:Bs)(i:Nat)(best x:Bs):Bool:=decide (best.length<x.length)&&(zdM s i x&&(!(zf0 (zf6 x)) || !(zcR (atR s (i+x.length)))))
def zk7 (s:Bs)(i:Nat):List (Bs)→Bs→Bs
 | [],best=>best
 |x::l,best=>zk7 s i l (if okS s i best x=true then x else best)
theorem zyV:zaQ TT shf f33.ntmps [17] (zae f33) [] ⟨[(0,.f1 .vs (.va 0)),(1,.f1 (.vi .i64) (.va 1))],⟨.va 2,[],[]⟩,3,[]⟩ (KF TT f33 [0,1,4,11,12,13,15,16])=let qi:E:=xs v0;let qj:E:=xi v1;let qt:E:=x2 qi qj;let qe:E:=xs (.f3 .sub v0 v1 v3);let qd:E:=xi c0;let qc:E:=xb (.cb false);let qr:E:=x4 (xi c2) qe qd qc;let qs:E:=x4 (xi c1) qe qd qc;let qf:Tree:=.stuck 0;let qu:E:=xA v0 v1;let qp:E:=x4 (xi v5) (xs v6) qd qc;let qh:E:=xt (x3 (xg qp) (xi v7) (xi v8));let qm:E:=x3 qi qj (xs (.cs [34,34,34]));let ql:E:=xt (x3 (xs v6) (xi v7) (xb v8));let qo:E:=x4 (xi (xc 5)) (xs v6) qd qc;let qb:E:=x4 qd (xs (.cs [])) qd qc;let qg:SH:=⟨v2,[],[xk 44 qb]⟩;let qk:Tree:=.fin (xt (x3 (xg qb) qd (xi (xc 31)))) qg;let qn:E:=x4 (xi (xc 5)) (xs v10) qd qc;let qa:Tree:=.asks (.call 59 qt) [.s,.i,.b] ql (.asks (.call 56 qm) [.b] (xb v9) (.ite v9 (.ite v8 (.fin (xt (x3 (xg qo) (xi v7) qd)) ⟨v2,[],[xk 44 qo]⟩) qk) (.asks (.call 60 (x3 qi qj (xu (xc 34)))) [.s,.i,.b] (xt (x3 (xs v10) (xi v11) (xb v12))) (.ite v12 (.fin (xt (x3 (xg qn) (xi v11) qd)) ⟨v2,[],[xk 44 qn]⟩) qk) qf)) qf) qf;let qq:E:=xp (xN (xh v2) (.cn 0));.asks (.call 41 qt) [.i] (xi v3) (.ite (xG v3 v1) (.asks (.call 22 .nil) [.l] (.f1 (.isl 1) v4) (.need (xE c0 v1) (.need (xE v1 v3) (.need (xE v3 (xl v0)) (.asks (.call 42 (x2 (.f1 (.isl 1) v4) qe)) [.b] (xb v5) (.ite v5 (.fin (xt (x3 (xg qr) (xi v3) qd)) ⟨v2,[],[xk 44 qr]⟩) (.fin (xt (x3 (xg qs) (xi v3) qd)) ⟨v2,[],[xk 44 qs]⟩)) qf)))) qf) (.need (xE c0 v1) (.need (xL v1 (xl v0)) (.asks (.call 57 (x2 (xu qu) (xi c10))) [.i] (xi v4) (.ite (xH v4 c0) (.asks (.call 58 qt) [.i,.s,.i,.i] qh (.fin qh ⟨v2,[],[xk 44 qp]⟩) qf) (.asks (.call 56 qm) [.b] (xb v5) (.ite v5 qa (.ite (xe qu (xc 34)) qa (.ite (xe qu (xc 39)) (.asks (.call 60 (x3 qi qj (xu (xc 39)))) [.s,.i,.b] ql (.leaf (.stop [tt,tt,tt,tt,ff,tt,ff,tt,ff]) [(0,qi),(1,qj),(4,qq),(11,xs v6),(12,xi v7),(13,xb v8)] qg) qf) (.leaf (.stop [tt,tt,tt,tt,tt,tt,ff,tt,ff]) [(0,qi),(1,qj),(4,qq),(15,xs (.cs [])),(16,qd)] qg)))) qf)) qf)))) qf:=by kernel_rfl
theorem zt5:goT TT shf f33.ntmps [] [tt,tt,tt,tt,tt,tt,ff,tt,ff,ff] (zae f33) [] ⟨[(0,.f1 .vs (.va 0)),(1,.f1 (.vi .i64) (.va 1)),(4,.f1 (.ptr 0) (.va 2)),(15,.f1 .vs (.va 3)),(16,.f1 (.vi .i64) (.va 4))],⟨.va 5,[(.va 2,some ⟨44,.f2 .cons (.f1 (.vi .i64) (.ci 0)) (.f2 .cons (.f1 .vs (.cs [])) (.f2 .cons (.f1 (.vi .i64) (.ci 0)) (.f2 .cons (.f1 .vb (.cb false)) .nil))),.all⟩)],[]⟩,6,[]⟩ (KF TT f33 [0,1,4,15,16])=let qh:E:=xi c0;let qd:E:=x4 qh (xs (.cs [])) qh (xb (.cb false));let qa:SH:=⟨v5,[(v2,xk 44 qd)],[]⟩;let qg:E:=xw (xS (xl v8) c1);let qi:E:=xi (xw (xa v4 c1));let qb:Tree:=.leaf (.again [tt,tt,tt,tt,tt,tt,ff,tt,ff,ff]) [(0,xs v0),(1,xi v1),(4,xp v2),(15,xs v3),(16,qi)] qa;let qc:Tree:=.leaf (.again [tt,tt,tt,tt,tt,tt,ff,tt,ff,ff]) [(0,xs v0),(1,xi v1),(4,xp v2),(15,xs v8),(16,qi)] qa;let qf:Tree:=.stuck 0;let qe:E:=x4 (xi (xc 6)) (xs v3) qh (xb (.cb false));.asks (.call 24 .nil) [.l] (.f1 (.isl 1) v6) (.ite (xL v4 (xn v6)) (.asks (.call 24 .nil) [.l] (.f1 (.isl 1) v7) (.need (xE c0 v4) (.need (xL v4 (xn v7)) (.ask (.load 9 (.f3 (.ipt 1 0) v7 v4 .nil)) qa [.s] (xs v8) false (.ite (xG (xl v8) (xl v3)) (.asks (.call 56 (x3 (xs v0) (xi v1) (xs v8))) [.b] (xb v9) (.ite v9 (.need (xE c0 qg) (.need (xL qg (xl v8)) (.asks (.call 62 (x1 (xu (xA v8 qg)))) [.b] (xb v10) (.ite v10 (.asks (.call 64 (x2 (xs v0) (xi (xw (xa v1 (xl v8)))))) [.i] (xu v11) (.asks (.call 63 (x1 (xu v11))) [.b] (xb v12) (.ite v12 qb qc) qf) qf) qc) qf))) qb) qf) qb) qf))) qf) (.ite (xQ v3 (.cs [])) (.fin (xt (x3 (xg qd) qh (xi (xc 30)))) qa) (.fin (xt (x3 (xg qe) (xi (xw (xa v1 (xl v3)))) qh)) ⟨v5,[(v2,xk 44 qe)],[]⟩))) qf:=by kernel_rfl
def zjm (k:Int)(t:Bs)(e:Int):V:=.tup [ziz k t,.i .i64 e,.i .i64 0]
def zif (c:Int):V:=.tup [ziz 0 [],.i .i64 0,.i .i64 c]
def ztp (i:Nat)(b:Bs):V:=if b=[]then zif 30 else zjm 6 b ((i:Int)+b.length)
theorem zrN (x:Bs)(b:UInt8):atS (x++[b]) ((x.length:Nat):Int)=b.toNat:=by simp[atS]
theorem zn1 (x:Bs)(b:UInt8):zf6 (x++[b])=b.toNat:=by simp[zf6]
theorem zuZ {call:zad} (hC:call.Sound prog TT) (s:Bs) (i:Nat) (hi:i<100000000) (SY:List (Bs)) (hsy:∀H,call 24 [] H=.val (.isl 1 (zfP SY)) H) (hlen:SY.length<1100000)
    (hbt:∀t:Bs,t.length<1000→∀H,call 56 [.s s,.i .i64 i,.s t] H=.val (.b (zdM s i t)) H)(hlt:∀b:UInt8,∀H,call 62 [.i .u8 b.toNat] H=.val (.b (zf0 b.toNat)) H)(hatc:∀(j:Nat) H,call 64 [.s s,.i .i64 j] H=.val (.i .u8 (atR s j)) H)(hwc:∀(j:Nat) H,call 63 [.i .u8 (atR s j)] H=.val (.b (zcR (atR s j))) H) :
    ∀(L pre:List (Bs))(best:Bs)(t:Tm)(H:zaa),SY=pre++L→(∀y∈L,y≠[]∧y.length<1000)→best.length<1000→0<H.length→t.wid=f33.ntmps→t.get 0=.s s→t.get 1=.i .i64 (i:Nat)→t.get 4=.ptr 0 0→t.get 15=.s best→t.get 16=.i .i64 (pre.length:Nat) →
    ctx prog TT [tt,tt,tt,tt,tt,tt,ff,tt,ff,ff] (zae f33) (zaF TT f33 (isR (.val (ztp i (zk7 s i L best))))) (.norm t (H.set 0 (some ⟨44,[.i .i64 0,.s [],.i .i64 0,.b false],.all⟩))):=by
  intro L
  induction L with
  | nil=>
    intro pre best t H hp hne hb hH hw t0 t1 t4 t15 t16
    refine zaM.symIn (p:=[tt,tt,tt,tt,tt,tt,ff,tt,ff]) zaf hC rfl zt5 (by kernel_rfl) [.us s,.ui (i:Nat),.un 0,.us best,.ui (pre.length:Nat),.uh H] rfl hw ⟨t0,t1,t4,t15,t16,trivial⟩ rfl ⟨by simp;exact hH,by simp⟩ ?_
    clear t0 t1 t4 t15 t16 hw
    simp -implicitDefEqProofs only[VC,isR,exU,Ask.den,E.den,O1.den,O2.den,O3.den,SH.den,zat,za9,bD,SB.den,zai,LQ,uu,uW,jOa,jUa,jDa,jSa,if_false,if_true]
    have hl:pre.length=SY.length:=by rw[hp];simp
    have w1:IntKind.i64.wrap ((i:Int)+best.length)=(i:Int)+best.length:=zaj (by omega) (by omega)
    refine .inl ⟨_,hsy,fun h=>absurd h (by rw[zca];omega),fun _=>⟨fun h=>?_,fun h=>?_⟩⟩
    · rw[show zk7 s i [] best=best from rfl];unfold ztp;rw[if_pos h];rfl
    · rw[show zk7 s i [] best=best from rfl];unfold ztp;rw[if_neg h,w1];rfl
  | cons x L ih=>
    intro pre best t H hp hne hb hH hw t0 t1 t4 t15 t16
    refine zaM.symIn (p:=[tt,tt,tt,tt,tt,tt,ff,tt,ff]) zaf hC rfl zt5 (by kernel_rfl) [.us s,.ui (i:Nat),.un 0,.us best,.ui (pre.length:Nat),.uh H] rfl hw ⟨t0,t1,t4,t15,t16,trivial⟩ rfl ⟨by simp;exact hH,by simp⟩ ?_
    clear t0 t1 t4 t15 t16 hw
    simp -implicitDefEqProofs only[VC,isR,exU,Ask.den,E.den,O1.den,O2.den,O3.den,SH.den,zat,za9,bD,SB.den,zai,LQ,uu,uW,jOa,jUa,jDa,jSa,if_false,if_true]
    obtain⟨hx0,hx1⟩:=hne x (by simp)
    have hl:pre.length<SY.length:=by rw[hp];simp
    have hl2:=zca SY
    have w1:IntKind.i64.wrap ((pre.length:Int)+1)=((pre++[x]).length:Nat):=by rw[zaj (by omega) (by omega)];simp
    have w2:IntKind.i64.wrap ((i:Int)+x.length)=((i+x.length:Nat):Int):=by rw[zaj (by omega) (by omega)];omega
    have w3:IntKind.i64.wrap ((x.length:Int)-1)=(x.length:Int)-1:=zaj (by omega) (by omega)
    have next:∀(b':Bs),(if okS s i best x=true then x else best)=b'→∀t:Tm,t.wid=f33.ntmps→t.get 0=.s s→t.get 1=.i .i64 (i:Nat)→t.get 4=.ptr 0 0→t.get 15=.s b'→t.get 16=.i .i64 (IntKind.i64.wrap ((pre.length:Int)+1)) →
        ctx prog TT [tt,tt,tt,tt,tt,tt,ff,tt,ff,ff] (zae f33) (zaF TT f33 (isR (.val (ztp i (zk7 s i (x::L) best))))) (.norm t (H.set 0 (some ⟨44,[.i .i64 0,.s [],.i .i64 0,.b false],.all⟩))):=fun b' hb' t hw f0 f1 f4 f15 f16=>by
      simp only[zk7,hb']
      exact ih (pre++[x]) b' t H (by rw[hp];simp) (fun y hy=>hne y (by simp[hy])) (by rw[←hb'];split<;>assumption) hH hw f0 f1 f4 f15 (by rw[f16,w1])
    refine .inl ⟨_,hsy,fun _=>.inl ⟨_,hsy,by omega,by omega,.inl ⟨x,?_,fun h1=>?_,fun h1=>?_⟩⟩,fun h=>absurd (show((pre.length:Nat):Int)<(zfP SY).length by omega) h⟩
    · have e:=zpz pre x L
      rw[←hp]at e
      simp[zah,e,lift]
    · simp only[w2,w3]
      obtain⟨y,b,hxy⟩:∃y b,x=y++[b]:=⟨_,_,(dropLast_concat_getLast hx0).symm⟩
      have hy:x.length=y.length+1:=by rw[hxy];simp
      have e3:atS x ((x.length:Int)-1)=b.toNat:=by rw[show(x.length:Int)-1=(y.length:Nat)by omega,hxy];exact zrN y b
      have e4:zf6 x=b.toNat:=by rw[hxy];exact zn1 y b
      rw[e3]
      have h1':best.length<x.length:=by omega
      refine .inl ⟨_,hbt x hx1,fun h2=>⟨by omega,by omega,.inl ⟨_,hlt b,fun h3=>.inl ⟨_,hatc (i+x.length),.inl ⟨_,hwc (i+x.length),fun h4=>next best (if_neg (by simp[okS,e4,h1',h2,h3,h4])),fun h4=>next x (if_pos (by simp[okS,e4,h1',h2,h3,h4]))⟩⟩,fun h3=>next x (if_pos (by simp[okS,e4,h1',h2,h3]))⟩⟩,fun h2=>next best (if_neg (by simp[okS,h2]))⟩
    · exact next best (if_neg (by simp only[okS,jMa,jTa];omega))
theorem zrX (base:Int)(L:Bs)(h:(zaY base L [] false).2≠[]):0<(zaY base L [] false).1:=by
 cases L with
 |nil=>exact absurd rfl h
 |cons b L=>
  simp only[zaY]at h ⊢;split
  ·omega
  ·rename_i h1;rw[if_neg h1]at h;split
   ·rename_i h2;exact absurd rfl h2.2.1
   ·rename_i h2;rw[if_neg h2]at h;exact absurd rfl h
theorem ztf {s:Bs}{k:Nat}(h:k≤s.length):k≤(zcs s k).1∧(zcs s k).1≤s.length:=by
 unfold zcs;split
 ·rename_i hc;have hl:k<s.length:=zfK (by
   intro h0;rw[h0]at hc;exact absurd hc (by decide))
  simp only;omega
 ·exact⟨jDb _,h⟩
theorem zpN {s t t':Bs}{e e':Nat}{k k':Int}(hx:zi3 s e t k=some (e',t',k'))(he:e≤s.length):e≤e'∧e'≤s.length:=by
 unfold zi3 at hx;split at hx
 ·rename_i hc;split at hx
  ·cases hx
  ·have hl:e<s.length:=zfK (by
    intro h0;rw[h0]at hc;exact absurd hc (by decide))
   have h1:=ztf (s:=s) (k:=e+1) (by omega);have h2:=zdl 10 (s.drop (zcs s (e+1)).1) [] false;rw[jJa]at h2;simp only[jNa,jZa]at hx;omega
 ·simp only[jNa,jZa]at hx;omega
theorem zs0 {s d t':Bs}{e e':Nat}{k':Int}(h:zhp s e d=some (e',t',k'))(he:e≤s.length):e≤e'∧e'≤s.length:=by
 unfold zhp zet at h;split at h
 ·rename_i hc;simp only[jMa,jOa,jTa]at hc;have hl:e<s.length:=zfK (by rw[hc.1];decide);have h2:=zdl 10 (s.drop (e+1)) [] false;rw[jJa]at h2;have:=zpN h (by omega);omega
 ·exact zpN h he
theorem zhc {s d text:Bs}{base e:Nat}{k:Int}{v:V}(h:zcj s d base e text k v):v=zlq∨(d≠[]∧∃(k:Int)(t:Bs),(k=3∨k=4)∧v=okV k t e):=by
 rcases h with⟨_,h⟩|⟨h0,h⟩
 ·exact .inl h
 ·have hd:d≠[]:=by
   intro hd;subst hd;exact absurd h0 (by simp)
  rcases h with⟨_,rfl⟩|⟨_,⟨o,_,_,_,rfl⟩|⟨_,rfl⟩⟩
  ·exact .inr ⟨hd,4,_,.inr rfl,rfl⟩
  ·exact .inr ⟨hd,3,_,.inl rfl,rfl⟩
  ·exact .inl rfl
theorem zoH {s:Bs}{i:Nat}{v:V}(h:zk9 s i v)(hi:i≤s.length):v=zlq∨∃(k:Int)(t:Bs)(e:Nat),(k=3∨k=4)∧v=okV k t e∧i<e∧e≤s.length:=by
 unfold zk9 at h;split at h
 ·rename_i hx;have hl:=zbZ hx;simp only[jIa,jVa]at hl;have h2:=zdl 16 (s.drop (i+2)) [] false;rw[jJa]at h2;rcases zhc h with h|⟨_,k,t,hk,hv⟩
  ·exact .inl h
  ·exact .inr ⟨k,t,_,hk,hv,by omega,by omega⟩
 ·split at h
  ·rename_i hx;have hl:=zbZ hx;simp only[jIa,jVa]at hl;have h2:=zdl 2 (s.drop (i+2)) [] false;rw[jJa]at h2;rcases zhc h with h|⟨_,k,t,hk,hv⟩
   ·exact .inl h
   ·exact .inr ⟨k,t,_,hk,hv,by omega,by omega⟩
  ·rcases h with⟨_,h⟩|⟨e',t',k',hr,h⟩
   ·exact .inl h
   ·have h2:=zdl 10 (s.drop i) [] false;rw[jJa]at h2;rcases zhc h with h|⟨hd,k,t,hk,hv⟩
    ·exact .inl h
    ·have h3:=zs0 hr (by omega);have h4:=zrX _ _ hd;exact .inr ⟨k,t,_,hk,hv,by omega,by omega⟩
theorem zkr {s:Bs}{i:Nat}(h:i≤s.length):i≤idR s i∧idR s i≤s.length:=by
 unfold idR;split
 ·exact⟨jDb _,h⟩
 ·have h1:=zhr (s.drop i);have h2:=zqB (s.drop (i+zcK (s.drop i)));simp only[jJa]at h1 h2;omega
theorem zlQ {s:Bs} {esc:Nat→Option (Bs×Nat)} {mk:Int} (hej:∀(i:Nat) (tx:Bs) (j:Nat),i<s.length→esc i=some (tx,j)→i<j∧j≤s.length∧tx.length≤4) :
    ∀(n i:Nat)(out t:Bs)(e:Nat),out.length≤4*i→zoD s esc mk n i out=some (t,e)→i<e∧e≤s.length∧t.length≤4*s.length
  |0,i,out,t,e,hl,h=>by cases h
  | n + 1, i, out,t,e,hl,h=>by
    simp only[zoD]at h
    split at h
    · cases h
    · rename_i hi
      split at h
      · cases h
      · split at h
        · cases h
          omega
        · split at h
          · split at h
            · rename_i p hp
              obtain⟨tx,j⟩:=p
              obtain⟨h1,h2,h3⟩:=hej i tx j (by omega) hp
              have:=zlQ hej n j (out++tx) t e (by simp;omega) h
              omega
            · cases h
          · have:=zlQ hej n (i+1) _ t e (by simp;omega) h
            omega
def zlU (s:Bs)(i:Nat):Bs×Nat×Bool:=match zhP s (s.length+1) (i+3)with
 |none=>([],0,false)
 |some k=>(zfN s (i+3) k,k+3,Lib.validD (zfN s (i+3) k))
theorem zvq (s:Bs)(i:Nat):zsW s i=.tup [.s (zlU s i).1,.i .i64 ((zlU s i).2.1:Nat),.b (zlU s i).2.2]:=by
 unfold zsW zlU;cases zhP s (s.length+1) (i+3)<;>rfl
theorem zvp {s:Bs}{i:Nat}(h:(zlU s i).2.2=true):i<(zlU s i).2.1∧(zlU s i).2.1≤s.length:=by
 unfold zlU at h ⊢;cases hr:zhP s (s.length+1) (i+3)with
 |none=>rw[hr]at h;cases h
 |some k=>
  have:=zjq s _ _ _ hr;simp only;omega
theorem zlR {s:Bs}{mk:Int}{i:Nat}:((zhO (zig s mk i)).2.2=true→i<(zhO (zig s mk i)).2.1∧(zhO (zig s mk i)).2.1≤s.length)∧(zhO (zig s mk i)).1.length≤4*s.length:=by
 cases h:zig s mk i with
 |none=>simp[zhO]
 |some p=>
  obtain⟨t,e⟩:=p;have:=zlQ (fun i tx j h1 h2=>zpF h1 h2) _ _ _ _ _ (by simp) h;simp only[zhO];omega
def zot (p:Bs×Nat×Bool):V:=if p.2.2=true then zjm 5 p.1 p.2.1 else zif 31
def zoz (p:Bs×Nat×Bool):V:=if p.2.2=true then(match zb8 p.1 with
 | [.i .i32 r]=>zjm 3 (Lib.itoa (IntKind.i64.wrap r)) p.2.1
 |_=>zif 31)else zif 31
def zwD (s:Bs)(i:Nat):V:=ztp i (zk7 s i syL [])
def zla (s:Bs)(i:Nat)(v:V):Prop:=
 if i<idR s i then v=zjm (if(kwL.any fun x=>x==(s.take (idR s i)).drop i)=true then 2 else 1) ((s.take (idR s i)).drop i) (idR s i)
 else if 0≤zby (atR s i) 10 then zk9 s i v
 else if zdM s i [34,34,34]=true then v=zot (zlU s i)
 else if((atR s i==34):Bool)=true then v=zot (zhO (zig s 34 i))
 else if((atR s i==39):Bool)=true then v=zoz (zhO (zig s 39 i))
 else v=zwD s i
theorem znf {s:Bs}{i:Nat}:∀(L:List (Bs))(best:Bs),(best=[]∨zdM s i best=true)→zk7 s i L best=[]∨zdM s i (zk7 s i L best)=true
 | [],best,h=>h
 |x::L,best,h=>by
  simp only[zk7];refine znf L _ ?_;split
  ·rename_i hok;simp only[okS,jMa]at hok;exact .inr hok.2.1
  ·exact h
theorem zuc {s:Bs}{i:Nat}{v:V}(h:zla s i v)(hi:i<s.length):(∃c:Int,c≠0∧v=zif c)∨∃(k:Int)(t:Bs)(e:Nat),v=zjm k t e∧i<e∧e≤s.length:=by
 unfold zla at h;split at h
 ·rename_i h1;have:=zkr (s:=s) (i:=i) (by omega);exact .inr ⟨_,_,_,h,h1,this.2⟩
 ·split at h
  ·rcases zoH h (by omega)with h|⟨k,t,e,hk,hv,h1,h2⟩
   ·exact .inl ⟨33,by decide,h⟩
   ·exact .inr ⟨k,t,e,hv,h1,h2⟩
  ·split at h
   ·unfold zot at h;split at h
    ·rename_i hp;have:=zvp hp;exact .inr ⟨_,_,_,h,this.1,this.2⟩
    ·exact .inl ⟨31,by decide,h⟩
   ·split at h
    ·unfold zot at h;split at h
     ·rename_i hp;have:=zlR.1 hp;exact .inr ⟨_,_,_,h,this.1,this.2⟩
     ·exact .inl ⟨31,by decide,h⟩
    ·split at h
     ·unfold zoz at h;split at h
      ·rename_i hp;have:=zlR.1 hp;split at h
       ·exact .inr ⟨_,_,_,h,this.1,this.2⟩
       ·exact .inl ⟨31,by decide,h⟩
      ·exact .inl ⟨31,by decide,h⟩
     ·unfold zwD ztp at h;split at h
      ·exact .inl ⟨30,by decide,h⟩
      ·rename_i hne;rcases znf (s:=s) (i:=i) syL [] (.inl rfl)with h0|h0
       ·exact absurd h0 hne
       ·have h1:=zbZ h0;have h2:0<(zk7 s i syL []).length:=by
         rcases Nat.eq_zero_or_pos (zk7 s i syL []).length with h|h
         ·exact absurd (length_eq_zero_iff.1 h) hne
         ·exact h
        refine .inr ⟨6,_,i+(zk7 s i syL []).length,h,by omega,h1⟩
theorem zox (n:Int):-9223372036854775808≤IntKind.i64.wrap n∧IntKind.i64.wrap n≤9223372036854775807:=by
 have e:(2:Int)^IntKind.i64.bits=18446744073709551616:=rfl;have e2:(2:Int)^(IntKind.i64.bits-1)=9223372036854775808:=rfl;simp only[IntKind.wrap,e,e2,IntKind.signed,jSd,jTa];split<;>omega
theorem cv9 {tx:Bs}(h:tx.length<100000000)(H:zaa):zaT TT 9 95 (.s tx) H=.val (.sl H.length 1 0 (zb8 tx).length none) (H++[some {ty:=21,cells:=zb8 tx,kind:=.more}]):=by
 have e1:TT.und 95=some (.slice 21):=rfl;have e2:TT.und 9=some .string:=rfl;have e3:TT.und 21=some (.int .i32):=rfl;simp only[zaT,e1,e2,e3];rw[if_pos ⟨rfl,by omega⟩,zaX]
theorem zqD (l:Bs):∀v∈zb8 l,∃n,v=.i .i32 n:=by
 intro v hv;unfold zb8 at hv;obtain⟨x,hx,rfl⟩:=jZc.1 hv;obtain⟨n,rfl⟩:=zdA ⟨l.toArray⟩ l.length 0 #[] (by simp) x hx;exact⟨n,rfl⟩
def zk5 (s:Bs)(i:Nat)(vn:V):V:=
 if i<idR s i then zjm (if(kwL.any fun x=>x==(s.take (idR s i)).drop i)=true then 2 else 1) ((s.take (idR s i)).drop i) (idR s i)
 else if 0≤zby (atR s i) 10 then vn
 else if zdM s i [34,34,34]=true then zot (zlU s i)
 else if((atR s i==34):Bool)=true then zot (zhO (zig s 34 i))
 else if((atR s i==39):Bool)=true then zoz (zhO (zig s 39 i))
 else zwD s i
theorem zxw {s:Bs}{i:Nat}{vn:V}(h:0≤zby (atR s i) 10→zk9 s i vn):zla s i (zk5 s i vn):=by
 unfold zla zk5;by_cases h1:i<idR s i
 ·rw[if_pos h1,if_pos h1]
 rw[if_neg h1,if_neg h1];by_cases h2:0≤zby (atR s i) 10
 ·rw[if_pos h2,if_pos h2];exact h h2
 rw[if_neg h2,if_neg h2];repeat' split
 all_goals rfl
def zzE (k:Int)(x:Bs):Option Blk:=some ⟨44,[.i .i64 k,.s x,.i .i64 0,.b false],.all⟩
theorem zzY {call:zad}(hC:call.Sound prog TT){t:Tm}{H:zaa}{Q:Out→Prop}{tx:Bs}(hw0:t.wid=f33.ntmps)(h11:t.get 11=.s tx)(hl:tx.length<100000000)
 (hQ:∀t':Tm,t'.wid=f33.ntmps→t'.get 4=t.get 4→t'.get 12=t.get 12→t'.get 13=t.get 13→t'.get 14=.sl H.length 1 0 (zb8 tx).length none→Q (.norm t' (H++[some {ty:=21,cells:=zb8 tx,kind:=.more}]))):Tri prog TT (sub [tt,tt,tt,tt,ff,tt,ff,tt,ff] (zae f33)) t H Q:=by
 have hw:t.wid=164:=hw0;have hcv:=cv9 hl H;refine Tri.regN (t':=?t1) (H':=?H1) zaf hC ?e1 ?q1;case e1=>
  refine zar ?_;iterate 3 refine zab rfl (by simp[h11,hcv,-zaT]<;>rfl) (by rfl) (by simp[hw]) ?_
  exact zal
 exact hQ _ (by simp[hw0]) (by simp) (by simp) (by simp) (by simp)
theorem zxF {call:zad}(hC:call.Sound prog TT){t:Tm}{Q:Out→Prop}{tx:Bs}{e:Nat}{ok:Bool}(hit:∀n:Int,∀H,call 61 [.i .i64 (IntKind.i64.wrap n)] H=.val (.s (Lib.itoa (IntKind.i64.wrap n))) H)(hw0:t.wid=f33.ntmps)(h4:t.get 4=.ptr 0 0)(h12:t.get 12=.i .i64 e)(h13:t.get 13=.b ok)(h14:t.get 14=.sl 1 1 0 (zb8 tx).length none)
 (hQ:∀(t':Tm)(H':zaa),zaZ TT f33 t'.get H'=.val (zoz (tx,e,ok)) H'→Q (.ret t' H')):Tri prog TT (sub [tt,tt,tt,tt,ff,tt,ff,tt,tt] (zae f33)) t [zzE 0 [],some {ty:=21,cells:=zb8 tx,kind:=.more}] Q:=by
 have hw:t.wid=164:=hw0;have hri:=zqD tx;unfold zzE;generalize hR:zb8 tx=R at *;iterate 2 apply sQ
 cases ok with
 |false=>
  have hF:=And.intro h4 (And.intro h12 (And.intro h13 h14));refine Tri.regN (t':=?t1) (H':=?H1) zaf hC ?e1 ?q1;case e1=>
   refine zar ?_;iterate 3 refine zab rfl (by simp[hF]<;>rfl) (by rfl) (by simp[hw]) ?_
   iterate 3 refine zb2 (by simp[zaD,hF]) (by simp[hw]) ?_
   refine oA ?_;exact zal
  apply sN;refine Tri.condG (o:=?o2) (b:=?b2) ?g2 ?r2 ?y2 ?n2;case g2=>simp[hF]<;>rfl
  case r2=>rfl
  case y2=>
   intro hy;apply sQ;refine Tri.regN (t':=?t3) (H':=?H3) zaf hC ?e3 ?q3;case e3=>
    refine zar ?_;iterate 4 refine zab rfl (by simp[hF]<;>rfl) (by rfl) (by simp[hw]) ?_
    exact zal
   apply sN;apply Tri.ret;apply sR;exact hQ _ _ (by simp[f33,hF,zoz,zif,ziz]<;>rfl)
  case n2=>intro hn;exact absurd hn (by simp[hF])
 |true=>
  by_cases hl:R.length=1
  ·obtain ⟨x,rfl⟩:=length_eq_one_iff.1 hl;obtain⟨n,rfl⟩:=hri x (by simp);have hn:=hit n;have hF:=And.intro h4 (And.intro h12 (And.intro h13 (And.intro h14 hn)));refine Tri.regN (t':=?t4) (H':=?H4) zaf hC ?e4 ?q4;case e4=>
    refine zar ?_;iterate 3 refine zab rfl (by simp[hF]<;>rfl) (by rfl) (by simp[hw]) ?_
    iterate 3 refine zab (by simp[zaD,hF]) (by simp[hF]<;>rfl) (by rfl) (by simp[hw]) ?_
    refine oA ?_;exact zal
   apply sN;refine Tri.condG (o:=?o5) (b:=?b5) ?g5 ?r5 ?y5 ?n5;case g5=>simp[hF]<;>rfl
   case r5=>rfl
   case y5=>intro hy;exact absurd hy (by simp[hF])
   case n5=>
    intro hn5;apply Tri.skip;apply sN;apply sQ;refine Tri.regN (t':=?t6) (H':=?H6) zaf hC ?e6 ?q6;case e6=>
     refine zar ?_;iterate 10 refine zab rfl (by simp[hF]<;>rfl) (by rfl) (by simp[hw]) ?_
     exact zal
    apply sN;apply Tri.ret;exact hQ _ _ (by simp[f33,hF,zoz,hR,zjm,ziz]<;>rfl)
  ·have hl2:¬(R.length:Int)=1:=by omega
   have hF:=And.intro h4 (And.intro h12 (And.intro h13 (And.intro h14 hl2)));refine Tri.regN (t':=?t7) (H':=?H7) zaf hC ?e7 ?q7;case e7=>
    refine zar ?_;iterate 3 refine zab rfl (by simp[hF]<;>rfl) (by rfl) (by simp[hw]) ?_
    iterate 3 refine zab (by simp[zaD,hF]) (by simp[hF]<;>rfl) (by rfl) (by simp[hw]) ?_
    refine oA ?_;exact zal
   apply sN;refine Tri.condG (o:=?o8) (b:=?b8) ?g8 ?r8 ?y8 ?n8;case g8=>simp[hF]<;>rfl
   case r8=>rfl
   case y8=>
    intro hy;apply sQ;refine Tri.regN (t':=?t9) (H':=?H9) zaf hC ?e9 ?q9;case e9=>
     refine zar ?_;iterate 4 refine zab rfl (by simp[hF]<;>rfl) (by rfl) (by simp[hw]) ?_
     exact zal
    apply sN;apply Tri.ret;apply sR;have hc:zoz (tx,e,true)=zif 31:=by
     unfold zoz;rw[if_pos rfl,hR];match R,hl,hri with
     | [],_,_=>rfl
     | [x],h,_=>exact absurd rfl h
     |x::y::r,_,h=>obtain⟨n,rfl⟩:=h x (by simp);rfl
    exact hQ _ _ (by rw[hc];simp[f33,hF,zif,ziz]<;>rfl)
   case n8=>intro hn;exact absurd hn (by simp[hF])
theorem zoU {call:zad}(hC:call.Sound prog TT)(s:Bs)(i:Nat)(hl:s.length<20000000)(hi:i<s.length)(k e c:Int)(tn:Bs)
 (hid:∀H,call 41 [.s s,.i .i64 i] H=.val (.i .i64 (idR s i)) H)(hkw:∀H,call 22 [] H=.val (.isl 1 (zfP kwL)) H)(hh:∀x H,call 42 [.isl 1 (zfP kwL),.s x] H=.val (.b (kwL.any fun y=>y==x)) H)
 (hdg:∀H,call 57 [.i .u8 (atR s i),.i .i64 10] H=.val (.i .i64 (zby (atR s i) 10)) H)(hnum:∀H,call 58 [.s s,.i .i64 i] H=.val (.tup [ziz k tn,.i .i64 e,.i .i64 c]) H)
 (hbt:∀t:Bs,t.length<1000→∀H,call 56 [.s s,.i .i64 i,.s t] H=.val (.b (zdM s i t)) H)
 (hraw:∀H,call 59 [.s s,.i .i64 i] H=.val (.tup [.s (zlU s i).1,.i .i64 ((zlU s i).2.1:Nat),.b (zlU s i).2.2]) H)
 (hqu:∀mk:Int,∀H,call 60 [.s s,.i .i64 i,.i .u8 mk] H=.val (.tup [.s (zhO (zig s mk i)).1,.i .i64 ((zhO (zig s mk i)).2.1:Nat),.b (zhO (zig s mk i)).2.2]) H)
 (hit:∀n:Int,∀H,call 61 [.i .i64 (IntKind.i64.wrap n)] H=.val (.s (Lib.itoa (IntKind.i64.wrap n))) H)(hsy:∀H,call 24 [] H=.val (.isl 1 (zfP syL)) H)
 (hlt:∀b:UInt8,∀H,call 62 [.i .u8 b.toNat] H=.val (.b (zf0 b.toNat)) H)(hatc:∀(j:Nat) H,call 64 [.s s,.i .i64 j] H=.val (.i .u8 (atR s j)) H)(hwc:∀(j:Nat) H,call 63 [.i .u8 (atR s j)] H=.val (.b (zcR (atR s j))) H):zaV prog TT 33 [.s s,.i .i64 i] (fun r=>r=.val (zk5 s i (.tup [ziz k tn,.i .i64 e,.i .i64 c]))):=by
 have hio:=zkr (s:=s) (i:=i) (by omega);have hat:atS s (i:Nat)=atR s i:=rfl;have hb3:=hbt [34,34,34] (by simp);apply zaA.is;refine zaA.sym zaf hC (fn:=f33) rfl rfl (by simp[f33]) zyV (by kernel_rfl) [.us s,.ui (i:Nat),.uh []] rfl ⟨by rw[zag];rfl,by rw[zag];rfl,trivial⟩ rfl (zaC _ _) ?_;simp -implicitDefEqProofs only[VC,isR,exU,Ask.den,E.den,O1.den,O2.den,O3.den,SH.den,zat,za9,bD,SB.den,zai,LQ,uu,uW,jOa,jUa,jDa,jSa,if_false,if_true];have g1:(i:Int)<(idR s i:Nat)→i<idR s i:=fun h=>by omega
 have ns:∀(tx:Bs)(e:Nat)(ok:Bool),ok=true→zot (tx,e,ok)=zjm 5 tx e:=fun tx e ok h=>if_pos h;have nf:∀(tx:Bs)(e:Nat)(ok:Bool),ok=false→zot (tx,e,ok)=zif 31:=fun tx e ok h=>if_neg (by simp[h]);refine .inl ⟨_,hid,fun h=>.inl ⟨_,hkw,by omega,by omega,by omega,.inl ⟨_,hh _,fun hq=>?_,fun hq=>?_⟩⟩,fun h=>?_⟩
 ·have hq':(kwL.any fun x=>x==(s.take (idR s i)).drop i)=true:=hq;unfold zk5;rw[if_pos (g1 h),if_pos hq'];rfl
 ·have hq':(kwL.any fun x=>x==(s.take (idR s i)).drop i)=false:=hq;unfold zk5;rw[if_pos (g1 h),if_neg (fun h2=>by rw[hq']at h2;cases h2)];rfl
 have h':¬i<idR s i:=fun h2=>h (by omega);refine⟨by omega,by omega,.inl ⟨_,hdg,fun hd=>.inl ⟨_,_,_,_,hnum,?_⟩,fun hd=>.inl ⟨_,hb3,fun hb=>.inl ⟨_,_,_,hraw,.inl ⟨_,hb3,fun _=>⟨fun ok=>?_,fun ok=>?_⟩,fun hb2=>absurd hb (by rw[hb2];decide)⟩⟩,
  fun hb=>⟨fun h34=>.inl ⟨_,_,_,hraw,.inl ⟨_,hb3,fun hb2=>absurd hb2 (by rw[hb];decide),fun _=>.inl ⟨_,_,_,hqu 34,fun ok=>?_,fun ok=>?_⟩⟩⟩,fun h34=>⟨fun h39=>.inl ⟨_,_,_,hqu 39,fun t hw f0 f1 f4 f11 f12 f13=>?_⟩,fun h39 t hw f0 f1 f4 f15 f16=>?_⟩⟩⟩⟩⟩
 ·unfold zk5;rw[if_neg h',if_pos hd];rfl
 ·unfold zk5;rw[if_neg h',if_neg hd,if_pos hb,ns _ _ _ ok];rfl
 ·unfold zk5;rw[if_neg h',if_neg hd,if_pos hb,nf _ _ _ ok];rfl
 all_goals have hb':¬zdM s i [34,34,34]=true:=fun h2=>by rw[hb]at h2;cases h2
 ·unfold zk5;rw[if_neg h',if_neg hd,if_neg hb',if_pos (by rw[←hat,h34];rfl),ns _ _ _ ok];rfl
 ·unfold zk5;rw[if_neg h',if_neg hd,if_neg hb',if_pos (by rw[←hat,h34];rfl),nf _ _ _ ok];rfl
 all_goals have h34':¬(atR s i==34)=true:=fun h2=>h34 (by rw[hat];simpa using h2)
 ·have e:zk5 s i (.tup [ziz k tn,.i .i64 e,.i .i64 c])=zoz (zhO (zig s 39 i)):=by unfold zk5;rw[if_neg h',if_neg hd,if_neg hb',if_neg h34',if_pos (by rw[←hat,h39];rfl)]
  rw[e];refine zzY hC hw f11 (by have:=(zlR (s:=s) (mk:=39) (i:=i)).2;omega) fun t' hw' g4 g12 g13 g14=>?_;show Tri prog TT (sub [tt,tt,tt,tt,ff,tt,ff,tt,tt] (zae f33)) t' _ (ctx prog TT [tt,tt,tt,tt,ff,tt,ff,tt,tt] (zae f33) _);exact zxF hC hit hw' (g4.trans f4) (g12.trans f12) (g13.trans f13) g14 fun t2 H2 hf=>zlh _ _ _ ⟨_,rfl,hf⟩
 ·have e:zk5 s i (.tup [ziz k tn,.i .i64 e,.i .i64 c])=ztp i (zk7 s i syL []):=by unfold zk5 zwD;rw[if_neg h',if_neg hd,if_neg hb',if_neg h34',if_neg (fun h2=>h39 (by rw[hat];simpa using h2))]
  rw[e];exact Tri.symLoop rfl (zuZ hC s i (by omega) syL hsy (by decide) hbt hlt hatc hwc syL [] [] t [zzE 0 []] rfl (by decide) (by decide) (by decide) hw f0 f1 f4 f15 f16)
theorem zxV:∃g,zak prog TT 33 g∧∀(s:Bs) (i:Nat),s.length<20000000→i<s.length→∃v,zla s i v∧∀H,g [.s s,.i .i64 i] H=.val v H:=by
  obtain⟨g1,k1,s1⟩:=zxR
  obtain⟨g2,k2,s2⟩:=zxT
  obtain⟨g3,k3,s3⟩:=zxS
  obtain⟨g4,k4,s4⟩:=zkS
  obtain⟨g5,k5,s5⟩:=zxW
  obtain⟨g6,k6,s6⟩:=zq0
  obtain⟨g7,k7,s7⟩:=zxX
  obtain⟨g8,k8,s8⟩:=zxY
  obtain⟨g9,k9,s9⟩:=zx0
  obtain⟨g10,k10,s10⟩:=ztX
  obtain⟨g11,k11,s11⟩:=zkR
  obtain⟨g12,k12,s12⟩:=zqZ
  obtain ⟨g,hg,hs⟩:=zcM zaf zao 33 (fun vs=>∃(s:Bs) (i:Nat),s.length<20000000∧i<s.length∧vs=[.s s,.i .i64 i]) (fun vs r=>∃(s:Bs) (i:Nat) (v:V),vs=[.s s,.i .i64 i]∧r=.val v∧nl v=true∧zla s i v) (by
    rintro vs ⟨s,i,hl,hi,rfl⟩
    refine⟨by simp[nlL,nl],by rintro r ⟨_,_,v,_,rfl,h,_⟩;exact h,?_⟩
    have hC:=ws (ws (ws (ws (ws (ws (ws (ws (ws (ws (ws (ws (ws n0 k1) k2) k3) k4) k5) k6) k7) k8) k9) k10) k11) k12) zxm
    generalize hc:(((((((((((zad.none.with 41 g1).with 22 g2).with 42 g3).with 57 g4).with 58 g5).with 56 g6).with 59 g7).with 60 g8).with 24 g9).with 62 g10).with 64 g11).with 63 g12=cc at hC
    generalize hd:cc.with 61 zeC=call at hC
    have c13:∀vs H,call 61 (vs) H=zeC vs H:=fun vs H=>by rw[←hd];simp[zad.with]
    have c1:∀vs H,call 41 (vs) H=g1 vs H:=fun vs H=>by rw[←hd,←hc];simp[zad.with]
    have c2:∀vs H,call 22 (vs) H=g2 vs H:=fun vs H=>by rw[←hd,←hc];simp[zad.with]
    have c3:∀vs H,call 42 (vs) H=g3 vs H:=fun vs H=>by rw[←hd,←hc];simp[zad.with]
    have c4:∀vs H,call 57 (vs) H=g4 vs H:=fun vs H=>by rw[←hd,←hc];simp[zad.with]
    have c5:∀vs H,call 58 (vs) H=g5 vs H:=fun vs H=>by rw[←hd,←hc];simp[zad.with]
    have c6:∀vs H,call 56 (vs) H=g6 vs H:=fun vs H=>by rw[←hd,←hc];simp[zad.with]
    have c7:∀vs H,call 59 (vs) H=g7 vs H:=fun vs H=>by rw[←hd,←hc];simp[zad.with]
    have c8:∀vs H,call 60 (vs) H=g8 vs H:=fun vs H=>by rw[←hd,←hc];simp[zad.with]
    have c9:∀vs H,call 24 (vs) H=g9 vs H:=fun vs H=>by rw[←hd,←hc];simp[zad.with]
    have c10:∀vs H,call 62 (vs) H=g10 vs H:=fun vs H=>by rw[←hd,←hc];simp[zad.with]
    have c11:∀vs H,call 64 (vs) H=g11 vs H:=fun vs H=>by rw[←hd,←hc];simp[zad.with]
    have c12:∀vs H,call 63 (vs) H=g12 vs H:=fun vs H=>by rw[←hd,←hc];simp[zad.with]
    clear hc hd
    have fin:∀{v:V},zla s i v→nl v=true→zaV prog TT 33 [.s s,.i .i64 i] (fun r=>r=.val v)→zaV prog TT 33 [.s s,.i .i64 i] (fun r=>∃(s':Bs) (i':Nat) (v:V),[V.s s,.i .i64 i]=[.s s',.i .i64 i']∧r=.val v∧nl v=true∧zla s' i' v):=fun h1 h2 h3=>h3.mono (by
      rintro r rfl
      exact⟨s,i,_,rfl,rfl,h2,h1⟩)
    have hat:∃b:UInt8,atR s i=b.toNat:=⟨_,zoO (jKa hi)⟩
    obtain⟨b,hat⟩:=hat
    have main:∀(k e c:Int) (tn:Bs),(0≤zby (atR s i) 10→zk9 s i (.tup [ziz k tn,.i .i64 e,.i .i64 c]))→(∀H,call 58 [.s s,.i .i64 i] H=.val (.tup [ziz k tn,.i .i64 e,.i .i64 c]) H)→zaV prog TT 33 [.s s,.i .i64 i] (fun r=>∃(s':Bs) (i':Nat) (v:V),[V.s s,.i .i64 i]=[.s s',.i .i64 i']∧r=.val v∧nl v=true∧zla s' i' v):=fun k e c tn hR hn=>by
      have hO:=zxw (s:=s) (i:=i) hR
      have hnl:nl (zk5 s i (.tup [ziz k tn,.i .i64 e,.i .i64 c]))=true:=by
        unfold zk5 zot zoz zwD ztp
        repeat' split
        all_goals simp[zjm,zif,ziz,nl,nlL]
      refine (zoU hC s i hl hi k e c tn (fun H=>(c1 _ H).trans (s1 s i (by omega) (by omega) H)) (fun H=>(c2 _ H).trans (s2 H)) (fun x H=>(c3 _ H).trans (s3 _ _ zu6 H)) (fun H=>(c4 _ H).trans (s4 _ 10 (by omega) (by rw[hat];exact zov b) (by simp) H)) hn (fun t ht H=>(c6 _ H).trans (s6 s i t (by omega) (by omega) H))
        (fun H=>(c7 _ H).trans ((s7 s i hl hi H).trans (by rw[zvq]))) (fun mk H=>(c8 _ H).trans ((s8 s i mk hl hi H).trans (by rw[zqt]))) (fun n H=>(c13 _ H).trans (if_pos (zox n))) (fun H=>(c9 _ H).trans (s9 H)) (fun b H=>(c10 _ H).trans (s10 _ (by omega) (zov b) H)) (fun j H=>(c11 _ H).trans (s11 s j H)) (fun j H=>(c12 _ H).trans (s12 _ (zbY s j).1 (zbY s j).2 H))).mono ?_
      rintro r rfl
      exact⟨s,i,_,rfl,rfl,hnl,hO⟩
    obtain⟨v,hv,hn⟩:=s5 s i (by omega) (by omega)
    rcases zoH hv (by omega)with rfl|⟨k,t,e,_,rfl,_,_⟩
    · exact main 0 0 33 [] (fun _=>hv) (fun H=>(c5 _ H).trans (hn H))
    · exact main k e 0 t (fun _=>hv) (fun H=>(c5 _ H).trans (hn H)))
  refine⟨g,hg,fun s i h1 h2=>?_⟩
  obtain⟨r,⟨s',i',v,e,rfl,_,hv⟩,hr⟩:=hs _ ⟨s,i,h1,h2,rfl⟩
  simp only[jPa,V.s.injEq,V.i.injEq,jLb,jGb]at e
  obtain⟨rfl,e⟩:=e
  have:i=i':=by omega
  subst this
  exact⟨v,hv,hr⟩
end Go.Ev
