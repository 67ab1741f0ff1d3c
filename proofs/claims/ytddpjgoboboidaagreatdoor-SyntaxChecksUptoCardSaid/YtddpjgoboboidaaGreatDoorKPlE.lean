/- The token at a place. Walks over the tokens of a text. The tokens of a text: the walk. The tokens of a text. A text that is a number is one token. Texts of integers and floats, and their tokens. Which texts are one Int, or one Float. The same texts, as the program tells them. Names with a sign between them. -/
import Derived.Test.YtddpjgoboboidaaGreatDoorKT40
import Derived.Test.YtddpjgoboboidaaGreatDoorKAt2
import Derived.Test.YtddpjgoboboidaaGreatDoorKT3
namespace Go.Ev
open Go Go.Proofs
set_option linter.unusedSimpArgs false
set_option linter.unusedVariables false
set_option maxRecDepth 1000000
theorem runes_int (l : List UInt8) : ∀ v ∈ runesV l, ∃ n, v = .i .i32 n := by
  intro v hv
  unfold runesV at hv
  obtain ⟨x, hx, rfl⟩ := List.mem_map.1 hv
  obtain ⟨n, rfl⟩ := runesFrom_int ⟨l.toArray⟩ l.length 0 #[] (by simp) x hx
  exact ⟨n, rfl⟩
theorem sp1127 : ∃ g, SpecOK Tryz.prog TT 127 g ∧ ∀ (s : List UInt8) (i : Nat), s.length < 20000000 → i < s.length → ∃ v, OneR s i v ∧ ∀ H, g [.s s, .i .i64 i] H = .val v H := by
  obtain ⟨g1, k1, s1⟩ := sp1123
  obtain ⟨g2, k2, s2⟩ := sp1125
  obtain ⟨g3, k3, s3⟩ := sp1124
  obtain ⟨g4, k4, s4⟩ := sp1145
  obtain ⟨g5, k5, s5⟩ := sp1146
  obtain ⟨g6, k6, s6⟩ := sp1144
  obtain ⟨g7, k7, s7⟩ := sp1147
  obtain ⟨g8, k8, s8⟩ := sp1148
  obtain ⟨g9, k9, s9⟩ := sp1150
  obtain ⟨g10, k10, s10⟩ := sp1141
  obtain ⟨g11, k11, s11⟩ := sp1142
  obtain ⟨g12, k12, s12⟩ := sp1143
  obtain ⟨g, hg, hs⟩ := spec_pure TT_ok TT_plain 127 (fun vs => ∃ (s : List UInt8) (i : Nat), s.length < 20000000 ∧ i < s.length ∧ vs = [.s s, .i .i64 i]) (fun vs r => ∃ (s : List UInt8) (i : Nat) (v : V), vs = [.s s, .i .i64 i] ∧ r = .val v ∧ nl v = true ∧ OneR s i v) (by
    rintro vs ⟨s, i, hl, hi, rfl⟩
    refine ⟨by simp [nlL, nl], by rintro r ⟨_, _, v, _, rfl, h, _⟩; exact h, ?_⟩
    have hC := ws (ws (ws (ws (ws (ws (ws (ws (ws (ws (ws (ws (ws n0 k1) k2) k3) k4) k5) k6) k7) k8) k9) k10) k11) k12) ok149
    generalize hc : (((((((((((CallF.none.with 123 g1).with 125 g2).with 124 g3).with 145 g4).with 146 g5).with 144 g6).with 147 g7).with 148 g8).with 150 g9).with 141 g10).with 142 g11).with 143 g12 = cc at hC
    generalize hd : cc.with 149 spItoa = call at hC
    have c13 : ∀ vs H, call 149 (vs) H = spItoa vs H := fun vs H => by rw [← hd]; simp [CallF.with]
    have c1 : ∀ vs H, call 123 (vs) H = g1 vs H := fun vs H => by rw [← hd, ← hc]; simp [CallF.with]
    have c2 : ∀ vs H, call 125 (vs) H = g2 vs H := fun vs H => by rw [← hd, ← hc]; simp [CallF.with]
    have c3 : ∀ vs H, call 124 (vs) H = g3 vs H := fun vs H => by rw [← hd, ← hc]; simp [CallF.with]
    have c4 : ∀ vs H, call 145 (vs) H = g4 vs H := fun vs H => by rw [← hd, ← hc]; simp [CallF.with]
    have c5 : ∀ vs H, call 146 (vs) H = g5 vs H := fun vs H => by rw [← hd, ← hc]; simp [CallF.with]
    have c6 : ∀ vs H, call 144 (vs) H = g6 vs H := fun vs H => by rw [← hd, ← hc]; simp [CallF.with]
    have c7 : ∀ vs H, call 147 (vs) H = g7 vs H := fun vs H => by rw [← hd, ← hc]; simp [CallF.with]
    have c8 : ∀ vs H, call 148 (vs) H = g8 vs H := fun vs H => by rw [← hd, ← hc]; simp [CallF.with]
    have c9 : ∀ vs H, call 150 (vs) H = g9 vs H := fun vs H => by rw [← hd, ← hc]; simp [CallF.with]
    have c10 : ∀ vs H, call 141 (vs) H = g10 vs H := fun vs H => by rw [← hd, ← hc]; simp [CallF.with]
    have c11 : ∀ vs H, call 142 (vs) H = g11 vs H := fun vs H => by rw [← hd, ← hc]; simp [CallF.with]
    have c12 : ∀ vs H, call 143 (vs) H = g12 vs H := fun vs H => by rw [← hd, ← hc]; simp [CallF.with]
    clear hc hd
    have fin : ∀ {v : V}, OneR s i v → nl v = true → EBody Tryz.prog TT 127 [.s s, .i .i64 i] (fun r => r = .val v) → EBody Tryz.prog TT 127 [.s s, .i .i64 i] (fun r => ∃ (s' : List UInt8) (i' : Nat) (v : V), [V.s s, .i .i64 i] = [.s s', .i .i64 i'] ∧ r = .val v ∧ nl v = true ∧ OneR s' i' v) := fun h1 h2 h3 => h3.mono (by
      rintro r rfl
      exact ⟨s, i, _, rfl, rfl, h2, h1⟩)
    have hid : ∀ H, call 123 [.s s, .i .i64 i] H = .val (.i .i64 (idR s i)) H := fun H => (c1 _ H).trans (s1 s i (by omega) (by omega) H)
    have hio := idR_le (s := s) (i := i) (by omega)
    obtain ⟨b, hat⟩ : ∃ b, s[i]? = some b := ⟨_, List.getElem?_eq_getElem hi⟩
    have hat2 : ∀ h, s[i]'h = b := fun h => Option.some.inj ((List.getElem?_eq_getElem h).symm.trans hat)
    have hab := atR_get hat
    have hil : (i : Int) < s.length := by omega
    have hbr : ∀ t : List UInt8, t.length < 1000 → ∀ H, call 144 [.s s, .i .i64 i, .s t] H = .val (.b (begR s i t)) H := fun t ht H => (c6 _ H).trans (s6 s i t (by omega) (by omega) H)
    by_cases hlt : i < idR s i
    · have hh : ∀ H, call 124 [.isl 1 (encS kwL), .s ((s.take (idR s i)).drop i)] H = .val (.b (kwL.any fun x => x == (s.take (idR s i)).drop i)) H := fun H => (c3 _ H).trans (s3 _ _ kwL_len H)
      have hkw : ∀ H, call 125 [] H = .val (.isl 1 (encS kwL)) H := fun H => (c2 _ H).trans (s2 H)
      cases hq : kwL.any fun x => x == (s.take (idR s i)).drop i with
      | true =>
        rw [hq] at hh
        exact fin (by unfold OneR; rw [if_pos hlt, if_pos hq]) (oneV_nl _ _ _) (body_1127k hC s i _ hid hlt (by omega) hio.2 (by omega) (by omega) (by omega) hkw hh)
      | false =>
        rw [hq] at hh
        exact fin (by unfold OneR; rw [if_pos hlt, if_neg (by rw [hq]; simp)]) (oneV_nl _ _ _) (body_1127i hC s i _ hid hlt (by omega) hio.2 (by omega) (by omega) (by omega) hkw hh)
    · have hdg : ∀ H, call 145 [.i .u8 b.toNat, .i .i64 10] H = .val (.i .i64 (digR b.toNat 10)) H := fun H => (c4 _ H).trans (s4 _ 10 (by omega) (u8_lt b) (by simp) H)
      by_cases hdp : 0 ≤ digR (b.toNat : Int) 10
      · obtain ⟨v, hv, hn⟩ := s5 s i (by omega) (by omega)
        have hO : OneR s i v := by unfold OneR; rw [if_neg hlt, hab, if_pos hdp]; exact hv
        rcases NumR_ok hv (by omega) with rfl | ⟨k, t, e, _, rfl, _, _⟩
        · exact fin hO (by simp [errV, tokV, nl, nlL]) (body_1127n hC s i _ hid hlt b hil hi hat hat2 _ hdg hdp 0 [] 0 33 (fun H => (c5 _ H).trans (hn H)))
        · exact fin hO (by simp [okV, tokV, nl, nlL]) (body_1127n hC s i _ hid hlt b hil hi hat hat2 _ hdg hdp k t e 0 (fun H => (c5 _ H).trans (hn H)))
      · have hrw : ∀ H, call 147 [.s s, .i .i64 i] H = .val (.tup [.s (rawP s i).1, .i .i64 ((rawP s i).2.1 : Nat), .b (rawP s i).2.2]) H := fun H => (c7 _ H).trans ((s7 s i hl hi H).trans (by rw [rawV_eq]))
        have hqu : ∀ mk : Int, ∀ H, call 148 [.s s, .i .i64 i, .i .u8 mk] H = .val (.tup [.s (quoP (quoR s mk i)).1, .i .i64 ((quoP (quoR s mk i)).2.1 : Nat), .b (quoP (quoR s mk i)).2.2]) H := fun mk H => (c8 _ H).trans ((s8 s i mk hl hi H).trans (by rw [quoV_eq]))
        have hb3 := hbr [34, 34, 34] (by simp)
        cases hb : begR s i [34, 34, 34] with
        | true =>
          rw [hb] at hb3
          have hO : OneR s i (strR (rawP s i)) := by unfold OneR; rw [if_neg hlt, hab, if_neg hdp, if_pos hb]
          cases hok : (rawP s i).2.2 with
          | true =>
            have e : strR (rawP s i) = oneV 5 (rawP s i).1 (rawP s i).2.1 := if_pos hok
            rw [e] at hO
            exact fin hO (oneV_nl _ _ _) (body_1127rt hC s i _ hid hlt b hil hi hat hat2 _ hdg hdp hb3 _ _ _ hrw hok)
          | false =>
            have e : strR (rawP s i) = oneE 31 := if_neg (by rw [hok]; simp)
            rw [e] at hO
            exact fin hO (oneE_nl _) (body_1127rf hC s i _ hid hlt b hil hi hat hat2 _ hdg hdp hb3 _ _ _ hrw hok)
        | false =>
          rw [hb] at hb3
          cases h34 : ((b.toNat : Int) == 34) with
          | true =>
            have hO : OneR s i (strR (quoP (quoR s 34 i))) := by unfold OneR; rw [if_neg hlt, hab, if_neg hdp, if_neg (by rw [hb]; simp), if_pos h34]
            cases hok : (quoP (quoR s 34 i)).2.2 with
            | true =>
              have e : strR (quoP (quoR s 34 i)) = oneV 5 (quoP (quoR s 34 i)).1 (quoP (quoR s 34 i)).2.1 := if_pos hok
              rw [e] at hO
              exact fin hO (oneV_nl _ _ _) (body_1127qt hC s i _ hid hlt b hil hi hat hat2 _ hdg hdp hb3 _ _ _ hrw h34 _ _ _ (hqu 34) hok)
            | false =>
              have e : strR (quoP (quoR s 34 i)) = oneE 31 := if_neg (by rw [hok]; simp)
              rw [e] at hO
              exact fin hO (oneE_nl _) (body_1127qf hC s i _ hid hlt b hil hi hat hat2 _ hdg hdp hb3 _ _ _ hrw h34 _ _ _ (hqu 34) hok)
          | false =>
            cases h39 : ((b.toNat : Int) == 39) with
            | true =>
              have hO : OneR s i (chrR (quoP (quoR s 39 i))) := by unfold OneR; rw [if_neg hlt, hab, if_neg hdp, if_neg (by rw [hb]; simp), if_neg (by rw [h34]; simp), if_pos h39]
              have hlen : (quoP (quoR s 39 i)).1.length < 100000000 := by have := (quoP_ok (s := s) (mk := 39) (i := i)).2; omega
              have hcv := cv9 hlen
              have hri := runes_int (quoP (quoR s 39 i)).1
              cases hok : (quoP (quoR s 39 i)).2.2 with
              | false =>
                have e : chrR (quoP (quoR s 39 i)) = oneE 31 := if_neg (by rw [hok]; simp)
                rw [e] at hO
                exact fin hO (oneE_nl _) (body_1127cf hC s i _ hid hlt b hil hi hat hat2 _ hdg hdp hb3 h34 h39 _ _ _ (hqu 39) _ _ hcv hok)
              | true =>
                generalize hR : runesV (quoP (quoR s 39 i)).1 = R at hcv hri
                match R, hcv, hri, hR with
                | [], hcv, hri, hR =>
                  have e : chrR (quoP (quoR s 39 i)) = oneE 31 := by unfold chrR; rw [if_pos hok, hR]; first | done | rfl
                  rw [e] at hO
                  exact fin hO (oneE_nl _) (body_1127cm hC s i _ hid hlt b hil hi hat hat2 _ hdg hdp hb3 h34 h39 _ _ _ (hqu 39) _ _ hcv hok (by rfl))
                | [x], hcv, hri, hR =>
                  obtain ⟨n, rfl⟩ := hri x (by simp)
                  have e : chrR (quoP (quoR s 39 i)) = oneV 3 (Lib.itoa (IntKind.i64.wrap n)) (quoP (quoR s 39 i)).2.1 := by unfold chrR; rw [if_pos hok, hR]
                  rw [e] at hO
                  have hwr := wrap_range n
                  exact fin hO (oneV_nl _ _ _) (body_1127co hC s i _ hid hlt b hil hi hat hat2 _ hdg hdp hb3 h34 h39 _ _ _ (hqu 39) _ hcv hok _ rfl (fun H => (c13 _ H).trans (if_pos hwr)))
                | x :: y :: r, hcv, hri, hR =>
                  obtain ⟨n, rfl⟩ := hri x (by simp)
                  have e : chrR (quoP (quoR s 39 i)) = oneE 31 := by unfold chrR; rw [if_pos hok, hR]; first | done | rfl
                  rw [e] at hO
                  exact fin hO (oneE_nl _) (body_1127cm hC s i _ hid hlt b hil hi hat hat2 _ hdg hdp hb3 h34 h39 _ _ _ (hqu 39) _ _ hcv hok (by simp; omega))
            | false =>
              have hO : OneR s i (symR s i) := by unfold OneR; rw [if_neg hlt, hab, if_neg hdp, if_neg (by rw [hb]; simp), if_neg (by rw [h34]; simp), if_neg (by rw [h39]; simp)]
              have hsy : ∀ H, call 150 [] H = .val (.isl 1 (encS syL)) H := fun H => (c9 _ H).trans (s9 H)
              have hlc : ∀ b : UInt8, ∀ H, call 141 [.i .u8 b.toNat] H = .val (.b (letR b.toNat)) H := fun b H => (c10 _ H).trans (s10 _ (by omega) (u8_lt b) H)
              have hac : ∀ (j : Nat) H, call 142 [.s s, .i .i64 j] H = .val (.i .u8 (atR s j)) H := fun j H => (c11 _ H).trans (s11 s j H)
              have hwc : ∀ (j : Nat) H, call 143 [.i .u8 (atR s j)] H = .val (.b (worR (atR s j))) H := fun j H => (c12 _ H).trans (s12 _ (atR_range s j).1 (atR_range s j).2 H)
              have hlen : (symF s i syL []).length ≤ s.length := by
                rcases symF_mem (s := s) (i := i) syL [] (.inl rfl) with h0 | h0
                · rw [h0]; simp
                · have := begR_len h0; omega
              have hw5 : IntKind.i64.wrap ((i : Int) + (symF s i syL []).length) = (i : Int) + (symF s i syL []).length := wrap_i64 (by omega) (by omega)
              cases hse : (symF s i syL [] == []) with
              | true =>
                have e : symR s i = oneE 30 := if_pos hse
                rw [e] at hO
                exact fin hO (oneE_nl _) (body_1127yn hC s i _ hid hlt b hil hi hat hat2 _ hdg hdp hb3 h34 h39 (by omega) hsy hbr hlc hac hwc _ rfl hw5 hse)
              | false =>
                have e : symR s i = oneV 6 (symF s i syL []) ((i : Int) + (symF s i syL []).length) := if_neg (by rw [hse]; simp)
                rw [e] at hO
                exact fin hO (oneV_nl _ _ _) (body_1127yo hC s i _ hid hlt b hil hi hat hat2 _ hdg hdp hb3 h34 h39 (by omega) hsy hbr hlc hac hwc _ rfl hw5 hse (by simpa using hse)))
  refine ⟨g, hg, fun s i h1 h2 => ?_⟩
  obtain ⟨r, ⟨s', i', v, e, rfl, _, hv⟩, hr⟩ := hs _ ⟨s, i, h1, h2, rfl⟩
  simp only [List.cons.injEq, V.s.injEq, V.i.injEq, true_and, and_true] at e
  obtain ⟨rfl, e⟩ := e
  have : i = i' := by omega
  subst this
  exact ⟨v, hv, hr⟩
abbrev Tk := Int × List UInt8 × Int × Bool
def tkL (x : Tk) : List V := [.i .i64 x.1, .s x.2.1, .i .i64 x.2.2.1, .b x.2.2.2]
def tkC (l : List Tk) : List V := l.flatMap tkL
theorem tkC_length (l : List Tk) : (tkC l).length = l.length * 4 := by
  induction l with
  | nil => rfl
  | cons x l ih => simp only [tkC, List.flatMap_cons, List.length_append, List.length_cons] at ih ⊢; rw [ih]; simp [tkL]; omega
theorem tkC_snoc (l : List Tk) (x : Tk) : tkC (l ++ [x]) = tkC l ++ tkL x := by simp [tkC]
def OutAt (H : Heap) (v : V) (l : List Tk) : Prop := ∃ (n : Nat) (cap : Option Nat) (kd : BK), v = .sl n 4 0 l.length cap ∧ H[n]? = some (some { ty := 125, cells := tkC l, kind := kd }) ∧ kd ≠ .map ∧ ((cap = some 0 ∧ l = []) ∨ cap = none)
inductive ScanS (s : List UInt8) : Nat → List Tk → (List Tk ⊕ (Int × Int)) → Prop
  | opn {i : Nat} {l : List Tk} (h : 0 ≤ (blkF s (s.length + 1) i false).2.2) : ScanS s i l (.inr ((blkF s (s.length + 1) i false).2.2, 32))
  | done {i : Nat} {l : List Tk} (h : ¬ 0 ≤ (blkF s (s.length + 1) i false).2.2) (h2 : (blkF s (s.length + 1) i false).1 = s.length) : ScanS s i l (.inl l)
  | bad {i : Nat} {l : List Tk} {c : Int} (h : ¬ 0 ≤ (blkF s (s.length + 1) i false).2.2) (h2 : (blkF s (s.length + 1) i false).1 < s.length) (hc : c ≠ 0) (hv : OneR s (blkF s (s.length + 1) i false).1 (oneE c)) : ScanS s i l (.inr (((blkF s (s.length + 1) i false).1 : Nat), c))
  | step {i e : Nat} {l : List Tk} {k : Int} {t : List UInt8} {r : List Tk ⊕ (Int × Int)} (h : ¬ 0 ≤ (blkF s (s.length + 1) i false).2.2) (h2 : (blkF s (s.length + 1) i false).1 < s.length) (hv : OneR s (blkF s (s.length + 1) i false).1 (oneV k t e)) (h3 : (blkF s (s.length + 1) i false).1 < e) (h4 : e ≤ s.length) (hr : ScanS s e (l ++ [(k, t, (((blkF s (s.length + 1) i false).1 : Nat) : Int), (blkF s (s.length + 1) i false).2.1 || ((l.length : Int) == 0))]) r) : ScanS s i l r
def ScanO (H : Heap) : List Tk ⊕ (Int × Int) → V → Int → Int → Prop
  | .inl l, v, a, c => OutAt H v l ∧ a = 0 ∧ c = 0
  | .inr p, v, a, c => v = .nils ∧ a = p.1 ∧ c = p.2
theorem bsTok (v : Tk) (H : Heap) : evBuildSlice TT 121 1 [(0, .agg (tkL v))] H = .val (.sl H.length 4 0 1 (some 1)) (H ++ [some { ty := 125, cells := tkL v, kind := .all }]) := by
  have e1 : TT.und 121 = some (.slice 125) := rfl
  have e2 : TT.size 125 = some 4 := rfl
  have e3 : TT.zero 125 = some (.agg [.i .i64 0, .s [], .i .i64 0, .b false]) := rfl
  simp only [evBuildSlice, e1, e2, e3]
  simp [reps, fillV, splice, newB_eq, V.cells, tkL]
theorem appTok {H : Heap} {v : V} {l : List Tk} (h : OutAt H v l) (hl : l.length < 100000000) (x : Tk) {q : Nat} (hq : H[q]? = some (some { ty := 125, cells := tkL x, kind := .all })) :
    ∃ v2 H2, evAppend TT 121 v (.sl q 4 0 1 (some 1)) H = .val v2 H2 ∧ OutAt H2 v2 (l ++ [x]) := by
  obtain ⟨n, cap, kd, rfl, hn, hk, hcap⟩ := h
  have e1 : TT.und 121 = some (.slice 125) := rfl
  have e2 : TT.size 125 = some 4 := rfl
  have e3 : TT.zero 125 = some (.agg [.i .i64 0, .s [], .i .i64 0, .b false]) := rfl
  have e4 : TT.bytes 125 = some 40 := rfl
  have c1 : cellsAt H q = some { ty := 125, cells := tkL x, kind := .all } := by simp [cellsAt, hq]
  have c2 : cellsAt H n = some { ty := 125, cells := tkC l, kind := kd } := by simp [cellsAt, hn, hk]
  have c3 : cut (tkL x) (0 * 4) (1 * 4) = some (tkL x) := by simp [cut, tkL]
  have c4 : cut (tkC l) (0 * 4) (l.length * 4) = some (tkC l) := by simp [cut, ← tkC_length]
  have hlen := tkC_length l
  have f1 : (tkL x).all flat = true := by simp [tkL, flat]
  have f2 : (V.agg [.i .i64 0, .s [], .i .i64 0, .b false]).cells.length = 4 := rfl
  simp only [evAppend, e1, e2, e3, e4, appended, c1, c2, c3, c4, Option.map_some, if_true]
  rw [if_pos ⟨by decide, f2, by decide, f1⟩, if_pos ⟨trivial, by omega, by omega⟩]
  simp only [newB_eq, setK_eq]
  rw [if_neg (by decide)]
  rcases hcap with ⟨rfl, rfl⟩ | rfl
  · simp only
    rw [if_neg (by simp)]
    exact ⟨_, _, rfl, H.length, none, .more, by simp, by simp [tkC], by simp, .inr rfl⟩
  · simp only
    rw [if_pos ⟨trivial, by omega, trivial⟩]
    refine ⟨_, _, rfl, H.length, none, .more, by simp, ?_, by simp, .inr rfl⟩
    rw [tkC_snoc]
    simp
theorem OutAt.ext {H : Heap} {v : V} {l : List Tk} (h : OutAt H v l) (K : Heap) : OutAt (H ++ K) v l := by
  obtain ⟨n, cap, kd, rfl, hn, hk, hcap⟩ := h
  exact ⟨n, cap, kd, rfl, by rw [List.getElem?_append_left (List.getElem?_eq_some_iff.1 hn).1]; exact hn, hk, hcap⟩
theorem OutAt.len {H : Heap} {v : V} {l : List Tk} (h : OutAt H v l) : evLen TT 121 v = some (.i .i64 l.length) := by
  obtain ⟨n, cap, kd, rfl, hn, hk, hcap⟩ := h
  have e1 : TT.und 121 = some (.slice 125) := rfl
  simp only [evLen, e1]
theorem loop1099 {call : CallF} (hC : call.Sound Tryz.prog TT) (s : List UInt8) (hsl : s.length < 20000000) (hbk : ∀ i : Nat, i ≤ s.length → ∀ H, call 126 [.s s, .i .i64 i] H = .val (.tup [.i .i64 (blkF s (s.length + 1) i false).1, .b (blkF s (s.length + 1) i false).2.1, .i .i64 (blkF s (s.length + 1) i false).2.2]) H)
    (hon : ∀ i : Nat, i < s.length → ∃ v, OneR s i v ∧ ∀ H, call 127 [.s s, .i .i64 i] H = .val v H) {Q : Out → Prop} : ∀ (n i : Nat) (l : List Tk) (v : V) (t : Tm) (H : Heap), s.length - i < n → i ≤ s.length → OutAt H v l → l.length ≤ i →
    t.wid = 57 → t.get 0 = .s s → t.get 5 = v → t.get 6 = .i .i64 i →
    (∀ (t' : Tm) (H' : Heap) (r : List Tk ⊕ (Int × Int)), ScanS s i l r → ∀ (u : V) (a c : Int), t'.get 2 = u → t'.get 3 = .i .i64 a → t'.get 4 = .i .i64 c → ScanO H' r u a c → Q (.ret t' H')) →
    LTri Tryz.prog TT (sub [true, true, true, true, false, false] (bodyOf Tryz.f99)) t H Q := by
 intro n
 induction n with
 | zero => intro i l v t H h; omega
 | succ n ih =>
   intro i l v t H hn hil hO hli hw h0 h5 h6 hR
   have hblk := hbk i hil
   have hbl := blkF_le s (s.length + 1) i false hil
   by_cases hop : 0 ≤ (blkF s (s.length + 1) i false).2.2
   · have hbo : True := trivial
     have hF := ai @h0 (ai @h5 (ai @h6 (ai @hblk @hop)))
     refine LTri.round' ?_
     apply bK
     apply rS hC
     · iterate 10 refine oA ?_
       rfl
     apply sQ
     apply rS hC
     · iterate 2 refine oA ?_
       rfl
     refine cT (by simp [hF] <;> rfl) ?_
     apply rS hC
     · iterate 4 refine oA ?_
       rfl
     apply Tri.ret
     apply sR
     apply bR
     refine inLoop_ret ?_
     exact hR _ _ (.inr _) (.opn hop) _ _ _ (by simp) (by simp) (by simp) ⟨rfl, rfl, rfl⟩
   · by_cases hnx0 : (blkF s (s.length + 1) i false).1 = s.length
     · have hnx : (((blkF s (s.length + 1) i false).1 : Int) == s.length) = true := by rw [hnx0]; simp
       have hF := ai @h0 (ai @h5 (ai @h6 (ai @hblk (ai @hop @hnx))))
       refine LTri.round' ?_
       apply bK
       apply rS hC
       · iterate 10 refine oA ?_
         rfl
       apply sQ
       apply rS hC
       · iterate 2 refine oA ?_
         rfl
       refine cF (by simp [hF] <;> rfl) ?_
       apply Tri.skip
       apply sN
       apply sQ
       apply rS hC
       · iterate 4 refine oA ?_
         rfl
       refine cT (by simp [hF] <;> rfl) ?_
       apply rS hC
       · iterate 4 refine oA ?_
         rfl
       apply Tri.ret
       apply sR
       apply bR
       refine inLoop_ret ?_
       exact hR _ _ (.inl l) (.done hop hnx0) _ _ _ (by simp [h5]) (by simp) (by simp) ⟨hO, rfl, rfl⟩
     · have hnl : (blkF s (s.length + 1) i false).1 < s.length := by omega
       have hnx : (((blkF s (s.length + 1) i false).1 : Int) == s.length) = false := by simp; omega
       obtain ⟨w, hv, hone⟩ := hon _ hnl
       rcases OneR_ok hv hnl with ⟨c, hc0, rfl⟩ | ⟨k, tx, e, rfl, h3, hel⟩
       · have hc : (c != 0) = true := by simpa using hc0
         simp only [oneE, tokV] at hone
         have hF := ai @h0 (ai @h5 (ai @h6 (ai @hblk (ai @hop (ai @hnx (ai @hone @hc))))))
         refine LTri.round' ?_
         apply bK
         apply rS hC
         · iterate 10 refine oA ?_
           rfl
         apply sQ
         apply rS hC
         · iterate 2 refine oA ?_
           rfl
         refine cF (by simp [hF] <;> rfl) ?_
         apply Tri.skip
         apply sN
         apply sQ
         apply rS hC
         · iterate 4 refine oA ?_
           rfl
         refine cF (by simp [hF] <;> rfl) ?_
         apply Tri.skip
         apply sN
         apply rS hC
         · iterate 11 refine oA ?_
           rfl
         apply sQ
         apply rS hC
         · iterate 2 refine oA ?_
           rfl
         refine cT (by simp [hF] <;> rfl) ?_
         apply rS hC
         · iterate 5 refine oA ?_
           rfl
         apply Tri.ret
         apply sR
         apply bR
         refine inLoop_ret ?_
         exact hR _ _ (.inr _) (.bad hop hnl hc0 hv) _ _ _ (by simp) (by simp) (by simp) ⟨rfl, rfl, rfl⟩
       · simp only [oneV, tokV] at hone
         have hv2 : True := trivial
         cases hln : (blkF s (s.length + 1) i false).2.1 with
         | true =>
           rw [hln] at hblk
           obtain ⟨v2, H2, hap, hO2⟩ := appTok (hO.ext [some { ty := 125, cells := tkL (k, tx, (((blkF s (s.length + 1) i false).1 : Nat) : Int), true), kind := .all }, some { ty := 125, cells := tkL (k, tx, (((blkF s (s.length + 1) i false).1 : Nat) : Int), true), kind := .all }]) (by omega) (k, tx, (((blkF s (s.length + 1) i false).1 : Nat) : Int), true) (q := H.length + 1) (by simp)
           have bsTok4 := bsTok (k, tx, (((blkF s (s.length + 1) i false).1 : Nat) : Int), true) (H ++ [some { ty := 125, cells := tkL (k, tx, (((blkF s (s.length + 1) i false).1 : Nat) : Int), true), kind := .all }])
           simp only [tkL, List.length_append, List.length_cons, List.length_nil, Nat.zero_add, List.append_assoc, List.cons_append, List.nil_append] at hap bsTok4
           have hlv := hO.len
           have hF := ai @h0 (ai @h5 (ai @h6 (ai @hblk (ai @hop (ai @hnx (ai @hone (ai @hln (ai @hv2 (ai @bsTok4 @hap)))))))))
           refine LTri.round' ?_
           apply bK
           apply rS hC
           · iterate 10 refine oA ?_
             rfl
           apply sQ
           apply rS hC
           · iterate 2 refine oA ?_
             rfl
           refine cF (by simp [hF] <;> rfl) ?_
           apply Tri.skip
           apply sN
           apply sQ
           apply rS hC
           · iterate 4 refine oA ?_
             rfl
           refine cF (by simp [hF] <;> rfl) ?_
           apply Tri.skip
           apply sN
           apply rS hC
           · iterate 11 refine oA ?_
             rfl
           apply sQ
           apply rS hC
           · iterate 2 refine oA ?_
             rfl
           refine cF (by simp [hF] <;> rfl) ?_
           apply Tri.skip
           apply sN
           apply rS hC
           · iterate 3 refine oA ?_
             rfl
           apply rS hC
           · iterate 2 refine oA ?_
             iterate 3 refine oC ?_
             iterate 3 refine oA ?_
             rfl
           apply rS hC
           · iterate 5 refine oA ?_
             rfl
           apply rN hC
           · iterate 2 refine oA ?_
             rfl
           apply bN
           refine inLoop_norm ?_
           refine ih e (l ++ [(k, tx, (((blkF s (s.length + 1) i false).1 : Nat) : Int), true)]) v2 _ H2 (by omega) hel hO2 (by simp; omega) (by simp [hw]) (by simp [h0]) (by simp) (by simp) (fun t' H' r k1 => hR t' H' r (.step hop hnl hv h3 hel (by rw [hln]; exact k1)))
         | false =>
           rw [hln] at hblk
           obtain ⟨v2, H2, hap, hO2⟩ := appTok (hO.ext [some { ty := 125, cells := tkL (k, tx, (((blkF s (s.length + 1) i false).1 : Nat) : Int), ((l.length : Int) == 0)), kind := .all }, some { ty := 125, cells := tkL (k, tx, (((blkF s (s.length + 1) i false).1 : Nat) : Int), ((l.length : Int) == 0)), kind := .all }]) (by omega) (k, tx, (((blkF s (s.length + 1) i false).1 : Nat) : Int), ((l.length : Int) == 0)) (q := H.length + 1) (by simp)
           have bsTok4 := bsTok (k, tx, (((blkF s (s.length + 1) i false).1 : Nat) : Int), ((l.length : Int) == 0)) (H ++ [some { ty := 125, cells := tkL (k, tx, (((blkF s (s.length + 1) i false).1 : Nat) : Int), ((l.length : Int) == 0)), kind := .all }])
           simp only [tkL, List.length_append, List.length_cons, List.length_nil, Nat.zero_add, List.append_assoc, List.cons_append, List.nil_append] at hap bsTok4
           have hlv := hO.len
           have hF := ai @h0 (ai @h5 (ai @h6 (ai @hblk (ai @hop (ai @hnx (ai @hone (ai @hln (ai @hv2 (ai @bsTok4 (ai @hap @hlv))))))))))
           refine LTri.round' ?_
           apply bK
           apply rS hC
           · iterate 10 refine oA ?_
             rfl
           apply sQ
           apply rS hC
           · iterate 2 refine oA ?_
             rfl
           refine cF (by simp [hF] <;> rfl) ?_
           apply Tri.skip
           apply sN
           apply sQ
           apply rS hC
           · iterate 4 refine oA ?_
             rfl
           refine cF (by simp [hF] <;> rfl) ?_
           apply Tri.skip
           apply sN
           apply rS hC
           · iterate 11 refine oA ?_
             rfl
           apply sQ
           apply rS hC
           · iterate 2 refine oA ?_
             rfl
           refine cF (by simp [hF] <;> rfl) ?_
           apply Tri.skip
           apply sN
           apply rS hC
           · iterate 3 refine oA ?_
             rfl
           apply rS hC
           · iterate 2 refine gO (by simp [hF, -evLen] <;> rfl) ?_
             iterate 3 refine gW (by simp [wants, hF, -evLen]) (by simp [hF, -evLen] <;> rfl) ?_
             iterate 3 refine gO (by simp [hF, -evLen] <;> rfl) ?_
             rfl
           apply rS hC
           · iterate 5 refine oA ?_
             rfl
           apply rN hC
           · iterate 2 refine oA ?_
             rfl
           apply bN
           refine inLoop_norm ?_
           refine ih e (l ++ [(k, tx, (((blkF s (s.length + 1) i false).1 : Nat) : Int), ((l.length : Int) == 0))]) v2 _ H2 (by omega) hel hO2 (by simp; omega) (by simp [hw]) (by simp [h0]) (by simp) (by simp) (fun t' H' r k1 => hR t' H' r (.step hop hnl hv h3 hel (by rw [hln]; exact k1)))

def ScnR (s : List UInt8) (r : List Tk ⊕ (Int × Int)) : Prop := if 20000 < s.length then r = .inr (0, 16) else ScanS s 0 [] r
theorem bsTok0 : evBuildSlice TT 121 0 [] [] = .val (.sl 0 4 0 0 (some 0)) [some { ty := 125, cells := [], kind := .all }] := by
  have e1 : TT.und 121 = some (.slice 125) := rfl
  have e2 : TT.size 125 = some 4 := rfl
  have e3 : TT.zero 125 = some (.agg [.i .i64 0, .s [], .i .i64 0, .b false]) := rfl
  simp only [evBuildSlice, e1, e2, e3]
  simp [reps, fillV, splice, newB_eq, V.cells]
theorem body_1099l {call : CallF} (hC : call.Sound Tryz.prog TT) (s : List UInt8) (hl : ¬ (s.length : Int) ≤ 20000)  : HBody Tryz.prog TT 99 [.s s] [] (fun v K => ∃ r u a c, ScnR s r ∧ ScanO K r u a c ∧ v = .tup [u, .i .i64 a, .i .i64 c]) := by
 refine en Tryz.f99 rfl rfl (by simp [Tryz.f99]) 57 rfl fun t hw hg => ?_
 have h0 := hg 0 _ rfl
 clear hg
 try simp only [Nd.enc_eq] at *
 apply rS hC
 · iterate 3 refine oA ?_
   rfl
 apply sQ
 apply rS hC
 · iterate 3 refine oA ?_
   rfl
 refine Tri.condG (o := ?o3) (b := ?b3) ?g3 ?r3 ?y3 ?n3
 case g3 => simp [h0, hl] <;> rfl
 case r3 => rfl
 case y3 =>
  intro hy3
  apply rS hC
  · iterate 3 refine oA ?_
    rfl
  apply Tri.ret
  apply sR
  exact endsH (by simp [Tryz.f99] <;> rfl) (by rfl) ⟨.inr (0, 16), .nils, 0, 16, by unfold ScnR; rw [if_pos (by omega)], ⟨rfl, rfl, rfl⟩, rfl⟩
 case n3 =>
  intro hn3
  exact absurd hn3 (by simp [h0, hl])
theorem body_1099m {call : CallF} (hC : call.Sound Tryz.prog TT) (s : List UInt8) (hl : (s.length : Int) ≤ 20000) (hbk : ∀ i : Nat, i ≤ s.length → ∀ H, call 126 [.s s, .i .i64 i] H = .val (.tup [.i .i64 (blkF s (s.length + 1) i false).1, .b (blkF s (s.length + 1) i false).2.1, .i .i64 (blkF s (s.length + 1) i false).2.2]) H)
    (hon : ∀ i : Nat, i < s.length → ∃ v, OneR s i v ∧ ∀ H, call 127 [.s s, .i .i64 i] H = .val v H)  : HBody Tryz.prog TT 99 [.s s] [] (fun v K => ∃ r u a c, ScnR s r ∧ ScanO K r u a c ∧ v = .tup [u, .i .i64 a, .i .i64 c]) := by
 refine en Tryz.f99 rfl rfl (by simp [Tryz.f99]) 57 rfl fun t hw hg => ?_
 have h0 := hg 0 _ rfl
 clear hg
 try simp only [Nd.enc_eq] at *
 have hF := ai @h0 (ai @hl @bsTok0)
 apply rS hC
 · iterate 3 refine oA ?_
   rfl
 apply sQ
 apply rS hC
 · iterate 3 refine oA ?_
   rfl
 refine Tri.condG (o := ?o3) (b := ?b3) ?g3 ?r3 ?y3 ?n3
 case g3 => simp [hF] <;> rfl
 case r3 => rfl
 case y3 =>
  intro hy3
  exact absurd hy3 (by simp [hF])
 case n3 =>
  intro hn3
  apply Tri.skip
  apply sN
  apply rS hC
  · iterate 2 refine oA ?_
    rfl
  apply rS hC
  · refine oA ?_
    rfl
  apply bK
  refine Tri.loop ?_
  refine loop1099 hC s (by omega) hbk hon (s.length + 1) 0 [] (.sl 0 4 0 0 (some 0)) _ _ (by omega) (by omega) ⟨0, some 0, .all, rfl, rfl, by simp, .inl ⟨rfl, rfl⟩⟩ (by simp) (by simp [hw]) (by simp [h0]) (by simp) (by simp) ?ret
  case ret =>
   intro t2 H2 r hr u a c q2 q3 q4 ho
   apply bR
   exact endsH (by simp [Tryz.f99, q2, q3, q4] <;> rfl) (by rfl) ⟨r, u, a, c, by unfold ScnR; rw [if_neg (by omega)]; exact hr, ho, rfl⟩
def ScnV : List Tk ⊕ (Int × Int) → V
  | .inl l => .tup [.isl 4 (l.map fun x => .agg (tkL x)), .i .i64 0, .i .i64 0]
  | .inr p => .tup [.nils, .i .i64 p.1, .i .i64 p.2]
theorem rowsOf_tk : ∀ l : List Tk, rowsOf 4 l.length (tkC l) = some (l.map fun x => V.agg (tkL x))
  | [] => rfl
  | x :: l => by
    have ih := rowsOf_tk l
    simp only [tkC] at ih
    simp [rowsOf, tkC, tkL, ih]
theorem fzL_tk {H : Heap} : ∀ (l : List Tk) (n : Nat), 4 * l.length + 5 ≤ n → fzL H n (tkC l) = some (tkC l)
  | [], n, h => by cases n <;> simp [tkC, Ev.fzL]
  | x :: l, n, h => by
    obtain ⟨m, rfl⟩ : ∃ m, n = m + 5 := ⟨n - 5, by simp only [List.length_cons] at h; omega⟩
    have ih := fzL_tk (H := H) l (m + 1) (by simp only [List.length_cons] at h; omega)
    have e : tkC (x :: l) = .i .i64 x.1 :: .s x.2.1 :: .i .i64 x.2.2.1 :: .b x.2.2.2 :: tkC l := by simp [tkC, tkL]
    rw [e]
    simp [Ev.fzL, fz, ih]
theorem fz_scan {J : Heap} {r : List Tk ⊕ (Int × Int)} {u : V} {a c : Int} (h : ScanO J r u a c) : ∃ k, fz J k (.tup [u, .i .i64 a, .i .i64 c]) = some (ScnV r) := by
  cases r with
  | inr p =>
    obtain ⟨rfl, rfl, rfl⟩ := h
    exact ⟨5, by simp [fz, Ev.fzL, ScnV]⟩
  | inl l =>
    obtain ⟨⟨n, cap, kd, rfl, hn, hk, _⟩, rfl, rfl⟩ := h
    refine ⟨4 * l.length + 10, ?_⟩
    have hc : cellsAt J n = some { ty := 125, cells := tkC l, kind := kd } := by simp [cellsAt, hn, hk]
    have hlen := tkC_length l
    have hcut : cut (tkC l) (0 * 4) (l.length * 4) = some (tkC l) := by
      simp only [cut]
      rw [if_pos (by omega), Nat.zero_mul, List.drop_zero, List.take_of_length_le (by omega)]
    have hf := fzL_tk (H := J) l (4 * l.length + 7) (by omega)
    have hf1 : fz J (4 * l.length + 8) (.sl n 4 0 l.length cap) = some (.isl 4 (l.map fun x => V.agg (tkL x))) := by
      simp only [fz, hc, hcut, hf, rowsOf_tk, Option.map_some]
    have e2 : Ev.fzL J (4 * l.length + 8) [V.i .i64 0, V.i .i64 0] = some [V.i .i64 0, V.i .i64 0] := by simp [Ev.fzL, fz]
    have e1 : Ev.fzL J (4 * l.length + 9) (V.sl n 4 0 l.length cap :: [V.i .i64 0, V.i .i64 0]) = some (V.isl 4 (l.map fun x => V.agg (tkL x)) :: [V.i .i64 0, V.i .i64 0]) := by
      rw [Ev.fzL, hf1, e2]
    rw [fz, e1]
    rfl
theorem sp1099 : ∃ g, SpecOK Tryz.prog TT 99 g ∧ ∀ s : List UInt8, s.length < 100000000 → ∃ r, ScnR s r ∧ ∀ H, g [.s s] H = .val (ScnV r) H := by
  obtain ⟨g1, k1, s1⟩ := sp1126
  obtain ⟨g2, k2, s2⟩ := sp1127
  obtain ⟨g0, k0, s0⟩ := HFact.spec (F := 99) TT_ok (D := fun vs K => K = [] ∧ ∃ s : List UInt8, s.length < 100000000 ∧ vs = [.s s]) (R := fun vs _ v K => ∃ (s : List UInt8) (r : List Tk ⊕ (Int × Int)) (u : V) (a c : Int), vs = [.s s] ∧ ScnR s r ∧ ScanO K r u a c ∧ v = .tup [u, .i .i64 a, .i .i64 c]) (by
    rintro vs K ⟨rfl, s, hs, rfl⟩
    have hC := ws (ws n0 k1) k2
    generalize hd : (CallF.none.with 126 g1).with 127 g2 = call at hC
    have c1 : ∀ vs H, call 126 (vs) H = g1 vs H := fun vs H => by rw [← hd]; simp [CallF.with]
    have c2 : ∀ vs H, call 127 (vs) H = g2 vs H := fun vs H => by rw [← hd]; simp [CallF.with]
    clear hd
    by_cases hl : (s.length : Int) ≤ 20000
    · refine (HBody.fact TT_ok (body_1099m hC s hl (fun i hi H => (c1 _ H).trans (s1 s i hs hi H)) fun i hi => ?_)).mono fun v H' ⟨r, u, a, c, h⟩ => ⟨s, r, u, a, c, rfl, h⟩
      obtain ⟨v, hv, h⟩ := s2 s i (by omega) hi
      exact ⟨v, hv, fun H => (c2 _ H).trans (h H)⟩
    · exact (HBody.fact TT_ok (body_1099l hC s hl)).mono fun v H' ⟨r, u, a, c, h⟩ => ⟨s, r, u, a, c, rfl, h⟩)
  obtain ⟨g, hg, hs⟩ := spec_frz TT_plain k0 (fun vs => ∃ s : List UInt8, s.length < 100000000 ∧ vs = [.s s]) (fun vs v => ∃ (s : List UInt8) (r : List Tk ⊕ (Int × Int)), vs = [.s s] ∧ ScnR s r ∧ v = ScnV r) (by
    rintro vs ⟨s, h, rfl⟩
    refine ⟨rfl, ?_⟩
    obtain ⟨v, J, ⟨s', r, u, a, c, e, hr, ho, rfl⟩, h2⟩ := s0 [.s s] [] ⟨rfl, s, h, rfl⟩
    obtain ⟨k, hk⟩ := fz_scan ho
    exact ⟨_, J, k, _, h2, hk, s', r, e, hr, rfl⟩)
  refine ⟨g, hg, fun s h => ?_⟩
  obtain ⟨v, ⟨s', r, e, hr, rfl⟩, h2⟩ := hs _ ⟨s, h, rfl⟩
  simp only [List.cons.injEq, V.s.injEq, and_true] at e
  subst e
  exact ⟨r, hr, h2⟩
def Digs (d : List UInt8) : Prop := (∀ b ∈ d, digB b) ∧ d ≠ []
theorem digN_cases (c : Int) : (48 ≤ c ∧ c ≤ 57 ∧ digN c = c - 48) ∨ (¬ (48 ≤ c ∧ c ≤ 57) ∧ (10 ≤ digN c ∨ digN c = -1)) := by
  unfold digN
  by_cases h : 48 ≤ c ∧ c ≤ 57
  · rw [if_pos h]; exact .inl ⟨h.1, h.2, rfl⟩
  · rw [if_neg h]
    refine .inr ⟨h, ?_⟩
    by_cases h2 : 97 ≤ c ∧ c ≤ 102
    · rw [if_pos h2]; omega
    · rw [if_neg h2]
      by_cases h3 : 65 ≤ c ∧ c ≤ 70
      · rw [if_pos h3]; omega
      · rw [if_neg h3]; omega
theorem digR10 (b : UInt8) : 0 ≤ digR b.toNat 10 ↔ digB b := by
  unfold digR digB
  rcases digN_cases b.toNat with ⟨h1, h2, h3⟩ | ⟨h1, h2⟩
  · rw [h3, if_neg (by omega)]; omega
  · rcases h2 with h2 | h2
    · rw [if_pos h2]; omega
    · rw [h2, if_neg (by omega)]; omega
theorem digR10_neg (b : UInt8) (h : ¬ digB b) : ¬ 0 ≤ digR b.toNat 10 := fun k => h ((digR10 b).1 k)
def Stop (l : List UInt8) : Prop := ∀ b, l.head? = some b → ¬ digB b ∧ b ≠ 95
theorem digL_run : ∀ (d rest out : List UInt8) (pd : Bool), (∀ b ∈ d, digB b) → Stop rest → digL 10 (d ++ rest) out pd = (d.length, out ++ d)
  | [], [], out, pd, _, _ => by simp [digL]
  | [], b :: L, out, pd, _, hs => by
    obtain ⟨h1, h2⟩ := hs b rfl
    simp only [List.nil_append, digL]
    rw [if_neg (digR10_neg b h1), if_neg (fun h => h2 h.1)]
    simp
  | b :: d, rest, out, pd, hd, hs => by
    have ih := digL_run d rest (out ++ [b]) true (fun x hx => hd x (by simp [hx])) hs
    simp only [List.cons_append, digL]
    rw [if_pos ((digR10 b).2 (hd b (by simp))), ih]
    simp
theorem digL_pre (base : Int) : ∀ (L out : List UInt8) (pd : Bool), ∃ m, (digL base L out pd).2 = out ++ m
  | [], out, pd => ⟨[], by simp [digL]⟩
  | b :: L, out, pd => by
    simp only [digL]
    split
    · obtain ⟨m, hm⟩ := digL_pre base L (out ++ [b]) true
      exact ⟨b :: m, by rw [hm]; simp⟩
    · split
      · obtain ⟨m, hm⟩ := digL_pre base L out false
        exact ⟨m, hm⟩
      · exact ⟨[], by simp⟩
theorem drop_cons {s : List UInt8} {i : Nat} {b : UInt8} (h : s[i]? = some b) : s.drop i = b :: s.drop (i + 1) := by
  obtain ⟨h1, rfl⟩ := List.getElem?_eq_some_iff.1 h
  exact List.drop_eq_getElem_cons h1
theorem atR_pos {s : List UInt8} {i : Nat} (h : atR s i ≠ 0) : ∃ b, s[i]? = some b ∧ atR s i = b.toNat := by
  have := atR_in h
  exact ⟨s[i], List.getElem?_eq_getElem this, atR_get (List.getElem?_eq_getElem this)⟩
theorem digL_ne {s : List UInt8} {i : Nat} (h : 0 ≤ digR (atR s i) 10) : (digL 10 (s.drop i) [] false).2 ≠ [] := by
  have h0 : atR s i ≠ 0 := fun e => by rw [e] at h; exact absurd h (by decide)
  obtain ⟨b, hb, hb2⟩ := atR_pos h0
  rw [drop_cons hb]
  rw [hb2] at h
  simp only [digL]
  rw [if_pos h]
  obtain ⟨m, hm⟩ := digL_pre 10 (s.drop (i + 1)) ([] ++ [b]) true
  simp only [hm]
  simp
theorem digL_digB {L : List UInt8} {b : UInt8} (h : b ∈ (digL 10 L [] false).2) : digB b :=
  (digR10 b).1 (digL_digs 10 L [] false (fun _ h => by cases h) b h)
theorem begR_hd {s : List UInt8} {i : Nat} {x : UInt8} {t : List UInt8} (h : begR s i (x :: t) = true) : s[i]? = some x := by
  simp only [begR, Bool.and_eq_true, beq_iff_eq, decide_eq_true_eq, List.length_cons] at h
  have h2 : ((s.take (i + (t.length + 1))).drop i)[0]? = some x := by rw [h.2]; rfl
  rw [List.getElem?_drop, List.getElem?_take_of_lt (by omega)] at h2
  simpa using h2
theorem begR_not {s : List UInt8} {i : Nat} {x b : UInt8} {t : List UInt8} (h : s[i]? = some b) (hne : b ≠ x) : begR s i (x :: t) = false := by
  cases hb : begR s i (x :: t) with
  | false => rfl
  | true => rw [begR_hd hb] at h; exact absurd (Option.some.inj h).symm hne
theorem begR_snd {s : List UInt8} {i : Nat} {x y : UInt8} (h : begR s i [x, y] = true) : s[i + 1]? = some y := by
  simp only [begR, Bool.and_eq_true, beq_iff_eq, decide_eq_true_eq, List.length_cons, List.length_nil] at h
  have h2 : ((s.take (i + (0 + 1 + 1))).drop i)[1]? = some y := by rw [h.2]; rfl
  rw [List.getElem?_drop, List.getElem?_take_of_lt (by omega)] at h2
  exact h2
theorem blk_end (s : List UInt8) (n i : Nat) (l : Bool) (h : s.length ≤ i) : blkF s (n + 1) i l = (i, l, -1) := by
  rw [blkF, if_pos h]
theorem blk_here {s : List UInt8} {n i : Nat} {l : Bool} {b : UInt8} (h : s[i]? = some b) (hb : ∀ x ∈ [10, 32, 9, 13, 47], b ≠ x) : blkF s (n + 1) i l = (i, l, -1) := by
  obtain ⟨h1, _⟩ := List.getElem?_eq_some_iff.1 h
  have ne : ∀ x : UInt8, b ≠ x → ((b.toNat : Int) == (x.toNat : Int)) = false := fun x hx => by
    rw [beq_eq_false_iff_ne]
    intro e
    exact hx (u8_inj (by omega))
  have e10 := ne 10 (hb 10 (by simp))
  have e32 := ne 32 (hb 32 (by simp))
  have e9 := ne 9 (hb 9 (by simp))
  have e13 := ne 13 (hb 13 (by simp))
  simp only [show ((10 : UInt8).toNat : Int) = 10 from rfl, show ((32 : UInt8).toNat : Int) = 32 from rfl, show ((9 : UInt8).toNat : Int) = 9 from rfl, show ((13 : UInt8).toNat : Int) = 13 from rfl] at e10 e32 e9 e13
  rw [blkF, if_neg (by omega), atR_get h, if_neg (by rw [e10]; simp), if_neg (by rw [e32, e9, e13]; simp), if_neg (by rw [begR_not h (hb 47 (by simp))]; simp), if_neg (by rw [begR_not h (hb 47 (by simp))]; simp)]
theorem dig_blank {b : UInt8} (h : digB b) : ∀ x ∈ [10, 32, 9, 13, 47], b ≠ x := by
  rintro x hx rfl
  unfold digB at h
  simp only [List.mem_cons, List.not_mem_nil, or_false] at hx
  rcases hx with rfl | rfl | rfl | rfl | rfl <;> revert h <;> decide
theorem idR_dig {s : List UInt8} {i : Nat} {b : UInt8} (h : s[i]? = some b) (hb : digB b) : idR s i = i := by
  unfold digB at hb
  rw [idR, if_pos]
  rw [atR_get h]
  simp only [letR, Bool.and_eq_true, Bool.not_eq_true', Bool.or_eq_false_iff, Bool.and_eq_false_iff, decide_eq_false_iff_not, bne_iff_ne]
  omega
theorem scan_whole {s : List UInt8} {b : UInt8} {k : Int} {t : List UInt8} (hl : s.length ≤ 20000) (hb : s[0]? = some b) (hd : digB b) (hN : ∀ v, NumR s 0 v → v = okV k t s.length) {r : List Tk ⊕ (Int × Int)} (h : ScnR s r) : r = .inl [(k, t, 0, true)] := by
  unfold ScnR at h
  rw [if_neg (by omega)] at h
  have h0 : 0 < s.length := (List.getElem?_eq_some_iff.1 hb).1
  have hblk : blkF s (s.length + 1) 0 false = (0, false, -1) := blk_here hb (dig_blank hd)
  have hone : ∀ v, OneR s 0 v → v = okV k t s.length := fun v hv => by
    unfold OneR at hv
    rw [idR_dig hb hd, if_neg (by omega), if_pos (by rw [atR_get hb]; exact (digR10 b).2 hd)] at hv
    exact hN v hv
  cases h with
  | opn h => rw [hblk] at h; simp at h
  | done h h2 => rw [hblk] at h2; simp at h2; omega
  | bad h h2 hc hv =>
    rw [hblk] at hv
    have := hone _ hv
    simp [oneE, okV] at this
    exact absurd this.2.2 hc
  | @step _ e _ k' t' _ h h2 hv h3 h4 hr =>
    rw [hblk] at hv hr
    have := hone _ hv
    simp only [oneV, okV, tokV, V.tup.injEq, List.cons.injEq, V.agg.injEq, V.i.injEq, V.s.injEq, true_and, and_true] at this
    obtain ⟨⟨rfl, rfl⟩, he⟩ := this
    have he : e = s.length := by omega
    subst he
    have hbe : blkF s (s.length + 1) s.length false = (s.length, false, -1) := blk_end s _ _ _ (Nat.le_refl _)
    cases hr with
    | opn h => rw [hbe] at h; simp at h
    | done => simp
    | bad h h2 hc hv => rw [hbe] at h2; simp at h2
    | step h h2 => rw [hbe] at h2; simp at h2
theorem ScanS_ext {s : List UInt8} {i : Nat} {l : List Tk} {r : List Tk ⊕ (Int × Int)} (h : ScanS s i l r) : ∀ l', r = .inl l' → l = l' ∨ l.length < l'.length := by
  induction h with
  | opn => intro l' e; cases e
  | done => intro l' e; exact .inl (by simpa using e)
  | bad => intro l' e; cases e
  | step h h2 hv h3 h4 hr ih =>
    intro l' e
    rcases ih l' e with rfl | h
    · exact .inr (by simp)
    · exact .inr (by simp at h; omega)
theorem scan_one {s : List UInt8} {x : Tk} {r : List Tk ⊕ (Int × Int)} (h : ScnR s r) (hr : r = .inl [x]) : s.length ≤ 20000 ∧ ∃ i e, i < s.length ∧ OneR s i (oneV x.1 x.2.1 e) := by
  unfold ScnR at h
  split at h
  · rw [h] at hr; cases hr
  · refine ⟨by omega, ?_⟩
    cases h with
    | opn => cases hr
    | done => cases hr
    | bad => cases hr
    | @step _ e _ k t _ h h2 hv h3 h4 hs =>
      rcases ScanS_ext hs _ hr with h | h
      · simp at h
        subst h
        exact ⟨_, _, h2, hv⟩
      · simp at h
def Frac (u : List UInt8) : Prop := u = [] ∨ ∃ m, Digs m ∧ u = 46 :: m
def Sgn (g : List UInt8) : Prop := g = [] ∨ g = [43] ∨ g = [45]
def Expo (x : List UInt8) : Prop := x = [] ∨ ∃ g m, Sgn g ∧ Digs m ∧ x = 101 :: (g ++ m)
def FloatF (s : List UInt8) : Prop := ∃ d f x, Digs d ∧ Frac f ∧ Expo x ∧ (f ≠ [] ∨ x ≠ []) ∧ s = d ++ (f ++ x)
theorem stop_exp {x : List UInt8} (h : Expo x) : Stop x := by
  rintro b hb
  rcases h with rfl | ⟨g, m, _, _, rfl⟩
  · cases hb
  · simp at hb; subst hb; exact ⟨by unfold digB; decide, by decide⟩
theorem stop_frac {f x : List UInt8} (hf : Frac f) (hx : Expo x) : Stop (f ++ x) := by
  rcases hf with rfl | ⟨m, _, rfl⟩
  · exact stop_exp hx
  · rintro b hb
    simp at hb; subst hb; exact ⟨by unfold digB; decide, by decide⟩
theorem stop_nil : Stop [] := fun b h => by cases h
theorem atR_app {a : List UInt8} {b : UInt8} {c : List UInt8} : atR (a ++ b :: c) a.length = b.toNat := atR_get (by simp)
theorem atR_app2 {s a : List UInt8} {b : UInt8} {c : List UInt8} {i : Nat} (h : s = a ++ b :: c) (hi : i = a.length) : atR s i = b.toNat := by subst h hi; exact atR_app
theorem atR_end {s : List UInt8} {i : Nat} (h : s.length ≤ i) : atR s i = 0 := by
  unfold atR; rw [List.getElem?_eq_none h]
theorem expR_form {s d t x : List UInt8} {e : Nat} {k : Int} (hx : Expo x) (hs : s = d ++ x) (he : e = d.length) : expR s e t k = some (s.length, t ++ x, if x = [] then k else 4) := by
  rcases hx with rfl | ⟨g, m, hg, hm, rfl⟩
  · unfold expR
    rw [atR_end (by rw [hs, he]; simp), if_neg (by decide)]
    simp [hs, he]
  · unfold expR
    have h1 : atR s e = 101 := atR_app2 hs he
    rw [h1, if_pos (by decide)]
    obtain ⟨b, m', rfl⟩ : ∃ b m', m = b :: m' := by cases m with | nil => exact absurd rfl hm.2 | cons b m' => exact ⟨b, m', rfl⟩
    have hsg : signR s (e + 1) = (e + 1 + g.length, g) := by
      unfold signR
      rcases hg with rfl | rfl | rfl
      · have h2 : atR s (e + 1) = b.toNat := atR_app2 (a := d ++ [101]) (c := m') (by rw [hs]; simp) (by rw [he]; simp)
        have hb := hm.1 b (by simp)
        unfold digB at hb
        rw [h2, if_neg]
        · simp
        · simp only [Bool.or_eq_true, beq_iff_eq]
          omega
      · have h2 : atR s (e + 1) = 43 := atR_app2 (s := s) (i := e + 1) (b := 43) (a := d ++ [101]) (c := b :: m') (by rw [hs]; simp) (by rw [he]; simp)
        rw [h2, if_pos (by decide)]
        have e1 : s.take (e + 1 + 1) = d ++ [101, 43] := by rw [hs, he, List.take_append, List.take_of_length_le (by omega), show d.length + 1 + 1 - d.length = 2 from by omega]; rfl
        rw [e1]
        simp [he, List.drop_append]
      · have h2 : atR s (e + 1) = 45 := atR_app2 (s := s) (i := e + 1) (b := 45) (a := d ++ [101]) (c := b :: m') (by rw [hs]; simp) (by rw [he]; simp)
        rw [h2, if_pos (by decide)]
        have e1 : s.take (e + 1 + 1) = d ++ [101, 45] := by rw [hs, he, List.take_append, List.take_of_length_le (by omega), show d.length + 1 + 1 - d.length = 2 from by omega]; rfl
        rw [e1]
        simp [he, List.drop_append]
    rw [hsg]
    have e2 : s.drop (e + 1 + g.length) = (b :: m') ++ [] := by
      rw [hs, he, show d ++ 101 :: (g ++ b :: m') = (d ++ 101 :: g) ++ b :: m' from by simp, List.drop_append]
      rw [List.drop_eq_nil_of_le (by simp; omega), show d.length + 1 + g.length - (d ++ 101 :: g).length = 0 from by simp; omega]
      simp
    simp only [e2, digL_run (b :: m') [] [] false hm.1 stop_nil]
    rw [if_neg (by simp)]
    simp only [Option.some.injEq, Prod.mk.injEq]
    refine ⟨?_, by simp, by simp⟩
    rw [hs, he]
    simp
    omega
theorem restR_form {s d f x : List UInt8} (hf : Frac f) (hx : Expo x) (hd : Digs d) (hs : s = d ++ (f ++ x)) : restR s d.length d = some (s.length, s, if f = [] ∧ x = [] then 3 else 4) := by
  unfold restR
  rcases hf with rfl | ⟨m, hm, rfl⟩
  · have hfr : fracR s d.length d = (d.length, d, 3) := by
      unfold fracR
      rw [if_neg]
      simp only [Bool.and_eq_true, beq_iff_eq]
      refine fun hh => absurd hh.1 ?_
      rcases hx with rfl | ⟨g, m, _, _, rfl⟩
      · rw [atR_end (by rw [hs]; simp)]; decide
      · rw [atR_app2 (a := d) (c := g ++ m) (b := 101) (by rw [hs]; simp) rfl]; decide
    rw [hfr]
    simp only
    rw [expR_form hx (by rw [hs]; simp) rfl]
    simp [hs]
  · obtain ⟨b, m', rfl⟩ : ∃ b m', m = b :: m' := by cases m with | nil => exact absurd rfl hm.2 | cons b m' => exact ⟨b, m', rfl⟩
    have hfr : fracR s d.length d = (d.length + 1 + (b :: m').length, d ++ 46 :: (b :: m'), 4) := by
      unfold fracR
      rw [if_pos]
      · have e2 : s.drop (d.length + 1) = (b :: m') ++ x := by
          rw [hs, show d ++ (46 :: b :: m' ++ x) = (d ++ [46]) ++ (b :: m' ++ x) from by simp, List.drop_append]
          simp
        rw [e2, digL_run (b :: m') x [] false hm.1 (stop_exp hx)]
        simp
      · rw [atR_app2 (a := d) (c := b :: m' ++ x) (b := 46) (by rw [hs]; simp) rfl]
        rw [atR_app2 (a := d ++ [46]) (c := m' ++ x) (b := b) (by rw [hs]; simp) (by simp)]
        simp only [Bool.and_eq_true, decide_eq_true_eq]
        exact ⟨by decide, (digR10 b).2 (hm.1 b (by simp))⟩
    rw [hfr]
    simp only
    rw [expR_form (d := d ++ 46 :: b :: m') hx (by rw [hs]; simp) (by simp; omega)]
    simp [hs]
theorem NumR_form {s d f x : List UInt8} (hf : Frac f) (hx : Expo x) (hd : Digs d) (hs : s = d ++ (f ++ x)) {v : V} (h : NumR s 0 v) : NumEnd s d 10 s.length s (if f = [] ∧ x = [] then 3 else 4) v := by
  have hstop := stop_frac hf hx
  have no2 : ∀ c : UInt8, c ≠ 46 → c ≠ 101 → ¬ digB c → begR s 0 [48, c] = false := fun c c1 c2 c3 => by
    cases hb : begR s 0 [48, c] with
    | false => rfl
    | true =>
      exfalso
      have h1 := begR_snd hb
      rw [hs] at h1
      cases d with
      | nil => exact hd.2 rfl
      | cons b d' =>
        cases d' with
        | cons b2 d'' => simp at h1; subst h1; exact c3 (hd.1 b2 (by simp))
        | nil =>
          rcases hf with rfl | ⟨m, hm, rfl⟩
          · rcases hx with rfl | ⟨g, m, _, _, rfl⟩
            · simp at h1
            · simp at h1; exact c2 h1.symm
          · simp at h1; exact c1 h1.symm
  unfold NumR at h
  rw [no2 120 (by decide) (by decide) (by unfold digB; decide), no2 98 (by decide) (by decide) (by unfold digB; decide)] at h
  simp only [Bool.false_eq_true, if_false, List.drop_zero, Nat.zero_add] at h
  have e : digL 10 s [] false = (d.length, d) := by rw [hs, digL_run d (f ++ x) [] false hd.1 hstop]; simp
  rw [e] at h
  simp only [restR_form hf hx hd hs] at h
  rcases h with ⟨h, _⟩ | ⟨e', t', k', h, hn⟩
  · cases h
  · simp only [Option.some.injEq, Prod.mk.injEq] at h
    obtain ⟨rfl, rfl, rfl⟩ := h
    exact hn
theorem wor_zero : worR 0 = false := by decide
theorem NumEnd_whole {s d : List UInt8} {k : Int} {v : V} (hd : d ≠ []) (h : NumEnd s d 10 s.length s k v) : (k = 4 ∧ v = okV 4 s s.length) ∨ (k = 3 ∧ ((∃ o, Canon o ∧ valD o = numF 10 d 0 ∧ numF 10 d 0 ≤ valD maxS ∧ v = okV 3 o s.length) ∨ (valD maxS < numF 10 d 0 ∧ v = errV))) := by
  unfold NumEnd at h
  have e : ((d == []) || worR (atR s s.length)) = false := by
    rw [atR_end (Nat.le_refl _), wor_zero]
    simp [hd]
  rw [e] at h
  rcases h with ⟨h, _⟩ | ⟨_, h⟩
  · cases h
  · exact h
theorem scan_float_ok {s : List UInt8} (h : FloatF s) (hl : s.length ≤ 20000) {r : List Tk ⊕ (Int × Int)} (hr : ScnR s r) : r = .inl [(4, s, 0, true)] := by
  obtain ⟨d, f, x, hd, hf, hx, hne, hs⟩ := h
  obtain ⟨b, d', rfl⟩ : ∃ b m', d = b :: m' := by cases d with | nil => exact absurd rfl hd.2 | cons b m' => exact ⟨b, m', rfl⟩
  refine scan_whole hl (b := b) (by rw [hs]; rfl) (hd.1 b (by simp)) (fun v hv => ?_) hr
  have := NumR_form hf hx hd hs hv
  rcases NumEnd_whole hd.2 this with ⟨_, h⟩ | ⟨h, _⟩
  · exact h
  · rw [if_neg (by rintro ⟨h1, h2⟩; rcases hne with h | h; exact h h1; exact h h2)] at h
    cases h
theorem numF_dec : ∀ (l : List UInt8) (v : Nat), (∀ b ∈ l, digB b) → numF 10 l v = v * 10 ^ l.length + valD l
  | [], v, _ => by simp [numF, valD]
  | b :: l, v, h => by
    have hb := h b (by simp)
    rw [numF, numF_dec l _ fun x hx => h x (by simp [hx])]
    have e : (digR (b.toNat : Int) ((10 : Nat) : Int)).toNat = b.toNat - 48 := by
      unfold digB at hb
      show (digR (b.toNat : Int) 10).toNat = _
      unfold digR
      rcases digN_cases b.toNat with ⟨h1, h2, h3⟩ | ⟨h1, h2⟩
      · rw [h3, if_neg (by omega)]; omega
      · exact absurd ⟨by omega, by omega⟩ h1
    rw [e]
    simp only [valD, List.length_cons, Nat.pow_succ]
    rw [Nat.add_mul, Nat.mul_assoc, Nat.mul_comm 10]
    omega
theorem scan_int_ok {s : List UInt8} (hc : Canon s) (hv : valD s ≤ valD maxS) {r : List Tk ⊕ (Int × Int)} (hr : ScnR s r) : r = .inl [(3, s, 0, true)] := by
  have hd : Digs s := ⟨hc.1, fun e => by have := hc.2.1; rw [e] at this; simp at this⟩
  have hl := canon_small hc hv
  obtain ⟨b, s', hb⟩ : ∃ b m', s = b :: m' := by cases s with | nil => exact absurd rfl hd.2 | cons b m' => exact ⟨b, m', rfl⟩
  refine scan_whole (by omega) (b := b) (by rw [hb]; rfl) (hd.1 b (by rw [hb]; simp)) (fun v h => ?_) hr
  have := NumR_form (f := []) (x := []) (.inl rfl) (.inl rfl) hd (by simp) h
  have hn := numF_dec s 0 hc.1
  rw [Nat.zero_mul, Nat.zero_add] at hn
  rcases NumEnd_whole hd.2 this with ⟨h, _⟩ | ⟨_, ⟨o, ho, h1, h2, h3⟩ | ⟨h1, _⟩⟩
  · simp at h
  · have := canon_eq ho hc (by omega)
    rw [this] at h3
    exact h3
  · omega
theorem dg_dig (u j : Nat) : digB (Lib.dg u j) := by
  have h : ∀ k : Fin 10, digB (UInt8.ofNat (48 + k.val)) := by unfold digB; decide
  exact h ⟨u / 10 ^ j % 10, Nat.mod_lt _ (by omega)⟩
theorem itoa_noq (n : Int) : ∀ b ∈ Lib.itoa n, digB b ∨ b = 45 := by
  have h : ∀ u, ∀ b ∈ Lib.decDigits u, digB b := fun u b hb => by
    rw [Lib.decDigits_eq] at hb
    obtain ⟨t, _, rfl⟩ := List.mem_map.1 hb
    exact dg_dig _ _
  intro b hb
  unfold Lib.itoa at hb
  split at hb
  · rcases List.mem_cons.1 hb with rfl | hb
    · exact .inr rfl
    · exact .inl (h _ b hb)
  · exact .inl (h _ b hb)
theorem NumEnd_inv {s d t text : List UInt8} {base e : Nat} {k k0 : Int} {e' : Int} (h : NumEnd s d base e text k (oneV k0 t e')) : d ≠ [] ∧ ((k = 4 ∧ k0 = 4 ∧ t = text) ∨ (k = 3 ∧ k0 = 3 ∧ Canon t ∧ valD t ≤ valD maxS)) := by
  unfold NumEnd at h
  rcases h with ⟨_, h⟩ | ⟨h0, h⟩
  · exfalso
    simp only [oneV, errV, tokV, V.tup.injEq, List.cons.injEq, V.i.injEq, true_and, and_true] at h
    exact absurd h.2.2 (by decide)
  · refine ⟨fun hd => by rw [hd] at h0; simp at h0, ?_⟩
    rcases h with ⟨rfl, h⟩ | ⟨rfl, ⟨o, ho, h1, h2, h⟩ | ⟨_, h⟩⟩
    · simp only [oneV, okV, tokV, V.tup.injEq, List.cons.injEq, V.agg.injEq, V.i.injEq, V.s.injEq, true_and, and_true] at h
      exact .inl ⟨rfl, h.1.1, h.1.2⟩
    · simp only [oneV, okV, tokV, V.tup.injEq, List.cons.injEq, V.agg.injEq, V.i.injEq, V.s.injEq, true_and, and_true] at h
      obtain ⟨⟨h3, rfl⟩, _⟩ := h
      exact .inr ⟨rfl, h3, ho, by omega⟩
    · exfalso
      simp only [oneV, errV, tokV, V.tup.injEq, List.cons.injEq, V.i.injEq, true_and, and_true] at h
      exact absurd h.2.2 (by decide)
theorem fracR_form {s d : List UInt8} {e : Nat} : ∃ f, Frac f ∧ (fracR s e d).2.1 = d ++ f ∧ ((fracR s e d).2.2 = if f = [] then 3 else 4) := by
  unfold fracR
  split
  · rename_i h
    simp only [Bool.and_eq_true, decide_eq_true_eq] at h
    exact ⟨46 :: (digL 10 (s.drop (e + 1)) [] false).2, .inr ⟨_, ⟨fun b hb => digL_digB hb, digL_ne h.2⟩, rfl⟩, rfl, by simp⟩
  · exact ⟨[], .inl rfl, by simp, by simp⟩
theorem signR_form (s : List UInt8) (k : Nat) : Sgn (signR s k).2 := by
  unfold signR
  split
  · rename_i h
    simp only [Bool.or_eq_true, beq_iff_eq] at h
    obtain ⟨b, hb, hb2⟩ := atR_pos (s := s) (i := k) (by rcases h with h | h <;> rw [h] <;> decide)
    have hlt := (List.getElem?_eq_some_iff.1 hb).1
    have e : (s.take (k + 1)).drop k = [b] := by
      rw [List.drop_take, drop_cons hb]
      simp [show k + 1 - k = 1 from by omega]
    rw [hb2] at h
    simp only [e]
    rcases h with h | h
    · exact .inr (.inl (by rw [u8_inj (a := b) (b := 43) (by simp; omega)]))
    · exact .inr (.inr (by rw [u8_inj (a := b) (b := 45) (by simp; omega)]))
  · exact .inl rfl
theorem expR_inv {s t t' : List UInt8} {e e' : Nat} {k k' : Int} (h : expR s e t k = some (e', t', k')) : ∃ x, Expo x ∧ t' = t ++ x ∧ (k' = if x = [] then k else 4) := by
  unfold expR at h
  split at h
  · split at h
    · cases h
    · rename_i hne
      simp only [Option.some.injEq, Prod.mk.injEq] at h
      obtain ⟨_, rfl, rfl⟩ := h
      exact ⟨_, .inr ⟨(signR s (e + 1)).2, _, signR_form _ _, ⟨fun b hb => digL_digB hb, hne⟩, rfl⟩, rfl, by simp⟩
  · simp only [Option.some.injEq, Prod.mk.injEq] at h
    obtain ⟨_, rfl, rfl⟩ := h
    exact ⟨[], .inl rfl, by simp, by simp⟩
theorem NumR_inv {s t : List UInt8} {i : Nat} {k0 e : Int} (h : NumR s i (oneV k0 t e)) : (k0 = 3 ∧ Canon t ∧ valD t ≤ valD maxS) ∨ (k0 = 4 ∧ FloatF t) := by
  unfold NumR at h
  split at h
  · obtain ⟨_, ⟨h1, _⟩ | ⟨_, h2⟩⟩ := NumEnd_inv h
    · exact absurd h1 (by decide)
    · exact .inl h2
  · split at h
    · obtain ⟨_, ⟨h1, _⟩ | ⟨_, h2⟩⟩ := NumEnd_inv h
      · exact absurd h1 (by decide)
      · exact .inl h2
    · rcases h with ⟨_, h⟩ | ⟨e', t', k', hr, h⟩
      · exfalso
        simp only [oneV, errV, tokV, V.tup.injEq, List.cons.injEq, V.i.injEq, true_and, and_true] at h
        exact absurd h.2.2 (by decide)
      · obtain ⟨hd, ⟨h1, h2, h3⟩ | ⟨_, h2⟩⟩ := NumEnd_inv h
        · refine .inr ⟨h2, ?_⟩
          unfold restR at hr
          obtain ⟨f, hf, f1, f2⟩ := fracR_form (s := s) (d := (digL 10 (s.drop i) [] false).2) (e := i + (digL 10 (s.drop i) [] false).1)
          obtain ⟨x, hx, x1, x2⟩ := expR_inv hr
          refine ⟨_, f, x, ⟨fun b hb => digL_digB hb, hd⟩, hf, hx, ?_, by rw [h3, x1, f1]; simp⟩
          by_cases hf0 : f = []
          · by_cases hx0 : x = []
            · rw [if_pos hx0, f2, if_pos hf0, h1] at x2
              exact absurd x2 (by decide)
            · exact .inr hx0
          · exact .inl hf0
        · exact .inl h2
theorem OneR_inv {s : List UInt8} {i : Nat} {k : Int} {e : Int} (h : OneR s i (oneV k s e)) (hk : k = 3 ∨ k = 4) : (k = 3 ∧ Canon s ∧ valD s ≤ valD maxS) ∨ (k = 4 ∧ FloatF s) := by
  have key : ∀ (p q : Prop), p → (p → q) → q := fun _ _ a b => b a
  have kk : ∀ k' t e', oneV k s e = oneV k' t e' → k = k' ∧ s = t := fun k' t e' h => by
    simp only [oneV, tokV, V.tup.injEq, List.cons.injEq, V.agg.injEq, V.i.injEq, V.s.injEq, true_and, and_true] at h
    exact h.1
  have ke : ∀ c, c ≠ 0 → oneV k s e ≠ oneE c := fun c hc h => by
    simp only [oneV, oneE, V.tup.injEq, List.cons.injEq, V.i.injEq, true_and, and_true] at h
    exact hc h.2.2.symm
  have kstr : ∀ p, oneV k s e ≠ strR p := fun p h => by
    unfold strR at h
    split at h
    · have := (kk _ _ _ h).1; omega
    · exact ke _ (by decide) h
  unfold OneR at h
  split at h
  · have := (kk _ _ _ h).1
    split at this <;> omega
  · split at h
    · exact NumR_inv h
    · split at h
      · exact absurd h (kstr _)
      · split at h
        · exact absurd h (kstr _)
        · split at h
          · rename_i hq
            exfalso
            unfold chrR at h
            split at h
            · split at h
              · have h2 := (kk _ _ _ h).2
                simp only [beq_iff_eq] at hq
                obtain ⟨b, hb, hb2⟩ := atR_pos (s := s) (i := i) (by rw [hq]; decide)
                have hm := List.mem_of_getElem? hb
                rw [hb2] at hq
                rw [h2] at hm
                rcases itoa_noq _ b hm with h | h
                · unfold digB at h; omega
                · rw [h] at hq; exact absurd hq (by decide)
              · exact ke _ (by decide) h
            · exact ke _ (by decide) h
          · exfalso
            unfold symR at h
            split at h
            · exact ke _ (by decide) h
            · have := (kk _ _ _ h).1; omega
def tokB (k : Int) (s : List UInt8) : List Tk ⊕ (Int × Int) → Bool
  | .inl [x] => (x.1 == k) && (x.2.1 == s)
  | _ => false
theorem tokB_int {s : List UInt8} {r : List Tk ⊕ (Int × Int)} (h : ScnR s r) : tokB 3 s r = true ↔ Canon s ∧ valD s ≤ valD maxS := by
  constructor
  · intro hb
    unfold tokB at hb
    split at hb
    · rename_i x
      simp only [Bool.and_eq_true, beq_iff_eq] at hb
      obtain ⟨_, i, e, _, ho⟩ := scan_one h rfl
      rw [hb.1, hb.2] at ho
      rcases OneR_inv ho (.inl rfl) with ⟨_, h⟩ | ⟨h, _⟩
      · exact h
      · exact absurd h (by decide)
    · cases hb
  · rintro ⟨h1, h2⟩
    rw [scan_int_ok h1 h2 h]
    simp [tokB]
theorem tokB_float {s : List UInt8} {r : List Tk ⊕ (Int × Int)} (h : ScnR s r) : tokB 4 s r = true ↔ s.length ≤ 20000 ∧ FloatF s := by
  constructor
  · intro hb
    unfold tokB at hb
    split at hb
    · rename_i x
      simp only [Bool.and_eq_true, beq_iff_eq] at hb
      obtain ⟨hl, i, e, _, ho⟩ := scan_one h rfl
      rw [hb.1, hb.2] at ho
      rcases OneR_inv ho (.inr rfl) with ⟨h, _⟩ | ⟨_, h⟩
      · exact absurd h (by decide)
      · exact ⟨hl, h⟩
    · cases hb
  · rintro ⟨h1, h2⟩
    rw [scan_float_ok h2 h1 h]
    simp [tokB]
theorem mem_dig (b : UInt8) : dig.contains b = true ↔ digB b := by
  have h : ∀ n : Fin 256, (dig.contains (UInt8.ofNat n.val) = true) ↔ digB (UInt8.ofNat n.val) := by
    unfold digB dig; decide +kernel
  have := h ⟨b.toNat, b.toNat_lt⟩
  simpa using this
theorem dropWhile_nil {p : UInt8 → Bool} : ∀ {l : List UInt8}, l.dropWhile p = [] ↔ ∀ b ∈ l, p b = true
  | [] => by simp
  | b :: l => by
    simp only [List.dropWhile_cons, List.mem_cons, forall_eq_or_imp]
    split
    · rename_i h; simp [h, dropWhile_nil (l := l)]
    · rename_i h; simp [h]
theorem trimS_nil (s : List UInt8) : Lib.trimS s dig = [] ↔ ∀ b ∈ s, digB b := by
  have h1 : ∀ {l : List UInt8}, l.dropWhile (dig.contains ·) = [] ↔ ∀ b ∈ l, digB b := fun {l} => by
    rw [dropWhile_nil]
    exact ⟨fun h b hb => (mem_dig b).1 (h b hb), fun h b hb => (mem_dig b).2 (h b hb)⟩
  unfold Lib.trimS Lib.trimLeftS Lib.trimRightS
  rw [h1]
  constructor
  · intro h b hb
    by_cases hd : digB b
    · exact hd
    · -- the last part that is cut off has digits alone
      have hsplit := List.takeWhile_append_dropWhile (p := (dig.contains ·)) (l := s.reverse)
      have hb2 : b ∈ s.reverse := List.mem_reverse.2 hb
      rw [← hsplit] at hb2
      rcases List.mem_append.1 hb2 with hb3 | hb3
      · exact (mem_dig b).1 (List.all_eq_true.1 (List.all_takeWhile (p := (dig.contains ·)) (l := s.reverse)) b hb3)
      · exact h b (List.mem_reverse.2 hb3)
  · intro h b hb
    have hb2 := List.mem_reverse.1 hb
    exact h b (List.mem_reverse.1 ((List.dropWhile_sublist _).subset hb2))
theorem digitsN_iff (s : List UInt8) : digitsN s = true ↔ Digs s := by
  unfold digitsN Digs
  simp only [Bool.and_eq_true, Bool.not_eq_true', beq_iff_eq, trimS_nil]
  constructor
  · rintro ⟨h1, h2⟩; exact ⟨h2, fun e => by rw [e] at h1; cases h1⟩
  · rintro ⟨h1, h2⟩; exact ⟨by cases s <;> simp at h2 ⊢, h1⟩
def integerN (s : List UInt8) : Bool := digitsN s && ((s == [48]) || (s.head? != some 48)) && (decide (s.length < 39) || ((s.length == 39) && (Op.bytesLess s maxS || (s == maxS))))
theorem integerN_iff (s : List UInt8) : integerN s = true ↔ Canon s ∧ valD s ≤ valD maxS := by
  unfold integerN
  simp only [Bool.and_eq_true, Bool.or_eq_true, digitsN_iff, beq_iff_eq, bne_iff_ne, ne_eq, decide_eq_true_eq]
  have hml : maxS.length = 39 := by decide
  constructor
  · rintro ⟨⟨⟨h1, h2⟩, h3⟩, h4⟩
    have hc : Canon s := by
      refine ⟨h1, List.length_pos_iff.2 h2, fun hl => ?_⟩
      rcases h3 with rfl | h3
      · simp at hl
      · exact h3
    refine ⟨hc, ?_⟩
    rcases h4 with h4 | ⟨h4, h5⟩
    · have := canon_len maxS_canon hc (by omega); omega
    · obtain ⟨k1, k2⟩ := less_dig s maxS (by omega) hc.1 maxS_canon.1
      rcases h5 with h5 | rfl
      · rw [k1] at h5; simp only [decide_eq_true_eq] at h5; omega
      · exact Nat.le_refl _
  · rintro ⟨hc, hv⟩
    have hl := canon_small hc hv
    refine ⟨⟨⟨hc.1, List.length_pos_iff.1 hc.2.1⟩, ?_⟩, ?_⟩
    · by_cases h1 : 1 < s.length
      · exact .inr (hc.2.2 h1)
      · by_cases h48 : s.head? = some 48
        · left
          have := hc.2.1
          match s, h48 with
          | [b], h => simp at h; rw [h]
          | b :: c :: r, h => simp at h1
        · exact .inr h48
    · by_cases h39 : s.length < 39
      · exact .inl h39
      · refine .inr ⟨by omega, ?_⟩
        obtain ⟨k1, k2⟩ := less_dig s maxS (by omega) hc.1 maxS_canon.1
        by_cases he : valD s = valD maxS
        · exact .inr (canon_eq hc maxS_canon he)
        · left; rw [k1, decide_eq_true_eq]; omega
def cutV (s : List UInt8) (c : UInt8) : List UInt8 × List UInt8 × Bool := if 0 ≤ Lib.indexByte s c then (s.take (Lib.indexByte s c).toNat, s.drop ((Lib.indexByte s c).toNat + 1), true) else (s, [], false)
theorem indexByte_app : ∀ (a b : List UInt8) (c : UInt8), c ∉ a → Lib.indexByte (a ++ c :: b) c = a.length
  | [], b, c, _ => by simp [Lib.indexByte]
  | x :: a, b, c, h => by
    have h1 : ¬ (x == c) = true := fun e => h (by simp [eq_of_beq e])
    have ih := indexByte_app a b c fun hm => h (by simp [hm])
    simp only [List.cons_append, Lib.indexByte, ih]
    rw [if_neg h1, if_neg (fun e => by have := eq_of_beq e; omega)]
    simp
theorem indexByte_not : ∀ (s : List UInt8) (c : UInt8), c ∉ s → Lib.indexByte s c = -1
  | [], c, _ => rfl
  | x :: a, c, h => by
    have h1 : ¬ (x == c) = true := fun e => h (by simp [eq_of_beq e])
    have ih := indexByte_not a c fun hm => h (by simp [hm])
    simp only [Lib.indexByte, ih]
    rw [if_neg h1]; rfl
theorem cutV_app {a b : List UInt8} {c : UInt8} (h : c ∉ a) : cutV (a ++ c :: b) c = (a, b, true) := by
  unfold cutV
  rw [indexByte_app a b c h, if_pos (by omega)]
  simp
theorem cutV_not {s : List UInt8} {c : UInt8} (h : c ∉ s) : cutV s c = (s, [], false) := by
  unfold cutV
  rw [indexByte_not s c h, if_neg (by decide)]
theorem mem_split {c : UInt8} : ∀ {s : List UInt8}, c ∈ s → ∃ a b, c ∉ a ∧ s = a ++ c :: b
  | x :: s, h => by
    by_cases hx : x = c
    · exact ⟨[], s, by simp, by simp [hx]⟩
    · obtain ⟨a, b, h1, h2⟩ := mem_split (s := s) (by simpa [Ne.symm hx] using h)
      exact ⟨x :: a, b, by simp [h1, Ne.symm hx], by simp [h2]⟩
theorem cutV_cases (s : List UInt8) (c : UInt8) : (∃ a b, c ∉ a ∧ s = a ++ c :: b ∧ cutV s c = (a, b, true)) ∨ (c ∉ s ∧ cutV s c = (s, [], false)) := by
  by_cases h : c ∈ s
  · obtain ⟨a, b, h1, h2⟩ := mem_split h
    exact .inl ⟨a, b, h1, h2, by rw [h2]; exact cutV_app h1⟩
  · exact .inr ⟨h, cutV_not h⟩
def unsg : List UInt8 → List UInt8
  | [] => []
  | c :: r => if decide (0 ≤ Lib.indexByte [43, 45] c) = true then r else c :: r
def floatN (s : List UInt8) : Bool := !(decide ((20000 : Int) < s.length)) && ((!(cutV s 101).2.2 || digitsN (unsg (cutV s 101).2.1)) && (digitsN (cutV (cutV s 101).1 46).1 && (((cutV (cutV s 101).1 46).2.2 && digitsN (cutV (cutV s 101).1 46).2.1) || (!(cutV (cutV s 101).1 46).2.2 && (cutV s 101).2.2))))
theorem sg_mem (c : UInt8) : decide (0 ≤ Lib.indexByte [43, 45] c) = true ↔ c = 43 ∨ c = 45 := by
  have h : ∀ n : Fin 256, decide (0 ≤ Lib.indexByte [43, 45] (UInt8.ofNat n.val)) = true ↔ UInt8.ofNat n.val = 43 ∨ UInt8.ofNat n.val = 45 := by decide +kernel
  have := h ⟨c.toNat, c.toNat_lt⟩
  simpa using this
theorem unsg_form (y : List UInt8) : ∃ g, Sgn g ∧ y = g ++ unsg y := by
  cases y with
  | nil => exact ⟨[], .inl rfl, rfl⟩
  | cons c r =>
    simp only [unsg]
    split
    · rename_i h
      rcases (sg_mem c).1 h with rfl | rfl
      · exact ⟨[43], .inr (.inl rfl), rfl⟩
      · exact ⟨[45], .inr (.inr rfl), rfl⟩
    · exact ⟨[], .inl rfl, rfl⟩
theorem unsg_app {g m : List UInt8} (hg : Sgn g) (hm : Digs m) : unsg (g ++ m) = m := by
  rcases hg with rfl | rfl | rfl
  · cases m with
    | nil => rfl
    | cons c r =>
      have hc := hm.1 c (by simp)
      simp only [List.nil_append, unsg]
      rw [if_neg]
      intro h
      rcases (sg_mem c).1 h with rfl | rfl <;> revert hc <;> unfold digB <;> decide
  · simp only [List.cons_append, List.nil_append, unsg]; rw [if_pos ((sg_mem 43).2 (.inl rfl))]
  · simp only [List.cons_append, List.nil_append, unsg]; rw [if_pos ((sg_mem 45).2 (.inr rfl))]
theorem digs_not {d : List UInt8} (h : ∀ b ∈ d, digB b) {c : UInt8} (hc : ¬ digB c) : c ∉ d := fun hm => hc (h c hm)
theorem floatN_iff (s : List UInt8) : floatN s = true ↔ s.length ≤ 20000 ∧ FloatF s := by
  have n101 : ¬ digB 101 := by unfold digB; decide
  have n46 : ¬ digB 46 := by unfold digB; decide
  unfold floatN
  simp only [Bool.and_eq_true, Bool.or_eq_true, Bool.not_eq_true', decide_eq_false_iff_not, digitsN_iff]
  constructor
  · rintro ⟨hl, h1, h2, h3⟩
    refine ⟨by omega, ?_⟩
    rcases cutV_cases s 101 with ⟨a, b, _, hs, e⟩ | ⟨_, e⟩
    · rw [e] at h1 h2 h3
      simp only [Bool.true_eq_false, false_or] at h1
      obtain ⟨g, hg, hb⟩ := unsg_form b
      have hx : Expo (101 :: b) := .inr ⟨g, unsg b, hg, h1, by rw [← hb]⟩
      rcases cutV_cases a 46 with ⟨p, q, _, ha, e2⟩ | ⟨_, e2⟩
      · rw [e2] at h2 h3
        simp only [Bool.true_eq_false, false_and, or_false, true_and] at h3
        exact ⟨p, 46 :: q, 101 :: b, h2, .inr ⟨q, h3, rfl⟩, hx, .inl (by simp), by rw [hs, ha]; simp⟩
      · rw [e2] at h2
        exact ⟨a, [], 101 :: b, h2, .inl rfl, hx, .inr (by simp), by rw [hs]; simp⟩
    · rw [e] at h2 h3
      rcases cutV_cases s 46 with ⟨p, q, _, ha, e2⟩ | ⟨_, e2⟩
      · rw [e2] at h2 h3
        simp only [Bool.true_eq_false, false_and, or_false, true_and] at h3
        exact ⟨p, 46 :: q, [], h2, .inr ⟨q, h3, rfl⟩, .inl rfl, .inl (by simp), by rw [ha]; simp⟩
      · rw [e2] at h3
        simp at h3
  · rintro ⟨hl, d, f, x, hd, hf, hx, hne, hs⟩
    refine ⟨by omega, ?_⟩
    have hnf : (101 : UInt8) ∉ d ++ f := fun hm => by
      rcases List.mem_append.1 hm with hm | hm
      · exact digs_not hd.1 n101 hm
      · rcases hf with rfl | ⟨m, hm2, rfl⟩
        · cases hm
        · rcases List.mem_cons.1 hm with h | h
          · exact absurd h (by decide)
          · exact digs_not hm2.1 n101 h
    have hfr : (cutV (d ++ f) 46 = (d, [], false) ∧ f = []) ∨ ∃ m, Digs m ∧ cutV (d ++ f) 46 = (d, m, true) := by
      rcases hf with rfl | ⟨m, hm, rfl⟩
      · exact .inl ⟨by rw [List.append_nil]; exact cutV_not (digs_not hd.1 n46), rfl⟩
      · exact .inr ⟨m, hm, cutV_app (digs_not hd.1 n46)⟩
    rcases hx with rfl | ⟨g, m, hg, hm, rfl⟩
    · have e1 : cutV s 101 = (s, [], false) := cutV_not (by rw [hs]; simpa using hnf)
      rw [e1]
      simp only [List.append_nil] at hs
      rw [hs]
      rcases hfr with ⟨_, h⟩ | ⟨m, hm, e2⟩
      · simp [h] at hne
      · rw [e2]; exact ⟨.inl rfl, hd, .inl ⟨rfl, hm⟩⟩
    · have e1 : cutV s 101 = (d ++ f, g ++ m, true) := by
        rw [hs, ← List.append_assoc]; exact cutV_app hnf
      rw [e1]
      refine ⟨.inr (by rw [unsg_app hg hm]; exact hm), ?_⟩
      rcases hfr with ⟨e2, h⟩ | ⟨m2, hm2, e2⟩
      · rw [e2]; exact ⟨hd, .inr ⟨rfl, rfl⟩⟩
      · rw [e2]; exact ⟨hd, .inl ⟨rfl, hm2⟩⟩
theorem index_one : ∀ (s : List UInt8) (c : UInt8), Lib.index s [c] = Lib.indexByte s c
  | [], c => rfl
  | b :: l, c => by
    have e : [c].isPrefixOf (b :: l) = (b == c) := by
      simp only [List.isPrefixOf, Bool.and_true]
      rw [Bool.eq_iff_iff]
      simp only [beq_iff_eq]
      exact ⟨fun h => h.symm, fun h => h.symm⟩
    simp only [Lib.index, Lib.indexByte, index_one l c, e]
theorem pieces_eq (s : List UInt8) (c : UInt8) : pieces s c = Lib.splitK [c] 0 (Lib.count s [c]) s := by
  unfold pieces
  rw [Lib.splitB_data]
theorem pieces_not {s : List UInt8} {c : UInt8} (h : c ∉ s) : pieces s c = [s] := by
  rw [pieces_eq]
  have hi : Lib.index s [c] = -1 := by rw [index_one]; exact indexByte_not s c h
  rw [Lib.count_miss hi]
  rfl
theorem pieces_app {a b : List UInt8} {c : UInt8} (h : c ∉ a) : pieces (a ++ c :: b) c = a :: pieces b c := by
  rw [pieces_eq, pieces_eq]
  have hi : Lib.index (a ++ c :: b) [c] = a.length := by rw [index_one]; exact indexByte_app a b c h
  have hd : (a ++ c :: b).drop (a.length + [c].length) = b := by simp [List.drop_append]
  rw [Lib.count_hit (by simp) hi, hd, Nat.add_comm]
  simp only [Lib.splitK]
  rw [hi, if_neg (by simp only [beq_iff_eq]; omega)]
  simp only [Int.toNat_natCast, Nat.add_zero, hd]
  simp
theorem pieces_ne (s : List UInt8) (c : UInt8) : pieces s c ≠ [] := by
  rcases cutV_cases s c with ⟨a, b, h1, rfl, _⟩ | ⟨h, _⟩
  · rw [pieces_app h1]; simp
  · rw [pieces_not h]; simp
def pathN (c : UInt8) (k : Int) (s : List UInt8) : Bool := ((k == 0) || decide (((pieces s c).length : Int) ≤ k)) && ((pieces s c).all isIdR)
theorem runW_all : ∀ l : List UInt8, ∀ b ∈ l.take (runW l), worR b.toNat = true
  | [], b, h => by simp at h
  | c :: l, b, h => by
    unfold runW at h
    split at h
    · rename_i hc
      simp only [List.take_succ_cons, List.mem_cons] at h
      rcases h with rfl | h
      · exact hc
      · exact runW_all l b h
    · simp at h
theorem runQ_all : ∀ l : List UInt8, ∀ b ∈ l.take (runQ l), b = 39
  | [], b, h => by simp at h
  | c :: l, b, h => by
    unfold runQ at h
    split at h
    · rename_i hc
      simp only [List.take_succ_cons, List.mem_cons] at h
      rcases h with rfl | h
      · exact eq_of_beq hc
      · exact runQ_all l b h
    · simp at h
theorem idR_all {s : List UInt8} (h : idR s 0 = s.length) : ∀ b ∈ s, worR b.toNat = true ∨ b = 39 := by
  intro b hb
  unfold idR at h
  split at h
  · have := List.length_pos_of_mem hb; omega
  · simp only [List.drop_zero, Nat.zero_add] at h
    have h1 := List.take_append_drop (runW s) s
    rw [← h1] at hb
    rcases List.mem_append.1 hb with hb | hb
    · exact .inl (runW_all s b hb)
    · right
      refine runQ_all (s.drop (runW s)) b ?_
      rw [List.take_of_length_le (by simp; omega)]
      exact hb
theorem isIdR_all {s : List UInt8} (h : isIdR s = true) : ∀ b ∈ s, worR b.toNat = true ∨ b = 39 := by
  unfold isIdR at h
  simp only [Bool.and_eq_true, beq_iff_eq] at h
  exact idR_all (by have := h.2.2.1; omega)
theorem isIdR_dot {s : List UInt8} (h : isIdR s = true) : (46 : UInt8) ∉ s := fun hm => by
  rcases isIdR_all h 46 hm with h | h
  · revert h; decide
  · revert h; decide
def dotR (s : List UInt8) : Bool := if (cutV s 46).2.2 = true then isIdR (cutV s 46).1 && isIdR (cutV s 46).2.1 else isIdR s
theorem pathN_dot (s : List UInt8) : pathN 46 2 s = dotR s := by
  unfold pathN dotR
  rcases cutV_cases s 46 with ⟨a, b, h1, h2, e⟩ | ⟨h, e⟩
  · rw [e, if_pos rfl, h2, pieces_app h1]
    rcases cutV_cases b 46 with ⟨a2, b2, h3, h4, _⟩ | ⟨h, _⟩
    · have hb : isIdR b = false := by
        cases hb : isIdR b with
        | false => rfl
        | true => exact absurd (by rw [h4]; simp) (isIdR_dot hb)
      rw [hb, h4, pieces_app h3]
      have hne := pieces_ne b2 46
      have : ¬ (((a :: a2 :: pieces b2 46).length : Int) ≤ 2) := by
        have := List.length_pos_iff.2 hne
        simp only [List.length_cons]; omega
      rw [decide_eq_false this]
      simp
    · rw [pieces_not h]
      simp
  · rw [e, pieces_not h]
    simp
def pathF : List UInt8 → List UInt8 → Bool
  | cur, [] => isIdR cur
  | cur, b :: l => if (b == 47) = true then isIdR cur && pathF [] l else pathF (cur ++ [b]) l
theorem pathF_eq : ∀ (l cur : List UInt8), (47 : UInt8) ∉ cur → pathF cur l = (pieces (cur ++ l) 47).all isIdR
  | [], cur, h => by
    rw [List.append_nil, pieces_not h]
    simp [pathF]
  | b :: l, cur, h => by
    unfold pathF
    by_cases hb : b = 47
    · subst hb
      rw [if_pos (by decide), pieces_app h, pathF_eq l [] (by simp)]
      simp
    · rw [if_neg (by simpa using hb), pathF_eq l (cur ++ [b]) (by simp [h, Ne.symm hb])]
      simp
theorem pathN_slash (s : List UInt8) : pathN 47 0 s = pathF [] s := by
  rw [pathF_eq s [] (by simp)]
  simp [pathN]
end Go.Ev
