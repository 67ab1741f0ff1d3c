/- The text of a wide number: its loop. Arithmetic with large numbers, of the division by ten. The text of a wide number. Walks over the bytes at a place of a text. Walks over the small functions of the trees. Walks over the searches in rows. Walks over the end of a name. Walks over the counts of nodes. Triples for loops over functions, facts of functions on heaps, regions that draw their order and turn the heap. Contracts of functions of the library of Go, as answers for the evaluator. Walks over the looks at names. Walks over a name in the program. Walks over the look at a kind. The set of keywords, by a run of the evaluator. Walks over the look at a node by its kind. Walks over the end of a name, the whole. A byte at a place, a text at a place, the end of a name. The keywords and symbols of the reference. What a name is, as the reference sees it. Walks over digits. Walks over a number times a base. Walks over a number times a base, the whole. Numbers in decimal digits, and which is above another. Walks over the value of digits. The value of digits, in decimal digits. Walks over parts of a number. The exponent of a number. The exponent of a number, the whole. The fraction of a number. The end of a number. A number at a place: the walk. A number at a place. Walks over a comment of a line. Walks over a comment. Walks over blanks and comments. Walks over blanks and comments, the whole. Blanks and comments at a place. A string of the second kind. Walks over a literal with marks. A literal with marks. Walks over an escape. The end of an escape. An escape: the walk. Escapes, literals and names of the reference. The decimal digits of a number, as an answer for the evaluator. Walks over the symbols. Walks over a token at a place. Where a token at a place ends. The token at a place. Walks over the tokens of a text. The tokens of a text: the walk. The tokens of a text. A text that is a number is one token. Deferred calls: a function that is left by a return or by a panic. Bytes and names: letter, digit, part, word, ident, IsIdent. The scanner's faults, as values. Walks: must. -/
import Derived.Test.YtmjplflnlggbeaaGreatDoorSY3
import Derived.Test.YtmjplflnlggbeaaGreatDoorSEvN
import Derived.Test.YtmjplflnlggbeaaGreatDoorSEvWP
import Derived.Shelf.Strings.Split
import Derived.Shelf.Strings.SlTrimAscii
import Derived.Shelf.Unicode.ValidAny
import Derived.Shelf.LaysM
import Derived.Shelf.Strconv.Itoa3
namespace Go.Ev
open Go Go.Proofs
set_option linter.unusedSimpArgs false
set_option linter.unusedVariables false
set_option maxRecDepth 100000
theorem tr_text4 : goT TT shp 65 [] [true, true, true, true, false, true, false, false] (bodyOf Tryz.f97) [] ⟨[(3, .f2 (.sl 1) (.va 1) (.f1 .lenS (.va 2))), (5, .f1 (.vi .i64) (.va 3)), (6, .f1 (.vi .i64) (.va 4))], ⟨.va 0, [(.va 1, some ⟨5, .f1 .bys (.va 2), .more⟩)], []⟩, 5, []⟩ (KF TT Tryz.f97 [3, 5, 6]) = .ite (.f2 .ltI (.va 3) (.va 4)) (.need (.f2 .leI (.ci 0) (.va 4)) (.need (.f2 .ltI (.va 4) (.f1 .lenS (.va 2))) (.need (.f2 .leI (.ci 0) (.va 3)) (.need (.f2 .ltI (.va 3) (.f1 .lenS (.va 2))) (.need (.f2 .leI (.ci 0) (.f2 .at (.va 2) (.va 4))) (.need (.f2 .ltI (.f2 .at (.va 2) (.va 4)) (.ci 256)) (.need (.f2 .ltI (.va 4) (.f1 .lenS (.f3 .setB (.va 2) (.va 3) (.f2 .at (.va 2) (.va 4))))) (.need (.f2 .leI (.ci 0) (.f2 .at (.va 2) (.va 3))) (.need (.f2 .ltI (.f2 .at (.va 2) (.va 3)) (.ci 256)) (.leaf (.again [.true, .true, .true, .true, .false, .true, .false, .false]) [(3, .f2 (.sl 1) (.va 1) (.f1 .lenS (.va 2))), (5, .f1 (.vi .i64) (.f1 (.wrap .i64) (.f2 .add (.va 3) (.ci 1)))), (6, .f1 (.vi .i64) (.f1 (.wrap .i64) (.f2 .sub (.va 4) (.ci 1))))] ⟨.va 0, [(.va 1, .some ⟨5, .f1 .bys (.f3 .setB (.f3 .setB (.va 2) (.va 3) (.f2 .at (.va 2) (.va 4))) (.va 4) (.f2 .at (.va 2) (.va 3))), .more⟩)], []⟩)))))))))) (.fin (.f1 .vs (.va 2)) ⟨.va 0, [(.va 1, .some ⟨5, .f1 .bys (.va 2), .more⟩)], []⟩) := by kernel_rfl
theorem head_rev {call : CallF} (hC : call.Sound Tryz.prog TT) : ∀ (n : Nat) (A M B : List UInt8) (m : Nat) (t : Tm) (H : Heap), M.length ≤ n → (A ++ M ++ B).length < 1000000 → t.wid = 65 → t.get 3 = .sl m 1 0 (A ++ M ++ B).length none → t.get 5 = .i .i64 (A.length : Nat) → t.get 6 = .i .i64 ((A.length : Int) + M.length - 1) →
    H[m]? = some (some ⟨5, bysV (A ++ M ++ B), .more⟩) → ctx Tryz.prog TT [true, true, true, true, false, true, false, false] (bodyOf Tryz.f97) (EndsX TT Tryz.f97 (isR (.val (.s (A ++ M.reverse ++ B))))) (.norm t H) := by
  intro n
  induction n with
  | zero =>
    intro A M B m t H hM hl hw t3 t5 t6 hb
    have hM : M = [] := List.eq_nil_of_length_eq_zero (by omega)
    subst hM
    refine LTri.symIn (p := [true, true, true, true, false, true, false]) TT_ok hC rfl tr_text4 (by kernel_rfl) [.uh H, .un m, .us (A ++ [] ++ B), .ui (A.length : Nat), .ui ((A.length : Int) + ([] : List UInt8).length - 1)] rfl hw ⟨t3, t5, t6, trivial⟩ (Heap.set_self hb) ⟨by simp; exact (List.getElem?_eq_some_iff.1 hb).1, by simp⟩ ?_
    clear t3 t5 t6 hw
    simp -implicitDefEqProofs only [VC, isR, exU, Ask.den, forall_eq, E.den, O1.den, O2.den, O3.den, U.int_ui, U.boo_ub, U.val_uv, U.lst_ul, U.str_us, U.nat_un, U.heap_uh, SH.den, setsD, newD, bD, SB.den, factsTo, LQ, List.cons_append, List.nil_append, List.getElem?_cons_zero, List.getElem?_cons_succ, Option.getD_some, ltB_true, ltB_false, leB_true, leB_false, beq_iff_eq, bne_iff_ne, beq_eq_false_iff_ne, Int.toNat_natCast]
    refine ⟨fun h => absurd h (by simp; omega), fun _ => by simp⟩
  | succ n ih =>
    intro A M B m t H hM hl hw t3 t5 t6 hb
    have base : (∀ x M' y, M ≠ x :: (M' ++ [y])) → ctx Tryz.prog TT [true, true, true, true, false, true, false, false] (bodyOf Tryz.f97) (EndsX TT Tryz.f97 (isR (.val (.s (A ++ M.reverse ++ B))))) (.norm t H) := fun hne => by
      have h1 : M.reverse = M ∧ M.length ≤ 1 := by
        cases M with
        | nil => exact ⟨rfl, by simp⟩
        | cons x M =>
          rcases last_or M with rfl | ⟨M', y, rfl⟩
          · exact ⟨rfl, by simp⟩
          · exact absurd rfl (hne x M' y)
      refine LTri.symIn (p := [true, true, true, true, false, true, false]) TT_ok hC rfl tr_text4 (by kernel_rfl) [.uh H, .un m, .us (A ++ M ++ B), .ui (A.length : Nat), .ui ((A.length : Int) + M.length - 1)] rfl hw ⟨t3, t5, t6, trivial⟩ (Heap.set_self hb) ⟨by simp; exact (List.getElem?_eq_some_iff.1 hb).1, by simp⟩ ?_
      clear t3 t5 t6 hw
      simp -implicitDefEqProofs only [VC, isR, exU, Ask.den, forall_eq, E.den, O1.den, O2.den, O3.den, U.int_ui, U.boo_ub, U.val_uv, U.lst_ul, U.str_us, U.nat_un, U.heap_uh, SH.den, setsD, newD, bD, SB.den, factsTo, LQ, List.cons_append, List.nil_append, List.getElem?_cons_zero, List.getElem?_cons_succ, Option.getD_some, ltB_true, ltB_false, leB_true, leB_false, beq_iff_eq, bne_iff_ne, beq_eq_false_iff_ne, Int.toNat_natCast, h1.1]
      exact ⟨fun h => absurd h (by omega), fun _ => trivial⟩
    cases M with
    | nil => exact base (by simp)
    | cons x M =>
      rcases last_or M with rfl | ⟨M', y, rfl⟩
      · exact base (by simp)
      · clear base
        have e1 : A ++ (x :: (M' ++ [y])) ++ B = A ++ x :: (M' ++ y :: B) := by simp
        have e2 : A ++ x :: (M' ++ y :: B) = (A ++ x :: M') ++ y :: B := by simp
        have e3 : A ++ y :: (M' ++ y :: B) = (A ++ y :: M') ++ y :: B := by simp
        have e4 : (A ++ [y]) ++ M' ++ (x :: B) = (A ++ y :: M') ++ x :: B := by simp
        have e5 : A ++ (x :: (M' ++ [y])).reverse ++ B = (A ++ [y]) ++ M'.reverse ++ (x :: B) := by simp
        have ek : (A.length : Int) + (x :: (M' ++ [y])).length - 1 = A.length + M'.length + 1 := by simp; omega
        rw [e1] at t3 hb hl
        rw [ek] at t6
        rw [e5]
        have a1 : atS (A ++ x :: (M' ++ y :: B)) ((A.length : Int) + M'.length + 1) = y.toNat := by rw [e2]; exact at_mid _ _ _ _ (by simp; omega)
        have a2 : atS (A ++ x :: (M' ++ y :: B)) (A.length : Nat) = x.toNat := at_mid _ _ _ _ rfl
        have s1 : (A ++ x :: (M' ++ y :: B)).set A.length (UInt8.ofNat y.toNat) = A ++ y :: (M' ++ y :: B) := by rw [ofNat_u8]; exact set_mid _ _ _ _ _ rfl
        have s2 : (A ++ y :: (M' ++ y :: B)).set ((A.length : Int) + M'.length + 1).toNat (UInt8.ofNat x.toNat) = (A ++ [y]) ++ M' ++ (x :: B) := by
          rw [e3, e4, ofNat_u8]
          exact set_mid _ _ _ _ _ (by simp; omega)
        refine LTri.symIn (p := [true, true, true, true, false, true, false]) TT_ok hC rfl tr_text4 (by kernel_rfl) [.uh H, .un m, .us (A ++ x :: (M' ++ y :: B)), .ui (A.length : Nat), .ui ((A.length : Int) + M'.length + 1)] rfl hw ⟨t3, t5, t6, trivial⟩ (Heap.set_self hb) ⟨by simp; exact (List.getElem?_eq_some_iff.1 hb).1, by simp⟩ ?_
        clear t3 t5 t6 hw
        have hm := (List.getElem?_eq_some_iff.1 hb).1
        have l1 : (A ++ x :: (M' ++ y :: B)).length = A.length + M'.length + B.length + 2 := by simp; omega
        have l2 : (A ++ y :: (M' ++ y :: B)).length = A.length + M'.length + B.length + 2 := by simp; omega
        simp -implicitDefEqProofs only [VC, isR, exU, Ask.den, forall_eq, E.den, O1.den, O2.den, O3.den, U.int_ui, U.boo_ub, U.val_uv, U.lst_ul, U.str_us, U.nat_un, U.heap_uh, SH.den, setsD, newD, bD, SB.den, factsTo, LQ, List.cons_append, List.nil_append, List.getElem?_cons_zero, List.getElem?_cons_succ, Option.getD_some, ltB_true, ltB_false, leB_true, leB_false, beq_iff_eq, bne_iff_ne, beq_eq_false_iff_ne, Int.toNat_natCast, a1, a2, s1, s2]
        rw [l1, l2]
        rw [l1] at hl
        have ux := u8_nn x
        have uy := u8_nn y
        refine ⟨fun _ => ⟨by omega, by omega, by omega, by omega, uy.1, uy.2, by omega, ux.1, ux.2, ?_⟩, fun h => absurd (show (A.length : Int) < A.length + M'.length + 1 by omega) h⟩
        intro t' hw' f3 f5 f6
        rw [w64 (by omega) (by omega)] at f5 f6
        refine ih (A ++ [y]) M' (x :: B) m t' _ (by simp at hM; omega) (by simp; omega) hw' ?_ ?_ ?_ ?_
        · rw [f3]
          congr 1
          simp; omega
        · rw [f5]; congr 1; simp
        · rw [f6]; congr 1; simp; omega
        · rw [List.getElem?_set_self hm]; rfl
theorem tx_1 (hi lo : Nat) : (hi % 10 * 18446744073709551616 + lo) / 10 + hi / 10 * 18446744073709551616 = (lo + hi * 18446744073709551616) / 10 := by omega
theorem tx_2 (hi lo : Nat) : (hi % 10 * 18446744073709551616 + lo) % 10 = (lo + hi * 18446744073709551616) % 10 := by omega
theorem tx_3 (hi lo : Nat) (h : lo < 18446744073709551616) (h2 : hi < 18446744073709551616) : (hi % 10 * 18446744073709551616 + lo) / 10 < 18446744073709551616 ∧ hi / 10 < 18446744073709551616 ∧ hi % 10 < 10 := by omega
theorem tx_4 (n p : Nat) (h : n < p * 10) : n / 10 < p := by omega
theorem wrap_dig (r : Nat) (h : r < 10) : IntKind.u8.wrap (IntKind.u64.wrap (48 + (r : Int))) = ((48 + r : Nat) : Int) := by
  rw [IntKind.wrap_u64]
  have e : (2 : Int) ^ IntKind.u8.bits = 256 := rfl
  simp only [IntKind.wrap, e, IntKind.signed, Bool.false_and, Bool.false_eq_true, if_false]
  omega
def dgL (n : Nat) : List UInt8 := if h : n = 0 then [] else UInt8.ofNat (48 + n % 10) :: dgL (n / 10)
def decR (l : List UInt8) : List UInt8 := if l = [] then [48] else l.reverse
theorem dgL_step (n : Nat) (h : n ≠ 0) : dgL n = UInt8.ofNat (48 + n % 10) :: dgL (n / 10) := by rw [dgL, dif_neg h]
theorem dgL_zero : dgL 0 = [] := by rw [dgL, dif_pos rfl]
theorem get_new2 (K : Heap) (a b : Option Blk) (n : Nat) (h : n = K.length + 1) : (K ++ [a] ++ [b])[n]? = some b := by
  subst h
  rw [List.append_assoc, List.getElem?_append_right (by omega), Nat.add_sub_cancel_left]
  rfl
theorem get_old2 (K : Heap) (a b : Option Blk) (n : Nat) (h : n < K.length) : (K ++ [a] ++ [b])[n]? = K[n]? := by
  rw [List.append_assoc, List.getElem?_append_left h]
abbrev wbox (lo hi : Nat) : Option Blk := some ⟨131, [.i .u64 (lo : Int), .i .u64 (hi : Int)], .all⟩
theorem tr_text1 : codeT TT shp 65 [] (bodyOf Tryz.f97) [] ⟨[(0, .f1 .agg (.f2 .cons (u64E 0) (.f2 .cons (u64E 1) .nil)))], ⟨.va 2, [], []⟩, 3, []⟩ (KF TT Tryz.f97 [1, 3]) = .leaf (.stop [.true, .true, .false, .false]) [(1, .f1 (.ptr 0) (.f2 .addn (.f1 .hlen (.va 2)) (.cn 0))), (3, .cv .nils)] ⟨.va 2, [], [.some ⟨131, .f2 .cons (.f1 (.vi .u64) (.va 0)) (.f2 .cons (.f1 (.vi .u64) (.va 1)) .nil), .all⟩]⟩ := by kernel_rfl
theorem tr_text2 : goT TT shp 65 [] [true, true, false, false, false] (bodyOf Tryz.f97) [] ⟨[(1, .f1 (.ptr 0) (.cn 0)), (3, .cv .nils)], ⟨.va 2, [(.cn 0, some ⟨131, .f2 .cons (u64E 0) (.f2 .cons (u64E 1) .nil), .all⟩)], []⟩, 3, []⟩ (KF TT Tryz.f97 [1, 3]) = .ite (.f2 .gtI (.va 0) (.ci 0)) (.need (.f2 (.okI .rem .u64) (.va 1) (.ci 10)) (.need (.f2 (.okI .quo .u64) (.va 1) (.ci 10)) (.asks (.call 112 (.f2 .cons (.f1 (.vi .u64) (.f2 (.opI .rem .u64) (.va 1) (.ci 10))) (.f2 .cons (.f1 (.vi .u64) (.va 0)) (.f2 .cons (.f1 (.vi .u64) (.ci 10)) .nil)))) [.i, .i] (.f1 .tup (.f2 .cons (.f1 (.vi .u64) (.va 3)) (.f2 .cons (.f1 (.vi .u64) (.va 4)) .nil))) (.need (.f2 .leI (.ci 0) (.f1 (.wrap .u8) (.f1 (.wrap .u64) (.f2 .add (.ci 48) (.va 4))))) (.need (.f2 .ltI (.f1 (.wrap .u8) (.f1 (.wrap .u64) (.f2 .add (.ci 48) (.va 4)))) (.ci 256)) (.leaf (.again [.true, .true, .false, .false, .false]) [(1, .f1 (.ptr 0) (.cn 0)), (3, .f2 (.sl 1) (.f2 .addn (.f1 .hlen (.va 2)) (.cn 1)) (.f1 .lenS (.f2 .pushB (.cs []) (.f1 (.wrap .u8) (.f1 (.wrap .u64) (.f2 .add (.ci 48) (.va 4)))))))] ⟨.va 2, [(.cn 0, .some ⟨131, .f2 .cons (.f1 (.vi .u64) (.va 3)) (.f2 .cons (.f1 (.vi .u64) (.f2 (.opI .quo .u64) (.va 1) (.ci 10))) .nil), .all⟩)], [.some ⟨5, .f2 .cons (.f1 (.vi .u8) (.f1 (.wrap .u8) (.f1 (.wrap .u64) (.f2 .add (.ci 48) (.va 4))))) .nil, .all⟩, .some ⟨5, .f1 .bys (.f2 .pushB (.cs []) (.f1 (.wrap .u8) (.f1 (.wrap .u64) (.f2 .add (.ci 48) (.va 4))))), .more⟩]⟩))) (.stuck 0)))) (.ite (.f2 .gtI (.va 1) (.ci 0)) (.need (.f2 (.okI .rem .u64) (.va 1) (.ci 10)) (.need (.f2 (.okI .quo .u64) (.va 1) (.ci 10)) (.asks (.call 112 (.f2 .cons (.f1 (.vi .u64) (.f2 (.opI .rem .u64) (.va 1) (.ci 10))) (.f2 .cons (.f1 (.vi .u64) (.va 0)) (.f2 .cons (.f1 (.vi .u64) (.ci 10)) .nil)))) [.i, .i] (.f1 .tup (.f2 .cons (.f1 (.vi .u64) (.va 3)) (.f2 .cons (.f1 (.vi .u64) (.va 4)) .nil))) (.need (.f2 .leI (.ci 0) (.f1 (.wrap .u8) (.f1 (.wrap .u64) (.f2 .add (.ci 48) (.va 4))))) (.need (.f2 .ltI (.f1 (.wrap .u8) (.f1 (.wrap .u64) (.f2 .add (.ci 48) (.va 4)))) (.ci 256)) (.leaf (.again [.true, .true, .false, .false, .false]) [(1, .f1 (.ptr 0) (.cn 0)), (3, .f2 (.sl 1) (.f2 .addn (.f1 .hlen (.va 2)) (.cn 1)) (.f1 .lenS (.f2 .pushB (.cs []) (.f1 (.wrap .u8) (.f1 (.wrap .u64) (.f2 .add (.ci 48) (.va 4)))))))] ⟨.va 2, [(.cn 0, .some ⟨131, .f2 .cons (.f1 (.vi .u64) (.va 3)) (.f2 .cons (.f1 (.vi .u64) (.f2 (.opI .quo .u64) (.va 1) (.ci 10))) .nil), .all⟩)], [.some ⟨5, .f2 .cons (.f1 (.vi .u8) (.f1 (.wrap .u8) (.f1 (.wrap .u64) (.f2 .add (.ci 48) (.va 4))))) .nil, .all⟩, .some ⟨5, .f1 .bys (.f2 .pushB (.cs []) (.f1 (.wrap .u8) (.f1 (.wrap .u64) (.f2 .add (.ci 48) (.va 4))))), .more⟩]⟩))) (.stuck 0)))) (.fin (.f1 .vs (.cs [48])) ⟨.va 2, [(.cn 0, .some ⟨131, .f2 .cons (.f1 (.vi .u64) (.va 0)) (.f2 .cons (.f1 (.vi .u64) (.va 1)) .nil), .all⟩)], []⟩)) := by kernel_rfl
theorem tr_text3 : goT TT shp 65 [] [true, true, false, false, false] (bodyOf Tryz.f97) [] ⟨[(1, .f1 (.ptr 0) (.cn 0)), (3, .f2 (.sl 1) (.va 3) (.f1 .lenS (.va 4)))], ⟨.va 2, [(.cn 0, some ⟨131, .f2 .cons (u64E 0) (.f2 .cons (u64E 1) .nil), .all⟩), (.va 3, some ⟨5, .f1 .bys (.va 4), .more⟩)], []⟩, 5, []⟩ (KF TT Tryz.f97 [1, 3, 5, 6]) = .ite (.f2 .gtI (.va 0) (.ci 0)) (.need (.f2 (.okI .rem .u64) (.va 1) (.ci 10)) (.need (.f2 (.okI .quo .u64) (.va 1) (.ci 10)) (.asks (.call 112 (.f2 .cons (.f1 (.vi .u64) (.f2 (.opI .rem .u64) (.va 1) (.ci 10))) (.f2 .cons (.f1 (.vi .u64) (.va 0)) (.f2 .cons (.f1 (.vi .u64) (.ci 10)) .nil)))) [.i, .i] (.f1 .tup (.f2 .cons (.f1 (.vi .u64) (.va 5)) (.f2 .cons (.f1 (.vi .u64) (.va 6)) .nil))) (.need (.f2 .leI (.ci 0) (.f1 (.wrap .u8) (.f1 (.wrap .u64) (.f2 .add (.ci 48) (.va 6))))) (.need (.f2 .ltI (.f1 (.wrap .u8) (.f1 (.wrap .u64) (.f2 .add (.ci 48) (.va 6)))) (.ci 256)) (.need (.f2 .leI (.f2 .mul (.f2 .add (.f1 .lenS (.va 4)) (.ci 1)) (.ci 1)) (.ci 1099511627776)) (.need (.f2 .leI (.f2 .add (.f1 .lenS (.va 4)) (.ci 1)) (.ci 1099511627776)) (.leaf (.again [.true, .true, .false, .false, .false]) [(1, .f1 (.ptr 0) (.cn 0)), (3, .f2 (.sl 1) (.f2 .addn (.f1 .hlen (.va 2)) (.cn 1)) (.f1 .lenS (.f2 .pushB (.va 4) (.f1 (.wrap .u8) (.f1 (.wrap .u64) (.f2 .add (.ci 48) (.va 6)))))))] ⟨.va 2, [(.cn 0, .some ⟨131, .f2 .cons (.f1 (.vi .u64) (.va 5)) (.f2 .cons (.f1 (.vi .u64) (.f2 (.opI .quo .u64) (.va 1) (.ci 10))) .nil), .all⟩), (.va 3, .none)], [.some ⟨5, .f2 .cons (.f1 (.vi .u8) (.f1 (.wrap .u8) (.f1 (.wrap .u64) (.f2 .add (.ci 48) (.va 6))))) .nil, .all⟩, .some ⟨5, .f1 .bys (.f2 .pushB (.va 4) (.f1 (.wrap .u8) (.f1 (.wrap .u64) (.f2 .add (.ci 48) (.va 6))))), .more⟩]⟩))))) (.stuck 0)))) (.ite (.f2 .gtI (.va 1) (.ci 0)) (.need (.f2 (.okI .rem .u64) (.va 1) (.ci 10)) (.need (.f2 (.okI .quo .u64) (.va 1) (.ci 10)) (.asks (.call 112 (.f2 .cons (.f1 (.vi .u64) (.f2 (.opI .rem .u64) (.va 1) (.ci 10))) (.f2 .cons (.f1 (.vi .u64) (.va 0)) (.f2 .cons (.f1 (.vi .u64) (.ci 10)) .nil)))) [.i, .i] (.f1 .tup (.f2 .cons (.f1 (.vi .u64) (.va 5)) (.f2 .cons (.f1 (.vi .u64) (.va 6)) .nil))) (.need (.f2 .leI (.ci 0) (.f1 (.wrap .u8) (.f1 (.wrap .u64) (.f2 .add (.ci 48) (.va 6))))) (.need (.f2 .ltI (.f1 (.wrap .u8) (.f1 (.wrap .u64) (.f2 .add (.ci 48) (.va 6)))) (.ci 256)) (.need (.f2 .leI (.f2 .mul (.f2 .add (.f1 .lenS (.va 4)) (.ci 1)) (.ci 1)) (.ci 1099511627776)) (.need (.f2 .leI (.f2 .add (.f1 .lenS (.va 4)) (.ci 1)) (.ci 1099511627776)) (.leaf (.again [.true, .true, .false, .false, .false]) [(1, .f1 (.ptr 0) (.cn 0)), (3, .f2 (.sl 1) (.f2 .addn (.f1 .hlen (.va 2)) (.cn 1)) (.f1 .lenS (.f2 .pushB (.va 4) (.f1 (.wrap .u8) (.f1 (.wrap .u64) (.f2 .add (.ci 48) (.va 6)))))))] ⟨.va 2, [(.cn 0, .some ⟨131, .f2 .cons (.f1 (.vi .u64) (.va 5)) (.f2 .cons (.f1 (.vi .u64) (.f2 (.opI .quo .u64) (.va 1) (.ci 10))) .nil), .all⟩), (.va 3, .none)], [.some ⟨5, .f2 .cons (.f1 (.vi .u8) (.f1 (.wrap .u8) (.f1 (.wrap .u64) (.f2 .add (.ci 48) (.va 6))))) .nil, .all⟩, .some ⟨5, .f1 .bys (.f2 .pushB (.va 4) (.f1 (.wrap .u8) (.f1 (.wrap .u64) (.f2 .add (.ci 48) (.va 6))))), .more⟩]⟩))))) (.stuck 0)))) (.ite (.f2 .eqI (.f1 .lenS (.va 4)) (.ci 0)) (.fin (.f1 .vs (.cs [48])) ⟨.va 2, [(.cn 0, .some ⟨131, .f2 .cons (.f1 (.vi .u64) (.va 0)) (.f2 .cons (.f1 (.vi .u64) (.va 1)) .nil), .all⟩), (.va 3, .some ⟨5, .f1 .bys (.va 4), .more⟩)], []⟩) (.leaf (.stop [.true, .true, .true, .true, .false, .true, .false]) [(1, .f1 (.ptr 0) (.cn 0)), (3, .f2 (.sl 1) (.va 3) (.f1 .lenS (.va 4))), (5, .f1 (.vi .i64) (.ci 0)), (6, .f1 (.vi .i64) (.f1 (.wrap .i64) (.f2 .sub (.f1 .lenS (.va 4)) (.ci 1))))] ⟨.va 2, [(.cn 0, .some ⟨131, .f2 .cons (.f1 (.vi .u64) (.va 0)) (.f2 .cons (.f1 (.vi .u64) (.va 1)) .nil), .all⟩), (.va 3, .some ⟨5, .f1 .bys (.va 4), .more⟩)], []⟩))) := by kernel_rfl
theorem head_text {call : CallF} (hC : call.Sound Tryz.prog TT) (hdiv : ∀ hi lo : Nat, hi < 10 → lo < 18446744073709551616 → ∀ H, call 112 [.i .u64 hi, .i .u64 lo, .i .u64 10] H = .val (divV hi lo) H) :
    ∀ (k lo hi : Nat) (s : List UInt8) (m : Nat) (t : Tm) (H : Heap) (out : List UInt8), lo < 18446744073709551616 → hi < 18446744073709551616 → lo + hi * 18446744073709551616 < 10 ^ k → s.length + k ≤ 100 → out = decR (s ++ dgL (lo + hi * 18446744073709551616)) → t.wid = 65 → t.get 1 = .ptr 0 0 → t.get 3 = .sl m 1 0 s.length none →
    H[0]? = some (wbox lo hi) → H[m]? = some (some ⟨5, bysV s, .more⟩) → m ≠ 0 → ctx Tryz.prog TT [true, true, false, false, false] (bodyOf Tryz.f97) (EndsX TT Tryz.f97 (isR (.val (.s out)))) (.norm t H) := by
  intro k
  induction k using Nat.strongRecOn with
  | ind k ih =>
    intro lo hi s m t H out hlo hhi hk hs ho hw t1 t3 hb0 hbm hm
    have hm0 := (List.getElem?_eq_some_iff.1 hb0).1
    have hmm := (List.getElem?_eq_some_iff.1 hbm).1
    refine LTri.symIn (p := [true, true, false, false]) TT_ok hC rfl tr_text3 (by kernel_rfl) [.ui lo, .ui hi, .uh H, .un m, .us s] rfl hw ⟨t1, t3, trivial⟩ ?_ ⟨by simp; exact ⟨hm0, hmm⟩, by simp; exact fun e => hm e.symm⟩ ?_
    · show H = (H.set m (some ⟨5, bysV s, .more⟩)).set 0 (wbox lo hi)
      rw [← Heap.set_self hbm, ← Heap.set_self hb0]
    · clear t1 t3 hw
      have hHH : (H.set m (some ⟨5, bysV s, .more⟩)).set 0 (wbox lo hi) = H := by rw [← Heap.set_self hbm, ← Heap.set_self hb0]
      have h3 := tx_3 hi lo hlo hhi
      have hr : (hi % 10 * 18446744073709551616 + lo) % 10 < 10 := Nat.mod_lt _ (by omega)
      simp -implicitDefEqProofs only [VC, isR, exU, Ask.den, forall_eq, E.den, O1.den, O2.den, O3.den, U.int_ui, U.boo_ub, U.val_uv, U.lst_ul, U.str_us, U.nat_un, U.heap_uh, SH.den, setsD, newD, bD, SB.den, factsTo, LQ, List.cons_append, List.nil_append, List.getElem?_cons_zero, List.getElem?_cons_succ, Option.getD_some, ltB_true, ltB_false, leB_true, leB_false, beq_iff_eq, bne_iff_ne, beq_eq_false_iff_ne, Int.toNat_natCast, rem_10, quo_10 hi hhi, intOf_i, kindOf_i, decide_true, true_and]
      refine ⟨fun h => ?_, fun h => ⟨fun h2 => ?_, fun h2 => ?_⟩⟩
      rotate_left 2
      · have hz : lo + hi * 18446744073709551616 = 0 := by omega
        rw [hz, dgL_zero, List.append_nil] at ho
        refine ⟨fun h4 => ?_, fun h4 => ?_⟩
        · have : s = [] := List.eq_nil_of_length_eq_zero (by omega)
          subst this
          subst ho
          rfl
        · intro t' hw' f1 f3 f5 f6
          have hne : s ≠ [] := fun e => h4 (by rw [e]; rfl)
          have hs0 : 0 < s.length := List.length_pos_iff.2 hne
          rw [w64 (by omega) (by omega)] at f6
          have := head_rev hC s.length [] s [] m t' H (Nat.le_refl _) (by simp; omega) hw' (by rw [f3]; simp) f5 (by rw [f6]; simp) (by simpa using hbm)
          rw [ho, show decR s = [] ++ s.reverse ++ [] from by simp [decR, hne]]
          rw [show (List.set (List.set H m (some ⟨5, List.map (fun c => V.i IntKind.u8 c.toNat) s, .more⟩)) 0 (some ⟨131, [V.i IntKind.u64 lo, V.i IntKind.u64 hi], .all⟩)) = H from hHH]
          exact Tri.symLoop rfl this
      all_goals
        have hz : lo + hi * 18446744073709551616 ≠ 0 := by omega
        refine .inl ⟨_, _, fun K => hdiv (hi % 10) lo h3.2.2 hlo K, ?_⟩
        simp only [wrap_dig _ hr]
        refine ⟨by omega, by omega, by omega, by omega, ?_⟩
        intro t' hw' f1 f3
        have hk0 : k ≠ 0 := by
          rintro rfl
          omega
        have hkk : lo + hi * 18446744073709551616 < 10 ^ (k - 1) * 10 := by
          rw [← Nat.pow_succ, show (k - 1).succ = k from by omega]
          exact hk
        refine ih (k - 1) (by omega) ((hi % 10 * 18446744073709551616 + lo) / 10) (hi / 10) (s ++ [UInt8.ofNat (48 + (lo + hi * 18446744073709551616) % 10)]) (H.length + 1) t' _ out h3.1 h3.2.1 (by rw [tx_1]; exact tx_4 _ _ hkk) (by simp; omega) (by rw [ho, tx_1, dgL_step _ hz]; simp) hw' f1 ?_ ?_ ?_ (by omega)
        · rw [f3, tx_2]
          rfl
        · exact (get_old2 _ _ _ _ (by simp; exact hm0)).trans (List.getElem?_set_self (by simp; exact hm0))
        · refine (get_new2 _ _ _ _ (by simp)).trans ?_
          rw [tx_2]
          rfl
theorem head_text0 {call : CallF} (hC : call.Sound Tryz.prog TT) (hdiv : ∀ hi lo : Nat, hi < 10 → lo < 18446744073709551616 → ∀ H, call 112 [.i .u64 hi, .i .u64 lo, .i .u64 10] H = .val (divV hi lo) H)
    (lo hi : Nat) (t : Tm) (H : Heap) (hlo : lo < 18446744073709551616) (hhi : hi < 18446744073709551616) (hw : t.wid = 65) (t1 : t.get 1 = .ptr 0 0) (t3 : t.get 3 = .nils) (hb0 : H[0]? = some (wbox lo hi)) :
    ctx Tryz.prog TT [true, true, false, false, false] (bodyOf Tryz.f97) (EndsX TT Tryz.f97 (isR (.val (.s (decR (dgL (lo + hi * 18446744073709551616))))))) (.norm t H) := by
  have hm0 := (List.getElem?_eq_some_iff.1 hb0).1
  refine LTri.symIn (p := [true, true, false, false]) TT_ok hC rfl tr_text2 (by kernel_rfl) [.ui lo, .ui hi, .uh H] rfl hw ⟨t1, t3, trivial⟩ (Heap.set_self hb0) ⟨by simp; exact hm0, by simp⟩ ?_
  clear t1 t3 hw
  have h3 := tx_3 hi lo hlo hhi
  have hr : (hi % 10 * 18446744073709551616 + lo) % 10 < 10 := Nat.mod_lt _ (by omega)
  simp -implicitDefEqProofs only [VC, isR, exU, Ask.den, forall_eq, E.den, O1.den, O2.den, O3.den, U.int_ui, U.boo_ub, U.val_uv, U.lst_ul, U.str_us, U.nat_un, U.heap_uh, SH.den, setsD, newD, bD, SB.den, factsTo, LQ, List.cons_append, List.nil_append, List.getElem?_cons_zero, List.getElem?_cons_succ, Option.getD_some, ltB_true, ltB_false, leB_true, leB_false, beq_iff_eq, bne_iff_ne, beq_eq_false_iff_ne, Int.toNat_natCast, rem_10, quo_10 hi hhi, intOf_i, kindOf_i, decide_true, true_and]
  refine ⟨fun h => ?_, fun h => ⟨fun h2 => ?_, fun h2 => ?_⟩⟩
  rotate_left 2
  · have hz : lo + hi * 18446744073709551616 = 0 := by omega
    rw [hz, dgL_zero]
    rfl
  all_goals
    have hz : lo + hi * 18446744073709551616 ≠ 0 := by omega
    refine .inl ⟨_, _, fun K => hdiv (hi % 10) lo h3.2.2 hlo K, ?_⟩
    simp only [wrap_dig _ hr]
    refine ⟨by omega, by omega, ?_⟩
    intro t' hw' f1 f3
    have hbig : (lo + hi * 18446744073709551616) / 10 < 10 ^ 90 := Nat.lt_of_lt_of_le (m := 340282366920938463463374607431768211456) (by omega) (Nat.le_of_ble_eq_true rfl)
    refine head_text hC hdiv 90 ((hi % 10 * 18446744073709551616 + lo) / 10) (hi / 10) [UInt8.ofNat (48 + (lo + hi * 18446744073709551616) % 10)] (H.length + 1) t' _ _ h3.1 h3.2.1 (by rw [tx_1]; exact hbig) (by simp) (by rw [tx_1, dgL_step _ hz]; rfl) hw' f1 ?_ ?_ ?_ (by omega)
    · rw [f3, tx_2]
      rfl
    · exact (get_old2 _ _ _ _ (by simp; exact hm0)).trans (List.getElem?_set_self hm0)
    · refine (get_new2 _ _ _ _ (by simp)).trans ?_
      rw [tx_2]
      rfl
theorem body_2097 {call : CallF} (hC : call.Sound Tryz.prog TT) (hdiv : ∀ hi lo : Nat, hi < 10 → lo < 18446744073709551616 → ∀ H, call 112 [.i .u64 hi, .i .u64 lo, .i .u64 10] H = .val (divV hi lo) H)
    (lo hi : Nat) (hlo : lo < 18446744073709551616) (hhi : hi < 18446744073709551616) : XBody Tryz.prog TT 97 [wideV lo hi] [] (isR (.val (.s (decR (dgL (lo + hi * 18446744073709551616)))))) := by
  refine XBody.sym TT_ok hC (fn := Tryz.f97) rfl rfl (by simp [Tryz.f97]) tr_text1 (by kernel_rfl) [.ui lo, .ui hi, .uh []] rfl ⟨by rw [get_init]; rfl, trivial⟩ rfl (WF_opq _ _) ?_
  simp -implicitDefEqProofs only [VC, isR, exU, Ask.den, forall_eq, E.den, O1.den, O2.den, O3.den, U.int_ui, U.boo_ub, U.val_uv, U.lst_ul, U.str_us, U.nat_un, U.heap_uh, SH.den, setsD, newD, bD, SB.den, factsTo, LQ, List.cons_append, List.nil_append, List.getElem?_cons_zero, List.getElem?_cons_succ, Option.getD_some, ltB_true, ltB_false, leB_true, leB_false, beq_iff_eq, bne_iff_ne, beq_eq_false_iff_ne, Int.toNat_natCast]
  intro t' hw' f1 f3
  exact Tri.symLoop rfl (head_text0 hC hdiv lo hi t' _ hlo hhi hw' f1 f3 rfl)
def decN (n : Nat) : List UInt8 := decR (dgL n)
theorem sp2097 : ∃ g, SpecOK Tryz.prog TT 97 g ∧ ∀ p : Nat × Nat, p.1 < 18446744073709551616 ∧ p.2 < 18446744073709551616 → ∀ H, g [wideV p.1 p.2] H = (Res.val (.s (decN (p.1 + p.2 * 18446744073709551616)))).at H := by
  obtain ⟨g1, k1, s1⟩ := sp2112
  refine spec_fn TT_ok TT_plain 97 (fun p : Nat × Nat => [wideV p.1 p.2]) _ (fun p => .val (.s (decN (p.1 + p.2 * 18446744073709551616)))) (fun _ _ => ⟨rfl, rfl⟩)
    (fun a b _ _ h => by
      simp only [wideV, List.cons.injEq, V.agg.injEq, V.i.injEq, true_and, and_true, Int.ofNat_inj] at h
      rw [h.1, h.2]) fun p hp => ?_
  exact body_2097 (ws n0 k1) (fun hi lo h1 h2 H => by rw [w_here]; exact s1 (hi, lo) ⟨h1, h2⟩ H) p.1 p.2 hp.1 hp.2
def atR (s : List UInt8) (i : Nat) : Int := match s[i]? with
  | some b => b.toNat
  | none => 0
def begR (s : List UInt8) (i : Nat) (t : List UInt8) : Bool := decide (i + t.length ≤ s.length) && ((s.take (i + t.length)).drop i == t)
theorem body_83 {call : CallF} (hC : call.Sound Tryz.prog TT) (c : Int) : Body Tryz.prog TT 72 [.i .u8 c] (.val (.b ((decide (97 ≤ c) && decide (c ≤ 122)) || (decide (65 ≤ c) && decide (c ≤ 90)) || (c == 95)))) := by
 refine en Tryz.f72 rfl rfl (by simp [Tryz.f72]) 21 rfl fun t hw hg => ?_
 have h0 := hg 0 _ rfl
 clear hg
 try simp only [Nd.enc_eq] at *
 apply rS hC
 · refine oA ?_
   rfl
 apply sQ
 cases hB1 : (decide (97 ≤ c) : Bool)
 case false =>
  cases hB2 : (decide (65 ≤ c) : Bool)
  case false =>
   apply rN hC
   · iterate 3 refine oA ?_
     iterate 2 refine oC ?_
     iterate 2 refine oA ?_
     iterate 3 refine oB ?_
     iterate 2 refine oC ?_
     refine oB ?_
     iterate 2 refine oA ?_
     iterate 2 refine oB ?_
     iterate 2 refine oA ?_
     rfl
   apply sN
   apply Tri.ret
   simp [Ends, Tryz.f72, h0, hB1, hB2]
  case true =>
   cases hB3 : (decide (c ≤ 90) : Bool)
   case false =>
    apply rN hC
    · iterate 3 refine oA ?_
      iterate 2 refine oC ?_
      iterate 2 refine oA ?_
      iterate 6 refine oB ?_
      iterate 2 refine oA ?_
      iterate 2 refine oB ?_
      iterate 2 refine oA ?_
      rfl
    apply sN
    apply Tri.ret
    simp [Ends, Tryz.f72, h0, hB1, hB2, hB3]
   case true =>
    apply rN hC
    · iterate 3 refine oA ?_
      iterate 2 refine oC ?_
      iterate 2 refine oA ?_
      iterate 6 refine oB ?_
      iterate 2 refine oA ?_
      iterate 2 refine oC ?_
      iterate 2 refine oA ?_
      rfl
    apply sN
    apply Tri.ret
    simp [Ends, Tryz.f72, h0, hB1, hB2, hB3]
 case true =>
  cases hB4 : (decide (c ≤ 122) : Bool)
  case false =>
   cases hB5 : (decide (65 ≤ c) : Bool)
   case false =>
    apply rN hC
    · iterate 3 refine oA ?_
      iterate 2 refine oB ?_
      iterate 2 refine oA ?_
      iterate 3 refine oB ?_
      iterate 2 refine oC ?_
      refine oB ?_
      iterate 2 refine oA ?_
      iterate 2 refine oB ?_
      iterate 2 refine oA ?_
      rfl
    apply sN
    apply Tri.ret
    simp [Ends, Tryz.f72, h0, hB1, hB4, hB5]
   case true =>
    cases hB6 : (decide (c ≤ 90) : Bool)
    case false =>
     apply rN hC
     · iterate 3 refine oA ?_
       iterate 2 refine oB ?_
       iterate 2 refine oA ?_
       iterate 6 refine oB ?_
       iterate 2 refine oA ?_
       iterate 2 refine oB ?_
       iterate 2 refine oA ?_
       rfl
     apply sN
     apply Tri.ret
     simp [Ends, Tryz.f72, h0, hB1, hB4, hB5, hB6]
    case true =>
     apply rN hC
     · iterate 3 refine oA ?_
       iterate 2 refine oB ?_
       iterate 2 refine oA ?_
       iterate 6 refine oB ?_
       iterate 2 refine oA ?_
       iterate 2 refine oC ?_
       iterate 2 refine oA ?_
       rfl
     apply sN
     apply Tri.ret
     simp [Ends, Tryz.f72, h0, hB1, hB4, hB5, hB6]
  case true =>
   apply rN hC
   · iterate 3 refine oA ?_
     iterate 2 refine oB ?_
     iterate 2 refine oA ?_
     iterate 6 refine oC ?_
     iterate 2 refine oA ?_
     iterate 2 refine oC ?_
     iterate 2 refine oA ?_
     rfl
   apply sN
   apply Tri.ret
   simp [Ends, Tryz.f72, h0, hB1, hB4]
theorem body_99 {call : CallF} (hC : call.Sound Tryz.prog TT) (c : Int) : Body Tryz.prog TT 50 [.i .u8 c] (.val (.b (decide (48 ≤ c) && decide (c ≤ 57)))) := by
 refine en Tryz.f50 rfl rfl (by simp [Tryz.f50]) 9 rfl fun t hw hg => ?_
 have h0 := hg 0 _ rfl
 clear hg
 try simp only [Nd.enc_eq] at *
 apply rS hC
 · refine oA ?_
   rfl
 apply sQ
 cases hB1 : (decide (48 ≤ c) : Bool)
 case false =>
  apply rN hC
  · iterate 3 refine oA ?_
    iterate 2 refine oC ?_
    iterate 2 refine oA ?_
    rfl
  apply sN
  apply Tri.ret
  simp [Ends, Tryz.f50, h0, hB1]
 case true =>
  apply rN hC
  · iterate 3 refine oA ?_
    iterate 2 refine oB ?_
    iterate 2 refine oA ?_
    rfl
  apply sN
  apply Tri.ret
  simp [Ends, Tryz.f50, h0, hB1]
theorem body_84 {call : CallF} (hC : call.Sound Tryz.prog TT) (c : Int) (b b2 : Bool) (hs : ∀ H, call 72 [.i .u8 c] H = .val (.b b) H) (h2 : ∀ H, call 50 [.i .u8 c] H = .val (.b b2) H) : Body Tryz.prog TT 73 [.i .u8 c] (.val (.b (b || b2))) := by
 refine en Tryz.f73 rfl rfl (by simp [Tryz.f73]) 9 rfl fun t hw hg => ?_
 have h0 := hg 0 _ rfl
 clear hg
 try simp only [Nd.enc_eq] at *
 apply rS hC
 · refine oA ?_
   rfl
 apply sQ
 cases hB1 : (b : Bool)
 case false =>
  apply rN hC
  · iterate 3 refine oA ?_
    iterate 2 refine oB ?_
    iterate 2 refine oA ?_
    rfl
  apply sN
  apply Tri.ret
  simp [Ends, Tryz.f73, h0, hs, h2, hB1]
 case true =>
  apply rN hC
  · iterate 3 refine oA ?_
    iterate 2 refine oC ?_
    iterate 2 refine oA ?_
    rfl
  apply sN
  apply Tri.ret
  simp [Ends, Tryz.f73, h0, hs, h2, hB1]
def runW : List UInt8 → Nat
  | [] => 0
  | b :: l => if worR b.toNat = true then runW l + 1 else 0
def runQ : List UInt8 → Nat
  | [] => 0
  | b :: l => if (b == 39) = true then runQ l + 1 else 0
theorem runW_le : ∀ l, runW l ≤ l.length
  | [] => Nat.le_refl _
  | b :: l => by
    have := runW_le l
    simp only [runW, List.length_cons]
    split <;> omega
theorem runQ_le : ∀ l, runQ l ≤ l.length
  | [] => Nat.le_refl _
  | b :: l => by
    have := runQ_le l
    simp only [runQ, List.length_cons]
    split <;> omega
def idR (s : List UInt8) (i : Nat) : Nat := if (!(letR (atR s i)) && (atR s i != 95)) = true then i else i + runW (s.drop i) + runQ (s.drop (i + runW (s.drop i)))
theorem str_at (d : List UInt8) (b : UInt8) (r : List UInt8) : (d ++ b :: r)[d.length]? = some b := by simp
theorem str_at2 (d : List UInt8) (b : UInt8) (r : List UInt8) : ∀ h, (d ++ b :: r)[d.length]'h = b := fun h => by simp
theorem u8_eq (a b : UInt8) : (a == b) = ((a.toNat : Int) == (b.toNat : Int)) := by
  by_cases h : a = b
  · subst h; simp
  · have : ¬ (a.toNat : Int) = b.toNat := fun e => h (UInt8.toNat.inj (by omega))
    rw [beq_eq_false_iff_ne.2 h, beq_eq_false_iff_ne.2 this]

open Go.RowKit (Below)
section
variable {P : Program} {T : Tab} {M : Mem} {ρ : Ren} {H : Heap} {w w' : World}
theorem ext_below (hb : Below w.heap.size w w') : Ext M ρ w M ρ w' where
  os := hb.os
  tape := hb.tape
  output := hb.output
  size := hb.size
  mem := Mem.le.refl _
  pre := List.prefix_refl _
  frame k h _ := hb.block k h
  newM _ _ _ := rfl
  newR _ c h := .inl ⟨c, h⟩
theorem frozen_lt (hS : SR T M ρ H w) {b : Nat} {o : Obj} (h : M b = some o) : b < w.heap.size := by
  have := hS.frozen b o h
  by_cases hlt : b < w.heap.size
  · exact hlt
  · rw [Array.getElem?_eq_none (by omega)] at this; cases this
theorem sr_below (hS : SR T M ρ H w) (hb : Below w.heap.size w w') : SR T M ρ H w' where
  frozen b o h := by rw [hb.block b (frozen_lt hS h)]; exact hS.frozen b o h
  len := hS.len
  blk n b hn := by
    obtain ⟨c, q, hr, hM, hlt, hok⟩ := hS.blk n b hn
    refine ⟨c, q, hr, hM, Nat.lt_of_lt_of_le hlt hb.size, ?_⟩
    rw [hb.block c hlt]
    exact hok
  inj := hS.inj
  glob := hS.glob
  gint := hS.gint
theorem callOK_below {f : FuncId} {args : Array Value} {x : Value} {v : V} (hS : SR T M ρ H w) (h : Calls P f args w fun e w' => e = .returned x ∧ Below w.heap.size w w') (hx : rel M ρ v x) : CallOK P T f args M ρ w (.val v H) := by
  refine Calls.mono h ?_
  rintro e w' ⟨rfl, hb⟩
  exact ⟨x, M, ρ, rfl, ext_below hb, hx, sr_below hS hb⟩
end
end Go.Ev
namespace Go.Proofs
def Tryz.lays196_ren : Go.Shelf.Ren := ⟨fun | 196 => 36 | 259 => 66 | n => n, fun | 9 => 9 | 4 => 4 | 3 => 3 | 5 => 5 | 12 => 12 | 119 => 99 | 0 => 0 | 46 => 72 | 139 => 102 | 138 => 101 | 53 => 119 | n => n, fun | 3 => 1 | 4 => 2 | n => n⟩
theorem Tryz.lays196 : Go.Proofs.Lays.n196 Tryz.prog Tryz.lays196_ren := {
  mixed := by kernel_rfl
  f196 := Tryz.func36.trans (congrArg some (by kernel_rfl))
  f259 := Tryz.func66.trans (congrArg some (by kernel_rfl))
  t0 := Tryz.underlying0
  a0 := Tryz.isAgg0
  z0 := Tryz.sizeOf0
  v0 := Tryz.zeroValue0
  t3 := Tryz.underlying3
  a3 := Tryz.isAgg3
  z3 := Tryz.sizeOf3
  v3 := Tryz.zeroValue3
  t4 := Tryz.underlying4
  a4 := Tryz.isAgg4
  z4 := Tryz.sizeOf4
  v4 := Tryz.zeroValue4
  t5 := Tryz.underlying5
  a5 := Tryz.isAgg5
  z5 := Tryz.sizeOf5
  v5 := Tryz.zeroValue5
  t9 := Tryz.underlying9
  a9 := Tryz.isAgg9
  z9 := Tryz.sizeOf9
  v9 := Tryz.zeroValue9
  t12 := Tryz.underlying12
  a12 := Tryz.isAgg12
  z12 := Tryz.sizeOf12
  v12 := Tryz.zeroValue12
  t46 := Tryz.underlying72
  a46 := Tryz.isAgg72
  z46 := Tryz.sizeOf72
  v46 := Tryz.zeroValue72
  t53 := Tryz.underlying119
  a53 := Tryz.isAgg119
  z53 := Tryz.sizeOf119
  v53 := Tryz.zeroValue119
  t119 := Tryz.underlying99
  a119 := Tryz.isAgg99
  z119 := Tryz.sizeOf99
  t138 := Tryz.underlying101
  a138 := Tryz.isAgg101
  z138 := Tryz.sizeOf101
  v138 := Tryz.zeroValue101
  t139 := Tryz.underlying102
  a139 := Tryz.isAgg102
  z139 := Tryz.sizeOf102
  v139 := Tryz.zeroValue102
  g3 := by kernel_rfl
  g4 := by kernel_rfl }
def Tryz.lays143_ren : Go.Shelf.Ren := ⟨fun | 143 => 35 | 219 => 65 | 217 => 87 | 225 => 88 | 224 => 89 | 267 => 90 | 266 => 105 | 314 => 106 | n => n, fun | 9 => 9 | 3 => 3 | 4 => 4 | 5 => 5 | 46 => 72 | 146 => 154 | 51 => 125 | n => n, fun | 1 => 4 | n => n⟩
theorem Tryz.lays143 : Go.Proofs.Lays.n143 Tryz.prog Tryz.lays143_ren := {
  mixed := by kernel_rfl
  f143 := Tryz.func35.trans (congrArg some (by kernel_rfl))
  f217 := Tryz.func87.trans (congrArg some (by kernel_rfl))
  f219 := Tryz.func65.trans (congrArg some (by kernel_rfl))
  f224 := Tryz.func89.trans (congrArg some (by kernel_rfl))
  f225 := Tryz.func88.trans (congrArg some (by kernel_rfl))
  f266 := Tryz.func105.trans (congrArg some (by kernel_rfl))
  f267 := Tryz.func90.trans (congrArg some (by kernel_rfl))
  f314 := Tryz.func106.trans (congrArg some (by kernel_rfl))
  t3 := Tryz.underlying3
  a3 := Tryz.isAgg3
  z3 := Tryz.sizeOf3
  v3 := Tryz.zeroValue3
  t4 := Tryz.underlying4
  a4 := Tryz.isAgg4
  z4 := Tryz.sizeOf4
  v4 := Tryz.zeroValue4
  t5 := Tryz.underlying5
  a5 := Tryz.isAgg5
  z5 := Tryz.sizeOf5
  v5 := Tryz.zeroValue5
  t9 := Tryz.underlying9
  a9 := Tryz.isAgg9
  z9 := Tryz.sizeOf9
  v9 := Tryz.zeroValue9
  t46 := Tryz.underlying72
  a46 := Tryz.isAgg72
  z46 := Tryz.sizeOf72
  v46 := Tryz.zeroValue72
  t51 := Tryz.underlying125
  a51 := Tryz.isAgg125
  z51 := Tryz.sizeOf125
  v51 := Tryz.zeroValue125
  t146 := Tryz.underlying154
  a146 := Tryz.isAgg154
  z146 := Tryz.sizeOf154
  v146 := Tryz.zeroValue154
  g1 := by kernel_rfl }
def Tryz.lays144_ren : Go.Shelf.Ren := ⟨fun | 144 => 15 | 143 => 35 | 219 => 65 | 217 => 87 | 225 => 88 | 224 => 89 | 267 => 90 | 266 => 105 | 314 => 106 | n => n, fun | 9 => 9 | 4 => 4 | 3 => 3 | 5 => 5 | 46 => 72 | 146 => 154 | 51 => 125 | n => n, fun | 1 => 4 | n => n⟩
theorem Tryz.lays144 : Go.Proofs.Lays.n144 Tryz.prog Tryz.lays144_ren := {
  mixed := by kernel_rfl
  f143 := Tryz.func35.trans (congrArg some (by kernel_rfl))
  f144 := Tryz.func15.trans (congrArg some (by kernel_rfl))
  f217 := Tryz.func87.trans (congrArg some (by kernel_rfl))
  f219 := Tryz.func65.trans (congrArg some (by kernel_rfl))
  f224 := Tryz.func89.trans (congrArg some (by kernel_rfl))
  f225 := Tryz.func88.trans (congrArg some (by kernel_rfl))
  f266 := Tryz.func105.trans (congrArg some (by kernel_rfl))
  f267 := Tryz.func90.trans (congrArg some (by kernel_rfl))
  f314 := Tryz.func106.trans (congrArg some (by kernel_rfl))
  t3 := Tryz.underlying3
  a3 := Tryz.isAgg3
  z3 := Tryz.sizeOf3
  v3 := Tryz.zeroValue3
  t4 := Tryz.underlying4
  a4 := Tryz.isAgg4
  z4 := Tryz.sizeOf4
  v4 := Tryz.zeroValue4
  t5 := Tryz.underlying5
  a5 := Tryz.isAgg5
  z5 := Tryz.sizeOf5
  v5 := Tryz.zeroValue5
  t9 := Tryz.underlying9
  a9 := Tryz.isAgg9
  z9 := Tryz.sizeOf9
  v9 := Tryz.zeroValue9
  t46 := Tryz.underlying72
  a46 := Tryz.isAgg72
  z46 := Tryz.sizeOf72
  v46 := Tryz.zeroValue72
  t51 := Tryz.underlying125
  a51 := Tryz.isAgg125
  z51 := Tryz.sizeOf125
  v51 := Tryz.zeroValue125
  t146 := Tryz.underlying154
  a146 := Tryz.isAgg154
  z146 := Tryz.sizeOf154
  v146 := Tryz.zeroValue154
  g1 := by kernel_rfl }
end Go.Proofs
namespace Go.Ev
open Go Go.Proofs
open Go.RowKit (Below)
set_option maxRecDepth 100000
theorem enters_tz {f : FuncId} {fn : Func} {c : Code} (h : TT.func f = some fn) (hb : fn.body = some c) : Enters Tryz.prog f := (TT_ok.func f fn c h hb).2
theorem relL1 {M : Mem} {ρ : Ren} {s : List UInt8} {args : List Value} (h : relL M ρ [.s s] args) : args = [.string ⟨s.toArray⟩] := by
  simp only [relL, rel] at h
  obtain ⟨x, r, rfl, rfl, rfl⟩ := h; rfl
theorem relL2 {M : Mem} {ρ : Ren} {s c : List UInt8} {args : List Value} (h : relL M ρ [.s s, .s c] args) : args = [.string ⟨s.toArray⟩, .string ⟨c.toArray⟩] := by
  simp only [relL, rel] at h
  obtain ⟨x, r, rfl, rfl, x, r, rfl, rfl, rfl⟩ := h; rfl

def spTrim : List V → Heap → OR
  | [.s s, .s c], H => if s.length < 4294967281 ∧ c.length < 4294967281 ∧ (c.all fun b => decide (b.toNat < 128)) = true then .val (.s (Lib.trimS s c)) H else .no
  | _, _ => .no
def spValid : List V → Heap → OR
  | [.s s], H => if s.length < 4294967281 then .val (.b (Lib.validD s)) H else .no
  | _, _ => .no
theorem tabs_of_sr {M : Mem} {ρ : Ren} {H : Heap} {w : World} (hS : SR TT M ρ H w) : Lib.Utf8Tabs 1 2 w := by
  constructor
  · intro c hc
    obtain ⟨cs, ty, fr, hM, hr⟩ := hS.glob 1 _ rfl
    have hw := hS.frozen _ _ hM
    obtain ⟨x, hx, hxr⟩ := relL_get hr (i := c) (v := .i .u8 (Lib.firstT c)) (by simp [hc])
    simp only [rel] at hxr
    subst hxr
    simp [World.cell?, hw, hx]
  · intro i hi
    obtain ⟨cs, ty, fr, hM, hr⟩ := hS.glob 2 _ rfl
    have hw := hS.frozen _ _ hM
    have key : ∀ j, j < 16 → ((((List.range 16).map fun i => [V.i .u8 (Lib.accLo i), V.i .u8 (Lib.accHi i)]).flatten)[2 * j]? = some (V.i .u8 (Lib.accLo j)) ∧ (((List.range 16).map fun i => [V.i .u8 (Lib.accLo i), V.i .u8 (Lib.accHi i)]).flatten)[2 * j + 1]? = some (V.i .u8 (Lib.accHi j))) := by
      intro j hj
      have : j = 0 ∨ j = 1 ∨ j = 2 ∨ j = 3 ∨ j = 4 ∨ j = 5 ∨ j = 6 ∨ j = 7 ∨ j = 8 ∨ j = 9 ∨ j = 10 ∨ j = 11 ∨ j = 12 ∨ j = 13 ∨ j = 14 ∨ j = 15 := by omega
      rcases this with rfl | rfl | rfl | rfl | rfl | rfl | rfl | rfl | rfl | rfl | rfl | rfl | rfl | rfl | rfl | rfl <;> exact ⟨rfl, rfl⟩
    obtain ⟨x, hx, hxr⟩ := relL_get hr (key i hi).1
    obtain ⟨y, hy, hyr⟩ := relL_get hr (key i hi).2
    simp only [rel] at hxr hyr
    subst hxr hyr
    exact ⟨by simp [World.cell?, hw, hx], by simp [World.cell?, hw, hy]⟩
theorem ok33 : SpecOK Tryz.prog TT 36 spValid := by
  intro vs H r h hne
  unfold spValid at h
  split at h
  · rename_i H s
    split at h
    · rename_i hc
      subst h
      refine ⟨enters_tz (f := 36) rfl rfl, fun M ρ w args hS hr => ?_⟩
      rw [relL1 hr]
      refine callOK_below (x := .bool (Lib.validD s)) hS ?_ (by simp only [rel])
      exact Any.utf8_ValidString Tryz.lays196 ⟨s.toArray⟩ w (by show s.toArray.size ≤ _; simp; omega) (tabs_of_sr hS)
    · exact absurd h.symm hne
  · exact absurd h.symm hne
def pieces (s : List UInt8) (c : UInt8) : List (List UInt8) := (Lib.splitB ⟨#[c]⟩ 0 (Lib.countB ⟨s.toArray⟩ ⟨#[c]⟩) ⟨s.toArray⟩).map fun b => b.data.toList
end Go.Ev
namespace Go.Ev
open Go Go.Proofs
set_option linter.unusedSimpArgs false
set_option linter.unusedVariables false
set_option maxRecDepth 1000000
def dig : List UInt8 := [48, 49, 50, 51, 52, 53, 54, 55, 56, 57]
theorem loop71pa {call : CallF} (hC : call.Sound Tryz.prog TT) {Q : Out → Prop} : ∀ (L pre : List UInt8) (t : Tm) (H : Heap), (pre ++ L).length < 1100000 → t.wid = 37 → t.get 0 = .s (pre ++ L) → t.get 3 = .i .i64 pre.length → (∀ b : UInt8, ∀ H, call 73 [.i .u8 b.toNat] H = .val (.b (worR b.toNat)) H) →
    (∀ (t' : Tm) (H' : Heap), t'.wid = 37 → t'.get 0 = .s (pre ++ L) → t'.get 3 = .i .i64 ((pre.length + runW L : Nat) : Int) → Q (.exit 0 t' H')) →
    LTri Tryz.prog TT (sub [true, true, true, false, false, false] (bodyOf Tryz.f49)) t H Q := by
 intro L
 induction L with
 | nil =>
   intro pre t H hlen hw h0 h3 hcall hE
   refine LTri.round' ?_
   apply sQ
   apply rS hC
   · iterate 5 refine oA ?_
     iterate 4 refine oC ?_
     refine oA ?_
     rfl
   refine cF (by simp [h0, h3] <;> rfl) ?_
   refine Tri.exit ?_
   refine inSeq_exit ?_
   refine inLoop_exit ?_
   exact hE _ _ (by simp [hw]) (by simp [h0]) (by simp [h3, runW])
 | cons b L ih =>
   intro pre t H hlen hw h0 h3 hcall hE
   have hlt := fin_len pre.length L.length
   have hat := str_at pre b L
   have hat2 := str_at2 pre b L
   have hq1 : ∀ v, worR b.toNat = v → ∀ H, call 73 [.i .u8 b.toNat] H = .val (.b v) H := fun v e H => by rw [← e]; exact hcall b H
   cases hq2 : worR b.toNat with
   | true =>
     have hq := hq1 _ hq2
     have hF := ai @h0 (ai @h3 (ai @hlt (ai @hat (ai @hat2 @hq))))
     refine LTri.round' ?_
     apply sQ
     apply rS hC
     · iterate 5 refine oA ?_
       iterate 4 refine oB ?_
       refine oA ?_
       rfl
     refine cT (by simp [hF] <;> rfl) ?_
     apply Tri.skip
     apply sN
     apply bK
     apply rN hC
     · iterate 3 refine oA ?_
       rfl
     apply bN
     refine inLoop_norm ?_
     refine ih (pre ++ [b]) _ _ (by simpa using hlen) (by simp [hw]) (by simp [h0]) (by simp; exact wrap_i64 (by omega) (by simp at hlen; omega)) hcall (fun t' H' k1 k2 k3 => hE t' H' k1 (by simpa using k2) (by rw [k3]; simp [runW, hq2, Int.add_assoc, Int.add_comm, Int.add_left_comm]))
   | false =>
     have hq := hq1 _ hq2
     have hF := ai @h0 (ai @h3 (ai @hlt (ai @hat (ai @hat2 @hq))))
     refine LTri.round' ?_
     apply sQ
     apply rS hC
     · iterate 5 refine oA ?_
       iterate 4 refine oB ?_
       refine oA ?_
       rfl
     refine cF (by simp [hF] <;> rfl) ?_
     refine Tri.exit ?_
     refine inSeq_exit ?_
     refine inLoop_exit ?_
     exact hE _ _ (by simp [hw]) (by simp [h0]) (by simp [h3, runW, hq2])

theorem loop71pb {call : CallF} (hC : call.Sound Tryz.prog TT) {Q : Out → Prop} : ∀ (L pre : List UInt8) (t : Tm) (H : Heap), (pre ++ L).length < 1100000 → t.wid = 37 → t.get 0 = .s (pre ++ L) → t.get 3 = .i .i64 pre.length →
    (∀ (t' : Tm) (H' : Heap), t'.wid = 37 → t'.get 0 = .s (pre ++ L) → t'.get 3 = .i .i64 ((pre.length + runQ L : Nat) : Int) → Q (.exit 2 t' H')) →
    LTri Tryz.prog TT (sub [true, true, true, true, false, false, false] (bodyOf Tryz.f49)) t H Q := by
 intro L
 induction L with
 | nil =>
   intro pre t H hlen hw h0 h3 hE
   refine LTri.round' ?_
   apply sQ
   apply rS hC
   · iterate 5 refine oA ?_
     iterate 4 refine oC ?_
     refine oA ?_
     rfl
   refine cF (by simp [h0, h3] <;> rfl) ?_
   refine Tri.exit ?_
   refine inSeq_exit ?_
   refine inLoop_exit ?_
   exact hE _ _ (by simp [hw]) (by simp [h0]) (by simp [h3, runQ])
 | cons b L ih =>
   intro pre t H hlen hw h0 h3 hE
   have hlt := fin_len pre.length L.length
   have hat := str_at pre b L
   have hat2 := str_at2 pre b L
   have hq1 : ∀ v, (b == 39) = v → (((b.toNat : Int) == 39) = v) := fun v e => by rw [← e, u8_eq b 39]; rfl
   cases hq2 : (b == 39) with
   | true =>
     have hq := hq1 _ hq2
     have hF := ai @h0 (ai @h3 (ai @hlt (ai @hat (ai @hat2 @hq))))
     refine LTri.round' ?_
     apply sQ
     apply rS hC
     · iterate 5 refine oA ?_
       iterate 4 refine oB ?_
       refine oA ?_
       rfl
     refine cT (by simp [hF] <;> rfl) ?_
     apply Tri.skip
     apply sN
     apply bK
     apply rN hC
     · iterate 3 refine oA ?_
       rfl
     apply bN
     refine inLoop_norm ?_
     refine ih (pre ++ [b]) _ _ (by simpa using hlen) (by simp [hw]) (by simp [h0]) (by simp; exact wrap_i64 (by omega) (by simp at hlen; omega)) (fun t' H' k1 k2 k3 => hE t' H' k1 (by simpa using k2) (by rw [k3]; simp [runQ, hq2, Int.add_assoc, Int.add_comm, Int.add_left_comm]))
   | false =>
     have hq := hq1 _ hq2
     have hF := ai @h0 (ai @h3 (ai @hlt (ai @hat (ai @hat2 @hq))))
     refine LTri.round' ?_
     apply sQ
     apply rS hC
     · iterate 5 refine oA ?_
       iterate 4 refine oB ?_
       refine oA ?_
       rfl
     refine cF (by simp [hF] <;> rfl) ?_
     refine Tri.exit ?_
     refine inSeq_exit ?_
     refine inLoop_exit ?_
     exact hE _ _ (by simp [hw]) (by simp [h0]) (by simp [h3, runQ, hq2])

theorem body_71pn {call : CallF} (hC : call.Sound Tryz.prog TT)   : EBody Tryz.prog TT 49 [.s []] (fun r => r = .val (.i .i64 0)) := by
 refine en Tryz.f49 rfl rfl (by simp [Tryz.f49]) 37 rfl fun t hw hg => ?_
 have h0 := hg 0 _ rfl
 clear hg
 try simp only [Nd.enc_eq] at *
 apply rS hC
 · refine oA ?_
   rfl
 apply sQ
 apply rS hC
 · iterate 3 refine oA ?_
   iterate 4 refine oC ?_
   refine oA ?_
   rfl
 refine cT (by simp [h0] <;> rfl) ?_
 apply rS hC
 · refine oA ?_
   rfl
 apply Tri.ret
 apply sR
 refine endsE (by simp [Tryz.f49] <;> rfl) (by rfl) ?_
 rfl
theorem body_71pf {call : CallF} (hC : call.Sound Tryz.prog TT) (c : UInt8) (r : List UInt8) (hs : ∀ H, call 72 [.i .u8 c.toNat] H = .val (.b false) H)  : EBody Tryz.prog TT 49 [.s (c :: r)] (fun r => r = .val (.i .i64 0)) := by
 refine en Tryz.f49 rfl rfl (by simp [Tryz.f49]) 37 rfl fun t hw hg => ?_
 have h0 := hg 0 _ rfl
 clear hg
 try simp only [Nd.enc_eq] at *
 apply rS hC
 · refine oA ?_
   rfl
 apply sQ
 apply rS hC
 · iterate 3 refine oA ?_
   iterate 4 refine oB ?_
   refine oA ?_
   rfl
 refine cT (by simp [h0, hs] <;> rfl) ?_
 apply rS hC
 · refine oA ?_
   rfl
 apply Tri.ret
 apply sR
 refine endsE (by simp [Tryz.f49] <;> rfl) (by rfl) ?_
 rfl
theorem body_71pt {call : CallF} (hC : call.Sound Tryz.prog TT) (c : UInt8) (L : List UInt8) (hlen : ([c] ++ L).length < 1100000) (hcall : ∀ b : UInt8, ∀ H, call 73 [.i .u8 b.toNat] H = .val (.b (worR b.toNat)) H) (hs : ∀ H, call 72 [.i .u8 c.toNat] H = .val (.b true) H)  : EBody Tryz.prog TT 49 [.s ([c] ++ L)] (fun r => r = .val (.i .i64 ((1 + runW L + runQ (L.drop (runW L)) : Nat) : Int))) := by
 refine en Tryz.f49 rfl rfl (by simp [Tryz.f49]) 37 rfl fun t hw hg => ?_
 have h0 := hg 0 _ rfl
 clear hg
 try simp only [Nd.enc_eq] at *
 apply rS hC
 · refine oA ?_
   rfl
 apply sQ
 apply rS hC
 · iterate 3 refine oA ?_
   iterate 4 refine oB ?_
   refine oA ?_
   rfl
 refine cF (by simp [h0, hs] <;> rfl) ?_
 apply Tri.skip
 apply sN
 apply rS hC
 · refine oA ?_
   rfl
 apply sQ
 apply bK
 refine Tri.loop ?_
 refine loop71pa hC L [c] _ _ hlen (by simp [hw]) (by simp [h0]) (by simp) hcall ?exit
 case exit =>
  intro t2 H2 hw h0 h3
  refine inBlk_exit ?_
  apply sN
  apply sQ
  apply bK
  refine Tri.loop ?_
  have eL : [c] ++ L = ([c] ++ L.take (runW L)) ++ L.drop (runW L) := by rw [List.append_assoc, List.take_append_drop]
  have el : ([c] ++ L.take (runW L)).length = 1 + runW L := by
   have := runW_le L
   simp; omega
  refine loop71pb hC (L.drop (runW L)) ([c] ++ L.take (runW L)) _ _ (by rw [← eL]; exact hlen) (by simp [hw]) (by rw [← eL]; simp [h0]) (by rw [el]; simp [h3]) ?exit2
  case exit2 =>
   intro t3 H3 hw h0 h3
   rw [el] at h3
   refine inBlk_exit ?_
   apply sN
   apply rS hC
   · iterate 2 refine oA ?_
     rfl
   apply Tri.ret
   refine endsE (by simp [Tryz.f49, h3] <;> rfl) (by rfl) ?_
   simp
def kwHeap : Heap := [some { ty := 52, cells := [.s [97, 99, 116, 111, 114], .b true, .s [97, 110, 100], .b true, .s [97, 115], .b true, .s [98, 101], .b true, .s [98, 111, 120], .b true, .s [98, 114, 101, 97, 107], .b true, .s [99, 108, 97, 115, 115], .b true, .s [99, 111, 110, 115, 117, 109, 101], .b true, .s [99, 111, 110, 116, 105, 110, 117, 101], .b true, .s [100, 111], .b true, .s [101, 108, 115, 101], .b true, .s [101, 108, 115, 101, 105, 102], .b true, .s [101, 110, 100], .b true, .s [101, 114, 114, 111, 114], .b true, .s [102, 97, 108, 115, 101], .b true, .s [102, 111, 114], .b true, .s [102, 117, 110], .b true, .s [105, 102], .b true, .s [105, 102, 100, 101, 102], .b true, .s [105, 110], .b true, .s [105, 110, 116, 101, 114, 102, 97, 99, 101], .b true, .s [105, 115], .b true, .s [105, 115, 110, 116], .b true, .s [105, 115, 111], .b true, .s [108, 101, 116], .b true, .s [109, 97, 116, 99, 104], .b true, .s [110, 101, 119], .b true, .s [110, 111, 116], .b true, .s [111, 98, 106, 101, 99, 116], .b true, .s [111, 114], .b true, .s [112, 114, 105, 109, 105, 116, 105, 118, 101], .b true, .s [114, 101, 99, 111, 118, 101, 114], .b true, .s [114, 101, 102], .b true, .s [114, 101, 112, 101, 97, 116], .b true, .s [114, 101, 116, 117, 114, 110], .b true, .s [116, 97, 103], .b true, .s [116, 104, 101, 110], .b true, .s [116, 104, 105, 115], .b true, .s [116, 114, 97, 105, 116], .b true, .s [116, 114, 110], .b true, .s [116, 114, 117, 101], .b true, .s [116, 114, 121], .b true, .s [116, 121, 112, 101], .b true, .s [117, 110, 116, 105, 108], .b true, .s [117, 115, 101], .b true, .s [118, 97, 108], .b true, .s [118, 97, 114], .b true, .s [119, 104, 101, 114, 101], .b true, .s [119, 104, 105, 108, 101], .b true, .s [119, 105, 116, 104], .b true, .s [120, 111, 114], .b true], kind := .map }, some { ty := 9, cells := [.s [97, 99, 116, 111, 114], .s [97, 110, 100], .s [97, 115], .s [98, 101], .s [98, 111, 120], .s [98, 114, 101, 97, 107], .s [99, 108, 97, 115, 115], .s [99, 111, 110, 115, 117, 109, 101], .s [99, 111, 110, 116, 105, 110, 117, 101], .s [100, 111], .s [101, 108, 115, 101], .s [101, 108, 115, 101, 105, 102], .s [101, 110, 100], .s [101, 114, 114, 111, 114], .s [102, 97, 108, 115, 101], .s [102, 111, 114], .s [102, 117, 110], .s [105, 102], .s [105, 102, 100, 101, 102], .s [105, 110], .s [105, 110, 116, 101, 114, 102, 97, 99, 101], .s [105, 115], .s [105, 115, 110, 116], .s [105, 115, 111], .s [108, 101, 116], .s [109, 97, 116, 99, 104], .s [110, 101, 119], .s [110, 111, 116], .s [111, 98, 106, 101, 99, 116], .s [111, 114], .s [112, 114, 105, 109, 105, 116, 105, 118, 101], .s [114, 101, 99, 111, 118, 101, 114], .s [114, 101, 102], .s [114, 101, 112, 101, 97, 116], .s [114, 101, 116, 117, 114, 110], .s [116, 97, 103], .s [116, 104, 101, 110], .s [116, 104, 105, 115], .s [116, 114, 97, 105, 116], .s [116, 114, 110], .s [116, 114, 117, 101], .s [116, 114, 121], .s [116, 121, 112, 101], .s [117, 110, 116, 105, 108], .s [117, 115, 101], .s [118, 97, 108], .s [118, 97, 114], .s [119, 104, 101, 114, 101], .s [119, 104, 105, 108, 101], .s [119, 105, 116, 104], .s [120, 111, 114]], kind := .all }]
theorem mapGet_words (s : List UInt8) : ∀ ws : List (List UInt8), mapGet (some .string) (.s s) ((ws.map fun w => [V.s w, V.b true]).flatten) = some (if ws.contains s then some (.b true) else none)
  | [] => rfl
  | w :: ws => by
    simp only [List.map_cons, List.flatten_cons, List.cons_append, List.nil_append, mapGet, sameKey]
    by_cases h : s = w
    · subst h; simp
    · have ih := mapGet_words s ws
      have h2 : (s == w) = false := beq_eq_false_iff_ne.2 h
      simp [h, h2, ih]
def kwWords : List (List UInt8) := [[97, 99, 116, 111, 114], [97, 110, 100], [97, 115], [98, 101], [98, 111, 120], [98, 114, 101, 97, 107], [99, 108, 97, 115, 115], [99, 111, 110, 115, 117, 109, 101], [99, 111, 110, 116, 105, 110, 117, 101], [100, 111], [101, 108, 115, 101], [101, 108, 115, 101, 105, 102], [101, 110, 100], [101, 114, 114, 111, 114], [102, 97, 108, 115, 101], [102, 111, 114], [102, 117, 110], [105, 102], [105, 102, 100, 101, 102], [105, 110], [105, 110, 116, 101, 114, 102, 97, 99, 101], [105, 115], [105, 115, 110, 116], [105, 115, 111], [108, 101, 116], [109, 97, 116, 99, 104], [110, 101, 119], [110, 111, 116], [111, 98, 106, 101, 99, 116], [111, 114], [112, 114, 105, 109, 105, 116, 105, 118, 101], [114, 101, 99, 111, 118, 101, 114], [114, 101, 102], [114, 101, 112, 101, 97, 116], [114, 101, 116, 117, 114, 110], [116, 97, 103], [116, 104, 101, 110], [116, 104, 105, 115], [116, 114, 97, 105, 116], [116, 114, 110], [116, 114, 117, 101], [116, 114, 121], [116, 121, 112, 101], [117, 110, 116, 105, 108], [117, 115, 101], [118, 97, 108], [118, 97, 114], [119, 104, 101, 114, 101], [119, 104, 105, 108, 101], [119, 105, 116, 104], [120, 111, 114]]
def kw (s : List UInt8) : Bool := kwWords.contains s
theorem EBody.of1 {F : FuncId} {vs : List V} {r : Res} (h : EBody Tryz.prog TT F vs (fun x => x = r)) : Body Tryz.prog TT F vs r := by
  obtain ⟨fn, c, h1, h2, h3, o, ⟨r', rfl, k2⟩, hx⟩ := h
  exact ⟨fn, c, h1, h2, h3, o, k2, hx⟩
def kwL : List (List UInt8) := [[97, 99, 116, 111, 114], [97, 110, 100], [97, 115], [98, 101], [98, 111, 120], [98, 114, 101, 97, 107], [99, 108, 97, 115, 115], [99, 111, 110, 115, 117, 109, 101], [99, 111, 110, 116, 105, 110, 117, 101], [100, 111], [101, 108, 115, 101], [101, 108, 115, 101, 105, 102], [101, 110, 100], [101, 114, 114, 111, 114], [102, 97, 108, 115, 101], [102, 111, 114], [102, 117, 110], [105, 102], [105, 102, 100, 101, 102], [105, 110], [105, 110, 116, 101, 114, 102, 97, 99, 101], [105, 115], [105, 115, 110, 116], [105, 115, 111], [108, 101, 116], [109, 97, 116, 99, 104], [110, 101, 119], [110, 111, 116], [111, 98, 106, 101, 99, 116], [111, 114], [112, 114, 105, 109, 105, 116, 105, 118, 101], [114, 101, 99, 111, 118, 101, 114], [114, 101, 102], [114, 101, 112, 101, 97, 116], [114, 101, 116, 117, 114, 110], [116, 97, 103], [116, 104, 101, 110], [116, 104, 105, 115], [116, 114, 97, 105, 116], [116, 114, 110], [116, 114, 117, 101], [116, 114, 121], [116, 121, 112, 101], [117, 110, 116, 105, 108], [117, 115, 101], [118, 97, 108], [118, 97, 114], [119, 104, 101, 114, 101], [119, 104, 105, 108, 101], [119, 105, 116, 104], [120, 111, 114]]
def syL : List (List UInt8) := [[60, 60], [62, 62], [61, 61], [33, 61], [60, 61], [62, 61], [61, 62], [45, 62], [46, 62], [43, 63], [45, 63], [42, 63], [47, 63], [37, 63], [35, 114, 101, 97, 100], [35, 115, 101, 110, 100], [35, 115, 104, 97, 114, 101], [35, 97, 108, 105, 97, 115], [35, 97, 110, 121], [40], [41], [91], [93], [123], [125], [44], [46], [58], [59], [63], [61], [60], [62], [43], [45], [42], [47], [37], [124], [38], [94], [33], [126]]
def hdR (L : List UInt8) : Int := match L with
  | [] => 0
  | b :: _ => b.toNat
def digL (base : Int) : List UInt8 → List UInt8 → Bool → Nat × List UInt8
  | [], out, _ => (0, out)
  | b :: L, out, pd => if 0 ≤ digR b.toNat base then ((digL base L (out ++ [b]) true).1 + 1, (digL base L (out ++ [b]) true).2)
    else if b = 95 ∧ out ≠ [] ∧ 0 ≤ digR (hdR L) base ∧ pd = true then ((digL base L out false).1 + 1, (digL base L out false).2)
    else (0, out)
def digB (b : UInt8) : Prop := 48 ≤ b.toNat ∧ b.toNat ≤ 57
def valD : List UInt8 → Nat
  | [] => 0
  | b :: l => (b.toNat - 48) * 10 ^ l.length + valD l
def Canon (s : List UInt8) : Prop := (∀ b ∈ s, digB b) ∧ 0 < s.length ∧ (1 < s.length → s.head? ≠ some 48)
def maxS : List UInt8 := [51, 52, 48, 50, 56, 50, 51, 54, 54, 57, 50, 48, 57, 51, 56, 52, 54, 51, 52, 54, 51, 51, 55, 52, 54, 48, 55, 52, 51, 49, 55, 54, 56, 50, 49, 49, 52, 53, 53]
def numF (base : Nat) : List UInt8 → Nat → Nat
  | [], v => v
  | b :: l, v => numF base l (v * base + (digR b.toNat base).toNat)
def signR (s : List UInt8) (k : Nat) : Nat × List UInt8 := if ((atR s k == 43) || (atR s k == 45)) = true then (k + 1, (s.take (k + 1)).drop k) else (k, [])
def expR (s : List UInt8) (e : Nat) (text : List UInt8) (k : Int) : Option (Nat × List UInt8 × Int) := if ((atR s e == 101) || (atR s e == 69)) = true then
    if (digL 10 (s.drop (signR s (e + 1)).1) [] false).2 = [] then none else some ((signR s (e + 1)).1 + (digL 10 (s.drop (signR s (e + 1)).1) [] false).1, text ++ 101 :: ((signR s (e + 1)).2 ++ (digL 10 (s.drop (signR s (e + 1)).1) [] false).2), 4)
  else some (e, text, k)
def fracR (s : List UInt8) (e : Nat) (d : List UInt8) : Nat × List UInt8 × Int := if ((atR s e == 46) && decide (0 ≤ digR (atR s (e + 1)) 10)) = true then (e + 1 + (digL 10 (s.drop (e + 1)) [] false).1, d ++ 46 :: (digL 10 (s.drop (e + 1)) [] false).2, 4) else (e, d, 3)
def restR (s : List UInt8) (e : Nat) (d : List UInt8) : Option (Nat × List UInt8 × Int) := expR s (fracR s e d).1 (fracR s e d).2.1 (fracR s e d).2.2
def tokV (k : Int) (t : List UInt8) : V := .agg [.i .i64 k, .s t, .i .i64 0, .b false]
def errV : V := .tup [tokV 0 [], .i .i64 0, .i .i64 33]
def okV (k : Int) (t : List UInt8) (e : Nat) : V := .tup [tokV k t, .i .i64 e, .i .i64 0]
def NumEnd (s d : List UInt8) (base e : Nat) (text : List UInt8) (k : Int) (v : V) : Prop :=
  (((d == []) || worR (atR s e)) = true ∧ v = errV) ∨ (((d == []) || worR (atR s e)) = false ∧ ((k = 4 ∧ v = okV 4 text e) ∨ (k = 3 ∧ ((∃ o, Canon o ∧ valD o = numF base d 0 ∧ numF base d 0 ≤ valD maxS ∧ v = okV 3 o e) ∨ (valD maxS < numF base d 0 ∧ v = errV)))))
def NumR (s : List UInt8) (i : Nat) (v : V) : Prop :=
  if begR s i [48, 120] = true then NumEnd s (digL 16 (s.drop (i + 2)) [] false).2 16 (i + 2 + (digL 16 (s.drop (i + 2)) [] false).1) (digL 16 (s.drop (i + 2)) [] false).2 3 v
  else if begR s i [48, 98] = true then NumEnd s (digL 2 (s.drop (i + 2)) [] false).2 2 (i + 2 + (digL 2 (s.drop (i + 2)) [] false).1) (digL 2 (s.drop (i + 2)) [] false).2 3 v
  else (restR s (i + (digL 10 (s.drop i) [] false).1) (digL 10 (s.drop i) [] false).2 = none ∧ v = errV) ∨ ∃ e' t' k', restR s (i + (digL 10 (s.drop i) [] false).1) (digL 10 (s.drop i) [] false).2 = some (e', t', k') ∧ NumEnd s (digL 10 (s.drop i) [] false).2 10 e' t' k' v
def lnL : List UInt8 → Nat
  | [] => 0
  | b :: l => if (b == 10) = true then 0 else lnL l + 1
def cmF (s : List UInt8) : Nat → Nat → Nat → Bool → Bool × Nat × Bool
  | 0, i, _, l => (false, i, l)
  | n + 1, i, d, l => if d = 0 then (true, i, l) else if s.length ≤ i then (false, i, l)
    else if begR s i [47, 42] = true then cmF s n (i + 2) (d + 1) l
    else if begR s i [42, 47] = true then cmF s n (i + 2) (d - 1) l
    else cmF s n (i + 1) d (l || (atR s i == 10))
def cutR (s : List UInt8) (i j : Nat) : List UInt8 := (s.take j).drop i
def blkF (s : List UInt8) : Nat → Nat → Bool → Nat × Bool × Int
  | 0, i, l => (i, l, -1)
  | n + 1, i, l => if s.length ≤ i then (i, l, -1)
    else if ((atR s i == 10) : Bool) = true then blkF s n (i + 1) true
    else if (((atR s i == 32) || (atR s i == 9)) || (atR s i == 13)) = true then blkF s n (i + 1) l
    else if begR s i [47, 47] = true then (if Lib.validD (cutR s i (i + lnL (s.drop i))) = true then blkF s n (i + lnL (s.drop i)) l else (i, l, i))
    else if begR s i [47, 42] = true then (if (cmF s (s.length + 1) (i + 2) 1 l).1 = true then
        (if Lib.validD (cutR s i (cmF s (s.length + 1) (i + 2) 1 l).2.1) = true then blkF s n (cmF s (s.length + 1) (i + 2) 1 l).2.1 (cmF s (s.length + 1) (i + 2) 1 l).2.2 else (i, (cmF s (s.length + 1) (i + 2) 1 l).2.2, i))
      else (i, (cmF s (s.length + 1) (i + 2) 1 l).2.2, i))
    else (i, l, -1)
theorem sp33v : ∃ g, SpecOK Tryz.prog TT 36 g ∧ ∀ s : List UInt8, s.length < 100000000 → ∀ H, g [.s s] H = .val (.b (Lib.validD s)) H := ⟨spValid, ok33, fun s hs H => by
  have : s.length < 4294967281 := by omega
  simp only [spValid]
  rw [if_pos this]⟩
def rawF (s : List UInt8) : Nat → Nat → Option Nat
  | 0, _ => none
  | n + 1, k => if k + 3 ≤ s.length then (if ((s.take (k + 3)).drop k == [34, 34, 34]) = true then some k else rawF s n (k + 1)) else none
def quoF (s : List UInt8) (esc : Nat → Option (List UInt8 × Nat)) (mk : Int) : Nat → Nat → List UInt8 → Option (List UInt8 × Nat)
  | 0, _, _ => none
  | n + 1, i, out => if s.length ≤ i then none else if ((atR s i == 10) : Bool) = true then none
    else if ((atR s i == mk) : Bool) = true then some (out, i + 1)
    else if ((atR s i == 92) : Bool) = true then (match esc i with | some p => quoF s esc mk n p.2 (out ++ p.1) | none => none)
    else quoF s esc mk n (i + 1) (out ++ (s.take (i + 1)).drop i)
def quoP : Option (List UInt8 × Nat) → List UInt8 × Nat × Bool
  | some p => (p.1, p.2, Lib.validD p.1)
  | none => ([], 0, false)
def escL (c : Int) (ok : Bool) : List UInt8 → List UInt8 → Option (List UInt8)
  | x :: xs, y :: ys => if ((c == (x.toNat : Int)) && ok) = true then some [y] else escL c ok xs ys
  | _, _ => none
def hexF (s : List UInt8) (i : Nat) : Nat → Nat → Int → Option Int
  | 0, _, n => some n
  | m + 1, k, n => if digR (atR s (i + 2 + k)) 16 < 0 then none else hexF s i m (k + 1) (n * 16 + digR (atR s (i + 2 + k)) 16)
def escT (i m : Nat) (v : Int) : Option (List UInt8 × Nat) :=
  if ((((((m : Int) == 0) || (((m : Int) == 2) && decide (127 < v))) || decide (1114111 < v))) || (decide (55296 ≤ v) && decide (v < 57344))) = true then none else some (runesS [v], i + 2 + m)
def manyR (c : Int) : Nat := if (c == 120) = true then 2 else if (c == 117) = true then 4 else if (c == 85) = true then 6 else 0
def escN : List UInt8 := [110, 116, 114, 48, 92, 34, 39]
def escB : List UInt8 := [10, 9, 13, 0, 92, 34, 39]
def escR (s : List UInt8) (i : Nat) : Option (List UInt8 × Nat) :=
  match escL (atR s (i + 1)) (decide ((i : Int) + 1 < s.length)) escN escB with
  | some t => some (t, i + 2)
  | none => match hexF s i (manyR (atR s (i + 1))) 0 0 with
    | none => none
    | some v => escT i (manyR (atR s (i + 1))) v
end Go.Ev
-- no T33
namespace Go.Ev
open Go Go.Proofs
set_option maxRecDepth 1000000
set_option linter.unusedVariables false
theorem runesS_le (v : Int) : (runesS [v]).length ≤ 4 := by
  have h := foldl_size_le [v] ByteArray.empty
  have e : (runesS [v]).length = (([v] : List Int).foldl (fun r n => r ++ Utf8.encode n) ByteArray.empty).size := by
    unfold runesS
    rw [Array.length_toList]
    rfl
  rw [e]
  exact h
def quoR (s : List UInt8) (mk : Int) (i : Nat) : Option (List UInt8 × Nat) := quoF s (escR s) mk (s.length + 1) (i + 1) []
end Go.Ev
namespace Go.Proofs
def Tryz.laysM171_ren : Go.Shelf.Ren := ⟨fun | 171 => 61 | 243 => 86 | 246 => 104 | 283 => 117 | 284 => 118 | 285 => 119 | 286 => 120 | 129 => 129 | 317 => 128 | 318 => 130 | 319 => 131 | 320 => 132 | 337 => 139 | 338 => 140 | n => n, fun | 3 => 3 | 9 => 9 | 2 => 2 | 4 => 4 | 171 => 174 | 0 => 0 | 53 => 119 | 37 => 64 | 5 => 5 | 173 => 177 | 212 => 196 | 51 => 125 | 20 => 20 | 213 => 197 | 46 => 72 | 232 => 225 | 233 => 226 | n => n, fun | 17 => 8 | 18 => 9 | 19 => 10 | n => n⟩
theorem Tryz.laysM171 : Go.Proofs.LaysM.n171 Tryz.prog Tryz.laysM171_ren := {
  mixed := by kernel_rfl
  f129 := Tryz.func129.trans (congrArg some (by kernel_rfl))
  f171 := Tryz.func61.trans (congrArg some (by kernel_rfl))
  f243 := Tryz.func86.trans (congrArg some (by kernel_rfl))
  f246 := Tryz.func104.trans (congrArg some (by kernel_rfl))
  f283 := Tryz.func117.trans (congrArg some (by kernel_rfl))
  f284 := Tryz.func118.trans (congrArg some (by kernel_rfl))
  f285 := Tryz.func119.trans (congrArg some (by kernel_rfl))
  f286 := Tryz.func120.trans (congrArg some (by kernel_rfl))
  f317 := Tryz.func128.trans (congrArg some (by kernel_rfl))
  f318 := Tryz.func130.trans (congrArg some (by kernel_rfl))
  f319 := Tryz.func131.trans (congrArg some (by kernel_rfl))
  f320 := Tryz.func132.trans (congrArg some (by kernel_rfl))
  f337 := Tryz.func139.trans (congrArg some (by kernel_rfl))
  f338 := Tryz.func140.trans (congrArg some (by kernel_rfl))
  t0 := Tryz.underlying0
  a0 := Tryz.isAgg0
  z0 := Tryz.sizeOf0
  v0 := Tryz.zeroValue0
  t2 := Tryz.underlying2
  a2 := Tryz.isAgg2
  z2 := Tryz.sizeOf2
  v2 := Tryz.zeroValue2
  t3 := Tryz.underlying3
  a3 := Tryz.isAgg3
  z3 := Tryz.sizeOf3
  v3 := Tryz.zeroValue3
  t4 := Tryz.underlying4
  a4 := Tryz.isAgg4
  z4 := Tryz.sizeOf4
  v4 := Tryz.zeroValue4
  t5 := Tryz.underlying5
  a5 := Tryz.isAgg5
  z5 := Tryz.sizeOf5
  v5 := Tryz.zeroValue5
  t9 := Tryz.underlying9
  a9 := Tryz.isAgg9
  z9 := Tryz.sizeOf9
  v9 := Tryz.zeroValue9
  t20 := Tryz.underlying20
  a20 := Tryz.isAgg20
  z20 := Tryz.sizeOf20
  v20 := Tryz.zeroValue20
  t37 := Tryz.underlying64
  a37 := Tryz.isAgg64
  z37 := Tryz.sizeOf64
  v37 := Tryz.zeroValue64
  t46 := Tryz.underlying72
  a46 := Tryz.isAgg72
  z46 := Tryz.sizeOf72
  v46 := Tryz.zeroValue72
  t51 := Tryz.underlying125
  a51 := Tryz.isAgg125
  z51 := Tryz.sizeOf125
  v51 := Tryz.zeroValue125
  t53 := Tryz.underlying119
  a53 := Tryz.isAgg119
  z53 := Tryz.sizeOf119
  v53 := Tryz.zeroValue119
  t171 := Tryz.underlying174
  a171 := Tryz.isAgg174
  z171 := Tryz.sizeOf174
  v171 := Tryz.zeroValue174
  t173 := Tryz.underlying177
  a173 := Tryz.isAgg177
  z173 := Tryz.sizeOf177
  v173 := Tryz.zeroValue177
  t212 := Tryz.underlying196
  a212 := Tryz.isAgg196
  z212 := Tryz.sizeOf196
  v212 := Tryz.zeroValue196
  t213 := Tryz.underlying197
  a213 := Tryz.isAgg197
  z213 := Tryz.sizeOf197
  t232 := Tryz.underlying225
  a232 := Tryz.isAgg225
  z232 := Tryz.sizeOf225
  v232 := Tryz.zeroValue225
  t233 := Tryz.underlying226
  a233 := Tryz.isAgg226
  z233 := Tryz.sizeOf226
  v233 := Tryz.zeroValue226
  g17 := by kernel_rfl
  g18 := by kernel_rfl
  g19 := by kernel_rfl
  i0 := by kernel_rfl
  i2 := by kernel_rfl
  i3 := by kernel_rfl
  i4 := by kernel_rfl
  i5 := by kernel_rfl
  i9 := by kernel_rfl
  i20 := by kernel_rfl
  i37 := by kernel_rfl
  i46 := by kernel_rfl
  i51 := by kernel_rfl
  i53 := by kernel_rfl
  i171 := by kernel_rfl
  i173 := by kernel_rfl
  i212 := by kernel_rfl
  i232 := by kernel_rfl
  i233 := by kernel_rfl
  m17 := by kernel_rfl
  m18 := by kernel_rfl
  m19 := by kernel_rfl }
end Go.Proofs
namespace Go.Ev
open Go Go.Proofs
open Go.RowKit (Below)
set_option maxRecDepth 100000
def spItoa : List V → Heap → OR
  | [.i .i64 n], H => if -9223372036854775808 ≤ n ∧ n ≤ 9223372036854775807 then .val (.s (Lib.itoa n)) H else .no
  | _, _ => .no
theorem tabIs_of_sr {M : Mem} {ρ : Ren} {H : Heap} {w : World} (hS : SR TT M ρ H w) : Lib.TabIs Tryz.prog w "internal/strconv.uint64pow10" .u64 Lib.pow10Tab := by
  obtain ⟨cs, ty, fr, hM, hr⟩ := hS.glob 8 _ rfl
  have hw := hS.frozen _ _ hM
  have hg : Tryz.prog.globalNamed "internal/strconv.uint64pow10" = some 8 := by kernel_rfl
  unfold Lib.TabIs World.var?
  rw [hg]
  simp only [Option.bind_some, hw]
  congr 2
  have key : ∀ (l : List Int) (cs : List Value), relL M ρ (l.map fun z => V.i .u64 z) cs → cs = l.map fun z => Value.int .u64 z := by
    intro l
    induction l with
    | nil => intro cs h; simpa [relL] using h
    | cons z l ih =>
      intro cs h
      simp only [List.map_cons, relL, rel] at h
      obtain ⟨x, r, rfl, rfl, hr⟩ := h
      rw [ih r hr]
      rfl
  refine key Lib.pow10Tab cs ?_
  have e : (Lib.pow10Tab.map fun z => V.i .u64 z) = ((List.range 20).map fun i => V.i .u64 ((10 ^ i : Nat) : Int)) := by
    simp only [Lib.pow10Tab, List.map_map]
    rfl
  rw [e]
  exact hr
theorem ok149 : SpecOK Tryz.prog TT 61 spItoa := by
  intro vs H r h hne
  unfold spItoa at h
  split at h
  · rename_i H n
    split at h
    · rename_i hc
      subst h
      refine ⟨enters_tz (f := 61) rfl rfl, fun M ρ w args hS hr => ?_⟩
      have ha : args = [.int .i64 n] := by
        simp only [relL, rel] at hr
        obtain ⟨x, r, rfl, rfl, rfl⟩ := hr; rfl
      rw [ha]
      refine callOK_below (x := .string ⟨(Lib.itoa n).toArray⟩) hS ?_ (by simp only [rel])
      refine (Any.strconv_Itoa Tryz.laysM171 n hc.1 hc.2 w (tabIs_of_sr hS)).mono ?_
      rintro e w' ⟨rfl, k, os, rfl⟩
      exact ⟨rfl, rfl, rfl, rfl, by simp [Sort.grow, World.drewN], fun j hj => by simp only [Sort.grow, World.drewN]; rw [Array.getElem?_append_left hj]⟩
    · exact absurd h.symm hne
  · exact absurd h.symm hne
end Go.Ev
namespace Go.Ev
open Go Go.Proofs
set_option linter.unusedSimpArgs false
set_option linter.unusedVariables false
set_option maxRecDepth 1000000
def lastB (x : List UInt8) : Int := match x.getLast? with | some b => b.toNat | none => 0
def okS (s : List UInt8) (i : Nat) (best x : List UInt8) : Bool := decide (best.length < x.length) && (begR s i x && (!(letR (lastB x)) || !(worR (atR s (i + x.length)))))
def symF (s : List UInt8) (i : Nat) : List (List UInt8) → List UInt8 → List UInt8
  | [], best => best
  | x :: l, best => symF s i l (if okS s i best x = true then x else best)
def oneV (k : Int) (t : List UInt8) (e : Int) : V := .tup [tokV k t, .i .i64 e, .i .i64 0]
def oneE (c : Int) : V := .tup [tokV 0 [], .i .i64 0, .i .i64 c]
theorem idR_le {s : List UInt8} {i : Nat} (h : i ≤ s.length) : i ≤ idR s i ∧ idR s i ≤ s.length := by
  unfold idR
  split
  · exact ⟨Nat.le_refl _, h⟩
  · have h1 := runW_le (s.drop i)
    have h2 := runQ_le (s.drop (i + runW (s.drop i)))
    simp only [List.length_drop] at h1 h2
    omega
def rawP (s : List UInt8) (i : Nat) : List UInt8 × Nat × Bool := match rawF s (s.length + 1) (i + 3) with
  | none => ([], 0, false)
  | some k => (cutR s (i + 3) k, k + 3, Lib.validD (cutR s (i + 3) k))
def strR (p : List UInt8 × Nat × Bool) : V := if p.2.2 = true then oneV 5 p.1 p.2.1 else oneE 31
def chrR (p : List UInt8 × Nat × Bool) : V := if p.2.2 = true then (match runesV p.1 with
    | [.i .i32 r] => oneV 3 (Lib.itoa (IntKind.i64.wrap r)) p.2.1
    | _ => oneE 31) else oneE 31
def symR (s : List UInt8) (i : Nat) : V := if (symF s i syL [] == []) = true then oneE 30 else oneV 6 (symF s i syL []) ((i : Int) + (symF s i syL []).length)
def OneR (s : List UInt8) (i : Nat) (v : V) : Prop :=
  if i < idR s i then v = oneV (if (kwL.any fun x => x == (s.take (idR s i)).drop i) = true then 2 else 1) ((s.take (idR s i)).drop i) (idR s i)
  else if 0 ≤ digR (atR s i) 10 then NumR s i v
  else if begR s i [34, 34, 34] = true then v = strR (rawP s i)
  else if ((atR s i == 34) : Bool) = true then v = strR (quoP (quoR s 34 i))
  else if ((atR s i == 39) : Bool) = true then v = chrR (quoP (quoR s 39 i))
  else v = symR s i
abbrev Tk := Int × List UInt8 × Int × Bool
def tkL (x : Tk) : List V := [.i .i64 x.1, .s x.2.1, .i .i64 x.2.2.1, .b x.2.2.2]
def tkC (l : List Tk) : List V := l.flatMap tkL
theorem tkC_length (l : List Tk) : (tkC l).length = l.length * 4 := by
  induction l with
  | nil => rfl
  | cons x l ih => simp only [tkC, List.flatMap_cons, List.length_append, List.length_cons] at ih ⊢; rw [ih]; simp [tkL]; omega
theorem tkC_snoc (l : List Tk) (x : Tk) : tkC (l ++ [x]) = tkC l ++ tkL x := by simp [tkC]
def OutAt (H : Heap) (v : V) (l : List Tk) : Prop := ∃ (n : Nat) (cap : Option Nat) (kd : BK), v = .sl n 4 0 l.length cap ∧ H[n]? = some (some { ty := 44, cells := tkC l, kind := kd }) ∧ kd ≠ .map ∧ ((cap = some 0 ∧ l = []) ∨ cap = none)
inductive ScanS (s : List UInt8) : Nat → List Tk → (List Tk ⊕ (Int × Int)) → Prop
  | opn {i : Nat} {l : List Tk} (h : 0 ≤ (blkF s (s.length + 1) i false).2.2) : ScanS s i l (.inr ((blkF s (s.length + 1) i false).2.2, 32))
  | done {i : Nat} {l : List Tk} (h : ¬ 0 ≤ (blkF s (s.length + 1) i false).2.2) (h2 : (blkF s (s.length + 1) i false).1 = s.length) : ScanS s i l (.inl l)
  | bad {i : Nat} {l : List Tk} {c : Int} (h : ¬ 0 ≤ (blkF s (s.length + 1) i false).2.2) (h2 : (blkF s (s.length + 1) i false).1 < s.length) (hc : c ≠ 0) (hv : OneR s (blkF s (s.length + 1) i false).1 (oneE c)) : ScanS s i l (.inr (((blkF s (s.length + 1) i false).1 : Nat), c))
  | step {i e : Nat} {l : List Tk} {k : Int} {t : List UInt8} {r : List Tk ⊕ (Int × Int)} (h : ¬ 0 ≤ (blkF s (s.length + 1) i false).2.2) (h2 : (blkF s (s.length + 1) i false).1 < s.length) (hv : OneR s (blkF s (s.length + 1) i false).1 (oneV k t e)) (h3 : (blkF s (s.length + 1) i false).1 < e) (h4 : e ≤ s.length) (hr : ScanS s e (l ++ [(k, t, (((blkF s (s.length + 1) i false).1 : Nat) : Int), (blkF s (s.length + 1) i false).2.1 || ((l.length : Int) == 0))]) r) : ScanS s i l r
theorem OutAt.ext {H : Heap} {v : V} {l : List Tk} (h : OutAt H v l) (K : Heap) : OutAt (H ++ K) v l := by
  obtain ⟨n, cap, kd, rfl, hn, hk, hcap⟩ := h
  exact ⟨n, cap, kd, rfl, by rw [List.getElem?_append_left (List.getElem?_eq_some_iff.1 hn).1]; exact hn, hk, hcap⟩
theorem OutAt.len {H : Heap} {v : V} {l : List Tk} (h : OutAt H v l) : evLen TT 27 v = some (.i .i64 l.length) := by
  obtain ⟨n, cap, kd, rfl, hn, hk, hcap⟩ := h
  have e1 : TT.und 27 = some (.slice 44) := rfl
  simp only [evLen, e1]
theorem rowsOf_tk : ∀ l : List Tk, rowsOf 4 l.length (tkC l) = some (l.map fun x => V.agg (tkL x))
  | [] => rfl
  | x :: l => by
    have ih := rowsOf_tk l
    simp only [tkC] at ih
    simp [rowsOf, tkC, tkL, ih]
theorem fzL_tk {H : Heap} : ∀ (l : List Tk) (n : Nat), 4 * l.length + 5 ≤ n → fzL H n (tkC l) = some (tkC l)
  | [], n, h => by cases n <;> simp [tkC, Ev.fzL]
  | x :: l, n, h => by
    obtain ⟨m, rfl⟩ : ∃ m, n = m + 5 := ⟨n - 5, by simp only [List.length_cons] at h; omega⟩
    have ih := fzL_tk (H := H) l (m + 1) (by simp only [List.length_cons] at h; omega)
    have e : tkC (x :: l) = .i .i64 x.1 :: .s x.2.1 :: .i .i64 x.2.2.1 :: .b x.2.2.2 :: tkC l := by simp [tkC, tkL]
    rw [e]
    simp [Ev.fzL, fz, ih]
theorem digN_cases (c : Int) : (48 ≤ c ∧ c ≤ 57 ∧ digN c = c - 48) ∨ (¬ (48 ≤ c ∧ c ≤ 57) ∧ (10 ≤ digN c ∨ digN c = -1)) := by
  unfold digN
  by_cases h : 48 ≤ c ∧ c ≤ 57
  · rw [if_pos h]; exact .inl ⟨h.1, h.2, rfl⟩
  · rw [if_neg h]
    refine .inr ⟨h, ?_⟩
    by_cases h2 : 97 ≤ c ∧ c ≤ 102
    · rw [if_pos h2]; omega
    · rw [if_neg h2]
      by_cases h3 : 65 ≤ c ∧ c ≤ 70
      · rw [if_pos h3]; omega
      · rw [if_neg h3]; omega
theorem digR10 (b : UInt8) : 0 ≤ digR b.toNat 10 ↔ digB b := by
  unfold digR digB
  rcases digN_cases b.toNat with ⟨h1, h2, h3⟩ | ⟨h1, h2⟩
  · rw [h3, if_neg (by omega)]; omega
  · rcases h2 with h2 | h2
    · rw [if_pos h2]; omega
    · rw [h2, if_neg (by omega)]; omega
def Stop (l : List UInt8) : Prop := ∀ b, l.head? = some b → ¬ digB b ∧ b ≠ 95
end Go.Ev
namespace Go.Ev
open Go Go.RowKit
set_option linter.unusedVariables false
section
variable {P : Program} {T : Tab} {M M' : Mem} {ρ ρ' : Ren} {w w' : World} {H H' : Heap} {t t' : Tm} {c x y : Code} {F : FuncId} {id : Nat} {m : Option V}
def TriS (P : Program) (T : Tab) (c : Code) (t : Tm) (H : Heap) (m : Option V) (Q : Out → Prop) : Prop :=
  ∃ o, Q o ∧ ∀ (a : Act) (w : World) (M : Mem) (ρ : Ren) (R : Exit → Act → List Frame → World → Prop) (c₀ : Frame) (cs : List Frame) (y : Value), SR T M ρ H w → relTm M ρ t a.tmps → (∀ u, m = some u → rel M ρ u y) → c₀.mode = modeOf m y →
    OutOK T M ρ w (fun e a w => R e a ({ c₀ with mode := modeTo m y } :: cs) w) a.defers o → c.wpS P R a (c₀ :: cs) w
variable {Q Q' : Out → Prop}
theorem TriS.mono (h : TriS P T c t H m Q) (hq : ∀ o, Q o → Q' o) : TriS P T c t H m Q' := by
  obtain ⟨o, h1, h2⟩ := h
  exact ⟨o, hq o h1, h2⟩
theorem TriS.seq (h : TriS P T x t H m fun o => match o with | .norm t' H' => Tri P T y t' H' Q | o => Q o) : TriS P T (.seq x y) t H m Q := by
  obtain ⟨o, ho, hx⟩ := h
  cases o with
  | norm t' H' =>
    obtain ⟨o2, h2, hy⟩ := ho
    refine ⟨o2, h2, fun a w M ρ R c₀ cs v hS ht hv hm k => wpS_seq (hx a w M ρ _ c₀ cs v hS ht hv hm ?_)⟩
    intro a' w' M' ρ' he ht' hS' hd
    refine wpS_of_wp (hy a' w' M' ρ' _ hS' ht' ?_)
    rw [hd]
    exact k.later he
  | exit id t' H' => exact ⟨_, ho, fun a w M ρ R c₀ cs v hS ht hv hm k => wpS_seq (hx a w M ρ _ c₀ cs v hS ht hv hm k)⟩
  | ret t' H' => exact ⟨_, ho, fun a w M ρ R c₀ cs v hS ht hv hm k => wpS_seq (hx a w M ρ _ c₀ cs v hS ht hv hm k)⟩
  | pan u t' H' => exact ⟨_, ho, fun a w M ρ R c₀ cs v hS ht hv hm k => wpS_seq (hx a w M ρ _ c₀ cs v hS ht hv hm k)⟩
  | no => exact ⟨.no, ho, fun a w M ρ R c₀ cs v hS ht hv hm k => k.elim⟩
theorem evSeqS_ok (hT : TOk P T) {call : CallF} (hcall : call.Sound P T) (ops : Array Oper) {Q : Exit → Act → List Frame → World → Prop} {cs : List Frame} (rest : List Nat) : ∀ (l : List Nat) (os : List Oper) (t : Tm) (H : Heap) (a : Act) (w : World) (M : Mem) (ρ : Ren) (t' : Tm) (H' : Heap), SR T M ρ H w → relTm M ρ t a.tmps →
    (l.map fun i => ops[i]?) = os.map some → evSeq (evOp T call) ops os t H = .norm t' H' →
    (∀ a' w' M' ρ', Ext M ρ w M' ρ' w' → relTm M' ρ' t' a'.tmps → SR T M' ρ' H' w' → a'.defers = a.defers → wpOpsS P ops Q rest a' cs w') → wpOpsS P ops Q (l ++ rest) a cs w
  | [], os, t, H, a, w, M, ρ, t', H', hS, ht, hl, h, k => by
    cases os with
    | cons o os => simp at hl
    | nil =>
      simp only [evSeq] at h
      cases h
      exact k a w M ρ (Ext.refl _ _ _) ht hS rfl
  | i :: l, os, t, H, a, w, M, ρ, t', H', hS, ht, hl, h, k => by
    cases os with
    | nil => simp at hl
    | cons o os =>
      simp only [List.map_cons, List.cons.injEq] at hl
      obtain ⟨hi, hl⟩ := hl
      simp only [evSeq, putK_eq, opened_eq] at h
      rw [List.cons_append]
      unfold wpOpsS
      rw [hi]
      simp only
      split at h
      · rename_i hw
        rw [wants_ok ht.2 hw]
        simp only [if_true]
        split at h
        · rename_i v H2 hv
          split at h
          · rename_i hfit
            have key : o.wp P a w (fun a' w' => wpOpsS P ops Q (l ++ rest) a' cs w') (fun e a' w' => Q e a' cs w') := by
              refine evOp_ok hT hcall hS ht.2 (r := .val v H2) hv ?_
              intro x M' ρ' w' he hx hS'
              refine evSeqS_ok hT hcall ops rest l os _ H2 _ w' M' ρ' t' H' hS' (put_rel (relTm_mono he.mem he.pre ht) hx o.dst hfit) hl h ?_
              intro a' w2 M2 ρ2 he2 ht2 hS2 hd
              rw [put_defers'] at hd
              exact k a' w2 M2 ρ2 (he.trans he2) ht2 hS2 hd
            unfold Oper.wp at key
            split
            · rename_i w1 e1
              rw [e1] at key
              simp [Oper.upon] at key
            · exact key
          · cases h
        · cases h
        · cases h
      · rename_i hw
        rw [wants_ok ht.2 hw]
        simp only [Bool.false_eq_true, if_false]
        split at h
        · rename_i hfit
          refine evSeqS_ok hT hcall ops rest l os _ H _ w M ρ t' H' hS (put_rel ht rel_undef o.dst hfit) hl h ?_
          intro a' w2 M2 ρ2 he2 ht2 hS2 hd
          rw [put_defers'] at hd
          exact k a' w2 M2 ρ2 he2 ht2 hS2 hd
        · cases h
      · cases h
def isRecover (o : Oper) : Bool := match o.op with
  | .call ⟨.builtin .recover, args, _⟩ => args.size == 0
  | _ => false
theorem isRecover_run {o : Oper} {a : Act} {w : World} (h : isRecover o = true) : (execOp a.eval o).run P w = .ok .recover w := by
  unfold isRecover at h
  split at h
  · rename_i args ts ho
    have : args = #[] := Array.eq_empty_of_size_eq_zero (by simpa using h)
    subst this
    simp [execOp, ho, resolve, invoke, builtin]
  · cases h
def recV (m : Option V) : V := match m with
  | none => .nili
  | some u => u
theorem range_parts {n q : Nat} (h : q < n) : List.range n = List.range q ++ q :: List.range' (q + 1) (n - (q + 1)) := by
  have e := List.range'_append_1 (s := 0) (m := q) (n := n - q)
  rw [show q + (n - q) = n from by omega, show n - q = (n - (q + 1)) + 1 from by omega, List.range'_succ, Nat.zero_add] at e
  rw [List.range_eq_range', List.range_eq_range']
  exact e.symm
theorem TriS.reg (hT : TOk P T) {call : CallF} (hC : call.Sound P T) {ops : Array Oper} (q : Nat) {o : Oper} {t1 t2 : Tm} {H1 H2 : Heap}
    (hops : ops.toList = ops.toList.take q ++ o :: ops.toList.drop (q + 1)) (hg : o.guard = none) (ho : isRecover o = true)
    (h1 : evSeq (evOp T call) ops (ops.toList.take q) t H = .norm t1 H1) (hfit : t1.fits o.dst = true)
    (h2 : evSeq (evOp T call) ops (ops.toList.drop (q + 1)) (t1.put o.dst (recV m)) H1 = .norm t2 H2) (h : Q (.norm t2 H2)) : TriS P T (.region id ops false) t H m Q := by
  have hq : q < ops.size := by
    have := congrArg List.length hops
    simp only [List.length_append, List.length_cons, List.length_take, List.length_drop, Array.length_toList] at this
    omega
  have hoq : ops[q]? = some o := by
    rw [← Array.getElem?_toList, hops, List.getElem?_append_right (by simp; omega)]
    simp [Nat.min_eq_left (Nat.le_of_lt hq)]
  refine ⟨_, h, fun a w M ρ R c₀ cs y hS ht hy hm k => wpS_region ?_⟩
  rw [range_parts hq]
  refine evSeqS_ok hT hC ops _ (List.range q) (ops.toList.take q) t H a w M ρ t1 H1 hS ht ?_ h1 ?_
  · apply List.ext_getElem?
    intro i
    by_cases hi : i < q
    · have : i < ops.size := by omega
      simp [hi, this]
    · simp [hi, List.getElem?_take]
  · intro a' w' M' ρ' he ht' hS' hd
    unfold wpOpsS
    rw [hoq]
    have hw : Region.wanted o (yielded ops a'.tmps) = true := by simp [Region.wanted, hg]
    simp only [hw, if_true, isRecover_run ho]
    have fin : ∀ (z : Value), rel M' ρ' (recV m) z → wpOpsS P ops R (List.range' (q + 1) (ops.size - (q + 1))) (a'.put o.dst z) ({ c₀ with mode := modeTo m y } :: cs) w' := by
      intro z hz
      have e2 := evSeqS_ok (Q := R) (cs := { c₀ with mode := modeTo m y } :: cs) hT hC ops [] (List.range' (q + 1) (ops.size - (q + 1))) (ops.toList.drop (q + 1)) (t1.put o.dst (recV m)) H1 (a'.put o.dst z) w' M' ρ' t2 H2 hS' (put_rel ht' hz o.dst hfit) ?_ h2 ?_
      · rwa [List.append_nil] at e2
      · apply List.ext_getElem?
        intro i
        simp only [List.getElem?_map, List.getElem?_drop, Array.getElem?_toList]
        by_cases hi : i < ops.size - (q + 1)
        · have : q + 1 + i < ops.size := by omega
          simp [hi, this]
        · have : ¬ q + 1 + i < ops.size := by omega
          simp [hi, this]
      · intro a2 w2 M2 ρ2 he2 ht2 hS2 hd2
        rw [put_defers'] at hd2
        exact k a2 w2 M2 ρ2 (he.trans he2) ht2 hS2 (hd2.trans hd)
    cases m with
    | none =>
      have : recoverD (c₀ :: cs) = none := by simp [recoverD, hm, modeOf]
      rw [this]
      have := fin .nilIface (by simp only [recV, rel])
      have e : ({ c₀ with mode := modeTo none y } : Frame) = c₀ := by
        show ({ c₀ with mode := FrameMode.returning } : Frame) = c₀
        rw [← show c₀.mode = FrameMode.returning from hm]
      rwa [e] at this
    | some u =>
      have : recoverD (c₀ :: cs) = some (y, { c₀ with mode := modeTo (some u) y } :: cs) := by simp [recoverD, hm, modeOf, modeTo]
      rw [this]
      exact fin y (rel_mono he.mem he.pre _ _ (hy u rfl))
theorem closes_of (hT : TOk P T) {f : FuncId} {vs : List V} {H2 : Heap} {fn : Func} (hfn : T.func f = some fn) (hc : fn.body = some c) (hle : vs.length ≤ fn.ntmps)
    (h : TriS P T c (Tm.init fn.ntmps vs) H m fun o => ∃ tI v, (o = .norm tI H2 ∨ o = .ret tI H2) ∧ finish T fn tI.get H2 = .val v H2) : Closes P T f vs m H H2 := by
  obtain ⟨hf, hent⟩ := hT.func f fn c hfn hc
  obtain ⟨o, ⟨tI, v, ho, hfin⟩, hx⟩ := h
  refine ⟨hent, fun M ρ w xs y hS hr hy => callsD_of_wpS hf hc fun c₀ cs hu => ?_⟩
  refine hx _ w M ρ _ c₀ cs y hS (relTm_init hr hle) hy hu ?_
  have key : ∀ (a' : Act) (w' : World) (M' : Mem) (ρ' : Ren), Ext M ρ w M' ρ' w' → relTm M' ρ' tI a'.tmps → SR T M' ρ' H2 w' → a'.defers = [] → a'.defers = [] ∧ ∃ u', ({ c₀ with mode := modeTo m y } :: cs) = { c₀ with mode := u' } :: cs ∧ ∃ z, (results fn a'.tmps).run P w' = .ok z w' ∧ ∃ x M' ρ', (Ending.returned z) = .returned x ∧ u' = modeTo m y ∧ Ext M ρ w M' ρ' w' ∧ SR T M' ρ' H2 w' := by
    intro a' w' M' ρ' he ht' hS' hd
    obtain ⟨_, z, hz, _⟩ := results_ok hT hS' ht'.2 hfin
    exact ⟨hd, _, rfl, z, hz, z, M', ρ', rfl, rfl, he, hS'⟩
  rcases ho with rfl | rfl
  · exact fun a' w' M' ρ' he ht' hS' hd => key a' w' M' ρ' he ht' hS' hd
  · exact fun a' w' M' ρ' he ht' hS' hd => key a' w' M' ρ' he ht' hS' hd
end
end Go.Ev
namespace Go.Ev
open Go Go.RowKit
section
variable {P : Program} {T : Tab} {H : Heap} {t : Tm} {c : Code} {Q : Out → Prop}
theorem TriS.plain (h : Tri P T c t H Q) : TriS P T c t H none Q := by
  obtain ⟨o, h1, hx⟩ := h
  refine ⟨o, h1, fun a w M ρ R c₀ cs y hS ht hy hm k => wpS_of_wp (hx a w M ρ _ hS ht ?_)⟩
  have e : ({ c₀ with mode := modeTo none y } : Frame) = c₀ := by
    show ({ c₀ with mode := FrameMode.returning } : Frame) = c₀
    rw [← show c₀.mode = FrameMode.returning from hm]
  rw [e] at k
  exact k
end
end Go.Ev
namespace Go.Ev
open Go Go.Proofs
set_option linter.unusedSimpArgs false
set_option linter.unusedVariables false
set_option maxRecDepth 100000
theorem EBody.of2 {F : FuncId} {vs : List V} {r : Res} (h : EBody Tryz.prog TT F vs (fun x => x = r)) : Body Tryz.prog TT F vs r := by
  obtain ⟨fn, c, h1, h2, h3, o, ⟨r', rfl, k2⟩, hx⟩ := h
  exact ⟨fn, c, h1, h2, h3, o, k2, hx⟩
theorem spT (F : FuncId) (val : List UInt8 → V) (D : List UInt8 → Prop) (hv : ∀ x, nl (val x) = true) (h : ∀ x, D x → EBody Tryz.prog TT F [.s x] (fun r => r = .val (val x))) : ∃ g, SpecOK Tryz.prog TT F g ∧ ∀ x, D x → ∀ H, g [.s x] H = .val (val x) H :=
  spec_val TT_ok TT_plain F (fun x : List UInt8 => [.s x]) D val (fun x _ => by simp [nlL, nl]) hv (fun a b h => by
    simp only [List.cons.injEq, V.s.injEq, and_true] at h; rw [h]) fun x hx => EBody.of2 (h x hx)
theorem sp83p : ∃ g, SpecOK Tryz.prog TT 72 g ∧ ∀ c : Int, True → ∀ H, g [.i .u8 c] H = .val (.b (letR c || (c == 95))) H :=
  spec_val TT_ok TT_plain 72 (fun c : Int => [.i .u8 c]) (fun _ => True) (fun c => .b (letR c || (c == 95))) (fun x _ => by simp [nlL, nl]) (fun _ => rfl) (fun a b h => by simp only [List.cons.injEq, V.i.injEq, true_and, and_true] at h; rw [h]) fun c _ => body_83 n0 c
theorem sp99p : ∃ g, SpecOK Tryz.prog TT 50 g ∧ ∀ c : Int, True → ∀ H, g [.i .u8 c] H = .val (.b (decide (48 ≤ c) && decide (c ≤ 57))) H :=
  spec_val TT_ok TT_plain 50 (fun c : Int => [.i .u8 c]) (fun _ => True) (fun c => .b (decide (48 ≤ c) && decide (c ≤ 57))) (fun x _ => by simp [nlL, nl]) (fun _ => rfl) (fun a b h => by simp only [List.cons.injEq, V.i.injEq, true_and, and_true] at h; rw [h]) fun c _ => body_99 n0 c
theorem worR_eq (b : UInt8) : worR b.toNat = ((letR b.toNat || ((b.toNat : Int) == 95)) || (decide (48 ≤ (b.toNat : Int)) && decide ((b.toNat : Int) ≤ 57))) := by
  have e : decide (0 ≤ digR b.toNat 10) = (decide (48 ≤ (b.toNat : Int)) && decide ((b.toNat : Int) ≤ 57)) := by
    rw [Bool.eq_iff_iff]
    simp only [Bool.and_eq_true, decide_eq_true_eq]
    rw [digR10]
    unfold digB
    omega
  unfold worR
  rw [e]
  cases letR b.toNat <;> cases ((b.toNat : Int) == 95) <;> simp
theorem sp84p : ∃ g, SpecOK Tryz.prog TT 73 g ∧ ∀ b : UInt8, True → ∀ H, g [.i .u8 b.toNat] H = .val (.b (worR b.toNat)) H := by
  obtain ⟨g3, hg3, hs3⟩ := sp83p
  obtain ⟨g9, hg9, hs9⟩ := sp99p
  refine spec_val TT_ok TT_plain 73 (fun b : UInt8 => [.i .u8 b.toNat]) (fun _ => True) (fun b => .b (worR b.toNat)) (fun x _ => by simp [nlL, nl]) (fun _ => rfl) (fun a b h => by
    simp only [List.cons.injEq, V.i.injEq, true_and, and_true] at h; rw [h]) fun c _ => ?_
  rw [worR_eq]
  exact body_84 (ws (ws n0 hg3) hg9) c.toNat _ _ (fun H => by rw [w_other _ _ _ _ rfl, w_here]; exact hs3 _ trivial H) (fun H => by rw [w_here]; exact hs9 _ trivial H)
theorem sp71p : ∃ g, SpecOK Tryz.prog TT 49 g ∧ ∀ s : List UInt8, s.length < NT → ∀ H, g [.s s] H = .val (.i .i64 (idR s 0 : Nat)) H := by
  obtain ⟨g3, hg3, hs3⟩ := sp83p
  obtain ⟨g4, hg4, hs4⟩ := sp84p
  refine spT 49 (fun s => .i .i64 (idR s 0 : Nat)) (fun s => s.length < NT) (fun _ => rfl) fun s hs => ?_
  have hN : NT = 1090000 := rfl
  have hC := ws (ws n0 hg3) hg4
  cases s with
  | nil => exact body_71pn hC
  | cons c r =>
    have h83 : ∀ H, ((CallF.none.with 72 g3).with 73 g4) 72 [.i .u8 c.toNat] H = .val (.b (letR c.toNat || ((c.toNat : Int) == 95))) H := fun H => by rw [w_other _ _ _ _ rfl, w_here]; exact hs3 _ trivial H
    have hat : atR (c :: r) 0 = c.toNat := rfl
    cases hl : (letR c.toNat || ((c.toNat : Int) == 95)) with
    | false =>
      have e : idR (c :: r) 0 = 0 := by
        unfold idR
        rw [hat, if_pos]
        rw [Bool.or_eq_false_iff] at hl
        simp only [Bool.and_eq_true, Bool.not_eq_true', bne_iff_ne]
        exact ⟨hl.1, by have := hl.2; rw [beq_eq_false_iff_ne] at this; exact this⟩
      rw [e]
      exact body_71pf hC c r fun H => by rw [h83, hl]
    | true =>
      have hw : worR c.toNat = true := by rw [worR_eq, hl]; rfl
      have e : idR (c :: r) 0 = 1 + runW r + runQ (r.drop (runW r)) := by
        unfold idR
        rw [hat, if_neg]
        · simp only [List.drop_zero, Nat.zero_add]
          have e2 : runW (c :: r) = runW r + 1 := by simp only [runW, hw, if_true]
          rw [e2, List.drop_succ_cons]
          omega
        · intro h
          simp only [Bool.and_eq_true, Bool.not_eq_true', bne_iff_ne] at h
          rw [h.1, Bool.false_or, beq_iff_eq] at hl
          exact h.2 hl
      rw [e]
      exact body_71pt hC c r (by simp at hs ⊢; omega) (fun b H => by rw [w_here]; exact hs4 b trivial H) fun H => by rw [h83, hl]
def fltV (e at_ : Int) : V := .ifc 50 (.agg [.i .i64 e, .i .i64 at_])
section
variable {P : Program} {T : Tab} {t t' : Tm} {H H' : Heap} {Q : Out → Prop} {v : V}
theorem Tri.regP (hT : TOk P T) {call : CallF} (hC : call.Sound P T) {id : Nat} {ops : Array Oper} {d : Bool} (he : evReg T call ops d t H = .pan v t' H') (h : Q (.pan v t' H')) : Tri P T (.region id ops d) t H Q := Tri.reg hT hC he h
theorem evSeq_panG {step : Oper → Env → Heap → OR} {ops : Array Oper} {o : Oper} {r : List Oper} {x : OR} {out : Out} (hw : wants ops o t.get = some true) (hs : step o t.get H = x) (hx : x = .pan v H') (ho : Out.pan v t H' = out) : evSeq step ops (o :: r) t H = out := (evSeq_pan hw (hs.trans hx)).trans ho
theorem endsP {T : Tab} {fn : Func} {R : Res → Prop} (hr : R (.pan v)) : ∃ r, R r ∧ Ends T fn r (.pan v t H) := ⟨_, hr, rfl⟩
theorem endsEN {fn : Func} {x : OR} {R : Res → Prop} (hf : finish TT fn t.get H = x) (hx : x = .val v H) (hr : R (.val v)) : ∃ r, R r ∧ Ends TT fn r (.norm t H) := ⟨_, hr, hf.trans hx⟩
end
attribute [simp] fltV evAssert eq1 eqFs
theorem body_2055t {call : CallF} (hC : call.Sound Tryz.prog TT) (e k : Int)  : EBody Tryz.prog TT 55 [.b true, .i .i64 e, .i .i64 k] (fun r => r = .val .un) := by
 refine en Tryz.f55 rfl rfl (by simp [Tryz.f55]) 12 rfl fun t hw hg => ?_
 have h0 := hg 0 _ rfl
 have h1 := hg 1 _ rfl
 have h2 := hg 2 _ rfl
 clear hg
 try simp only [Nd.enc_eq] at *
 have hF := ai @h0 (ai @h1 @h2)
 apply rS hC
 · iterate 2 refine oA ?_
   rfl
 refine cF (by simp [hF] <;> rfl) ?_
 apply Tri.skip
 refine endsEN (by simp [Tryz.f55] <;> rfl) (by rfl) ?_
 rfl
theorem body_2055f {call : CallF} (hC : call.Sound Tryz.prog TT) (e k : Int)  : EBody Tryz.prog TT 55 [.b false, .i .i64 e, .i .i64 k] (fun r => r = .pan (fltV e k)) := by
 refine en Tryz.f55 rfl rfl (by simp [Tryz.f55]) 12 rfl fun t hw hg => ?_
 have h0 := hg 0 _ rfl
 have h1 := hg 1 _ rfl
 have h2 := hg 2 _ rfl
 clear hg
 try simp only [Nd.enc_eq] at *
 have hF := ai @h0 (ai @h1 @h2)
 apply rS hC
 · iterate 2 refine oA ?_
   rfl
 refine cT (by simp [hF] <;> rfl) ?_
 refine Tri.regP (v := ?v3) (t' := ?t3) (H' := ?H3) TT_ok hC ?e3 ?q3
 case e3 =>
  refine go_false ?_
  iterate 4 refine oA ?_
  refine evSeq_panG rfl (by simp [hF] <;> rfl) (by rfl) ?_
  exact rfl
 refine endsP ?_
 rfl
end Go.Ev
