/- Contracts of the library laid at this program's numbers. character and text. A range over a map that nobody writes, whatever its order. The functions that number chooses an end by. -/
import Derived.Test.YtmjplflnlggbeaaGreatDoorSK3
import Derived.Shelf.Small.Strs
import Derived.Shelf.Utf8.RuneCount
import Derived.Shelf.Strings.Search3
import Derived.Shelf.Unicode.DecodeAny
import Derived.Test.YtmjplflnlggbeaaGreatDoorSYH
import Derived.Test.YtmjplflnlggbeaaGreatDoorSEvN
import Derived.Test.YtmjplflnlggbeaaGreatDoorSEvIter4
import Derived.Laws.IdiomRangeMap
import Derived.LoopN
import Derived.Test.YtmjplflnlggbeaaGreatDoorSK8
namespace Go.Proofs
open Go.Shelf
set_option maxRecDepth 100000
def Tryz.lays137_ren : Go.Shelf.Ren := ⟨fun | 137 => 71 | 217 => 87 | 266 => 105 | n => n, fun | 9 => 9 | 5 => 5 | 3 => 3 | n => n, fun | n => n⟩
theorem Tryz.lays137 : Go.Proofs.Lays.n137 Tryz.prog Tryz.lays137_ren := {
  mixed := by kernel_rfl
  f137 := Tryz.func71.trans (congrArg some (by kernel_rfl))
  f217 := Tryz.func87.trans (congrArg some (by kernel_rfl))
  f266 := Tryz.func105.trans (congrArg some (by kernel_rfl))
  t3 := Tryz.underlying3
  a3 := Tryz.isAgg3
  z3 := Tryz.sizeOf3
  v3 := Tryz.zeroValue3
  t5 := Tryz.underlying5
  a5 := Tryz.isAgg5
  z5 := Tryz.sizeOf5
  v5 := Tryz.zeroValue5
  t9 := Tryz.underlying9
  a9 := Tryz.isAgg9
  z9 := Tryz.sizeOf9
  v9 := Tryz.zeroValue9 }
open Go.RowKit in
theorem Tryz.strings_IndexByte (s : ByteArray) (c : Int) (w : World) :
    Calls Tryz.prog 71 #[.string s, .int .u8 c] w fun e w' => e = .returned (.int .i64 (Lib.indexByte s.data.toList c.toNat.toUInt8)) ∧ w' = w := Any.strings_IndexByte Tryz.lays137 s c w
def Tryz.lays195_ren : Go.Shelf.Ren := ⟨fun | 195 => 81 | n => n, fun | 9 => 9 | 3 => 3 | 0 => 0 | 4 => 4 | n => n, fun | n => n⟩
theorem Tryz.lays195 : Go.Proofs.Lays.n195 Tryz.prog Tryz.lays195_ren := {
  mixed := by kernel_rfl
  f195 := Tryz.func81.trans (congrArg some (by kernel_rfl))
  t0 := Tryz.underlying0
  a0 := Tryz.isAgg0
  z0 := Tryz.sizeOf0
  v0 := Tryz.zeroValue0
  t3 := Tryz.underlying3
  a3 := Tryz.isAgg3
  z3 := Tryz.sizeOf3
  v3 := Tryz.zeroValue3
  t4 := Tryz.underlying4
  a4 := Tryz.isAgg4
  z4 := Tryz.sizeOf4
  v4 := Tryz.zeroValue4
  t9 := Tryz.underlying9
  a9 := Tryz.isAgg9
  z9 := Tryz.sizeOf9
  v9 := Tryz.zeroValue9 }
open Go.RowKit in
theorem Tryz.utf8_RuneCountInString (s : ByteArray) (w : World) (hs : s.size < 9223372036854775807) :
    Calls Tryz.prog 81 #[.string s] w fun e w' => e = .returned (.int .i64 (Lib.runeCount s)) ∧ ∃ pos, w' = w.iter s pos := Any.utf8_RuneCountInString Tryz.lays195 s w hs
open Go.RowKit Go.Lib in
open Go.RowKit Go.Lib in
theorem Tryz.strings_Index (s sub : ByteArray) (m : Int) (w : World) (hs : s.size < 4294967281) (hm : w.cell? ⟨4, 0, none⟩ = some (.int .i64 m)) :
    Calls Tryz.prog 35 #[.string s, .string sub] w fun e w' => e = .returned (.int .i64 (Lib.index s.data.toList sub.data.toList)) ∧ w' = w := Any.strings_Index Tryz.lays143 s sub m w hs hm
open Go.RowKit Go.Lib in
open Go.RowKit Go.Lib in
theorem Tryz.strings_Contains (s sub : ByteArray) (m : Int) (w : World) (hs : s.size < 4294967281) (hm : w.cell? ⟨4, 0, none⟩ = some (.int .i64 m)) :
    Calls Tryz.prog 15 #[.string s, .string sub] w fun e w' => e = .returned (.bool (Lib.contains s.data.toList sub.data.toList)) ∧ w' = w := Any.strings_Contains Tryz.lays144 s sub m w hs hm
def Tryz.lays197_ren : Go.Shelf.Ren := ⟨fun | 197 => 82 | 260 => 101 | n => n, fun | 9 => 9 | 21 => 21 | 3 => 3 | 4 => 4 | 5 => 5 | 105 => 114 | 119 => 99 | 0 => 0 | 46 => 72 | 139 => 102 | 138 => 101 | n => n, fun | 3 => 1 | 4 => 2 | n => n⟩
theorem Tryz.lays197 : Go.Proofs.Lays.n197 Tryz.prog Tryz.lays197_ren := {
  mixed := by kernel_rfl
  f197 := Tryz.func82.trans (congrArg some (by kernel_rfl))
  f260 := Tryz.func101.trans (congrArg some (by kernel_rfl))
  t0 := Tryz.underlying0
  a0 := Tryz.isAgg0
  z0 := Tryz.sizeOf0
  v0 := Tryz.zeroValue0
  t3 := Tryz.underlying3
  a3 := Tryz.isAgg3
  z3 := Tryz.sizeOf3
  v3 := Tryz.zeroValue3
  t4 := Tryz.underlying4
  a4 := Tryz.isAgg4
  z4 := Tryz.sizeOf4
  v4 := Tryz.zeroValue4
  t5 := Tryz.underlying5
  a5 := Tryz.isAgg5
  z5 := Tryz.sizeOf5
  v5 := Tryz.zeroValue5
  t9 := Tryz.underlying9
  a9 := Tryz.isAgg9
  z9 := Tryz.sizeOf9
  v9 := Tryz.zeroValue9
  t21 := Tryz.underlying21
  a21 := Tryz.isAgg21
  z21 := Tryz.sizeOf21
  v21 := Tryz.zeroValue21
  t46 := Tryz.underlying72
  a46 := Tryz.isAgg72
  z46 := Tryz.sizeOf72
  v46 := Tryz.zeroValue72
  t105 := Tryz.underlying114
  a105 := Tryz.isAgg114
  z105 := Tryz.sizeOf114
  v105 := Tryz.zeroValue114
  t119 := Tryz.underlying99
  a119 := Tryz.isAgg99
  z119 := Tryz.sizeOf99
  t138 := Tryz.underlying101
  a138 := Tryz.isAgg101
  z138 := Tryz.sizeOf101
  v138 := Tryz.zeroValue101
  t139 := Tryz.underlying102
  a139 := Tryz.isAgg102
  z139 := Tryz.sizeOf102
  v139 := Tryz.zeroValue102
  g3 := by kernel_rfl
  g4 := by kernel_rfl }
open Go.RowKit Go.Lib in
theorem Tryz.utf8_DecodeRuneInString (s : ByteArray) (w : World) (hT : Lib.Utf8Tabs 1 2 w) :
    Calls Tryz.prog 82 #[.string s] w fun e w' => e = .returned (.tuple #[.int .i32 (Lib.decodeGo s).1, .int .i64 (Lib.decodeGo s).2]) ∧ Below w.heap.size w w' := Any.utf8_DecodeRuneInString Tryz.lays197 s w hT
end Go.Proofs
namespace Go.Ev
open Go Go.Proofs Go.RowKit
set_option maxRecDepth 100000
theorem maxLen {M : Mem} {ρ : Ren} {H : Heap} {w : World} (hS : SR TT M ρ H w) : ∃ m : Int, w.cell? ⟨4, 0, none⟩ = some (.int .i64 m) := by
  obtain ⟨m, ty, fr, hM⟩ := hS.gint 4 rfl
  have hw := hS.frozen _ _ hM
  exact ⟨m, by simp [World.cell?, hw]⟩
def spIndexB : List V → Heap → OR
  | [.s s, .i .u8 c], H => .val (.i .i64 (Lib.indexByte s c.toNat.toUInt8)) H
  | _, _ => .no
def spIndex : List V → Heap → OR
  | [.s s, .s p], H => if s.length < 4294967281 then .val (.i .i64 (Lib.index s p)) H else .no
  | _, _ => .no
def spContains : List V → Heap → OR
  | [.s s, .s p], H => if s.length < 4294967281 then .val (.b (Lib.contains s p)) H else .no
  | _, _ => .no
def spRunes : List V → Heap → OR
  | [.s s], H => if s.length < 4294967281 then .val (.i .i64 (Lib.runeCount ⟨s.toArray⟩)) H else .no
  | _, _ => .no
def spDecode : List V → Heap → OR
  | [.s s], H => .val (.tup [.i .i32 (Lib.decodeGo ⟨s.toArray⟩).1, .i .i64 (Lib.decodeGo ⟨s.toArray⟩).2]) H
  | _, _ => .no
theorem ok71 : SpecOK Tryz.prog TT 71 spIndexB := by
  intro vs H r h hne
  unfold spIndexB at h
  split at h
  · rename_i H s c
    subst h
    refine ⟨enters_tz (f := 71) rfl rfl, fun M ρ w args hS hr => ?_⟩
    have ha : args = [.string ⟨s.toArray⟩, .int .u8 c] := by
      simp only [relL, rel] at hr
      obtain ⟨x, r, rfl, rfl, x, r, rfl, rfl, rfl⟩ := hr; rfl
    rw [ha]
    refine callOK_below (x := .int .i64 (Lib.indexByte s c.toNat.toUInt8)) hS ?_ (by simp only [rel])
    exact (Tryz.strings_IndexByte ⟨s.toArray⟩ c w).mono fun e w' ⟨h1, h2⟩ => ⟨h1, h2 ▸ Below.refl _ _⟩
  · exact absurd h.symm hne
theorem ok35 : SpecOK Tryz.prog TT 35 spIndex := by
  intro vs H r h hne
  unfold spIndex at h
  split at h
  · rename_i H s p
    split at h
    · rename_i hc
      subst h
      refine ⟨enters_tz (f := 35) rfl rfl, fun M ρ w args hS hr => ?_⟩
      rw [relL2 hr]
      obtain ⟨m, hm⟩ := maxLen hS
      refine callOK_below (x := .int .i64 (Lib.index s p)) hS ?_ (by simp only [rel])
      exact (Tryz.strings_Index ⟨s.toArray⟩ ⟨p.toArray⟩ m w (by show s.toArray.size < _; simpa using hc) hm).mono fun e w' ⟨h1, h2⟩ => ⟨h1, h2 ▸ Below.refl _ _⟩
    · exact absurd h.symm hne
  · exact absurd h.symm hne
theorem ok15 : SpecOK Tryz.prog TT 15 spContains := by
  intro vs H r h hne
  unfold spContains at h
  split at h
  · rename_i H s p
    split at h
    · rename_i hc
      subst h
      refine ⟨enters_tz (f := 15) rfl rfl, fun M ρ w args hS hr => ?_⟩
      rw [relL2 hr]
      obtain ⟨m, hm⟩ := maxLen hS
      refine callOK_below (x := .bool (Lib.contains s p)) hS ?_ (by simp only [rel])
      exact (Tryz.strings_Contains ⟨s.toArray⟩ ⟨p.toArray⟩ m w (by show s.toArray.size < _; simpa using hc) hm).mono fun e w' ⟨h1, h2⟩ => ⟨h1, h2 ▸ Below.refl _ _⟩
    · exact absurd h.symm hne
  · exact absurd h.symm hne
theorem ok81 : SpecOK Tryz.prog TT 81 spRunes := by
  intro vs H r h hne
  unfold spRunes at h
  split at h
  · rename_i H s
    split at h
    · rename_i hc
      subst h
      refine ⟨enters_tz (f := 81) rfl rfl, fun M ρ w args hS hr => ?_⟩
      rw [relL1 hr]
      refine callOK_below (x := .int .i64 (Lib.runeCount ⟨s.toArray⟩)) hS ?_ (by simp only [rel])
      refine (Tryz.utf8_RuneCountInString ⟨s.toArray⟩ w (by show s.toArray.size < _; simp; omega)).mono ?_
      rintro e w' ⟨rfl, pos, rfl⟩
      exact ⟨rfl, rfl, rfl, rfl, by show w.heap.size ≤ (w.heap.push _).size; rw [Array.size_push]; omega, fun k hk => RowKit.Below.heap_alloc w _ k hk⟩
    · exact absurd h.symm hne
  · exact absurd h.symm hne
theorem ok82 : SpecOK Tryz.prog TT 82 spDecode := by
  intro vs H r h hne
  unfold spDecode at h
  split at h
  · rename_i H s
    subst h
    refine ⟨enters_tz (f := 82) rfl rfl, fun M ρ w args hS hr => ?_⟩
    rw [relL1 hr]
    refine callOK_below (x := .tuple #[.int .i32 (Lib.decodeGo ⟨s.toArray⟩).1, .int .i64 (Lib.decodeGo ⟨s.toArray⟩).2]) hS ?_ (by simp [rel, relL])
    exact Tryz.utf8_DecodeRuneInString ⟨s.toArray⟩ w (tabs_of_sr hS)
  · exact absurd h.symm hne
end Go.Ev
namespace Go.Ev
open Go Go.Proofs
set_option linter.unusedSimpArgs false
set_option linter.unusedVariables false
set_option maxRecDepth 100000
theorem tr_chr : codeT TT shp Tryz.f52.ntmps [] (bodyOf Tryz.f52) [] ⟨[(0, .f1 .vs (.va 0)), (1, .f1 (.vi .i64) (.va 1))], ⟨.va 2, [], []⟩, 3, []⟩ (KF TT Tryz.f52 []) = .asks (.call 80 (.f2 .cons (.f1 .vs (.va 0)) (.f2 .cons (.f1 (.vi .u8) (.ci 39)) (.f2 .cons (.f1 (.vi .i64) (.va 1)) .nil)))) [.s, .i] (.f1 .tup (.f2 .cons (.f1 .vs (.va 3)) (.f2 .cons (.f1 (.vi .i64) (.va 4)) .nil))) (.asks (.call 81 (.f2 .cons (.f1 .vs (.va 3)) .nil)) [.i] (.f1 (.vi .i64) (.va 5)) (.asks (.call 55 (.f2 .cons (.f1 .vb (.f2 .eqI (.va 5) (.ci 1))) (.f2 .cons (.f1 (.vi .i64) (.ci 31)) (.f2 .cons (.f1 (.vi .i64) (.va 1)) .nil)))) [] (.cv (.tup [])) (.asks (.call 82 (.f2 .cons (.f1 .vs (.va 3)) .nil)) [.i, .i] (.f1 .tup (.f2 .cons (.f1 (.vi .i32) (.va 6)) (.f2 .cons (.f1 (.vi .i64) (.va 7)) .nil))) (.asks (.call 61 (.f2 .cons (.f1 (.vi .i64) (.f1 (.wrap .i64) (.va 6))) .nil)) [.s] (.f1 .vs (.va 8)) (.fin (.f1 .tup (.f2 .cons (.f1 .vs (.va 8)) (.f2 .cons (.f1 (.vi .i64) (.va 4)) .nil))) ⟨.va 2, [], []⟩) (.stuck 0)) (.stuck 0)) (.pnc (.va 6) ⟨.va 2, [], []⟩)) (.stuck 0)) (.pnc (.va 3) ⟨.va 2, [], []⟩) := by kernel_rfl
theorem tr_txt : codeT TT shp Tryz.f53.ntmps [] (bodyOf Tryz.f53) [] ⟨[(0, .f1 .vs (.va 0)), (1, .f1 (.vi .i64) (.va 1))], ⟨.va 2, [], []⟩, 3, []⟩ (KF TT Tryz.f53 []) = .asks (.call 70 (.f2 .cons (.f1 .vs (.va 0)) (.f2 .cons (.f1 .vs (.cs [34, 34, 34])) .nil))) [.b] (.f1 .vb (.va 3)) (.ite (.va 3) (.need (.f2 .leI (.ci 3) (.f1 .lenS (.va 0))) (.asks (.call 35 (.f2 .cons (.f1 .vs (.f3 .sub (.va 0) (.ci 3) (.f1 .lenS (.va 0)))) (.f2 .cons (.f1 .vs (.cs [34, 34, 34])) .nil))) [.i] (.f1 (.vi .i64) (.va 4)) (.ite (.f2 .geI (.va 4) (.ci 0)) (.need (.f2 .leI (.ci 3) (.f1 (.wrap .i64) (.f2 .add (.ci 3) (.va 4)))) (.need (.f2 .leI (.f1 (.wrap .i64) (.f2 .add (.ci 3) (.va 4))) (.f1 .lenS (.va 0))) (.asks (.call 36 (.f2 .cons (.f1 .vs (.f3 .sub (.va 0) (.ci 3) (.f1 (.wrap .i64) (.f2 .add (.ci 3) (.va 4))))) .nil)) [.b] (.f1 .vb (.va 5)) (.asks (.call 55 (.f2 .cons (.f1 .vb (.va 5)) (.f2 .cons (.f1 (.vi .i64) (.ci 31)) (.f2 .cons (.f1 (.vi .i64) (.va 1)) .nil)))) [] (.cv (.tup [])) (.fin (.f1 .tup (.f2 .cons (.f1 .vs (.f3 .sub (.va 0) (.ci 3) (.f1 (.wrap .i64) (.f2 .add (.ci 3) (.va 4))))) (.f2 .cons (.f1 (.vi .i64) (.f1 (.wrap .i64) (.f2 .add (.va 4) (.ci 6)))) .nil))) ⟨.va 2, [], []⟩) (.pnc (.va 6) ⟨.va 2, [], []⟩)) (.stuck 0)))) (.asks (.call 55 (.f2 .cons (.f1 .vb (.cb .false)) (.f2 .cons (.f1 (.vi .i64) (.ci 31)) (.f2 .cons (.f1 (.vi .i64) (.va 1)) .nil)))) [] (.cv (.tup [])) (.need (.f2 .leI (.ci 3) (.f1 (.wrap .i64) (.f2 .add (.ci 3) (.va 4)))) (.need (.f2 .leI (.f1 (.wrap .i64) (.f2 .add (.ci 3) (.va 4))) (.f1 .lenS (.va 0))) (.fin (.f1 .tup (.f2 .cons (.f1 .vs (.f3 .sub (.va 0) (.ci 3) (.f1 (.wrap .i64) (.f2 .add (.ci 3) (.va 4))))) (.f2 .cons (.f1 (.vi .i64) (.f1 (.wrap .i64) (.f2 .add (.va 4) (.ci 6)))) .nil))) ⟨.va 2, [], []⟩))) (.pnc (.va 5) ⟨.va 2, [], []⟩))) (.stuck 0))) (.asks (.call 80 (.f2 .cons (.f1 .vs (.va 0)) (.f2 .cons (.f1 (.vi .u8) (.ci 34)) (.f2 .cons (.f1 (.vi .i64) (.va 1)) .nil)))) [.s, .i] (.f1 .tup (.f2 .cons (.f1 .vs (.va 4)) (.f2 .cons (.f1 (.vi .i64) (.va 5)) .nil))) (.fin (.f1 .tup (.f2 .cons (.f1 .vs (.va 4)) (.f2 .cons (.f1 (.vi .i64) (.va 5)) .nil))) ⟨.va 2, [], []⟩) (.pnc (.va 4) ⟨.va 2, [], []⟩))) (.stuck 0) := by kernel_rfl
theorem quoQ_ok (s : List UInt8) (mk : Int) : ∀ (n i : Nat) (out : List UInt8) (p : List UInt8 × Nat), out.length ≤ 4 * i → quoQ s mk n i out = some p → p.1.length ≤ 4 * s.length ∧ i < p.2 ∧ p.2 ≤ s.length
  | 0, _, _, _, _, h => by simp [quoQ] at h
  | n + 1, i, out, p, ho, h => by
    simp only [quoQ] at h
    by_cases h1 : s.length ≤ i
    · rw [if_pos h1] at h; cases h
    · rw [if_neg h1] at h
      by_cases h2 : atS s i = 10
      · rw [if_pos h2] at h; cases h
      · rw [if_neg h2] at h
        by_cases h3 : atS s i = mk
        · rw [if_pos h3] at h
          by_cases h4 : Lib.validD out = true
          · rw [if_pos h4] at h
            have h := Option.some.inj h
            subst h
            exact ⟨by simp only; omega, by simp only; omega, by simp only; omega⟩
          · rw [if_neg h4] at h; cases h
        · rw [if_neg h3] at h
          by_cases h5 : atS s i = 92
          · rw [if_pos h5] at h
            rcases hq : escQ (s.drop (i + 1)) with _ | q
            · rw [hq] at h; cases h
            · rw [hq] at h
              obtain ⟨p1, p2, p3⟩ := escQ_le _ q hq
              have := quoQ_ok s mk n (i + 1 + q.2) (out ++ q.1) p (by rw [List.length_append]; omega) h
              omega
          · rw [if_neg h5] at h
            have := quoQ_ok s mk n (i + 1) _ p (by rw [List.length_append, List.length_singleton]; omega) h
            omega
theorem quoted_ok {s : List UInt8} {mk : Int} {p : List UInt8 × Nat} (h : quoted s mk = some p) : p.1.length ≤ 4 * s.length ∧ 1 < p.2 ∧ p.2 ≤ s.length := quoQ_ok s mk _ 1 [] p (by simp) h
def chrQ (s : List UInt8) : Option (List UInt8 × Nat) := match quoted s 39 with
  | some p => if Lib.runeCount ⟨p.1.toArray⟩ = 1 then some (Lib.itoa (IntKind.i64.wrap (Lib.decodeGo ⟨p.1.toArray⟩).1), p.2) else none
  | none => none
def txtQ (s : List UInt8) : Option (List UInt8 × Nat) := if preR s [34, 34, 34] = true then
    (if 0 ≤ Lib.index (s.drop 3) [34, 34, 34] ∧ Lib.validD ((s.drop 3).take (Lib.index (s.drop 3) [34, 34, 34]).toNat) = true then some ((s.drop 3).take (Lib.index (s.drop 3) [34, 34, 34]).toNat, (Lib.index (s.drop 3) [34, 34, 34]).toNat + 6) else none)
  else quoted s 34
theorem wrap64_in (n : Int) : -9223372036854775808 ≤ IntKind.i64.wrap n ∧ IntKind.i64.wrap n ≤ 9223372036854775807 := by
  have e : (2 : Int) ^ IntKind.i64.bits = 18446744073709551616 := rfl
  have e2 : (2 : Int) ^ (IntKind.i64.bits - 1) = 9223372036854775808 := rfl
  simp only [IntKind.wrap, e, e2, IntKind.signed, Bool.true_and, decide_eq_true_eq]
  split <;> omega
theorem sp2052 : ∃ g, SpecOK Tryz.prog TT 52 g ∧ ∀ p : List UInt8 × Int, (0 < p.1.length ∧ p.1.length < 1100000) → ∀ H, g [.s p.1, .i .i64 p.2] H = (escRes (chrQ p.1) p.2).at H := by
  obtain ⟨g1, k1, s1⟩ := sp2055
  obtain ⟨g2, k2, s2⟩ := sp2080
  have hC := ws (ws (ws (ws (ws n0 k1) k2) ok81) ok82) ok149
  have c1 : MustH (((((CallF.none.with 55 g1).with 80 g2).with 81 spRunes).with 82 spDecode).with 61 spItoa) := fun b e k H => by
    rw [w_other _ _ _ _ rfl, w_other _ _ _ _ rfl, w_other _ _ _ _ rfl, w_other _ _ _ _ rfl, w_here]; exact s1 b e k H
  have c2 : ∀ (x : List UInt8) (a : Int), (0 < x.length ∧ x.length < 1100000) → ∀ H, (((((CallF.none.with 55 g1).with 80 g2).with 81 spRunes).with 82 spDecode).with 61 spItoa) 80 [.s x, .i .u8 39, .i .i64 a] H = (escRes (quoted x 39) a).at H := fun x a hx H => by
    rw [w_other _ _ _ _ rfl, w_other _ _ _ _ rfl, w_other _ _ _ _ rfl, w_here]; exact s2 (x, 39, a) hx H
  have c3 : ∀ x : List UInt8, x.length < 4294967281 → ∀ H, (((((CallF.none.with 55 g1).with 80 g2).with 81 spRunes).with 82 spDecode).with 61 spItoa) 81 [.s x] H = .val (.i .i64 (Lib.runeCount ⟨x.toArray⟩)) H := fun x hx H => by
    rw [w_other _ _ _ _ rfl, w_other _ _ _ _ rfl, w_here]; exact if_pos hx
  have c4 : ∀ x : List UInt8, ∀ H, (((((CallF.none.with 55 g1).with 80 g2).with 81 spRunes).with 82 spDecode).with 61 spItoa) 82 [.s x] H = .val (.tup [.i .i32 (Lib.decodeGo ⟨x.toArray⟩).1, .i .i64 (Lib.decodeGo ⟨x.toArray⟩).2]) H := fun x H => by
    rw [w_other _ _ _ _ rfl, w_here]; rfl
  have c5 : ∀ n : Int, ∀ H, (((((CallF.none.with 55 g1).with 80 g2).with 81 spRunes).with 82 spDecode).with 61 spItoa) 61 [.i .i64 (IntKind.i64.wrap n)] H = .val (.s (Lib.itoa (IntKind.i64.wrap n))) H := fun n H => by
    rw [w_here]; exact if_pos (wrap64_in n)
  generalize ((((CallF.none.with 55 g1).with 80 g2).with 81 spRunes).with 82 spDecode).with 61 spItoa = call at hC c1 c2 c3 c4 c5
  refine spec_fn TT_ok TT_plain 52 (fun p : List UInt8 × Int => [.s p.1, .i .i64 p.2]) _ (fun p => escRes (chrQ p.1) p.2) (fun p _ => ⟨rfl, by unfold escRes; split <;> rfl⟩)
    (fun a b _ _ h => by
      simp only [List.cons.injEq, V.s.injEq, V.i.injEq, true_and, and_true] at h
      rw [h.1, h.2]) fun p hp => ?_
  obtain ⟨s, at_⟩ := p
  simp only at hp ⊢
  refine XBody.sym TT_ok hC (fn := Tryz.f52) rfl rfl (by simp [Tryz.f52]) tr_chr (by kernel_rfl) [.us s, .ui at_, .uh []] rfl ⟨by rw [get_init]; rfl, by rw [get_init]; rfl, trivial⟩ rfl (WF_opq _ _) ?_
  simp -implicitDefEqProofs only [VC, isR, exU, Ask.den, forall_eq, E.den, O1.den, O2.den, O3.den, U.int_ui, U.boo_ub, U.val_uv, U.lst_ul, U.str_us, U.nat_un, U.heap_uh, SH.den, setsD, newD, bD, SB.den, factsTo, LQ, List.cons_append, List.nil_append, List.getElem?_cons_zero, List.getElem?_cons_succ, Option.getD_some, ltB_true, ltB_false, leB_true, leB_false, beq_iff_eq, bne_iff_ne, beq_eq_false_iff_ne, Int.toNat_natCast]
  rcases hq : quoted s 39 with _ | p
  · refine .inr ⟨fltV 31 at_, fun K => ?_, ?_⟩
    · rw [c2 s at_ hp, hq]; rfl
    · simp only [chrQ, hq, escRes]
  · obtain ⟨p1, p2, p3⟩ := quoted_ok hq
    refine .inl ⟨p.1, p.2, fun K => by rw [c2 s at_ hp, hq]; rfl, .inl ⟨_, fun K => c3 p.1 (by omega) K, ?_⟩⟩
    refine must_ask c1 _ _ _ (fun h => .inl ⟨_, _, fun K => c4 p.1 K, .inl ⟨_, fun K => c5 _ K, ?_⟩⟩) (fun h => ?_)
    · have h : Lib.runeCount ⟨p.1.toArray⟩ = 1 := by simp at h; omega
      simp only [chrQ, hq, if_pos h, escRes]
    · have h : ¬ Lib.runeCount ⟨p.1.toArray⟩ = 1 := by simp at h; omega
      simp only [chrQ, hq, if_neg h, escRes]
theorem sp2053 : ∃ g, SpecOK Tryz.prog TT 53 g ∧ ∀ p : List UInt8 × Int, (0 < p.1.length ∧ p.1.length < 1100000) → ∀ H, g [.s p.1, .i .i64 p.2] H = (escRes (txtQ p.1) p.2).at H := by
  obtain ⟨g1, k1, s1⟩ := sp2055
  obtain ⟨g2, k2, s2⟩ := sp2080
  obtain ⟨g3, k3, s3⟩ := sp2070
  obtain ⟨g5, k5, s5⟩ := sp33v
  have hC := ws (ws (ws (ws (ws n0 k1) k2) k3) ok35) k5
  have c1 : MustH (((((CallF.none.with 55 g1).with 80 g2).with 70 g3).with 35 spIndex).with 36 g5) := fun b e k H => by
    rw [w_other _ _ _ _ rfl, w_other _ _ _ _ rfl, w_other _ _ _ _ rfl, w_other _ _ _ _ rfl, w_here]; exact s1 b e k H
  have c2 : ∀ (x : List UInt8) (a : Int), (0 < x.length ∧ x.length < 1100000) → ∀ H, (((((CallF.none.with 55 g1).with 80 g2).with 70 g3).with 35 spIndex).with 36 g5) 80 [.s x, .i .u8 34, .i .i64 a] H = (escRes (quoted x 34) a).at H := fun x a hx H => by
    rw [w_other _ _ _ _ rfl, w_other _ _ _ _ rfl, w_other _ _ _ _ rfl, w_here]; exact s2 (x, 34, a) hx H
  have c3 : ∀ x y : List UInt8, ∀ H, (((((CallF.none.with 55 g1).with 80 g2).with 70 g3).with 35 spIndex).with 36 g5) 70 [.s x, .s y] H = .val (.b (preR x y)) H := fun x y H => by
    rw [w_other _ _ _ _ rfl, w_other _ _ _ _ rfl, w_here]; exact s3 x y H
  have c4 : ∀ x y : List UInt8, x.length < 4294967281 → ∀ H, (((((CallF.none.with 55 g1).with 80 g2).with 70 g3).with 35 spIndex).with 36 g5) 35 [.s x, .s y] H = .val (.i .i64 (Lib.index x y)) H := fun x y hx H => by
    rw [w_other _ _ _ _ rfl, w_here]; exact if_pos hx
  have c5 : ∀ x : List UInt8, x.length < 20000000 → ∀ H, (((((CallF.none.with 55 g1).with 80 g2).with 70 g3).with 35 spIndex).with 36 g5) 36 [.s x] H = .val (.b (Lib.validD x)) H := fun x hx H => by
    rw [w_here]; exact s5 x (by omega) H
  generalize ((((CallF.none.with 55 g1).with 80 g2).with 70 g3).with 35 spIndex).with 36 g5 = call at hC c1 c2 c3 c4 c5
  refine spec_fn TT_ok TT_plain 53 (fun p : List UInt8 × Int => [.s p.1, .i .i64 p.2]) _ (fun p => escRes (txtQ p.1) p.2) (fun p _ => ⟨rfl, by unfold escRes; split <;> rfl⟩)
    (fun a b _ _ h => by
      simp only [List.cons.injEq, V.s.injEq, V.i.injEq, true_and, and_true] at h
      rw [h.1, h.2]) fun p hp => ?_
  obtain ⟨s, at_⟩ := p
  simp only at hp ⊢
  refine XBody.sym TT_ok hC (fn := Tryz.f53) rfl rfl (by simp [Tryz.f53]) tr_txt (by kernel_rfl) [.us s, .ui at_, .uh []] rfl ⟨by rw [get_init]; rfl, by rw [get_init]; rfl, trivial⟩ rfl (WF_opq _ _) ?_
  simp -implicitDefEqProofs only [VC, isR, exU, Ask.den, forall_eq, E.den, O1.den, O2.den, O3.den, U.int_ui, U.boo_ub, U.val_uv, U.lst_ul, U.str_us, U.nat_un, U.heap_uh, SH.den, setsD, newD, bD, SB.den, factsTo, LQ, List.cons_append, List.nil_append, List.getElem?_cons_zero, List.getElem?_cons_succ, Option.getD_some, ltB_true, ltB_false, leB_true, leB_false, beq_iff_eq, bne_iff_ne, beq_eq_false_iff_ne, Int.toNat_natCast]
  refine .inl ⟨_, fun K => c3 s [34, 34, 34] K, fun h => ?_, fun h => ?_⟩
  · have hl : 3 ≤ s.length := by
      simp only [preR, Bool.and_eq_true, decide_eq_true_eq] at h
      have := h.1
      simpa using this
    have e0 : (s.take (s.length : Int).toNat).drop 3 = s.drop 3 := by rw [Int.toNat_natCast, List.take_length]
    have hi := Lib.index_ge (s.drop 3) [34, 34, 34]
    refine ⟨by omega, .inl ⟨Lib.index (s.drop 3) [34, 34, 34], fun K => ?_, fun h4 => ?_, fun h4 => ?_⟩⟩
    · simp only [Int.toNat_natCast, List.take_length]
      exact c4 _ _ (by rw [List.length_drop]; omega) K
    · have hr := Lib.index_room (s.drop 3) [34, 34, 34] (by omega)
      rw [List.length_drop] at hr
      simp only [List.length_cons, List.length_nil] at hr
      obtain ⟨k, hk⟩ : ∃ k : Nat, Lib.index (s.drop 3) [34, 34, 34] = k := ⟨(Lib.index (s.drop 3) [34, 34, 34]).toNat, by omega⟩
      rw [hk] at hr h4 ⊢
      have hw : IntKind.i64.wrap (3 + (k : Int)) = ((3 + k : Nat) : Int) := by rw [w64 (by omega) (by omega)]; omega
      have hw2 : IntKind.i64.wrap ((k : Int) + 6) = ((k + 6 : Nat) : Int) := by rw [w64 (by omega) (by omega)]; omega
      have e1 : (s.take (3 + k)).drop 3 = (s.drop 3).take k := by rw [List.drop_take, Nat.add_sub_cancel_left]
      simp only [hw, hw2, Int.toNat_natCast]
      have e2 : (s.take (3 + k)).drop (Int.toNat 3) = (s.drop 3).take k := e1
      rw [e2]
      refine ⟨by omega, by omega, .inl ⟨_, fun K => c5 _ (by rw [List.length_take, List.length_drop]; omega) K, ?_⟩⟩
      · refine must_ask c1 _ _ _ (fun h6 => ?_) (fun h6 => ?_)
        · simp only [txtQ, if_pos h, hk, Int.toNat_natCast]
          rw [if_pos ⟨by omega, h6⟩]
          simp only [escRes]
        · simp only [txtQ, if_pos h, hk, Int.toNat_natCast]
          rw [if_neg fun e => by rw [e.2] at h6; cases h6]
          simp only [escRes]
    · refine must_ask c1 _ _ _ (fun h5 => by cases h5) (fun h5 => ?_)
      simp only [txtQ, if_pos h]
      rw [if_neg fun e => h4 (by have := e.1; omega)]
      simp only [escRes]
  · have e : txtQ s = quoted s 34 := by simp only [txtQ]; rw [if_neg (by rw [h]; exact Bool.false_ne_true)]
    rw [e]
    rcases hq : quoted s 34 with _ | p
    · refine .inr ⟨fltV 31 at_, fun K => ?_, ?_⟩
      · rw [c2 s at_ hp, hq]; rfl
      · simp only [escRes]
    · exact .inl ⟨p.1, p.2, fun K => by rw [c2 s at_ hp, hq]; rfl, by simp only [escRes]⟩
open Go Go.RowKit
section
variable {P : Program} {T : Tab} {M M' : Mem} {ρ ρ' : Ren} {w w' : World} {H H' : Heap} {t : Tm} {a : Act}
def relKV (M : Mem) (ρ : Ren) (l : List (V × V)) (es : List MapEntry) : Prop :=
  l.length = es.length ∧ ∀ (i : Nat) (p : V × V) (e : MapEntry), l[i]? = some p → es[i]? = some e → rel M ρ p.1 e.key ∧ rel M ρ p.2 e.val
theorem relKV.mono {l : List (V × V)} {es : List MapEntry} (hM : M.le M') (hρ : ρ <+: ρ') (h : relKV M ρ l es) : relKV M' ρ' l es :=
  ⟨h.1, fun i p e h1 h2 => ⟨rel_mono hM hρ _ _ (h.2 i p e h1 h2).1, rel_mono hM hρ _ _ (h.2 i p e h1 h2).2⟩⟩
theorem relKV.erase {l : List (V × V)} {es : List MapEntry} (h : relKV M ρ l es) (j : Nat) : relKV M ρ (l.eraseIdx j) (es.eraseIdx j) := by
  refine ⟨by rw [List.length_eraseIdx, List.length_eraseIdx, h.1], fun i p e h1 h2 => ?_⟩
  rw [List.getElem?_eraseIdx] at h1 h2
  by_cases hi : i < j
  · rw [if_pos hi] at h1 h2; exact h.2 i p e h1 h2
  · rw [if_neg hi] at h1 h2; exact h.2 _ p e h1 h2
theorem relKV_of : ∀ {l : List (V × V)} {es : List MapEntry}, relM M ρ (l.flatMap fun p => [p.1, p.2]) es → relKV M ρ l es
  | [], es, h => by
    have h : es = [] := by simpa [relM] using h
    subst h
    exact ⟨rfl, fun i p e h1 => by simp at h1⟩
  | p :: l, es, h => by
    simp only [List.flatMap_cons, List.cons_append, List.nil_append, relM] at h
    obtain ⟨e, r, rfl, h1, h2, h3⟩ := h
    have ih := relKV_of h3
    refine ⟨by simp [ih.1], fun i q e' k1 k2 => ?_⟩
    cases i with
    | zero => simp at k1 k2; subst k1 k2; exact ⟨h1, h2⟩
    | succ i => simp at k1 k2; exact ih.2 i q e' k1 k2
theorem filter_erase : ∀ (L : List MapEntry) (j : Nat) (e : MapEntry), (L.map (·.born)).Nodup → L[j]? = some e → L.filter (fun x => !(x.born == e.born)) = L.eraseIdx j
  | [], j, e, _, h => by simp at h
  | x :: L, 0, e, hn, h => by
    simp at h
    subst h
    have hx : x.born ∉ L.map (·.born) := (List.nodup_cons.1 hn).1
    simp only [List.filter_cons, beq_self_eq_true, Bool.not_true, Bool.false_eq_true, if_false, List.eraseIdx_zero, List.tail_cons]
    rw [List.filter_eq_self]
    intro y hy
    have : y.born ≠ x.born := fun q => hx (q ▸ List.mem_map_of_mem hy)
    simpa using this
  | x :: L, j + 1, e, hn, h => by
    simp at h
    have hn' := List.nodup_cons.1 hn
    have hx : x.born ≠ e.born := fun q => by
      have := List.mem_map_of_mem (f := fun x : MapEntry => x.born) (List.mem_of_getElem? h)
      rw [← q] at this
      exact hn'.1 this
    have : (!(x.born == e.born)) = true := by simpa using hx
    simp only [List.filter_cons, this, if_true, List.eraseIdx_cons_succ]
    rw [filter_erase L j e hn'.2 h]
theorem left_list (es : Array MapEntry) (seen : Array Nat) : (leftOf es seen).toList = es.toList.filter fun e => !seen.contains e.born := by
  unfold leftOf
  exact Array.toList_filter ..
theorem left_push {es : Array MapEntry} {seen : Array Nat} {j : Nat} {e : MapEntry} (hn : (es.toList.map (·.born)).Nodup) (h : (leftOf es seen).toList[j]? = some e) : (leftOf es (seen.push e.born)).toList = (leftOf es seen).toList.eraseIdx j := by
  have hn2 : ((leftOf es seen).toList.map (·.born)).Nodup := by
    rw [left_list]
    exact hn.sublist ((List.filter_sublist ..).map _)
  rw [← filter_erase _ _ _ hn2 h, left_list, left_list, List.filter_filter]
  congr 1
  funext x
  rw [contains_push]
  cases hx : seen.contains x.born <;> cases hy : x.born == e.born <;> rfl
theorem run_next_at {l b clock : Nat} {seen : Array Nat} {es : Array MapEntry} (ty : TypeId) (hl : w.heap[l]? = some (.mapIter (some b) clock seen clock)) (hb : w.heap[b]? = some (.map es clock)) (hold : ∀ x ∈ es.toList, x.born < clock) :
    ((leftOf es seen).toList = [] ∧ (Instr.next (.pointer (some ⟨l, 0, none⟩)) false ty).run P w = .ok (.tuple #[.bool false]) w) ∨
    ∃ (j : Nat) (e : MapEntry), (leftOf es seen).toList[j]? = some e ∧ ∃ w1 : World, (w1 = w ∨ w1 = { w with drawn := w.drawn + 1 }) ∧ (Instr.next (.pointer (some ⟨l, 0, none⟩)) false ty).run P w = .ok (.tuple #[.bool true, e.key, e.val]) (w1.putObj l (.mapIter (some b) clock (seen.push e.born) clock)) := by
  simp only [Instr.next, getObj, Sem.run_bind, Sem.run, hl, hb, Result.andThen, next_test_false seen es clock clock hold (Nat.le_refl _), Bool.false_eq_true, if_false]
  unfold leftOf
  have hmem : ∀ x ∈ (Array.filter (fun e => !seen.contains e.born) es).toList, x.born < clock := fun x hx => hold x (by simp at hx ⊢; exact hx.1)
  generalize Array.filter (fun e => !seen.contains e.born) es = L at hmem ⊢
  have e1 : L.filter (fun x => decide (x.born < clock)) = L := Array.filter_eq_self.2 (fun x hx => by simpa using hmem x (by simpa using hx))
  have e2 : L.filter (fun x => decide (x.born ≥ clock)) = #[] := by
    rw [Array.filter_eq_empty_iff]
    intro x hx
    have := hmem x (by simpa using hx)
    simp
    omega
  simp only [e1, e2, Array.append_empty]
  by_cases h0 : L.size = 0
  · left
    have : L = #[] := Array.eq_empty_of_size_eq_zero h0
    subst this
    refine ⟨rfl, ?_⟩
    simp [choose, Sem.run, Question.forced]
  · right
    have hne : L.isEmpty = false := by simp [Array.isEmpty, h0]
    simp only [hne, Bool.false_eq_true, if_false, Array.empty_append, Array.size_map]
    have hch : ∃ (j : Nat) (w1 : World), j < L.size ∧ (w1 = w ∨ w1 = { w with drawn := w.drawn + 1 }) ∧ (choose (Question.mapNext L.size)).run P w = .ok j w1 := by
      by_cases hf : L.size ≤ 1
      · exact ⟨0, w, by omega, .inl rfl, by simp [choose, Sem.run, Question.forced, hf]⟩
      · exact ⟨_, _, Nat.mod_lt _ (by omega), .inr rfl, by
          simp only [choose, Sem.run, Question.forced, decide_eq_true_eq, hf, if_false, Question.cut]
          rfl⟩
    obtain ⟨j, w1, hj, hw1, hrun⟩ := hch
    have hl1 : w1.heap[l]? = some (.mapIter (some b) clock seen clock) := by rcases hw1 with rfl | rfl <;> exact hl
    refine ⟨j, L[j], by simp [hj], w1, hw1, ?_⟩
    simp only [hrun, Array.getElem?_map, Array.getElem?_eq_getElem hj, Option.map_some, Sem.run_bind, Result.andThen, setObj, Sem.run, hl1]
    rfl
theorem run_entry_at {l b clock : Nat} {seen : Array Nat} {es : Array MapEntry} {e : MapEntry} (hl : w.heap[l]? = some (.mapIter (some b) clock (seen.push e.born) clock)) (hb : w.heap[b]? = some (.map es clock)) (he : e ∈ es.toList) (hn : (es.toList.map (·.born)).Nodup) :
    (Instr.entry (.pointer (some ⟨l, 0, none⟩))).run P w = .ok (.tuple #[e.key, e.val]) w := by
  have hf : es.find? (·.born == e.born) = some e := by rw [← Array.find?_toList]; exact find_born e es.toList hn he
  simp only [Instr.entry, getObj, Sem.run_bind, Sem.run, hl, hb, Result.andThen, Array.back?_push, bne_self_eq_false, Bool.false_eq_true, if_false, hf]
  rfl
structure ItrOK (M : Mem) (ρ : Ren) (w : World) (l : Nat) (left : List (V × V)) : Prop where
  ex : ∃ (b clock : Nat) (es : Array MapEntry) (seen : Array Nat), Hid l (.mapIter (some b) clock seen clock) M ρ w ∧ M b = some (.map es clock) ∧ StampOK es.toList clock ∧ relKV M ρ left (leftOf es seen).toList
theorem ItrOK.ext {l : Nat} {left : List (V × V)} (h : ItrOK M ρ w l left) (he : Ext M ρ w M' ρ' w') : ItrOK M' ρ' w' l left := by
  obtain ⟨b, clock, es, seen, h1, h2, h3, h4⟩ := h
  exact ⟨b, clock, es, seen, h1.ext he, he.mem _ _ h2, h3, h4.mono he.mem he.pre⟩
def rndN (it : Nat) (v : V) (J : Tm → Heap → Prop) (Q : Out → Prop) : Out → Prop
  | .norm t H => t.get it = v ∧ J t H
  | o => Q o
theorem rel_tup {l : List V} (cs : List Value) (h : relL M ρ l cs) : rel M ρ (.tup l) (.tuple cs.toArray) := by
  simp only [rel]
  exact ⟨cs, rfl, h⟩
theorem step_sem {o : Oper} {K : Act → World → Prop} {Q : Exit → Act → World → Prop} {s : Sem Value} {x : Value} (hexec : execOp a.eval o = (do Pure.pure (.value (← s)))) (hr : s.run P w = .ok x w') (h : K (a.put o.dst x) w') : o.wp P a w K Q := by
  unfold Oper.wp
  rw [hexec]
  simp only [Sem.run_bind, hr, Result.andThen_ok, Sem.run_pure, Oper.upon]
  exact h
theorem mapLoop (hT : TOk P T) {call : CallF} (hC : call.Sound P T) {b c d f it te : Nat} {opsC opsF : Array Oper} {oN oY : Oper} {rC rF : List Oper} {X : Code} {I : List (V × V) → Tm → Heap → Prop} {Q : Out → Prop}
    (hc : opsC.toList = oN :: rC) (hN : oN.op = .next (.tmp it) false) (gN : oN.guard = none) (hf : opsF.toList = oY :: rF) (hY : oY.op = .entry (.tmp it)) (gY : oY.guard = none)
    (hround : ∀ (left : List (V × V)) (t : Tm) (H : Heap) (j : Nat) (k v : V), I left t H → left[j]? = some (k, v) → ∃ t1 H1 t2 H2, t.fits oN.dst = true ∧ evSeq (evOp T call) opsC rC (t.put oN.dst (.tup [.b true, k, v])) H = .norm t1 H1 ∧ t1.get te = .b true ∧ t1.get it = t.get it ∧ t1.fits oY.dst = true ∧
      evSeq (evOp T call) opsF rF (t1.put oY.dst (.tup [k, v])) H1 = .norm t2 H2 ∧ t2.get it = t.get it ∧ NTri P T X t2 H2 (inBlkN d (rndN it (t.get it) (I (left.eraseIdx j)) Q)))
    (hend : ∀ (t : Tm) (H : Heap), I [] t H → ∃ t1 H1, t.fits oN.dst = true ∧ evSeq (evOp T call) opsC rC (t.put oN.dst (.tup [.b false])) H = .norm t1 H1 ∧ t1.get te = .b false ∧ Q (.exit b t1 H1)) :
    ∀ (n : Nat) (left : List (V × V)) (t : Tm) (H : Heap), left.length < n → I left t H → ∀ (M0 : Mem) (ρ0 : Ren) (w0 : World) (a : Act) (w : World) (M : Mem) (ρ : Ren) (R : Exit → Act → World → Prop) (l : Nat), Ext M0 ρ0 w0 M ρ w → w0.heap.size ≤ l → SR T M ρ H w → relTm M ρ t a.tmps → t.get it = .itr l → ItrOK M ρ w l left →
      (∀ o, Q o → OutOK T M0 ρ0 w0 R a.defers o) → Code.rounds P (.seq (.region c opsC false) (.seq (.cond (.tmp te) .skip (.exit b)) (.block d (.seq (.region f opsF false) X)))) R n a w := by
  intro n
  induction n with
  | zero => intro left t H h; omega
  | succ n ih =>
    intro left t H hn hI M0 ρ0 w0 a w M ρ R l he hl0 hS ht hit hitr hQ
    rw [rounds_succ]
    obtain ⟨bm, clock, es, seen, hid, hfrz, hst, hkv⟩ := hitr
    have hbm := hS.frozen _ _ hfrz
    have hv : a.eval (.tmp it) = .pointer (some ⟨l, 0, none⟩) := by
      have := ht.2 it
      rw [hit] at this
      simp only [rel] at this
      exact this
    have hexN : execOp a.eval oN = (do Pure.pure (.value (← Instr.next (.pointer (some ⟨l, 0, none⟩)) false oN.type))) := by simp [execOp, hN, hv]
    refine wp_seq (wp_region_list ?_)
    rw [hc]
    refine wpList_step fun K hK => ?_
    rw [show Region.wanted oN (yielded opsC a.tmps) = true from by simp [Region.wanted, gN]]
    simp only [if_true]
    rcases run_next_at (P := P) oN.type hid.at_ hbm hst.1 with ⟨hnil, hrun⟩ | ⟨j, e, hej, w1, hw1, hrun⟩
    · -- nothing left
      have hleft : left = [] := by
        have := hkv.1
        rw [hnil] at this
        exact List.length_eq_zero_iff.1 this
      subst hleft
      obtain ⟨t1, H1, hfit, hev, hte, hq⟩ := hend t H hI
      refine step_sem hexN hrun (hK _ _ (evSeq_ok hT hC opsC rC _ H _ w M ρ hS (put_rel ht (rel_tup [.bool false] (relL_cons (show rel M ρ (.b false) (.bool false) by simp [rel]) relL_nil)) oN.dst hfit) ?_))
      rw [hev]
      intro a2 w2 M2 ρ2 e2 ht2 hS2 hd2
      rw [put_defers'] at hd2
      refine wp_seq (wp_cond_false ?_ (wp_exit ?_))
      · have := ht2.2 te
        rw [hte] at this
        simp only [rel] at this
        exact this
      · exact hQ _ hq a2 w2 M2 ρ2 (he.trans e2) ht2 hS2 hd2
    · -- one entry
      obtain ⟨p, hp⟩ : ∃ p, left[j]? = some p := by
        have h1 := (List.getElem?_eq_some_iff.1 hej).1
        rw [← hkv.1] at h1
        exact ⟨_, List.getElem?_eq_getElem h1⟩
      obtain ⟨rk, rv⟩ := hkv.2 j p e hp hej
      obtain ⟨t1, H1, t2, H2, hfit, hev, hte, hit1, hfit2, hev2, hit2, hX⟩ := hround left t H j p.1 p.2 hI hp
      have hem : e ∈ es.toList := (mem_left (List.mem_of_getElem? hej)).1
      have hw1S : SR T M ρ H w1 := by
        rcases hw1 with rfl | rfl
        · exact hS
        · exact hS.drew
      have hw1E : Ext M0 ρ0 w0 M ρ w1 := by
        rcases hw1 with rfl | rfl
        · exact he
        · exact he.trans (Ext.drew M ρ w)
      have hid1 : Hid l (.mapIter (some bm) clock seen clock) M ρ w1 := by
        rcases hw1 with rfl | rfl
        · exact hid
        · exact ⟨hid.at_, hid.free, hid.un⟩
      have hid2 := hid1.put (.mapIter (some bm) clock (seen.push e.born) clock)
      have hS2 := sr_put (o' := .mapIter (some bm) clock (seen.push e.born) clock) hw1S hid1
      have hE2 := ext_put (o' := .mapIter (some bm) clock (seen.push e.born) clock) hw1E hl0
      have hlt2 : ItrOK M ρ (w1.putObj l (.mapIter (some bm) clock (seen.push e.born) clock)) l (left.eraseIdx j) := ⟨bm, clock, es, _, hid2, hfrz, hst, by rw [left_push hst.2 hej]; exact hkv.erase j⟩
      refine step_sem hexN hrun (hK _ _ (evSeq_ok hT hC opsC rC _ H _ _ M ρ hS2 (put_rel ht (rel_tup [.bool true, e.key, e.val] (relL_cons (show rel M ρ (.b true) (.bool true) by simp [rel]) (relL_cons rk (relL_cons rv relL_nil)))) oN.dst hfit) ?_))
      rw [hev]
      intro a3 w3 M3 ρ3 e3 ht3 hS3 hd3
      rw [put_defers'] at hd3
      refine wp_seq (wp_cond_true ?_ (wp_skip ?_))
      · have := ht3.2 te
        rw [hte] at this
        simp only [rel] at this
        exact this
      refine wp_block (wp_seq (wp_region_list ?_))
      rw [hf]
      refine wpList_step fun K2 hK2 => ?_
      rw [show Region.wanted oY (yielded opsF a3.tmps) = true from by simp [Region.wanted, gY]]
      simp only [if_true]
      have hid3 := hid2.ext e3
      have hv3 : a3.eval (.tmp it) = .pointer (some ⟨l, 0, none⟩) := by
        have := ht3.2 it
        rw [hit1, hit] at this
        simp only [rel] at this
        exact this
      have hexY : execOp a3.eval oY = (do Pure.pure (.value (← Instr.entry (.pointer (some ⟨l, 0, none⟩))))) := by simp [execOp, hY, hv3]
      refine step_sem hexY (run_entry_at hid3.at_ (hS3.frozen _ _ (e3.mem _ _ hfrz)) hem hst.2) (hK2 _ _ (evSeq_ok hT hC opsF rF _ H1 _ _ M3 ρ3 hS3 (put_rel ht3 (rel_tup [e.key, e.val] (relL_cons (rel_mono e3.mem e3.pre _ _ rk) (relL_cons (rel_mono e3.mem e3.pre _ _ rv) relL_nil))) oY.dst hfit2) ?_))
      rw [hev2]
      intro a4 w4 M4 ρ4 e4 ht4 hS4 hd4
      rw [put_defers'] at hd4
      have hE4 := (hE2.trans e3).trans e4
      have hi4 := (hlt2.ext e3).ext e4
      refine hX a4 w4 M4 ρ4 _ hS4 ht4 fun o ho => ?_
      have again : ∀ (t' : Tm) (H' : Heap), rndN it (t.get it) (I (left.eraseIdx j)) Q (.norm t' H') → ∀ a' w' M' ρ', Ext M4 ρ4 w4 M' ρ' w' → relTm M' ρ' t' a'.tmps → SR T M' ρ' H' w' → a'.defers = a4.defers →
          Code.rounds P (.seq (.region c opsC false) (.seq (.cond (.tmp te) .skip (.exit b)) (.block d (.seq (.region f opsF false) X)))) R n a' w' := by
        intro t' H' hr a' w' M' ρ' e5 ht5 hS5 hd5
        obtain ⟨hit5, hI5⟩ := hr
        refine ih (left.eraseIdx j) t' H' ?_ hI5 M0 ρ0 w0 a' w' M' ρ' R l (hE4.trans e5) hl0 hS5 ht5 (hit5.trans hit) (hi4.ext e5) ?_
        · have h1 := (List.getElem?_eq_some_iff.1 hp).1
          rw [List.length_eraseIdx, if_pos h1]
          omega
        · rw [hd5, hd4, hd3]; exact hQ
      have pass : ∀ o2, Q o2 → OutOK T M4 ρ4 w4 R a4.defers o2 := fun o2 h2 => by
        rw [hd4, hd3]; exact (hQ o2 h2).later hE4
      cases o with
      | norm t' H' => exact again t' H' ho
      | exit i t' H' =>
        simp only [inBlkN] at ho
        by_cases hid' : i = d
        · rw [if_pos hid'] at ho
          intro a' w' M' ρ' e5 ht5 hS5 hd5
          simp only [Exit.then, Exit.inBlock]
          rw [if_pos hid']
          exact again t' H' ho a' w' M' ρ' e5 ht5 hS5 hd5
        · rw [if_neg hid'] at ho
          intro a' w' M' ρ' e5 ht5 hS5 hd5
          simp only [Exit.then, Exit.inBlock]
          rw [if_neg hid']
          exact pass _ ho a' w' M' ρ' e5 ht5 hS5 hd5
      | ret t' H' => exact pass _ ho
      | pan v t' H' => exact pass _ ho
      | no => exact (pass _ ho).elim
theorem SR.still (hS : SR T M ρ H w) {n b c : Nat} {blk : Blk} {o : Obj} (hn : H[n]? = some (some blk)) (hr : ρ[n]? = some (b, c)) (hM : M b = none) (ho : w.heap[b]? = some o) :
    SR T (fun k => if k = b then some o else M k) ρ (H.set n none) w ∧ Ext M ρ w (fun k => if k = b then some o else M k) ρ w := by
  have hle : M.le (fun k => if k = b then some o else M k) := fun k x hk => by
    show (if k = b then some o else M k) = some x
    rw [if_neg (fun e => by rw [e, hM] at hk; cases hk)]
    exact hk
  have hset : ∀ {m : Nat} {z : Blk}, (H.set n none)[m]? = some (some z) → m ≠ n ∧ H[m]? = some (some z) := by
    intro m z hm
    rw [List.getElem?_set] at hm
    by_cases e : n = m
    · rw [if_pos e] at hm
      split at hm <;> cases hm
    · rw [if_neg e] at hm
      exact ⟨fun q => e q.symm, hm⟩
  refine ⟨⟨?_, by simp [hS.len], ?_, ?_, ?_, fun g hg => ?_⟩, ⟨rfl, rfl, rfl, Nat.le_refl _, hle, List.prefix_refl _, fun _ _ _ => rfl, fun k _ hk => ?_, fun k q hq => .inl ⟨q, hq⟩⟩⟩
  · intro k x hk
    split at hk
    · rename_i e; subst e; cases hk; exact ho
    · exact hS.frozen k x hk
  · intro m z hm
    obtain ⟨hne, hm⟩ := hset hm
    obtain ⟨b', c', h1, h2, h3, h4⟩ := hS.blk m z hm
    refine ⟨b', c', h1, ?_, h3, h4.mono hle (List.prefix_refl _)⟩
    rw [if_neg]
    · exact h2
    · intro e
      subst e
      exact hne (hS.inj m n z blk b' c' c hm hn h1 hr)
  · intro m k x y b' c' c'' h1 h2 h3 h4
    exact hS.inj m k x y b' c' c'' (hset h1).2 (hset h2).2 h3 h4
  · intro g l hg
    obtain ⟨cs, ty, fr, h1, h2⟩ := hS.glob g l hg
    exact ⟨cs, ty, fr, hle _ _ h1, relL_mono hle (List.prefix_refl _) _ _ h2⟩
  · obtain ⟨m, ty, fr, h1⟩ := hS.gint g hg
    exact ⟨m, ty, fr, hle _ _ h1⟩
  · rw [if_neg (fun e => by subst e; exact hk c (List.mem_of_getElem? hr))]
theorem NTri.rangeMap (hT : TOk P T) {call : CallF} (hC : call.Sound P T) {ia b c d f it te x mt kt et n : Nat} {opsA opsC opsF : Array Oper} {oR oN oY : Oper} {rC rF : List Oper} {X : Code} (q : Nat) (I : List (V × V) → Tm → Heap → Prop) {Q : Out → Prop} {t1 : Tm} {H1 : Heap} {blk : Blk} (kvs : List (V × V))
    (hA : opsA.toList = opsA.toList.take q ++ [oR]) (hR : oR.op = .range mt (.tmp x)) (gR : oR.guard = none) (dR : oR.dst = some it) (hev : evSeq (evOp T call) opsA (opsA.toList.take q) t H = .norm t1 H1) (hfit : t1.fits (some it) = true) (hx : t1.get x = .mp n) (hb : mapAt H1 n = some blk) (hbc : blk.cells = kvs.flatMap fun p => [p.1, p.2]) (hall : H1.all Option.isSome = true) (hu : T.und mt = some (.map kt et))
    (hI : ∀ l, I kvs (t1.put (some it) (.itr l)) (H1.set n none))
    (hc : opsC.toList = oN :: rC) (hN : oN.op = .next (.tmp it) false) (gN : oN.guard = none) (hf : opsF.toList = oY :: rF) (hY : oY.op = .entry (.tmp it)) (gY : oY.guard = none)
    (hround : ∀ (left : List (V × V)) (t : Tm) (H : Heap) (j : Nat) (k v : V), I left t H → left[j]? = some (k, v) → ∃ t1 H1 t2 H2, t.fits oN.dst = true ∧ evSeq (evOp T call) opsC rC (t.put oN.dst (.tup [.b true, k, v])) H = .norm t1 H1 ∧ t1.get te = .b true ∧ t1.get it = t.get it ∧ t1.fits oY.dst = true ∧
      evSeq (evOp T call) opsF rF (t1.put oY.dst (.tup [k, v])) H1 = .norm t2 H2 ∧ t2.get it = t.get it ∧ NTri P T X t2 H2 (inBlkN d (rndN it (t.get it) (I (left.eraseIdx j)) (inBlkN b Q))))
    (hend : ∀ (t : Tm) (H : Heap), I [] t H → ∃ t1 H1, t.fits oN.dst = true ∧ evSeq (evOp T call) opsC rC (t.put oN.dst (.tup [.b false])) H = .norm t1 H1 ∧ t1.get te = .b false ∧ Q (.norm t1 H1)) :
    NTri P T (.seq (.region ia opsA false) (.block b (.loop (.seq (.region c opsC false) (.seq (.cond (.tmp te) .skip (.exit b)) (.block d (.seq (.region f opsF false) X))))))) t H Q := by
  intro a w M ρ R hS ht hQ
  refine wp_seq (wp_region_list ?_)
  rw [hA]
  have split : ∀ (l : List Oper) (t : Tm) (H : Heap) (a : Act) (w : World) (M : Mem) (ρ : Ren) (Q : Exit → Act → World → Prop), SR T M ρ H w → relTm M ρ t a.tmps → evSeq (evOp T call) opsA l t H = .norm t1 H1 →
      (∀ a' w' M' ρ', Ext M ρ w M' ρ' w' → relTm M' ρ' t1 a'.tmps → SR T M' ρ' H1 w' → a'.defers = a.defers → wpList P opsA Q [oR] a' w') → wpList P opsA Q (l ++ [oR]) a w := by
    intro l
    induction l with
    | nil =>
      intro t H a w M ρ Q hS ht h k
      cases h
      exact k a w M ρ (Ext.refl _ _ _) ht hS rfl
    | cons o l ih =>
      intro t H a w M ρ Q hS ht h k
      simp only [evSeq, putK_eq, opened_eq] at h
      rw [List.cons_append]
      refine wpList_step fun K hK => ?_
      split at h
      · rename_i hw
        rw [wants_ok ht.2 hw]
        simp only [if_true]
        split at h
        · rename_i v H2 hv
          split at h
          · rename_i hfit
            refine evOp_ok hT hC hS ht.2 (r := .val v H2) hv ?_
            intro x M' ρ' w' he hx hS'
            refine hK _ _ (ih _ H2 _ w' M' ρ' Q hS' (put_rel (relTm_mono he.mem he.pre ht) hx o.dst hfit) h ?_)
            intro a' w2 M2 ρ2 he2 ht2 hS2 hd
            rw [put_defers'] at hd
            exact k a' w2 M2 ρ2 (he.trans he2) ht2 hS2 hd
          · cases h
        · cases h
        · cases h
      · rename_i hw
        rw [wants_ok ht.2 hw]
        simp only [Bool.false_eq_true, if_false]
        split at h
        · rename_i hfit
          refine hK _ _ (ih _ H _ w M ρ Q hS (put_rel ht rel_undef o.dst hfit) h ?_)
          intro a' w2 M2 ρ2 he2 ht2 hS2 hd
          rw [put_defers'] at hd
          exact k a' w2 M2 ρ2 he2 ht2 hS2 hd
        · cases h
      · cases h
  refine split (opsA.toList.take q) t H a w M ρ _ hS ht hev ?_
  intro a1 w1 M1 ρ1 e1 ht1 hS1 hd1
  refine wpList_step fun K hK => ?_
  rw [show Region.wanted oR (yielded opsA a1.tmps) = true from by simp [Region.wanted, gR]]
  simp only [if_true]
  obtain ⟨bm, cm, es, clock, hr, hMb, hheap, hrel, hst⟩ := hS1.map hb
  have hbn := (mapAt_some hb).1
  obtain ⟨hS2, he2⟩ := hS1.still hbn hr hMb hheap
  have hv : a1.eval (.tmp x) = .map (some bm) := by
    have := ht1.2 x
    rw [hx] at this
    simp only [rel] at this
    obtain ⟨b', c', h1, h2⟩ := this
    rw [hr] at h1
    cases h1
    exact h2
  have hexR : execOp a1.eval oR = (do Pure.pure (.value (← Instr.range mt (.map (some bm))))) := by simp [execOp, hR, hv]
  refine step_sem hexR (run_range_map w1 mt kt et bm es.toArray clock (hT.und _ _ hu) hheap) (hK _ _ (wpList_nil ?_))
  have un := unused hS1 hall
  have hbl : bm < w1.heap.size := (Array.getElem?_eq_some_iff.1 hheap).1
  refine wp_block (wp_loop_rounds (kvs.length + 1) ?_)
  have hS3 := sr_alloc hS2 (.mapIter (some bm) clock #[] clock)
  have he3 := (he2.trans (ext_alloc (M := fun k => if k = bm then some (.map es.toArray clock) else M1 k) (ρ := ρ1) (w := w1) (.mapIter (some bm) clock #[] clock)))
  have hid : Hid w1.heap.size (.mapIter (some bm) clock #[] clock) (fun k => if k = bm then some (.map es.toArray clock) else M1 k) ρ1 (w1.alloc (.mapIter (some bm) clock #[] clock)) := by
    refine ⟨heap_alloc_new _ _, ?_, (un _ (Nat.le_refl _)).2⟩
    rw [if_neg (by omega)]
    exact (un _ (Nat.le_refl _)).1
  have hleft : leftOf es.toArray #[] = es.toArray := by
    unfold leftOf
    exact Array.filter_eq_self.2 (fun x _ => by simp)
  refine mapLoop hT hC hc hN gN hf hY gY (I := I) (Q := inBlkN b Q) hround ?_ (kvs.length + 1) kvs (t1.put (some it) (.itr w1.heap.size)) (H1.set n none) (by omega) (hI _) M1 ρ1 w1 (a1.put oR.dst (.pointer (some ⟨w1.heap.size, 0, none⟩))) _ _ ρ1 _ w1.heap.size he3 (Nat.le_refl _) hS3 ?_ ?_ ?_ ?_
  · intro t H hi
    obtain ⟨t2, H2, k1, k2, k3, k4⟩ := hend t H hi
    refine ⟨t2, H2, k1, k2, k3, ?_⟩
    simp only [inBlkN, if_true]
    exact k4
  · rw [dR]
    exact put_rel (relTm_mono he2.mem he2.pre ht1) (by simp only [rel]) (some it) hfit
  · rw [Tm.get_put]; simp [put]
  · refine ⟨bm, clock, es.toArray, #[], hid, by simp, by simpa using hst, ?_⟩
    rw [hleft]
    refine (relKV_of ?_).mono he2.mem he2.pre
    rw [← hbc]
    simpa using hrel
  · intro o ho
    rw [put_defers', hd1]
    cases o with
    | norm t' H' => exact (hQ _ ho).later e1
    | exit i t' H' =>
      simp only [inBlkN] at ho
      by_cases hi : i = b
      · rw [if_pos hi] at ho
        intro a' w' M' ρ' e5 ht5 hS5 hd5
        simp only [Exit.inBlock]
        rw [if_pos hi]
        exact (hQ _ ho).later e1 a' w' M' ρ' e5 ht5 hS5 hd5
      · rw [if_neg hi] at ho
        intro a' w' M' ρ' e5 ht5 hS5 hd5
        simp only [Exit.inBlock]
        rw [if_neg hi]
        exact (hQ _ ho).later e1 a' w' M' ρ' e5 ht5 hS5 hd5
    | ret t' H' => exact (hQ _ ho).later e1
    | pan v t' H' => exact (hQ _ ho).later e1
    | no => exact (hQ _ ho).elim
end
theorem tr_end : codeT TT shp Tryz.f74.ntmps [] (bodyOf Tryz.f74) [] ⟨[(0, .f1 (.vi .i64) (.va 1)), (1, .f1 (.ptr 0) (.va 2)), (2, .f1 (.ptr 0) (.va 3))], ⟨.va 0, [(.va 2, some ⟨9, .f2 .cons (.f1 .vs (.va 4)) .nil, .all⟩), (.va 3, some ⟨3, .f2 .cons (.f1 (.vi .i64) (.va 5)) .nil, .all⟩)], []⟩, 6, []⟩ (KF TT Tryz.f74 []) = .ite (.f2 .eqI (.va 1) (.f1 .lenS (.va 4))) (.asks (.call 55 (.f2 .cons (.f1 .vb (.cb .true)) (.f2 .cons (.f1 (.vi .i64) (.ci 33)) (.f2 .cons (.f1 (.vi .i64) (.va 5)) .nil)))) [] (.cv (.tup [])) (.fin (.f1 (.vi .i64) (.va 1)) ⟨.va 0, [(.va 2, .some ⟨9, .f2 .cons (.f1 .vs (.va 4)) .nil, .all⟩), (.va 3, .some ⟨3, .f2 .cons (.f1 (.vi .i64) (.va 5)) .nil, .all⟩)], []⟩) (.pnc (.va 6) ⟨.va 0, [(.va 2, .some ⟨9, .f2 .cons (.f1 .vs (.va 4)) .nil, .all⟩), (.va 3, .some ⟨3, .f2 .cons (.f1 (.vi .i64) (.va 5)) .nil, .all⟩)], []⟩)) (.need (.f2 .leI (.ci 0) (.va 1)) (.need (.f2 .ltI (.va 1) (.f1 .lenS (.va 4))) (.asks (.call 73 (.f2 .cons (.f1 (.vi .u8) (.f2 .at (.va 4) (.va 1))) .nil)) [.b] (.f1 .vb (.va 6)) (.asks (.call 55 (.f2 .cons (.f1 .vb (.f1 .not (.va 6))) (.f2 .cons (.f1 (.vi .i64) (.ci 33)) (.f2 .cons (.f1 (.vi .i64) (.va 5)) .nil)))) [] (.cv (.tup [])) (.fin (.f1 (.vi .i64) (.va 1)) ⟨.va 0, [(.va 2, .some ⟨9, .f2 .cons (.f1 .vs (.va 4)) .nil, .all⟩), (.va 3, .some ⟨3, .f2 .cons (.f1 (.vi .i64) (.va 5)) .nil, .all⟩)], []⟩) (.pnc (.va 7) ⟨.va 0, [(.va 2, .some ⟨9, .f2 .cons (.f1 .vs (.va 4)) .nil, .all⟩), (.va 3, .some ⟨3, .f2 .cons (.f1 (.vi .i64) (.va 5)) .nil, .all⟩)], []⟩)) (.stuck 0)))) := by kernel_rfl
theorem tr_numX : codeT TT shp Tryz.f51.ntmps [] (sub [true, true, false, true, false, false, true, true, false, true] (bodyOf Tryz.f51)) [] ⟨[(2, .f1 (.ptr 0) (.va 1)), (3, .f1 (.ptr 0) (.va 2)), (7, .f1 (.fn 74) (.f2 .cons (.f1 (.ptr 0) (.va 1)) (.f2 .cons (.f1 (.ptr 0) (.va 2)) .nil))), (8, .f1 .vs (.va 5)), (9, .f1 (.vi .i64) (.va 6)), (16, .va 7), (4, .f1 (.vi .i64) (.ci 0)), (5, .f1 .vs (.cs [])), (6, .f1 (.vi .i64) (.ci 0))], ⟨.va 0, [(.va 1, some ⟨9, .f2 .cons (.f1 .vs (.va 3)) .nil, .all⟩), (.va 2, some ⟨3, .f2 .cons (.f1 (.vi .i64) (.va 4)) .nil, .all⟩)], []⟩, 8, []⟩ (K0 [2, 3, 4, 5, 6, 7, 16]) = .asks (.call 70 (.f2 .cons (.f1 .vs (.va 3)) (.f2 .cons (.f1 .vs (.va 5)) .nil))) [.b] (.f1 .vb (.va 8)) (.ite (.va 8) (.need (.f2 .leI (.ci 2) (.f1 .lenS (.va 3))) (.asks (.call 75 (.f2 .cons (.f1 .vs (.f3 .sub (.va 3) (.ci 2) (.f1 .lenS (.va 3)))) (.f2 .cons (.f1 (.vi .i64) (.va 6)) (.f2 .cons (.f1 (.vi .i64) (.va 4)) .nil)))) [.i] (.f1 (.vi .i64) (.va 9)) (.asks (.call 55 (.f2 .cons (.f1 .vb (.f2 .gtI (.va 9) (.ci 0))) (.f2 .cons (.f1 (.vi .i64) (.ci 33)) (.f2 .cons (.f1 (.vi .i64) (.va 4)) .nil)))) [] (.cv (.tup [])) (.need (.f2 .leI (.ci 2) (.f1 (.wrap .i64) (.f2 .add (.ci 2) (.va 9)))) (.need (.f2 .leI (.f1 (.wrap .i64) (.f2 .add (.ci 2) (.va 9))) (.f1 .lenS (.va 3))) (.asks (.call 76 (.f2 .cons (.f1 .vs (.f3 .sub (.va 3) (.ci 2) (.f1 (.wrap .i64) (.f2 .add (.ci 2) (.va 9))))) (.f2 .cons (.f1 (.vi .i64) (.va 6)) (.f2 .cons (.f1 (.vi .i64) (.va 4)) .nil)))) [.s] (.f1 .vs (.va 10)) (.ask (.call 74 (.f2 .cons (.f1 (.vi .i64) (.f1 (.wrap .i64) (.f2 .add (.ci 2) (.va 9)))) (.f2 .cons (.f1 (.ptr 0) (.va 1)) (.f2 .cons (.f1 (.ptr 0) (.va 2)) .nil)))) ⟨.va 0, [(.va 1, .some ⟨9, .f2 .cons (.f1 .vs (.va 3)) .nil, .all⟩), (.va 2, .some ⟨3, .f2 .cons (.f1 (.vi .i64) (.va 4)) .nil, .all⟩)], []⟩ [.i] (.f1 (.vi .i64) (.va 11)) .false (.leaf .ret [(2, .f1 (.ptr 0) (.va 1)), (3, .f1 (.ptr 0) (.va 2)), (4, .f1 (.vi .i64) (.ci 3)), (5, .f1 .vs (.va 10)), (6, .f1 (.vi .i64) (.va 11)), (7, .f1 (.fn 74) (.f2 .cons (.f1 (.ptr 0) (.va 1)) (.f2 .cons (.f1 (.ptr 0) (.va 2)) .nil))), (16, .va 7)] ⟨.va 0, [(.va 1, .some ⟨9, .f2 .cons (.f1 .vs (.va 3)) .nil, .all⟩), (.va 2, .some ⟨3, .f2 .cons (.f1 (.vi .i64) (.va 4)) .nil, .all⟩)], []⟩) (.leaf (.pan (.va 11)) [(2, .f1 (.ptr 0) (.va 1)), (3, .f1 (.ptr 0) (.va 2)), (7, .f1 (.fn 74) (.f2 .cons (.f1 (.ptr 0) (.va 1)) (.f2 .cons (.f1 (.ptr 0) (.va 2)) .nil))), (16, .va 7)] ⟨.va 12, [], []⟩)) (.leaf (.pan (.va 10)) [(2, .f1 (.ptr 0) (.va 1)), (3, .f1 (.ptr 0) (.va 2)), (7, .f1 (.fn 74) (.f2 .cons (.f1 (.ptr 0) (.va 1)) (.f2 .cons (.f1 (.ptr 0) (.va 2)) .nil))), (16, .va 7)] ⟨.va 0, [(.va 1, .some ⟨9, .f2 .cons (.f1 .vs (.va 3)) .nil, .all⟩), (.va 2, .some ⟨3, .f2 .cons (.f1 (.vi .i64) (.va 4)) .nil, .all⟩)], []⟩)))) (.leaf (.pan (.va 10)) [(2, .f1 (.ptr 0) (.va 1)), (3, .f1 (.ptr 0) (.va 2)), (4, .f1 (.vi .i64) (.ci 0)), (5, .f1 .vs (.cs [])), (6, .f1 (.vi .i64) (.ci 0)), (7, .f1 (.fn 74) (.f2 .cons (.f1 (.ptr 0) (.va 1)) (.f2 .cons (.f1 (.ptr 0) (.va 2)) .nil))), (16, .va 7)] ⟨.va 0, [(.va 1, .some ⟨9, .f2 .cons (.f1 .vs (.va 3)) .nil, .all⟩), (.va 2, .some ⟨3, .f2 .cons (.f1 (.vi .i64) (.va 4)) .nil, .all⟩)], []⟩)) (.leaf (.pan (.va 9)) [(2, .f1 (.ptr 0) (.va 1)), (3, .f1 (.ptr 0) (.va 2)), (4, .f1 (.vi .i64) (.ci 0)), (5, .f1 .vs (.cs [])), (6, .f1 (.vi .i64) (.ci 0)), (7, .f1 (.fn 74) (.f2 .cons (.f1 (.ptr 0) (.va 1)) (.f2 .cons (.f1 (.ptr 0) (.va 2)) .nil))), (16, .va 7)] ⟨.va 0, [(.va 1, .some ⟨9, .f2 .cons (.f1 .vs (.va 3)) .nil, .all⟩), (.va 2, .some ⟨3, .f2 .cons (.f1 (.vi .i64) (.va 4)) .nil, .all⟩)], []⟩))) (.leaf .norm [(2, .f1 (.ptr 0) (.va 1)), (3, .f1 (.ptr 0) (.va 2)), (4, .f1 (.vi .i64) (.ci 0)), (5, .f1 .vs (.cs [])), (6, .f1 (.vi .i64) (.ci 0)), (7, .f1 (.fn 74) (.f2 .cons (.f1 (.ptr 0) (.va 1)) (.f2 .cons (.f1 (.ptr 0) (.va 2)) .nil))), (16, .va 7)] ⟨.va 0, [(.va 1, .some ⟨9, .f2 .cons (.f1 .vs (.va 3)) .nil, .all⟩), (.va 2, .some ⟨3, .f2 .cons (.f1 (.vi .i64) (.va 4)) .nil, .all⟩)], []⟩)) (.stuck 0) := by kernel_rfl
theorem tr_num : codeT TT shp Tryz.f51.ntmps [21] (sub [true, true, true] (bodyOf Tryz.f51)) [] ⟨[(2, .f1 (.ptr 0) (.va 1)), (3, .f1 (.ptr 0) (.va 2)), (7, .f1 (.fn 74) (.f2 .cons (.f1 (.ptr 0) (.va 1)) (.f2 .cons (.f1 (.ptr 0) (.va 2)) .nil))), (4, .f1 (.vi .i64) (.ci 0)), (5, .f1 .vs (.cs [])), (6, .f1 (.vi .i64) (.ci 0))], ⟨.va 0, [(.va 1, some ⟨9, .f2 .cons (.f1 .vs (.va 3)) .nil, .all⟩), (.va 2, some ⟨3, .f2 .cons (.f1 (.vi .i64) (.va 4)) .nil, .all⟩)], []⟩, 5, []⟩ (K0 [2, 3, 4, 5, 6]) = .asks (.call 75 (.f2 .cons (.f1 .vs (.va 3)) (.f2 .cons (.f1 (.vi .i64) (.ci 10)) (.f2 .cons (.f1 (.vi .i64) (.va 4)) .nil)))) [.i] (.f1 (.vi .i64) (.va 5)) (.ite (.f2 .ltI (.f1 (.wrap .i64) (.f2 .add (.va 5) (.ci 1))) (.f1 .lenS (.va 3))) (.need (.f2 .leI (.ci 0) (.va 5)) (.need (.f2 .ltI (.va 5) (.f1 .lenS (.va 3))) (.ite (.f2 .eqI (.f2 .at (.va 3) (.va 5)) (.ci 46)) (.need (.f2 .leI (.ci 0) (.f1 (.wrap .i64) (.f2 .add (.va 5) (.ci 1)))) (.asks (.call 50 (.f2 .cons (.f1 (.vi .u8) (.f2 .at (.va 3) (.f1 (.wrap .i64) (.f2 .add (.va 5) (.ci 1))))) .nil)) [.b] (.f1 .vb (.va 6)) (.ite (.va 6) (.need (.f2 .leI (.f1 (.wrap .i64) (.f2 .add (.va 5) (.ci 1))) (.f1 .lenS (.va 3))) (.asks (.call 75 (.f2 .cons (.f1 .vs (.f3 .sub (.va 3) (.f1 (.wrap .i64) (.f2 .add (.va 5) (.ci 1))) (.f1 .lenS (.va 3)))) (.f2 .cons (.f1 (.vi .i64) (.ci 10)) (.f2 .cons (.f1 (.vi .i64) (.va 4)) .nil)))) [.i] (.f1 (.vi .i64) (.va 7)) (.need (.f2 .leI (.ci 0) (.f1 (.wrap .i64) (.f2 .add (.va 5) (.f1 (.wrap .i64) (.f2 .add (.ci 1) (.va 7)))))) (.need (.f2 .leI (.f1 (.wrap .i64) (.f2 .add (.va 5) (.f1 (.wrap .i64) (.f2 .add (.ci 1) (.va 7))))) (.f1 .lenS (.va 3))) (.asks (.call 77 (.f2 .cons (.f1 .vs (.f3 .sub (.va 3) (.f1 (.wrap .i64) (.f2 .add (.va 5) (.f1 (.wrap .i64) (.f2 .add (.ci 1) (.va 7))))) (.f1 .lenS (.va 3)))) (.f2 .cons (.f1 (.vi .i64) (.va 4)) .nil))) [.i] (.f1 (.vi .i64) (.va 8)) (.ite (.f2 .gtI (.va 8) (.ci 0)) (.ask (.call 74 (.f2 .cons (.f1 (.vi .i64) (.f1 (.wrap .i64) (.f2 .add (.f1 (.wrap .i64) (.f2 .add (.va 5) (.f1 (.wrap .i64) (.f2 .add (.ci 1) (.va 7))))) (.va 8)))) (.f2 .cons (.f1 (.ptr 0) (.va 1)) (.f2 .cons (.f1 (.ptr 0) (.va 2)) .nil)))) ⟨.va 0, [(.va 1, .some ⟨9, .f2 .cons (.f1 .vs (.va 3)) .nil, .all⟩), (.va 2, .some ⟨3, .f2 .cons (.f1 (.vi .i64) (.va 4)) .nil, .all⟩)], []⟩ [.i] (.f1 (.vi .i64) (.va 9)) .false (.leaf (.stop [.true, .true, .true, .true, .true, .true, .false]) [(2, .f1 (.ptr 0) (.va 1)), (3, .f1 (.ptr 0) (.va 2)), (4, .f1 (.vi .i64) (.ci 0)), (5, .f1 .vs (.cs [])), (6, .f1 (.vi .i64) (.f1 (.wrap .i64) (.f2 .add (.f1 (.wrap .i64) (.f2 .add (.va 5) (.f1 (.wrap .i64) (.f2 .add (.ci 1) (.va 7))))) (.va 8))))] ⟨.va 0, [(.va 1, .some ⟨9, .f2 .cons (.f1 .vs (.va 3)) .nil, .all⟩), (.va 2, .some ⟨3, .f2 .cons (.f1 (.vi .i64) (.va 4)) .nil, .all⟩)], []⟩) (.leaf (.pan (.va 9)) [(2, .f1 (.ptr 0) (.va 1)), (3, .f1 (.ptr 0) (.va 2)), (4, .f1 (.vi .i64) (.ci 0)), (5, .f1 .vs (.cs [])), (6, .f1 (.vi .i64) (.f1 (.wrap .i64) (.f2 .add (.f1 (.wrap .i64) (.f2 .add (.va 5) (.f1 (.wrap .i64) (.f2 .add (.ci 1) (.va 7))))) (.va 8))))] ⟨.va 10, [], []⟩)) (.ask (.call 74 (.f2 .cons (.f1 (.vi .i64) (.f1 (.wrap .i64) (.f2 .add (.va 5) (.f1 (.wrap .i64) (.f2 .add (.ci 1) (.va 7)))))) (.f2 .cons (.f1 (.ptr 0) (.va 1)) (.f2 .cons (.f1 (.ptr 0) (.va 2)) .nil)))) ⟨.va 0, [(.va 1, .some ⟨9, .f2 .cons (.f1 .vs (.va 3)) .nil, .all⟩), (.va 2, .some ⟨3, .f2 .cons (.f1 (.vi .i64) (.va 4)) .nil, .all⟩)], []⟩ [.i] (.f1 (.vi .i64) (.va 9)) .false (.leaf (.stop [.true, .true, .true, .true, .true, .true, .false]) [(2, .f1 (.ptr 0) (.va 1)), (3, .f1 (.ptr 0) (.va 2)), (4, .f1 (.vi .i64) (.ci 0)), (5, .f1 .vs (.cs [])), (6, .f1 (.vi .i64) (.f1 (.wrap .i64) (.f2 .add (.va 5) (.f1 (.wrap .i64) (.f2 .add (.ci 1) (.va 7))))))] ⟨.va 0, [(.va 1, .some ⟨9, .f2 .cons (.f1 .vs (.va 3)) .nil, .all⟩), (.va 2, .some ⟨3, .f2 .cons (.f1 (.vi .i64) (.va 4)) .nil, .all⟩)], []⟩) (.leaf (.pan (.va 9)) [(2, .f1 (.ptr 0) (.va 1)), (3, .f1 (.ptr 0) (.va 2)), (4, .f1 (.vi .i64) (.ci 0)), (5, .f1 .vs (.cs [])), (6, .f1 (.vi .i64) (.f1 (.wrap .i64) (.f2 .add (.va 5) (.f1 (.wrap .i64) (.f2 .add (.ci 1) (.va 7))))))] ⟨.va 10, [], []⟩))) (.leaf (.pan (.va 8)) [(2, .f1 (.ptr 0) (.va 1)), (3, .f1 (.ptr 0) (.va 2)), (4, .f1 (.vi .i64) (.ci 0)), (5, .f1 .vs (.cs [])), (6, .f1 (.vi .i64) (.f1 (.wrap .i64) (.f2 .add (.va 5) (.f1 (.wrap .i64) (.f2 .add (.ci 1) (.va 7))))))] ⟨.va 0, [(.va 1, .some ⟨9, .f2 .cons (.f1 .vs (.va 3)) .nil, .all⟩), (.va 2, .some ⟨3, .f2 .cons (.f1 (.vi .i64) (.va 4)) .nil, .all⟩)], []⟩)))) (.leaf (.pan (.va 7)) [(2, .f1 (.ptr 0) (.va 1)), (3, .f1 (.ptr 0) (.va 2)), (4, .f1 (.vi .i64) (.ci 0)), (5, .f1 .vs (.cs []))] ⟨.va 0, [(.va 1, .some ⟨9, .f2 .cons (.f1 .vs (.va 3)) .nil, .all⟩), (.va 2, .some ⟨3, .f2 .cons (.f1 (.vi .i64) (.va 4)) .nil, .all⟩)], []⟩))) (.need (.f2 .leI (.va 5) (.f1 .lenS (.va 3))) (.asks (.call 77 (.f2 .cons (.f1 .vs (.f3 .sub (.va 3) (.va 5) (.f1 .lenS (.va 3)))) (.f2 .cons (.f1 (.vi .i64) (.va 4)) .nil))) [.i] (.f1 (.vi .i64) (.va 7)) (.ite (.f2 .gtI (.va 7) (.ci 0)) (.ask (.call 74 (.f2 .cons (.f1 (.vi .i64) (.f1 (.wrap .i64) (.f2 .add (.va 5) (.va 7)))) (.f2 .cons (.f1 (.ptr 0) (.va 1)) (.f2 .cons (.f1 (.ptr 0) (.va 2)) .nil)))) ⟨.va 0, [(.va 1, .some ⟨9, .f2 .cons (.f1 .vs (.va 3)) .nil, .all⟩), (.va 2, .some ⟨3, .f2 .cons (.f1 (.vi .i64) (.va 4)) .nil, .all⟩)], []⟩ [.i] (.f1 (.vi .i64) (.va 8)) .false (.leaf (.stop [.true, .true, .true, .true, .true, .true, .false]) [(2, .f1 (.ptr 0) (.va 1)), (3, .f1 (.ptr 0) (.va 2)), (4, .f1 (.vi .i64) (.ci 0)), (5, .f1 .vs (.cs [])), (6, .f1 (.vi .i64) (.f1 (.wrap .i64) (.f2 .add (.va 5) (.va 7))))] ⟨.va 0, [(.va 1, .some ⟨9, .f2 .cons (.f1 .vs (.va 3)) .nil, .all⟩), (.va 2, .some ⟨3, .f2 .cons (.f1 (.vi .i64) (.va 4)) .nil, .all⟩)], []⟩) (.leaf (.pan (.va 8)) [(2, .f1 (.ptr 0) (.va 1)), (3, .f1 (.ptr 0) (.va 2)), (4, .f1 (.vi .i64) (.ci 0)), (5, .f1 .vs (.cs [])), (6, .f1 (.vi .i64) (.f1 (.wrap .i64) (.f2 .add (.va 5) (.va 7))))] ⟨.va 9, [], []⟩)) (.ask (.call 74 (.f2 .cons (.f1 (.vi .i64) (.va 5)) (.f2 .cons (.f1 (.ptr 0) (.va 1)) (.f2 .cons (.f1 (.ptr 0) (.va 2)) .nil)))) ⟨.va 0, [(.va 1, .some ⟨9, .f2 .cons (.f1 .vs (.va 3)) .nil, .all⟩), (.va 2, .some ⟨3, .f2 .cons (.f1 (.vi .i64) (.va 4)) .nil, .all⟩)], []⟩ [.i] (.f1 (.vi .i64) (.va 8)) .false (.asks (.call 76 (.f2 .cons (.f1 .vs (.f3 .sub (.va 3) (.ci 0) (.va 5))) (.f2 .cons (.f1 (.vi .i64) (.ci 10)) (.f2 .cons (.f1 (.vi .i64) (.va 4)) .nil)))) [.s] (.f1 .vs (.va 9)) (.leaf .ret [(2, .f1 (.ptr 0) (.va 1)), (3, .f1 (.ptr 0) (.va 2)), (4, .f1 (.vi .i64) (.ci 3)), (5, .f1 .vs (.va 9)), (6, .f1 (.vi .i64) (.va 5))] ⟨.va 0, [(.va 1, .some ⟨9, .f2 .cons (.f1 .vs (.va 3)) .nil, .all⟩), (.va 2, .some ⟨3, .f2 .cons (.f1 (.vi .i64) (.va 4)) .nil, .all⟩)], []⟩) (.leaf (.pan (.va 9)) [(2, .f1 (.ptr 0) (.va 1)), (3, .f1 (.ptr 0) (.va 2))] ⟨.va 0, [(.va 1, .some ⟨9, .f2 .cons (.f1 .vs (.va 3)) .nil, .all⟩), (.va 2, .some ⟨3, .f2 .cons (.f1 (.vi .i64) (.va 4)) .nil, .all⟩)], []⟩)) (.leaf (.pan (.va 8)) [(2, .f1 (.ptr 0) (.va 1)), (3, .f1 (.ptr 0) (.va 2)), (4, .f1 (.vi .i64) (.ci 0)), (5, .f1 .vs (.cs [])), (6, .f1 (.vi .i64) (.va 5))] ⟨.va 9, [], []⟩))) (.leaf (.pan (.va 7)) [(2, .f1 (.ptr 0) (.va 1)), (3, .f1 (.ptr 0) (.va 2)), (4, .f1 (.vi .i64) (.ci 0)), (5, .f1 .vs (.cs [])), (6, .f1 (.vi .i64) (.va 5))] ⟨.va 0, [(.va 1, .some ⟨9, .f2 .cons (.f1 .vs (.va 3)) .nil, .all⟩), (.va 2, .some ⟨3, .f2 .cons (.f1 (.vi .i64) (.va 4)) .nil, .all⟩)], []⟩)))) (.stuck 0))) (.need (.f2 .leI (.va 5) (.f1 .lenS (.va 3))) (.asks (.call 77 (.f2 .cons (.f1 .vs (.f3 .sub (.va 3) (.va 5) (.f1 .lenS (.va 3)))) (.f2 .cons (.f1 (.vi .i64) (.va 4)) .nil))) [.i] (.f1 (.vi .i64) (.va 6)) (.ite (.f2 .gtI (.va 6) (.ci 0)) (.ask (.call 74 (.f2 .cons (.f1 (.vi .i64) (.f1 (.wrap .i64) (.f2 .add (.va 5) (.va 6)))) (.f2 .cons (.f1 (.ptr 0) (.va 1)) (.f2 .cons (.f1 (.ptr 0) (.va 2)) .nil)))) ⟨.va 0, [(.va 1, .some ⟨9, .f2 .cons (.f1 .vs (.va 3)) .nil, .all⟩), (.va 2, .some ⟨3, .f2 .cons (.f1 (.vi .i64) (.va 4)) .nil, .all⟩)], []⟩ [.i] (.f1 (.vi .i64) (.va 7)) .false (.leaf (.stop [.true, .true, .true, .true, .true, .true, .false]) [(2, .f1 (.ptr 0) (.va 1)), (3, .f1 (.ptr 0) (.va 2)), (4, .f1 (.vi .i64) (.ci 0)), (5, .f1 .vs (.cs [])), (6, .f1 (.vi .i64) (.f1 (.wrap .i64) (.f2 .add (.va 5) (.va 6))))] ⟨.va 0, [(.va 1, .some ⟨9, .f2 .cons (.f1 .vs (.va 3)) .nil, .all⟩), (.va 2, .some ⟨3, .f2 .cons (.f1 (.vi .i64) (.va 4)) .nil, .all⟩)], []⟩) (.leaf (.pan (.va 7)) [(2, .f1 (.ptr 0) (.va 1)), (3, .f1 (.ptr 0) (.va 2)), (4, .f1 (.vi .i64) (.ci 0)), (5, .f1 .vs (.cs [])), (6, .f1 (.vi .i64) (.f1 (.wrap .i64) (.f2 .add (.va 5) (.va 6))))] ⟨.va 8, [], []⟩)) (.ask (.call 74 (.f2 .cons (.f1 (.vi .i64) (.va 5)) (.f2 .cons (.f1 (.ptr 0) (.va 1)) (.f2 .cons (.f1 (.ptr 0) (.va 2)) .nil)))) ⟨.va 0, [(.va 1, .some ⟨9, .f2 .cons (.f1 .vs (.va 3)) .nil, .all⟩), (.va 2, .some ⟨3, .f2 .cons (.f1 (.vi .i64) (.va 4)) .nil, .all⟩)], []⟩ [.i] (.f1 (.vi .i64) (.va 7)) .false (.asks (.call 76 (.f2 .cons (.f1 .vs (.f3 .sub (.va 3) (.ci 0) (.va 5))) (.f2 .cons (.f1 (.vi .i64) (.ci 10)) (.f2 .cons (.f1 (.vi .i64) (.va 4)) .nil)))) [.s] (.f1 .vs (.va 8)) (.leaf .ret [(2, .f1 (.ptr 0) (.va 1)), (3, .f1 (.ptr 0) (.va 2)), (4, .f1 (.vi .i64) (.ci 3)), (5, .f1 .vs (.va 8)), (6, .f1 (.vi .i64) (.va 5))] ⟨.va 0, [(.va 1, .some ⟨9, .f2 .cons (.f1 .vs (.va 3)) .nil, .all⟩), (.va 2, .some ⟨3, .f2 .cons (.f1 (.vi .i64) (.va 4)) .nil, .all⟩)], []⟩) (.leaf (.pan (.va 8)) [(2, .f1 (.ptr 0) (.va 1)), (3, .f1 (.ptr 0) (.va 2))] ⟨.va 0, [(.va 1, .some ⟨9, .f2 .cons (.f1 .vs (.va 3)) .nil, .all⟩), (.va 2, .some ⟨3, .f2 .cons (.f1 (.vi .i64) (.va 4)) .nil, .all⟩)], []⟩)) (.leaf (.pan (.va 7)) [(2, .f1 (.ptr 0) (.va 1)), (3, .f1 (.ptr 0) (.va 2)), (4, .f1 (.vi .i64) (.ci 0)), (5, .f1 .vs (.cs [])), (6, .f1 (.vi .i64) (.va 5))] ⟨.va 8, [], []⟩))) (.leaf (.pan (.va 6)) [(2, .f1 (.ptr 0) (.va 1)), (3, .f1 (.ptr 0) (.va 2)), (4, .f1 (.vi .i64) (.ci 0)), (5, .f1 .vs (.cs [])), (6, .f1 (.vi .i64) (.va 5))] ⟨.va 0, [(.va 1, .some ⟨9, .f2 .cons (.f1 .vs (.va 3)) .nil, .all⟩), (.va 2, .some ⟨3, .f2 .cons (.f1 (.vi .i64) (.va 4)) .nil, .all⟩)], []⟩)))))) (.need (.f2 .leI (.ci 0) (.va 5)) (.need (.f2 .leI (.va 5) (.f1 .lenS (.va 3))) (.asks (.call 77 (.f2 .cons (.f1 .vs (.f3 .sub (.va 3) (.va 5) (.f1 .lenS (.va 3)))) (.f2 .cons (.f1 (.vi .i64) (.va 4)) .nil))) [.i] (.f1 (.vi .i64) (.va 6)) (.ite (.f2 .gtI (.va 6) (.ci 0)) (.ask (.call 74 (.f2 .cons (.f1 (.vi .i64) (.f1 (.wrap .i64) (.f2 .add (.va 5) (.va 6)))) (.f2 .cons (.f1 (.ptr 0) (.va 1)) (.f2 .cons (.f1 (.ptr 0) (.va 2)) .nil)))) ⟨.va 0, [(.va 1, .some ⟨9, .f2 .cons (.f1 .vs (.va 3)) .nil, .all⟩), (.va 2, .some ⟨3, .f2 .cons (.f1 (.vi .i64) (.va 4)) .nil, .all⟩)], []⟩ [.i] (.f1 (.vi .i64) (.va 7)) .false (.leaf (.stop [.true, .true, .true, .true, .true, .true, .false]) [(2, .f1 (.ptr 0) (.va 1)), (3, .f1 (.ptr 0) (.va 2)), (4, .f1 (.vi .i64) (.ci 0)), (5, .f1 .vs (.cs [])), (6, .f1 (.vi .i64) (.f1 (.wrap .i64) (.f2 .add (.va 5) (.va 6))))] ⟨.va 0, [(.va 1, .some ⟨9, .f2 .cons (.f1 .vs (.va 3)) .nil, .all⟩), (.va 2, .some ⟨3, .f2 .cons (.f1 (.vi .i64) (.va 4)) .nil, .all⟩)], []⟩) (.leaf (.pan (.va 7)) [(2, .f1 (.ptr 0) (.va 1)), (3, .f1 (.ptr 0) (.va 2)), (4, .f1 (.vi .i64) (.ci 0)), (5, .f1 .vs (.cs [])), (6, .f1 (.vi .i64) (.f1 (.wrap .i64) (.f2 .add (.va 5) (.va 6))))] ⟨.va 8, [], []⟩)) (.ask (.call 74 (.f2 .cons (.f1 (.vi .i64) (.va 5)) (.f2 .cons (.f1 (.ptr 0) (.va 1)) (.f2 .cons (.f1 (.ptr 0) (.va 2)) .nil)))) ⟨.va 0, [(.va 1, .some ⟨9, .f2 .cons (.f1 .vs (.va 3)) .nil, .all⟩), (.va 2, .some ⟨3, .f2 .cons (.f1 (.vi .i64) (.va 4)) .nil, .all⟩)], []⟩ [.i] (.f1 (.vi .i64) (.va 7)) .false (.asks (.call 76 (.f2 .cons (.f1 .vs (.f3 .sub (.va 3) (.ci 0) (.va 5))) (.f2 .cons (.f1 (.vi .i64) (.ci 10)) (.f2 .cons (.f1 (.vi .i64) (.va 4)) .nil)))) [.s] (.f1 .vs (.va 8)) (.leaf .ret [(2, .f1 (.ptr 0) (.va 1)), (3, .f1 (.ptr 0) (.va 2)), (4, .f1 (.vi .i64) (.ci 3)), (5, .f1 .vs (.va 8)), (6, .f1 (.vi .i64) (.va 5))] ⟨.va 0, [(.va 1, .some ⟨9, .f2 .cons (.f1 .vs (.va 3)) .nil, .all⟩), (.va 2, .some ⟨3, .f2 .cons (.f1 (.vi .i64) (.va 4)) .nil, .all⟩)], []⟩) (.leaf (.pan (.va 8)) [(2, .f1 (.ptr 0) (.va 1)), (3, .f1 (.ptr 0) (.va 2))] ⟨.va 0, [(.va 1, .some ⟨9, .f2 .cons (.f1 .vs (.va 3)) .nil, .all⟩), (.va 2, .some ⟨3, .f2 .cons (.f1 (.vi .i64) (.va 4)) .nil, .all⟩)], []⟩)) (.leaf (.pan (.va 7)) [(2, .f1 (.ptr 0) (.va 1)), (3, .f1 (.ptr 0) (.va 2)), (4, .f1 (.vi .i64) (.ci 0)), (5, .f1 .vs (.cs [])), (6, .f1 (.vi .i64) (.va 5))] ⟨.va 8, [], []⟩))) (.leaf (.pan (.va 6)) [(2, .f1 (.ptr 0) (.va 1)), (3, .f1 (.ptr 0) (.va 2)), (4, .f1 (.vi .i64) (.ci 0)), (5, .f1 .vs (.cs [])), (6, .f1 (.vi .i64) (.va 5))] ⟨.va 0, [(.va 1, .some ⟨9, .f2 .cons (.f1 .vs (.va 3)) .nil, .all⟩), (.va 2, .some ⟨3, .f2 .cons (.f1 (.vi .i64) (.va 4)) .nil, .all⟩)], []⟩))))) (.leaf (.pan (.va 5)) [(2, .f1 (.ptr 0) (.va 1)), (3, .f1 (.ptr 0) (.va 2)), (4, .f1 (.vi .i64) (.ci 0)), (5, .f1 .vs (.cs [])), (6, .f1 (.vi .i64) (.ci 0))] ⟨.va 0, [(.va 1, .some ⟨9, .f2 .cons (.f1 .vs (.va 3)) .nil, .all⟩), (.va 2, .some ⟨3, .f2 .cons (.f1 (.vi .i64) (.va 4)) .nil, .all⟩)], []⟩) := by kernel_rfl
theorem atS_byt {s : List UInt8} {n : Nat} (h : n < s.length) : ∃ b : UInt8, s[n]? = some b ∧ atS s (n : Nat) = b.toNat := by
  refine ⟨s[n], List.getElem?_eq_getElem h, ?_⟩
  simp [atS, List.getElem?_eq_getElem h]
def endQ (s : List UInt8) (n : Nat) : Bool := decide (n = s.length) || !(worR (atS s n))
theorem opt_ask {call : CallF} {f : Nat} {args : List V} {o : Option Nat} {at_ : Int} {A : Int → Prop} {B : V → Prop} (h : ∀ K, call f args K = (match o with | some n => .val (.i .i64 n) K | none => .pan (fltV 33 at_) K)) (h1 : ∀ n : Nat, o = some n → A n) (h2 : o = none → B (fltV 33 at_)) :
    (∃ x, (∀ K, call f args K = .val (.i .i64 x) K) ∧ A x) ∨ ∃ v, (∀ K, call f args K = .pan v K) ∧ B v := by
  cases o with
  | some n => exact .inl ⟨n, h, h1 n rfl⟩
  | none => exact .inr ⟨_, h, h2 rfl⟩
theorem str_ask {call : CallF} {f : Nat} {args : List V} {r : Res} {o : Option Nat} {at_ : Int} {A : List UInt8 → Prop} {B : V → Prop} (h : ∀ K, call f args K = r.at K) (hr : r = (match o with | some n => .val (.s (decN n)) | none => .pan (fltV 33 at_))) (h1 : ∀ n : Nat, o = some n → A (decN n)) (h2 : o = none → B (fltV 33 at_)) :
    (∃ x, (∀ K, call f args K = .val (.s x) K) ∧ A x) ∨ ∃ v, (∀ K, call f args K = .pan v K) ∧ B v := by
  subst hr
  cases o with
  | some n => exact .inl ⟨_, h, h1 n rfl⟩
  | none => exact .inr ⟨_, h, h2 rfl⟩
theorem end_ask {call : CallF} {f : Nat} {args : List V} {b : Bool} {n : Int} {at_ : Int} {K : Heap} {A : Int → Prop} {B : V → Heap → Prop} (h : call f args K = if b = true then .val (.i .i64 n) K else .pan (fltV 33 at_) K) (h1 : b = true → A n) (h2 : b = false → B (fltV 33 at_) K) :
    (∃ x, call f args K = .val (.i .i64 x) K ∧ A x) ∨ ∃ v H', call f args K = .pan v H' ∧ B v H' := by
  cases b with
  | true => exact .inl ⟨n, h, h1 rfl⟩
  | false => exact .inr ⟨_, K, h, h2 rfl⟩
def EndS (call : CallF) : Prop := ∀ (n : Nat) (s : List UInt8) (at_ : Int) (a b : Nat) (H : Heap), a ≠ b → n ≤ s.length → s.length < 1100000 → H[a]? = some (some ⟨9, [.s s], .all⟩) → H[b]? = some (some ⟨3, [.i .i64 at_], .all⟩) → call 74 [.i .i64 n, .ptr a 0, .ptr b 0] H = if endQ s n = true then .val (.i .i64 n) H else .pan (fltV 33 at_) H
theorem set_two {H : Heap} {a b : Nat} {x y : Option Blk} (h1 : H[a]? = some x) (h2 : H[b]? = some y) : (H.set b y).set a x = H := by
  rw [← Heap.set_self h2, ← Heap.set_self h1]
theorem sp2074 : ∃ g, SpecOK Tryz.prog TT 74 g ∧ ∀ (n : Nat) (s : List UInt8) (at_ : Int) (a b : Nat) (H : Heap), a ≠ b → n ≤ s.length → s.length < 1100000 → H[a]? = some (some ⟨9, [.s s], .all⟩) → H[b]? = some (some ⟨3, [.i .i64 at_], .all⟩) → g [.i .i64 n, .ptr a 0, .ptr b 0] H = if endQ s n = true then .val (.i .i64 n) H else .pan (fltV 33 at_) H := by
  obtain ⟨g1, k1, s1⟩ := sp2055
  obtain ⟨g2, k2, s2⟩ := sp84p
  have hC := ws (ws n0 k1) k2
  have hm : MustH ((CallF.none.with 55 g1).with 73 g2) := fun b e k H => by rw [w_other _ _ _ _ rfl, w_here]; exact s1 b e k H
  have hp : ∀ b : UInt8, ∀ H, ((CallF.none.with 55 g1).with 73 g2) 73 [.i .u8 b.toNat] H = .val (.b (worR b.toNat)) H := fun b H => by rw [w_here]; exact s2 b trivial H
  generalize (CallF.none.with 55 g1).with 73 g2 = call at hC hm hp
  obtain ⟨g, k, h⟩ := spec_hp TT_ok 74 (fun p : Nat × List UInt8 × Int × Nat × Nat => [.i .i64 p.1, .ptr p.2.2.2.1 0, .ptr p.2.2.2.2 0]) (fun p H => p.2.2.2.1 ≠ p.2.2.2.2 ∧ p.1 ≤ p.2.1.length ∧ p.2.1.length < 1100000 ∧ H[p.2.2.2.1]? = some (some ⟨9, [.s p.2.1], .all⟩) ∧ H[p.2.2.2.2]? = some (some ⟨3, [.i .i64 p.2.2.1], .all⟩))
    (fun p H r => r = if endQ p.2.1 p.1 = true then .val (.i .i64 p.1) H else .pan (fltV 33 p.2.2.1) H) (by
    rintro ⟨n, s, at_, a, b⟩ ⟨n', s', at', a', b'⟩ H r ⟨_, _, _, h1, h2⟩ ⟨_, _, _, h3, h4⟩ he hr
    simp only at h1 h2 h3 h4 hr ⊢
    simp only [List.cons.injEq, V.i.injEq, V.ptr.injEq, true_and, and_true, Int.ofNat_inj] at he
    obtain ⟨rfl, rfl, rfl⟩ := he
    rw [h1] at h3
    rw [h2] at h4
    simp only [Option.some.injEq, Blk.mk.injEq, List.cons.injEq, V.s.injEq, V.i.injEq, true_and, and_true] at h3 h4
    obtain rfl := h3
    obtain rfl := h4
    exact hr) (by
    rintro ⟨n, s, at_, a, b⟩ H ⟨hab, hn, hs, ha, hb⟩
    simp only at hab hn hs ha hb ⊢
    have e1 := set_two ha hb
    refine XBody.sym TT_ok hC (fn := Tryz.f74) rfl rfl (by simp [Tryz.f74]) tr_end (by kernel_rfl) [.uh H, .ui (n : Nat), .un a, .un b, .us s, .ui at_] rfl ⟨by rw [get_init]; rfl, by rw [get_init]; rfl, by rw [get_init]; rfl, trivial⟩ e1.symm ⟨by simp; exact ⟨Heap.lt ha, Heap.lt hb⟩, by simp; exact hab⟩ ?_
    simp -implicitDefEqProofs only [VC, isR, exU, Ask.den, forall_eq, E.den, O1.den, O2.den, O3.den, U.int_ui, U.boo_ub, U.val_uv, U.lst_ul, U.str_us, U.nat_un, U.heap_uh, SH.den, setsD, newD, bD, SB.den, factsTo, LQ, List.cons_append, List.nil_append, List.getElem?_cons_zero, List.getElem?_cons_succ, Option.getD_some, ltB_true, ltB_false, leB_true, leB_false, beq_iff_eq, bne_iff_ne, beq_eq_false_iff_ne, Int.toNat_natCast, knownIn, Bool.false_eq_true, if_false, if_true, e1]
    refine ⟨fun h => ?_, fun h => ?_⟩
    · have hq : endQ s n = true := by unfold endQ; rw [decide_eq_true (by omega)]; rfl
      refine must_ask hm _ _ _ (fun _ => ?_) (fun h => by cases h)
      rw [if_pos hq]
    · have hlt : n < s.length := by omega
      obtain ⟨c, hc, hat⟩ := atS_byt hlt
      have hq : endQ s n = !(worR c.toNat) := by unfold endQ; rw [decide_eq_false (by omega), hat]; rfl
      rw [hat, hq]
      refine ⟨by omega, by omega, .inl ⟨_, fun K => hp c K, must_ask hm _ _ _ (fun h => ?_) (fun h => ?_)⟩⟩
      · rw [if_pos h]
      · rw [if_neg (by rw [h]; exact Bool.false_ne_true)])
  exact ⟨g, k, fun n s at_ a b H h1 h2 h3 h4 h5 => h (n, s, at_, a, b) H ⟨h1, h2, h3, h4, h5⟩⟩
end Go.Ev
