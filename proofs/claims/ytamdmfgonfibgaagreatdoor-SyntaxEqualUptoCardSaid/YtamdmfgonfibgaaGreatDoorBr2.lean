/- The world as the row lists it is one of the evaluator. -/
import Derived.Test.YtamdmfgonfibgaaGreatDoorBr
import Derived.MakeChecks
namespace Go.Ev
open Go Go.Proofs
open Go.Lib (VarReads LaidVars_reads acceptData firstData)
set_option maxRecDepth 100000
set_option linter.unusedVariables false
theorem relL_of_at {M : Mem} {ρ : Ren} : ∀ (l : List V) (cs : List Value), cs.length = l.length → (∀ (i : Nat) v x, l[i]? = some v → cs[i]? = some x → rel M ρ v x) → relL M ρ l cs
  | [], [], _, _ => by simp only [relL]
  | [], _ :: _, h, _ => by simp at h
  | _ :: _, [], h, _ => by simp at h
  | v :: l, x :: cs, h, k => relL_cons (k 0 v x rfl rfl) (relL_of_at l cs (by simpa using h) fun i v' x' h1 h2 => k (i + 1) v' x' (by simpa using h1) (by simpa using h2))
/-- A variable's cells. -/
theorem glob_of {W : World} {name : String} {g : Nat} {cs : Array Value} {l : List V} (hg : Tryz.prog.globalNamed name = some g) (hv : W.var? Tryz.prog name = some cs) (hl : cs.size = l.length)
    (h : ∀ (i : Nat) v, l[i]? = some v → ∃ x, W.cell? ⟨g, i, none⟩ = some x ∧ rel (memOf W) [] v x) :
    ∃ (cs' : List Value) (ty : TypeId) (fr : Nat × Nat), memOf W g = some (.cells cs'.toArray ty fr) ∧ relL (memOf W) [] l cs' := by
  unfold World.var? at hv
  rw [hg] at hv
  simp only [Option.bind_some] at hv
  split at hv
  · rename_i c ty fr hb
    cases hv
    refine ⟨cs.toList, ty, fr, by simpa [memOf] using hb, relL_of_at _ _ (by simpa using hl) fun i v x h1 h2 => ?_⟩
    obtain ⟨y, hy, hr⟩ := h i v h1
    have : W.cell? ⟨g, i, none⟩ = cs[i]? := by simp [World.cell?, hb]
    rw [this] at hy
    rw [Array.getElem?_toList] at h2
    rw [h2] at hy
    cases hy
    exact hr
  · cases hv
theorem u8x : U8Extra Tryz.prog Tryz.lays196_ren where
  n3 := by kernel_rfl
  n4 := by kernel_rfl
  y3 := by kernel_rfl
  y4 := by kernel_rfl
  c5 := by kernel_rfl
  c119 := by kernel_rfl
  c138 := by kernel_rfl
theorem var_size {W : World} {name : String} {d : DataW Unit} {g : Nat} {t e : TypeId} {n k : Nat} (hg : Tryz.prog.globalNamed name = some g) (ht : (Tryz.prog.globals[g]?).map (·.type) = some t) (hu : Tryz.prog.underlying t = some (.array n e)) (hc : Tryz.prog.cellsOf t = k) (h : VarReads Tryz.prog W name d) :
    ∃ cs, W.var? Tryz.prog name = some cs ∧ cs.size = k := by
  obtain ⟨g', t', cs, fuel, p, hg', ht', hv, hd⟩ := h
  obtain rfl := Option.some.inj (hg.symm.trans hg')
  obtain rfl := Option.some.inj (ht.symm.trans ht')
  refine ⟨cs, hv, ?_⟩
  cases fuel with
  | zero => simp [DataW.trod] at hd
  | succ fuel =>
    simp only [DataW.trod, hu, hc] at hd
    split at hd
    · rename_i hl; simpa using hl
    · cases hd
theorem acc_at : ∀ j, j < 16 → ((((List.range 16).map fun i => [V.i .u8 (Lib.accLo i), V.i .u8 (Lib.accHi i)]).flatten)[2 * j]? = some (V.i .u8 (Lib.accLo j)) ∧ (((List.range 16).map fun i => [V.i .u8 (Lib.accLo i), V.i .u8 (Lib.accHi i)]).flatten)[2 * j + 1]? = some (V.i .u8 (Lib.accHi j))) := by
  intro j hj
  have : j = 0 ∨ j = 1 ∨ j = 2 ∨ j = 3 ∨ j = 4 ∨ j = 5 ∨ j = 6 ∨ j = 7 ∨ j = 8 ∨ j = 9 ∨ j = 10 ∨ j = 11 ∨ j = 12 ∨ j = 13 ∨ j = 14 ∨ j = 15 := by omega
  rcases this with rfl | rfl | rfl | rfl | rfl | rfl | rfl | rfl | rfl | rfl | rfl | rfl | rfl | rfl | rfl | rfl <;> exact ⟨rfl, rfl⟩
/-- The world, as the row's list gives it. -/
theorem sr_of_laid {W : World} (h : laidMetH Tryz.prog Go.Proofs.YtamdmfgonfibgaaGreatDoor.Rows.syntaxEqualUptoRow.laid W) : SR TT (memOf W) [] [] W := by
  rw [MakeChecks.laidMetH_plain _ _ _ (by kernel_rfl)] at h
  obtain ⟨ps, hv, _, _⟩ := h
  have hr := LaidVars_reads hv
  have hA : VarReads Tryz.prog W "unicode/utf8.acceptRanges" acceptData := hr _ _ (.head _)
  have hS : VarReads Tryz.prog W "strings.asciiSpace" (Lib.tabData .u8 ((List.range 256).map fun i => if i = 32 ∨ (9 ≤ i ∧ i ≤ 13) then 1 else 0)) := hr _ _ (.tail _ (.tail _ (.head _)))
  have hF : VarReads Tryz.prog W "unicode/utf8.first" firstData := hr _ _ (.tail _ (.tail _ (.tail _ (.head _))))
  have tabs : Lib.Utf8Tabs 1 2 W := utf8Tabs_of_readsT (U8Types.of196 Tryz.lays196) u8x hF hA
  refine ⟨fun b o hb => hb, rfl, fun n b hn => by simp at hn, fun n m x y b c c' hn => by simp at hn, fun g l hl => ?_⟩
  simp only [TT] at hl
  split at hl
  · rename_i hg
    subst hg
    cases hl
    have hS' := hS
    obtain ⟨cs, hv, hsz⟩ := var_size (g := 0) (t := 78) (by kernel_rfl) (by kernel_rfl) Tryz.underlying78 (k := 256) (by kernel_rfl) hS
    obtain ⟨g', t', cs2, fuel, p, hg', ht', hv2, hd⟩ := hS'
    have e0 : Tryz.prog.globalNamed "strings.asciiSpace" = some 0 := by kernel_rfl
    obtain rfl := Option.some.inj (e0.symm.trans hg')
    obtain rfl := Option.some.inj ((show (Tryz.prog.globals[0]?).map (·.type) = some 78 by kernel_rfl).symm.trans ht')
    have hcs := Lib.cells_of_tab Tryz.underlying78 Tryz.underlying5 (by kernel_rfl) (by kernel_rfl) hd
    refine glob_of e0 hv (by simp [hsz]) fun i v hi => ?_
    rw [hv] at hv2
    cases hv2
    have hi256 : i < 256 := by
      have := (List.getElem?_eq_some_iff.1 hi).1
      simpa using this
    simp only [List.getElem?_map, List.getElem?_range hi256, Option.map_some, Option.some.injEq] at hi
    subst hi
    refine ⟨.int .u8 (if i = 32 ∨ (9 ≤ i ∧ i ≤ 13) then 1 else 0), ?_, by simp only [rel]⟩
    rw [World.var?_cell e0 hv i, ← Array.getElem?_toList, hcs]
    simp [List.getElem?_range hi256]
  · split at hl
    · rename_i hg
      subst hg
      cases hl
      obtain ⟨cs, hv, hsz⟩ := var_size (g := 1) (t := 78) (by kernel_rfl) (by kernel_rfl) Tryz.underlying78 (k := 256) (by kernel_rfl) hF
      refine glob_of (by kernel_rfl) hv (by simp [hsz]) fun i v hi => ?_
      have hi256 : i < 256 := by
        have := (List.getElem?_eq_some_iff.1 hi).1
        simpa using this
      simp only [List.getElem?_map, List.getElem?_range hi256, Option.map_some, Option.some.injEq] at hi
      subst hi
      exact ⟨_, tabs.1 i hi256, by simp only [rel]⟩
    · split at hl
      · rename_i hg
        subst hg
        cases hl
        obtain ⟨cs, hv, hsz⟩ := var_size (g := 2) (t := 86) (by kernel_rfl) (by kernel_rfl) Tryz.underlying86 (k := 32) (by kernel_rfl) hA
        refine glob_of (by kernel_rfl) hv (by rw [hsz]; rfl) fun i v hi => ?_
        have hi32 : i < 32 := by
          have := (List.getElem?_eq_some_iff.1 hi).1
          exact this
        obtain ⟨j, hj, hij⟩ : ∃ j, j < 16 ∧ (i = 2 * j ∨ i = 2 * j + 1) := ⟨i / 2, by omega, by omega⟩
        obtain ⟨k1, k2⟩ := acc_at j hj
        rcases hij with rfl | rfl
        · rw [k1] at hi; cases hi
          exact ⟨_, (tabs.2 j hj).1, by simp only [rel]⟩
        · rw [k2] at hi; cases hi
          exact ⟨_, (tabs.2 j hj).2, by simp only [rel]⟩
      · cases hl
end Go.Ev
