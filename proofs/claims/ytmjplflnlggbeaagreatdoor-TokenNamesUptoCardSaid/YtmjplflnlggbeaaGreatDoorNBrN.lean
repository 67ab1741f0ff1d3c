/- awake returns true. What the row's list of tables says of the world, and that a text reads as its bytes. Walks: TokenStrings. TokenStrings returns true. Keywords; slices.Equal on the lists of the keywords and of the symbols. Trees of the reference's Quote. The reference's Quote. Walks: TokenNames. TokenNames returns true. The contract of TokenNames in the form of its row. -/
import Derived.Test.YtmjplflnlggbeaaGreatDoorNZJ
import Derived.Test.YtmjplflnlggbeaaGreatDoorRows
import Derived.ChangeArms
import Derived.ChangeSame
import Derived.ChangeReads
import Derived.ReadAgain
import Derived.Deep.Strs
import Derived.Lib.LaidTab
import Derived.Lib.LaidU8T
import Derived.MakeChecks
import Derived.Shelf.Vars
import Derived.Test.YtmjplflnlggbeaaGreatDoorNK4
import Derived.ChangeShapes
import Derived.WideShapes
import Derived.RowKit3
import Derived.OpenShut
namespace Go.Ev
open Go Go.Proofs
set_option linter.unusedSimpArgs false
set_option linter.unusedVariables false
set_option linter.unnecessarySimpa false
set_option maxRecDepth 1000000
def NoF (x : List UInt8) : Prop := ∀ m, decF x ≠ some (m, true)
def awC : Con := fun f vs => if f = 11 then (match vs with
  | [.s s] => if s = aw1 then some (.val (scnV ([(2, [108, 101, 116], 0, true), (1, [120, 39], 4, false), (6, [61], 7, false), (3, [50, 53, 53], 9, false)], 0, 0))) else if s = aw2 then some (.val (scnV ([(3, [49], 0, true), (6, [46], 1, false), (1, [101], 2, false), (1, [97], 4, false), (6, [46, 62], 5, false), (1, [98], 7, false), (5, [97, 65], 9, false)], 0, 0))) else none
  | _ => none) else none
theorem awake_t : (match evFun TT (gamOf awC) 3000 10 [] [] with | .val (.b true) _ => true | _ => false) = true := by kernel_rfl
def noF (x : List UInt8) : Bool := match decF x with
  | some (_, true) => false
  | _ => true
theorem noF_iff {x : List UInt8} (h : noF x = true) : NoF x := fun m e => by
  unfold noF at h
  rw [e] at h
  cases h
def scnDb (s : List UInt8) : Nat → Nat → Bool → Bool
  | 0, _, _ => true
  | n + 1, i, l => match skQ s i l with
    | .inl a => true
    | .inr (j, l') => if j = s.length then true else if (noF (s.drop j) || !(decide (48 ≤ atS (s.drop j) 0) && decide (atS (s.drop j) 0 ≤ 57))) = true then (match tokQ kw numQ (s.drop j) with
      | .inl e => true
      | .inr (k, t, m) => scnDb s n (j + m) false) else false
theorem scnDb_ok (s : List UInt8) : ∀ (n i : Nat) (l : Bool), scnDb s n i l = true → scnD NoF s n i l
  | 0, _, _, _ => trivial
  | n + 1, i, l, h => by
    unfold scnDb at h
    unfold scnD
    split
    · trivial
    · rename_i j l' e
      rw [e] at h
      simp only at h
      split at h
      · exact .inl ‹_›
      · split at h
        · rename_i h1
          refine .inr ⟨fun hd => ?_, ?_⟩
          · rw [hd] at h1
            exact noF_iff (by simpa using h1)
          · split
            · trivial
            · rename_i k t m e2
              rw [e2] at h
              exact scnDb_ok s n _ _ h
        · cases h
theorem aw1_D : scnD NoF aw1 (aw1.length + 1) 0 true := scnDb_ok _ _ _ _ (by kernel_rfl)
theorem aw2_D : scnD NoF aw2 (aw2.length + 1) 0 true := scnDb_ok _ _ _ _ (by kernel_rfl)
theorem sp2011n : ∃ g, SpecOK Tryz.prog TT 11 g ∧ ∀ s : List UInt8, (s.length ≤ 20000 → scnD NoF s (s.length + 1) 0 true) → ∀ H, g [.s s] H = .val (scnV (scnT s)) H :=
  sp2011_of NoF fun s at_ h _ m t he => absurd he (h m)
theorem sp2010 : ∃ g, SpecOK Tryz.prog TT 10 g ∧ ∀ H, g [] H = .val (.b true) H := by
  obtain ⟨g1, k1, s1⟩ := sp2011n
  have hC : awC.Sound Tryz.prog TT := by
    intro f vs H r h hne
    simp only [gamOf, awC] at h
    split at h
    · rename_i hf
      subst hf
      split at h
      · rename_i s
        split at h
        · rename_i e
          subst e
          refine k1 _ H r ?_ hne
          rw [s1 aw1 (fun _ => aw1_D) H, aw1_scn]
          exact Option.some.inj h
        · split at h
          · rename_i e
            subst e
            refine k1 _ H r ?_ hne
            rw [s1 aw2 (fun _ => aw2_D) H, aw2_scn]
            exact Option.some.inj h
          · cases h
      · cases h
    · cases h
  refine ⟨fun vs H => match vs with | [] => .val (.b true) H | _ => .no, fun vs H x hx hne => ?_, fun H => rfl⟩
  simp only at hx
  split at hx
  · subst hx
    have h := awake_t
    split at h
    · rename_i J he
      obtain ⟨h1, h2⟩ := con_of_ev TT_ok TT_plain hC (r := .val (.b true)) he rfl rfl
      exact ⟨h1, h2 H⟩
    · cases h
  · exact absurd hx.symm hne
open Go.Lib (VarReads LaidVars_reads acceptData firstData)
def memOf (W : World) : Mem := fun b => W.heap[b]?
theorem relL_of_at {M : Mem} {ρ : Ren} : ∀ (l : List V) (cs : List Value), cs.length = l.length → (∀ (i : Nat) v x, l[i]? = some v → cs[i]? = some x → rel M ρ v x) → relL M ρ l cs
  | [], [], _, _ => by simp only [relL]
  | [], _ :: _, h, _ => by simp at h
  | _ :: _, [], h, _ => by simp at h
  | v :: l, x :: cs, h, k => relL_cons (k 0 v x rfl rfl) (relL_of_at l cs (by simpa using h) fun i v' x' h1 h2 => k (i + 1) v' x' (by simpa using h1) (by simpa using h2))
theorem glob_of {W : World} {name : String} {g : Nat} {cs : Array Value} {l : List V} (hg : Tryz.prog.globalNamed name = some g) (hv : W.var? Tryz.prog name = some cs) (hl : cs.size = l.length)
    (h : ∀ (i : Nat) v, l[i]? = some v → ∃ x, W.cell? ⟨g, i, none⟩ = some x ∧ rel (memOf W) [] v x) :
    ∃ (cs' : List Value) (ty : TypeId) (fr : Nat × Nat), memOf W g = some (.cells cs'.toArray ty fr) ∧ relL (memOf W) [] l cs' := by
  unfold World.var? at hv
  rw [hg] at hv
  simp only [Option.bind_some] at hv
  split at hv
  · rename_i c ty fr hb
    cases hv
    refine ⟨cs.toList, ty, fr, by simpa [memOf] using hb, relL_of_at _ _ (by simpa using hl) fun i v x h1 h2 => ?_⟩
    obtain ⟨y, hy, hr⟩ := h i v h1
    have : W.cell? ⟨g, i, none⟩ = cs[i]? := by simp [World.cell?, hb]
    rw [this] at hy
    rw [Array.getElem?_toList] at h2
    rw [h2] at hy
    cases hy
    exact hr
  · cases hv
theorem u8x : U8Extra Tryz.prog Tryz.lays196_ren where
  n3 := by kernel_rfl
  n4 := by kernel_rfl
  y3 := by kernel_rfl
  y4 := by kernel_rfl
  c5 := by kernel_rfl
  c119 := by kernel_rfl
  c138 := by kernel_rfl
theorem var_size {W : World} {name : String} {d : DataW Unit} {g : Nat} {t e : TypeId} {n k : Nat} (hg : Tryz.prog.globalNamed name = some g) (ht : (Tryz.prog.globals[g]?).map (·.type) = some t) (hu : Tryz.prog.underlying t = some (.array n e)) (hc : Tryz.prog.cellsOf t = k) (h : VarReads Tryz.prog W name d) :
    ∃ cs, W.var? Tryz.prog name = some cs ∧ cs.size = k := by
  obtain ⟨g', t', cs, fuel, p, hg', ht', hv, hd⟩ := h
  obtain rfl := Option.some.inj (hg.symm.trans hg')
  obtain rfl := Option.some.inj (ht.symm.trans ht')
  refine ⟨cs, hv, ?_⟩
  cases fuel with
  | zero => simp [DataW.trod] at hd
  | succ fuel =>
    simp only [DataW.trod, hu, hc] at hd
    split at hd
    · rename_i hl; simpa using hl
    · cases hd
theorem acc_at : ∀ j, j < 16 → ((((List.range 16).map fun i => [V.i .u8 (Lib.accLo i), V.i .u8 (Lib.accHi i)]).flatten)[2 * j]? = some (V.i .u8 (Lib.accLo j)) ∧ (((List.range 16).map fun i => [V.i .u8 (Lib.accLo i), V.i .u8 (Lib.accHi i)]).flatten)[2 * j + 1]? = some (V.i .u8 (Lib.accHi j))) := by
  intro j hj
  have : j = 0 ∨ j = 1 ∨ j = 2 ∨ j = 3 ∨ j = 4 ∨ j = 5 ∨ j = 6 ∨ j = 7 ∨ j = 8 ∨ j = 9 ∨ j = 10 ∨ j = 11 ∨ j = 12 ∨ j = 13 ∨ j = 14 ∨ j = 15 := by omega
  rcases this with rfl | rfl | rfl | rfl | rfl | rfl | rfl | rfl | rfl | rfl | rfl | rfl | rfl | rfl | rfl | rfl <;> exact ⟨rfl, rfl⟩
theorem sr_of_laid {W : World} (h : laidMetH Tryz.prog Go.Proofs.YtmjplflnlggbeaaGreatDoor.Rows.tokenStringsUptoRow.laid W) (hsh : W.ShapedOpen Tryz.prog) : SR TT (memOf W) [] [] W := by
  rw [MakeChecks.laidMetH_plain _ _ _ (by kernel_rfl)] at h
  obtain ⟨ps, hv, _, _⟩ := h
  have hr := LaidVars_reads hv
  have hP : VarReads Tryz.prog W "internal/strconv.uint64pow10" (Lib.tabData .u64 Lib.pow10Tab) := hr _ _ (.tail _ (.tail _ (.head _)))
  have hA : VarReads Tryz.prog W "unicode/utf8.acceptRanges" acceptData := hr _ _ (.tail _ (.tail _ (.tail _ (.head _))))
  have hS : VarReads Tryz.prog W "strings.asciiSpace" (Lib.tabData .u8 ((List.range 256).map fun i => if i = 32 ∨ (9 ≤ i ∧ i ≤ 13) then 1 else 0)) := hr _ _ (.tail _ (.tail _ (.tail _ (.tail _ (.tail _ (.head _))))))
  have hG : VarReads Tryz.prog W "hackamore/token.signs" (.agg (sgnL.map fun s => .lit (.string s))) := hr _ _ (.tail _ (.tail _ (.tail _ (.tail _ (.tail _ (.tail _ (.head _)))))))
  have hF : VarReads Tryz.prog W "unicode/utf8.first" firstData := hr _ _ (.tail _ (.tail _ (.tail _ (.tail _ (.tail _ (.tail _ (.tail _ (.head _))))))))
  have tabs : Lib.Utf8Tabs 1 2 W := utf8Tabs_of_readsT (U8Types.of196 Tryz.lays196) u8x hF hA
  refine ⟨fun b o hb => hb, rfl, fun n b hn => by simp at hn, fun n m x y b c c' hn => by simp at hn, fun g l hl => ?_, fun g hg => ?_⟩
  · simp only [TT] at hl
    split at hl
    · rename_i hg
      subst hg
      cases hl
      have hG' := hG
      obtain ⟨cs, hv, hsz⟩ := var_size (g := 0) (t := 77) (by kernel_rfl) (by kernel_rfl) Tryz.underlying77 (k := 43) (by kernel_rfl) hG
      obtain ⟨g', t', cs2, fuel, p, hg', ht', hv2, hd⟩ := hG'
      have e0 : Tryz.prog.globalNamed "hackamore/token.signs" = some 0 := by kernel_rfl
      obtain rfl := Option.some.inj (e0.symm.trans hg')
      obtain rfl := Option.some.inj ((show (Tryz.prog.globals[0]?).map (·.type) = some 77 by kernel_rfl).symm.trans ht')
      rw [hv] at hv2
      cases hv2
      have c9 : Tryz.prog.cellsOf 9 = 1 := by kernel_rfl
      refine glob_of e0 hv (by rw [hsz]; rfl) fun i v hi => ?_
      have hi43 : i < 43 := (List.getElem?_eq_some_iff.1 hi).1
      obtain ⟨fuel', d, q, hdi, he⟩ := Lib.array_elem Tryz.underlying77 hd i hi43
      rw [c9, Nat.mul_one] at he
      obtain ⟨s, e1, e2, _⟩ := DataW.trod_string Tryz.underlying9 he
      simp only [List.getElem?_map, Option.map_eq_some_iff] at hi hdi
      obtain ⟨x, hx, rfl⟩ := hi
      obtain ⟨y, hy, rfl⟩ := hdi
      rw [hx] at hy
      cases hy
      have hs : s = ⟨x.toArray⟩ := by
        simp only [Prod.mk.injEq, DataW.lit.injEq] at e2
        have h1 := e2.1
        simp only [Lit.string.injEq] at h1
        cases s
        simp only at h1
        rw [h1]
      refine ⟨.string s, ?_, by rw [hs]; simp only [rel]⟩
      rw [World.var?_cell e0 hv i, ← Array.getElem?_toList]
      have : (cs.toList.drop i)[0]? = some (.string s) := by
        have h2 := congrArg (fun l : List Value => l[0]?) e1
        simpa using h2
      simpa using this
    · split at hl
      · rename_i hg
        subst hg
        cases hl
        have hS' := hS
        obtain ⟨cs, hv, hsz⟩ := var_size (g := 3) (t := 99) (by kernel_rfl) (by kernel_rfl) Tryz.underlying99 (k := 256) (by kernel_rfl) hS
        obtain ⟨g', t', cs2, fuel, p, hg', ht', hv2, hd⟩ := hS'
        have e0 : Tryz.prog.globalNamed "strings.asciiSpace" = some 3 := by kernel_rfl
        obtain rfl := Option.some.inj (e0.symm.trans hg')
        obtain rfl := Option.some.inj ((show (Tryz.prog.globals[3]?).map (·.type) = some 99 by kernel_rfl).symm.trans ht')
        have hcs := Lib.cells_of_tab Tryz.underlying99 Tryz.underlying5 (by kernel_rfl) (by kernel_rfl) hd
        refine glob_of e0 hv (by simp [hsz]) fun i v hi => ?_
        rw [hv] at hv2
        cases hv2
        have hi256 : i < 256 := by
          have := (List.getElem?_eq_some_iff.1 hi).1
          simpa using this
        simp only [List.getElem?_map, List.getElem?_range hi256, Option.map_some, Option.some.injEq] at hi
        subst hi
        refine ⟨.int .u8 (if i = 32 ∨ (9 ≤ i ∧ i ≤ 13) then 1 else 0), ?_, by simp only [rel]⟩
        rw [World.var?_cell e0 hv i, ← Array.getElem?_toList, hcs]
        simp [List.getElem?_range hi256]
      · split at hl
        · rename_i hg
          subst hg
          cases hl
          obtain ⟨cs, hv, hsz⟩ := var_size (g := 1) (t := 99) (by kernel_rfl) (by kernel_rfl) Tryz.underlying99 (k := 256) (by kernel_rfl) hF
          refine glob_of (by kernel_rfl) hv (by simp [hsz]) fun i v hi => ?_
          have hi256 : i < 256 := by
            have := (List.getElem?_eq_some_iff.1 hi).1
            simpa using this
          simp only [List.getElem?_map, List.getElem?_range hi256, Option.map_some, Option.some.injEq] at hi
          subst hi
          exact ⟨_, tabs.1 i hi256, by simp only [rel]⟩
        · split at hl
          · rename_i hg
            subst hg
            cases hl
            obtain ⟨cs, hv, hsz⟩ := var_size (g := 2) (t := 102) (by kernel_rfl) (by kernel_rfl) Tryz.underlying102 (k := 32) (by kernel_rfl) hA
            refine glob_of (by kernel_rfl) hv (by rw [hsz]; rfl) fun i v hi => ?_
            have hi32 : i < 32 := by
              have := (List.getElem?_eq_some_iff.1 hi).1
              exact this
            obtain ⟨j, hj, hij⟩ : ∃ j, j < 16 ∧ (i = 2 * j ∨ i = 2 * j + 1) := ⟨i / 2, by omega, by omega⟩
            obtain ⟨k1, k2⟩ := acc_at j hj
            rcases hij with rfl | rfl
            · rw [k1] at hi; cases hi
              exact ⟨_, (tabs.2 j hj).1, by simp only [rel]⟩
            · rw [k2] at hi; cases hi
              exact ⟨_, (tabs.2 j hj).2, by simp only [rel]⟩
          · split at hl
            · rename_i hg
              subst hg
              cases hl
              have hP' := hP
              obtain ⟨cs, hv, hsz⟩ := var_size (g := 8) (t := 196) (by kernel_rfl) (by kernel_rfl) Tryz.underlying196 (k := 20) (by kernel_rfl) hP
              obtain ⟨g', t', cs2, fuel, p, hg', ht', hv2, hd⟩ := hP'
              have e0 : Tryz.prog.globalNamed "internal/strconv.uint64pow10" = some 8 := by kernel_rfl
              obtain rfl := Option.some.inj (e0.symm.trans hg')
              obtain rfl := Option.some.inj ((show (Tryz.prog.globals[8]?).map (·.type) = some 196 by kernel_rfl).symm.trans ht')
              have hcs := Lib.cells_of_tab Tryz.underlying196 Tryz.underlying119 (by kernel_rfl) (by kernel_rfl) hd
              refine glob_of e0 hv (by simp [hsz]) fun i v hi => ?_
              rw [hv] at hv2
              cases hv2
              have hi20 : i < 20 := by
                have := (List.getElem?_eq_some_iff.1 hi).1
                simpa using this
              simp only [List.getElem?_map, List.getElem?_range hi20, Option.map_some, Option.some.injEq] at hi
              subst hi
              refine ⟨.int .u64 ((10 ^ i : Nat) : Int), ?_, by simp only [rel]⟩
              rw [World.var?_cell e0 hv i, ← Array.getElem?_toList, hcs]
              simp [Lib.pow10Tab, List.getElem?_range hi20]
            · cases hl
  · have hg4 : g = 4 := by simpa [TT] using hg
    subst hg4
    obtain ⟨m, hm⟩ := cell_of_shapedOpen_int (P := Tryz.prog) (w := W) (k := .i64) (g := 4) (t := 3) (zero := #[.int .i64 0]) hsh (of_decide_eq_true (by kernel_rfl)) (by kernel_rfl) rfl (by kernel_rfl) (by kernel_rfl) Tryz.underlying3
    obtain ⟨cs, hh, hs, hr⟩ := hsh.1 4 #[.int .i64 0] 3 (of_decide_eq_true (by kernel_rfl)) (by kernel_rfl)
    have hc : cs[0]? = some (.int .i64 m) := by simpa [World.cell?, hh] using hm
    refine ⟨m, 3, (0, 0), ?_⟩
    show W.heap[4]? = _
    rw [hh]
    have e : cs = #[.int .i64 m] := by
      apply Array.ext (by simpa using hs)
      intro i h1 h2
      have hi : i = 0 := by simp at h2; exact h2
      subst hi
      simpa [Array.getElem?_eq_getElem h1] using hc
    rw [e]
def kwB : Blk := { ty := 9, cells := kwWords.map .s, kind := .all }
theorem kwd_run : (match evFun TT (gamOf Con.none) 3000 21 [] [] with | .val (.sl 0 1 0 k c) J => (k == kwWords.length) && Heap.beq J [some kwB] | _ => false) = true := by kernel_rfl
theorem kw_same : kwWords = kwL := by kernel_rfl
theorem sy_same : sgnL = syL := by kernel_rfl
theorem sp85 : ∃ g, SpecOK Tryz.prog TT 21 g ∧ ∀ H, g [] H = .val (.isl 1 (encS kwWords)) H := by
  refine ⟨fun vs H => match vs with | [] => .val (.isl 1 (encS kwWords)) H | _ => .no, fun vs H x hx hne => ?_, fun H => rfl⟩
  simp only at hx
  split at hx
  · subst hx
    have h := kwd_run
    split at h
    · rename_i k c J he
      rw [Bool.and_eq_true, beq_iff_eq] at h
      obtain ⟨rfl, hj⟩ := h
      have := Heap.beq_eq _ _ hj
      subst this
      obtain ⟨h1, h2⟩ := con_of_ev_fz TT_ok TT_plain Con.none_sound (k := 60) (v' := .isl 1 (encS kwWords)) he (by kernel_rfl) rfl
      exact ⟨h1, h2 H⟩
    · cases h
  · exact absurd hx.symm hne
theorem eq_kw : (match evFun TT (gamOf Con.none) 3000 20 [.isl 1 (encS kwWords), .isl 1 (encS kwWords)] [] with | .val (.b true) _ => true | _ => false) = true := by kernel_rfl
theorem eq_sy : (match evFun TT (gamOf Con.none) 3000 20 [.isl 1 (encS sgnL), .isl 1 (encS sgnL)] [] with | .val (.b true) _ => true | _ => false) = true := by kernel_rfl
theorem sp2020 : ∃ g, SpecOK Tryz.prog TT 20 g ∧ ∀ l, (l = kwWords ∨ l = sgnL) → ∀ H, g [.isl 1 (encS l), .isl 1 (encS l)] H = .val (.b true) H := by
  obtain ⟨g, k, s⟩ := spec_con TT_ok TT_plain 20 (fun vs => ∃ l, (l = kwWords ∨ l = sgnL) ∧ vs = [.isl 1 (encS l), .isl 1 (encS l)]) (fun _ => .val (.b true)) (by
    rintro vs ⟨l, hl, rfl⟩
    refine ⟨by simp [nlL, nl, encS_nl], rfl, 3000, ?_⟩
    rcases hl with rfl | rfl
    · have h := eq_kw
      split at h
      · rename_i J he; exact ⟨J, he⟩
      · cases h
    · have h := eq_sy
      split at h
      · rename_i J he; exact ⟨J, he⟩
      · cases h)
  exact ⟨g, k, fun l hl H => s _ ⟨l, hl, rfl⟩ H⟩
def nmL : List UInt8 := [110, 116, 114, 48, 92, 34]
def byL : List UInt8 := [10, 9, 13, 0, 92, 34]
theorem tr_rq1 : codeT TT shp Tryz.f17.ntmps [] (bodyOf Tryz.f17) [] ⟨[(0, .f1 .vs (.va 0))], ⟨.va 1, [], []⟩, 2, []⟩ (KF TT Tryz.f17 [0, 4, 5, 6, 7, 8]) = .asks (.call 36 (.f2 .cons (.f1 .vs (.va 0)) .nil)) [.b] (.f1 .vb (.va 2)) (.ite (.va 2) (.leaf (.stop [.true, .true, .true, .true, .true, .true, .false, .true, .false]) [(0, .f1 .vs (.va 0)), (4, .f1 .vs (.cs [110, 116, 114, 48, 92, 34])), (5, .f1 .vs (.cs [10, 9, 13, 0, 92, 34])), (6, .f1 .vs (.cs [48, 49, 50, 51, 52, 53, 54, 55, 56, 57, 65, 66, 67, 68, 69, 70])), (7, .f1 .vs (.cs [34])), (8, .f1 (.vi .i64) (.ci 0))] ⟨.va 1, [], []⟩) (.fin (.f1 .tup (.f2 .cons (.f1 .vs (.cs [])) (.f2 .cons (.f1 (.vi .i64) (.ci 2)) .nil))) ⟨.va 1, [], []⟩)) (.stuck 0) := by kernel_rfl
theorem tr_rq2 : goT TT shp Tryz.f17.ntmps [] [true, true, true, true, true, true, false, true, false, false] (bodyOf Tryz.f17) [] ⟨[(0, .f1 .vs (.va 0)), (4, .f1 .vs (.cs [110, 116, 114, 48, 92, 34])), (5, .f1 .vs (.cs [10, 9, 13, 0, 92, 34])), (6, .f1 .vs (.cs [48, 49, 50, 51, 52, 53, 54, 55, 56, 57, 65, 66, 67, 68, 69, 70])), (7, .f1 .vs (.va 2)), (8, .f1 (.vi .i64) (.va 3))], ⟨.va 1, [], []⟩, 4, []⟩ (KF TT Tryz.f17 [0, 4, 5, 6, 7, 8, 9, 10]) = .ite (.f2 .ltI (.va 3) (.f1 .lenS (.va 0))) (.need (.f2 .leI (.ci 0) (.va 3)) (.need (.f2 .leI (.va 3) (.f1 (.wrap .i64) (.f2 .add (.va 3) (.ci 1)))) (.need (.f2 .leI (.f1 (.wrap .i64) (.f2 .add (.va 3) (.ci 1))) (.f1 .lenS (.va 0))) (.ite (.f2 .ltI (.f2 .at (.va 0) (.va 3)) (.ci 32)) (.need (.f2 (.okI .quo .u8) (.f2 .at (.va 0) (.va 3)) (.ci 16)) (.need (.f2 .leI (.ci 0) (.f2 (.opI .quo .u8) (.f2 .at (.va 0) (.va 3)) (.ci 16))) (.need (.f2 .leI (.f2 (.opI .quo .u8) (.f2 .at (.va 0) (.va 3)) (.ci 16)) (.f1 (.wrap .u8) (.f2 .add (.f2 (.opI .quo .u8) (.f2 .at (.va 0) (.va 3)) (.ci 16)) (.ci 1)))) (.need (.f2 .leI (.f1 (.wrap .u8) (.f2 .add (.f2 (.opI .quo .u8) (.f2 .at (.va 0) (.va 3)) (.ci 16)) (.ci 1))) (.ci 16)) (.need (.f2 .leI (.f2 .add (.ci 2) (.f1 .lenS (.f3 .sub (.cs [48, 49, 50, 51, 52, 53, 54, 55, 56, 57, 65, 66, 67, 68, 69, 70]) (.f2 (.opI .quo .u8) (.f2 .at (.va 0) (.va 3)) (.ci 16)) (.f1 (.wrap .u8) (.f2 .add (.f2 (.opI .quo .u8) (.f2 .at (.va 0) (.va 3)) (.ci 16)) (.ci 1)))))) (.ci 9223372036854775807)) (.lets (.f2 .app (.cs [92, 120]) (.f3 .sub (.cs [48, 49, 50, 51, 52, 53, 54, 55, 56, 57, 65, 66, 67, 68, 69, 70]) (.f2 (.opI .quo .u8) (.f2 .at (.va 0) (.va 3)) (.ci 16)) (.f1 (.wrap .u8) (.f2 .add (.f2 (.opI .quo .u8) (.f2 .at (.va 0) (.va 3)) (.ci 16)) (.ci 1))))) (.need (.f2 (.okI .rem .u8) (.f2 .at (.va 0) (.va 3)) (.ci 16)) (.need (.f2 .leI (.ci 0) (.f2 (.opI .rem .u8) (.f2 .at (.va 0) (.va 3)) (.ci 16))) (.need (.f2 .leI (.f2 (.opI .rem .u8) (.f2 .at (.va 0) (.va 3)) (.ci 16)) (.f1 (.wrap .u8) (.f2 .add (.f2 (.opI .rem .u8) (.f2 .at (.va 0) (.va 3)) (.ci 16)) (.ci 1)))) (.need (.f2 .leI (.f1 (.wrap .u8) (.f2 .add (.f2 (.opI .rem .u8) (.f2 .at (.va 0) (.va 3)) (.ci 16)) (.ci 1))) (.ci 16)) (.need (.f2 .leI (.f2 .add (.f1 .lenS (.va 4)) (.f1 .lenS (.f3 .sub (.cs [48, 49, 50, 51, 52, 53, 54, 55, 56, 57, 65, 66, 67, 68, 69, 70]) (.f2 (.opI .rem .u8) (.f2 .at (.va 0) (.va 3)) (.ci 16)) (.f1 (.wrap .u8) (.f2 .add (.f2 (.opI .rem .u8) (.f2 .at (.va 0) (.va 3)) (.ci 16)) (.ci 1)))))) (.ci 9223372036854775807)) (.lets (.f2 .app (.va 4) (.f3 .sub (.cs [48, 49, 50, 51, 52, 53, 54, 55, 56, 57, 65, 66, 67, 68, 69, 70]) (.f2 (.opI .rem .u8) (.f2 .at (.va 0) (.va 3)) (.ci 16)) (.f1 (.wrap .u8) (.f2 .add (.f2 (.opI .rem .u8) (.f2 .at (.va 0) (.va 3)) (.ci 16)) (.ci 1))))) (.leaf (.stop [.true, .true, .true, .true, .true, .true, .false, .true, .false, .false, .true, .false, .false, .true, .true, .false, .true, .false]) [(0, .f1 .vs (.va 0)), (4, .f1 .vs (.cs [110, 116, 114, 48, 92, 34])), (5, .f1 .vs (.cs [10, 9, 13, 0, 92, 34])), (6, .f1 .vs (.cs [48, 49, 50, 51, 52, 53, 54, 55, 56, 57, 65, 66, 67, 68, 69, 70])), (7, .f1 .vs (.va 2)), (8, .f1 (.vi .i64) (.va 3)), (9, .f1 .vs (.va 5)), (10, .f1 (.vi .i64) (.ci 0))] ⟨.va 1, [], []⟩))))))))))))) (.ite (.f2 .eqI (.f2 .at (.va 0) (.va 3)) (.ci 127)) (.need (.f2 (.okI .quo .u8) (.f2 .at (.va 0) (.va 3)) (.ci 16)) (.need (.f2 .leI (.ci 0) (.f2 (.opI .quo .u8) (.f2 .at (.va 0) (.va 3)) (.ci 16))) (.need (.f2 .leI (.f2 (.opI .quo .u8) (.f2 .at (.va 0) (.va 3)) (.ci 16)) (.f1 (.wrap .u8) (.f2 .add (.f2 (.opI .quo .u8) (.f2 .at (.va 0) (.va 3)) (.ci 16)) (.ci 1)))) (.need (.f2 .leI (.f1 (.wrap .u8) (.f2 .add (.f2 (.opI .quo .u8) (.f2 .at (.va 0) (.va 3)) (.ci 16)) (.ci 1))) (.ci 16)) (.need (.f2 .leI (.f2 .add (.ci 2) (.f1 .lenS (.f3 .sub (.cs [48, 49, 50, 51, 52, 53, 54, 55, 56, 57, 65, 66, 67, 68, 69, 70]) (.f2 (.opI .quo .u8) (.f2 .at (.va 0) (.va 3)) (.ci 16)) (.f1 (.wrap .u8) (.f2 .add (.f2 (.opI .quo .u8) (.f2 .at (.va 0) (.va 3)) (.ci 16)) (.ci 1)))))) (.ci 9223372036854775807)) (.lets (.f2 .app (.cs [92, 120]) (.f3 .sub (.cs [48, 49, 50, 51, 52, 53, 54, 55, 56, 57, 65, 66, 67, 68, 69, 70]) (.f2 (.opI .quo .u8) (.f2 .at (.va 0) (.va 3)) (.ci 16)) (.f1 (.wrap .u8) (.f2 .add (.f2 (.opI .quo .u8) (.f2 .at (.va 0) (.va 3)) (.ci 16)) (.ci 1))))) (.need (.f2 (.okI .rem .u8) (.f2 .at (.va 0) (.va 3)) (.ci 16)) (.need (.f2 .leI (.ci 0) (.f2 (.opI .rem .u8) (.f2 .at (.va 0) (.va 3)) (.ci 16))) (.need (.f2 .leI (.f2 (.opI .rem .u8) (.f2 .at (.va 0) (.va 3)) (.ci 16)) (.f1 (.wrap .u8) (.f2 .add (.f2 (.opI .rem .u8) (.f2 .at (.va 0) (.va 3)) (.ci 16)) (.ci 1)))) (.need (.f2 .leI (.f1 (.wrap .u8) (.f2 .add (.f2 (.opI .rem .u8) (.f2 .at (.va 0) (.va 3)) (.ci 16)) (.ci 1))) (.ci 16)) (.need (.f2 .leI (.f2 .add (.f1 .lenS (.va 4)) (.f1 .lenS (.f3 .sub (.cs [48, 49, 50, 51, 52, 53, 54, 55, 56, 57, 65, 66, 67, 68, 69, 70]) (.f2 (.opI .rem .u8) (.f2 .at (.va 0) (.va 3)) (.ci 16)) (.f1 (.wrap .u8) (.f2 .add (.f2 (.opI .rem .u8) (.f2 .at (.va 0) (.va 3)) (.ci 16)) (.ci 1)))))) (.ci 9223372036854775807)) (.lets (.f2 .app (.va 4) (.f3 .sub (.cs [48, 49, 50, 51, 52, 53, 54, 55, 56, 57, 65, 66, 67, 68, 69, 70]) (.f2 (.opI .rem .u8) (.f2 .at (.va 0) (.va 3)) (.ci 16)) (.f1 (.wrap .u8) (.f2 .add (.f2 (.opI .rem .u8) (.f2 .at (.va 0) (.va 3)) (.ci 16)) (.ci 1))))) (.leaf (.stop [.true, .true, .true, .true, .true, .true, .false, .true, .false, .false, .true, .false, .false, .true, .true, .false, .true, .false]) [(0, .f1 .vs (.va 0)), (4, .f1 .vs (.cs [110, 116, 114, 48, 92, 34])), (5, .f1 .vs (.cs [10, 9, 13, 0, 92, 34])), (6, .f1 .vs (.cs [48, 49, 50, 51, 52, 53, 54, 55, 56, 57, 65, 66, 67, 68, 69, 70])), (7, .f1 .vs (.va 2)), (8, .f1 (.vi .i64) (.va 3)), (9, .f1 .vs (.va 5)), (10, .f1 (.vi .i64) (.ci 0))] ⟨.va 1, [], []⟩))))))))))))) (.leaf (.stop [.true, .true, .true, .true, .true, .true, .false, .true, .false, .false, .true, .false, .false, .true, .true, .false, .true, .false]) [(0, .f1 .vs (.va 0)), (4, .f1 .vs (.cs [110, 116, 114, 48, 92, 34])), (5, .f1 .vs (.cs [10, 9, 13, 0, 92, 34])), (6, .f1 .vs (.cs [48, 49, 50, 51, 52, 53, 54, 55, 56, 57, 65, 66, 67, 68, 69, 70])), (7, .f1 .vs (.va 2)), (8, .f1 (.vi .i64) (.va 3)), (9, .f1 .vs (.f3 .sub (.va 0) (.va 3) (.f1 (.wrap .i64) (.f2 .add (.va 3) (.ci 1))))), (10, .f1 (.vi .i64) (.ci 0))] ⟨.va 1, [], []⟩)))))) (.need (.f2 .leI (.f2 .add (.f1 .lenS (.va 2)) (.ci 1)) (.ci 9223372036854775807)) (.fin (.f1 .tup (.f2 .cons (.f1 .vs (.f2 .app (.va 2) (.cs [34]))) (.f2 .cons (.f1 (.vi .i64) (.ci 0)) .nil))) ⟨.va 1, [], []⟩)) := by kernel_rfl
theorem tr_rq3 : goT TT shp Tryz.f17.ntmps [] [true, true, true, true, true, true, false, true, false, false, true, false, false, true, true, false, true, false, false] (bodyOf Tryz.f17) [] ⟨[(0, .f1 .vs (.va 0)), (4, .f1 .vs (.cs [110, 116, 114, 48, 92, 34])), (5, .f1 .vs (.cs [10, 9, 13, 0, 92, 34])), (6, .f1 .vs (.cs [48, 49, 50, 51, 52, 53, 54, 55, 56, 57, 65, 66, 67, 68, 69, 70])), (7, .f1 .vs (.va 2)), (8, .f1 (.vi .i64) (.va 3)), (9, .f1 .vs (.va 4)), (10, .f1 (.vi .i64) (.va 5))], ⟨.va 1, [], []⟩, 6, []⟩ (KF TT Tryz.f17 [0, 4, 5, 6, 7, 8, 9, 10]) = .ite (.f2 .ltI (.va 5) (.ci 6)) (.need (.f2 .leI (.ci 0) (.va 3)) (.need (.f2 .ltI (.va 3) (.f1 .lenS (.va 0))) (.need (.f2 .leI (.ci 0) (.va 5)) (.ite (.f2 .eqI (.f2 .at (.va 0) (.va 3)) (.f2 .at (.cs [10, 9, 13, 0, 92, 34]) (.va 5))) (.need (.f2 .leI (.va 5) (.f1 (.wrap .i64) (.f2 .add (.va 5) (.ci 1)))) (.need (.f2 .leI (.f1 (.wrap .i64) (.f2 .add (.va 5) (.ci 1))) (.ci 6)) (.need (.f2 .leI (.f2 .add (.ci 1) (.f1 .lenS (.f3 .sub (.cs [110, 116, 114, 48, 92, 34]) (.va 5) (.f1 (.wrap .i64) (.f2 .add (.va 5) (.ci 1)))))) (.ci 9223372036854775807)) (.leaf (.again [.true, .true, .true, .true, .true, .true, .false, .true, .false, .false, .true, .false, .false, .true, .true, .false, .true, .false, .false]) [(0, .f1 .vs (.va 0)), (4, .f1 .vs (.cs [110, 116, 114, 48, 92, 34])), (5, .f1 .vs (.cs [10, 9, 13, 0, 92, 34])), (6, .f1 .vs (.cs [48, 49, 50, 51, 52, 53, 54, 55, 56, 57, 65, 66, 67, 68, 69, 70])), (7, .f1 .vs (.va 2)), (8, .f1 (.vi .i64) (.va 3)), (9, .f1 .vs (.f2 .app (.cs [92]) (.f3 .sub (.cs [110, 116, 114, 48, 92, 34]) (.va 5) (.f1 (.wrap .i64) (.f2 .add (.va 5) (.ci 1)))))), (10, .f1 (.vi .i64) (.f1 (.wrap .i64) (.f2 .add (.va 5) (.ci 1))))] ⟨.va 1, [], []⟩)))) (.leaf (.again [.true, .true, .true, .true, .true, .true, .false, .true, .false, .false, .true, .false, .false, .true, .true, .false, .true, .false, .false]) [(0, .f1 .vs (.va 0)), (4, .f1 .vs (.cs [110, 116, 114, 48, 92, 34])), (5, .f1 .vs (.cs [10, 9, 13, 0, 92, 34])), (6, .f1 .vs (.cs [48, 49, 50, 51, 52, 53, 54, 55, 56, 57, 65, 66, 67, 68, 69, 70])), (7, .f1 .vs (.va 2)), (8, .f1 (.vi .i64) (.va 3)), (9, .f1 .vs (.va 4)), (10, .f1 (.vi .i64) (.f1 (.wrap .i64) (.f2 .add (.va 5) (.ci 1))))] ⟨.va 1, [], []⟩))))) (.need (.f2 .leI (.f2 .add (.f1 .lenS (.va 2)) (.f1 .lenS (.va 4))) (.ci 9223372036854775807)) (.leaf (.again [.true, .true, .true, .true, .true, .true, .false, .true, .false, .false]) [(0, .f1 .vs (.va 0)), (4, .f1 .vs (.cs [110, 116, 114, 48, 92, 34])), (5, .f1 .vs (.cs [10, 9, 13, 0, 92, 34])), (6, .f1 .vs (.cs [48, 49, 50, 51, 52, 53, 54, 55, 56, 57, 65, 66, 67, 68, 69, 70])), (7, .f1 .vs (.f2 .app (.va 2) (.va 4))), (8, .f1 (.vi .i64) (.f1 (.wrap .i64) (.f2 .add (.va 3) (.ci 1)))), (9, .f1 .vs (.va 4)), (10, .f1 (.vi .i64) (.va 5))] ⟨.va 1, [], []⟩)) := by kernel_rfl
def rqT (c : Nat) (x : List UInt8) : Nat → List UInt8
  | 0 => x
  | k + 1 => if c = (byL.getD k 0).toNat then [92, nmL.getD k 0] else rqT c x k
def rq0 (c : Nat) : List UInt8 := if c < 32 ∨ c = 127 then [92, 120, hexL.getD (c / 16) 0, hexL.getD (c % 16) 0] else [UInt8.ofNat c]
theorem rq_tab : ((List.range 256).all fun c => (rqT c (rq0 c) 6 == qtC c) && kindOf (evInt .quo .u8 (c : Nat) 16) .u8 && decide (intOf (evInt .quo .u8 (c : Nat) 16) = ((c / 16 : Nat) : Int)) && kindOf (evInt .rem .u8 (c : Nat) 16) .u8 && decide (intOf (evInt .rem .u8 (c : Nat) 16) = ((c % 16 : Nat) : Int))) = true := by kernel_rfl
theorem rq_byte (c : Nat) (h : c < 256) : rqT c (rq0 c) 6 = qtC c ∧ kindOf (evInt .quo .u8 (c : Nat) 16) .u8 = true ∧ intOf (evInt .quo .u8 (c : Nat) 16) = ((c / 16 : Nat) : Int) ∧ kindOf (evInt .rem .u8 (c : Nat) 16) .u8 = true ∧ intOf (evInt .rem .u8 (c : Nat) 16) = ((c % 16 : Nat) : Int) := by
  have := List.all_eq_true.1 rq_tab c (List.mem_range.2 h)
  simp only [Bool.and_eq_true, decide_eq_true_eq, beq_iff_eq] at this
  exact ⟨this.1.1.1.1, this.1.1.1.2, this.1.1.2, this.1.2, this.2⟩
theorem nm_cut : ∀ k : Nat, k < 6 → (nmL.take (k + 1)).drop k = [nmL.getD k 0] := by decide
theorem by_at : ∀ k : Nat, k < 6 → atS byL (k : Nat) = (byL.getD k 0).toNat := by
  intro k h
  have : k = 0 ∨ k = 1 ∨ k = 2 ∨ k = 3 ∨ k = 4 ∨ k = 5 := by omega
  rcases this with rfl | rfl | rfl | rfl | rfl | rfl <;> rfl
theorem rqT_len (c : Nat) (x : List UInt8) (hx : x.length ≤ 4) : ∀ k, (rqT c x k).length ≤ 4
  | 0 => hx
  | k + 1 => by
    unfold rqT
    split
    · simp
    · exact rqT_len c x hx k
theorem rq0_len (c : Nat) : (rq0 c).length ≤ 4 := by
  unfold rq0
  split <;> simp
theorem head_ri {call : CallF} (hC : call.Sound Tryz.prog TT) (s out : List UInt8) (i : Nat) (c : UInt8) (hc : atS s (i : Nat) = c.toNat) (hi : i < s.length) (hs : s.length < 1100000) (ho : out.length ≤ 4 * i + 1) (R : OR → Prop) (H : Heap)
    (hout : ∀ t' : Tm, t'.wid = Tryz.f17.ntmps → t'.get 0 = .s s → t'.get 4 = .s nmL → t'.get 5 = .s byL → t'.get 6 = .s hexL → t'.get 7 = .s (out ++ rqT c.toNat (rq0 c.toNat) 6) → t'.get 8 = .i .i64 ((i + 1 : Nat) : Int) →
      ctx Tryz.prog TT [true, true, true, true, true, true, false, true, false, false] (bodyOf Tryz.f17) (EndsX TT Tryz.f17 R) (.norm t' H)) :
    ∀ (n k : Nat) (t : Tm), 6 < n + k → k ≤ 6 → t.wid = Tryz.f17.ntmps → t.get 0 = .s s → t.get 4 = .s nmL → t.get 5 = .s byL → t.get 6 = .s hexL → t.get 7 = .s out → t.get 8 = .i .i64 (i : Nat) → t.get 9 = .s (rqT c.toNat (rq0 c.toNat) k) → t.get 10 = .i .i64 (k : Nat) →
    ctx Tryz.prog TT [true, true, true, true, true, true, false, true, false, false, true, false, false, true, true, false, true, false, false] (bodyOf Tryz.f17) (EndsX TT Tryz.f17 R) (.norm t H) := by
  intro n
  induction n with
  | zero => intro k t h1 h2; omega
  | succ n ih =>
    intro k t hn hk hw t0 t4 t5 t6 t7 t8 t9 t10
    refine LTri.symIn (p := [true, true, true, true, true, true, false, true, false, false, true, false, false, true, true, false, true, false]) TT_ok hC rfl tr_rq3 (by kernel_rfl) [.us s, .uh H, .us out, .ui (i : Nat), .us (rqT c.toNat (rq0 c.toNat) k), .ui (k : Nat)] rfl hw ⟨t0, t4, t5, t6, t7, t8, t9, t10, trivial⟩ rfl (WF_opq _ _) ?_
    clear t0 t4 t5 t6 t7 t8 t9 t10 hw
    simp -implicitDefEqProofs only [VC, isR, exU, Ask.den, forall_eq, E.den, O1.den, O2.den, O3.den, U.int_ui, U.boo_ub, U.val_uv, U.lst_ul, U.str_us, U.nat_un, U.heap_uh, SH.den, setsD, newD, bD, SB.den, factsTo, LQ, List.cons_append, List.nil_append, List.getElem?_cons_zero, List.getElem?_cons_succ, Option.getD_some, ltB_true, ltB_false, leB_true, leB_false, beq_iff_eq, bne_iff_ne, beq_eq_false_iff_ne, Int.toNat_natCast, Bool.false_eq_true, if_false, if_true]
    have w1 : ∀ m : Nat, m < 2000000 → IntKind.i64.wrap ((m : Int) + 1) = ((m + 1 : Nat) : Int) := fun m hm => by rw [w64 (by omega) (by omega)]; omega
    have hl := rqT_len c.toNat (rq0 c.toNat) (rq0_len _) k
    simp only [w1 i (by omega), w1 k (by omega), Int.toNat_natCast]
    refine ⟨fun h => ?_, fun h => ?_⟩
    · have hk6 : k < 6 := by omega
      have hcut : List.drop k (List.take (k + 1) [110, 116, 114, 48, 92, 34]) = [nmL.getD k 0] := nm_cut k hk6
      have hby : atS [10, 9, 13, 0, 92, 34] (k : Nat) = (byL.getD k 0).toNat := by_at k hk6
      refine ⟨by omega, by omega, by omega, fun h1 => ?_, fun h1 => ?_⟩
      · refine ⟨by omega, by omega, ?_, ?_⟩
        · rw [hcut]; simp
        · intro t' hw' f0 f4 f5 f6 f7 f8 f9 f10
          refine ih (k + 1) t' (by omega) (by omega) hw' f0 f4 f5 f6 f7 f8 ?_ f10
          rw [f9, hcut]
          have : rqT c.toNat (rq0 c.toNat) (k + 1) = [92, nmL.getD k 0] := by
            rw [rqT, if_pos]
            rw [hc, hby] at h1
            exact Int.ofNat_inj.1 h1
          rw [this]
      · intro t' hw' f0 f4 f5 f6 f7 f8 f9 f10
        refine ih (k + 1) t' (by omega) (by omega) hw' f0 f4 f5 f6 f7 f8 ?_ f10
        rw [f9]
        have : rqT c.toNat (rq0 c.toNat) (k + 1) = rqT c.toNat (rq0 c.toNat) k := by
          rw [rqT, if_neg]
          intro e
          rw [hc, hby] at h1
          exact h1 (by rw [e])
        rw [this]
    · have e6 : k = 6 := by omega
      subst e6
      refine ⟨by omega, ?_⟩
      intro t' hw' f0 f4 f5 f6 f7 f8 f9 f10
      exact hout t' hw' f0 f4 f5 f6 f7 f8
theorem head_rq {call : CallF} (hC : call.Sound Tryz.prog TT) (s : List UInt8) (hs : s.length < 1100000) (H : Heap) :
    ∀ (n i : Nat) (out : List UInt8) (t : Tm), s.length < n + i → i ≤ s.length → out.length ≤ 4 * i + 1 → t.wid = Tryz.f17.ntmps → t.get 0 = .s s → t.get 4 = .s nmL → t.get 5 = .s byL → t.get 6 = .s hexL → t.get 7 = .s out → t.get 8 = .i .i64 (i : Nat) →
    ctx Tryz.prog TT [true, true, true, true, true, true, false, true, false, false] (bodyOf Tryz.f17) (EndsX TT Tryz.f17 (isR (.val (.tup [.s (out ++ ((s.drop i).map fun c => qtC c.toNat).flatten ++ [34]), .i .i64 0])))) (.norm t H) := by
  intro n
  induction n with
  | zero => intro i out t h1 h2; omega
  | succ n ih =>
    intro i out t hn hi ho hw t0 t4 t5 t6 t7 t8
    refine LTri.symIn (p := [true, true, true, true, true, true, false, true, false]) TT_ok hC rfl tr_rq2 (by kernel_rfl) [.us s, .uh H, .us out, .ui (i : Nat)] rfl hw ⟨t0, t4, t5, t6, t7, t8, trivial⟩ rfl (WF_opq _ _) ?_
    clear t0 t4 t5 t6 t7 t8 hw
    simp -implicitDefEqProofs only [VC, isR, exU, Ask.den, forall_eq, E.den, O1.den, O2.den, O3.den, U.int_ui, U.boo_ub, U.val_uv, U.lst_ul, U.str_us, U.nat_un, U.heap_uh, SH.den, setsD, newD, bD, SB.den, factsTo, LQ, List.cons_append, List.nil_append, List.getElem?_cons_zero, List.getElem?_cons_succ, Option.getD_some, ltB_true, ltB_false, leB_true, leB_false, beq_iff_eq, bne_iff_ne, beq_eq_false_iff_ne, Int.toNat_natCast, Bool.false_eq_true, if_false, if_true]
    have w1 : IntKind.i64.wrap ((i : Int) + 1) = ((i + 1 : Nat) : Int) := by rw [w64 (by omega) (by omega)]; omega
    simp only [w1, Int.toNat_natCast]
    refine ⟨fun h => ?_, fun h => ?_⟩
    · have hlt : i < s.length := by omega
      obtain ⟨c, hc⟩ := atS_byte s i hlt
      have hcb := c.toNat_lt
      obtain ⟨r1, r2, r3, r4, r5⟩ := rq_byte c.toNat hcb
      have hcons : s.drop i = c :: s.drop (i + 1) := by
        have e := List.drop_eq_getElem_cons hlt
        rw [e]
        congr 1
        unfold atS at hc
        rw [Int.toNat_natCast, List.getElem?_eq_getElem hlt] at hc
        exact UInt8.toNat_inj.1 (Int.ofNat_inj.1 hc)
      have e : out ++ ((s.drop i).map fun c => qtC c.toNat).flatten ++ [34] = (out ++ qtC c.toNat) ++ ((s.drop (i + 1)).map fun c => qtC c.toNat).flatten ++ [34] := by
        rw [hcons]; simp
      have hql := qtC_len c.toNat
      have w2 : ∀ m : Nat, m < 16 → IntKind.u8.wrap ((m : Int) + 1) = ((m + 1 : Nat) : Int) := fun m hm => w8 (m + 1) (by omega)
      have h16 : c.toNat / 16 < 16 := by omega
      have l16 : c.toNat % 16 < 16 := by omega
      have k1 := hex_cut _ h16
      have k2 := hex_cut _ l16
      rw [e, hc]
      have go := head_ri hC s out i c hc hlt hs ho (isR (.val (.tup [.s (out ++ qtC c.toNat ++ ((s.drop (i + 1)).map fun c => qtC c.toNat).flatten ++ [34]), .i .i64 0]))) H (fun t' hw' f0 f4 f5 f6 f7 f8 => ih (i + 1) (out ++ qtC c.toNat) t' (by omega) (by omega) (by rw [List.length_append]; omega) hw' f0 f4 f5 f6 (by rw [f7, r1]) f8) 7 0
      simp only [r3, r5, w2 _ h16, w2 _ l16, Int.toNat_natCast, k1, k2]
      have q1 : (c.toNat < 32 ∨ c.toNat = 127) → rq0 c.toNat = [92, 120, hexL.getD (c.toNat / 16) 0, hexL.getD (c.toNat % 16) 0] := fun h => by unfold rq0; rw [if_pos h]
      have q2 : ¬ (c.toNat < 32 ∨ c.toNat = 127) → rq0 c.toNat = [c] := fun h => by unfold rq0; rw [if_neg h, UInt8.ofNat_toNat]
      have one : List.drop i (List.take (i + 1) s) = [c] := by
        rw [List.drop_take, show i + 1 - i = 1 from by omega, hcons]
        rfl
      refine ⟨by omega, by omega, by omega, fun h1 => ?_, fun h1 => ⟨fun h2 => ?_, fun h2 => ?_⟩⟩
      · refine ⟨r2, by omega, by omega, by omega, by simp, r4, by omega, by omega, by omega, by simp, fun t' hw' f0 f4 f5 f6 f7 f8 f9 f10 => ?_⟩
        exact Tri.symLoop rfl (go t' (by omega) (by omega) hw' f0 f4 f5 f6 f7 f8 (by rw [f9]; show _ = V.s (rq0 c.toNat); rw [q1 (.inl (by omega))]; rfl) f10)
      · refine ⟨r2, by omega, by omega, by omega, by simp, r4, by omega, by omega, by omega, by simp, fun t' hw' f0 f4 f5 f6 f7 f8 f9 f10 => ?_⟩
        exact Tri.symLoop rfl (go t' (by omega) (by omega) hw' f0 f4 f5 f6 f7 f8 (by rw [f9]; show _ = V.s (rq0 c.toNat); rw [q1 (.inr (by omega))]; rfl) f10)
      · intro t' hw' f0 f4 f5 f6 f7 f8 f9 f10
        exact Tri.symLoop rfl (go t' (by omega) (by omega) hw' f0 f4 f5 f6 f7 f8 (by rw [f9, one]; show _ = V.s (rq0 c.toNat); rw [q2 (by omega)]) f10)
    · have hlt : s.length ≤ i := by omega
      rw [List.drop_eq_nil_of_le hlt]
      refine ⟨by omega, ?_⟩
      simp
theorem sp2017 : ∃ g, SpecOK Tryz.prog TT 17 g ∧ ∀ s : List UInt8, s.length < 1100000 → ∀ H, g [.s s] H = (Res.val (qtR s)).at H := by
  obtain ⟨g1, k1, s1⟩ := sp33v
  have hC := ws n0 k1
  have c1 : ∀ x : List UInt8, x.length < 20000000 → ∀ H, (CallF.none.with 36 g1) 36 [.s x] H = .val (.b (Lib.validD x)) H := fun x hx H => by
    rw [w_here]; exact s1 x (by omega) H
  generalize CallF.none.with 36 g1 = call at hC c1
  refine spec_fn TT_ok TT_plain 17 (fun s : List UInt8 => [.s s]) _ (fun s => .val (qtR s)) (fun p _ => ⟨rfl, by unfold qtR; split <;> rfl⟩)
    (fun a b _ _ h => by
      simp only [List.cons.injEq, V.s.injEq, and_true] at h
      rw [h]) fun s hs => ?_
  refine XBody.sym TT_ok hC (fn := Tryz.f17) rfl rfl (by simp [Tryz.f17]) tr_rq1 (by kernel_rfl) [.us s, .uh []] rfl ⟨by rw [get_init]; rfl, trivial⟩ rfl (WF_opq _ _) ?_
  simp -implicitDefEqProofs only [VC, isR, exU, Ask.den, forall_eq, E.den, O1.den, O2.den, O3.den, U.int_ui, U.boo_ub, U.val_uv, U.lst_ul, U.str_us, U.nat_un, U.heap_uh, SH.den, setsD, newD, bD, SB.den, factsTo, LQ, List.cons_append, List.nil_append, List.getElem?_cons_zero, List.getElem?_cons_succ, Option.getD_some, ltB_true, ltB_false, leB_true, leB_false, beq_iff_eq, bne_iff_ne, beq_eq_false_iff_ne, Int.toNat_natCast, Bool.false_eq_true, if_false, if_true]
  refine .inl ⟨_, fun K => c1 s (by omega) K, fun h => ?_, fun h => ?_⟩
  · intro t hw t0 t4 t5 t6 t7 t8
    have e : qtR s = .tup [.s ([34] ++ ((s.drop 0).map fun c => qtC c.toNat).flatten ++ [34]), .i .i64 0] := by unfold qtR; rw [if_pos h]; rfl
    rw [e]
    exact Tri.symLoop rfl (head_rq hC s hs [] (s.length + 1) 0 [34] t (by omega) (by omega) (by simp) hw t0 t4 t5 t6 t7 t8)
  · have e : qtR s = .tup [.s [], .i .i64 2] := by unfold qtR; rw [if_neg (by rw [h]; exact Bool.false_ne_true)]
    rw [e]
theorem body_2007a {call : CallF} (hC : call.Sound Tryz.prog TT) (s : List UInt8) (sw : ∀ H, call 10 [] H = .val (.b true) H) (k1 : (500 : Int) < s.length)  : EBody Tryz.prog TT 7 [.s s] (fun w => w = .val (.b true)) := by
 refine en Tryz.f7 rfl rfl (by simp [Tryz.f7]) 49 rfl fun t hw hg => ?_
 have h0 := hg 0 _ rfl
 clear hg
 try simp only [Nd.enc_eq] at *
 have hF := ai @h0 (ai @sw @k1)
 apply rS hC
 · refine oA ?_
   rfl
 apply sQ
 apply rS hC
 · iterate 3 refine oA ?_
   rfl
 refine cT (by simp [hF] <;> rfl) ?_
 apply rS hC
 · iterate 2 refine oA ?_
   rfl
 apply Tri.ret
 apply sR
 refine endsE (by simp [Tryz.f7] <;> rfl) (by rfl) ?_
 first
  | rfl
  | simp [*]
theorem body_2007b {call : CallF} (hC : call.Sound Tryz.prog TT) (s : List UInt8) (sw : ∀ H, call 10 [] H = .val (.b true) H) (p : List UInt8) (e : Int) (x : Bool) (v w : V) (hs : ∀ H, call 16 [.s s] H = .val (.tup [.s p, .i .i64 e]) H) (hu : ∀ H, call 17 [.s s] H = .val (.tup [.s p, .i .i64 e]) H) (i1 : ∀ H, call 18 [.s s] H = .val (.b x) H) (i2 : ∀ H, call 19 [.s s] H = .val (.b x) H) (d1 : ∀ H, call 21 [] H = .val v H) (d2 : ∀ H, call 22 [] H = .val v H) (d3 : ∀ H, call 20 [v, v] H = .val (.b true) H) (m1 : ∀ H, call 23 [] H = .val w H) (m2 : ∀ H, call 24 [] H = .val w H) (m3 : ∀ H, call 20 [w, w] H = .val (.b true) H) (k1 : ¬ (500 : Int) < s.length)  : EBody Tryz.prog TT 7 [.s s] (fun w => w = .val (.b true)) := by
 refine en Tryz.f7 rfl rfl (by simp [Tryz.f7]) 49 rfl fun t hw hg => ?_
 have h0 := hg 0 _ rfl
 clear hg
 try simp only [Nd.enc_eq] at *
 have hF := ai @h0 (ai @sw (ai @hs (ai @hu (ai @i1 (ai @i2 (ai @d1 (ai @d2 (ai @d3 (ai @m1 (ai @m2 (ai @m3 @k1)))))))))))
 apply rS hC
 · refine oA ?_
   rfl
 apply sQ
 apply rS hC
 · iterate 3 refine oA ?_
   rfl
 refine cF (by simp [hF] <;> rfl) ?_
 apply Tri.skip
 apply sN
 apply rS hC
 · iterate 7 refine oA ?_
   rfl
 apply rS hC
 · iterate 7 refine oA ?_
   rfl
 apply rS hC
 · iterate 6 refine oA ?_
   iterate 3 refine oB ?_
   iterate 2 refine oA ?_
   iterate 3 refine oB ?_
   iterate 2 refine oA ?_
   iterate 3 refine oB ?_
   iterate 2 refine oA ?_
   iterate 3 refine oB ?_
   iterate 2 refine oA ?_
   refine oB ?_
   iterate 2 refine oA ?_
   rfl
 apply Tri.ret
 refine endsE (by simp [Tryz.f7] <;> rfl) (by rfl) ?_
 first
  | rfl
  | simp [*]
theorem law_names (s : List UInt8) (h1 : s.length < 1100000) : Body Tryz.prog TT 7 [.s s] (.val (.b true)) := by
  obtain ⟨g68, k68, s68⟩ := sp68
  obtain ⟨g10, k10, s10⟩ := sp2010
  obtain ⟨g17, k17, s17⟩ := sp2017
  obtain ⟨g26, k26, s26⟩ := sp26p
  obtain ⟨g98, k98, s98⟩ := sp1098
  obtain ⟨g85, k85, s85⟩ := sp85
  obtain ⟨g25, k25, s25⟩ := sp1125
  obtain ⟨g23, k23, s23⟩ := sp2023
  obtain ⟨g50, k50, s50⟩ := sp1150
  obtain ⟨g20, k20, s20⟩ := sp2020
  have hC := ws (ws (ws (ws (ws (ws (ws (ws (ws (ws n0 k68) k10) k17) k26) k98) k85) k25) k23) k50) k20
  generalize hc : (((((((((CallF.none.with 16 g68).with 10 g10).with 17 g17).with 18 g26).with 19 g98).with 21 g85).with 22 g25).with 23 g23).with 24 g50).with 20 g20 = call at hC
  have c68 : ∀ vs H, call 16 (vs) H = g68 vs H := fun vs H => by rw [← hc]; simp [CallF.with]
  have c10 : ∀ vs H, call 10 (vs) H = g10 vs H := fun vs H => by rw [← hc]; simp [CallF.with]
  have c17 : ∀ vs H, call 17 (vs) H = g17 vs H := fun vs H => by rw [← hc]; simp [CallF.with]
  have c26 : ∀ vs H, call 18 (vs) H = g26 vs H := fun vs H => by rw [← hc]; simp [CallF.with]
  have c98 : ∀ vs H, call 19 (vs) H = g98 vs H := fun vs H => by rw [← hc]; simp [CallF.with]
  have c85 : ∀ vs H, call 21 (vs) H = g85 vs H := fun vs H => by rw [← hc]; simp [CallF.with]
  have c25 : ∀ vs H, call 22 (vs) H = g25 vs H := fun vs H => by rw [← hc]; simp [CallF.with]
  have c23 : ∀ vs H, call 23 (vs) H = g23 vs H := fun vs H => by rw [← hc]; simp [CallF.with]
  have c50 : ∀ vs H, call 24 (vs) H = g50 vs H := fun vs H => by rw [← hc]; simp [CallF.with]
  have c20 : ∀ vs H, call 20 (vs) H = g20 vs H := fun vs H => by rw [← hc]; simp [CallF.with]
  clear hc
  apply EBody.of1
  have hq : ∃ (p : List UInt8) (e : Int), qtR s = .tup [.s p, .i .i64 e] := by
    unfold qtR
    split
    · exact ⟨_, _, rfl⟩
    · exact ⟨_, _, rfl⟩
  obtain ⟨p, e, hq⟩ := hq
  by_cases k1 : (500 : Int) < s.length
  · exact body_2007a hC s (fun H => (c10 _ H).trans (s10 H)) k1
  · exact body_2007b hC s (fun H => (c10 _ H).trans (s10 H)) p e (isIdR s) (.isl 1 (encS kwWords)) (.isl 1 (encS sgnL))
      (fun H => by rw [c68, s68 s h1 H, hq]; rfl) (fun H => by rw [c17, s17 s h1 H, hq]; rfl) (fun H => (c26 _ H).trans (s26 s trivial H)) (fun H => (c98 _ H).trans (s98 s (by omega) H))
      (fun H => (c85 _ H).trans (s85 H)) (fun H => by rw [c25, s25 H, kw_same]) (fun H => (c20 _ H).trans (s20 _ (.inl rfl) H))
      (fun H => (c23 _ H).trans (s23 H)) (fun H => by rw [c50, s50 H, sy_same]) (fun H => (c20 _ H).trans (s20 _ (.inr rfl) H)) k1
open Go.ChangeShapes Go.WideShapes Go.RowKit
open Go.Proofs.YtmjplflnlggbeaaGreatDoor (Rows.uptoBulk Rows.uptoBulkAll Rows.tokenNamesSpec Rows.tokenNamesUptoRow Rows.uptoSmall Rows.OpenSpec.upto)
section
variable {H : Type} {enc : TypeId × Value → H} {W W' : World}
theorem trodAll_carry {sp : Nat → Bool} : ∀ {ts : List TypeId} {vs : List Value} {ds : List (DataW H)} {ps : List MemPlace}, DataW.TrodAll enc Tryz.prog W 0 sp true ts vs ds ps → (∀ p ∈ ps, W.sameAt W' p) → DataW.TrodAll enc Tryz.prog W' 0 sp true ts vs ds ps
  | [], [], [], _, h, _ => h
  | _ :: _, _ :: _, _ :: _, _, ⟨p, q, ⟨n, h1⟩, h2, e⟩, hs => ⟨p, q, ⟨n, DataW.trod_carry n _ _ _ h1 fun x hx => hs x (by rw [e]; exact List.mem_append_left _ hx)⟩, trodAll_carry h2 fun x hx => hs x (by rw [e]; exact List.mem_append_right _ hx), e⟩
theorem same_below (hb : Below W.heap.size W W') (p : MemPlace) (hp : p.block < W.heap.size) : W.sameAt W' p := by
  cases p with
  | cell b off =>
    show W'.cell? ⟨b, off, none⟩ = W.cell? ⟨b, off, none⟩
    unfold World.cell?
    rw [hb.block b hp]
  | map b => exact hb.block b hp
theorem kept_below (hb : Below W.heap.size W W') (may : MemPlace → Prop) : W.keptBut W' may := by
  refine ⟨hb.os, hb.output, fun i hi => ?_⟩
  rw [hb.block i hi]
  exact (World.keptBut_refl W may).2.2 i hi
theorem kidsT : Kids Tryz.prog (· < Tryz.prog.types.size) := kids_rows (by kernel_rfl) (by kernel_rfl)
theorem arg_of {base : Nat} {v : Value} {d : DataW H} {p : List MemPlace} (hok : Value.okWide Tryz.prog W .any base 9 v) (h : DataW.Trod enc Tryz.prog W 0 (fun _ => true) true 9 v d p) :
    ∃ s : List UInt8, rel (memOf W) [] (.s s) v ∧ s.length < Rows.uptoBulk d := by
  have hv : ∃ s : ByteArray, v = .string s := by
    unfold Value.okWide Cell.okWide Cell.ok at hok
    rw [Tryz.underlying9] at hok
    cases v <;> simp at hok
    exact ⟨_, rfl⟩
  obtain ⟨s, rfl⟩ := hv
  obtain ⟨n, hn⟩ := h
  obtain ⟨s', e1, e2, _⟩ := DataW.trod_string Tryz.underlying9 hn
  have e : s = s' := by simpa [Value.cells] using e1
  subst e
  simp only [Prod.mk.injEq] at e2
  refine ⟨s.data.toList, by simp only [rel], ?_⟩
  rw [e2.1]
  simp [Rows.uptoBulk]
end
theorem contract {H : Type} (enc : TypeId × Value → H) (F : Stop.Interp) (W : World) (base : Nat) (args : Array Value) (ds gs : List (DataW H)) (before : List MemPlace)
    (hval : ∀ (j : Nat) t v, Tryz.f7.params[j]? = some t → args[j]? = some v → Value.okWide Tryz.prog W .any base t v)
    (hW : DataW.Whole enc Tryz.prog Tryz.f7.params.toList Rows.tokenNamesSpec.vars false W args.toList ds gs before)
    (hsm : Rows.uptoBulkAll (ds ++ gs) ≤ 1048576) (hL : laidMetH Tryz.prog Rows.tokenNamesUptoRow.laid W) (hsh : W.ShapedOpen Tryz.prog) :
    Calls Tryz.prog 7 args W fun e W' => ∃ v, e = .returned v ∧ ((Rows.OpenSpec.upto Rows.tokenNamesSpec).at F).post enc Tryz.prog Tryz.f7 false true false false W args v W' := by
  have hW' := hW
  obtain ⟨p, q, hA0, hV, rfl, hfz, hnd⟩ := hW
  have hA : DataW.TrodAll enc Tryz.prog W 0 (fun _ => true) true Tryz.f7.params.toList args.toList ds p := hA0
  have hAk := hA
  rw [Tryz.params7] at hA hval
  obtain ⟨v0, vs0, d0, ds0, p0, q0, hargs, rfl, rfl, h0, r0⟩ := trodAll_cons hA
  obtain ⟨rfl, rfl, rfl⟩ := trodAll_nil r0
  obtain rfl : args = #[v0] := by cases args; simp_all
  obtain ⟨rfl, rfl⟩ := trodVars_none hV
  obtain ⟨x0, e0, n0'⟩ := arg_of (hval 0 9 v0 rfl rfl) h0
  simp only [List.append_nil, Rows.uptoBulkAll] at hsm
  have hb := law_names x0 (by omega)
  obtain ⟨_, hcall⟩ := con_of_body TT_ok TT_plain hb (by simp [nlL, nl]) rfl
  have := hcall [] (memOf W) [] W [v0] (sr_of_laid hL hsh) (relL_cons e0 (by simp only [relL]))
  refine Calls.mono this ?_
  rintro e W' ⟨x, M', ρ', rfl, he, hx, _⟩
  simp only [rel] at hx
  subst hx
  have hB : Below W.heap.size W W' := ⟨he.os, he.tape, he.output, he.size, fun k hk => he.frame k hk (fun c hc => by simp at hc)⟩
  have hlt := hAk.lt
  have hresp := DataW.TrodAll.respare (spare' := fun b => decide (b < W.heap.size)) kidsT (slices_full_of Tryz.prog (by kernel_rfl)) (fun t ht => by
    rw [Tryz.params7] at ht
    have : t = 9 := by simpa using ht
    subst this
    exact of_decide_eq_true (by kernel_rfl)) hAk (fun p hp => by simpa using hlt p hp)
  refine ⟨_, rfl, ?_⟩
  refine ⟨_, _, _, [], _, [], hW', ?_, trodAll_carry hresp (fun p hp => same_below hB p (hlt p hp)), rfl, kept_below hB _, fun h => by cases h⟩
  exact trodAll_mk1 (shut_bool Tryz.underlying4 true)
end Go.Ev
