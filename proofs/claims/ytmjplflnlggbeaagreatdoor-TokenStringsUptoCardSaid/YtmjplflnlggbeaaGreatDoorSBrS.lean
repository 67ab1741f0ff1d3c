/- What the row's list of tables says of the world, and that a text reads as its bytes. The contract of TokenStrings in the form of its row. -/
import Derived.Test.YtmjplflnlggbeaaGreatDoorSZM
import Derived.Test.YtmjplflnlggbeaaGreatDoorRows
import Derived.ChangeArms
import Derived.ChangeSame
import Derived.ChangeReads
import Derived.ReadAgain
import Derived.Deep.Strs
import Derived.Lib.LaidTab
import Derived.Lib.LaidU8T
import Derived.MakeChecks
import Derived.Shelf.Vars
import Derived.ChangeShapes
import Derived.WideShapes
import Derived.RowKit3
import Derived.OpenShut
namespace Go.Ev
open Go Go.Proofs
set_option linter.unusedSimpArgs false
set_option linter.unusedVariables false
set_option linter.unnecessarySimpa false
set_option maxRecDepth 100000
open Go.Lib (VarReads LaidVars_reads acceptData firstData)
def memOf (W : World) : Mem := fun b => W.heap[b]?
theorem relL_of_at {M : Mem} {ρ : Ren} : ∀ (l : List V) (cs : List Value), cs.length = l.length → (∀ (i : Nat) v x, l[i]? = some v → cs[i]? = some x → rel M ρ v x) → relL M ρ l cs
  | [], [], _, _ => by simp only [relL]
  | [], _ :: _, h, _ => by simp at h
  | _ :: _, [], h, _ => by simp at h
  | v :: l, x :: cs, h, k => relL_cons (k 0 v x rfl rfl) (relL_of_at l cs (by simpa using h) fun i v' x' h1 h2 => k (i + 1) v' x' (by simpa using h1) (by simpa using h2))
theorem glob_of {W : World} {name : String} {g : Nat} {cs : Array Value} {l : List V} (hg : Tryz.prog.globalNamed name = some g) (hv : W.var? Tryz.prog name = some cs) (hl : cs.size = l.length)
    (h : ∀ (i : Nat) v, l[i]? = some v → ∃ x, W.cell? ⟨g, i, none⟩ = some x ∧ rel (memOf W) [] v x) :
    ∃ (cs' : List Value) (ty : TypeId) (fr : Nat × Nat), memOf W g = some (.cells cs'.toArray ty fr) ∧ relL (memOf W) [] l cs' := by
  unfold World.var? at hv
  rw [hg] at hv
  simp only [Option.bind_some] at hv
  split at hv
  · rename_i c ty fr hb
    cases hv
    refine ⟨cs.toList, ty, fr, by simpa [memOf] using hb, relL_of_at _ _ (by simpa using hl) fun i v x h1 h2 => ?_⟩
    obtain ⟨y, hy, hr⟩ := h i v h1
    have : W.cell? ⟨g, i, none⟩ = cs[i]? := by simp [World.cell?, hb]
    rw [this] at hy
    rw [Array.getElem?_toList] at h2
    rw [h2] at hy
    cases hy
    exact hr
  · cases hv
theorem u8x : U8Extra Tryz.prog Tryz.lays196_ren where
  n3 := by kernel_rfl
  n4 := by kernel_rfl
  y3 := by kernel_rfl
  y4 := by kernel_rfl
  c5 := by kernel_rfl
  c119 := by kernel_rfl
  c138 := by kernel_rfl
theorem var_size {W : World} {name : String} {d : DataW Unit} {g : Nat} {t e : TypeId} {n k : Nat} (hg : Tryz.prog.globalNamed name = some g) (ht : (Tryz.prog.globals[g]?).map (·.type) = some t) (hu : Tryz.prog.underlying t = some (.array n e)) (hc : Tryz.prog.cellsOf t = k) (h : VarReads Tryz.prog W name d) :
    ∃ cs, W.var? Tryz.prog name = some cs ∧ cs.size = k := by
  obtain ⟨g', t', cs, fuel, p, hg', ht', hv, hd⟩ := h
  obtain rfl := Option.some.inj (hg.symm.trans hg')
  obtain rfl := Option.some.inj (ht.symm.trans ht')
  refine ⟨cs, hv, ?_⟩
  cases fuel with
  | zero => simp [DataW.trod] at hd
  | succ fuel =>
    simp only [DataW.trod, hu, hc] at hd
    split at hd
    · rename_i hl; simpa using hl
    · cases hd
theorem acc_at : ∀ j, j < 16 → ((((List.range 16).map fun i => [V.i .u8 (Lib.accLo i), V.i .u8 (Lib.accHi i)]).flatten)[2 * j]? = some (V.i .u8 (Lib.accLo j)) ∧ (((List.range 16).map fun i => [V.i .u8 (Lib.accLo i), V.i .u8 (Lib.accHi i)]).flatten)[2 * j + 1]? = some (V.i .u8 (Lib.accHi j))) := by
  intro j hj
  have : j = 0 ∨ j = 1 ∨ j = 2 ∨ j = 3 ∨ j = 4 ∨ j = 5 ∨ j = 6 ∨ j = 7 ∨ j = 8 ∨ j = 9 ∨ j = 10 ∨ j = 11 ∨ j = 12 ∨ j = 13 ∨ j = 14 ∨ j = 15 := by omega
  rcases this with rfl | rfl | rfl | rfl | rfl | rfl | rfl | rfl | rfl | rfl | rfl | rfl | rfl | rfl | rfl | rfl <;> exact ⟨rfl, rfl⟩
theorem sr_of_laid {W : World} (h : laidMetH Tryz.prog Go.Proofs.YtmjplflnlggbeaaGreatDoor.Rows.tokenStringsUptoRow.laid W) (hsh : W.ShapedOpen Tryz.prog) : SR TT (memOf W) [] [] W := by
  rw [MakeChecks.laidMetH_plain _ _ _ (by kernel_rfl)] at h
  obtain ⟨ps, hv, _, _⟩ := h
  have hr := LaidVars_reads hv
  have hP : VarReads Tryz.prog W "internal/strconv.uint64pow10" (Lib.tabData .u64 Lib.pow10Tab) := hr _ _ (.tail _ (.tail _ (.head _)))
  have hA : VarReads Tryz.prog W "unicode/utf8.acceptRanges" acceptData := hr _ _ (.tail _ (.tail _ (.tail _ (.head _))))
  have hS : VarReads Tryz.prog W "strings.asciiSpace" (Lib.tabData .u8 ((List.range 256).map fun i => if i = 32 ∨ (9 ≤ i ∧ i ≤ 13) then 1 else 0)) := hr _ _ (.tail _ (.tail _ (.tail _ (.tail _ (.tail _ (.head _))))))
  have hG : VarReads Tryz.prog W "hackamore/token.signs" (.agg (sgnL.map fun s => .lit (.string s))) := hr _ _ (.tail _ (.tail _ (.tail _ (.tail _ (.tail _ (.tail _ (.head _)))))))
  have hF : VarReads Tryz.prog W "unicode/utf8.first" firstData := hr _ _ (.tail _ (.tail _ (.tail _ (.tail _ (.tail _ (.tail _ (.tail _ (.head _))))))))
  have tabs : Lib.Utf8Tabs 1 2 W := utf8Tabs_of_readsT (U8Types.of196 Tryz.lays196) u8x hF hA
  refine ⟨fun b o hb => hb, rfl, fun n b hn => by simp at hn, fun n m x y b c c' hn => by simp at hn, fun g l hl => ?_, fun g hg => ?_⟩
  · simp only [TT] at hl
    split at hl
    · rename_i hg
      subst hg
      cases hl
      have hG' := hG
      obtain ⟨cs, hv, hsz⟩ := var_size (g := 0) (t := 77) (by kernel_rfl) (by kernel_rfl) Tryz.underlying77 (k := 43) (by kernel_rfl) hG
      obtain ⟨g', t', cs2, fuel, p, hg', ht', hv2, hd⟩ := hG'
      have e0 : Tryz.prog.globalNamed "hackamore/token.signs" = some 0 := by kernel_rfl
      obtain rfl := Option.some.inj (e0.symm.trans hg')
      obtain rfl := Option.some.inj ((show (Tryz.prog.globals[0]?).map (·.type) = some 77 by kernel_rfl).symm.trans ht')
      rw [hv] at hv2
      cases hv2
      have c9 : Tryz.prog.cellsOf 9 = 1 := by kernel_rfl
      refine glob_of e0 hv (by rw [hsz]; rfl) fun i v hi => ?_
      have hi43 : i < 43 := (List.getElem?_eq_some_iff.1 hi).1
      obtain ⟨fuel', d, q, hdi, he⟩ := Lib.array_elem Tryz.underlying77 hd i hi43
      rw [c9, Nat.mul_one] at he
      obtain ⟨s, e1, e2, _⟩ := DataW.trod_string Tryz.underlying9 he
      simp only [List.getElem?_map, Option.map_eq_some_iff] at hi hdi
      obtain ⟨x, hx, rfl⟩ := hi
      obtain ⟨y, hy, rfl⟩ := hdi
      rw [hx] at hy
      cases hy
      have hs : s = ⟨x.toArray⟩ := by
        simp only [Prod.mk.injEq, DataW.lit.injEq] at e2
        have h1 := e2.1
        simp only [Lit.string.injEq] at h1
        cases s
        simp only at h1
        rw [h1]
      refine ⟨.string s, ?_, by rw [hs]; simp only [rel]⟩
      rw [World.var?_cell e0 hv i, ← Array.getElem?_toList]
      have : (cs.toList.drop i)[0]? = some (.string s) := by
        have h2 := congrArg (fun l : List Value => l[0]?) e1
        simpa using h2
      simpa using this
    · split at hl
      · rename_i hg
        subst hg
        cases hl
        have hS' := hS
        obtain ⟨cs, hv, hsz⟩ := var_size (g := 3) (t := 99) (by kernel_rfl) (by kernel_rfl) Tryz.underlying99 (k := 256) (by kernel_rfl) hS
        obtain ⟨g', t', cs2, fuel, p, hg', ht', hv2, hd⟩ := hS'
        have e0 : Tryz.prog.globalNamed "strings.asciiSpace" = some 3 := by kernel_rfl
        obtain rfl := Option.some.inj (e0.symm.trans hg')
        obtain rfl := Option.some.inj ((show (Tryz.prog.globals[3]?).map (·.type) = some 99 by kernel_rfl).symm.trans ht')
        have hcs := Lib.cells_of_tab Tryz.underlying99 Tryz.underlying5 (by kernel_rfl) (by kernel_rfl) hd
        refine glob_of e0 hv (by simp [hsz]) fun i v hi => ?_
        rw [hv] at hv2
        cases hv2
        have hi256 : i < 256 := by
          have := (List.getElem?_eq_some_iff.1 hi).1
          simpa using this
        simp only [List.getElem?_map, List.getElem?_range hi256, Option.map_some, Option.some.injEq] at hi
        subst hi
        refine ⟨.int .u8 (if i = 32 ∨ (9 ≤ i ∧ i ≤ 13) then 1 else 0), ?_, by simp only [rel]⟩
        rw [World.var?_cell e0 hv i, ← Array.getElem?_toList, hcs]
        simp [List.getElem?_range hi256]
      · split at hl
        · rename_i hg
          subst hg
          cases hl
          obtain ⟨cs, hv, hsz⟩ := var_size (g := 1) (t := 99) (by kernel_rfl) (by kernel_rfl) Tryz.underlying99 (k := 256) (by kernel_rfl) hF
          refine glob_of (by kernel_rfl) hv (by simp [hsz]) fun i v hi => ?_
          have hi256 : i < 256 := by
            have := (List.getElem?_eq_some_iff.1 hi).1
            simpa using this
          simp only [List.getElem?_map, List.getElem?_range hi256, Option.map_some, Option.some.injEq] at hi
          subst hi
          exact ⟨_, tabs.1 i hi256, by simp only [rel]⟩
        · split at hl
          · rename_i hg
            subst hg
            cases hl
            obtain ⟨cs, hv, hsz⟩ := var_size (g := 2) (t := 102) (by kernel_rfl) (by kernel_rfl) Tryz.underlying102 (k := 32) (by kernel_rfl) hA
            refine glob_of (by kernel_rfl) hv (by rw [hsz]; rfl) fun i v hi => ?_
            have hi32 : i < 32 := by
              have := (List.getElem?_eq_some_iff.1 hi).1
              exact this
            obtain ⟨j, hj, hij⟩ : ∃ j, j < 16 ∧ (i = 2 * j ∨ i = 2 * j + 1) := ⟨i / 2, by omega, by omega⟩
            obtain ⟨k1, k2⟩ := acc_at j hj
            rcases hij with rfl | rfl
            · rw [k1] at hi; cases hi
              exact ⟨_, (tabs.2 j hj).1, by simp only [rel]⟩
            · rw [k2] at hi; cases hi
              exact ⟨_, (tabs.2 j hj).2, by simp only [rel]⟩
          · split at hl
            · rename_i hg
              subst hg
              cases hl
              have hP' := hP
              obtain ⟨cs, hv, hsz⟩ := var_size (g := 8) (t := 196) (by kernel_rfl) (by kernel_rfl) Tryz.underlying196 (k := 20) (by kernel_rfl) hP
              obtain ⟨g', t', cs2, fuel, p, hg', ht', hv2, hd⟩ := hP'
              have e0 : Tryz.prog.globalNamed "internal/strconv.uint64pow10" = some 8 := by kernel_rfl
              obtain rfl := Option.some.inj (e0.symm.trans hg')
              obtain rfl := Option.some.inj ((show (Tryz.prog.globals[8]?).map (·.type) = some 196 by kernel_rfl).symm.trans ht')
              have hcs := Lib.cells_of_tab Tryz.underlying196 Tryz.underlying119 (by kernel_rfl) (by kernel_rfl) hd
              refine glob_of e0 hv (by simp [hsz]) fun i v hi => ?_
              rw [hv] at hv2
              cases hv2
              have hi20 : i < 20 := by
                have := (List.getElem?_eq_some_iff.1 hi).1
                simpa using this
              simp only [List.getElem?_map, List.getElem?_range hi20, Option.map_some, Option.some.injEq] at hi
              subst hi
              refine ⟨.int .u64 ((10 ^ i : Nat) : Int), ?_, by simp only [rel]⟩
              rw [World.var?_cell e0 hv i, ← Array.getElem?_toList, hcs]
              simp [Lib.pow10Tab, List.getElem?_range hi20]
            · cases hl
  · have hg4 : g = 4 := by simpa [TT] using hg
    subst hg4
    obtain ⟨m, hm⟩ := cell_of_shapedOpen_int (P := Tryz.prog) (w := W) (k := .i64) (g := 4) (t := 3) (zero := #[.int .i64 0]) hsh (of_decide_eq_true (by kernel_rfl)) (by kernel_rfl) rfl (by kernel_rfl) (by kernel_rfl) Tryz.underlying3
    obtain ⟨cs, hh, hs, hr⟩ := hsh.1 4 #[.int .i64 0] 3 (of_decide_eq_true (by kernel_rfl)) (by kernel_rfl)
    have hc : cs[0]? = some (.int .i64 m) := by simpa [World.cell?, hh] using hm
    refine ⟨m, 3, (0, 0), ?_⟩
    show W.heap[4]? = _
    rw [hh]
    have e : cs = #[.int .i64 m] := by
      apply Array.ext (by simpa using hs)
      intro i h1 h2
      have hi : i = 0 := by simp at h2; exact h2
      subst hi
      simpa [Array.getElem?_eq_getElem h1] using hc
    rw [e]
open Go.ChangeShapes Go.WideShapes Go.RowKit
open Go.Proofs.YtmjplflnlggbeaaGreatDoor (Rows.uptoBulk Rows.uptoBulkAll Rows.tokenStringsSpec Rows.tokenStringsUptoRow Rows.uptoSmall Rows.OpenSpec.upto)
section
variable {H : Type} {enc : TypeId × Value → H} {W W' : World}
theorem trodAll_carry {sp : Nat → Bool} : ∀ {ts : List TypeId} {vs : List Value} {ds : List (DataW H)} {ps : List MemPlace}, DataW.TrodAll enc Tryz.prog W 0 sp true ts vs ds ps → (∀ p ∈ ps, W.sameAt W' p) → DataW.TrodAll enc Tryz.prog W' 0 sp true ts vs ds ps
  | [], [], [], _, h, _ => h
  | _ :: _, _ :: _, _ :: _, _, ⟨p, q, ⟨n, h1⟩, h2, e⟩, hs => ⟨p, q, ⟨n, DataW.trod_carry n _ _ _ h1 fun x hx => hs x (by rw [e]; exact List.mem_append_left _ hx)⟩, trodAll_carry h2 fun x hx => hs x (by rw [e]; exact List.mem_append_right _ hx), e⟩
theorem same_below (hb : Below W.heap.size W W') (p : MemPlace) (hp : p.block < W.heap.size) : W.sameAt W' p := by
  cases p with
  | cell b off =>
    show W'.cell? ⟨b, off, none⟩ = W.cell? ⟨b, off, none⟩
    unfold World.cell?
    rw [hb.block b hp]
  | map b => exact hb.block b hp
theorem kept_below (hb : Below W.heap.size W W') (may : MemPlace → Prop) : W.keptBut W' may := by
  refine ⟨hb.os, hb.output, fun i hi => ?_⟩
  rw [hb.block i hi]
  exact (World.keptBut_refl W may).2.2 i hi
theorem kidsT : Kids Tryz.prog (· < Tryz.prog.types.size) := kids_rows (by kernel_rfl) (by kernel_rfl)
theorem arg_of {base : Nat} {v : Value} {d : DataW H} {p : List MemPlace} (hok : Value.okWide Tryz.prog W .any base 9 v) (h : DataW.Trod enc Tryz.prog W 0 (fun _ => true) true 9 v d p) :
    ∃ s : List UInt8, rel (memOf W) [] (.s s) v ∧ s.length < Rows.uptoBulk d := by
  have hv : ∃ s : ByteArray, v = .string s := by
    unfold Value.okWide Cell.okWide Cell.ok at hok
    rw [Tryz.underlying9] at hok
    cases v <;> simp at hok
    exact ⟨_, rfl⟩
  obtain ⟨s, rfl⟩ := hv
  obtain ⟨n, hn⟩ := h
  obtain ⟨s', e1, e2, _⟩ := DataW.trod_string Tryz.underlying9 hn
  have e : s = s' := by simpa [Value.cells] using e1
  subst e
  simp only [Prod.mk.injEq] at e2
  refine ⟨s.data.toList, by simp only [rel], ?_⟩
  rw [e2.1]
  simp [Rows.uptoBulk]
end
theorem contract {H : Type} (enc : TypeId × Value → H) (F : Stop.Interp) (W : World) (base : Nat) (args : Array Value) (ds gs : List (DataW H)) (before : List MemPlace)
    (hval : ∀ (j : Nat) t v, Tryz.f6.params[j]? = some t → args[j]? = some v → Value.okWide Tryz.prog W .any base t v)
    (hW : DataW.Whole enc Tryz.prog Tryz.f6.params.toList Rows.tokenStringsSpec.vars false W args.toList ds gs before)
    (hsm : Rows.uptoBulkAll (ds ++ gs) ≤ 1048576) (hL : laidMetH Tryz.prog Rows.tokenStringsUptoRow.laid W) (hsh : W.ShapedOpen Tryz.prog) :
    Calls Tryz.prog 6 args W fun e W' => ∃ v, e = .returned v ∧ ((Rows.OpenSpec.upto Rows.tokenStringsSpec).at F).post enc Tryz.prog Tryz.f6 false true false false W args v W' := by
  have hW' := hW
  obtain ⟨p, q, hA0, hV, rfl, hfz, hnd⟩ := hW
  have hA : DataW.TrodAll enc Tryz.prog W 0 (fun _ => true) true Tryz.f6.params.toList args.toList ds p := hA0
  have hAk := hA
  rw [Tryz.params6] at hA hval
  obtain ⟨v0, vs0, d0, ds0, p0, q0, hargs, rfl, rfl, h0, r0⟩ := trodAll_cons hA
  obtain ⟨v1, vs1, d1, ds1, p1, q1, rfl, rfl, rfl, h1, r1⟩ := trodAll_cons r0
  obtain ⟨rfl, rfl, rfl⟩ := trodAll_nil r1
  obtain rfl : args = #[v0, v1] := by cases args; simp_all
  obtain ⟨rfl, rfl⟩ := trodVars_none hV
  obtain ⟨x0, e0, n0'⟩ := arg_of (hval 0 9 v0 rfl rfl) h0
  obtain ⟨x1, e1, n1'⟩ := arg_of (hval 1 9 v1 rfl rfl) h1
  simp only [List.append_nil, List.cons_append, List.nil_append, Rows.uptoBulkAll] at hsm
  have hb := law_strings x0 x1 (by omega) (by omega)
  obtain ⟨_, hcall⟩ := con_of_body TT_ok TT_plain hb (by simp [nlL, nl]) rfl
  have := hcall [] (memOf W) [] W [v0, v1] (sr_of_laid hL hsh) (relL_cons e0 (relL_cons e1 (by simp only [relL])))
  refine Calls.mono this ?_
  rintro e W' ⟨x, M', ρ', rfl, he, hx, _⟩
  simp only [rel] at hx
  subst hx
  have hB : Below W.heap.size W W' := ⟨he.os, he.tape, he.output, he.size, fun k hk => he.frame k hk (fun c hc => by simp at hc)⟩
  have hlt := hAk.lt
  have hresp := DataW.TrodAll.respare (spare' := fun b => decide (b < W.heap.size)) kidsT (slices_full_of Tryz.prog (by kernel_rfl)) (fun t ht => by
    rw [Tryz.params6] at ht
    have : t = 9 := by simpa using ht
    subst this
    exact of_decide_eq_true (by kernel_rfl)) hAk (fun p hp => by simpa using hlt p hp)
  refine ⟨_, rfl, ?_⟩
  refine ⟨_, _, _, [], _, [], hW', ?_, trodAll_carry hresp (fun p hp => same_below hB p (hlt p hp)), rfl, kept_below hB _, fun h => by cases h⟩
  exact trodAll_mk1 (shut_bool Tryz.underlying4 true)
end Go.Ev
