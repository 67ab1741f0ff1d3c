/- The contract of the row, where what is read is of bulk at most 1048576. -/
import Derived.Test.YtddpjgoboboidaaGreatDoorBrA
import Derived.Test.YtddpjgoboboidaaGreatDoorLawS
import Derived.ChangeShapes
import Derived.WideShapes
import Derived.RowKit3
import Derived.OpenShut
namespace Go.Ev
open Go Go.Proofs
open Go.ChangeShapes Go.WideShapes Go.RowKit
open Go.Proofs.YtddpjgoboboidaaGreatDoor (Rows.uptoBulk Rows.uptoBulkAll Rows.syntaxPartsSpec Rows.syntaxPartsUptoRow Rows.uptoSmall Rows.OpenSpec.upto)
set_option maxRecDepth 100000
set_option linter.unusedVariables false
section
variable {H : Type} {enc : TypeId × Value → H} {W W' : World}
theorem trodAll_carry {sp : Nat → Bool} : ∀ {ts : List TypeId} {vs : List Value} {ds : List (DataW H)} {ps : List MemPlace}, DataW.TrodAll enc Tryz.prog W 0 sp true ts vs ds ps → (∀ p ∈ ps, W.sameAt W' p) → DataW.TrodAll enc Tryz.prog W' 0 sp true ts vs ds ps
  | [], [], [], _, h, _ => h
  | _ :: _, _ :: _, _ :: _, _, ⟨p, q, ⟨n, h1⟩, h2, e⟩, hs => ⟨p, q, ⟨n, DataW.trod_carry n _ _ _ h1 fun x hx => hs x (by rw [e]; exact List.mem_append_left _ hx)⟩, trodAll_carry h2 fun x hx => hs x (by rw [e]; exact List.mem_append_right _ hx), e⟩
theorem same_below (hb : Below W.heap.size W W') (p : MemPlace) (hp : p.block < W.heap.size) : W.sameAt W' p := by
  cases p with
  | cell b off =>
    show W'.cell? ⟨b, off, none⟩ = W.cell? ⟨b, off, none⟩
    unfold World.cell?
    rw [hb.block b hp]
  | map b => exact hb.block b hp
theorem kept_below (hb : Below W.heap.size W W') (may : MemPlace → Prop) : W.keptBut W' may := by
  refine ⟨hb.os, hb.output, fun i hi => ?_⟩
  rw [hb.block i hi]
  exact (World.keptBut_refl W may).2.2 i hi
theorem kidsT : Kids Tryz.prog (· < Tryz.prog.types.size) := kids_rows (by kernel_rfl) (by kernel_rfl)
theorem arg_of {base : Nat} {v : Value} {d : DataW H} {p : List MemPlace} (hok : Value.okWide Tryz.prog W .any base 24 v) (h : DataW.Trod enc Tryz.prog W 0 (fun _ => true) true 24 v d p) :
    ∃ y : Nd, rel (memOf W) [] y.enc v ∧ y.num + y.tl ≤ Rows.uptoBulk d := by
  unfold Value.okWide at hok
  rw [Tryz.underlying24] at hok
  obtain ⟨cs, rfl, _, _⟩ := hok
  obtain ⟨n, hn⟩ := h
  obtain ⟨y, hy, hb⟩ := nd_of_trod n _ _ hn
  refine ⟨y, ?_, hb⟩
  rw [Nd.enc_eq]
  simp only [rel]
  exact ⟨cs.toList, by simp, hy⟩
theorem ints_of {base : Nat} {v : Value} {d : DataW H} {p : List MemPlace} (hok : Value.okWide Tryz.prog W .any base 25 v) (h : DataW.Trod enc Tryz.prog W 0 (fun _ => true) true 25 v d p) :
    ∃ y : List Int, rel (memOf W) [] (.isl 1 (encI y)) v ∧ y.length ≤ Rows.uptoBulk d := by
  obtain ⟨n, hn⟩ := h
  unfold Value.okWide at hok
  rw [Tryz.underlying25] at hok
  unfold Cell.okWide at hok
  simp only [Tryz.underlying25] at hok
  cases v <;> first
    | exact ints_of_trod n _ _ hn
    | exact absurd hok (by simp)
    | exact absurd hok (by unfold Cell.ok; rw [Tryz.underlying25]; simp)
end
theorem contract {H : Type} (enc : TypeId × Value → H) (F : Stop.Interp) (W : World) (base : Nat) (args : Array Value) (ds gs : List (DataW H)) (before : List MemPlace)
    (hval : ∀ (j : Nat) t v, Tryz.f3.params[j]? = some t → args[j]? = some v → Value.okWide Tryz.prog W .any base t v)
    (hW : DataW.Whole enc Tryz.prog Tryz.f3.params.toList Rows.syntaxPartsSpec.vars false W args.toList ds gs before)
    (hsm : Rows.uptoBulkAll (ds ++ gs) ≤ 1048576) (hL : laidMetH Tryz.prog Rows.syntaxPartsUptoRow.laid W) :
    Calls Tryz.prog 3 args W fun e W' => ∃ v, e = .returned v ∧ ((Rows.OpenSpec.upto Rows.syntaxPartsSpec).at F).post enc Tryz.prog Tryz.f3 false true false false W args v W' := by
  have hW' := hW
  obtain ⟨p, q, hA0, hV, rfl, hfz, hnd⟩ := hW
  have hA : DataW.TrodAll enc Tryz.prog W 0 (fun _ => true) true Tryz.f3.params.toList args.toList ds p := hA0
  have hAk := hA
  rw [Tryz.params3] at hA hval
  obtain ⟨v0, vs0, d0, ds0, p0, q0, hargs, rfl, rfl, h0, r0⟩ := trodAll_cons hA
  obtain ⟨v1, vs1, d1, ds1, p1, q1, hargs1, rfl, rfl, h1, r1⟩ := trodAll_cons r0
  obtain ⟨v2, vs2, d2, ds2, p2, q2, hargs2, rfl, rfl, h2, r2⟩ := trodAll_cons r1
  obtain ⟨rfl, rfl, rfl⟩ := trodAll_nil r2
  obtain rfl : args = #[v0, v1, v2] := by cases args; simp_all
  obtain ⟨rfl, rfl⟩ := trodVars_none hV
  obtain ⟨x0, e0, n0'⟩ := arg_of (hval 0 24 v0 rfl rfl) h0
  obtain ⟨x1, e1, n1'⟩ := arg_of (hval 1 24 v1 rfl rfl) h1
  obtain ⟨x2, e2, n2'⟩ := ints_of (hval 2 25 v2 rfl rfl) h2
  simp only [List.append_nil, Rows.uptoBulkAll] at hsm
  have hN : NT = 1090000 := rfl
  have hb := law_parts x0 x1 x2 (by omega)
  obtain ⟨_, hcall⟩ := con_of_body TT_ok TT_plain hb (by simp [nlL, nl, Nd.enc_nl, encI_nl]) rfl
  have := hcall [] (memOf W) [] W [v0, v1, v2] (sr_of_laid hL) (relL_cons e0 (relL_cons e1 (relL_cons e2 (by simp only [relL]))))
  refine Calls.mono this ?_
  rintro e W' ⟨x, M', ρ', rfl, he, hx, _⟩
  simp only [rel] at hx
  subst hx
  have hB : Below W.heap.size W W' := ⟨he.os, he.tape, he.output, he.size, fun k hk => he.frame k hk (fun c hc => by simp at hc)⟩
  have hlt := hAk.lt
  have hresp := DataW.TrodAll.respare (spare' := fun b => decide (b < W.heap.size)) kidsT (slices_full_of Tryz.prog (by kernel_rfl)) (fun t ht => by
    rw [Tryz.params3] at ht
    have : t = 24 ∨ t = 24 ∨ t = 25 := by simpa using ht
    rcases this with rfl | rfl | rfl <;> exact of_decide_eq_true (by kernel_rfl)) hAk (fun p hp => by simpa using hlt p hp)
  refine ⟨_, rfl, ?_⟩
  refine ⟨_, _, _, [], _, [], hW', ?_, trodAll_carry hresp (fun p hp => same_below hB p (hlt p hp)), rfl, kept_below hB _, fun h => by cases h⟩
  exact trodAll_mk1 (shut_bool Tryz.underlying4 true)
end Go.Ev
