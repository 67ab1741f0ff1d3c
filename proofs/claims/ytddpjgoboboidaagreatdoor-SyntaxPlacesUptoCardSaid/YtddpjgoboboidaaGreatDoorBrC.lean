/- What reads as a row of bytes is one; the contract of the row, where what is read is of bulk at most 1048576. -/
import Derived.Test.YtddpjgoboboidaaGreatDoorBrA
import Derived.Test.YtddpjgoboboidaaGreatDoorLawPlS
import Derived.ChangeArms
import Derived.ChangeShapes
import Derived.WideShapes
import Derived.RowKit3
import Derived.OpenShut
namespace Go.Ev
open Go Go.Proofs
open Go.Proofs.YtddpjgoboboidaaGreatDoor (Rows.uptoBulk Rows.uptoBulkAll)
set_option maxRecDepth 100000
set_option linter.unusedVariables false
mutual
theorem Nd.tok_of_tl : ∀ x : Nd, x.tl < NT → x.tok
  | .mk _ s l, h => by
    simp only [Nd.tl] at h
    exact ⟨by omega, Nd.tokL_of_tl l (by omega)⟩
theorem Nd.tokL_of_tl : ∀ l : List Nd, Nd.tlL l < NT → Nd.tokL l
  | [], _ => trivial
  | x :: l, h => by
    simp only [Nd.tlL] at h
    exact ⟨Nd.tok_of_tl x (by omega), Nd.tokL_of_tl l (by omega)⟩
end
theorem wf_u8 {c : Int} (h : (Lit.int .u8 c).wf = true) : 0 ≤ c ∧ c < 256 := by
  simp only [Lit.wf, Bool.and_eq_true, decide_eq_true_eq] at h
  have e1 : IntKind.u8.min = 0 := by kernel_rfl
  have e2 : IntKind.u8.max = 255 := by kernel_rfl
  omega
section
variable {H : Type} {enc : TypeId × Value → H} {W : World} {sp : Nat → Bool}
/-- What reads as a row of numbers is one. -/
theorem bytes_of_trod (fuel : Nat) (v : Value) (x : DataW H × List MemPlace) (h : DataW.trod enc Tryz.prog W 0 sp true fuel 34 [v] = some x) :
    ∃ p : List Int, rel (memOf W) [] (.isl 1 (enc8 p)) v ∧ (∀ c ∈ p, 0 ≤ c ∧ c < 256) ∧ p.length ≤ Rows.uptoBulk x.1 := by
  have c3 : Tryz.prog.cellsOf 5 = 1 := by kernel_rfl
  rcases DataW.trod_slice Tryz.underlying34 h with ⟨e2, hy2⟩ | ⟨a, len, cap, elems, rest, m, hm, e2, hy2, hb0, hlc, hcap, hel, hat, _, _⟩
  · cases e2
    subst hy2
    refine ⟨[], ?_, by simp, Nat.zero_le _⟩
    simp only [rel, enc8, List.map_nil]
    exact ⟨none, 0, rfl, Nat.le_refl _, fun h => absurd rfl h⟩
  · cases e2
    subst hy2
    rw [c3] at hat
    have kids : ∀ (es : List (DataW H × List MemPlace)) (b o i0 : Nat), (∀ j, j < es.length → (W.cells? 0 (Addr.add ⟨b, o, none⟩ ((i0 + j) * 1)) 1).bind (DataW.trod enc Tryz.prog W 0 sp true m 5) = es[j]?) →
        ∃ ys : List Int, ys.length = es.length ∧ relRow (memOf W) [] 1 (enc8 ys) b (o + i0) ∧ (∀ c ∈ ys, 0 ≤ c ∧ c < 256) ∧ ys.length ≤ Rows.uptoBulkAll (es.map (·.1)) := by
      intro es
      induction es with
      | nil => intro b o i0 _; exact ⟨[], rfl, by simp only [enc8, List.map_nil, relRow], by simp, by simp⟩
      | cons e es ihs =>
        intro b o i0 hh
        have h0 := hh 0 (by simp)
        simp only [List.getElem?_cons_zero, Option.bind_eq_some_iff] at h0
        obtain ⟨c, hc, ht⟩ := h0
        obtain ⟨ys, hyl, hyr, hyc, hyb⟩ := ihs b o (i0 + 1) (fun j hj => by
          have := hh (j + 1) (by simp; omega)
          rw [show i0 + (j + 1) = i0 + 1 + j from by omega] at this
          simpa using this)
        obtain ⟨w0, rfl, g0⟩ := cells1 hc
        obtain ⟨k, e0, hy0, hwf⟩ := DataW.trod_int Tryz.underlying5 ht
        simp only [List.cons.injEq, and_true] at e0
        subst e0
        simp only [Nat.add_zero, Nat.mul_one, addr_add] at g0
        refine ⟨k :: ys, by simp [hyl], ?_, fun c hc => ?_, ?_⟩
        · simp only [enc8, List.map_cons, relRow]
          refine ⟨⟨.int .u8 k, by simp only [rel], rfl, fun j q hj => ?_⟩, by simpa [enc8, Nat.add_assoc] using hyr⟩
          match j, hj with
          | 0, hj => simp [Value.cells] at hj; subst hj; exact cell_memOf (by simpa using g0)
          | j + 1, hj => simp [Value.cells] at hj
        · rcases List.mem_cons.1 hc with rfl | hc
          · exact wf_u8 hwf
          · exact hyc c hc
        · simp only [List.length_cons, List.map_cons, Rows.uptoBulkAll]
          have : 1 ≤ Rows.uptoBulk e.1 := by rw [hy0]; simp [Rows.uptoBulk]
          omega
    by_cases h0 : elems.length = 0
    · have : elems = [] := List.eq_nil_of_length_eq_zero h0
      subst this
      refine ⟨[], ?_, by simp, Nat.zero_le _⟩
      simp only [rel, enc8, List.map_nil]
      simp only [List.length_nil] at hel
      subst hel
      exact ⟨some a, cap, rfl, Nat.zero_le _, fun h => absurd rfl h⟩
    · have hsp : a.spot = none := by
        have := hat 0 (by omega)
        obtain ⟨e, he⟩ : ∃ e, elems[0]? = some e := ⟨elems[0], List.getElem?_eq_getElem (by omega)⟩
        rw [he] at this
        simp only [Option.bind_eq_some_iff] at this
        obtain ⟨c, hc, _⟩ := this
        obtain ⟨w0, _, g0⟩ := cells1 hc
        have := spot_none g0
        simpa [Addr.add] using this
      obtain ⟨b, o, s⟩ := a
      simp only at hsp
      subst hsp
      obtain ⟨ys, hyl, hyr, hyc, hyb⟩ := kids elems b o 0 (fun j hj => by rw [Nat.zero_add]; exact hat j (by omega))
      refine ⟨ys, ?_, hyc, ?_⟩
      · simp only [rel]
        rw [enc8_length, hyl, hel]
        refine ⟨some ⟨b, o, none⟩, cap, rfl, hlc, fun _ => ⟨b, o, rfl, ?_⟩⟩
        simpa using hyr
      · simp only [Rows.uptoBulk]
        omega
end
end Go.Ev

namespace Go.Ev
open Go Go.Proofs
open Go.ChangeShapes Go.WideShapes Go.RowKit
open Go.Proofs.YtddpjgoboboidaaGreatDoor (Rows.uptoBulk Rows.uptoBulkAll Rows.syntaxPlacesSpec Rows.syntaxPlacesUptoRow Rows.uptoSmall Rows.OpenSpec.upto)
set_option maxRecDepth 100000
set_option linter.unusedVariables false
section
variable {H : Type} {enc : TypeId × Value → H} {W W' : World}
theorem trodAll_carry {sp : Nat → Bool} : ∀ {ts : List TypeId} {vs : List Value} {ds : List (DataW H)} {ps : List MemPlace}, DataW.TrodAll enc Tryz.prog W 0 sp true ts vs ds ps → (∀ p ∈ ps, W.sameAt W' p) → DataW.TrodAll enc Tryz.prog W' 0 sp true ts vs ds ps
  | [], [], [], _, h, _ => h
  | _ :: _, _ :: _, _ :: _, _, ⟨p, q, ⟨n, h1⟩, h2, e⟩, hs => ⟨p, q, ⟨n, DataW.trod_carry n _ _ _ h1 fun x hx => hs x (by rw [e]; exact List.mem_append_left _ hx)⟩, trodAll_carry h2 fun x hx => hs x (by rw [e]; exact List.mem_append_right _ hx), e⟩
theorem same_below (hb : Below W.heap.size W W') (p : MemPlace) (hp : p.block < W.heap.size) : W.sameAt W' p := by
  cases p with
  | cell b off =>
    show W'.cell? ⟨b, off, none⟩ = W.cell? ⟨b, off, none⟩
    unfold World.cell?
    rw [hb.block b hp]
  | map b => exact hb.block b hp
theorem kept_below (hb : Below W.heap.size W W') (may : MemPlace → Prop) : W.keptBut W' may := by
  refine ⟨hb.os, hb.output, fun i hi => ?_⟩
  rw [hb.block i hi]
  exact (World.keptBut_refl W may).2.2 i hi
theorem kidsT : Kids Tryz.prog (· < Tryz.prog.types.size) := kids_rows (by kernel_rfl) (by kernel_rfl)
theorem arg_of {base : Nat} {v : Value} {d : DataW H} {p : List MemPlace} (hok : Value.okWide Tryz.prog W .any base 24 v) (h : DataW.Trod enc Tryz.prog W 0 (fun _ => true) true 24 v d p) :
    ∃ y : Nd, rel (memOf W) [] y.enc v ∧ y.num + y.tl ≤ Rows.uptoBulk d := by
  unfold Value.okWide at hok
  rw [Tryz.underlying24] at hok
  obtain ⟨cs, rfl, _, _⟩ := hok
  obtain ⟨n, hn⟩ := h
  obtain ⟨y, hy, hb⟩ := nd_of_trod n _ _ hn
  refine ⟨y, ?_, hb⟩
  rw [Nd.enc_eq]
  simp only [rel]
  exact ⟨cs.toList, by simp, hy⟩
theorem bytes_of {base : Nat} {v : Value} {d : DataW H} {p : List MemPlace} (hok : Value.okWide Tryz.prog W .any base 34 v) (h : DataW.Trod enc Tryz.prog W 0 (fun _ => true) true 34 v d p) :
    ∃ y : List Int, rel (memOf W) [] (.isl 1 (enc8 y)) v ∧ (∀ c ∈ y, 0 ≤ c ∧ c < 256) ∧ y.length ≤ Rows.uptoBulk d := by
  obtain ⟨n, hn⟩ := h
  unfold Value.okWide at hok
  rw [Tryz.underlying34] at hok
  unfold Cell.okWide at hok
  simp only [Tryz.underlying34] at hok
  cases v <;> first
    | exact bytes_of_trod n _ _ hn
    | exact absurd hok (by simp)
    | exact absurd hok (by unfold Cell.ok; rw [Tryz.underlying34]; simp)
end
theorem contract {H : Type} (enc : TypeId × Value → H) (F : Stop.Interp) (W : World) (base : Nat) (args : Array Value) (ds gs : List (DataW H)) (before : List MemPlace)
    (hval : ∀ (j : Nat) t v, Tryz.f4.params[j]? = some t → args[j]? = some v → Value.okWide Tryz.prog W .any base t v)
    (hW : DataW.Whole enc Tryz.prog Tryz.f4.params.toList Rows.syntaxPlacesSpec.vars false W args.toList ds gs before)
    (hsm : Rows.uptoBulkAll (ds ++ gs) ≤ 1048576) (hL : laidMetH Tryz.prog Rows.syntaxPlacesUptoRow.laid W) :
    Calls Tryz.prog 4 args W fun e W' => ∃ v, e = .returned v ∧ ((Rows.OpenSpec.upto Rows.syntaxPlacesSpec).at F).post enc Tryz.prog Tryz.f4 false true false false W args v W' := by
  have hW' := hW
  obtain ⟨p, q, hA0, hV, rfl, hfz, hnd⟩ := hW
  have hA : DataW.TrodAll enc Tryz.prog W 0 (fun _ => true) true Tryz.f4.params.toList args.toList ds p := hA0
  have hAk := hA
  rw [Tryz.params4] at hA hval
  obtain ⟨v0, vs0, d0, ds0, p0, q0, hargs, rfl, rfl, h0, r0⟩ := trodAll_cons hA
  obtain ⟨v1, vs1, d1, ds1, p1, q1, hargs1, rfl, rfl, h1, r1⟩ := trodAll_cons r0
  obtain ⟨v2, vs2, d2, ds2, p2, q2, hargs2, rfl, rfl, h2, r2⟩ := trodAll_cons r1
  obtain ⟨rfl, rfl, rfl⟩ := trodAll_nil r2
  obtain rfl : args = #[v0, v1, v2] := by cases args; simp_all
  obtain ⟨rfl, rfl⟩ := trodVars_none hV
  obtain ⟨x0, e0, n0'⟩ := arg_of (hval 0 24 v0 rfl rfl) h0
  obtain ⟨x1, e1, n1'⟩ := arg_of (hval 1 24 v1 rfl rfl) h1
  obtain ⟨x2, e2, h256, n2'⟩ := bytes_of (hval 2 34 v2 rfl rfl) h2
  simp only [List.append_nil, Rows.uptoBulkAll] at hsm
  have hN : NT = 1090000 := rfl
  have hb := law_places x0 x1 x2 (by omega) (Nd.tok_of_tl x0 (by omega)) h256
  obtain ⟨_, hcall⟩ := con_of_body TT_ok TT_plain hb (by simp [nlL, nl, Nd.enc_nl, enc8_nl]) rfl
  have := hcall [] (memOf W) [] W [v0, v1, v2] (sr_of_laid hL) (relL_cons e0 (relL_cons e1 (relL_cons e2 (by simp only [relL]))))
  refine Calls.mono this ?_
  rintro e W' ⟨x, M', ρ', rfl, he, hx, _⟩
  simp only [rel] at hx
  subst hx
  have hB : Below W.heap.size W W' := ⟨he.os, he.tape, he.output, he.size, fun k hk => he.frame k hk (fun c hc => by simp at hc)⟩
  have hlt := hAk.lt
  have hresp := DataW.TrodAll.respare (spare' := fun b => decide (b < W.heap.size)) kidsT (slices_full_of Tryz.prog (by kernel_rfl)) (fun t ht => by
    rw [Tryz.params4] at ht
    have : t = 24 ∨ t = 24 ∨ t = 34 := by simpa using ht
    rcases this with rfl | rfl | rfl <;> exact of_decide_eq_true (by kernel_rfl)) hAk (fun p hp => by simpa using hlt p hp)
  refine ⟨_, rfl, ?_⟩
  refine ⟨_, _, _, [], _, [], hW', ?_, trodAll_carry hresp (fun p hp => same_below hB p (hlt p hp)), rfl, kept_below hB _, fun h => by cases h⟩
  exact trodAll_mk1 (shut_bool Tryz.underlying4 true)
end Go.Ev
