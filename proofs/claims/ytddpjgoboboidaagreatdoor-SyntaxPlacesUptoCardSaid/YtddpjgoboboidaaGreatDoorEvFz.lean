/- A value with places may be read as a value without places, where nothing is written any more. -/
import Derived.Test.YtddpjgoboboidaaGreatDoorEvFact
namespace Go.Ev
open Go
/-- Rows of a slice: elements of so many cells. -/
def rowsOf (sz : Nat) : Nat → List V → Option (List V)
  | 0, _ => some []
  | k + 1, l => if l.length < sz ∨ sz = 0 then none else
    match rowsOf sz k (l.drop sz) with
    | some r => some ((match sz, l with
      | 1, v :: _ => if V.isAgg v then .agg [v] else v
      | _, _ => .agg (l.take sz)) :: r)
    | none => none
mutual
/-- A value whose blocks are frozen. -/
def fz (H : Heap) : Nat → V → Option V
  | 0, _ => none
  | n + 1, v => match v with
    | .ptr b off => match cellsAt H b with
      | some blk => match fzL H n blk.cells with
        | some l => some (.ipt l.length [.agg l] 0 off)
        | none => none
      | none => none
    | .sl b sz off len _ => match cellsAt H b with
      | some blk => match cut blk.cells (off * sz) (len * sz) with
        | some c => match fzL H n c with
          | some l => (rowsOf sz len l).map (.isl sz ·)
          | none => none
        | none => none
      | none => none
    | .mp _ => none
    | .agg l => (fzL H n l).map .agg
    | .tup l => (fzL H n l).map .tup
    | .fn g l => (fzL H n l).map (.fn g ·)
    | .ifc t v => (fz H n v).map (.ifc t ·)
    | .isl .. => if nl v then some v else none
    | .ipt .. => if nl v then some v else none
    | v => some v
def fzL (H : Heap) : Nat → List V → Option (List V)
  | _, [] => some []
  | 0, _ => none
  | n + 1, v :: l => match fz H n v, fzL H n l with
    | some x, some r => some (x :: r)
    | _, _ => none
end
end Go.Ev
namespace Go.Ev
open Go
section
variable {T : Tab} {M : Mem} {ρ : Ren} {H : Heap} {w : World}
open Classical in
/-- Memory in which the blocks of a heap are frozen, too. -/
noncomputable def frz (M : Mem) (ρ : Ren) (H : Heap) (w : World) : Mem := fun b => match M b with
  | some o => some o
  | none => if ∃ (n : Nat) (blk : Blk) (c : Nat), H[n]? = some (some blk) ∧ ρ[n]? = some (b, c) then w.heap[b]? else none
theorem le_frozen : M.le (frz M ρ H w) := fun b o h => by simp [frz, h]
theorem frozen_at {n : Nat} {blk : Blk} {b c : Nat} (hM : M b = none) (h : H[n]? = some (some blk)) (hr : ρ[n]? = some (b, c)) : frz M ρ H w b = w.heap[b]? := by
  simp only [frz, hM]
  rw [if_pos ⟨n, blk, c, h, hr⟩]
theorem rowsOf_length : ∀ {sz k : Nat} {l r : List V}, rowsOf sz k l = some r → r.length = k
  | sz, 0, l, r, h => by simp [rowsOf] at h; subst h; rfl
  | sz, k + 1, l, r, h => by
    simp only [rowsOf] at h
    split at h
    · cases h
    · split at h
      · rename_i r' hr
        cases h
        simp [rowsOf_length hr]
      · cases h
theorem rowsOf_rel : ∀ {sz k : Nat} {l r : List V} {ds : List Value} {b o : Nat}, rowsOf sz k l = some r → relL M ρ l ds → (∀ j c, ds[j]? = some c → M.cell b (o + j) = some c) → relRow M ρ sz r b o
  | sz, 0, l, r, ds, b, o, h, _, _ => by simp [rowsOf] at h; subst h; simp [relRow]
  | sz, k + 1, l, r, ds, b, o, h, hl, hm => by
    simp only [rowsOf] at h
    split at h
    · cases h
    rename_i hsz
    split at h
    case h_2 => cases h
    rename_i r' hr
    cases h
    simp only [relRow]
    refine ⟨?_, rowsOf_rel hr (relL_drop sz hl) fun j c hj => ?_⟩
    · have hlen := relL_length hl
      have big : ∃ x : Value, rel M ρ (.agg (l.take sz)) x ∧ x.cells.size = sz ∧ ∀ j c, x.cells[j]? = some c → M.cell b (o + j) = some c := by
        refine ⟨.agg (ds.take sz).toArray, by simp only [rel]; exact ⟨_, rfl, relL_take sz hl⟩, by simp [Value.cells]; omega, fun j c hj => hm j c ?_⟩
        simp only [Value.cells, List.getElem?_toArray, List.getElem?_take] at hj
        split at hj
        · exact hj
        · cases hj
      split
      · rename_i v l'
        simp only [relL] at hl
        obtain ⟨x, r2, rfl, hx, _⟩ := hl
        split
        · simpa using big
        · rename_i hna
          refine ⟨x, hx, ?_, fun j c hj => ?_⟩
          · have := relL_length (rel_cells hx)
            cases v <;> simp_all [V.cells, V.isAgg]
          · have h1 := rel_cells hx
            have hc : x.cells.toList = [x] := by
              cases v <;> simp only [rel] at hx <;> first
                | (simp [V.isAgg] at hna; done)
                | (subst hx; rfl)
                | (obtain ⟨_, rfl, _⟩ := hx; rfl)
                | (obtain ⟨_, _, _, rfl⟩ := hx; rfl)
                | (obtain ⟨_, _, _, _, rfl, _⟩ := hx; rfl)
                | (obtain ⟨_, _, rfl⟩ := hx; rfl)
                | (obtain ⟨_, _, rfl, _⟩ := hx; rfl)
            have : x.cells = #[x] := by apply Array.ext'; simpa using hc
            rw [this] at hj
            cases j with
            | zero => simp at hj; subst hj; exact hm 0 _ rfl
            | succ j => simp at hj
      · exact big
    · rw [List.getElem?_drop] at hj
      have := hm (sz + j) c hj
      rwa [← Nat.add_assoc] at this
end
end Go.Ev
namespace Go.Ev
open Go
section
variable {T : Tab} {M : Mem} {ρ : Ren} {H : Heap} {w : World}
theorem rowsOf_nl : ∀ {sz k : Nat} {l r : List V}, rowsOf sz k l = some r → nlL l = true → nlL r = true
  | sz, 0, l, r, h, _ => by simp [rowsOf] at h; subst h; rfl
  | sz, k + 1, l, r, h, hn => by
    have hd : ∀ (n : Nat) (l : List V), nlL l = true → nlL (l.drop n) = true := by
      intro n
      induction n with
      | zero => intro l h; simpa using h
      | succ n ih => intro l h; cases l with
        | nil => simpa using h
        | cons v l => simp only [nlL, Bool.and_eq_true] at h; simpa using ih l h.2
    have ht : ∀ (l : List V) (n : Nat), nlL l = true → nlL (l.take n) = true := by
      intro l
      induction l with
      | nil => intro n h; simpa using h
      | cons v l ih => intro n h; cases n with
        | zero => rfl
        | succ n => simp only [nlL, Bool.and_eq_true] at h; simp [nlL, h.1, ih n h.2]
    simp only [rowsOf] at h
    split at h
    · cases h
    split at h
    case h_2 => cases h
    rename_i r' hr
    cases h
    simp only [nlL, Bool.and_eq_true]
    refine ⟨?_, rowsOf_nl hr (hd sz l hn)⟩
    split
    · rename_i v l'
      simp only [nlL, Bool.and_eq_true] at hn
      split
      · simp [nl, nlL, hn.1]
      · exact hn.1
    · simpa [nl] using ht l sz hn
mutual
theorem fz_rel (hS : SR T M ρ H w) : ∀ (n : Nat) (v v' : V) (x : Value), fz H n v = some v' → rel M ρ v x → rel (frz M ρ H w) ρ v' x ∧ nl v' = true
  | 0, _, _, _, h, _ => by simp [fz] at h
  | n + 1, v, v', x, h, hr => by
    have keep : nl v = true → some v = some v' → rel (frz M ρ H w) ρ v' x ∧ nl v' = true := fun hn e => by
      cases e
      exact ⟨rel_mono le_frozen (List.prefix_refl _) _ _ hr, hn⟩
    simp only [fz] at h
    split at h
    · rename_i b off
      split at h
      case h_2 => cases h
      rename_i blk hb
      split at h
      case h_2 => cases h
      rename_i l hl
      cases h
      simp only [rel] at hr
      obtain ⟨b', c, h1, rfl⟩ := hr
      obtain ⟨b2, c2, cs, cs', h2, hM, hlen, hheap, hrel, _⟩ := hS.cells hb
      rw [h1] at h2
      cases h2
      obtain ⟨h3, h4⟩ := fzL_rel hS n _ _ _ hl hrel
      refine ⟨?_, by simp [nl, nlL, h4]⟩
      simp only [rel]
      refine ⟨b', 0, by simp, ?_⟩
      simp only [relRow, and_true]
      refine ⟨.agg cs.toArray, by simp only [rel]; exact ⟨cs, rfl, h3⟩, by simp [Value.cells, relL_length h3], fun j q hj => ?_⟩
      simp only [Mem.cell, frozen_at hM (cellsAt_some hb).1 h1, hheap]
      simp only [Value.cells, List.getElem?_toArray] at hj
      rw [List.getElem?_toArray, Nat.zero_add, List.getElem?_append_left (List.getElem?_eq_some_iff.1 hj).1]
      exact hj
    · rename_i b sz off len cap
      split at h
      case h_2 => cases h
      rename_i blk hb
      split at h
      case h_2 => cases h
      rename_i c hc
      split at h
      case h_2 => cases h
      rename_i l hl
      cases hro : rowsOf sz len l with
      | none => rw [hro] at h; cases h
      | some r =>
        rw [hro] at h
        cases h
        simp only [rel] at hr
        obtain ⟨b', c', k, h1, rfl, hk, _, _⟩ := hr
        obtain ⟨b2, c2, cs, cs', h2, hM, hlen, hheap, hrel, _⟩ := hS.cells hb
        rw [h1] at h2
        cases h2
        obtain ⟨rfl, hfit⟩ := cut_some hc
        have hcut := relL_take (len * sz) (relL_drop (off * sz) hrel)
        obtain ⟨h3, h4⟩ := fzL_rel hS n _ _ _ hl hcut
        refine ⟨?_, by simpa [nl] using rowsOf_nl hro h4⟩
        simp only [rel]
        have hrl := rowsOf_length hro
        refine ⟨_, k, by rw [hrl], by omega, fun _ => ⟨b', off * sz, rfl, rowsOf_rel hro h3 fun j q hj => ?_⟩⟩
        simp only [Mem.cell, frozen_at hM (cellsAt_some hb).1 h1, hheap]
        rw [List.getElem?_take] at hj
        split at hj
        · rw [List.getElem?_drop] at hj
          rw [List.getElem?_toArray, List.getElem?_append_left (List.getElem?_eq_some_iff.1 hj).1]
          exact hj
        · cases hj
    · cases h
    · rename_i l
      cases hl : fzL H n l with
      | none => rw [hl] at h; cases h
      | some l' =>
        rw [hl] at h
        cases h
        simp only [rel] at hr ⊢
        obtain ⟨cs, e, k⟩ := hr
        obtain ⟨h3, h4⟩ := fzL_rel hS n _ _ _ hl k
        exact ⟨⟨cs, e, h3⟩, by simpa [nl] using h4⟩
    · rename_i l
      cases hl : fzL H n l with
      | none => rw [hl] at h; cases h
      | some l' =>
        rw [hl] at h
        cases h
        simp only [rel] at hr ⊢
        obtain ⟨cs, e, k⟩ := hr
        obtain ⟨h3, h4⟩ := fzL_rel hS n _ _ _ hl k
        exact ⟨⟨cs, e, h3⟩, by simpa [nl] using h4⟩
    · rename_i g l
      cases hl : fzL H n l with
      | none => rw [hl] at h; cases h
      | some l' =>
        rw [hl] at h
        cases h
        simp only [rel] at hr ⊢
        obtain ⟨cs, e, k⟩ := hr
        obtain ⟨h3, h4⟩ := fzL_rel hS n _ _ _ hl k
        exact ⟨⟨cs, e, h3⟩, by simpa [nl] using h4⟩
    · rename_i t u
      cases hl : fz H n u with
      | none => rw [hl] at h; cases h
      | some u' =>
        rw [hl] at h
        cases h
        simp only [rel] at hr ⊢
        obtain ⟨y, e, k⟩ := hr
        obtain ⟨h3, h4⟩ := fz_rel hS n _ _ _ hl k
        exact ⟨⟨y, e, h3⟩, by simpa [nl] using h4⟩
    · split at h
      · rename_i hn; exact keep hn h
      · cases h
    · split at h
      · rename_i hn; exact keep hn h
      · cases h
    · rename_i h1 h2 h3 h4 h5 h6 h7 h8 h9
      refine keep ?_ h
      cases v <;> first
        | rfl
        | (exfalso; first | exact h1 _ _ rfl | exact h2 _ _ _ _ _ rfl | exact h3 _ rfl | exact h4 _ rfl | exact h5 _ rfl | exact h6 _ _ rfl | exact h7 _ _ rfl | exact h8 _ _ rfl | exact h9 _ _ _ _ rfl)
theorem fzL_rel (hS : SR T M ρ H w) : ∀ (n : Nat) (l l' : List V) (cs : List Value), fzL H n l = some l' → relL M ρ l cs → relL (frz M ρ H w) ρ l' cs ∧ nlL l' = true
  | n, [], l', cs, h, hr => by
    have : l' = [] := by cases n <;> simp [fzL] at h <;> exact h
    subst this
    exact ⟨by simpa [relL] using hr, rfl⟩
  | 0, _ :: _, _, _, h, _ => by simp [fzL] at h
  | n + 1, v :: l, l', cs, h, hr => by
    simp only [fzL] at h
    split at h
    · rename_i u r hu hrr
      cases h
      simp only [relL] at hr
      obtain ⟨x, q, rfl, hx, hq⟩ := hr
      obtain ⟨h1, h2⟩ := fz_rel hS n _ _ _ hu hx
      obtain ⟨h3, h4⟩ := fzL_rel hS n _ _ _ hrr hq
      exact ⟨relL_cons h1 h3, by simp [nlL, h2, h4]⟩
    · cases h
end
/-- The world, with all its named blocks frozen. -/
theorem SR.freeze (hp : T.Plain) (hS : SR T M ρ H w) : SR T (frz M ρ H w) [] [] w where
  frozen b o hb := by
    cases hM : M b with
    | some q => simp [frz, hM] at hb; subst hb; exact hS.frozen b _ hM
    | none =>
      simp only [frz, hM] at hb
      split at hb
      · exact hb
      · cases hb
  len := rfl
  blk n b hn := by simp at hn
  inj n m x y b c c' hn := by simp at hn
  glob g l hl := by
    obtain ⟨cs, ty, fr, hM, hr⟩ := hS.glob g l hl
    exact ⟨cs, ty, fr, le_frozen _ _ hM, nlL_rel l cs (hp g l hl) (relL_mono le_frozen (List.prefix_refl _) _ _ hr)⟩
end
end Go.Ev
namespace Go.Ev
open Go
section
variable {P : Program} {T : Tab} {M : Mem} {ρ : Ren} {H : Heap} {w : World}
/-- A result whose blocks are frozen. -/
theorem CallOK.frame_fz {f : FuncId} {args : Array Value} {v v' : V} {J : Heap} {k : Nat} (hp : T.Plain) (hS : SR T M ρ H w) (h : CallOK P T f args M [] w (.val v J)) (hf : fz J k v = some v') : CallOK P T f args M ρ w (.val v' H) := by
  refine Calls.mono h ?_
  rintro e w' ⟨x, M', σ, rfl, he, hx, hk⟩
  obtain ⟨h1, h2⟩ := fz_rel hk k v v' x hf hx
  have hk2 := hk.freeze hp
  have he2 : Ext M [] w (frz M' σ J w') [] w' := {
    os := he.os, tape := he.tape, output := he.output, size := he.size
    mem := he.mem.trans le_frozen
    pre := List.prefix_refl _
    frame := he.frame
    newM := fun b hb hn => by
      have h3 := he.newM b hb hn
      simp only [frz]
      cases hM : M' b with
      | some o => rw [← h3, hM]
      | none =>
        rw [← h3, hM]
        simp only
        rw [if_neg]
        rintro ⟨n, blk, c, _, hr⟩
        rcases he.newR b c (List.mem_of_getElem? hr) with ⟨c', h'⟩ | h'
        · simp at h'
        · omega
    newR := fun b c hc => by simp at hc }
  exact ⟨x, _, ρ, rfl, he2.recall, nl_rel v' x h2 h1, hS.recall hk2 he2⟩
theorem con_of_ev_fz (hT : TOk P T) (hp : T.Plain) {C : Con} (hC : C.Sound P T) {f : FuncId} {vs : List V} {v v' : V} {J : Heap} {n k : Nat} (h : evFun T (gamOf C) n f vs [] = .val v J) (hf : fz J k v = some v') (h1 : nlL vs = true) :
    Go.Proofs.Enters P f ∧ ∀ (H : Heap) (M : Mem) (ρ : Ren) (w : World) (args : List Value), SR T M ρ H w → relL M ρ vs args → CallOK P T f args.toArray M ρ w (.val v' H) := by
  obtain ⟨he, hok⟩ := evFun_ok hT hC n f vs [] _ h (by simp)
  exact ⟨he, fun H M ρ w args hS hr => CallOK.frame_fz hp hS (hok M [] w args (hS.forget hp) (nlL_rel vs args h1 hr)) hf⟩
end
end Go.Ev
namespace Go.Ev
open Go
section
variable {P : Program} {T : Tab} {M : Mem} {ρ : Ren} {H : Heap} {w : World}
theorem Ext.frz : Ext M ρ w (frz M ρ H w) ρ w where
  os := rfl
  tape := rfl
  output := rfl
  size := Nat.le_refl _
  mem := le_frozen
  pre := List.prefix_refl _
  frame _ _ _ := rfl
  newM b _ hn := by
    simp only [Ev.frz]
    cases hM : M b with
    | some o => rfl
    | none =>
      simp only
      rw [if_neg]
      rintro ⟨n, blk, c, _, hr⟩
      exact hn c (List.mem_of_getElem? hr)
  newR b c h := .inl ⟨c, h⟩
theorem SR.frz (hS : SR T M ρ H w) : SR T (frz M ρ H w) ρ (H.map fun _ => none) w where
  frozen b o hb := by
    cases hM : M b with
    | some q => simp [Ev.frz, hM] at hb; subst hb; exact hS.frozen b _ hM
    | none =>
      simp only [Ev.frz, hM] at hb
      split at hb
      · exact hb
      · cases hb
  len := by rw [List.length_map]; exact hS.len
  blk n b hn := by
    rw [List.getElem?_map] at hn
    cases hh : H[n]? <;> rw [hh] at hn <;> cases hn
  inj n m x y b c c' hn := by
    rw [List.getElem?_map] at hn
    cases hh : H[n]? <;> rw [hh] at hn <;> cases hn
  glob g l hl := by
    obtain ⟨cs, ty, fr, hM, hr⟩ := hS.glob g l hl
    exact ⟨cs, ty, fr, le_frozen _ _ hM, relL_mono le_frozen (List.prefix_refl _) _ _ hr⟩
/-- From here on nothing is written that has been: some temporaries are given without names. -/
theorem Tri.freeze {c : Code} {t t2 : Tm} {Q : Out → Prop} (hw : t2.wid = t.wid) (ht : ∀ k, t2.get k = t.get k ∨ ∃ n, fz H n (t.get k) = some (t2.get k)) (h : Tri P T c t2 (H.map fun _ => none) Q) : Tri P T c t H Q := by
  obtain ⟨o, ho, h⟩ := h
  refine ⟨o, ho, fun a w M ρ R hS hr k => ?_⟩
  refine h a w (Ev.frz M ρ H w) ρ R hS.frz ⟨hw.trans hr.1, fun j => ?_⟩ (k.later Ext.frz)
  rcases ht j with e | ⟨n, e⟩
  · rw [e]; exact rel_mono le_frozen (List.prefix_refl _) _ _ (hr.2 j)
  · exact (fz_rel hS n _ _ _ e (hr.2 j)).1
theorem Tri.freeze_put {c : Code} {t : Tm} {Q : Out → Prop} (d n : Nat) {v : V} (hf : fz H n (t.get d) = some v) (h : Tri P T c (t.put (some d) v) (H.map fun _ => none) Q) : Tri P T c t H Q :=
  Tri.freeze (by simp) (fun k => by
    rw [get_put]
    by_cases e : k = d
    · subst e; rw [if_pos rfl]; exact .inr ⟨n, hf⟩
    · rw [if_neg e]; exact .inl rfl) h
theorem Tri.freeze_put2 {c : Code} {t : Tm} {Q : Out → Prop} (d e n : Nat) {v u : V} (hf : fz H n (t.get d) = some v) (hg : fz H n (t.get e) = some u) (h : Tri P T c ((t.put (some d) v).put (some e) u) (H.map fun _ => none) Q) : Tri P T c t H Q :=
  Tri.freeze (by simp) (fun k => by
    rw [get_put, get_put]
    by_cases e1 : k = e
    · subst e1; rw [if_pos rfl]; exact .inr ⟨n, hg⟩
    · rw [if_neg e1]
      by_cases e2 : k = d
      · subst e2; rw [if_pos rfl]; exact .inr ⟨n, hf⟩
      · rw [if_neg e2]; exact .inl rfl) h
end
end Go.Ev
