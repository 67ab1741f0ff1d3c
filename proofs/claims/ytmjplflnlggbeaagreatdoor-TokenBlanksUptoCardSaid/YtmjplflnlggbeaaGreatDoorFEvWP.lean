/- A region in which the tape is drawn from does what the evaluator says on every tape. The evaluator with given answers for some calls, sound if those answers are. Triples over regions: what holds ahead of a region and behind it, with one outcome for all worlds. Rules by which a triple is shown from the statements of a region; regions that turn nothing; the steps of a walk. What is known of a function is a relation between its arguments and its value; such facts serve as answers to calls. A value with places may be read as a value without places, where nothing is written any more. The rounds of a range over a function: the body is called by yield, the triples go over. Weakest preconditions for frames of existing functions. -/
import Derived.Test.YtmjplflnlggbeaaGreatDoorFEvDrawOk
import Derived.RangeFuncNested
import Derived.RangeFuncLeaves
import Derived.TacticsIn
import Derived.LoopNIn
namespace Go.Ev
open Go Go.Proofs
set_option linter.unusedSimpArgs false
set_option linter.unusedVariables false
set_option linter.unnecessarySimpa false
open Go
section
variable {P : Program} {T : Tab}

theorem masks_pre : ∀ (l : List Oper) (acc : List Nat), acc <+: masks l acc
 | [], acc => List.prefix_refl _
 | o :: r, acc => by
  simp only [masks];exact (List.prefix_append _ _).trans (masks_pre r _)
theorem getD_pre {a b : List Nat} (h : a <+: b) {k : Nat} (hk : k < a.length) : b.getD k 0 = a.getD k 0 := by
 obtain ⟨t, rfl⟩ := h;simp [List.getD_eq_getElem?_getD, List.getElem?_append_left hk]
theorem fold_bit (acc : List Nat) (j : Nat) : ∀ (es : List Nat) (s : Nat), ((es.foldl (fun s e => s ||| 2 ^ e ||| acc.getD e 0) s).testBit j) = true → s.testBit j = true ∨ ∃ e ∈ es, j = e ∨ (acc.getD e 0).testBit j = true
 | [], s, h => .inl h
 | e :: es, s, h => by
  simp only [List.foldl_cons] at h;rcases fold_bit acc j es _ h with h | ⟨e', he, h⟩
  ·simp only [Nat.testBit_or, Bool.or_eq_true, Nat.testBit_two_pow, decide_eq_true_eq] at h;rcases h with (h | h) | h
   ·exact .inl h
   ·exact .inr ⟨e, by simp, .inl h.symm⟩
   ·exact .inr ⟨e, by simp, .inr h⟩
  ·exact .inr ⟨e', by simp [he], h⟩
theorem masks_spec : ∀ (l : List Oper) (acc : List Nat) (i : Nat) (o : Oper) (j : Nat), l[i]? = some o → ((masks l acc).getD (acc.length + i) 0).testBit j = true → ∃ e ∈ edges o, j = e ∨ ((masks l acc).getD e 0).testBit j = true
 | [], _, _, _, _, h, _ => by simp at h
 | o' :: r, acc, 0, o, j, h, hb => by
  simp at h;subst h;simp only [masks, Nat.add_zero] at hb ⊢;have hp := masks_pre r (acc ++ [(edges o').foldl (fun s e => s ||| 2 ^ e ||| acc.getD e 0) 0]);rw [getD_pre hp (by simp)] at hb;simp only [List.getD_eq_getElem?_getD, List.getElem?_concat_length, Option.getD_some] at hb;rcases fold_bit acc j _ _ (by simpa [List.getD_eq_getElem?_getD] using hb) with h | ⟨e, he, h⟩
  ·simp at h
  ·refine ⟨e, he, h.imp id fun h => ?_⟩;have hlt : e < acc.length := by
    rcases Nat.lt_or_ge e acc.length with h' | h'
    ·exact h'
    ·rw [List.getD_eq_getElem?_getD, List.getElem?_eq_none h'] at h; simp at h
   rw [getD_pre hp (by simp; omega)];have : (acc ++ [(edges o').foldl (fun s e => s ||| 2 ^ e ||| acc.getD e 0) 0]).getD e 0 = acc.getD e 0 := getD_pre (List.prefix_append _ _) hlt;rw [this];exact h
 | o' :: r, acc, i + 1, o, j, h, hb => by
  simp only [masks] at hb ⊢;exact masks_spec r _ i o j (by simpa using h) (by rw [show (acc ++ [(edges o').foldl (fun s e => s ||| 2 ^ e ||| acc.getD e 0) 0]).length + i = acc.length + (i + 1) from by simp; omega]; exact hb)
theorem filter_le {l : List Nat} {p q : Nat → Bool} (h : ∀ x ∈ l, p x = true → q x = true) : (l.filter p).length ≤ (l.filter q).length := by
 induction l with
 | nil => simp
 | cons x l ih =>
  have ih := ih fun y hy => h y (by simp [hy]);have hx := h x (by simp);simp only [List.filter_cons];cases hp : p x <;> cases hq : q x <;> simp_all <;> omega
theorem mem_effs : ∀ (rs : List Rec) (k p : Nat), p ∈ effsFrom rs k → ∃ j r, p = k + j ∧ rs[j]? = some r ∧ r.e = true
 | [], _, _, h => by simp [effsFrom] at h
 | r :: rs, k, p, h => by
  simp only [effsFrom] at h;split at h
  ·rename_i he;simp at h;rcases h with rfl | h
   ·exact ⟨0, r, rfl, rfl, he⟩
   ·obtain ⟨j, q, rfl, hj, hq⟩ := mem_effs rs (k + 1) p h;exact ⟨j + 1, q, by omega, by simpa using hj, hq⟩
  ·obtain ⟨j, q, rfl, hj, hq⟩ := mem_effs rs (k + 1) p h;exact ⟨j + 1, q, by omega, by simpa using hj, hq⟩
theorem effs_mem : ∀ (rs : List Rec) (k j : Nat) (r : Rec), rs[j]? = some r → r.e = true → k + j ∈ effsFrom rs k
 | [], _, _, _, h, _ => by simp at h
 | q :: rs, k, 0, r, h, he => by simp at h; subst h; simp [effsFrom, he]
 | q :: rs, k, j + 1, r, h, he => by
  have := effs_mem rs (k + 1) j r (by simpa using h) he;simp only [effsFrom];split
  ·exact List.mem_cons_of_mem _ (by rwa [show k + (j + 1) = k + 1 + j from by omega])
  ·rwa [show k + (j + 1) = k + 1 + j from by omega]
theorem effs_nodup : ∀ (rs : List Rec) (k : Nat), (effsFrom rs k).Nodup ∧ ∀ p ∈ effsFrom rs k, k ≤ p
 | [], _ => by simp [effsFrom]
 | r :: rs, k => by
  obtain ⟨h1, h2⟩ := effs_nodup rs (k + 1);simp only [effsFrom];split
  ·refine ⟨List.nodup_cons.2 ⟨fun h => by have := h2 _ h; omega, h1⟩, fun p hp => ?_⟩;rcases List.mem_cons.1 hp with rfl | hp
   ·exact Nat.le_refl _
   ·have := h2 _ hp; omega
  ·exact ⟨h1, fun p hp => by have := h2 _ hp; omega⟩
structure Free (step : Oper → Env → Heap → OR) (ops : Array Oper) (bef : Nat → Nat → Bool) (rs : List Rec) (Hs : List Heap) : Prop where
  edge : ∀ (i : Nat) (r : Rec), rs[i]? = some r → ∀ e ∈ edges r.o, e < i
  slot : ∀ (i j : Nat) (r q : Rec), rs[i]? = some r → rs[j]? = some q → i ≠ j → ∀ d, q.o.dst = some d → r.o.dst ≠ some d ∧ (d ∈ slots ops r.o → if j < i then bef i j = true else bef j i = true)
  chain : ∀ (i : Nat) (r : Rec), rs[i]? = some r → r.e = true → ∀ p ∈ effs rs, p ≤ i ∨ bef p i = true
  quiet : ∀ (i : Nat) (r : Rec), rs[i]? = some r → r.e = false → r.w = true → looks r.o.op = true → ∀ q, ((effs rs).filter fun p => bef i p).length ≤ q → q ≤ ((effs rs).filter fun p => !bef p i).length → q ≤ (effs rs).length → ∃ Hq, Hs[q]? = some Hq ∧ step r.o r.t Hq = .val r.v Hq

theorem drawOK_free {step : Oper → Env → Heap → OR} {ops : Array Oper} {ms : List Nat} {rs : List Rec} {Hs : List Heap} {t : Tm} {H : Heap} {tf : Tm} (R : Ran step ops t H ops.toList rs Hs tf) (h : drawStat ops.toList ops ms = true) (h' : (effs rs).isEmpty = true ∨ drawDyn step ms rs Hs = true) : Free step ops (fun i j => (ms.getD i 0).testBit j) rs Hs := by
 have hop : ∀ {i : Nat} {r : Rec}, rs[i]? = some r → ops.toList[i]? = some r.o := by
  intro i r hi;have : (rs.map (·.o))[i]? = some r.o := by simp [hi]
  rwa [R.opers] at this
 have hall : ∀ (i : Nat) (o : Oper), ops.toList[i]? = some o → _ := fun i r hi => by
  have hlt := (List.getElem?_eq_some_iff.1 hi).1;have := List.all_eq_true.1 h i (List.mem_range.2 hlt);simp only [hi] at this;exact this
 have hdyn : drawDyn step ms rs Hs = true → ∀ (i : Nat) (r : Rec), rs[i]? = some r → _ := fun h i r hi => by
  have hlt := (List.getElem?_eq_some_iff.1 hi).1;have := List.all_eq_true.1 h i (List.mem_range.2 hlt);simp only [hi] at this;exact this
 refine ⟨?_, ?_, ?_, ?_⟩
 ·intro i r hi e he;have := hall i r.o (hop hi);simp only [Bool.and_eq_true] at this;simpa using List.all_eq_true.1 this.1 e he
 ·intro i j r q hi hj hne d hd;have := hall i r.o (hop hi);simp only [Bool.and_eq_true] at this;have hlt := (List.getElem?_eq_some_iff.1 (hop hj)).1;have := List.all_eq_true.1 this.2 j (List.mem_range.2 hlt);simp only [hop hj, hd, Bool.or_eq_true, Bool.and_eq_true, beq_iff_eq, decide_eq_true_eq, Bool.not_eq_true', List.contains_eq_mem, decide_eq_false_iff_not] at this;rcases this with e | ⟨h1, h2⟩
  ·exact absurd e hne
  ·refine ⟨h1, fun hd => ?_⟩;rcases h2 with h2 | h2
   ·exact absurd hd h2
   ·split <;> simp_all
 ·intro i r hi he p hp;rcases h' with h' | h'
  ·rw [List.isEmpty_iff.1 h'] at hp; cases hp
  have := hdyn h' i r hi;simp only [he, if_true] at this;simpa using List.all_eq_true.1 this p hp
 ·intro i r hi he hw hl q h1 h2 h3;rcases h' with h' | h'
  ·have h0 := List.isEmpty_iff.1 h';rw [h0] at h3;have hq : q = 0 := by simpa using h3
   subst hq;obtain ⟨_, Hk, H', hk, hs, _, h5⟩ := R.on i r hi hw;have hc : cnt rs i = 0 := by
    have := effsFrom_cnt rs 0 i;rw [← this, show effsFrom rs 0 = [] from h0];rfl
   rw [hc] at hk;rw [h5 he] at hs;exact ⟨Hk, hk, hs⟩
  have := hdyn h' i r hi;simp only [he, hw, hl, Bool.false_eq_true, if_false, Bool.and_true, Bool.not_true, Bool.false_or] at this;have := List.all_eq_true.1 this q (List.mem_range.2 (by omega));simp only [h1, h2, decide_true, Bool.and_true, Bool.not_true, Bool.false_or] at this;split at this
  ·rename_i Hq hq;refine ⟨Hq, hq, ?_⟩;unfold sameOR at this;split at this
   ·rename_i u H' hs;simp only [Bool.and_eq_true] at this;rw [hs, V.beq_eq _ _ this.1, Heap.beq_eq _ _ this.2]
   ·cases this
  ·cases this
end
open Go
section
variable {P : Program} {T : Tab}

theorem curs_ext : ∀ (rs : List Rec) (t : Env) (L L' : Nat → Bool), (∀ j, j < rs.length → L j = L' j) → curs t rs L = curs t rs L'
 | [], _, _, _, _ => rfl
 | r :: rs, t, L, L', h => by
  simp only [curs, h 0 (by simp)];exact curs_ext rs _ _ _ fun j hj => h (j + 1) (by simp; omega)
theorem count_same {l : List Nat} {L L' : Nat → Bool} (h : ∀ p ∈ l, L' p = L p) : (l.filter L').length = (l.filter L).length := by
 rw [List.filter_congr h]
theorem count_add : ∀ {l : List Nat} {L L' : Nat → Bool} {i : Nat}, l.Nodup → i ∈ l → L i = false → (∀ j, L' j = (L j || j == i)) → (l.filter L').length = (l.filter L).length + 1
 | [], _, _, _, _, h, _, _ => by simp at h
 | x :: l, L, L', i, hn, hi, hL, hL' => by
  rw [List.nodup_cons] at hn;by_cases hx : x = i
  ·subst hx;have h1 : L' x = true := by rw [hL']; simp
   simp only [List.filter_cons, h1, hL, if_true, Bool.false_eq_true, if_false, List.length_cons];rw [count_same (L := L) (L' := L') fun p hp => by
    rw [hL'];have : p ≠ x := fun e => hn.1 (e ▸ hp);simp [this]]
  ·have hi' : i ∈ l := by
    rcases List.mem_cons.1 hi with h | h
    ·exact absurd h.symm hx
    ·exact h
   have ih := count_add hn.2 hi' hL hL';have h1 : L' x = L x := by rw [hL']; simp [hx]
   simp only [List.filter_cons, h1];split <;> simp [ih]
theorem put_size (a : Act) (d : Option Tmp) (x : Value) : (a.put d x).tmps.size = a.tmps.size := by cases d <;> simp [Act.put]
theorem evDraw_ok (hT : TOk P T) {call : CallF} (hcall : call.Sound P T) {id : Nat} {ops : Array Oper} {t : Tm} {H : Heap} {a : Act} {w : World} {M : Mem} {ρ : Ren} {Q : Exit → Act → World → Prop} (hS : SR T M ρ H w) (ht : relTm M ρ t a.tmps)
    (h : OutOK T M ρ w Q a.defers (evDraw (evOp T call) ops t H)) : (Code.region id ops true).wp P Q a w := by
  unfold evDraw at h
  split at h
  case h_2 => exact h.elim
  rename_i rs Hs tf hrun
  split at h
  case isFalse => exact h.elim
  rename_i hok
  split at h
  case h_2 => exact h.elim
  rename_i Hl hlast
  have R := drawRun_ran (fun o t H v H' hq hh => quiet_heap hq hh) ops.toList t H rs Hs tf hrun
  simp only [Bool.and_eq_true, Bool.or_eq_true] at hok
  have F := drawOK_free R hok.1 hok.2
  generalize hbefd : (fun i j => ((masks ops.toList []).getD i 0).testBit j) = bef at F
  have hlen : rs.length = ops.size := by have := congrArg List.length R.opers; simpa using this
  have hop : ∀ {i : Nat} {r : Rec}, rs[i]? = some r → ops[i]? = some r.o := by
    intro i r hi
    have : (rs.map (·.o))[i]? = some r.o := by simp [hi]
    rw [R.opers] at this
    simpa using this
  have hbef : ∀ (i : Nat) (r : Rec) (j : Nat), rs[i]? = some r → bef i j = true → ∃ e ∈ edges r.o, j = e ∨ bef e j = true := by
    intro i r j hi hb
    subst hbefd
    exact masks_spec ops.toList [] i r.o j (by simpa using hop hi) (by simpa using hb)
  have hget : ∀ {i : Nat}, i < rs.length → ∃ r, rs[i]? = some r := fun hi => ⟨_, List.getElem?_eq_getElem hi⟩
  have hin : ∀ (L : Nat → Bool), (∀ i r, rs[i]? = some r → L i = true → ∀ e ∈ edges r.o, L e = true) → ∀ (i : Nat) (r : Rec) (j : Nat), rs[i]? = some r → (∀ e ∈ edges r.o, L e = true) → bef i j = true → L j = true := by
    intro L hcl i
    induction i using Nat.strongRecOn with
    | _ i ih =>
      intro r j hi he hb
      obtain ⟨e, hem, hj⟩ := hbef i r j hi hb
      rcases hj with rfl | hj
      · exact he _ hem
      · have hlt := F.edge i r hi e hem
        obtain ⟨re, hre⟩ := hget (i := e) (by have := (List.getElem?_eq_some_iff.1 hi).1; omega)
        exact ih e hlt re j hre (hcl e re hre (he e hem)) hj
  refine wp_region_any hT.mixed ?_
  have key : ∀ (fuel : Nat) (listed : Array Bool) (a' : Act) (w' : World) (M' : Mem) (ρ' : Ren), listed.size = ops.size →
      (∀ i r, rs[i]? = some r → listed.getD i false = true → ∀ e ∈ edges r.o, listed.getD e false = true) →
      ((List.range ops.size).filter fun i => !listed.getD i false).length ≤ fuel → Ext M ρ w M' ρ' w' →
      relT M' ρ' (curs t.get rs fun j => listed.getD j false) a'.tmps → a'.tmps.size = t.wid →
      (∃ Hq, Hs[((effs rs).filter fun p => listed.getD p false).length]? = some Hq ∧ SR T M' ρ' Hq w') → a'.defers = a.defers →
      wpAny P .any ops Q fuel listed a' w' := by
    have fin : ∀ (listed : Array Bool) (a' : Act) (w' : World) (M' : Mem) (ρ' : Ren), (∀ i, i < ops.size → listed.getD i false = true) → Ext M ρ w M' ρ' w' → relT M' ρ' (curs t.get rs fun j => listed.getD j false) a'.tmps → a'.tmps.size = t.wid →
        (∃ Hq, Hs[((effs rs).filter fun p => listed.getD p false).length]? = some Hq ∧ SR T M' ρ' Hq w') → a'.defers = a.defers → Q .normal a' w' := by
      intro listed a' w' M' ρ' hall hext hrel hsize hheap hdef
      obtain ⟨Hq, hq, hS'⟩ := hheap
      have e1 : curs t.get rs (fun j => listed.getD j false) = tf.get := by
        rw [R.last]
        exact curs_ext rs t.get _ _ fun j hj => hall j (by omega)
      have e2 : ((effs rs).filter fun p => listed.getD p false).length = cnt rs rs.length := by
        have := effsFrom_cnt rs 0 rs.length
        rw [← this]
        refine count_same fun p hp => ?_
        obtain ⟨j, r, rfl, hj, _⟩ := mem_effs rs 0 p hp
        have hlt := (List.getElem?_eq_some_iff.1 hj).1
        rw [hall _ (by omega)]
        simp; omega
      have e3 : Hl = Hq := by
        rw [List.getLast?_eq_getElem?, R.heaps, Nat.add_sub_cancel, ← e2, hq] at hlast
        exact (Option.some.inj hlast).symm
      rw [e1] at hrel
      subst e3
      exact h a' w' M' ρ' hext ⟨by rw [R.wide, hsize], hrel⟩ hS' hdef
    have hready : ∀ (listed : Array Bool) (i : Nat), listed.size = ops.size → (i ∈ Region.ready .any ops listed ↔ ∃ r, rs[i]? = some r ∧ listed.getD i false = false ∧ ∀ e ∈ edges r.o, listed.getD e false = true) := by
      intro listed i hsz
      unfold Region.ready
      rw [List.mem_filter, List.mem_range]
      constructor
      · rintro ⟨hi, hh⟩
        obtain ⟨r, hr⟩ := hget (i := i) (by omega)
        rw [hop hr] at hh
        simp only [Option.map_some, Option.getD_some, Bool.and_eq_true, Bool.not_eq_true', Array.all_eq_true'] at hh
        refine ⟨r, hr, ?_, fun e he => ?_⟩
        · have := hh.1
          rw [Array.getD_eq_getD_getElem?] at this ⊢
          rw [Array.getElem?_eq_getElem (by omega)] at this ⊢
          exact this
        · simp only [edges, List.mem_map, List.mem_filter] at he
          obtain ⟨x, ⟨hx, hb⟩, rfl⟩ := he
          have := hh.2 x (by simpa using hx)
          simpa [hb] using this
      · rintro ⟨r, hr, hL, he⟩
        have hi := (List.getElem?_eq_some_iff.1 hr).1
        refine ⟨by omega, ?_⟩
        rw [hop hr]
        simp only [Option.map_some, Option.getD_some, Bool.and_eq_true, Bool.not_eq_true', Array.all_eq_true']
        refine ⟨?_, fun x hx => ?_⟩
        · rw [Array.getD_eq_getD_getElem?] at hL ⊢
          rw [Array.getElem?_eq_getElem (by omega)] at hL ⊢
          exact hL
        · cases hb : Region.binds .any x with
          | false => simp
          | true =>
            simp only [Bool.not_true, Bool.false_or]
            exact he x.on (List.mem_map.2 ⟨x, List.mem_filter.2 ⟨by simpa using hx, hb⟩, rfl⟩)
    have hnil : ∀ (listed : Array Bool), listed.size = ops.size → Region.ready .any ops listed = [] → ∀ i, i < ops.size → listed.getD i false = true := by
      intro listed hsz hr i
      induction i using Nat.strongRecOn with
      | _ i ihi =>
        intro hi
        obtain ⟨r, hri⟩ := hget (i := i) (by omega)
        cases hL : listed.getD i false with
        | true => rfl
        | false =>
          have : i ∈ Region.ready .any ops listed := (hready listed i hsz).2 ⟨r, hri, hL, fun e he => ihi e (F.edge i r hri e he) (by have := F.edge i r hri e he; omega)⟩
          rw [hr] at this
          cases this
    intro fuel
    induction fuel with
    | zero =>
      intro listed a' w' M' ρ' hsz hcl hcount hext hrel hsize hheap hdef
      have hall : ∀ i, i < ops.size → listed.getD i false = true := by
        intro i hi
        have : (List.range ops.size).filter (fun i => !listed.getD i false) = [] := List.eq_nil_of_length_eq_zero (by omega)
        have := (List.filter_eq_nil_iff.1 this) i (List.mem_range.2 hi)
        simpa using this
      refine ⟨?_, fin listed a' w' M' ρ' hall hext hrel hsize hheap hdef⟩
      cases hr : Region.ready .any ops listed with
      | nil => rfl
      | cons i l =>
        obtain ⟨r, hri, hL, _⟩ := (hready listed i hsz).1 (by rw [hr]; simp)
        have := hall i (by have := (List.getElem?_eq_some_iff.1 hri).1; omega)
        rw [this] at hL
        cases hL
    | succ fuel ih =>
      intro listed a' w' M' ρ' hsz hcl hcount hext hrel hsize hheap hdef
      refine ⟨fun hr => fin listed a' w' M' ρ' (hnil listed hsz hr) hext hrel hsize hheap hdef, fun i hi => ?_⟩
      obtain ⟨r, hri, hL, hedge⟩ := (hready listed i hsz).1 hi
      have hilt : i < ops.size := by have := (List.getElem?_eq_some_iff.1 hri).1; omega
      have hset : ∀ j, (listed.setIfInBounds i true).getD j false = (listed.getD j false || j == i) := by
        intro j
        simp only [Array.getD_eq_getD_getElem?, Array.getElem?_setIfInBounds]
        by_cases hj : i = j
        · subst hj
          simp [hsz, hilt]
        · have : (j == i) = false := by simp; omega
          simp [hj, this]
      have hslot : ∀ d ∈ r.o.looksAt ops, (curs t.get rs fun j => listed.getD j false) d = r.t d := by
        intro d hd
        rw [R.seen i r hri]
        refine curs_congr rs t.get _ _ d (fun j q hj hqd => ?_) t.get rfl
        by_cases hji : i = j
        · subst hji
          simp only [hL]
          simp
        · have hsl := (F.slot i j r q hri hj hji d hqd).2 hd
          by_cases hlt : j < i
          · rw [if_pos hlt] at hsl
            have := hin (fun j => listed.getD j false) hcl i r j hri hedge hsl
            simp only [this]
            simp [hlt]
          · rw [if_neg hlt] at hsl
            cases hLj : listed.getD j false with
            | false => simp [hlt]
            | true =>
              have := hin (fun j => listed.getD j false) hcl j q i hj (hcl j q hj hLj) hsl
              rw [hL] at this
              cases this
      have hcl' : ∀ k q, rs[k]? = some q → (listed.setIfInBounds i true).getD k false = true → ∀ e ∈ edges q.o, (listed.setIfInBounds i true).getD e false = true := by
        intro k q hk hLk e he
        rw [hset] at hLk ⊢
        by_cases hki : k = i
        · subst hki
          rw [hri] at hk
          cases hk
          simp [hedge e he]
        · have : (k == i) = false := by simpa using hki
          rw [this, Bool.or_false] at hLk
          simp [hcl k q hk hLk e he]
      have hcount' : ((List.range ops.size).filter fun j => !(listed.setIfInBounds i true).getD j false).length ≤ fuel := by
        have e1 := count_add (l := List.range ops.size) (L := fun j => listed.getD j false) (L' := fun j => (listed.setIfInBounds i true).getD j false) (i := i) List.nodup_range (List.mem_range.2 hilt) hL hset
        have e2 : ∀ (l : List Nat) (p : Nat → Bool), (l.filter p).length + (l.filter fun j => !p j).length = l.length := by
          intro l p
          induction l with
          | nil => rfl
          | cons x l ih => simp only [List.filter_cons]; cases p x <;> simp <;> omega
        have e3 := e2 (List.range ops.size) (fun j => listed.getD j false)
        have e4 := e2 (List.range ops.size) (fun j => (listed.setIfInBounds i true).getD j false)
        omega
      have hcurs : curs t.get rs (fun j => (listed.setIfInBounds i true).getD j false) = put (curs t.get rs fun j => listed.getD j false) r.o.dst r.v :=
        curs_add rs t.get _ _ i r hri hL hset fun j q hji hj d hqd => (F.slot i j r q hri hj (fun e => hji e.symm) d hqd).1
      have hwants : wants ops r.o (curs t.get rs fun j => listed.getD j false) = wants ops r.o r.t := wants_congr hslot
      have hfd : ∀ e, r.o.dst = some e → e < a'.tmps.size := by rw [hsize]; exact fits_lt (R.fits i r hri)
      obtain ⟨Hq, hq, hS'⟩ := hheap
      unfold wpOp
      rw [hop hri]
      simp only
      cases hw : r.w with
      | false =>
        obtain ⟨h1, h2, h3⟩ := R.off i r hri hw
        rw [wants_ok hrel (hwants.trans h1)]
        simp only [Bool.false_eq_true, if_false]
        refine ih _ _ _ M' ρ' (by simpa using hsz) hcl' hcount' hext (by rw [hcurs, h2]; exact put_relT hrel rel_undef r.o.dst hfd) (by rw [put_size]; exact hsize) ⟨Hq, ?_, hS'⟩ (by rw [put_defers']; exact hdef)
        rw [count_same (L := fun p => listed.getD p false) fun p hp => ?_]
        · exact hq
        · rw [hset]
          obtain ⟨j, q, rfl, hj, hqe⟩ := mem_effs rs 0 p hp
          have : j ≠ i := fun e => by subst e; rw [hri] at hj; cases hj; rw [h3] at hqe; cases hqe
          simp; omega
      | true =>
        obtain ⟨h1, Hk, H', h2, h3, h4, h5⟩ := R.on i r hri hw
        rw [wants_ok hrel (hwants.trans h1)]
        simp only [if_true]
        refine .inl ?_
        have hev : ∀ v H2, evOp T call r.o r.t Hq = .val v H2 → evOp T call r.o (curs t.get rs fun j => listed.getD j false) Hq = .val v H2 := fun v H2 hh => (evOp_congr (looks_congr hslot)).trans hh
        cases he : r.e with
        | true =>
          have hcnt : ((effs rs).filter fun p => listed.getD p false).length = cnt rs i := by
            have := effsFrom_cnt rs 0 i
            rw [← this]
            refine count_same fun p hp => ?_
            obtain ⟨j, q, rfl, hj, hqe⟩ := mem_effs rs 0 p hp
            simp only [Nat.zero_add]
            by_cases hlt : j < i
            · have hmem := effs_mem rs 0 i r hri he
              rcases F.chain j q hj hqe (0 + i) hmem with hc | hc
              · omega
              · rw [Nat.zero_add] at hc
                have := hin (fun j => listed.getD j false) hcl i r j hri hedge hc
                rw [this]
                simp [hlt]
            · have e0 : decide (j < i) = false := by simpa using hlt
              rw [e0]
              by_cases hji : j = i
              · subst hji; exact hL
              · have hmem := effs_mem rs 0 j q hj hqe
                rcases F.chain i r hri he (0 + j) hmem with hc | hc
                · omega
                · rw [Nat.zero_add] at hc
                  cases hLj : listed.getD j false with
                  | false => rfl
                  | true =>
                    have := hin (fun j => listed.getD j false) hcl j q i hj (hcl j q hj hLj) hc
                    rw [hL] at this
                    cases this
          rw [hcnt, h2] at hq
          cases hq
          refine evOp_ok hT hcall hS' hrel (hev r.v H' h3) ?_
          intro x M2 ρ2 w2 hx hv hS2
          refine ih _ _ _ M2 ρ2 (by simpa using hsz) hcl' hcount' (hext.trans hx) (by rw [hcurs]; exact put_relT (relT_mono hx.mem hx.pre hrel) hv r.o.dst hfd) (by rw [put_size]; exact hsize) ⟨H', ?_, hS2⟩ (by rw [put_defers']; exact hdef)
          have hmem := effs_mem rs 0 i r hri he
          rw [Nat.zero_add] at hmem
          have hnd : (effs rs).Nodup := (effs_nodup rs 0).1
          have hmem' : i ∈ effs rs := hmem
          have hca := count_add (L := fun p => listed.getD p false) (L' := fun p => (listed.setIfInBounds i true).getD p false) hnd hmem' hL hset
          rw [hca, hcnt]
          exact h4 he
        | false =>
          have hsame : evOp T call r.o r.t Hq = .val r.v Hq := by
            cases hl : looks r.o.op with
            | false =>
              rw [h5 he] at h3
              exact pure_heap hl h3 Hq
            | true =>
              have hlo : ((effs rs).filter fun p => bef i p).length ≤ ((effs rs).filter fun p => listed.getD p false).length :=
                filter_le fun p _ hp => hin (fun j => listed.getD j false) hcl i r p hri hedge hp
              have hhi : ((effs rs).filter fun p => listed.getD p false).length ≤ ((effs rs).filter fun p => !bef p i).length := by
                refine filter_le fun p hp hLp => ?_
                obtain ⟨j, q, rfl, hj, hqe⟩ := mem_effs rs 0 p hp
                rw [Nat.zero_add] at hLp ⊢
                cases hb : bef j i with
                | false => rfl
                | true =>
                  have := hin (fun j => listed.getD j false) hcl j q i hj (hcl j q hj hLp) hb
                  rw [hL] at this
                  cases this
              obtain ⟨H2, hq2, hs2⟩ := F.quiet i r hri he hw hl _ hlo hhi (List.length_filter_le _ _)
              rw [hq] at hq2
              cases hq2
              exact hs2
          refine evOp_ok hT hcall hS' hrel (hev r.v Hq hsame) ?_
          intro x M2 ρ2 w2 hx hv hS2
          refine ih _ _ _ M2 ρ2 (by simpa using hsz) hcl' hcount' (hext.trans hx) (by rw [hcurs]; exact put_relT (relT_mono hx.mem hx.pre hrel) hv r.o.dst hfd) (by rw [put_size]; exact hsize) ⟨Hq, ?_, hS2⟩ (by rw [put_defers']; exact hdef)
          rw [count_same (L := fun p => listed.getD p false) fun p hp => ?_]
          · exact hq
          · rw [hset]
            obtain ⟨j, q, rfl, hj, hqe⟩ := mem_effs rs 0 p hp
            have : j ≠ i := fun e => by subst e; rw [hri] at hj; cases hj; rw [he] at hqe; cases hqe
            simp; omega
  refine key ops.size (Array.replicate ops.size false) a _ M ρ (by simp) (fun i r hi hL => ?_) ?_ (Ext.drew M ρ w) ?_ ht.1.symm ⟨H, ?_, hS.drew⟩ rfl
  · exfalso
    simp [Array.getD_eq_getD_getElem?, Array.getElem?_replicate] at hL
    split at hL <;> simp at hL
  · exact Nat.le_trans (List.length_filter_le _ _) (by simp)
  · have : curs t.get rs (fun j => (Array.replicate ops.size false).getD j false) = t.get := by
      have h0 : ∀ j, (Array.replicate ops.size false).getD j false = false := by
        intro j
        simp only [Array.getD_eq_getD_getElem?, Array.getElem?_replicate]
        split <;> rfl
      simp only [h0]
      have : ∀ (rs : List Rec) (t : Env), curs t rs (fun _ => false) = t := by
        intro rs
        induction rs with
        | nil => intro t; rfl
        | cons r rs ih => intro t; simp only [curs]; exact ih t
      exact this _ _
    rw [this]
    exact ht.2
  · have h0 : ∀ j, (Array.replicate ops.size false).getD j false = false := by
      intro j
      simp only [Array.getD_eq_getD_getElem?, Array.getElem?_replicate]
      split <;> rfl
    simp only [h0]
    rw [show (effs rs).filter (fun _ => false) = [] from List.filter_eq_nil_iff.2 (by simp)]
    exact R.first

theorem evReg_ok (hT : TOk P T) {call : CallF} (hcall : call.Sound P T) : RegF.Sound P T (evReg T call) := by
 intro id ops d t H a w M ρ Q hS ht h;cases d with
 | false => exact evSeqReg_ok hT hcall hS ht h
 | true => exact evDraw_ok hT hcall hS ht h
theorem evFun_ok (hT : TOk P T) {G : Gam} (hG : G.Sound P T) (n : Nat) : CallF.SoundE P T (evFun T G n) := evFunR_ok hT (fun _ h => evReg_ok hT h) hG n
end
open Go

mutual
/-- Values without names. -/
def nl : V → Bool
  | .agg l => nlL l
  | .tup l => nlL l
  | .fn _ l => nlL l
  | .bfn _ l => nlL l
  | .ifc _ v => nl v
  | .isl _ l => nlL l
  | .ipt _ l _ _ => nlL l
  | .ptr .. => false
  | .sl .. => false
  | .mp .. => false
  | _ => true
def nlL : List V → Bool
  | [] => true
  | v :: l => nl v && nlL l
end
section
variable {P : Program} {T : Tab} {M : Mem} {ρ σ : Ren} {w : World} {H : Heap}
mutual
theorem nl_rel : ∀ (v : V) (x : Value), nl v = true → rel M ρ v x → rel M σ v x
  | .i .., _, _, h => by simpa [rel] using h
  | .b .., _, _, h => by simpa [rel] using h
  | .s .., _, _, h => by simpa [rel] using h
  | .nilp, _, _, h => by simpa [rel] using h
  | .nils, _, _, h => by simpa [rel] using h
  | .nilf, _, _, h => by simpa [rel] using h
  | .nili, _, _, h => by simpa [rel] using h
  | .nilm, _, _, h => by simpa [rel] using h
  | .emp, _, _, h => by simpa [rel] using h
  | .gp .., _, _, h => by simpa [rel] using h
  | .yld .., _, _, h => by simpa [rel] using h
  | .itr .., _, _, h => by simpa [rel] using h
  | .ptr .., _, n, _ => by simp [nl] at n
  | .sl .., _, n, _ => by simp [nl] at n
  | .mp .., _, n, _ => by simp [nl] at n
  | .agg l, x, n, h => by
    simp only [rel, nl] at h n ⊢
    obtain ⟨cs, e, k⟩ := h
    exact ⟨cs, e, nlL_rel l cs n k⟩
  | .tup l, x, n, h => by
    simp only [rel, nl] at h n ⊢
    obtain ⟨cs, e, k⟩ := h
    exact ⟨cs, e, nlL_rel l cs n k⟩
  | .fn g l, x, n, h => by
    simp only [rel, nl] at h n ⊢
    obtain ⟨cs, e, k⟩ := h
    exact ⟨cs, e, nlL_rel l cs n k⟩
  | .bfn g l, x, n, h => by
    simp only [rel, nl] at h n ⊢
    obtain ⟨cs, e, k⟩ := h
    exact ⟨cs, e, nlL_rel l cs n k⟩
  | .ifc t v, x, n, h => by
    simp only [rel, nl] at h n ⊢
    obtain ⟨y, e, k⟩ := h
    exact ⟨y, e, nl_rel v y n k⟩
  | .isl sz l, x, n, h => by
    simp only [rel, nl] at h n ⊢
    obtain ⟨a, k, e, hk, hr⟩ := h
    refine ⟨a, k, e, hk, fun hl => ?_⟩
    obtain ⟨b, o, ha, hr⟩ := hr hl
    exact ⟨b, o, ha, nl_relRow sz l b o n hr⟩
  | .ipt sz l i off, x, n, h => by
    simp only [rel, nl] at h n ⊢
    obtain ⟨b, o, ha, hr⟩ := h
    exact ⟨b, o, ha, nl_relRow sz l b o n hr⟩
theorem nlL_rel : ∀ (l : List V) (cs : List Value), nlL l = true → relL M ρ l cs → relL M σ l cs
  | [], _, _, h => by simpa [relL] using h
  | v :: l, cs, n, h => by
    simp only [relL, nlL, Bool.and_eq_true] at h n ⊢
    obtain ⟨x, r, e, hx, hr⟩ := h
    exact ⟨x, r, e, nl_rel v x n.1 hx, nlL_rel l r n.2 hr⟩
theorem nl_relRow (sz : Nat) : ∀ (l : List V) (b o : Nat), nlL l = true → relRow M ρ sz l b o → relRow M σ sz l b o
  | [], _, _, _, _ => by simp [relRow]
  | v :: l, b, o, n, h => by
    simp only [relRow, nlL, Bool.and_eq_true] at h n ⊢
    obtain ⟨⟨x, hx, h1, h2⟩, hr⟩ := h
    exact ⟨⟨x, nl_rel v x n.1 hx, h1, h2⟩, nl_relRow sz l b (o + sz) n.2 hr⟩
end

theorem SR.forget (h : SR T M ρ H w) (hg : ∀ g l, T.glob g = some l → nlL l = true) : SR T M [] [] w where
  frozen := h.frozen
  len := rfl
  blk n b hn := by simp at hn
  inj n m x y b c c' hn := by simp at hn
  glob g l hl := by
    obtain ⟨cs, ty, fr, hM, hr⟩ := h.glob g l hl
    exact ⟨cs, ty, fr, hM, nlL_rel l cs (hg g l hl) hr⟩
  gint g hg := by
    obtain ⟨m, ty, fr, hM⟩ := h.gint g hg
    exact ⟨m, ty, fr, hM⟩
theorem SR.recall {M' : Mem} {σ : Ren} {J : Heap} {w' : World} (h : SR T M ρ H w) (k : SR T M' σ J w') (he : Ext M [] w M' σ w') : SR T M' ρ H w' where
  frozen := k.frozen
  len := h.len
  blk n b hn := by
    obtain ⟨c, q, hr, hM, hlt, hok⟩ := h.blk n b hn
    refine ⟨c, q, hr, by rw [he.newM c hlt (fun _ hc => by simp at hc)]; exact hM, Nat.lt_of_lt_of_le hlt he.size, ?_⟩
    rw [he.frame c hlt (fun _ hc => by simp at hc)]
    exact hok.mono he.mem (List.prefix_refl _)
  inj := h.inj
  glob g l hl := by
    obtain ⟨cs, ty, fr, hM, hr⟩ := h.glob g l hl
    exact ⟨cs, ty, fr, he.mem _ _ hM, relL_mono he.mem (List.prefix_refl _) _ _ hr⟩
  gint g hg := by
    obtain ⟨m, ty, fr, hM⟩ := h.gint g hg
    exact ⟨m, ty, fr, he.mem _ _ hM⟩
theorem Ext.recall {M' : Mem} {σ : Ren} {w' : World} (he : Ext M [] w M' σ w') : Ext M ρ w M' ρ w' where
 os := he.os
 tape := he.tape
 output := he.output
 size := he.size
 mem := he.mem
 pre := List.prefix_refl _
 frame b hb _ := he.frame b hb (fun _ hc => by simp at hc)
 newM b hb _ := he.newM b hb (fun _ hc => by simp at hc)
 newR b c h := .inl ⟨c, h⟩
theorem CallOK.frame {f : FuncId} {args : Array Value} {v : V} {J : Heap} (hv : nl v = true) (hS : SR T M ρ H w) (h : CallOK P T f args M [] w (.val v J)) : CallOK P T f args M ρ w (.val v H) := by
 refine Calls.mono h ?_;rintro e w' ⟨x, M', σ, rfl, he, hx, hk⟩;exact ⟨x, M', ρ, rfl, he.recall, nl_rel v x hv hx, hS.recall hk he⟩
theorem CallOK.frame_pan {f : FuncId} {args : Array Value} {v : V} {J : Heap} (hv : nl v = true) (hS : SR T M ρ H w) (h : CallOK P T f args M [] w (.pan v J)) : CallOK P T f args M ρ w (.pan v H) := by
 refine Calls.mono h ?_;rintro e w' ⟨x, M', σ, rfl, he, hx, hk⟩;exact ⟨x, M', ρ, rfl, he.recall, nl_rel v x hv hx, hS.recall hk he⟩
inductive Res where
  | val (v : V)
  | pan (v : V)
abbrev Con := FuncId → List V → Option Res
def Res.at : Res → Heap → OR
 | .val v, H => .val v H
 | .pan v, H => .pan v H
def Res.nl : Res → Bool
 | .val v => Ev.nl v
 | .pan v => Ev.nl v
def gamOf (C : Con) : Gam := fun f vs H => (C f vs).map (·.at H)
def Con.Sound (P : Program) (T : Tab) (C : Con) : Prop := Gam.Sound P T (gamOf C)
def Con.add (C : Con) (F : FuncId) (S : List V → Option Res) : Con := fun f vs => if f = F then S vs else C f vs
def Con.none : Con := fun _ _ => Option.none
theorem Con.none_sound : Con.none.Sound P T := fun f vs H r h => by simp [gamOf, Con.none] at h
def Tab.Plain (T : Tab) : Prop := ∀ g l, T.glob g = some l → nlL l = true
theorem con_of_ev (hT : TOk P T) (hp : T.Plain) {C : Con} (hC : C.Sound P T) {f : FuncId} {vs : List V} {r : Res} {J : Heap} {n : Nat} (h : evFun T (gamOf C) n f vs [] = r.at J) (h1 : nlL vs = true) (h2 : r.nl = true) :
 Go.Proofs.Enters P f ∧ ∀ (H : Heap) (M : Mem) (ρ : Ren) (w : World) (args : List Value), SR T M ρ H w → relL M ρ vs args → CallOK P T f args.toArray M ρ w (r.at H) := by
 have hne : r.at J ≠ .no := by cases r <;> simp [Res.at]
 obtain ⟨he, hok⟩ := evFun_ok hT hC n f vs [] _ h hne;refine ⟨he, fun H M ρ w args hS hr => ?_⟩;have := hok M [] w args (hS.forget hp) (nlL_rel vs args h1 hr);cases r with
 | val v => exact CallOK.frame h2 hS this
 | pan v => exact CallOK.frame_pan h2 hS this
end
open Go
section
variable {P : Program} {T : Tab}

def TriX (P : Program) (T : Tab) (c : Code) (t : Tm) (H : Heap) (o : Out) : Prop :=
 ∀ (a : Act) (w : World) (M : Mem) (ρ : Ren) (R : Exit → Act → World → Prop), SR T M ρ H w → relTm M ρ t a.tmps → OutOK T M ρ w R a.defers o → c.wp P R a w
def LTriX (P : Program) (T : Tab) (c : Code) (t : Tm) (H : Heap) (o : Out) : Prop :=
 ∀ (a : Act) (w : World) (M : Mem) (ρ : Ren) (R : Exit → Act → World → Prop), SR T M ρ H w → relTm M ρ t a.tmps → OutOK T M ρ w R a.defers o → LoopWp P c R a w
def Tri (P : Program) (T : Tab) (c : Code) (t : Tm) (H : Heap) (Q : Out → Prop) : Prop := ∃ o, Q o ∧ TriX P T c t H o
def LTri (P : Program) (T : Tab) (c : Code) (t : Tm) (H : Heap) (Q : Out → Prop) : Prop := ∃ o, Q o ∧ LTriX P T c t H o
variable {t : Tm} {H : Heap} {Q Q' : Out → Prop} {c : Code}
theorem Tri.mono (h : Tri P T c t H Q) (hq : ∀ o, Q o → Q' o) : Tri P T c t H Q' := h.imp fun o k => ⟨hq o k.1, k.2⟩
theorem LTri.mono (h : LTri P T c t H Q) (hq : ∀ o, Q o → Q' o) : LTri P T c t H Q' := h.imp fun o k => ⟨hq o k.1, k.2⟩
theorem Tri.skip (h : Q (.norm t H)) : Tri P T .skip t H Q := ⟨_, h, fun a w M ρ _ hS ht k => wp_skip (k a w M ρ (Ext.refl _ _ _) ht hS rfl)⟩
theorem Tri.label {l : Nat} (h : Q (.norm t H)) : Tri P T (.label l) t H Q := ⟨_, h, fun a w M ρ _ hS ht k => wp_label (k a w M ρ (Ext.refl _ _ _) ht hS rfl)⟩
theorem Tri.exit {id : Nat} (h : Q (.exit id t H)) : Tri P T (.exit id) t H Q := ⟨_, h, fun a w M ρ _ hS ht k => wp_exit (k a w M ρ (Ext.refl _ _ _) ht hS rfl)⟩
theorem Tri.ret (h : Q (.ret t H)) : Tri P T .ret t H Q := ⟨_, h, fun a w M ρ _ hS ht k => wp_ret (k a w M ρ (Ext.refl _ _ _) ht hS rfl)⟩
theorem Tri.reg (hT : TOk P T) {call : CallF} (hC : call.Sound P T) {id : Nat} {ops : Array Oper} {d : Bool} {o : Out} (he : evReg T call ops d t H = o) (h : Q o) : Tri P T (.region id ops d) t H Q := ⟨o, h, fun a w M ρ R hS ht k =>
 evReg_ok hT hC id ops d t H a w M ρ R hS ht (by rw [he]; exact k)⟩
theorem Tri.seq {x y : Code} (h : Tri P T x t H fun o => match o with | .norm t' H' => Tri P T y t' H' Q | o => Q o) : Tri P T (.seq x y) t H Q := by
 obtain ⟨o, ho, hx⟩ := h;cases o with
 | norm t' H' =>
  obtain ⟨o2, h2, hy⟩ := ho;refine ⟨o2, h2, fun a w M ρ R hS ht k => wp_seq (hx a w M ρ _ hS ht ?_)⟩;intro a' w' M' ρ' he ht' hS' hd;refine hy a' w' M' ρ' R hS' ht' ?_;rw [hd];exact k.later he
 | exit id t' H' => exact ⟨_, ho, fun a w M ρ R hS ht k => wp_seq (hx a w M ρ _ hS ht k)⟩
 | ret t' H' => exact ⟨_, ho, fun a w M ρ R hS ht k => wp_seq (hx a w M ρ _ hS ht k)⟩
 | pan v t' H' => exact ⟨_, ho, fun a w M ρ R hS ht k => wp_seq (hx a w M ρ _ hS ht k)⟩
 | no => exact ⟨.no, ho, fun a w M ρ R hS ht k => k.elim⟩
theorem Tri.cond {g : Operand} {x y : Code} {b : Bool} (hg : ev1 t.get g = some (.b b)) (h1 : b = true → Tri P T x t H Q) (h2 : b = false → Tri P T y t H Q) : Tri P T (.cond g x y) t H Q := by
 cases b with
 | true =>
  obtain ⟨o, ho, hx⟩ := h1 rfl;refine ⟨o, ho, fun a w M ρ R hS ht k => ?_⟩;have := ev1_rel ht.2 hg;simp only [rel] at this;exact wp_cond_true this (hx a w M ρ R hS ht k)
 | false =>
  obtain ⟨o, ho, hx⟩ := h2 rfl;refine ⟨o, ho, fun a w M ρ R hS ht k => ?_⟩;have := ev1_rel ht.2 hg;simp only [rel] at this;exact wp_cond_false this (hx a w M ρ R hS ht k)
theorem Tri.block {id : Nat} {x : Code} (h : Tri P T x t H fun o => match o with | .exit j t' H' => if j = id then Q (.norm t' H') else Q (.exit j t' H') | o => Q o) : Tri P T (.block id x) t H Q := by
 obtain ⟨o, ho, hx⟩ := h;cases o with
 | norm t' H' => exact ⟨_, ho, fun a w M ρ R hS ht k => wp_block (hx a w M ρ _ hS ht k)⟩
 | exit j t' H' =>
  simp only at ho;by_cases e : j = id
  ·rw [if_pos e] at ho;refine ⟨_, ho, fun a w M ρ R hS ht k => wp_block (hx a w M ρ _ hS ht ?_)⟩;intro a' w' M' ρ' he ht' hS' hd;simp only [Exit.inBlock];rw [if_pos e];exact k a' w' M' ρ' he ht' hS' hd
  ·rw [if_neg e] at ho;refine ⟨_, ho, fun a w M ρ R hS ht k => wp_block (hx a w M ρ _ hS ht ?_)⟩;intro a' w' M' ρ' he ht' hS' hd;simp only [Exit.inBlock];rw [if_neg e];exact k a' w' M' ρ' he ht' hS' hd
 | ret t' H' => exact ⟨_, ho, fun a w M ρ R hS ht k => wp_block (hx a w M ρ _ hS ht k)⟩
 | pan v t' H' => exact ⟨_, ho, fun a w M ρ R hS ht k => wp_block (hx a w M ρ _ hS ht k)⟩
 | no => exact ⟨.no, ho, fun a w M ρ R hS ht k => k.elim⟩
theorem LTri.round (h : Tri P T c t H fun o => match o with | .norm t' H' => LTri P T c t' H' Q | o => Q o) : LTri P T c t H Q := by
 obtain ⟨o, ho, hx⟩ := h;cases o with
 | norm t' H' =>
  obtain ⟨o2, h2, hy⟩ := ho;refine ⟨o2, h2, fun a w M ρ R hS ht k => loopWp_round (hx a w M ρ _ hS ht ?_)⟩;intro a' w' M' ρ' he ht' hS' hd;refine hy a' w' M' ρ' R hS' ht' ?_;rw [hd];exact k.later he
 | exit id t' H' => exact ⟨_, ho, fun a w M ρ R hS ht k => loopWp_round (hx a w M ρ _ hS ht k)⟩
 | ret t' H' => exact ⟨_, ho, fun a w M ρ R hS ht k => loopWp_round (hx a w M ρ _ hS ht k)⟩
 | pan v t' H' => exact ⟨_, ho, fun a w M ρ R hS ht k => loopWp_round (hx a w M ρ _ hS ht k)⟩
 | no => exact ⟨.no, ho, fun a w M ρ R hS ht k => k.elim⟩
theorem Tri.loop (h : LTri P T c t H Q) : Tri P T (.loop c) t H Q := h.imp fun _ k => ⟨k.1, fun a w M ρ R hS ht q => wp_of_loopWp (k.2 a w M ρ R hS ht q)⟩
def Ends (T : Tab) (fn : Func) (r : Res) (o : Out) : Prop :=
 match o, r with
 | .norm t H, .val v => finish T fn t.get H = .val v H
 | .ret t H, .val v => finish T fn t.get H = .val v H
 | .pan v _ _, .pan u => v = u
 | _, _ => False
def Body (P : Program) (T : Tab) (F : FuncId) (vs : List V) (r : Res) : Prop :=
 ∃ fn c, T.func F = some fn ∧ fn.body = some c ∧ vs.length ≤ fn.ntmps ∧ Tri P T c (Tm.init fn.ntmps vs) [] (Ends T fn r)
theorem relTm_init {M : Mem} {ρ : Ren} {vs : List V} {args : List Value} (hargs : relL M ρ vs args) {n : Nat} (hle : vs.length ≤ n) : relTm M ρ (Tm.init n vs) (args.toArray ++ Array.replicate (n - args.toArray.size) undef) := by
 have hl := relL_length hargs;refine ⟨by simp [Tm.init]; omega, fun k => ?_⟩;simp only [Tm.init, Tm.get];rw [Tr.get_fill, if_pos (Nat.zero_le _), Nat.sub_zero];simp only [Tr.get_leaf, Array.getD_eq_getD_getElem?];by_cases hk : k < vs.length
 ·rw [Array.getElem?_append_left (by simp; omega)];obtain ⟨x, hx, hxr⟩ := relL_get hargs (i := k) (v := vs[k]) (List.getElem?_eq_getElem hk);rw [List.getElem?_eq_getElem hk];simp only [List.getElem?_toArray, hx, Option.getD_some];exact hxr
 ·rw [List.getElem?_eq_none (by omega)];have : ((args.toArray ++ Array.replicate (n - args.toArray.size) undef)[k]?).getD undef = undef := by
   rw [Array.getElem?_append_right (by simp; omega), Array.getElem?_replicate];split <;> rfl
  rw [this];exact rel_undef
theorem con_of_body (hT : TOk P T) (hp : T.Plain) {f : FuncId} {vs : List V} {r : Res} (h : Body P T f vs r) (h1 : nlL vs = true) (h2 : r.nl = true) :
 Go.Proofs.Enters P f ∧ ∀ (H : Heap) (M : Mem) (ρ : Ren) (w : World) (args : List Value), SR T M ρ H w → relL M ρ vs args → CallOK P T f args.toArray M ρ w (r.at H) := by
 obtain ⟨fn, c, hfn, hc, hle, o, ho, ht⟩ := h;obtain ⟨hf, hent⟩ := hT.func f fn c hfn hc;refine ⟨hent, fun H M ρ w args hS hr => ?_⟩;have hr0 := nlL_rel (σ := []) vs args h1 hr;have key : Calls P f args.toArray w fun e w' => ∃ M' σ J, SR T M' σ J w' ∧ Ext M [] w M' σ w' ∧ (match r with | .val v => ∃ x, e = .returned x ∧ rel M' σ v x | .pan v => ∃ x, e = .panicked [{ v := x, recovered := false }] ∧ rel M' σ v x) := by
  refine calls_of_wp hf hc (ht { tmps := args.toArray ++ Array.replicate (fn.ntmps - args.toArray.size) undef, defers := [] } w M [] _ (hS.forget hp) (relTm_init hr0 hle) ?_);cases o with
  | norm t' H' =>
   cases r with
   | pan v => exact ho.elim
   | val v =>
    intro a' w' M' ρ' he ht' hS' hd;obtain ⟨_, x, hx, hxr⟩ := results_ok hT hS' ht'.2 ho;exact ⟨hd, x, hx, M', ρ', H', hS', he, x, rfl, hxr⟩
  | ret t' H' =>
   cases r with
   | pan v => exact ho.elim
   | val v =>
    intro a' w' M' ρ' he ht' hS' hd;obtain ⟨_, x, hx, hxr⟩ := results_ok hT hS' ht'.2 ho;exact ⟨hd, x, hx, M', ρ', H', hS', he, x, rfl, hxr⟩
  | pan v t' H' =>
   cases r with
   | val v => exact ho.elim
   | pan u =>
    intro a' w' M' ρ' x he _ hx hS' hd;cases ho;exact ⟨hd, M', ρ', H', hS', he, x, rfl, hx⟩
  | exit id t' H' => cases r <;> exact ho.elim
  | no => cases r <;> exact ho.elim
 cases r with
 | val v =>
  refine Calls.mono key ?_;rintro e w' ⟨M', σ, J, hk, he, x, rfl, hx⟩;exact ⟨x, M', ρ, rfl, he.recall, nl_rel v x h2 hx, hS.recall hk he⟩
 | pan v =>
  refine Calls.mono key ?_;rintro e w' ⟨M', σ, J, hk, he, x, rfl, hx⟩;exact ⟨x, M', ρ, rfl, he.recall, nl_rel v x h2 hx, hS.recall hk he⟩
def EBody (P : Program) (T : Tab) (F : FuncId) (vs : List V) (R : Res → Prop) : Prop :=
 ∃ fn c, T.func F = some fn ∧ fn.body = some c ∧ vs.length ≤ fn.ntmps ∧ Tri P T c (Tm.init fn.ntmps vs) [] fun o => ∃ r, R r ∧ Ends T fn r o
theorem EBody.out {F : FuncId} {vs : List V} {R : Res → Prop} (h : EBody P T F vs R) : ∃ r, R r ∧ Body P T F vs r := by
 obtain ⟨fn, c, h1, h2, h3, o, ⟨r, hr, he⟩, hx⟩ := h;exact ⟨r, hr, fn, c, h1, h2, h3, o, he, hx⟩
theorem Body.ex {F : FuncId} {vs : List V} {r : Res} (h : Body P T F vs r) : EBody P T F vs (· = r) := by
 obtain ⟨fn, c, h1, h2, h3, o, he, hx⟩ := h;exact ⟨fn, c, h1, h2, h3, o, ⟨r, rfl, he⟩, hx⟩
def EndsH (T : Tab) (fn : Func) (R : V → Heap → Prop) : Out → Prop
 | .norm t H => ∃ v, R v H ∧ finish T fn t.get H = .val v H
 | .ret t H => ∃ v, R v H ∧ finish T fn t.get H = .val v H
 | _ => False
def HBody (P : Program) (T : Tab) (F : FuncId) (vs : List V) (H : Heap) (R : V → Heap → Prop) : Prop :=
 ∃ fn c, T.func F = some fn ∧ fn.body = some c ∧ vs.length ≤ fn.ntmps ∧ Tri P T c (Tm.init fn.ntmps vs) H (EndsH T fn R)
theorem hbody_fact (hT : TOk P T) {f : FuncId} {vs : List V} {H : Heap} {R : V → Heap → Prop} (h : HBody P T f vs H R) :
 ∃ v H', R v H' ∧ Go.Proofs.Enters P f ∧ ∀ (M : Mem) (ρ : Ren) (w : World) (args : List Value), SR T M ρ H w → relL M ρ vs args → CallOK P T f args.toArray M ρ w (.val v H') := by
 obtain ⟨fn, c, hfn, hc, hle, o, ho, ht⟩ := h;obtain ⟨hf, hent⟩ := hT.func f fn c hfn hc;cases o with
 | norm t' H' =>
  obtain ⟨v, hR, hv⟩ := ho;refine ⟨v, H', hR, hent, fun M ρ w args hS hr => ?_⟩;refine calls_of_wp hf hc (ht { tmps := args.toArray ++ Array.replicate (fn.ntmps - args.toArray.size) undef, defers := [] } w M ρ _ hS (relTm_init hr hle) ?_);intro a' w' M' ρ' he ht' hS' hd;obtain ⟨_, x, hx, hxr⟩ := results_ok hT hS' ht'.2 hv;exact ⟨hd, x, hx, x, M', ρ', rfl, he, hxr, hS'⟩
 | ret t' H' =>
  obtain ⟨v, hR, hv⟩ := ho;refine ⟨v, H', hR, hent, fun M ρ w args hS hr => ?_⟩;refine calls_of_wp hf hc (ht { tmps := args.toArray ++ Array.replicate (fn.ntmps - args.toArray.size) undef, defers := [] } w M ρ _ hS (relTm_init hr hle) ?_);intro a' w' M' ρ' he ht' hS' hd;obtain ⟨_, x, hx, hxr⟩ := results_ok hT hS' ht'.2 hv;exact ⟨hd, x, hx, x, M', ρ', rfl, he, hxr, hS'⟩
 | pan v t' H' => exact ho.elim
 | exit id t' H' => exact ho.elim
 | no => exact ho.elim
end
end Go.Ev
namespace Go.Ev
open Go
section
variable {P : Program} {T : Tab} {t : Tm} {H H' : Heap} {Q Q' : Out → Prop} {c : Code}

theorem get_put (t : Tm) (d k : Nat) (v : V) : (t.put (some d) v).get k = if k = d then v else t.get k := by rw [Tm.get_put]; rfl
theorem get_none (t : Tm) (v : V) : t.put none v = t := rfl
theorem get_init (n : Nat) (l : List V) (k : Nat) : (Tm.init n l).get k = (l[k]?).getD .un := by
 simp only [Tm.init, Tm.get, Tr.get_fill, Nat.zero_le, if_true, Nat.sub_zero, Tr.get_leaf]
theorem fits_some (t : Tm) (d : Nat) : t.fits (some d) = Nat.blt d t.wid := rfl
theorem fits_none (t : Tm) : t.fits none = true := rfl
theorem evReg_false (call : CallF) (ops : Array Oper) (t : Tm) (H : Heap) : evReg T call ops false t H = evSeq (evOp T call) ops ops.toList t H := rfl
variable {step : Oper → Env → Heap → OR} {ops : Array Oper} {o : Oper} {r : List Oper} {v : V} {out : Out}
theorem evSeq_val (hw : wants ops o t.get = some true) (hs : step o t.get H = .val v H') (hf : t.fits o.dst = true) (h : evSeq step ops r (t.put o.dst v) H' = out) : evSeq step ops (o :: r) t H = out := by
 simp only [evSeq, hw, hs, opened_eq, putK_eq, hf, if_true];exact h
theorem evSeq_off (hw : wants ops o t.get = some false) (hf : t.fits o.dst = true) (h : evSeq step ops r (t.put o.dst .un) H = out) : evSeq step ops (o :: r) t H = out := by
 simp only [evSeq, hw, putK_eq, hf, if_true];exact h
theorem evSeq_pan (hw : wants ops o t.get = some true) (hs : step o t.get H = .pan v H') : evSeq step ops (o :: r) t H = .pan v t H' := by
 simp only [evSeq, hw, hs]
theorem evSeq_nil : evSeq step ops [] t H = .norm t H := rfl
end
end Go.Ev
namespace Go.Ev
open Go
theorem evSeq_go {step : Oper → Env → Heap → OR} {ops : Array Oper} {o : Oper} {r : List Oper} {v : V} {out : Out} {t : Tm} {H H' : Heap} {x : OR} (hw : wants ops o t.get = some true) (hs : step o t.get H = x) (hx : x = .val v H') (hf : t.fits o.dst = true) (h : evSeq step ops r (t.put o.dst v) H' = out) : evSeq step ops (o :: r) t H = out :=
 evSeq_val hw (hs.trans hx) hf h
end Go.Ev
namespace Go.Ev
open Go
theorem wrap_i64 {n : Int} (h1 : -9223372036854775808 ≤ n) (h2 : n < 9223372036854775808) : IntKind.i64.wrap n = n := by
 have e : (2 : Int) ^ IntKind.i64.bits = 18446744073709551616 := rfl;have e2 : (2 : Int) ^ (IntKind.i64.bits - 1) = 9223372036854775808 := rfl;simp only [IntKind.wrap, e, e2, IntKind.signed, Bool.true_and, decide_eq_true_eq];split <;> omega
end Go.Ev
namespace Go.Ev
open Go Go.Proofs
set_option linter.unusedSimpArgs false
set_option linter.unusedVariables false
set_option linter.unnecessarySimpa false
open Go
section
variable {T : Tab} {step : Oper → Env → Heap → OR} {ops : Array Oper} {H : Heap}
inductive QR (step : Oper → Env → Heap → OR) (ops : Array Oper) (H : Heap) : List Oper → Tm → Tm → Prop
  | nil {t : Tm} : QR step ops H [] t t
  | val {o : Oper} {r : List Oper} {t t' : Tm} {x : OR} {v : V} (hw : wants ops o t.get = some true) (hs : step o t.get H = x) (hx : x = .val v H) (hf : t.fits o.dst = true) (h : QR step ops H r (t.put o.dst v) t') : QR step ops H (o :: r) t t'
  | off {o : Oper} {r : List Oper} {t t' : Tm} (hw : wants ops o t.get = some false) (hf : t.fits o.dst = true) (h : QR step ops H r (t.put o.dst .un) t') : QR step ops H (o :: r) t t'
theorem effs_none : ∀ (rs : List Rec) (k : Nat), (∀ r ∈ rs, r.e = false) → effsFrom rs k = []
 | [], _, _ => rfl
 | r :: rs, k, h => by simp [effsFrom, h r (by simp), effs_none rs (k + 1) fun q hq => h q (by simp [hq])]
theorem QR.run : ∀ {l : List Oper} {t t' : Tm}, QR step ops H l t t' → ∃ rs, drawRun step ops l t H = some (rs, [H], t') ∧ ∀ r ∈ rs, r.e = false
 | _, _, _, .nil => ⟨[], rfl, by simp⟩
 | _, _, _, .val (o := o) (r := l) (t := t) (v := v) hw hs hx hf h => by
  obtain ⟨rs, h1, h2⟩ := QR.run h;subst hx;refine ⟨⟨o, t.get, v, true, false⟩ :: rs, ?_, by simpa using h2⟩;simp only [drawRun, hw, hs, opened_eq, putK_eq, hf, if_true, h1, Heap.beq_refl, Bool.not_true, Bool.and_false, Bool.false_eq_true, if_false]
 | _, _, _, .off (o := o) (r := l) (t := t) hw hf h => by
  obtain ⟨rs, h1, h2⟩ := QR.run h;refine ⟨⟨o, t.get, .un, false, false⟩ :: rs, ?_, by simpa using h2⟩;simp only [drawRun, hw, putK_eq, hf, if_true, h1]
theorem QR.draw {t t' : Tm} (h : QR step ops H ops.toList t t') (hs : drawStat ops.toList ops (masks ops.toList []) = true) : evDraw step ops t H = .norm t' H := by
 obtain ⟨rs, h1, h2⟩ := h.run;have h3 : (effs rs).isEmpty = true := by rw [effs, effs_none rs 0 h2]; rfl
 simp only [evDraw, h1, hs, h3, Bool.true_or, Bool.and_true, if_true, List.getLast?_singleton]
theorem evReg_quiet {call : CallF} {t t' : Tm} {out : Out} (hs : drawStat ops.toList ops (masks ops.toList []) = true) (h : QR (evOp T call) ops H ops.toList t t') (ho : Out.norm t' H = out) : evReg T call ops true t H = out := by
 rw [← ho];exact h.draw hs
end
open Go
noncomputable def sub : List Bool → Code → Code
 | false :: p, .seq a _ => sub p a
 | true :: p, .seq _ b => sub p b
 | false :: p, .cond _ a _ => sub p a
 | true :: p, .cond _ _ b => sub p b
 | _ :: p, .block _ c => sub p c
 | _ :: p, .loop c => sub p c
 | _, c => c
noncomputable def bodyOf (fn : Func) : Code := fn.body.getD .skip
section
variable {P : Program} {T : Tab} {t : Tm} {H : Heap} {Q : Out → Prop} {c y : Code} {id j : Nat} {v : V}
def inSeq (P : Program) (T : Tab) (y : Code) (Q : Out → Prop) : Out → Prop
 | .norm t H => Tri P T y t H Q
 | o => Q o
def inBlk (id : Nat) (Q : Out → Prop) : Out → Prop
 | .exit j t H => if j = id then Q (.norm t H) else Q (.exit j t H)
 | o => Q o
def inLoop (P : Program) (T : Tab) (c : Code) (Q : Out → Prop) : Out → Prop
 | .norm t H => LTri P T c t H Q
 | o => Q o
theorem Tri.seq' {x : Code} (h : Tri P T x t H (inSeq P T y Q)) : Tri P T (.seq x y) t H Q := Tri.seq (h.mono fun o ho => by cases o <;> exact ho)
theorem Tri.block' {x : Code} (h : Tri P T x t H (inBlk id Q)) : Tri P T (.block id x) t H Q := Tri.block (h.mono fun o ho => by cases o <;> exact ho)
theorem LTri.round' (h : Tri P T c t H (inLoop P T c Q)) : LTri P T c t H Q := LTri.round (h.mono fun o ho => by cases o <;> exact ho)
theorem inSeq_norm (h : Tri P T y t H Q) : inSeq P T y Q (.norm t H) := h
theorem inSeq_exit (h : Q (.exit j t H)) : inSeq P T y Q (.exit j t H) := h
theorem inSeq_ret (h : Q (.ret t H)) : inSeq P T y Q (.ret t H) := h
theorem inSeq_pan (h : Q (.pan v t H)) : inSeq P T y Q (.pan v t H) := h
theorem inBlk_norm (h : Q (.norm t H)) : inBlk id Q (.norm t H) := h
theorem inBlk_exit (h : Q (.norm t H)) : inBlk id Q (.exit id t H) := by simpa only [inBlk, if_true] using h
theorem inBlk_pass (hj : (j == id) = false) (h : Q (.exit j t H)) : inBlk id Q (.exit j t H) := by
 have : ¬ j = id := by simpa using hj
 simpa only [inBlk, if_neg this] using h
theorem inBlk_ret (h : Q (.ret t H)) : inBlk id Q (.ret t H) := h
theorem inBlk_pan (h : Q (.pan v t H)) : inBlk id Q (.pan v t H) := h
theorem inLoop_norm (h : LTri P T c t H Q) : inLoop P T c Q (.norm t H) := h
theorem inLoop_exit (h : Q (.exit j t H)) : inLoop P T c Q (.exit j t H) := h
theorem inLoop_ret (h : Q (.ret t H)) : inLoop P T c Q (.ret t H) := h
theorem inLoop_pan (h : Q (.pan v t H)) : inLoop P T c Q (.pan v t H) := h
theorem Tri.regN (hT : TOk P T) {call : CallF} (hC : call.Sound P T) {ops : Array Oper} {d : Bool} {t' : Tm} {H' : Heap} (he : evReg T call ops d t H = .norm t' H') (h : Q (.norm t' H')) : Tri P T (.region id ops d) t H Q := Tri.reg hT hC he h
theorem Tri.condG {g : Operand} {x z : Code} {o : Option V} {b : Bool} (hg : ev1 t.get g = o) (ho : o = some (.b b)) (h1 : b = true → Tri P T x t H Q) (h2 : b = false → Tri P T z t H Q) : Tri P T (.cond g x z) t H Q := Tri.cond (hg.trans ho) h1 h2
theorem go_false {call : CallF} {ops : Array Oper} {out : Out} (h : evSeq (evOp T call) ops ops.toList t H = out) : evReg T call ops false t H = out := h
end
open Go
abbrev Spec := List V → Heap → OR
section
variable {P : Program} {T : Tab} {F : FuncId}
def SpecOK (P : Program) (T : Tab) (F : FuncId) (g : Spec) : Prop :=
 ∀ vs H r, g vs H = r → r ≠ .no → Go.Proofs.Enters P F ∧ ∀ (M : Mem) (ρ : Ren) (w : World) (args : List Value), SR T M ρ H w → relL M ρ vs args → CallOK P T F args.toArray M ρ w r
def CallF.none : CallF := fun _ _ _ => .no
def CallF.with (call : CallF) (F : FuncId) (g : Spec) : CallF := fun f vs H => if f = F then g vs H else call f vs H
theorem CallF.none_sound : CallF.none.Sound P T := fun _ _ _ _ h hr => absurd h.symm hr
theorem CallF.with_sound {call : CallF} (hc : call.Sound P T) {g : Spec} (hg : SpecOK P T F g) : (call.with F g).Sound P T := by
 intro f vs H r h hr;simp only [CallF.with] at h;by_cases e : f = F
 ·rw [if_pos e] at h;subst e;exact .inl (hg vs H r h hr)
 ·rw [if_neg e] at h;exact hc f vs H r h hr
theorem CallF.with_here (call : CallF) (F : FuncId) (g : Spec) (vs : List V) (H : Heap) : call.with F g F vs H = g vs H := by simp [CallF.with]
theorem CallF.with_other (call : CallF) {F f : FuncId} (g : Spec) (vs : List V) (H : Heap) (h : (f == F) = false) : call.with F g f vs H = call f vs H := by
 have : ¬ f = F := by simpa using h
 simp [CallF.with, this]
def SpecD (P : Program) (T : Tab) (F : FuncId) (g : Spec) : Prop := ∀ vs H r, g vs H = r → r ≠ .no → Direct P T F vs H r
theorem spec_pure (hT : TOk P T) (hp : T.Plain) (F : FuncId) (D : List V → Prop) (R : List V → Res → Prop)
    (h : ∀ vs, D vs → nlL vs = true ∧ (∀ r, R vs r → r.nl = true) ∧ EBody P T F vs (R vs)) : ∃ g, SpecOK P T F g ∧ ∀ vs, D vs → ∃ r, R vs r ∧ ∀ H, g vs H = r.at H := by
  classical
  have hx : ∀ vs, D vs → ∃ r, R vs r ∧ Body P T F vs r := fun vs hd => (h vs hd).2.2.out
  refine ⟨fun vs H => if hd : D vs then (hx vs hd).choose.at H else .no, ?_, ?_⟩
  · intro vs H r hr hne
    simp only at hr
    split at hr
    · rename_i hd
      obtain ⟨h1, h2⟩ := (hx vs hd).choose_spec
      obtain ⟨h3, h4⟩ := con_of_body hT hp h2 (h vs hd).1 ((h vs hd).2.1 _ h1)
      subst hr
      exact ⟨h3, h4 H⟩
    · exact absurd hr.symm hne
  · intro vs hd
    exact ⟨_, (hx vs hd).choose_spec.1, fun H => dif_pos hd⟩
end
end Go.Ev
namespace Go.Ev
open Go
def rowsOf (sz : Nat) : Nat → List V → Option (List V)
 | 0, _ => some []
 | k + 1, l => if l.length < sz ∨ sz = 0 then none else
  match rowsOf sz k (l.drop sz) with
  | some r => some ((match sz, l with
   | 1, v :: _ => if V.isAgg v then .agg [v] else v
   | _, _ => .agg (l.take sz)) :: r)
  | none => none
mutual
/-- A value whose blocks are frozen. -/
def fz (H : Heap) : Nat → V → Option V
  | 0, _ => none
  | n + 1, v => match v with
    | .ptr b off => match cellsAt H b with
      | some blk => match fzL H n blk.cells with
        | some l => some (.ipt l.length [.agg l] 0 off)
        | none => none
      | none => none
    | .sl b sz off len _ => match cellsAt H b with
      | some blk => match cut blk.cells (off * sz) (len * sz) with
        | some c => match fzL H n c with
          | some l => (rowsOf sz len l).map (.isl sz ·)
          | none => none
        | none => none
      | none => none
    | .mp _ => none
    | .agg l => (fzL H n l).map .agg
    | .tup l => (fzL H n l).map .tup
    | .fn g l => (fzL H n l).map (.fn g ·)
    | .bfn g l => (fzL H n l).map (.bfn g ·)
    | .ifc t v => (fz H n v).map (.ifc t ·)
    | .isl .. => if nl v then some v else none
    | .ipt .. => if nl v then some v else none
    | v => some v
def fzL (H : Heap) : Nat → List V → Option (List V)
  | _, [] => some []
  | 0, _ => none
  | n + 1, v :: l => match fz H n v, fzL H n l with
    | some x, some r => some (x :: r)
    | _, _ => none
end
end Go.Ev
namespace Go.Ev
open Go
section
variable {T : Tab} {M : Mem} {ρ : Ren} {H : Heap} {w : World}
open Classical in
noncomputable def frz (M : Mem) (ρ : Ren) (H : Heap) (w : World) : Mem := fun b => match M b with
 | some o => some o
 | none => if ∃ (n : Nat) (blk : Blk) (c : Nat), H[n]? = some (some blk) ∧ ρ[n]? = some (b, c) then w.heap[b]? else none
theorem le_frozen : M.le (frz M ρ H w) := fun b o h => by simp [frz, h]
theorem frozen_at {n : Nat} {blk : Blk} {b c : Nat} (hM : M b = none) (h : H[n]? = some (some blk)) (hr : ρ[n]? = some (b, c)) : frz M ρ H w b = w.heap[b]? := by
 simp only [frz, hM];rw [if_pos ⟨n, blk, c, h, hr⟩]
theorem rowsOf_length : ∀ {sz k : Nat} {l r : List V}, rowsOf sz k l = some r → r.length = k
 | sz, 0, l, r, h => by simp [rowsOf] at h; subst h; rfl
 | sz, k + 1, l, r, h => by
  simp only [rowsOf] at h;split at h
  ·cases h
  ·split at h
   ·rename_i r' hr;cases h;simp [rowsOf_length hr]
   ·cases h
theorem rowsOf_rel : ∀ {sz k : Nat} {l r : List V} {ds : List Value} {b o : Nat}, rowsOf sz k l = some r → relL M ρ l ds → (∀ j c, ds[j]? = some c → M.cell b (o + j) = some c) → relRow M ρ sz r b o
 | sz, 0, l, r, ds, b, o, h, _, _ => by simp [rowsOf] at h; subst h; simp [relRow]
 | sz, k + 1, l, r, ds, b, o, h, hl, hm => by
  simp only [rowsOf] at h;split at h
  ·cases h
  rename_i hsz;split at h;case h_2 => cases h
  rename_i r' hr;cases h;simp only [relRow];refine ⟨?_, rowsOf_rel hr (relL_drop sz hl) fun j c hj => ?_⟩
  ·have hlen := relL_length hl;have big : ∃ x : Value, rel M ρ (.agg (l.take sz)) x ∧ x.cells.size = sz ∧ ∀ j c, x.cells[j]? = some c → M.cell b (o + j) = some c := by
    refine ⟨.agg (ds.take sz).toArray, by simp only [rel]; exact ⟨_, rfl, relL_take sz hl⟩, by simp [Value.cells]; omega, fun j c hj => hm j c ?_⟩;simp only [Value.cells, List.getElem?_toArray, List.getElem?_take] at hj;split at hj
    ·exact hj
    ·cases hj
   split
   ·rename_i v l';simp only [relL] at hl;obtain ⟨x, r2, rfl, hx, _⟩ := hl;split
    ·simpa using big
    ·rename_i hna;refine ⟨x, hx, ?_, fun j c hj => ?_⟩
     ·have := relL_length (rel_cells hx);cases v <;> simp_all [V.cells, V.isAgg]
     ·have h1 := rel_cells hx;have hc : x.cells.toList = [x] := by
       cases v <;> simp only [rel] at hx <;> first
        | (simp [V.isAgg] at hna; done)
        | (subst hx; rfl)
        | (obtain ⟨_, rfl, _⟩ := hx; rfl)
        | (obtain ⟨_, _, _, rfl⟩ := hx; rfl)
        | (obtain ⟨_, _, _, _, rfl, _⟩ := hx; rfl)
        | (obtain ⟨_, _, rfl⟩ := hx; rfl)
        | (obtain ⟨_, _, rfl, _⟩ := hx; rfl)
      have : x.cells = #[x] := by apply Array.ext'; simpa using hc
      rw [this] at hj;cases j with
      | zero => simp at hj; subst hj; exact hm 0 _ rfl
      | succ j => simp at hj
   ·exact big
  ·rw [List.getElem?_drop] at hj;have := hm (sz + j) c hj;rwa [← Nat.add_assoc] at this
end
end Go.Ev
namespace Go.Ev
open Go
section
variable {T : Tab} {M : Mem} {ρ : Ren} {H : Heap} {w : World}
theorem rowsOf_nl : ∀ {sz k : Nat} {l r : List V}, rowsOf sz k l = some r → nlL l = true → nlL r = true
 | sz, 0, l, r, h, _ => by simp [rowsOf] at h; subst h; rfl
 | sz, k + 1, l, r, h, hn => by
  have hd : ∀ (n : Nat) (l : List V), nlL l = true → nlL (l.drop n) = true := by
   intro n;induction n with
   | zero => intro l h; simpa using h
   | succ n ih => intro l h; cases l with
    | nil => simpa using h
    | cons v l => simp only [nlL, Bool.and_eq_true] at h; simpa using ih l h.2
  have ht : ∀ (l : List V) (n : Nat), nlL l = true → nlL (l.take n) = true := by
   intro l;induction l with
   | nil => intro n h; simpa using h
   | cons v l ih => intro n h; cases n with
    | zero => rfl
    | succ n => simp only [nlL, Bool.and_eq_true] at h; simp [nlL, h.1, ih n h.2]
  simp only [rowsOf] at h;split at h
  ·cases h
  split at h;case h_2 => cases h
  rename_i r' hr;cases h;simp only [nlL, Bool.and_eq_true];refine ⟨?_, rowsOf_nl hr (hd sz l hn)⟩;split
  ·rename_i v l';simp only [nlL, Bool.and_eq_true] at hn;split
   ·simp [nl, nlL, hn.1]
   ·exact hn.1
  ·simpa [nl] using ht l sz hn
mutual
theorem fz_rel (hS : SR T M ρ H w) : ∀ (n : Nat) (v v' : V) (x : Value), fz H n v = some v' → rel M ρ v x → rel (frz M ρ H w) ρ v' x ∧ nl v' = true
  | 0, _, _, _, h, _ => by simp [fz] at h
  | n + 1, v, v', x, h, hr => by
    have keep : nl v = true → some v = some v' → rel (frz M ρ H w) ρ v' x ∧ nl v' = true := fun hn e => by
      cases e
      exact ⟨rel_mono le_frozen (List.prefix_refl _) _ _ hr, hn⟩
    simp only [fz] at h
    split at h
    · rename_i b off
      split at h
      case h_2 => cases h
      rename_i blk hb
      split at h
      case h_2 => cases h
      rename_i l hl
      cases h
      simp only [rel] at hr
      obtain ⟨b', c, h1, rfl⟩ := hr
      obtain ⟨b2, c2, cs, cs', h2, hM, hlen, hheap, hrel, _⟩ := hS.cells hb
      rw [h1] at h2
      cases h2
      obtain ⟨h3, h4⟩ := fzL_rel hS n _ _ _ hl hrel
      refine ⟨?_, by simp [nl, nlL, h4]⟩
      simp only [rel]
      refine ⟨b', 0, by simp, ?_⟩
      simp only [relRow, and_true]
      refine ⟨.agg cs.toArray, by simp only [rel]; exact ⟨cs, rfl, h3⟩, by simp [Value.cells, relL_length h3], fun j q hj => ?_⟩
      simp only [Mem.cell, frozen_at hM (cellsAt_some hb).1 h1, hheap]
      simp only [Value.cells, List.getElem?_toArray] at hj
      rw [List.getElem?_toArray, Nat.zero_add, List.getElem?_append_left (List.getElem?_eq_some_iff.1 hj).1]
      exact hj
    · rename_i b sz off len cap
      split at h
      case h_2 => cases h
      rename_i blk hb
      split at h
      case h_2 => cases h
      rename_i c hc
      split at h
      case h_2 => cases h
      rename_i l hl
      cases hro : rowsOf sz len l with
      | none => rw [hro] at h; cases h
      | some r =>
        rw [hro] at h
        cases h
        simp only [rel] at hr
        obtain ⟨b', c', k, h1, rfl, hk, _, _⟩ := hr
        obtain ⟨b2, c2, cs, cs', h2, hM, hlen, hheap, hrel, _⟩ := hS.cells hb
        rw [h1] at h2
        cases h2
        obtain ⟨rfl, hfit⟩ := cut_some hc
        have hcut := relL_take (len * sz) (relL_drop (off * sz) hrel)
        obtain ⟨h3, h4⟩ := fzL_rel hS n _ _ _ hl hcut
        refine ⟨?_, by simpa [nl] using rowsOf_nl hro h4⟩
        simp only [rel]
        have hrl := rowsOf_length hro
        refine ⟨_, k, by rw [hrl], by omega, fun _ => ⟨b', off * sz, rfl, rowsOf_rel hro h3 fun j q hj => ?_⟩⟩
        simp only [Mem.cell, frozen_at hM (cellsAt_some hb).1 h1, hheap]
        rw [List.getElem?_take] at hj
        split at hj
        · rw [List.getElem?_drop] at hj
          rw [List.getElem?_toArray, List.getElem?_append_left (List.getElem?_eq_some_iff.1 hj).1]
          exact hj
        · cases hj
    · cases h
    · rename_i l
      cases hl : fzL H n l with
      | none => rw [hl] at h; cases h
      | some l' =>
        rw [hl] at h
        cases h
        simp only [rel] at hr ⊢
        obtain ⟨cs, e, k⟩ := hr
        obtain ⟨h3, h4⟩ := fzL_rel hS n _ _ _ hl k
        exact ⟨⟨cs, e, h3⟩, by simpa [nl] using h4⟩
    · rename_i l
      cases hl : fzL H n l with
      | none => rw [hl] at h; cases h
      | some l' =>
        rw [hl] at h
        cases h
        simp only [rel] at hr ⊢
        obtain ⟨cs, e, k⟩ := hr
        obtain ⟨h3, h4⟩ := fzL_rel hS n _ _ _ hl k
        exact ⟨⟨cs, e, h3⟩, by simpa [nl] using h4⟩
    · rename_i g l
      cases hl : fzL H n l with
      | none => rw [hl] at h; cases h
      | some l' =>
        rw [hl] at h
        cases h
        simp only [rel] at hr ⊢
        obtain ⟨cs, e, k⟩ := hr
        obtain ⟨h3, h4⟩ := fzL_rel hS n _ _ _ hl k
        exact ⟨⟨cs, e, h3⟩, by simpa [nl] using h4⟩
    · rename_i g l
      cases hl : fzL H n l with
      | none => rw [hl] at h; cases h
      | some l' =>
        rw [hl] at h
        cases h
        simp only [rel] at hr ⊢
        obtain ⟨cs, e, k⟩ := hr
        obtain ⟨h3, h4⟩ := fzL_rel hS n _ _ _ hl k
        exact ⟨⟨cs, e, h3⟩, by simpa [nl] using h4⟩
    · rename_i t u
      cases hl : fz H n u with
      | none => rw [hl] at h; cases h
      | some u' =>
        rw [hl] at h
        cases h
        simp only [rel] at hr ⊢
        obtain ⟨y, e, k⟩ := hr
        obtain ⟨h3, h4⟩ := fz_rel hS n _ _ _ hl k
        exact ⟨⟨y, e, h3⟩, by simpa [nl] using h4⟩
    · split at h
      · rename_i hn; exact keep hn h
      · cases h
    · split at h
      · rename_i hn; exact keep hn h
      · cases h
    · rename_i h1 h2 h3 h4 h5 h6 h7 h8 h9 h10
      refine keep ?_ h
      cases v <;> first
        | rfl
        | (exfalso; first | exact h1 _ _ rfl | exact h2 _ _ _ _ _ rfl | exact h3 _ rfl | exact h4 _ rfl | exact h5 _ rfl | exact h6 _ _ rfl | exact h7 _ _ rfl | exact h8 _ _ rfl | exact h9 _ _ rfl | exact h10 _ _ _ _ rfl)
theorem fzL_rel (hS : SR T M ρ H w) : ∀ (n : Nat) (l l' : List V) (cs : List Value), fzL H n l = some l' → relL M ρ l cs → relL (frz M ρ H w) ρ l' cs ∧ nlL l' = true
  | n, [], l', cs, h, hr => by
    have : l' = [] := by cases n <;> simp [fzL] at h <;> exact h
    subst this
    exact ⟨by simpa [relL] using hr, rfl⟩
  | 0, _ :: _, _, _, h, _ => by simp [fzL] at h
  | n + 1, v :: l, l', cs, h, hr => by
    simp only [fzL] at h
    split at h
    · rename_i u r hu hrr
      cases h
      simp only [relL] at hr
      obtain ⟨x, q, rfl, hx, hq⟩ := hr
      obtain ⟨h1, h2⟩ := fz_rel hS n _ _ _ hu hx
      obtain ⟨h3, h4⟩ := fzL_rel hS n _ _ _ hrr hq
      exact ⟨relL_cons h1 h3, by simp [nlL, h2, h4]⟩
    · cases h
end
theorem SR.freeze (hp : T.Plain) (hS : SR T M ρ H w) : SR T (frz M ρ H w) [] [] w where
  frozen b o hb := by
    cases hM : M b with
    | some q => simp [frz, hM] at hb; subst hb; exact hS.frozen b _ hM
    | none =>
      simp only [frz, hM] at hb
      split at hb
      · exact hb
      · cases hb
  len := rfl
  blk n b hn := by simp at hn
  inj n m x y b c c' hn := by simp at hn
  glob g l hl := by
    obtain ⟨cs, ty, fr, hM, hr⟩ := hS.glob g l hl
    exact ⟨cs, ty, fr, le_frozen _ _ hM, nlL_rel l cs (hp g l hl) (relL_mono le_frozen (List.prefix_refl _) _ _ hr)⟩
  gint g hg := by
    obtain ⟨m, ty, fr, hM⟩ := hS.gint g hg
    exact ⟨m, ty, fr, le_frozen _ _ hM⟩
end
end Go.Ev
namespace Go.Ev
open Go
section
variable {P : Program} {T : Tab} {M : Mem} {ρ : Ren} {H : Heap} {w : World}
theorem CallOK.frame_fz {f : FuncId} {args : Array Value} {v v' : V} {J : Heap} {k : Nat} (hp : T.Plain) (hS : SR T M ρ H w) (h : CallOK P T f args M [] w (.val v J)) (hf : fz J k v = some v') : CallOK P T f args M ρ w (.val v' H) := by
  refine Calls.mono h ?_
  rintro e w' ⟨x, M', σ, rfl, he, hx, hk⟩
  obtain ⟨h1, h2⟩ := fz_rel hk k v v' x hf hx
  have hk2 := hk.freeze hp
  have he2 : Ext M [] w (frz M' σ J w') [] w' := {
    os := he.os, tape := he.tape, output := he.output, size := he.size
    mem := he.mem.trans le_frozen
    pre := List.prefix_refl _
    frame := he.frame
    newM := fun b hb hn => by
      have h3 := he.newM b hb hn
      simp only [frz]
      cases hM : M' b with
      | some o => rw [← h3, hM]
      | none =>
        rw [← h3, hM]
        simp only
        rw [if_neg]
        rintro ⟨n, blk, c, _, hr⟩
        rcases he.newR b c (List.mem_of_getElem? hr) with ⟨c', h'⟩ | h'
        · simp at h'
        · omega
    newR := fun b c hc => by simp at hc }
  exact ⟨x, _, ρ, rfl, he2.recall, nl_rel v' x h2 h1, hS.recall hk2 he2⟩
end
end Go.Ev
namespace Go.Ev
open Go
section
variable {P : Program} {T : Tab} {M : Mem} {ρ : Ren} {H : Heap} {w : World}
theorem Ext.frz : Ext M ρ w (frz M ρ H w) ρ w where
  os := rfl
  tape := rfl
  output := rfl
  size := Nat.le_refl _
  mem := le_frozen
  pre := List.prefix_refl _
  frame _ _ _ := rfl
  newM b _ hn := by
    simp only [Ev.frz]
    cases hM : M b with
    | some o => rfl
    | none =>
      simp only
      rw [if_neg]
      rintro ⟨n, blk, c, _, hr⟩
      exact hn c (List.mem_of_getElem? hr)
  newR b c h := .inl ⟨c, h⟩
theorem SR.frz (hS : SR T M ρ H w) : SR T (frz M ρ H w) ρ (H.map fun _ => none) w where
  frozen b o hb := by
    cases hM : M b with
    | some q => simp [Ev.frz, hM] at hb; subst hb; exact hS.frozen b _ hM
    | none =>
      simp only [Ev.frz, hM] at hb
      split at hb
      · exact hb
      · cases hb
  len := by rw [List.length_map]; exact hS.len
  blk n b hn := by
    rw [List.getElem?_map] at hn
    cases hh : H[n]? <;> rw [hh] at hn <;> cases hn
  inj n m x y b c c' hn := by
    rw [List.getElem?_map] at hn
    cases hh : H[n]? <;> rw [hh] at hn <;> cases hn
  glob g l hl := by
    obtain ⟨cs, ty, fr, hM, hr⟩ := hS.glob g l hl
    exact ⟨cs, ty, fr, le_frozen _ _ hM, relL_mono le_frozen (List.prefix_refl _) _ _ hr⟩
  gint g hg := by
    obtain ⟨m, ty, fr, hM⟩ := hS.gint g hg
    exact ⟨m, ty, fr, le_frozen _ _ hM⟩
theorem Tri.freeze {c : Code} {t t2 : Tm} {Q : Out → Prop} (hw : t2.wid = t.wid) (ht : ∀ k, t2.get k = t.get k ∨ ∃ n, fz H n (t.get k) = some (t2.get k)) (h : Tri P T c t2 (H.map fun _ => none) Q) : Tri P T c t H Q := by
 obtain ⟨o, ho, h⟩ := h;refine ⟨o, ho, fun a w M ρ R hS hr k => ?_⟩;refine h a w (Ev.frz M ρ H w) ρ R hS.frz ⟨hw.trans hr.1, fun j => ?_⟩ (k.later Ext.frz);rcases ht j with e | ⟨n, e⟩
 ·rw [e]; exact rel_mono le_frozen (List.prefix_refl _) _ _ (hr.2 j)
 ·exact (fz_rel hS n _ _ _ e (hr.2 j)).1
end
end Go.Ev
namespace Go.Ev
open Go Go.RowKit
section
variable {P : Program} {T : Tab} {M : Mem} {ρ : Ren} {w : World} {H : Heap}
abbrev FR (r : Option Nat) : Fence := { Fence.wide with round := r }
theorem wpIn_of_wp {r : Option Nat} {n : Nat} {o : Oper} {a : Act} {K : Act → World → Prop} {Q : Exit → Act → World → Prop} (hnd : ∀ c, o.op ≠ .defer c) (h : o.wp P a w K Q) : o.wpIn (FR r) n P a w K Q := by
 refine ⟨fun f _ => trivial, ?_⟩;rw [Oper.semAt_eq _ _ _ hnd];unfold Oper.wp at h;generalize (execOp a.eval o).run P w = res at h;have hd : (FR r).depth.isSome = true → 1 ≤ n := fun e => by cases e
 cases res with
 | ok v w' =>
  cases v with
  | enter f args =>
   refine ⟨hd, ?_⟩;have := (callsIn_wide (n := n - 1)).2 h;exact this
  | round => exact h.elim
  | row row args => exact ⟨hd, fun c cs _ => let ⟨v, w', r, s⟩ := h c cs; ⟨v, w', r, stepsIn_wide.2 s⟩⟩
  | _ => exact h
 | halt hh w' =>
  cases hh with
  | panic v => exact h
  | _ => exact h
theorem evSeqIn_ok (hT : TOk P T) {call : CallF} (hcall : call.Sound P T) (ops : Array Oper) {r : Option Nat} {n : Nat} {Q : Exit → Act → World → Prop} (rest : List Oper) : ∀ (l : List Oper) (t : Tm) (H : Heap) (a : Act) (w : World) (M : Mem) (ρ : Ren) (t' : Tm) (H' : Heap), SR T M ρ H w → relTm M ρ t a.tmps →
    (∀ o ∈ l, ∀ c, o.op ≠ .defer c) → evSeq (evOp T call) ops l t H = .norm t' H' →
    (∀ a' w' M' ρ', Ext M ρ w M' ρ' w' → relTm M' ρ' t' a'.tmps → SR T M' ρ' H' w' → a'.defers = a.defers → wpListIn (FR r) n P ops Q rest a' w') → wpListIn (FR r) n P ops Q (l ++ rest) a w
  | [], t, H, a, w, M, ρ, t', H', hS, ht, _, h, k => by
    simp only [evSeq] at h
    cases h
    exact k a w M ρ (Ext.refl _ _ _) ht hS rfl
  | o :: l, t, H, a, w, M, ρ, t', H', hS, ht, hnd, h, k => by
    simp only [evSeq, putK_eq, opened_eq] at h
    rw [List.cons_append]
    unfold wpListIn
    split at h
    · rename_i hw
      rw [wants_ok ht.2 hw]
      simp only [if_true]
      split at h
      · rename_i v H2 hv
        split at h
        · rename_i hfit
          refine wpIn_of_wp (hnd o (by simp)) (evOp_ok hT hcall hS ht.2 (r := .val v H2) hv ?_)
          intro x M' ρ' w' he hx hS'
          refine evSeqIn_ok hT hcall ops rest l _ H2 _ w' M' ρ' t' H' hS' (put_rel (relTm_mono he.mem he.pre ht) hx o.dst hfit) (fun o' ho => hnd o' (by simp [ho])) h ?_
          intro a' w2 M2 ρ2 he2 ht2 hS2 hd
          rw [put_defers'] at hd
          exact k a' w2 M2 ρ2 (he.trans he2) ht2 hS2 hd
        · cases h
      · cases h
      · cases h
    · rename_i hw
      rw [wants_ok ht.2 hw]
      simp only [Bool.false_eq_true, if_false]
      split at h
      · rename_i hfit
        refine ⟨fun f _ => trivial, evSeqIn_ok hT hcall ops rest l _ H _ w M ρ t' H' hS (put_rel ht rel_undef o.dst hfit) (fun o' ho => hnd o' (by simp [ho])) h ?_⟩
        intro a' w2 M2 ρ2 he2 ht2 hS2 hd
        rw [put_defers'] at hd
        exact k a' w2 M2 ρ2 he2 ht2 hS2 hd
      · cases h
    · cases h
theorem regIn_ok (hT : TOk P T) {call : CallF} (hcall : call.Sound P T) {ops : Array Oper} {r : Option Nat} {n id : Nat} {Q : Exit → Act → World → Prop} {t t' : Tm} {H' : Heap} {a : Act} (hS : SR T M ρ H w) (ht : relTm M ρ t a.tmps) (hnd : ∀ o ∈ ops.toList, ∀ c, o.op ≠ .defer c)
 (h : evReg T call ops false t H = .norm t' H') (k : ∀ a' w' M' ρ', Ext M ρ w M' ρ' w' → relTm M' ρ' t' a'.tmps → SR T M' ρ' H' w' → a'.defers = a.defers → Q .normal a' w') : (Code.region id ops false).wpIn (FR r) n P Q a w := by
 refine wpIn_region_list ?_;have := evSeqIn_ok hT hcall ops (r := r) (n := n) (Q := Q) [] ops.toList t H a w M ρ t' H' hS ht hnd h (fun a' w' M' ρ' he ht' hS' hd => k a' w' M' ρ' he ht' hS' hd);rwa [List.append_nil] at this
structure Hid (l : Nat) (o : Obj) (M : Mem) (ρ : Ren) (w : World) : Prop where
  at_ : w.heap[l]? = some o
  free : M l = none
  un : ∀ c, (l, c) ∉ ρ
theorem Hid.lt {l : Nat} {o : Obj} (h : Hid l o M ρ w) : l < w.heap.size := (Array.getElem?_eq_some_iff.1 h.at_).1
theorem Hid.ext {l : Nat} {o : Obj} {M' : Mem} {ρ' : Ren} {w' : World} (h : Hid l o M ρ w) (he : Ext M ρ w M' ρ' w') : Hid l o M' ρ' w' where
  at_ := by rw [he.frame l h.lt h.un]; exact h.at_
  free := by rw [he.newM l h.lt h.un]; exact h.free
  un c hc := by
    rcases he.newR l c hc with ⟨c', h'⟩ | h'
    · exact h.un c' h'
    · exact absurd h.lt (by omega)
theorem sr_put {l : Nat} {o o' : Obj} (hS : SR T M ρ H w) (h : Hid l o M ρ w) : SR T M ρ H (w.putObj l o') where
  frozen b ob hb := by
    have : b ≠ l := fun e => by subst e; rw [h.free] at hb; cases hb
    rw [World.putObj_heap_other this]
    exact hS.frozen b ob hb
  len := hS.len
  blk n b hn := by
    obtain ⟨c, q, hr, hM, hlt, hok⟩ := hS.blk n b hn
    have : c ≠ l := fun e => by subst e; exact h.un q (List.mem_of_getElem? hr)
    refine ⟨c, q, hr, hM, by simpa using hlt, ?_⟩
    rw [World.putObj_heap_other this]
    exact hok
  inj := hS.inj
  glob := hS.glob
  gint := hS.gint
theorem Hid.put {l : Nat} {o : Obj} (o' : Obj) (h : Hid l o M ρ w) : Hid l o' M ρ (w.putObj l o') := ⟨World.putObj_heap_same h.lt, h.free, h.un⟩
theorem Hid.other {l k : Nat} {o o' : Obj} (h : Hid k o M ρ w) (hne : k ≠ l) : Hid k o M ρ (w.putObj l o') := ⟨by rw [World.putObj_heap_other hne]; exact h.at_, h.free, h.un⟩
theorem ext_put {M0 : Mem} {ρ0 : Ren} {w0 : World} {l : Nat} {o' : Obj} (he : Ext M0 ρ0 w0 M ρ w) (hl : w0.heap.size ≤ l) : Ext M0 ρ0 w0 M ρ (w.putObj l o') where
 os := he.os
 tape := he.tape
 output := he.output
 size := by simpa using he.size
 mem := he.mem
 pre := he.pre
 frame b hb hn := by rw [World.putObj_heap_other (by omega)]; exact he.frame b hb hn
 newM := he.newM
 newR := he.newR
theorem sr_alloc (hS : SR T M ρ H w) (o : Obj) : SR T M ρ H (w.alloc o) where
  frozen b ob hb := by
    have := hS.frozen b ob hb
    rw [RowKit.Below.heap_alloc w o b (Array.getElem?_eq_some_iff.1 this).1]
    exact this
  len := hS.len
  blk n b hn := by
    obtain ⟨c, q, hr, hM, hlt, hok⟩ := hS.blk n b hn
    refine ⟨c, q, hr, hM, by simp; omega, ?_⟩
    rw [RowKit.Below.heap_alloc w o c hlt]
    exact hok
  inj := hS.inj
  glob := hS.glob
  gint := hS.gint
theorem ext_alloc (o : Obj) : Ext M ρ w M ρ (w.alloc o) where
 os := rfl
 tape := rfl
 output := rfl
 size := by simp
 mem := Mem.le.refl _
 pre := List.prefix_refl _
 frame b hb _ := RowKit.Below.heap_alloc w o b hb
 newM _ _ _ := rfl
 newR _ c h := .inl ⟨c, h⟩
theorem yield_ok {r : Option Nat} {n l k : Nat} {o : Oper} {a : Act} {K : Act → World → Prop} {Q : Exit → Act → World → Prop} {c : Call} {t : Tm} {vs : List V} {rec : Loop} (ht : relTm M ρ t a.tmps)
 (ho : o.op = .call c) (hc : c.callee = .value (.tmp k)) (hk : t.get k = .yld l) (hvs : evs t.get c.args.toList = some vs) (hl : w.heap[l]? = some (.loop rec)) (hlen : vs.length = rec.params.size)
 (h : ∀ args : List Value, relL M ρ vs args → RoundIn (FR r) (n - 1) P l rec.fn ((rec.params.zip args.toArray).foldl (fun tmps (t, a) => tmps.setIfInBounds t a) rec.tmps) rec.assign rec.body w fun e w' => match e with | .returned v => K (a.put o.dst v) w' | _ => False) : o.wpIn (FR r) n P a w K Q := by
 have hv := ht.2 k;rw [hk] at hv;simp only [rel] at hv;have hrel := evs_rel ht.2 hvs;have hsz : (c.args.map a.eval).size = rec.params.size := by
  have := relL_length hrel;simp at this;simp [this, ← hlen]
 refine ⟨fun f _ => trivial, ?_⟩;rw [Oper.semAt_eq _ _ _ (fun c' e => by rw [ho] at e; cases e)];have hy := run_yield (P := P) (args := c.args.map a.eval) hl hsz;have hexec : (execOp a.eval o).run P w = .ok (.round l rec.fn ((rec.params.zip (c.args.map a.eval)).foldl (fun tmps (t, a) => tmps.setIfInBounds t a) rec.tmps) rec.assign rec.body) w := by
  have h1 : a.eval (.tmp k) = .func (.yield l) #[] #[] := hv;simp [execOp, ho, resolve, hc, h1, Deferred.ofValue, invoke, hy]
 rw [hexec, Oper.uponIn_round];refine ⟨fun e => (by cases e), ?_⟩;have := h (c.args.toList.map a.eval) hrel;have e2 : (c.args.toList.map a.eval).toArray = c.args.map a.eval := by apply Array.ext'; simp
 rw [e2] at this;refine this.mono fun e w' he => ?_;cases e with
 | returned v => exact he
 | panicked chain => exact he.elim
 | outgrown => exact he.elim
end
end Go.Ev
namespace Go.Ev
open Go Go.RowKit
def Out.isN : Out → Bool
 | .norm .. => true
 | _ => false
noncomputable def Out.tm : Out → Tm
 | .norm t _ => t
 | _ => Tm.init 0 []
def Out.hp : Out → Heap
 | .norm _ H => H
 | _ => []
theorem Out.eq_of_isN {o : Out} (h : o.isN = true) : o = .norm o.tm o.hp := by cases o <;> first | rfl | cases h
def noDefer (ops : Array Oper) : Bool := ops.toList.all fun o => match o.op with
 | .defer _ => false
 | _ => true
theorem noDefer_at {ops : Array Oper} (h : noDefer ops = true) : ∀ o ∈ ops.toList, ∀ c, o.op ≠ .defer c := fun o ho c e => by
 have := List.all_eq_true.1 h o ho;rw [e] at this;cases this
def callTmp (o : Oper) : Option (Nat × List Operand) := match o.op with
 | .call ⟨.value (.tmp j), args, _⟩ => some (j, args.toList)
 | _ => none
theorem callTmp_at {o : Oper} {j : Nat} {ops2 : List Operand} (h : callTmp o = some (j, ops2)) : ∃ c : Call, o.op = .call c ∧ c.callee = .value (.tmp j) ∧ c.args.toList = ops2 := by
 unfold callTmp at h;split at h
 ·rename_i j' args tys e;cases h;exact ⟨_, e, rfl, rfl⟩
 ·cases h
section
variable {P : Program} {T : Tab} {M : Mem} {ρ : Ren} {w : World} {H : Heap}
theorem regN (hT : TOk P T) {call : CallF} (hcall : call.Sound P T) {ops : Array Oper} {r : Option Nat} {n id : Nat} {Q : Exit → Act → World → Prop} {t : Tm} {a : Act} (hS : SR T M ρ H w) (ht : relTm M ρ t a.tmps) (hnd : noDefer ops = true)
    (h : (evReg T call ops false t H).isN = true) (k : ∀ a' w' M' ρ', Ext M ρ w M' ρ' w' → relTm M' ρ' (evReg T call ops false t H).tm a'.tmps → SR T M' ρ' (evReg T call ops false t H).hp w' → a'.defers = a.defers → Q .normal a' w') : (Code.region id ops false).wpIn (FR r) n P Q a w :=
  regIn_ok hT hcall hS ht (noDefer_at hnd) (Out.eq_of_isN h) k
end
end Go.Ev
namespace Go.Ev
open Go Go.Proofs
set_option linter.unusedSimpArgs false
set_option linter.unusedVariables false
set_option linter.unnecessarySimpa false
open Go Go.RowKit
def mark (D : Nat) : Deferred := { target := .collected D, args := #[] }
def WP (r : Option Nat) (P : Program) (c : Code) (Q : Exit → Act → World → Prop) (a : Act) (w : World) : Prop :=
 ∀ (b : Frame) (k : List Item) (cs : List Frame), b.roundOf = r → (∃ fn, P.funcs[b.fn]? = some fn) → ∃ e a' w', Q e a' w' ∧ ArrivesIn (Machine.fenced P Fence.wide) P (lone (b.atR a (.code c :: k)) cs w) b k cs e a' w'
section
variable {r : Option Nat} {P : Program} {Q Q' : Exit → Act → World → Prop} {a : Act} {w : World} {c x y : Code} {id : Nat}
theorem calmW {m : Machine} : m.fenced P Fence.wide := fenced_wide P m
theorem WP.of (n : Nat) (h : c.wpIn (FR r) n P Q a w) : WP r P c Q a w := fun b k cs hr _ => by
 obtain ⟨e, a', w', q, harr⟩ := h b k cs hr trivial (room_wide _);exact ⟨e, a', w', q, harr⟩
theorem WP.mono (h : WP r P c Q a w) (hq : ∀ e a w, Q e a w → Q' e a w) : WP r P c Q' a w :=
 fun b k cs hr hb => let ⟨e, a', w', q, s⟩ := h b k cs hr hb; ⟨e, a', w', hq _ _ _ q, s⟩
theorem WP.seq (h : WP r P x (Exit.then (WP r P y Q) Q) a w) : WP r P (.seq x y) Q a w := by
 intro b k cs hr hb;obtain ⟨e, a1, w1, hq, harr⟩ := h b (.code y :: k) cs hr hb;have h0 : ∀ {m : Machine}, m.fenced P Fence.wide := calmW;by_cases hn : e = .normal
 ·subst hn;obtain ⟨e2, a2, w2, hq2, harr2⟩ := hq b k cs hr hb;exact ⟨e2, a2, w2, hq2, .of_steps (.head h0 stepR_seq harr) harr2⟩
 ·refine ⟨e, a1, w1, ?_, .of_steps (.one h0 stepR_seq) (.pass (x := .code y) rfl (fun _ _ => .inl hn) harr)⟩;cases e <;> first | exact hq | exact absurd rfl hn
theorem WP.cond {g : Operand} {t : Bool} (hc : a.eval g = .bool t) (h : WP r P (if t then x else y) Q a w) : WP r P (.cond g x y) Q a w :=
 fun b k cs hr hb => let ⟨e, a', w', q, s⟩ := h b k cs hr hb; ⟨e, a', w', q, .of_steps (.one calmW (stepR_cond hc)) s⟩
theorem WP.block (h : WP r P c (Exit.inBlock id Q) a w) : WP r P (.block id c) Q a w := by
 intro b k cs hr hb;have h0 : ∀ {m : Machine}, m.fenced P Fence.wide := calmW;obtain ⟨e, a1, w1, hq, harr⟩ := h b (.inBlock id :: k) cs hr hb;cases e with
 | normal => exact ⟨.normal, a1, w1, hq, .head h0 stepR_block (StepsIn.trans harr (.one h0 stepR_inBlock))⟩
 | exit j =>
  by_cases hj : j = id
  ·simp only [Exit.inBlock, hj, if_true] at hq;exact ⟨.normal, a1, w1, hq, .head h0 stepR_block (harr.1 k (by simp [exitTo, hj]))⟩
  ·simp only [Exit.inBlock, hj, if_false] at hq;have e1 : (id == j) = false := by simpa using fun q => hj (Eq.symm q)
   have e2 : exitTo j (.inBlock id :: k) = exitTo j k := by simp [exitTo, e1]
   refine ⟨.exit j, a1, w1, hq, fun k' hk => .head h0 stepR_block (harr.1 k' (e2.trans hk)), fun hr' hk => ?_⟩;obtain ⟨k1, h1, h2⟩ := harr.2 hr' (e2.trans hk);exact ⟨k1, h1, .head h0 stepR_block h2⟩
 | goto l =>
  have e2 : gotoIn l (.inBlock id :: k) = gotoIn l k := by simp [gotoIn]
  refine ⟨_, a1, w1, hq, fun k' hk => .head h0 stepR_block (harr.1 k' (e2.trans hk)), fun hr' hk => ?_⟩;obtain ⟨k1, h1, h2⟩ := harr.2 hr' (e2.trans hk);exact ⟨k1, h1, .head h0 stepR_block h2⟩
 | ret => exact ⟨_, a1, w1, hq, .of_steps (.one h0 stepR_block) harr⟩
 | panic ch => exact ⟨_, a1, w1, hq, .of_steps (.one h0 stepR_block) harr⟩
 | outgrown => exact ⟨_, a1, w1, hq, .of_steps (.one h0 stepR_block) harr⟩
def WPRounds (r : Option Nat) (P : Program) (c : Code) (Q : Exit → Act → World → Prop) : Nat → Act → World → Prop
 | 0, _, _ => False
 | m + 1, a, w => WP r P c (Exit.then (WPRounds r P c Q m) Q) a w
theorem WPRounds.mono (hq : ∀ e a w, Q e a w → Q' e a w) : ∀ (m : Nat) (a : Act) (w : World), WPRounds r P c Q m a w → WPRounds r P c Q' m a w
 | 0, _, _, h => h
 | m + 1, a, w, h => by
  refine WP.mono (show WP r P c (Exit.then (WPRounds r P c Q m) Q) a w from h) ?_;intro e a' w' hp;cases e with
  | normal => exact WPRounds.mono hq m a' w' hp
  | _ => exact hq _ _ _ hp
theorem WP.loop (m : Nat) (h : WPRounds r P c Q m a w) : WP r P (.loop c) Q a w := by
 intro b k cs hr hb;have h0 : ∀ {m : Machine}, m.fenced P Fence.wide := calmW;have key : ∀ m a w, WPRounds r P c Q m a w → ∃ e a' w', Q e a' w' ∧ ArrivesIn (Machine.fenced P Fence.wide) P (lone (b.atR a (.code c :: .inLoop c :: k)) cs w) b k cs e a' w' := by
  intro m;induction m with
  | zero => intro a w h; exact h.elim
  | succ m ih =>
   intro a w h;obtain ⟨e, a1, w1, hq, harr⟩ := h b (.inLoop c :: k) cs hr hb;by_cases hn : e = .normal
   ·subst hn;obtain ⟨e2, a2, w2, hq2, harr2⟩ := ih a1 w1 hq;exact ⟨e2, a2, w2, hq2, .of_steps (StepsIn.trans harr (.one h0 stepR_inLoop)) harr2⟩
   ·refine ⟨e, a1, w1, ?_, .pass (x := .inLoop c) rfl (fun _ _ => .inl hn) harr⟩;cases e <;> first | exact hq | exact absurd rfl hn
 obtain ⟨e, a', w', hq, harr⟩ := key m a w h;exact ⟨e, a', w', hq, .of_steps (.one h0 stepR_loop) harr⟩
theorem raise_marks {ch : List PanicEntry} {R : Ending → World → Prop} : ∀ (ds : List Deferred) (w : World) (fr : Frame) (cs : List Frame) (c : Frame) {fn : Func} {tmps : Array Value}, fr.mode = .panicking ch → fr.defers = ds → P.funcs[fr.fn]? = some fn → (∀ d ∈ ds, ∃ D, d = mark D) →
    LeavesInM Fence.wide 0 P fn tmps R ds (.panicking ch) w → ∃ w', R (.panicked ch) w' ∧ StepsIn (Machine.fenced P Fence.wide) P (lone fr (c :: cs) w) (lone (c.raise ch) cs w')
  | [], w, fr, cs, c, fn, tmps, hm, hd, hf, _, h => by
    refine ⟨w, h, .one calmW (step_leave_panicked ⟨hm, hd, fn, hf⟩)⟩
  | d :: ds, w, fr, cs, c, fn, tmps, hm, hd, hf, hk, h => by
    obtain ⟨hrun, h⟩ := h
    obtain ⟨D, rfl⟩ := hk d (by simp)
    rcases h with ⟨D', w', htar, htake, hrest⟩ | ⟨_, fv, cap, f, args, htar, _⟩
    · have h1 := step_collected (cs := c :: cs) (fr := fr) (by rw [hm]; simp) hd htar htake
      obtain ⟨w2, hR, hs⟩ := raise_marks ds w' { fr with defers := [] ++ ds } cs c hm rfl hf (fun d hd => hk d (by simp [hd])) hrest
      exact ⟨w2, hR, .head calmW h1 hs⟩
    · cases htar
def roundQ (P : Program) (l : Nat) (R : Ending → World → Prop) : Exit → Act → World → Prop
 | .normal, _, w => ∃ v w', (Instr.endRound l none).run P w = .ok v w' ∧ R (.returned v) w'
 | .ret, _, w => ∃ v w', (Instr.endRound l (some .ret)).run P w = .ok v w' ∧ R (.returned v) w'
 | .exit id, _, w => ∃ v w', (Instr.endRound l (some (.exit id))).run P w = .ok v w' ∧ R (.returned v) w'
 | .panic ch, a, w => (∀ d ∈ a.defers, ∃ D, d = mark D) ∧ ∀ fn, LeavesInM Fence.wide 0 P fn a.tmps R a.defers (.panicking ch) w
 | _, _, _ => False
theorem WP.round {n l : Nat} {f : FuncId} {tmps : Array Value} {assign body : Code} {R : Ending → World → Prop} (hf : ∃ fn, P.funcs[f]? = some fn)
 (h : WP (some l) P assign (Exit.then (fun a1 w1 => ∃ w2, (Instr.beginRound l).run P w1 = .ok () w2 ∧ WP (some l) P body (roundQ P l R) a1 w2) (fun _ _ _ => False)) { tmps := tmps, defers := [] } w) :
 RoundIn (FR r) n P l f tmps assign body w R := by
 refine ⟨trivial, fun c cs _ => ?_⟩;have h0 : ∀ {m : Machine}, m.fenced P Fence.wide := calmW;obtain ⟨b, hbe⟩ : ∃ b : Frame, b = { (default : Frame) with fn := f, kind := .normal, roundOf := some l } := ⟨_, rfl⟩;have hb0 : Frame.round l f tmps assign body .normal = b.atR { tmps := tmps, defers := [] } [.code assign, .beginRound, .code body] := by
  subst hbe;simp [Frame.round, Frame.atR]
 have hro : b.roundOf = some l := by subst hbe; rfl
 have hki : b.kind = .normal := by subst hbe; rfl
 have hfn : b.fn = f := by subst hbe; rfl
 have hgo : ∃ fn, P.funcs[b.fn]? = some fn := by rw [hfn]; exact hf
 obtain ⟨e, a1, w1, hq, harr⟩ := h b [.beginRound, .code body] (c :: cs) hro hgo;rw [← hb0] at harr;have hn : e = .normal := by cases e <;> first | rfl | exact hq.elim
 subst hn;obtain ⟨w2, hbr, hbody⟩ := hq;have s1 : StepsIn (Machine.fenced P Fence.wide) P (lone (b.atR a1 [.beginRound, .code body]) (c :: cs) w1) (lone (b.atR a1 [.code body]) (c :: cs) w2) := .one h0 (stepR_beginRound hro hbr);have s2 := StepsIn.trans harr s1;obtain ⟨e2, a2, w3, hq2, harr2⟩ := hbody b [] (c :: cs) hro hgo;have rs : b.roundOf.isSome = true := by rw [hro]; rfl
 cases e2 with
 | normal =>
  obtain ⟨v, w4, hend, hR⟩ := hq2;exact ⟨.returned v, w4, hR, s2.trans (StepsIn.trans harr2 (.one h0 (stepR_round_end hro hki hend)))⟩
 | ret =>
  obtain ⟨v, w4, hend, hR⟩ := hq2;obtain ⟨k1, hs⟩ := harr2.2 rs;exact ⟨.returned v, w4, hR, s2.trans (StepsIn.trans hs (.one h0 (stepR_round_ret hro hki hend)))⟩
 | exit id =>
  obtain ⟨v, w4, hend, hR⟩ := hq2;obtain ⟨k1, hk, hs⟩ := harr2.2 rs rfl;exact ⟨.returned v, w4, hR, s2.trans (StepsIn.trans hs (.one h0 (stepR_round_exit hro hki hk hend)))⟩
 | panic ch =>
  obtain ⟨todo, hs⟩ := harr2;obtain ⟨fn, hfn'⟩ := hgo;obtain ⟨w4, hR, hs2⟩ := raise_marks a2.defers w3 { b.atR a2 todo with mode := .panicking ch } cs c rfl rfl hfn' hq2.1 (hq2.2 fn);exact ⟨.panicked ch, w4, hR, s2.trans (StepsIn.trans hs hs2)⟩
 | goto t => exact hq2.elim
 | outgrown => exact hq2.elim
def rangeQ (r : Option Nat) (P : Program) (l : Nat) (Q : Exit → Act → World → Prop) (a' : Act) : Ending → World → Prop
 | .returned _, w3 => ∃ jump w4, (Instr.endLoop l).run P w3 = .ok jump w4 ∧ (match jump with | none => Q .normal a' w4 | some c => WP r P c Q a' w4)
 | .panicked ch, w3 => Q (.panic ch) a' w3
 | .outgrown, _ => False
theorem WP.range {g : Operand} {ps : Array Tmp} {assign body : Code}
 (h : ∀ fn, (∃ f, P.funcs[fn]? = some f) → ∃ (l : Nat) (mark : List Deferred) (w1 : World) (d : Deferred) (w1' : World) (f : FuncId) (args : Array Value) (w2 : World),
  (Instr.enterLoop fn a.tmps ps assign body r).run P w = .ok (l, mark) w1 ∧ (resolve a.eval (rangeCall g l) 0).run P w1 = .ok d w1' ∧ (invoke d.target d.args).run P w1' = .ok (.enter f args) w2 ∧
  CallsIn Fence.wide 0 P f args w2 (rangeQ r P l Q { a with defers := mark ++ a.defers })) : WP r P (.rangeFunc g ps assign body) Q a w := by
 intro b k cs hr hb;have h0 : ∀ {m : Machine}, m.fenced P Fence.wide := calmW;obtain ⟨l, mark, w1, d, w1', f, args, w2, he, hres, hinv, hF, hcall⟩ := h b.fn hb;rw [← hr] at he;have henter := stepR_rangeFunc (P := P) (b := b) (a := a) (k := k) (cs := cs) (w := w) he hres hinv;obtain ⟨e, w3, fr, hR, hsteps, hfn, hleave⟩ := hcall (b.atR { a with defers := mark ++ a.defers } (.inRangeFunc l :: k) :: cs) (room_wide _);cases e with
 | outgrown => exact hR.elim
 | returned v =>
  obtain ⟨jump, w4, hend, hj⟩ := hR;have h1 : step P (lone fr (b.atR { a with defers := mark ++ a.defers } (.inRangeFunc l :: k) :: cs) w3) = .next (lone (b.atR { a with defers := mark ++ a.defers } (.endRangeFunc l :: k)) cs w3) := by
   rw [← finish_atR_inRangeFunc l v]; exact step_leave_returned hleave
  have sback : StepsIn (Machine.fenced P Fence.wide) P (lone (b.atR a (.code (.rangeFunc g ps assign body) :: k)) cs w) (lone (b.atR { a with defers := mark ++ a.defers } ((jump.map Item.code).toList ++ k)) cs w4) :=
   .head h0 henter (StepsIn.trans hsteps (.head h0 h1 (.one h0 (stepR_endRangeFunc hend))))
  cases jump with
  | none => exact ⟨.normal, _, w4, hj, sback⟩
  | some c =>
   obtain ⟨e', a'', w5, hq, harr⟩ := hj b k cs hr hb;exact ⟨e', a'', w5, hq, .of_steps sback harr⟩
 | panicked ch =>
  refine ⟨.panic ch, _, w3, hR, .inRangeFunc l :: k, .head h0 henter (StepsIn.trans hsteps (.one h0 ?_))⟩;rw [← Frame.raise_atR]; exact step_leave_panicked hleave
theorem calls_of_WP {f : FuncId} {fn : Func} {args : Array Value} {R : Ending → World → Prop} (hf : P.funcs[f]? = some fn) (hb : fn.body = some c)
 (h : WP none P c (bodyPostM Fence.wide 0 P fn R) { tmps := args ++ Array.replicate (fn.ntmps - args.size) undef, defers := [] } w) : CallsIn Fence.wide 0 P f args w R := by
 refine ⟨trivial, fun cs hr => ?_⟩;have h0 : ∀ {m : Machine}, m.fenced P Fence.wide := calmW;obtain ⟨b, hbe⟩ : ∃ b : Frame, b = { (default : Frame) with fn := f, kind := .normal, roundOf := none } := ⟨_, rfl⟩;have hfn : b.fn = f := by subst hbe; rfl
 have hki : b.kind = .normal := by subst hbe; rfl
 have hro : b.roundOf = none := by subst hbe; rfl
 have henter : Frame.enter P f args .normal = b.atR { tmps := args ++ Array.replicate (fn.ntmps - args.size) undef, defers := [] } [.code c] := by
  subst hbe;simp [Frame.enter, Frame.atR, hf, hb]
 have hbf : P.funcs[b.fn]? = some fn := by rw [hfn]; exact hf
 obtain ⟨e, a', w', hq, harr⟩ := h b [] cs hro ⟨fn, hbf⟩;rw [← henter] at harr;cases e with
 | normal =>
  obtain ⟨e', w'', fr', hR, hs, hfn', hl⟩ := leaves_stepsInM a'.defers .returning w' { b.atR a' [] with mode := .returning } cs rfl rfl rfl hbf hki trivial hr hq;exact ⟨e', w'', fr', hR, ComesIn.of_steps (StepsIn.trans harr (.one h0 (stepR_end hro))) hs, hfn'.trans hfn, hl⟩
 | ret =>
  obtain ⟨todo, hs0⟩ := harr.1 hro;obtain ⟨e', w'', fr', hR, hs, hfn', hl⟩ := leaves_stepsInM a'.defers .returning w' { b.atR a' todo with mode := .returning } cs rfl rfl rfl hbf hki trivial hr hq;exact ⟨e', w'', fr', hR, ComesIn.of_steps hs0 hs, hfn'.trans hfn, hl⟩
 | panic ch =>
  obtain ⟨todo, hs0⟩ := harr;obtain ⟨e', w'', fr', hR, hs, hfn', hl⟩ := leaves_stepsInM a'.defers (.panicking ch) w' { b.atR a' todo with mode := .panicking ch } cs rfl rfl rfl hbf hki trivial hr hq;exact ⟨e', w'', fr', hR, ComesIn.of_steps hs0 hs, hfn'.trans hfn, hl⟩
 | exit id => exact hq.elim
 | goto l => exact hq.elim
 | outgrown => exact ⟨.outgrown, w', b, hq, harr.resolve_left (by rw [hki]; simp), hfn, trivial⟩
end
end Go.Ev
