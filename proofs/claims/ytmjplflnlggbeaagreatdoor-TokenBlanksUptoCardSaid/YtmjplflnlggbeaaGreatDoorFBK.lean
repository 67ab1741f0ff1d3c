/- The tokens of a text, of a text that is cut. Runs of the lock. The slow way of Once. Once and NewReplacer, closed. Once and NewReplacer, at any heap. Replace, that of its table given. Counts of a byte. The counting loop of Replace. The loop of Replace over words. The copying loop of Replace. The body of Replace. Texts of floats. Replace of a table of bytes. Replace. The text of a float. Scan of every text. TokenScans: lists of tokens compared. Walks of the laws without a reference. Tokens without places and lines. -/
import Derived.Test.YtmjplflnlggbeaaGreatDoorFBM
import Derived.Test.YtmjplflnlggbeaaGreatDoorFZE
import Derived.Test.YtmjplflnlggbeaaGreatDoorFEvPart2
import Derived.Test.YtmjplflnlggbeaaGreatDoorFYI
namespace Go.Ev
open Go Go.Proofs
set_option linter.unusedSimpArgs false
set_option linter.unusedVariables false
set_option linter.unnecessarySimpa false
set_option maxRecDepth 1000000
inductive Toks (s : List UInt8) : Nat → Bool → List Tk → Prop
  | done {i : Nat} {b l' : Bool} (h : skQ s i b = .inr (s.length, l')) : Toks s i b []
  | step {i j m : Nat} {b l' : Bool} {k : Int} {t : List UInt8} {L : List Tk} (h : skQ s i b = .inr (j, l')) (hj : j < s.length) (ht : tokQ kw numQ (s.drop j) = .inr (k, t, m)) (hr : Toks s (j + m) false L) : Toks s i b ((k, t, (j : Int), l') :: L)
theorem scnF_toks {s : List UInt8} : ∀ (n i : Nat) (b : Bool) (acc L : List Tk), i ≤ s.length → s.length < n + i → scnF s n i b acc = .inl L → ∃ M, L = acc ++ M ∧ Toks s i b M
 | 0, i, b, acc, L, hi, hn, h => by omega
 | n + 1, i, b, acc, L, hi, hn, h => by
  simp only [scnF] at h;split at h
  ·cases h
  ·rename_i j l' hs;have hk := skQ_ok hi hs;split at h
   ·rename_i he;cases h;exact ⟨[], by simp, .done (by rw [hs, he])⟩
   ·rename_i he;split at h
    ·cases h
    ·rename_i k t m ht;have hm := tokQ_ok ht;rw [List.length_drop] at hm;simp only at hm;obtain ⟨M, h1, h2⟩ := scnF_toks n _ _ _ _ (by omega) (by omega) h;exact ⟨_ :: M, by rw [h1, List.append_assoc]; rfl, .step hs (by omega) ht h2⟩
theorem toks_scnF {s : List UInt8} {i : Nat} {b : Bool} {M : List Tk} (h : Toks s i b M) : ∀ (n : Nat) (acc : List Tk), i ≤ s.length → s.length < n + i → scnF s n i b acc = .inl (acc ++ M) := by
 induction h with
 | @done i b l' h =>
  intro n acc hi hn;obtain ⟨n, rfl⟩ : ∃ m, n = m + 1 := ⟨n - 1, by omega⟩;simp only [scnF, h, if_true, List.append_nil]
 | @step i j m b l' k t L h hj ht hr ih =>
  intro n acc hi hn;obtain ⟨n, rfl⟩ : ∃ m, n = m + 1 := ⟨n - 1, by omega⟩;have hk := skQ_ok hi h;have hm := tokQ_ok ht;rw [List.length_drop] at hm;simp only at hm;simp only [scnF, h, ht];rw [if_neg (by omega), ih n _ (by omega) (by omega), List.append_assoc];rfl
theorem scnT_toks {s : List UInt8} {l : List Tk} {a : Nat} (hs : s.length ≤ 20000) (h : scnT s = (l, a, 0)) : Toks s 0 true l := by
 unfold scnT at h;rw [if_neg (by omega)] at h;cases hf : scnF s (s.length + 1) 0 true [] with
 | inl L =>
  rw [hf] at h;simp only [Prod.mk.injEq] at h;obtain ⟨M, h1, h2⟩ := scnF_toks _ _ _ _ _ (by omega) (by omega) hf;rw [← h.1, h1];exact h2
 | inr p =>
  exfalso;rw [hf] at h;simp only [Prod.mk.injEq] at h;have key : ∀ (n i : Nat) (b : Bool) (acc : List Tk), scnF s n i b acc = .inr p → p.2 ≠ 0 := fun n => by
   induction n with
   | zero => intro i b acc h; cases h
   | succ n ih =>
    intro i b acc h;simp only [scnF] at h;split at h
    ·cases h; exact (by decide : (32 : Nat) ≠ 0)
    ·split at h
     ·cases h
     ·split at h
      ·rename_i e he;cases h;exact tok_err he
      ·exact ih _ _ _ h
  exact key _ _ _ _ hf h.2.2
theorem toks_scnT {s : List UInt8} {l : List Tk} (hs : s.length ≤ 20000) (h : Toks s 0 true l) : scnT s = (l, 0, 0) := by
 unfold scnT;rw [if_neg (by omega), toks_scnF h _ [] (by omega) (by omega)];rfl
theorem Toks.at {s : List UInt8} {i : Nat} {b : Bool} {M : List Tk} (h : Toks s i b M) : i ≤ s.length → ∀ x ∈ M, (i : Int) ≤ x.2.2.1 ∧ x.2.2.1 < s.length := by
 induction h with
 | done h => intro _ x hx; cases hx
 | @step i j m b l' k t L h hj ht hr ih =>
  intro hi x hx;have hk := skQ_ok hi h;have hm := tokQ_ok ht;rw [List.length_drop] at hm;simp only at hm;rcases List.mem_cons.1 hx with rfl | hx
  ·simp only; omega
  ·have := ih (by omega) x hx;omega
theorem Toks.asc {s : List UInt8} {i : Nat} {b : Bool} {M : List Tk} (h : Toks s i b M) : i ≤ s.length → ∀ (n : Nat) (x y : Tk), M[n]? = some x → M[n + 1]? = some y → x.2.2.1 < y.2.2.1 := by
 induction h with
 | done h => intro _ n x y hx; simp at hx
 | @step i j m b l' k t L h hj ht hr ih =>
  intro hi n x y hx hy;have hk := skQ_ok hi h;have hm := tokQ_ok ht;rw [List.length_drop] at hm;simp only at hm;cases n with
  | succ n =>
   rw [List.getElem?_cons_succ] at hx hy;exact ih (by omega) n x y hx hy
  | zero =>
   rw [List.getElem?_cons_zero] at hx;rw [List.getElem?_cons_succ] at hy;have := hr.at (by omega) y (List.mem_of_getElem? hy);cases hx;simp only;omega
theorem tok_new {s y : List UInt8} {c j m : Nat} {k : Int} {t : List UInt8} (hy : BlH y) (hc : c < s.length) (ht : tokQ kw numQ (s.drop j) = .inr (k, t, m)) (hjm : j + m ≤ c) : tokQ kw numQ ((s.take c ++ y).drop j) = .inr (k, t, m) := by
 have hm := tokQ_ok ht;simp only at hm;have hl : ((s.drop j).take m).length = m := by rw [List.length_take]; omega
 have e1 : s.drop j = (s.drop j).take m ++ (s.drop j).drop m := (List.take_append_drop m _).symm;have e2 : (s.take c ++ y).drop j = (s.drop j).take m ++ (((s.drop j).drop m).take (c - j - m) ++ y) := by
  rw [drop_new hc (by omega), List.drop_take, ← List.append_assoc, ← List.take_add];congr 2;omega
 rw [e2];have ht' : tokQ kw numQ ((s.drop j).take m ++ (s.drop j).drop m) = .inr (k, t, ((s.drop j).take m).length) := by rw [← e1, hl]; exact ht
 have := tokQ_on (fun e => by rw [e] at hl; simp at hl; omega) ⟨c - j - m, y, hy, rfl⟩ ht';rw [hl] at this;exact this
theorem skQ_new {s y : List UInt8} {c i j : Nat} {b l' : Bool} (hy : BlH y) (hc : c < s.length) (hi : i ≤ s.length) (h : skQ s i b = .inr (j, l')) (hj : j < c) : skQ (s.take c ++ y) i b = .inr (j, l') := by
 obtain ⟨M, _, _, h3⟩ := skF_on hy hc _ ((s.take c ++ y).length + 1) i b j l' (by omega) hi h (by omega) (by omega);exact h3 hj
theorem Toks.cut {s : List UInt8} {i : Nat} {b : Bool} {M : List Tk} (h : Toks s i b M) : i ≤ s.length → ∀ (k c : Nat) (x : Tk), M[k]? = some x → x.2.2.1 = (c : Int) → Toks (s.take c ++ []) i b (M.take k) := by
 induction h with
 | done h => intro _ k c x hx; simp at hx
 | @step i j m b l' kd t L h hj ht hr ih =>
  intro hi k c x hx hxc;have hk := skQ_ok hi h;have hm := tokQ_ok ht;rw [List.length_drop] at hm;simp only at hm;have hy : BlH [] := fun c r e => by cases e
  cases k with
  | zero =>
   rw [List.getElem?_cons_zero] at hx;cases hx;simp only at hxc;have e : j = c := by omega
   subst e;obtain ⟨M, h1, h2, _⟩ := skF_on (y := []) hy hj _ ((s.take j ++ []).length + 1) i b j l' (by omega) hi h (by omega) (by omega);rw [List.take_zero];refine .done (l' := l') ?_;unfold skQ;rw [h2];have hl : (s.take j ++ []).length = j := by rw [List.append_nil, cut_len hj]
   rw [hl] at h1 ⊢;cases M with
   | zero => rfl
   | succ M =>
    simp only [skF];rw [if_neg (by rw [hl]; omega)]
  | succ k =>
   rw [List.getElem?_cons_succ] at hx;have ha := hr.at (by omega) x (List.mem_of_getElem? hx);have hcs : c < s.length := by omega
   rw [List.take_succ_cons];refine .step (skQ_new hy hcs hi h (by omega)) (by rw [List.append_nil, cut_len hcs]; omega) (tok_new hy hcs ht (by omega)) (ih (by omega) k c x hx hxc)
def mk0 : Spec := fun vs H => match vs with | [] => .val .un H | _ => .no
def mk1 : Spec := fun vs H => match vs with | [.ptr n off] => .val .un H | _ => .no
noncomputable def syG : Gam := fun f vs H => if f = 122 then some (atLoad .u32 vs H) else if f = 142 then some (atCas .i32 vs H) else if f = 147 then some (atAdd .i32 vs H) else if f = 135 then some (atStore .u32 vs H) else if f = 141 then some (mk0 vs H) else if f = 143 then some (mk0 vs H) else if f = 144 then some (mk1 vs H) else if f = 146 then some (mk1 vs H) else none
theorem ok2122 : SpecD Tryz.prog TT 122 (atLoad .u32) := atLoad_ok (fn := Tryz.f122) .u32 Tryz.func122 (by kernel_rfl) (by kernel_rfl) (none_of (by kernel_rfl)) (by kernel_rfl)
theorem ok2135 : SpecD Tryz.prog TT 135 (atStore .u32) := atStore_ok (fn := Tryz.f135) .u32 Tryz.func135 (by kernel_rfl) (by kernel_rfl) (none_of (by kernel_rfl)) (by kernel_rfl)
theorem ok2142 : SpecD Tryz.prog TT 142 (atCas .i32) := atCas_ok (fn := Tryz.f142) .i32 Tryz.func142 (by kernel_rfl) (by kernel_rfl) (none_of (by kernel_rfl)) (by kernel_rfl)
theorem ok2147 : SpecD Tryz.prog TT 147 (atAdd .i32) := atAdd_ok (fn := Tryz.f147) .i32 Tryz.func147 (by kernel_rfl) (by kernel_rfl) (none_of (by kernel_rfl)) (by kernel_rfl)
theorem ok2141 : SpecD Tryz.prog TT 141 mk0 := atMark0_ok (fn := Tryz.f141) Tryz.func141 (by kernel_rfl) (by kernel_rfl) (none_of (by kernel_rfl)) .disable (by kernel_rfl)
theorem ok2143 : SpecD Tryz.prog TT 143 mk0 := atMark0_ok (fn := Tryz.f143) Tryz.func143 (by kernel_rfl) (by kernel_rfl) (none_of (by kernel_rfl)) .enable (by kernel_rfl)
theorem ok2144 : SpecD Tryz.prog TT 144 mk1 := atMark_ok (fn := Tryz.f144) Tryz.func144 (by kernel_rfl) (by kernel_rfl) (none_of (by kernel_rfl)) .acquire (by kernel_rfl)
theorem ok2146 : SpecD Tryz.prog TT 146 mk1 := atMark_ok (fn := Tryz.f146) Tryz.func146 (by kernel_rfl) (by kernel_rfl) (none_of (by kernel_rfl)) .releaseMerge (by kernel_rfl)
theorem syG_ok : syG.SoundX Tryz.prog TT := by
 intro f vs H r h hne;simp only [syG] at h;repeat' (split at h)
 all_goals first
  | (cases h; done)
  | skip
 ·rename_i e; subst e; exact .inr (ok2122 vs H r (Option.some.inj h) hne)
 ·rename_i e; subst e; exact .inr (ok2142 vs H r (Option.some.inj h) hne)
 ·rename_i e; subst e; exact .inr (ok2147 vs H r (Option.some.inj h) hne)
 ·rename_i e; subst e; exact .inr (ok2135 vs H r (Option.some.inj h) hne)
 ·rename_i e; subst e; exact .inr (ok2141 vs H r (Option.some.inj h) hne)
 ·rename_i e; subst e; exact .inr (ok2143 vs H r (Option.some.inj h) hne)
 ·rename_i e; subst e; exact .inr (ok2144 vs H r (Option.some.inj h) hne)
 ·rename_i e; subst e; exact .inr (ok2146 vs H r (Option.some.inj h) hne)
def rpB (d s : Int) (r o : V) : Blk := ⟨151, [.i .u32 d, .i .i32 s, .i .u32 0, r, o], .all⟩
def onB : Blk := ⟨9, [.s [95], .s [], .s [69], .s [101]], .more⟩
def rp0 : Heap := [some onB, some (rpB 0 0 .nili (.sl 0 1 0 4 none))]
def rp1 : Heap := [some onB, some (rpB 0 1 .nili (.sl 0 1 0 4 none))]
def bsC : List V := (List.range 256).map (fun i => if i = 95 then .sl 9 1 0 0 none else if i = 69 then .sl 6 1 0 1 none else .nils) ++ [.sl 2 1 0 2 (some 2)]
def rpT : Heap := [some ⟨9, [.s [69], .s [95]], .all⟩, some ⟨193, bsC, .all⟩, some ⟨5, [.i .u8 69], .all⟩, some ⟨9, [.s [69]], .all⟩, some ⟨5, [.tup [], .i .u8 101], .map⟩, some ⟨5, [.i .u8 95], .all⟩, some ⟨9, [.s [95]], .all⟩, some ⟨5, [.tup []], .map⟩]
def rp2 : Heap := some onB :: some (rpB 0 1 (.ifc 194 (.ptr 3 0)) .nils) :: rpT
def rp3 : Heap := some onB :: some (rpB 1 1 (.ifc 194 (.ptr 3 0)) .nils) :: rpT
def rp4 : Heap := some onB :: some (rpB 1 0 (.ifc 194 (.ptr 3 0)) .nils) :: rpT
def isAt (r : OR) (v : V) (H : Heap) : Bool := match r with | .val u J => V.beq u v && Heap.beq J H | _ => false
theorem isAt_eq {r : OR} {v : V} {H : Heap} (h : isAt r v H = true) : r = .val v H := by
 unfold isAt at h;split at h
 ·rw [Bool.and_eq_true] at h;rw [V.beq_eq _ _ h.1, Heap.beq_eq _ _ h.2]
 ·cases h
theorem rn_lock : evFun TT syG 3000 123 [.ptr 1 1] rp0 = .val .un rp1 := isAt_eq (by kernel_rfl)
theorem rn_load1 : evFun TT syG 3000 113 [.ptr 1 0] rp1 = .val (.b false) rp1 := isAt_eq (by kernel_rfl)
theorem rn_build : evFun TT syG 3000 99 [.ptr 1 0] rp1 = .val .un rp2 := isAt_eq (by kernel_rfl)
theorem rn_store : evFun TT syG 3000 125 [.ptr 1 0, .b true] rp2 = .val .un rp3 := isAt_eq (by kernel_rfl)
theorem rn_unlock : evFun TT syG 3000 124 [.ptr 1 1] rp3 = .val .un rp4 := isAt_eq (by kernel_rfl)
theorem body_2114 {call : CallF} (hC : call.Sound Tryz.prog TT) (c1 : call 123 [.ptr 1 1] rp0 = .val .un rp1) (c2 : call 113 [.ptr 1 0] rp1 = .val (.b false) rp1) (c3 : call 99 [.ptr 1 0] rp1 = .val .un rp2) :
 DBody Tryz.prog TT 114 [.ptr 1 0, .bfn 99 [.ptr 1 0]] rp0 fun r => r = .val .un rp4 := by
 refine ⟨Tryz.f114, _, rfl, rfl, by simp [Tryz.f114], ?_⟩;have h0 : (Tm.init Tryz.f114.ntmps [.ptr 1 0, .bfn 99 [.ptr 1 0]]).get 0 = .ptr 1 0 := by rw [get_init]; rfl
 have h1 : (Tm.init Tryz.f114.ntmps [.ptr 1 0, .bfn 99 [.ptr 1 0]]).get 1 = .bfn 99 [.ptr 1 0] := by rw [get_init]; rfl
 have hw : (Tm.init Tryz.f114.ntmps [.ptr 1 0, .bfn 99 [.ptr 1 0]]).wid = 21 := rfl;generalize Tm.init Tryz.f114.ntmps [.ptr 1 0, .bfn 99 [.ptr 1 0]] = t at *;have x1 : TT.ext 123 = none := rfl;have x2 : TT.ext 113 = none := rfl;have x3 : TT.ext 99 = none := rfl;refine TriD.seq (TriD.lift ?_);refine Tri.regN (t' := ?t1) (H' := ?H1) TT_ok hC ?e1 ?q1;case e1 =>
  refine go_false ?_;iterate 4 refine evSeq_go rfl (by simp [h0, c1, x1] <;> rfl) (by rfl) (by simp [hw]) ?_
  exact evSeq_nil
 refine TriD.seq ?_;refine TriD.reg (f := 124) (caps := []) (vs := [.ptr 1 1]) (xv := ?xv) (yv := ?yv) (t1 := ?t3) (t2 := ?t4) (H1 := ?H3) (H2 := ?H4) TT_ok hC 3 rfl rfl rfl ?e3 ?x3 ?xx ?y3 ?yy ?f3 ?e4 ?q3;case e3 =>
  iterate 3 refine evSeq_go rfl (by simp [h0] <;> rfl) (by rfl) (by simp [hw]) ?_
  exact evSeq_nil
 case x3 => simp <;> rfl
 case xx => rfl
 case y3 => simp <;> rfl
 case yy => rfl
 case f3 => simp [hw]
 case e4 => exact evSeq_nil
 refine TriD.seq (TriD.lift ?_);refine Tri.regN (t' := ?t5) (H' := ?H5) TT_ok hC ?e5 ?q5;case e5 =>
  refine go_false ?_;iterate 5 refine evSeq_go rfl (by simp [h0, c2, x2] <;> rfl) (by rfl) (by simp [hw]) ?_
  exact evSeq_nil
 refine TriD.condT (o := ?o6) ?g6 ?r6 ?_;case g6 => simp <;> rfl
 case r6 => rfl
 refine TriD.seq ?_;refine TriD.reg (f := 125) (caps := []) (vs := [.ptr 1 0, .b true]) (xv := ?xv7) (yv := ?yv7) (t1 := ?t7) (t2 := ?t8) (H1 := ?H7) (H2 := ?H8) TT_ok hC 3 rfl rfl rfl ?e7 ?x7 ?xx7 ?y7 ?yy7 ?f7 ?e8 ?q7;case e7 =>
  iterate 3 refine evSeq_go rfl (by simp [h0] <;> rfl) (by rfl) (by simp [hw]) ?_
  exact evSeq_nil
 case x7 => simp <;> rfl
 case xx7 => rfl
 case y7 => simp <;> rfl
 case yy7 => rfl
 case f7 => simp [hw]
 case e8 => exact evSeq_nil
 refine TriD.lift ?_;refine Tri.regN (t' := ?t9) (H' := ?H9) TT_ok hC ?e9 ?q9;case e9 =>
  refine go_false ?_;iterate 2 refine evSeq_go rfl (by simp [h1, c3, x3] <;> rfl) (by rfl) (by simp [hw]) ?_
  exact evSeq_nil
 have k1 : Closes Tryz.prog TT 125 [.ptr 1 0, .b true] none rp2 rp3 := closes_plain TT_ok (by
  obtain ⟨fn, c, q1, q2, q3, q4⟩ := XBody.of_run TT_ok syG_ok rfl rn_store (by simp);exact ⟨fn, c, q1, q2, q3, q4.mono fun o ho => by cases o <;> simp only [EndsX] at ho ⊢ <;> (first | exact ho.elim | (obtain ⟨v, e, f⟩ := ho; cases e; exact ⟨_, ⟨_, rfl⟩, f⟩) | exact ⟨_, ho⟩)⟩)
 have k2 : Closes Tryz.prog TT 124 [.ptr 1 1] none rp3 rp4 := closes_plain TT_ok (by
  obtain ⟨fn, c, q1, q2, q3, q4⟩ := XBody.of_run TT_ok syG_ok rfl rn_unlock (by simp);exact ⟨fn, c, q1, q2, q3, q4.mono fun o ho => by cases o <;> simp only [EndsX] at ho ⊢ <;> (first | exact ho.elim | (obtain ⟨v, e, f⟩ := ho; cases e; exact ⟨_, ⟨_, rfl⟩, f⟩) | exact ⟨_, ho⟩)⟩)
 refine ⟨rp4, .un, ⟨rp3, k1, rp4, k2, rfl⟩, ?_, rfl⟩;rfl
theorem ok2114 : SpecOK Tryz.prog TT 114 (spAt [.ptr 1 0, .bfn 99 [.ptr 1 0]] rp0 (.val .un rp4)) := by
 have k1 : SpecOK Tryz.prog TT 123 (spAt [.ptr 1 1] rp0 (.val .un rp1)) := spAt_ok fun _ => evFun_okX TT_ok syG_ok rfl rn_lock (by simp);have k2 : SpecOK Tryz.prog TT 113 (spAt [.ptr 1 0] rp1 (.val (.b false) rp1)) := spAt_ok fun _ => evFun_okX TT_ok syG_ok rfl rn_load1 (by simp);have k3 : SpecOK Tryz.prog TT 99 (spAt [.ptr 1 0] rp1 (.val .un rp2)) := spAt_ok fun _ => evFun_okX TT_ok syG_ok rfl rn_build (by simp);have hC := ws (ws (ws n0 k1) k2) k3;refine spAt_ok fun _ => ?_;obtain ⟨r, rfl, _, he, hc⟩ := (DBody.fact TT_ok (body_2114 hC (by rw [w_other _ _ _ _ rfl, w_other _ _ _ _ rfl, w_here]; exact spAt_at _ _ _) (by rw [w_other _ _ _ _ rfl, w_here]; exact spAt_at _ _ _) (by rw [w_here]; exact spAt_at _ _ _)));exact ⟨he, hc⟩
noncomputable def syG2 : Gam := fun f vs H => if f = 114 then some (spAt [.ptr 1 0, .bfn 99 [.ptr 1 0]] rp0 (.val .un rp4) vs H) else syG f vs H
theorem syG2_ok : syG2.SoundX Tryz.prog TT := by
 intro f vs H r h hne;unfold syG2 at h;split at h
 ·rename_i e;subst e;exact .inl (ok2114 vs H r (Option.some.inj h) hne)
 ·exact syG_ok f vs H r h hne
theorem rn_do : evFun TT syG2 3000 98 [.ptr 1 0, .bfn 99 [.ptr 1 0]] rp0 = .val .un rp4 := isAt_eq (by kernel_rfl)
def nw0 : Heap := [some ⟨9, [.s [95], .s [], .s [69], .s [101]], .all⟩]
def nw1 : Heap := [some ⟨9, [.s [95], .s [], .s [69], .s [101]], .all⟩, some onB, some (rpB 0 0 .nili (.sl 1 1 0 4 none))]
theorem rn_new : evFun TT syG2 3000 78 [.sl 0 1 0 4 (some 4)] nw0 = .val (.ptr 2 0) nw1 := isAt_eq (by kernel_rfl)
def wdB : Blk := ⟨9, [.s [95], .s [], .s [69], .s [101]], .all⟩
theorem sp2078 : ∃ g, SpecOK Tryz.prog TT 78 g ∧ ∀ (n : Nat) (H : Heap), H[n]? = some (some wdB) → ∃ B, g [.sl n 1 0 4 (some 4)] H = .val (.ptr (H.length + 1) 0) B ∧ B.length = H.length + 2 ∧ (∀ j, j < H.length → B[j]? = H[j]?) ∧ B[H.length]? = some (some onB) ∧ B[H.length + 1]? = some (some (rpB 0 0 .nili (.sl H.length 1 0 4 none))) := by
 obtain ⟨g, k, s⟩ := XFact.spec (P := Tryz.prog) (F := 78) TT_ok (D := fun vs H => ∃ n, vs = [.sl n 1 0 4 (some 4)] ∧ H[n]? = some (some wdB))
  (R := fun vs H r => ∃ B, r = .val (.ptr (H.length + 1) 0) B ∧ B.length = H.length + 2 ∧ (∀ j, j < H.length → B[j]? = H[j]?) ∧ B[H.length]? = some (some onB) ∧ B[H.length + 1]? = some (some (rpB 0 0 .nili (.sl H.length 1 0 4 none)))) (by
  rintro vs H ⟨n, rfl, hn⟩;have hlt : n < H.length := (List.getElem?_eq_some_iff.1 hn).1;have hx : XFact Tryz.prog TT 78 [.sl 0 1 0 4 (some 4)] nw0 fun r => r = .val (.ptr 2 0) nw1 := ⟨_, rfl, by simp, evFun_okX TT_ok syG2_ok rfl rn_new (by simp)⟩;have hg : ∀ k, k < nw0.length → (fun _ : Nat => n) k < H.length := fun k _ => hlt;have hi : ∀ k j, k < nw0.length → j < nw0.length → (fun _ : Nat => n) k = (fun _ : Nat => n) j → k = j := fun k j h1 h2 _ => by
   have l : nw0.length = 1 := rfl;omega
  have hp := XFact.part (H := H) TT_plain hg hi (fun k hk => by
   have l : nw0.length = 1 := rfl;have : k = 0 := by omega
   subst this;exact ⟨wdB, rfl, hn⟩) (by rfl) (by rfl) (by decide) (by rfl) (by rfl) hx
  have hB := partB_ok (H := H) (H0 := nw0) (H1 := nw1) hg hi (by decide);refine hp.mono fun r hr => ⟨_, hr, hB.len, fun j hj => ?_, hB.new 1 (by decide) (by decide), hB.new 2 (by decide) (by decide)⟩;by_cases e : j = n
  ·subst e;exact (hB.old 0 (by decide)).trans hn.symm
  ·exact hB.rest j hj fun _ _ => e)
 refine ⟨g, k, fun n H hn => ?_⟩;obtain ⟨r, ⟨B, rfl, hB⟩, hr⟩ := s _ H ⟨n, rfl, hn⟩;exact ⟨B, hr, hB⟩
def bsB (N : Nat) : Blk := ⟨193, (List.range 256).map (fun i => if i = 95 then V.sl (N + 7) 1 0 0 none else if i = 69 then .sl (N + 4) 1 0 1 none else .nils) ++ [.sl N 1 0 2 (some 2)], .all⟩
def DoR (H : Heap) (q : Nat) (B : Heap) : Prop := B.length = H.length + 8 ∧ (∀ j, j < H.length → j ≠ q → B[j]? = H[j]?) ∧ B[q]? = some (some (rpB 1 0 (.ifc 194 (.ptr (H.length + 1) 0)) .nils)) ∧ B[H.length]? = some (some ⟨9, [.s [69], .s [95]], .all⟩) ∧ B[H.length + 1]? = some (some (bsB H.length)) ∧ B[H.length + 4]? = some (some ⟨5, [.tup [], .i .u8 101], .map⟩) ∧ B[H.length + 7]? = some (some ⟨5, [.tup []], .map⟩)
theorem sp2098 : ∃ g, SpecOK Tryz.prog TT 98 g ∧ ∀ (m q : Nat) (H : Heap), m ≠ q → H[m]? = some (some onB) → H[q]? = some (some (rpB 0 0 .nili (.sl m 1 0 4 none))) → ∃ B, g [.ptr q 0, .bfn 99 [.ptr q 0]] H = .val .un B ∧ DoR H q B := by
 obtain ⟨g, k, s⟩ := XFact.spec (P := Tryz.prog) (F := 98) TT_ok (D := fun vs H => ∃ m q, vs = [.ptr q 0, .bfn 99 [.ptr q 0]] ∧ m ≠ q ∧ H[m]? = some (some onB) ∧ H[q]? = some (some (rpB 0 0 .nili (.sl m 1 0 4 none))))
  (R := fun vs H r => ∃ q B, vs = [.ptr q 0, .bfn 99 [.ptr q 0]] ∧ r = .val .un B ∧ DoR H q B) (by
  rintro vs H ⟨m, q, rfl, hne, hm, hq⟩;have hlm : m < H.length := (List.getElem?_eq_some_iff.1 hm).1;have hlq : q < H.length := (List.getElem?_eq_some_iff.1 hq).1;have l : rp0.length = 2 := rfl;have hx : XFact Tryz.prog TT 98 [.ptr 1 0, .bfn 99 [.ptr 1 0]] rp0 fun r => r = .val .un rp4 := ⟨_, rfl, by simp, evFun_okX TT_ok syG2_ok rfl rn_do (by simp)⟩;have hg : ∀ k, k < rp0.length → (fun k : Nat => if k = 0 then m else q) k < H.length := fun k _ => by
   simp only;split <;> assumption
  have hi : ∀ k j, k < rp0.length → j < rp0.length → (fun k : Nat => if k = 0 then m else q) k = (fun k : Nat => if k = 0 then m else q) j → k = j := fun k j h1 h2 h => by
   simp only at h;split at h <;> split at h <;> first | omega | (exfalso; exact hne h) | (exfalso; exact hne h.symm)
  have hp := XFact.part (H := H) (g := fun k : Nat => if k = 0 then m else q) TT_plain hg hi (fun k hk => by
   have : k = 0 ∨ k = 1 := by omega
   rcases this with rfl | rfl
   ·exact ⟨onB, rfl, hm⟩
   ·exact ⟨_, rfl, hq⟩) (by rfl) (by rfl) (by decide) (by rfl) (by rfl) hx
  have hB := partB_ok (H := H) (H0 := rp0) (H1 := rp4) hg hi (by decide);refine hp.mono fun r hr => ⟨q, _, rfl, hr, hB.len, fun j hj hjq => ?_, hB.old 1 (by decide), hB.new 2 (by decide) (by decide), ?_, hB.new 6 (by decide) (by decide), hB.new 9 (by decide) (by decide)⟩
  ·by_cases e : j = m
   ·subst e;exact (hB.old 0 (by decide)).trans hm.symm
   ·exact hB.rest j hj fun k hk => by
     show j ≠ if k = 0 then m else q;split
     ·exact e
     ·exact hjq
  ·exact hB.new 3 (by decide) (by decide))
 refine ⟨g, k, fun m q H h1 h2 h3 => ?_⟩;obtain ⟨r, ⟨q', B, he, rfl, hB⟩, hr⟩ := s _ H ⟨m, q, rfl, h1, h2, h3⟩;simp only [List.cons.injEq, V.ptr.injEq, and_true] at he;obtain ⟨rfl, _⟩ := he;exact ⟨B, hr, hB⟩
def BsR (H : Heap) (p N : Nat) : Prop := H[p]? = some (some (bsB N)) ∧ H[N]? = some (some ⟨9, [.s [69], .s [95]], .all⟩) ∧ H[N + 4]? = some (some ⟨5, [.tup [], .i .u8 101], .map⟩) ∧ H[N + 7]? = some (some ⟨5, [.tup []], .map⟩)
def BsH (call : CallF) : Prop := ∀ (p N : Nat) (H : Heap) (x : List UInt8), BsR H p N → x.length < 1100000 → ∃ H', call 186 [.ptr p 0, .s x] H = .val (.s (repX x)) H' ∧ H.length ≤ H'.length ∧ ∀ j, j < H.length → H'[j]? = H[j]?
theorem body_2079 {call : CallF} (hC : call.Sound Tryz.prog TT) (m q : Nat) (H : Heap) (x : List UInt8) (hx : x.length < 1100000) (hne : m ≠ q) (hm : H[m]? = some (some onB)) (hq : H[q]? = some (some (rpB 0 0 .nili (.sl m 1 0 4 none))))
    (c1 : ∃ B, call 98 [.ptr q 0, .bfn 99 [.ptr q 0]] H = .val .un B ∧ DoR H q B) (c2 : BsH call) : XBody Tryz.prog TT 79 [.ptr q 0, .s x] H fun r => ∃ B, r = .val (.s (repX x)) B ∧ H.length ≤ B.length ∧ ∀ j, j < H.length → j ≠ q → B[j]? = H[j]? := by
 obtain ⟨B, c1, b1, b2, b3, b4, b5, b6, b7⟩ := c1
 obtain ⟨H', c2, d1, d2⟩ := c2 (H.length + 1) H.length B x ⟨b5, b4, b6, b7⟩ hx
 have hql : q < H.length := (List.getElem?_eq_some_iff.1 hq).1
 refine ⟨Tryz.f79, _, rfl, rfl, by simp [Tryz.f79], ?_⟩
 have h0 : (Tm.init Tryz.f79.ntmps [.ptr q 0, .s x]).get 0 = .ptr q 0 := by rw [get_init]; rfl
 have h1 : (Tm.init Tryz.f79.ntmps [.ptr q 0, .s x]).get 1 = .s x := by rw [get_init]; rfl
 have hw : (Tm.init Tryz.f79.ntmps [.ptr q 0, .s x]).wid = 17 := rfl
 generalize Tm.init Tryz.f79.ntmps [.ptr q 0, .s x] = t at *
 have x1 : TT.ext 98 = none := rfl
 have x2 : TT.ext 186 = none := rfl
 have x3 : TT.meth 194 "Replace" = some 186 := rfl
 apply rS hC
 · refine oA ?_
   rfl
 apply sQ
 refine Tri.regN (t' := ?t2) (H' := ?H2) TT_ok hC ?e2 ?q2
 case e2 =>
  refine go_false ?_
  iterate 6 refine evSeq_go rfl (by simp [h0, c1, x1] <;> rfl) (by rfl) (by simp [hw]) ?_
  exact evSeq_nil
 apply sN
 apply sQ
 refine Tri.regN (t' := ?t3) (H' := ?H3) TT_ok hC ?e3 ?q3
 case e3 =>
  refine go_false ?_
  iterate 3 refine evSeq_go rfl (by simp [h0] <;> rfl) (by rfl) (by simp [hw]) ?_
  refine gO (by simp [b3, rpB] <;> rfl) ?_
  iterate 3 refine oA ?_
  exact evSeq_nil
 apply sN
 apply Tri.ret
 refine ⟨.s (repX x), ⟨H', rfl, by omega, fun j h1 h2 => ?_⟩, ?_⟩
 · rw [d2 j (by omega), b2 j h1 h2]
 · simp [Tryz.f79]
open Go Go.Proofs Go.RowKit
def spCount : List V → Heap → OR
 | [.s s, .s [c]], H => .val (.i .i64 (Lib.countByte s c)) H
 | _, _ => .no
theorem ok87 : SpecOK Tryz.prog TT 188 spCount := by
 intro vs H r h hne;unfold spCount at h;split at h
 ·rename_i H s c;subst h;refine ⟨enters_tz (f := 188) rfl rfl, fun M ρ w args hS hr => ?_⟩;have ha : args = [.string ⟨s.toArray⟩, .string ⟨#[c]⟩] := by
   simp only [relL, rel] at hr;obtain ⟨x, r, rfl, rfl, x, r, rfl, rfl, rfl⟩ := hr; rfl
  rw [ha];refine callOK_below (x := .int .i64 (Lib.countByte s c)) hS ?_ (by simp only [rel]);exact (Any.strings_Count_one Tryz.lays138 ⟨s.toArray⟩ c w).mono fun e w' ⟨h1, h2⟩ => ⟨h1, h2 ▸ Below.refl _ _⟩
 ·exact absurd h.symm hne
def cellV (N c : Nat) : V := if c = 95 then .sl (N + 7) 1 0 0 none else if c = 69 then .sl (N + 4) 1 0 1 none else .nils
theorem bs_cell (N c : Nat) (h : c < 256) : (bsB N).cells[c]? = some (cellV N c) := by
 unfold bsB cellV;simp only;rw [List.getElem?_append_left (by simpa using h), List.getElem?_map, List.getElem?_range h];rfl
theorem bs_load {H : Heap} {p N : Nat} (h : H[p]? = some (some (bsB N))) (c : Nat) (hc : c < 256) : loadA TT 64 H (.ptr p c) = some (cellV N c) := by
 have h1 : cellsAt H p = some (bsB N) := by
  unfold cellsAt;rw [h];rfl
 have h2 := bs_cell N c hc;simp only [loadA, h1];have e1 : isAggT (TT.und 64) = some false := rfl;simp only [pickAt, e1, nthU_eq, h2]
def isX (c : UInt8) : Bool := c == 95 || c == 69
theorem cellN (N c : Nat) (h : c ≠ 95) (h' : c ≠ 69) : cellV N c = .nils := by unfold cellV; rw [if_neg h, if_neg h']
theorem loop2186_1 {call : CallF} (hC : call.Sound Tryz.prog TT) {Q : Out → Prop} (p N : Nat) (H : Heap) (hp : H[p]? = some (some (bsB N))) : ∀ (L pre : List UInt8) (t : Tm) (n : Int) (a : Bool), (pre ++ L).length < 1100000 → -2000000 ≤ n - L.length → n ≤ 2000000 → t.wid = 122 → t.get 0 = .ptr p 0 → t.get 1 = .s (pre ++ L) → t.get 5 = .i .i64 n → t.get 6 = .b a → t.get 10 = .i .i64 pre.length →
 (∀ t' : Tm, t'.wid = 122 → t'.get 0 = .ptr p 0 → t'.get 1 = .s (pre ++ L) → t'.get 5 = .i .i64 (n - (L.count 95 : Nat)) → t'.get 6 = .b (a || L.any isX) → Q (.exit 2 t' H)) →
 LTri Tryz.prog TT (sub [true, true, true, false, true, true, true, false, false] (bodyOf Tryz.f186)) t H Q := by
 intro L;induction L with
 | nil =>
  intro pre t n a hlen hn1 hn2 hw h0 h1 h5 h6 h10 hE;have hF := ai @h0 (ai @h1 (ai @h5 (ai @h6 @h10)));refine LTri.round' ?_;apply sQ;apply rS hC
  ·iterate 4 refine gO (by simp [hF, -loadA] <;> rfl) ?_
   rfl
  refine cF (by simp [hF, -loadA] <;> rfl) ?_;refine Tri.exit ?_;refine inSeq_exit ?_;refine inLoop_exit ?_;exact hE _ (by simp [hw]) (by simp [h0]) (by simp [h1]) (by simp [h5]) (by simp [h6])
 | cons b L ih =>
  intro pre t n a hlen hn1 hn2 hw h0 h1 h5 h6 h10 hE;have hlt := fin_len pre.length L.length;have hat := str_at pre b L;have hat2 := str_at2 pre b L;have hb1 : (0 : Int) ≤ b.toNat := (u8_nn b).1;have hb2 : (b.toNat : Int) < 256 := (u8_nn b).2;have hi : b.toNat < 256 := b.toNat_lt;by_cases h95 : b.toNat = 95
  ·have hb : b = 95 := UInt8.toNat_inj.1 h95;have hl : loadA TT 64 H (.ptr p b.toNat) = some (.sl (N + 7) 1 0 0 none) := by rw [bs_load hp _ hi, h95]; rfl
   have hn : IntKind.i64.wrap (n + -1) = n - 1 := by rw [wrap_i64 (by simp at hn1; omega) (by omega)]; omega
   have hF := ai @h0 (ai @h1 (ai @h5 (ai @h6 (ai @h10 (ai @hlt (ai @hat (ai @hat2 (ai @hb1 (ai @hb2 (ai @hl (ai @hi @hn)))))))))));refine LTri.round' ?_;apply sQ;apply rS hC
   ·iterate 4 refine gO (by simp [hF, -loadA] <;> rfl) ?_
    rfl
   refine cT (by simp [hF, -loadA] <;> rfl) ?_;apply Tri.skip;apply sN;apply sQ;apply bK;apply rS hC
   ·iterate 4 refine gO (by simp [hF, -loadA] <;> rfl) ?_
    rfl
   apply rS hC
   ·iterate 7 refine gO (by simp [hF, -loadA] <;> rfl) ?_
    rfl
   refine cT (by simp [hF, -loadA] <;> rfl) ?_;apply rS hC
   ·iterate 11 refine gO (by simp [hF, -loadA] <;> rfl) ?_
    rfl
   apply rN hC
   ·refine gO (by simp [hF, -loadA] <;> rfl) ?_;rfl
   apply bN;apply sN;apply rN hC
   ·iterate 3 refine gO (by simp [hF, -loadA] <;> rfl) ?_
    rfl
   refine inLoop_norm ?_;refine ih (pre ++ [b]) _ (n - 1) true (by simpa using hlen) (by simp at hn1 ⊢; omega) (by omega) (by simp [hw]) (by simp [h0]) (by simp [h1]) (by simp [h5] <;> exact hn) (by simp [h6]) (by simp [h10] <;> exact wrap_i64 (by omega) (by simp at hlen; omega)) (fun t' k1 k2 k3 k4 k5 => hE t' k1 k2 (by simpa using k3) (by rw [k4]; rw [List.count_cons]; simp [hb]; omega) (by rw [k5]; simp [isX, hb]))
  ·have hb : b ≠ 95 := fun e => h95 (by rw [e]; rfl);by_cases h69 : b.toNat = 69
   ·have hb' : b = 69 := UInt8.toNat_inj.1 h69;have hl : loadA TT 64 H (.ptr p b.toNat) = some (.sl (N + 4) 1 0 1 none) := by rw [bs_load hp _ hi, h69]; rfl
    have hn : IntKind.i64.wrap (n + IntKind.i64.wrap 0) = n := by rw [show IntKind.i64.wrap 0 = 0 from rfl, Int.add_zero]; exact wrap_i64 (by simp at hn1; omega) (by omega)
    have hF := ai @h0 (ai @h1 (ai @h5 (ai @h6 (ai @h10 (ai @hlt (ai @hat (ai @hat2 (ai @hb1 (ai @hb2 (ai @hl (ai @hi @hn)))))))))));refine LTri.round' ?_;apply sQ;apply rS hC
    ·iterate 4 refine gO (by simp [hF, -loadA] <;> rfl) ?_
     rfl
    refine cT (by simp [hF, -loadA] <;> rfl) ?_;apply Tri.skip;apply sN;apply sQ;apply bK;apply rS hC
    ·iterate 4 refine gO (by simp [hF, -loadA] <;> rfl) ?_
     rfl
    apply rS hC
    ·iterate 7 refine gO (by simp [hF, -loadA] <;> rfl) ?_
     rfl
    refine cT (by simp [hF, -loadA] <;> rfl) ?_;apply rS hC
    ·iterate 11 refine gO (by simp [hF, -loadA] <;> rfl) ?_
     rfl
    apply rN hC
    ·refine gO (by simp [hF, -loadA] <;> rfl) ?_;rfl
    apply bN;apply sN;apply rN hC
    ·iterate 3 refine gO (by simp [hF, -loadA] <;> rfl) ?_
     rfl
    refine inLoop_norm ?_;refine ih (pre ++ [b]) _ n true (by simpa using hlen) (by simp at hn1 ⊢; omega) (by omega) (by simp [hw]) (by simp [h0]) (by simp [h1]) (by simp [h5] <;> exact hn) (by simp [h6]) (by simp [h10] <;> exact wrap_i64 (by omega) (by simp at hlen; omega)) (fun t' k1 k2 k3 k4 k5 => hE t' k1 k2 (by simpa using k3) (by rw [k4]; rw [List.count_cons]; simp [hb']) (by rw [k5]; simp [isX, hb']))
   ·have hb' : b ≠ 69 := fun e => h69 (by rw [e]; rfl);have hl : loadA TT 64 H (.ptr p b.toNat) = some .nils := by rw [bs_load hp _ hi, cellN N _ h95 h69]
    have hF := ai @h0 (ai @h1 (ai @h5 (ai @h6 (ai @h10 (ai @hlt (ai @hat (ai @hat2 (ai @hb1 (ai @hb2 (ai @hl @hi))))))))));refine LTri.round' ?_;apply sQ;apply rS hC
    ·iterate 4 refine gO (by simp [hF, -loadA] <;> rfl) ?_
     rfl
    refine Tri.condG (o := ?ok2) (b := ?bk2) ?gk2 ?rk2 ?yk2 ?nk2;case gk2 => simp [hF, -loadA] <;> rfl
    case rk2 => rfl
    case yk2 =>
     intro hy2;apply Tri.skip;apply sN;apply sQ;apply bK;apply rS hC
     ·iterate 4 refine gO (by simp [hF, -loadA] <;> rfl) ?_
      rfl
     apply rS hC
     ·iterate 7 refine gO (by simp [hF, -loadA] <;> rfl) ?_
      rfl
     refine cF (by simp [hF, -loadA] <;> rfl) ?_;apply Tri.skip;apply bN;apply sN;apply rN hC
     ·iterate 3 refine gO (by simp [hF, -loadA] <;> rfl) ?_
      rfl
     refine inLoop_norm ?_;refine ih (pre ++ [b]) _ n a (by simpa using hlen) (by simp at hn1 ⊢; omega) (by omega) (by simp [hw]) (by simp [h0]) (by simp [h1]) (by simp [h5]) (by simp [h6]) (by simp [h10] <;> exact wrap_i64 (by omega) (by simp at hlen; omega)) (fun t' k1 k2 k3 k4 k5 => hE t' k1 k2 (by simpa using k3) (by rw [k4]; rw [List.count_cons]; simp [hb]) (by rw [k5]; simp [isX, beq_eq_false_iff_ne.2 hb, beq_eq_false_iff_ne.2 hb']))
    case nk2 =>
     intro hn2;exact absurd hn2 (by simp [hF, -loadA])
theorem rnd2186_2 {call : CallF} (hC : call.Sound Tryz.prog TT) {Q : Out → Prop} (p N : Nat) (H : Heap) (hp : H[p]? = some (some (bsB N))) (hN : H[N]? = some (some ⟨9, [.s [69], .s [95]], .all⟩)) (x : List UInt8) (t : Tm) (n : Int) (a : Bool) (hw : t.wid = 122) (h0 : t.get 0 = .ptr p 0) (h1 : t.get 1 = .s x) (h5 : t.get 5 = .i .i64 n) (h6 : t.get 6 = .b a) (h30 : t.get 30 = .sl N 1 0 2 (some 2)) (h31 : t.get 31 = .i .i64 2) (h32 : t.get 32 = .i .i64 2) (hE : ∀ t' : Tm, t'.wid = 122 → t'.get 0 = .ptr p 0 → t'.get 1 = .s x → t'.get 5 = .i .i64 (n) → t'.get 6 = .b (a) → Q (.exit 0 t' H)) :
 LTri Tryz.prog TT (sub [true, true, true, false, true, false, true, false, false] (bodyOf Tryz.f186)) t H Q := by
 have hF := ai @h0 (ai @h1 (ai @h5 (ai @h6 (ai @h30 (ai @h31 @h32)))));refine LTri.round' ?_;apply rS hC
 ·refine gO (by simp [hF, -loadA] <;> rfl) ?_;rfl
 apply sQ;refine cF (by simp [hF, -loadA] <;> rfl) ?_;refine Tri.exit ?_;refine inSeq_exit ?_;refine inLoop_exit ?_;exact hE _ (by simp [hw]) (by simp [h0]) (by simp [h1]) (by simp [h5]) (by simp [h6])
theorem rnd2186_0y {call : CallF} (hC : call.Sound Tryz.prog TT) {Q : Out → Prop} (p N : Nat) (H : Heap) (hp : H[p]? = some (some (bsB N))) (hN : H[N]? = some (some ⟨9, [.s [69], .s [95]], .all⟩)) (x : List UInt8) (t : Tm) (n : Int) (a : Bool) (m : Nat) (hm : m ≤ 2000000) (hn0 : -2000000 ≤ n) (hn2 : n ≤ 4000000) (hcnt : ∀ K, call 188 [.s x, .s [69]] K = .val (.i .i64 m) K) (hz : ((m : Int) != 0) = true) (hw : t.wid = 122) (h0 : t.get 0 = .ptr p 0) (h1 : t.get 1 = .s x) (h5 : t.get 5 = .i .i64 n) (h6 : t.get 6 = .b a) (h30 : t.get 30 = .sl N 1 0 2 (some 2)) (h31 : t.get 31 = .i .i64 2) (h32 : t.get 32 = .i .i64 0) (hA : ∀ t' : Tm, t'.wid = 122 → t'.get 0 = .ptr p 0 → t'.get 1 = .s x → t'.get 5 = .i .i64 (n) → t'.get 6 = .b (true) → t'.get 30 = .sl N 1 0 2 (some 2) → t'.get 31 = .i .i64 2 → t'.get 32 = .i .i64 1 → LTri Tryz.prog TT (sub [true, true, true, false, true, false, true, false, false] (bodyOf Tryz.f186)) t' H Q) :
 LTri Tryz.prog TT (sub [true, true, true, false, true, false, true, false, false] (bodyOf Tryz.f186)) t H Q := by
 have x87 : TT.ext 188 = none := rfl;have hl : loadA TT 9 H (.ptr N 0) = some (.s [69]) := by simp [loadA, cellsAt, hN, pickAt, isAggT, nthU_eq]
 have hl2 : loadA TT 64 H (.ptr p 69) = some (.sl (N + 4) 1 0 1 none) := by rw [bs_load hp 69 (by omega)]; rfl
 have hn : IntKind.i64.wrap (n + IntKind.i64.wrap ((m : Int) * IntKind.i64.wrap (0))) = n := by
  rw [show IntKind.i64.wrap (0) = 0 from rfl, wrap_i64 (n := (m : Int) * 0) (by omega) (by omega), wrap_i64 (by omega) (by omega)]; omega
 have hF := ai @h0 (ai @h1 (ai @h5 (ai @h6 (ai @h30 (ai @h31 (ai @h32 (ai @hl (ai @hl2 (ai @hcnt (ai @x87 @hz))))))))));refine LTri.round' ?_;apply rS hC
 ·refine gO (by simp [hF, -loadA] <;> rfl) ?_;rfl
 apply sQ;refine cT (by simp [hF, -loadA] <;> rfl) ?_;apply Tri.skip;apply sN;apply sQ;apply bK;apply rS hC
 ·iterate 3 refine gO (by simp [hF, -loadA] <;> rfl) ?_
  rfl
 apply rS hC
 ·iterate 4 refine gO (by simp [hF, -loadA] <;> rfl) ?_
  rfl
 apply rS hC
 ·iterate 2 refine gO (by simp [hF, -loadA] <;> rfl) ?_
  rfl
 refine cT (by simp [hF, -loadA] <;> rfl) ?_;apply sQ;refine Tri.regN (t' := ?ty07) (H' := ?Hy07) TT_ok hC ?ey07 ?qy07;case ey07 =>
  refine evReg_quiet (t' := ?ty07) (by kernel_rfl) ?_ ?ry0907;iterate 14 refine QR.val rfl (by simp [hF, -loadA] <;> rfl) (by rfl) (by simp [hw]) ?_
  exact QR.nil;case ry0907 => exact rfl
 apply sN;apply rN hC
 ·refine gO (by simp [hF, -loadA] <;> rfl) ?_;rfl
 apply bN;apply sN;apply rN hC
 ·iterate 2 refine gO (by simp [hF, -loadA] <;> rfl) ?_
  rfl
 refine inLoop_norm ?_;exact hA _ (by simp [hw]) (by simp [h0]) (by simp [h1]) (by simp [h5] <;> exact hn) (by simp [h6]) (by simp [h30]) (by simp [h31]) (by simp [h32] <;> rfl)
theorem rnd2186_0n {call : CallF} (hC : call.Sound Tryz.prog TT) {Q : Out → Prop} (p N : Nat) (H : Heap) (hp : H[p]? = some (some (bsB N))) (hN : H[N]? = some (some ⟨9, [.s [69], .s [95]], .all⟩)) (x : List UInt8) (t : Tm) (n : Int) (a : Bool) (m : Nat) (hcnt : ∀ K, call 188 [.s x, .s [69]] K = .val (.i .i64 m) K) (hz : ((m : Int) != 0) = false) (hw : t.wid = 122) (h0 : t.get 0 = .ptr p 0) (h1 : t.get 1 = .s x) (h5 : t.get 5 = .i .i64 n) (h6 : t.get 6 = .b a) (h30 : t.get 30 = .sl N 1 0 2 (some 2)) (h31 : t.get 31 = .i .i64 2) (h32 : t.get 32 = .i .i64 0) (hA : ∀ t' : Tm, t'.wid = 122 → t'.get 0 = .ptr p 0 → t'.get 1 = .s x → t'.get 5 = .i .i64 (n) → t'.get 6 = .b (a) → t'.get 30 = .sl N 1 0 2 (some 2) → t'.get 31 = .i .i64 2 → t'.get 32 = .i .i64 1 → LTri Tryz.prog TT (sub [true, true, true, false, true, false, true, false, false] (bodyOf Tryz.f186)) t' H Q) :
 LTri Tryz.prog TT (sub [true, true, true, false, true, false, true, false, false] (bodyOf Tryz.f186)) t H Q := by
 have x87 : TT.ext 188 = none := rfl;have hl : loadA TT 9 H (.ptr N 0) = some (.s [69]) := by simp [loadA, cellsAt, hN, pickAt, isAggT, nthU_eq]
 have hF := ai @h0 (ai @h1 (ai @h5 (ai @h6 (ai @h30 (ai @h31 (ai @h32 (ai @hl (ai @hcnt (ai @x87 @hz)))))))));refine LTri.round' ?_;apply rS hC
 ·refine gO (by simp [hF, -loadA] <;> rfl) ?_;rfl
 apply sQ;refine cT (by simp [hF, -loadA] <;> rfl) ?_;apply Tri.skip;apply sN;apply sQ;apply bK;apply rS hC
 ·iterate 3 refine gO (by simp [hF, -loadA] <;> rfl) ?_
  rfl
 apply rS hC
 ·iterate 4 refine gO (by simp [hF, -loadA] <;> rfl) ?_
  rfl
 apply rS hC
 ·iterate 2 refine gO (by simp [hF, -loadA] <;> rfl) ?_
  rfl
 refine cF (by simp [hF, -loadA] <;> rfl) ?_;apply Tri.skip;apply bN;apply sN;apply rN hC
 ·iterate 2 refine gO (by simp [hF, -loadA] <;> rfl) ?_
  rfl
 refine inLoop_norm ?_;exact hA _ (by simp [hw]) (by simp [h0]) (by simp [h1]) (by simp [h5]) (by simp [h6]) (by simp [h30]) (by simp [h31]) (by simp [h32] <;> rfl)
theorem rnd2186_1y {call : CallF} (hC : call.Sound Tryz.prog TT) {Q : Out → Prop} (p N : Nat) (H : Heap) (hp : H[p]? = some (some (bsB N))) (hN : H[N]? = some (some ⟨9, [.s [69], .s [95]], .all⟩)) (x : List UInt8) (t : Tm) (n : Int) (a : Bool) (m : Nat) (hm : m ≤ 2000000) (hn0 : -2000000 ≤ n) (hn2 : n ≤ 4000000) (hcnt : ∀ K, call 188 [.s x, .s [95]] K = .val (.i .i64 m) K) (hz : ((m : Int) != 0) = true) (hw : t.wid = 122) (h0 : t.get 0 = .ptr p 0) (h1 : t.get 1 = .s x) (h5 : t.get 5 = .i .i64 n) (h6 : t.get 6 = .b a) (h30 : t.get 30 = .sl N 1 0 2 (some 2)) (h31 : t.get 31 = .i .i64 2) (h32 : t.get 32 = .i .i64 1) (hA : ∀ t' : Tm, t'.wid = 122 → t'.get 0 = .ptr p 0 → t'.get 1 = .s x → t'.get 5 = .i .i64 (n - m) → t'.get 6 = .b (true) → t'.get 30 = .sl N 1 0 2 (some 2) → t'.get 31 = .i .i64 2 → t'.get 32 = .i .i64 2 → LTri Tryz.prog TT (sub [true, true, true, false, true, false, true, false, false] (bodyOf Tryz.f186)) t' H Q) :
 LTri Tryz.prog TT (sub [true, true, true, false, true, false, true, false, false] (bodyOf Tryz.f186)) t H Q := by
 have x87 : TT.ext 188 = none := rfl;have hl : loadA TT 9 H (.ptr N 1) = some (.s [95]) := by simp [loadA, cellsAt, hN, pickAt, isAggT, nthU_eq]
 have hl2 : loadA TT 64 H (.ptr p 95) = some (.sl (N + 7) 1 0 0 none) := by rw [bs_load hp 95 (by omega)]; rfl
 have hn : IntKind.i64.wrap (n + IntKind.i64.wrap ((m : Int) * IntKind.i64.wrap (-1))) = n - m := by
  rw [show IntKind.i64.wrap (-1) = -1 from rfl, wrap_i64 (n := (m : Int) * (-1)) (by omega) (by omega), wrap_i64 (by omega) (by omega)]; omega
 have hF := ai @h0 (ai @h1 (ai @h5 (ai @h6 (ai @h30 (ai @h31 (ai @h32 (ai @hl (ai @hl2 (ai @hcnt (ai @x87 @hz))))))))));refine LTri.round' ?_;apply rS hC
 ·refine gO (by simp [hF, -loadA] <;> rfl) ?_;rfl
 apply sQ;refine cT (by simp [hF, -loadA] <;> rfl) ?_;apply Tri.skip;apply sN;apply sQ;apply bK;apply rS hC
 ·iterate 3 refine gO (by simp [hF, -loadA] <;> rfl) ?_
  rfl
 apply rS hC
 ·iterate 4 refine gO (by simp [hF, -loadA] <;> rfl) ?_
  rfl
 apply rS hC
 ·iterate 2 refine gO (by simp [hF, -loadA] <;> rfl) ?_
  rfl
 refine cT (by simp [hF, -loadA] <;> rfl) ?_;apply sQ;refine Tri.regN (t' := ?ty17) (H' := ?Hy17) TT_ok hC ?ey17 ?qy17;case ey17 =>
  refine evReg_quiet (t' := ?ty17) (by kernel_rfl) ?_ ?ry1907;iterate 14 refine QR.val rfl (by simp [hF, -loadA] <;> rfl) (by rfl) (by simp [hw]) ?_
  exact QR.nil;case ry1907 => exact rfl
 apply sN;apply rN hC
 ·refine gO (by simp [hF, -loadA] <;> rfl) ?_;rfl
 apply bN;apply sN;apply rN hC
 ·iterate 2 refine gO (by simp [hF, -loadA] <;> rfl) ?_
  rfl
 refine inLoop_norm ?_;exact hA _ (by simp [hw]) (by simp [h0]) (by simp [h1]) (by simp [h5] <;> exact hn) (by simp [h6]) (by simp [h30]) (by simp [h31]) (by simp [h32] <;> rfl)
theorem rnd2186_1n {call : CallF} (hC : call.Sound Tryz.prog TT) {Q : Out → Prop} (p N : Nat) (H : Heap) (hp : H[p]? = some (some (bsB N))) (hN : H[N]? = some (some ⟨9, [.s [69], .s [95]], .all⟩)) (x : List UInt8) (t : Tm) (n : Int) (a : Bool) (m : Nat) (hcnt : ∀ K, call 188 [.s x, .s [95]] K = .val (.i .i64 m) K) (hz : ((m : Int) != 0) = false) (hw : t.wid = 122) (h0 : t.get 0 = .ptr p 0) (h1 : t.get 1 = .s x) (h5 : t.get 5 = .i .i64 n) (h6 : t.get 6 = .b a) (h30 : t.get 30 = .sl N 1 0 2 (some 2)) (h31 : t.get 31 = .i .i64 2) (h32 : t.get 32 = .i .i64 1) (hA : ∀ t' : Tm, t'.wid = 122 → t'.get 0 = .ptr p 0 → t'.get 1 = .s x → t'.get 5 = .i .i64 (n) → t'.get 6 = .b (a) → t'.get 30 = .sl N 1 0 2 (some 2) → t'.get 31 = .i .i64 2 → t'.get 32 = .i .i64 2 → LTri Tryz.prog TT (sub [true, true, true, false, true, false, true, false, false] (bodyOf Tryz.f186)) t' H Q) :
 LTri Tryz.prog TT (sub [true, true, true, false, true, false, true, false, false] (bodyOf Tryz.f186)) t H Q := by
 have x87 : TT.ext 188 = none := rfl;have hl : loadA TT 9 H (.ptr N 1) = some (.s [95]) := by simp [loadA, cellsAt, hN, pickAt, isAggT, nthU_eq]
 have hF := ai @h0 (ai @h1 (ai @h5 (ai @h6 (ai @h30 (ai @h31 (ai @h32 (ai @hl (ai @hcnt (ai @x87 @hz)))))))));refine LTri.round' ?_;apply rS hC
 ·refine gO (by simp [hF, -loadA] <;> rfl) ?_;rfl
 apply sQ;refine cT (by simp [hF, -loadA] <;> rfl) ?_;apply Tri.skip;apply sN;apply sQ;apply bK;apply rS hC
 ·iterate 3 refine gO (by simp [hF, -loadA] <;> rfl) ?_
  rfl
 apply rS hC
 ·iterate 4 refine gO (by simp [hF, -loadA] <;> rfl) ?_
  rfl
 apply rS hC
 ·iterate 2 refine gO (by simp [hF, -loadA] <;> rfl) ?_
  rfl
 refine cF (by simp [hF, -loadA] <;> rfl) ?_;apply Tri.skip;apply bN;apply sN;apply rN hC
 ·iterate 2 refine gO (by simp [hF, -loadA] <;> rfl) ?_
  rfl
 refine inLoop_norm ?_;exact hA _ (by simp [hw]) (by simp [h0]) (by simp [h1]) (by simp [h5]) (by simp [h6]) (by simp [h30]) (by simp [h31]) (by simp [h32] <;> rfl)
theorem loop2186_0 {call : CallF} (hC : call.Sound Tryz.prog TT) {Q : Out → Prop} (p N : Nat) (H : Heap) (hp : H[p]? = some (some (bsB N))) (hN : H[N]? = some (some ⟨9, [.s [69], .s [95]], .all⟩)) (x : List UInt8) (t : Tm) (n : Int) (a : Bool) (hx : x.length < 1100000) (hn0 : 0 ≤ n) (hn2 : n ≤ 2000000) (hcnt : ∀ (c : UInt8) (K : Heap), call 188 [.s x, .s [c]] K = .val (.i .i64 (Lib.countByte x c)) K) (hw : t.wid = 122) (h0 : t.get 0 = .ptr p 0) (h1 : t.get 1 = .s x) (h5 : t.get 5 = .i .i64 n) (h6 : t.get 6 = .b a) (h30 : t.get 30 = .sl N 1 0 2 (some 2)) (h31 : t.get 31 = .i .i64 2) (h32 : t.get 32 = .i .i64 0) (hE : ∀ t' : Tm, t'.wid = 122 → t'.get 0 = .ptr p 0 → t'.get 1 = .s x → t'.get 5 = .i .i64 (n - (Lib.countByte x 95 : Nat)) → t'.get 6 = .b (a || decide (Lib.countByte x 69 ≠ 0) || decide (Lib.countByte x 95 ≠ 0)) → Q (.exit 0 t' H)) :
    LTri Tryz.prog TT (sub [true, true, true, false, true, false, true, false, false] (bodyOf Tryz.f186)) t H Q := by
  have hc1 : Lib.countByte x 69 ≤ x.length := List.count_le_length
  have hc2 : Lib.countByte x 95 ≤ x.length := List.count_le_length
  have two : ∀ (a1 : Bool) (t1 : Tm), t1.wid = 122 → t1.get 0 = .ptr p 0 → t1.get 1 = .s x → t1.get 5 = .i .i64 n → t1.get 6 = .b a1 → t1.get 30 = .sl N 1 0 2 (some 2) → t1.get 31 = .i .i64 2 → t1.get 32 = .i .i64 1 → (a || decide (Lib.countByte x 69 ≠ 0)) = a1 → LTri Tryz.prog TT (sub [true, true, true, false, true, false, true, false, false] (bodyOf Tryz.f186)) t1 H Q := by
    intro a1 t1 k1 k2 k3 k4 k5 k6 k7 k8 ha
    cases hz : ((Lib.countByte x 95 : Nat) : Int) != 0 with
    | true =>
      refine rnd2186_1y hC p N H hp hN x t1 n a1 (Lib.countByte x 95) (by omega) (by omega) (by omega) (hcnt 95) hz k1 k2 k3 k4 k5 k6 k7 k8 fun t2 j1 j2 j3 j4 j5 j6 j7 j8 => ?_
      refine rnd2186_2 hC p N H hp hN x t2 _ _ j1 j2 j3 j4 j5 j6 j7 j8 fun t3 i1 i2 i3 i4 i5 => hE t3 i1 i2 i3 i4 (have h9 : Lib.countByte x 95 ≠ 0 := by simpa using hz
        by rw [i5]; simp [h9])
    | false =>
      have h0 : Lib.countByte x 95 = 0 := by simpa using hz
      refine rnd2186_1n hC p N H hp hN x t1 n a1 (Lib.countByte x 95) (hcnt 95) hz k1 k2 k3 k4 k5 k6 k7 k8 fun t2 j1 j2 j3 j4 j5 j6 j7 j8 => ?_
      refine rnd2186_2 hC p N H hp hN x t2 _ _ j1 j2 j3 j4 j5 j6 j7 j8 fun t3 i1 i2 i3 i4 i5 => hE t3 i1 i2 i3 (by rw [i4, h0]; simp) (by rw [i5, ← ha]; simp [h0])
  cases hz : ((Lib.countByte x 69 : Nat) : Int) != 0 with
  | true =>
    refine rnd2186_0y hC p N H hp hN x t n a (Lib.countByte x 69) (by omega) (by omega) (by omega) (hcnt 69) hz hw h0 h1 h5 h6 h30 h31 h32 fun t2 j1 j2 j3 j4 j5 j6 j7 j8 => ?_
    exact two true t2 j1 j2 j3 j4 j5 j6 j7 j8 (by simp only [bne_iff_ne, ne_eq] at hz; simp; right; omega)
  | false =>
    have h0' : Lib.countByte x 69 = 0 := by simpa using hz
    refine rnd2186_0n hC p N H hp hN x t n a (Lib.countByte x 69) (hcnt 69) hz hw h0 h1 h5 h6 h30 h31 h32 fun t2 j1 j2 j3 j4 j5 j6 j7 j8 => ?_
    exact two a t2 j1 j2 j3 j4 j5 j6 j7 j8 (by simp [h0'])

def byV (l : List UInt8) : List V := l.map fun c => V.i .u8 c.toNat
def bufB (out : List UInt8) (k : Nat) : Blk := ⟨5, byV out ++ List.replicate k (V.i .u8 0), .all⟩
theorem src_frz {H : Heap} {m : Nat} {ty : Nat} {l : List V} (h : H[m]? = some (some ⟨ty, .tup [] :: l, .map⟩)) : srcAt H m = some l := by
 have h1 : cellsAt H m = none := by simp [cellsAt, h]
 have h2 : frzAt H m = some ⟨ty, l, .all⟩ ∨ ∃ k, frzAt H m = some ⟨ty, l, k⟩ := by
  right;simp [frzAt, h, frzC]
 obtain ⟨k, h2⟩ := h2.elim (fun h => ⟨_, h⟩) id;simp only [srcAt, h1, h2];rfl
theorem splice_nil (l : List V) (o : Nat) (h : o ≤ l.length) : splice l o [] = l := by simp [splice]
theorem copy_none {H : Heap} {z m : Nat} {blk : Blk} {cs : List V} (hz : cellsAt H z = some blk) (hs : srcAt H m = some cs) (o w : Nat) (c : Option Nat) (h : o ≤ blk.cells.length) : evCopy TT 64 (.sl z 1 o w c) (.sl m 1 0 0 none) H = .val (.i .i64 0) (H.set z (some blk)) := by
 have e1 : TT.und 64 = some (.slice 5) := rfl;have e2 : TT.size 5 = some 1 := rfl;have e3 : cut cs 0 0 = some [] := by simp [cut]
 simp only [evCopy, e1, hz, hs, setB_eq];rw [show Nat.min 0 w = 0 from Nat.zero_min w, e3];simp [e2, splice_nil _ _ h, h]
theorem copy_one {H : Heap} {z m : Nat} {blk : Blk} {v : V} (hz : cellsAt H z = some blk) (hs : srcAt H m = some [v]) (hf : flat v = true) (o w : Nat) (c : Option Nat) (hw : 0 < w) (h : o < blk.cells.length) : evCopy TT 64 (.sl z 1 o w c) (.sl m 1 0 1 none) H = .val (.i .i64 1) (H.set z (some { blk with cells := splice blk.cells o [v] })) := by
 have e1 : TT.und 64 = some (.slice 5) := rfl;have e2 : TT.size 5 = some 1 := rfl;have e3 : cut [v] 0 1 = some [v] := by simp [cut]
 simp only [evCopy, e1, hz, hs, setB_eq];rw [show Nat.min 1 w = 1 from Nat.min_eq_left hw, e3];show (if _ then _ else _) = _;rw [if_pos ⟨trivial, trivial, e2, by rw [List.all_cons, hf]; rfl, by simp; omega⟩];rfl
theorem BsR.set {H : Heap} {p N z : Nat} (h : BsR H p N) (hz : z ≠ p ∧ z ≠ N ∧ z ≠ N + 4 ∧ z ≠ N + 7) (b : Option Blk) : BsR (H.set z b) p N := by
 obtain ⟨h1, h2, h3, h4⟩ := h;obtain ⟨z1, z2, z3, z4⟩ := hz;exact ⟨by rw [List.getElem?_set_ne z1]; exact h1, by rw [List.getElem?_set_ne z2]; exact h2, by rw [List.getElem?_set_ne z3]; exact h3, by rw [List.getElem?_set_ne z4]; exact h4⟩
theorem buf_step (out : List UInt8) (k : Nat) (c : UInt8) : splice (bufB out (k + 1)).cells out.length [V.i .u8 c.toNat] = (bufB (out ++ [c]) k).cells := by
 have e : (byV out).length = out.length := by simp [byV]
 unfold splice bufB;simp only;rw [List.take_append_of_le_length (by omega), List.take_of_length_le (by omega), List.drop_append, List.drop_eq_nil_of_le (by simp; omega), e];simp [byV, List.replicate_succ]
theorem loop2186_2 {call : CallF} (hC : call.Sound Tryz.prog TT) {Q : Out → Prop} (p N z : Nat) (hzn : z ≠ p ∧ z ≠ N ∧ z ≠ N + 4 ∧ z ≠ N + 7) : ∀ (L pre : List UInt8) (t : Tm) (H : Heap) (W J : Nat), J = (repX pre).length → (pre ++ L).length < 1100000 → W = J + (repX L).length → BsR H p N → H[z]? = some (some (bufB (repX pre) (repX L).length)) → t.wid = 122 → t.get 0 = .ptr p 0 → t.get 1 = .s (pre ++ L) → t.get 12 = .sl z 1 0 W (some W) → t.get 13 = .i .i64 J → t.get 14 = .i .i64 pre.length →
 (∀ (t' : Tm) (H' : Heap), t'.wid = 122 → t'.get 12 = .sl z 1 0 W (some W) → H'[z]? = some (some (bufB (repX (pre ++ L)) 0)) → H'.length = H.length → (∀ j, j ≠ z → H'[j]? = H[j]?) → Q (.exit 4 t' H')) →
 LTri Tryz.prog TT (sub [true, true, true, true, true, true, true, false, true, false, false] (bodyOf Tryz.f186)) t H Q := by
 intro L;induction L with
 | nil =>
  intro pre t H W J hJ hlen hW hB hz hw h0 h1 h12 h13 h14 hE;have hF := ai @h0 (ai @h1 (ai @h12 (ai @h13 @h14)));refine LTri.round' ?_;apply sQ;apply rS hC
  ·iterate 4 refine gO (by simp [hF, -loadA] <;> rfl) ?_
   rfl
  refine cF (by simp [hF, -loadA] <;> rfl) ?_;refine Tri.exit ?_;refine inSeq_exit ?_;refine inLoop_exit ?_;exact hE _ _ (by simp [hw]) (by simp [h12]) (by rw [hz]; simp [repX]) rfl (fun _ _ => rfl)
 | cons b L ih =>
  intro pre t H W J hJ hlen hW hB hz hw h0 h1 h12 h13 h14 hE;have hlt := fin_len pre.length L.length;have hat := str_at pre b L;have hat2 := str_at2 pre b L;have hb1 : (0 : Int) ≤ b.toNat := (u8_nn b).1;have hb2 : (b.toNat : Int) < 256 := (u8_nn b).2;have hi : b.toNat < 256 := b.toNat_lt;have hle : J ≤ W := by omega
  have hzb : cellsAt H z = some (bufB (repX pre) (repX (b :: L)).length) := by simp [cellsAt, hz, bufB]
  have hJ2 : J < 1100000 := by
   have h1 : (repX pre).length ≤ pre.length := by unfold repX; rw [List.length_map]; exact List.length_filter_le _ _
   rw [List.length_append] at hlen;omega
  have hs7 : srcAt H (N + 7) = some [] := src_frz hB.2.2.2;have hs4 : srcAt H (N + 4) = some [.i .u8 101] := src_frz hB.2.2.1;by_cases h95 : b.toNat = 95
  ·have hb : b = 95 := UInt8.toNat_inj.1 h95;have hr : repX (pre ++ [b]) = repX pre := by rw [hb]; simp [repX]
   have hr2 : repX (b :: L) = repX L := by rw [hb]; simp [repX]
   have hl : loadA TT 64 H (.ptr p b.toNat) = some (.sl (N + 7) 1 0 0 none) := by rw [bs_load hB.1 _ hi, h95]; rfl
   have hset : H.set z (some (bufB (repX pre) (repX (b :: L)).length)) = H := (Heap.set_self hz).symm;have hn : IntKind.i64.wrap ((J : Int) + 0) = J := by rw [Int.add_zero]; exact wrap_i64 (by omega) (by omega)
   by_cases hWJ : W = J
   ·have hcp : evCopy TT 64 (.sl z 1 0 0 (some 0)) (.sl (N + 7) 1 0 0 none) H = .val (.i .i64 0) (H.set z (some (bufB (repX pre) (repX (b :: L)).length))) := copy_none hzb hs7 0 0 _ (by omega);have hF := ai @h0 (ai @h1 (ai @h12 (ai @h13 (ai @h14 (ai @hlt (ai @hat (ai @hat2 (ai @hb1 (ai @hb2 (ai @hl (ai @hcp (ai @hle (ai @hWJ @hset)))))))))))));refine LTri.round' ?_;apply sQ;apply rS hC
    ·iterate 4 refine gO (by simp [hF, -loadA] <;> rfl) ?_
     rfl
    refine cT (by simp [hF, -loadA] <;> rfl) ?_;apply Tri.skip;apply sN;apply sQ;apply bK;apply rS hC
    ·iterate 4 refine gO (by simp [hF, -loadA] <;> rfl) ?_
     rfl
    apply rS hC
    ·iterate 7 refine gO (by simp [hF, -loadA] <;> rfl) ?_
     rfl
    refine cT (by simp [hF, -loadA] <;> rfl) ?_;refine Tri.regN (t' := ?ta6) (H' := ?Ha6) TT_ok hC ?ea6 ?qa6;case ea6 =>
     refine evReg_draw (t' := ?ta6) (H' := ?Ha6) (ks := [.q, .q, .q, .q, .q, .q, .q, .q, .q, .f, .e, .q, .q]) (fun _ => True) (by kernel_rfl) ?Aa906 ?_ ?ra906;case Aa906 => simp [hF, -loadA]
     iterate 9 refine DR.blind rfl rfl (by simp [hF, -loadA] <;> rfl) (by rfl) (by simp [hw]) ?_
     refine DR.fix rfl (by simp [hF, -loadA] <;> rfl) (by rfl) (by simp [hw]) ?_;refine DR.eff rfl rfl (by simp [hF, -loadA] <;> rfl) (by rfl) (by simp [hw]) (by simp [hF, -loadA]) ?_;iterate 2 refine DR.blind rfl rfl (by simp [hF, -loadA] <;> rfl) (by rfl) (by simp [hw]) ?_
     exact DR.nil;case ra906 => exact rfl
    apply bN;apply sN;apply rN hC
    ·iterate 3 refine gO (by simp [hF, -loadA] <;> rfl) ?_
     rfl
    refine inLoop_norm ?_;refine ih (pre ++ [b]) _ H W J (by rw [hJ, hr]) (by simpa using hlen) (by rw [hW, hr2]) hB (by rw [hr, hz, hr2])  (by simp [hw]) (by simp [h0]) (by simp [h1]) (by simp [h12]) (by simp [h13] <;> exact hn) (by simp [h14] <;> exact wrap_i64 (by omega) (by simp at hlen; omega)) (fun t' H' k1 k2 k3 k4 k5 => hE t' H' k1 k2 (by simpa using k3) k4 k5)
   ·have hcp : evCopy TT 64 (.sl z 1 J (W - J) (some (W - J))) (.sl (N + 7) 1 0 0 none) H = .val (.i .i64 0) (H.set z (some (bufB (repX pre) (repX (b :: L)).length))) := copy_none hzb hs7 J _ _ (by simp [bufB, byV]; omega);have hF := ai @h0 (ai @h1 (ai @h12 (ai @h13 (ai @h14 (ai @hlt (ai @hat (ai @hat2 (ai @hb1 (ai @hb2 (ai @hl (ai @hcp (ai @hle (ai @hWJ @hset)))))))))))));refine LTri.round' ?_;apply sQ;apply rS hC
    ·iterate 4 refine gO (by simp [hF, -loadA] <;> rfl) ?_
     rfl
    refine cT (by simp [hF, -loadA] <;> rfl) ?_;apply Tri.skip;apply sN;apply sQ;apply bK;apply rS hC
    ·iterate 4 refine gO (by simp [hF, -loadA] <;> rfl) ?_
     rfl
    apply rS hC
    ·iterate 7 refine gO (by simp [hF, -loadA] <;> rfl) ?_
     rfl
    refine cT (by simp [hF, -loadA] <;> rfl) ?_;refine Tri.regN (t' := ?tb6) (H' := ?Hb6) TT_ok hC ?eb6 ?qb6;case eb6 =>
     refine evReg_draw (t' := ?tb6) (H' := ?Hb6) (ks := [.q, .q, .q, .q, .q, .q, .q, .q, .q, .f, .e, .q, .q]) (fun _ => True) (by kernel_rfl) ?Ab906 ?_ ?rb906;case Ab906 => simp [hF, -loadA]
     iterate 9 refine DR.blind rfl rfl (by simp [hF, -loadA] <;> rfl) (by rfl) (by simp [hw]) ?_
     refine DR.fix rfl (by simp [hF, -loadA] <;> rfl) (by rfl) (by simp [hw]) ?_;refine DR.eff rfl rfl (by simp [hF, -loadA] <;> rfl) (by rfl) (by simp [hw]) (by simp [hF, -loadA]) ?_;iterate 2 refine DR.blind rfl rfl (by simp [hF, -loadA] <;> rfl) (by rfl) (by simp [hw]) ?_
     exact DR.nil;case rb906 => exact rfl
    apply bN;apply sN;apply rN hC
    ·iterate 3 refine gO (by simp [hF, -loadA] <;> rfl) ?_
     rfl
    refine inLoop_norm ?_;refine ih (pre ++ [b]) _ H W J (by rw [hJ, hr]) (by simpa using hlen) (by rw [hW, hr2]) hB (by rw [hr, hz, hr2])  (by simp [hw]) (by simp [h0]) (by simp [h1]) (by simp [h12]) (by simp [h13] <;> exact hn) (by simp [h14] <;> exact wrap_i64 (by omega) (by simp at hlen; omega)) (fun t' H' k1 k2 k3 k4 k5 => hE t' H' k1 k2 (by simpa using k3) k4 k5)
  ·have hb : b ≠ 95 := fun e => h95 (by rw [e]; rfl);have hn : IntKind.i64.wrap ((J : Int) + 1) = ((J + 1 : Nat) : Int) := by rw [wrap_i64 (by omega) (by omega)]; omega
   by_cases h69 : b.toNat = 69
   ·have hb' : b = 69 := UInt8.toNat_inj.1 h69;have hr : repX (pre ++ [b]) = repX pre ++ [101] := by rw [hb']; simp [repX]
    have hr2 : repX (b :: L) = 101 :: repX L := by rw [hb']; simp [repX]
    have hl : loadA TT 64 H (.ptr p b.toNat) = some (.sl (N + 4) 1 0 1 none) := by rw [bs_load hB.1 _ hi, h69]; rfl
    have hWJ : ¬ W = J := by rw [hW, hr2]; simp
    have hJl : J < (bufB (repX pre) (repX (b :: L)).length).cells.length := by simp [bufB, byV, hJ, hr2]
    have hcp : evCopy TT 64 (.sl z 1 J (W - J) (some (W - J))) (.sl (N + 4) 1 0 1 none) H = .val (.i .i64 1) (H.set z (some (bufB (repX pre ++ [101]) (repX L).length))) := by
     rw [copy_one hzb hs4 rfl J _ _ (by omega) hJl, hr2, List.length_cons, hJ, show V.i IntKind.u8 101 = .i .u8 ((101 : UInt8).toNat : Nat) from rfl, buf_step];rfl
    have hzl : z < H.length := Heap.lt hz;have hF := ai @h0 (ai @h1 (ai @h12 (ai @h13 (ai @h14 (ai @hlt (ai @hat (ai @hat2 (ai @hb1 (ai @hb2 (ai @hl (ai @hcp (ai @hle @hWJ))))))))))));refine LTri.round' ?_;apply sQ;apply rS hC
    ·iterate 4 refine gO (by simp [hF, -loadA] <;> rfl) ?_
     rfl
    refine cT (by simp [hF, -loadA] <;> rfl) ?_;apply Tri.skip;apply sN;apply sQ;apply bK;apply rS hC
    ·iterate 4 refine gO (by simp [hF, -loadA] <;> rfl) ?_
     rfl
    apply rS hC
    ·iterate 7 refine gO (by simp [hF, -loadA] <;> rfl) ?_
     rfl
    refine cT (by simp [hF, -loadA] <;> rfl) ?_;refine Tri.regN (t' := ?tc6) (H' := ?Hc6) TT_ok hC ?ec6 ?qc6;case ec6 =>
     refine evReg_draw (t' := ?tc6) (H' := ?Hc6) (ks := [.q, .q, .q, .q, .q, .q, .q, .q, .q, .f, .e, .q, .q]) (fun _ => True) (by kernel_rfl) ?Ac906 ?_ ?rc906;case Ac906 => simp [hF, -loadA]
     iterate 9 refine DR.blind rfl rfl (by simp [hF, -loadA] <;> rfl) (by rfl) (by simp [hw]) ?_
     refine DR.fix rfl (by simp [hF, -loadA] <;> rfl) (by rfl) (by simp [hw]) ?_;refine DR.eff rfl rfl (by simp [hF, -loadA] <;> rfl) (by rfl) (by simp [hw]) (by simp [hF, -loadA]) ?_;iterate 2 refine DR.blind rfl rfl (by simp [hF, -loadA] <;> rfl) (by rfl) (by simp [hw]) ?_
     exact DR.nil;case rc906 => exact rfl
    apply bN;apply sN;apply rN hC
    ·iterate 3 refine gO (by simp [hF, -loadA] <;> rfl) ?_
     rfl
    refine inLoop_norm ?_;refine ih (pre ++ [b]) _ _ W (J + 1) (by rw [hr, hJ]; simp) (by simpa using hlen) (by rw [hW, hr2, List.length_cons]; omega) (hB.set hzn _) (by rw [List.getElem?_set_self hzl, hr])  (by simp [hw]) (by simp [h0]) (by simp [h1]) (by simp [h12]) (by simp [h13] <;> exact hn) (by simp [h14] <;> exact wrap_i64 (by omega) (by simp at hlen; omega)) (fun t' H' k1 k2 k3 k4 k5 => hE t' H' k1 k2 (by simpa using k3) (by rw [k4]; simp) (fun j hj => by rw [k5 j hj, List.getElem?_set_ne (fun e => hj e.symm)]))
   ·have hb' : b ≠ 69 := fun e => h69 (by rw [e]; rfl);have hr : repX (pre ++ [b]) = repX pre ++ [b] := by simp [repX, hb, hb']
    have hr2 : repX (b :: L) = b :: repX L := by simp [repX, hb, hb']
    have hl : loadA TT 64 H (.ptr p b.toNat) = some .nils := by rw [bs_load hB.1 _ hi, cellN N _ h95 h69]
    have hJW : (J : Int) < W := by rw [hW, hr2, List.length_cons]; omega
    have hzl : z < H.length := Heap.lt hz;have hst : storeA TT 5 H (.ptr z J) (.i .u8 b.toNat) = some (H.set z (some (bufB (repX pre ++ [b]) (repX L).length))) := by
     have e2 : TT.size 5 = some 1 := rfl;have hJl : J < (bufB (repX pre) (repX (b :: L)).length).cells.length := by simp [bufB, byV, hJ, hr2]
     have hcl : (V.i .u8 b.toNat).cells = [V.i .u8 b.toNat] := rfl;unfold storeA;simp only [hzb, hcl];rw [if_pos ⟨e2, hJl, rfl⟩, fSp_eq, setK_eq, hr2, List.length_cons, hJ, buf_step];rfl
    have hF := ai @h0 (ai @h1 (ai @h12 (ai @h13 (ai @h14 (ai @hlt (ai @hat (ai @hat2 (ai @hb1 (ai @hb2 (ai @hl (ai @hst (ai @hle @hJW))))))))))));refine LTri.round' ?_;apply sQ;apply rS hC
    ·iterate 4 refine gO (by simp [hF, -loadA, -storeA] <;> rfl) ?_
     rfl
    refine Tri.condG (o := ?od2) (b := ?bd2) ?gd2 ?rd2 ?yd2 ?nd2;case gd2 => simp [hF, -loadA, -storeA] <;> rfl
    case rd2 => rfl
    case yd2 =>
     intro hy2;apply Tri.skip;apply sN;apply sQ;apply bK;apply rS hC
     ·iterate 4 refine gO (by simp [hF, -loadA, -storeA] <;> rfl) ?_
      rfl
     apply rS hC
     ·iterate 7 refine gO (by simp [hF, -loadA, -storeA] <;> rfl) ?_
      rfl
     refine cF (by simp [hF, -loadA, -storeA] <;> rfl) ?_;apply rS hC
     ·iterate 5 refine gO (by simp [hF, -loadA, -storeA] <;> rfl) ?_
      rfl
     apply rN hC
     ·iterate 3 refine gO (by simp [hF, -loadA, -storeA] <;> rfl) ?_
      rfl
     apply bN;apply sN;apply rN hC
     ·iterate 3 refine gO (by simp [hF, -loadA, -storeA] <;> rfl) ?_
      rfl
     refine inLoop_norm ?_;refine ih (pre ++ [b]) _ _ W (J + 1) (by rw [hr, hJ]; simp) (by simpa using hlen) (by rw [hW, hr2, List.length_cons]; omega) (hB.set hzn _) (by rw [List.getElem?_set_self hzl, hr])  (by simp [hw]) (by simp [h0]) (by simp [h1]) (by simp [h12]) (by simp [h13] <;> exact hn) (by simp [h14] <;> exact wrap_i64 (by omega) (by simp at hlen; omega)) (fun t' H' k1 k2 k3 k4 k5 => hE t' H' k1 k2 (by simpa using k3) (by rw [k4]; simp) (fun j hj => by rw [k5 j hj, List.getElem?_set_ne (fun e => hj e.symm)]))
    case nd2 =>
     intro hn2;exact absurd hn2 (by simp [hF, -loadA, -storeA])
theorem body_2186n0 {call : CallF} (hC : call.Sound Tryz.prog TT) (w16 : IntKind.i64.wrap 16 = 16) (p N : Nat) (H : Heap) (hB : BsR H p N) (x : List UInt8) (hx : x.length < 1100000) (hl256 : loadA TT 37 H (.ptr p 256) = some (.sl N 1 0 2 (some 2))) (hcnt : ∀ (c : UInt8) (K : Heap), call 188 [.s x, .s [c]] K = .val (.i .i64 (Lib.countByte x c)) K) (h16 : ¬ (16 : Int) ≤ x.length) (W : Nat) (hWW : (W : Int) = W) (e5 : (x.length : Int) - (x.count 95 : Nat) = W) (e6 : (false || x.any isX) = false) (hmk : evMakeSlice TT 64 (.i .i64 W) (.i .i64 W) H = .val (.sl H.length 1 0 W (some W)) (H ++ [some (bufB [] W)])) (hrep : repX x = x)   : XBody Tryz.prog TT 186 [.ptr p 0, .s x] H (fun r => ∃ B, r = .val (.s (repX x)) B ∧ H.length ≤ B.length ∧ ∀ j, j < H.length → B[j]? = H[j]?) := by
 refine ⟨Tryz.f186, _, rfl, rfl, by simp [Tryz.f186], ?_⟩;have h0 : (Tm.init Tryz.f186.ntmps [.ptr p 0, .s x]).get 0 = .ptr p 0 := by rw [get_init]; rfl
 have h1 : (Tm.init Tryz.f186.ntmps [.ptr p 0, .s x]).get 1 = .s x := by rw [get_init]; rfl
 have hw : (Tm.init Tryz.f186.ntmps [.ptr p 0, .s x]).wid = 122 := rfl;generalize Tm.init Tryz.f186.ntmps [.ptr p 0, .s x] = t at *;try simp only [Nd.enc_eq] at *
 have hF := ai @h0 (ai @h1 (ai @hl256 (ai @h16 @w16)));apply rS hC
 ·refine gO (by simp [hF, -loadA] <;> rfl) ?_;rfl
 apply rS hC
 ·iterate 3 refine gO (by simp [hF, -loadA] <;> rfl) ?_
  rfl
 apply rS hC
 ·refine gO (by simp [hF, -loadA] <;> rfl) ?_;rfl
 apply sQ;apply rS hC
 ·iterate 9 refine gO (by simp [hF, -loadA] <;> rfl) ?_
  rfl
 refine cF (by simp [hF, -loadA] <;> rfl) ?_;apply rS hC
 ·refine gO (by simp [hF, -loadA] <;> rfl) ?_;rfl
 apply bK;refine Tri.loop ?_;refine loop2186_1 hC p N H hB.1 x [] _ (x.length : Int) false (by simpa using hx) (by omega) (by omega) (by simp [hw]) (by simp [h0]) (by simp [h1]) (by simp <;> rfl) (by simp <;> rfl) (by simp <;> rfl) ?exit;case exit =>
  intro t2 hw h0 h1 h5 h6;rw [e5] at h5;rw [e6] at h6;refine inBlk_exit ?_;apply sN;apply sQ;apply rS hC
  ·iterate 2 refine gO (by simp [hF, -loadA, h0, h1, h5, h6, -loadA, hmk] <;> rfl) ?_
   rfl
  refine cT (by simp [hF, -loadA] <;> rfl) ?_;apply rS hC
  ·iterate 2 refine gO (by simp [hF, -loadA, h0, h1, h5, h6, -loadA, hmk] <;> rfl) ?_
   rfl
  apply Tri.ret;apply sR;refine ⟨.s (repX x), ⟨_, rfl, Nat.le_refl _, fun _ _ => rfl⟩, ?_⟩;simp [Tryz.f186, h1, hrep]
theorem body_2186b0 {call : CallF} (hC : call.Sound Tryz.prog TT) (w16 : IntKind.i64.wrap 16 = 16) (p N : Nat) (H : Heap) (hB : BsR H p N) (x : List UInt8) (hx : x.length < 1100000) (hl256 : loadA TT 37 H (.ptr p 256) = some (.sl N 1 0 2 (some 2))) (hcnt : ∀ (c : UInt8) (K : Heap), call 188 [.s x, .s [c]] K = .val (.i .i64 (Lib.countByte x c)) K) (h16 : (16 : Int) ≤ x.length) (W : Nat) (hWW : (W : Int) = W) (e5 : (x.length : Int) - (Lib.countByte x 95 : Nat) = W) (e6 : (false || decide (Lib.countByte x 69 ≠ 0) || decide (Lib.countByte x 95 ≠ 0)) = false) (hmk : evMakeSlice TT 64 (.i .i64 W) (.i .i64 W) H = .val (.sl H.length 1 0 W (some W)) (H ++ [some (bufB [] W)])) (hrep : repX x = x)   : XBody Tryz.prog TT 186 [.ptr p 0, .s x] H (fun r => ∃ B, r = .val (.s (repX x)) B ∧ H.length ≤ B.length ∧ ∀ j, j < H.length → B[j]? = H[j]?) := by
 refine ⟨Tryz.f186, _, rfl, rfl, by simp [Tryz.f186], ?_⟩;have h0 : (Tm.init Tryz.f186.ntmps [.ptr p 0, .s x]).get 0 = .ptr p 0 := by rw [get_init]; rfl
 have h1 : (Tm.init Tryz.f186.ntmps [.ptr p 0, .s x]).get 1 = .s x := by rw [get_init]; rfl
 have hw : (Tm.init Tryz.f186.ntmps [.ptr p 0, .s x]).wid = 122 := rfl;generalize Tm.init Tryz.f186.ntmps [.ptr p 0, .s x] = t at *;try simp only [Nd.enc_eq] at *
 have hF := ai @h0 (ai @h1 (ai @hl256 (ai @h16 @w16)));apply rS hC
 ·refine gO (by simp [hF, -loadA] <;> rfl) ?_;rfl
 apply rS hC
 ·iterate 3 refine gO (by simp [hF, -loadA] <;> rfl) ?_
  rfl
 apply rS hC
 ·refine gO (by simp [hF, -loadA] <;> rfl) ?_;rfl
 apply sQ;apply rS hC
 ·iterate 9 refine gO (by simp [hF, -loadA] <;> rfl) ?_
  rfl
 refine cT (by simp [hF, -loadA] <;> rfl) ?_;apply rS hC
 ·iterate 6 refine gO (by simp [hF, -loadA] <;> rfl) ?_
  rfl
 apply bK;refine Tri.loop ?_;refine loop2186_0 hC p N H hB.1 hB.2.1 x _ (x.length : Int) false hx (by omega) (by omega) hcnt (by simp [hw]) (by simp [h0]) (by simp [h1]) (by simp <;> rfl) (by simp <;> rfl) (by simp <;> rfl) (by simp <;> rfl) (by simp <;> rfl) ?exit;case exit =>
  intro t2 hw h0 h1 h5 h6;rw [e5] at h5;rw [e6] at h6;refine inBlk_exit ?_;apply sN;apply sQ;apply rS hC
  ·iterate 2 refine gO (by simp [hF, -loadA, h0, h1, h5, h6, -loadA, hmk] <;> rfl) ?_
   rfl
  refine cT (by simp [hF, -loadA] <;> rfl) ?_;apply rS hC
  ·iterate 2 refine gO (by simp [hF, -loadA, h0, h1, h5, h6, -loadA, hmk] <;> rfl) ?_
   rfl
  apply Tri.ret;apply sR;refine ⟨.s (repX x), ⟨_, rfl, Nat.le_refl _, fun _ _ => rfl⟩, ?_⟩;simp [Tryz.f186, h1, hrep]
theorem body_2186n1 {call : CallF} (hC : call.Sound Tryz.prog TT) (w16 : IntKind.i64.wrap 16 = 16) (p N : Nat) (H : Heap) (hB : BsR H p N) (x : List UInt8) (hx : x.length < 1100000) (hl256 : loadA TT 37 H (.ptr p 256) = some (.sl N 1 0 2 (some 2))) (hcnt : ∀ (c : UInt8) (K : Heap), call 188 [.s x, .s [c]] K = .val (.i .i64 (Lib.countByte x c)) K) (h16 : ¬ (16 : Int) ≤ x.length) (W : Nat) (hWW : (W : Int) = W) (e5 : (x.length : Int) - (x.count 95 : Nat) = W) (e6 : (false || x.any isX) = true) (hmk : evMakeSlice TT 64 (.i .i64 W) (.i .i64 W) H = .val (.sl H.length 1 0 W (some W)) (H ++ [some (bufB [] W)])) (hW : W = 0 + (repX x).length) (hzn : H.length ≠ p ∧ H.length ≠ N ∧ H.length ≠ N + 4 ∧ H.length ≠ N + 7) (hB2 : BsR (H ++ [some (bufB [] W)]) p N) (hcv0 : ∀ K : Heap, K[H.length]? = some (some (bufB (repX x) 0)) → evConvO TT 64 9 (.sl H.length 1 0 W (some W)) K = .val (.s (repX x)) K)   : XBody Tryz.prog TT 186 [.ptr p 0, .s x] H (fun r => ∃ B, r = .val (.s (repX x)) B ∧ H.length ≤ B.length ∧ ∀ j, j < H.length → B[j]? = H[j]?) := by
 refine ⟨Tryz.f186, _, rfl, rfl, by simp [Tryz.f186], ?_⟩;have h0 : (Tm.init Tryz.f186.ntmps [.ptr p 0, .s x]).get 0 = .ptr p 0 := by rw [get_init]; rfl
 have h1 : (Tm.init Tryz.f186.ntmps [.ptr p 0, .s x]).get 1 = .s x := by rw [get_init]; rfl
 have hw : (Tm.init Tryz.f186.ntmps [.ptr p 0, .s x]).wid = 122 := rfl;generalize Tm.init Tryz.f186.ntmps [.ptr p 0, .s x] = t at *;try simp only [Nd.enc_eq] at *
 have hF := ai @h0 (ai @h1 (ai @hl256 (ai @h16 @w16)));apply rS hC
 ·refine gO (by simp [hF, -loadA] <;> rfl) ?_;rfl
 apply rS hC
 ·iterate 3 refine gO (by simp [hF, -loadA] <;> rfl) ?_
  rfl
 apply rS hC
 ·refine gO (by simp [hF, -loadA] <;> rfl) ?_;rfl
 apply sQ;apply rS hC
 ·iterate 9 refine gO (by simp [hF, -loadA] <;> rfl) ?_
  rfl
 refine cF (by simp [hF, -loadA] <;> rfl) ?_;apply rS hC
 ·refine gO (by simp [hF, -loadA] <;> rfl) ?_;rfl
 apply bK;refine Tri.loop ?_;refine loop2186_1 hC p N H hB.1 x [] _ (x.length : Int) false (by simpa using hx) (by omega) (by omega) (by simp [hw]) (by simp [h0]) (by simp [h1]) (by simp <;> rfl) (by simp <;> rfl) (by simp <;> rfl) ?exit;case exit =>
  intro t2 hw h0 h1 h5 h6;rw [e5] at h5;rw [e6] at h6;refine inBlk_exit ?_;apply sN;apply sQ;apply rS hC
  ·iterate 2 refine gO (by simp [hF, -loadA, h0, h1, h5, h6, -loadA, hmk] <;> rfl) ?_
   rfl
  refine cF (by simp [hF, -loadA] <;> rfl) ?_;apply Tri.skip;apply sN;apply rS hC
  ·iterate 3 refine gO (by simp [hF, -loadA, h0, h1, h5, h6, -loadA, hmk] <;> rfl) ?_
   rfl
  apply rS hC
  ·refine gO (by simp [hF, -loadA, h0, h1, h5, h6, -loadA, hmk] <;> rfl) ?_;rfl
  apply sQ;apply rS hC
  ·refine gO (by simp [hF, -loadA, h0, h1, h5, h6, -loadA, hmk] <;> rfl) ?_;rfl
  apply bK;refine Tri.loop ?_;refine loop2186_2 hC p N H.length hzn x [] _ _ W 0 rfl (by simpa using hx) hW hB2 (by rw [List.getElem?_append_right (Nat.le_refl _), Nat.sub_self, hW, Nat.zero_add]; rfl) (by simp [hw]) (by simp [h0]) (by simp [h1]) (by simp <;> rfl) (by simp <;> rfl) (by simp <;> rfl) ?exit2;case exit2 =>
   intro t3 H3 hw h12 hz3 hl3 hk3;rw [List.nil_append] at hz3;have hcv := hcv0 H3 hz3;refine inBlk_exit ?_;apply sN;apply rS hC
   ·iterate 3 refine gO (by simp [hF, -loadA, h12, hcv, -evConvO] <;> rfl) ?_
    rfl
   apply Tri.ret;refine ⟨.s (repX x), ⟨H3, rfl, by rw [hl3]; simp, fun j hj => by rw [hk3 j (by omega), List.getElem?_append_left hj]⟩, ?_⟩;simp [Tryz.f186]
theorem body_2186b1 {call : CallF} (hC : call.Sound Tryz.prog TT) (w16 : IntKind.i64.wrap 16 = 16) (p N : Nat) (H : Heap) (hB : BsR H p N) (x : List UInt8) (hx : x.length < 1100000) (hl256 : loadA TT 37 H (.ptr p 256) = some (.sl N 1 0 2 (some 2))) (hcnt : ∀ (c : UInt8) (K : Heap), call 188 [.s x, .s [c]] K = .val (.i .i64 (Lib.countByte x c)) K) (h16 : (16 : Int) ≤ x.length) (W : Nat) (hWW : (W : Int) = W) (e5 : (x.length : Int) - (Lib.countByte x 95 : Nat) = W) (e6 : (false || decide (Lib.countByte x 69 ≠ 0) || decide (Lib.countByte x 95 ≠ 0)) = true) (hmk : evMakeSlice TT 64 (.i .i64 W) (.i .i64 W) H = .val (.sl H.length 1 0 W (some W)) (H ++ [some (bufB [] W)])) (hW : W = 0 + (repX x).length) (hzn : H.length ≠ p ∧ H.length ≠ N ∧ H.length ≠ N + 4 ∧ H.length ≠ N + 7) (hB2 : BsR (H ++ [some (bufB [] W)]) p N) (hcv0 : ∀ K : Heap, K[H.length]? = some (some (bufB (repX x) 0)) → evConvO TT 64 9 (.sl H.length 1 0 W (some W)) K = .val (.s (repX x)) K)   : XBody Tryz.prog TT 186 [.ptr p 0, .s x] H (fun r => ∃ B, r = .val (.s (repX x)) B ∧ H.length ≤ B.length ∧ ∀ j, j < H.length → B[j]? = H[j]?) := by
 refine ⟨Tryz.f186, _, rfl, rfl, by simp [Tryz.f186], ?_⟩;have h0 : (Tm.init Tryz.f186.ntmps [.ptr p 0, .s x]).get 0 = .ptr p 0 := by rw [get_init]; rfl
 have h1 : (Tm.init Tryz.f186.ntmps [.ptr p 0, .s x]).get 1 = .s x := by rw [get_init]; rfl
 have hw : (Tm.init Tryz.f186.ntmps [.ptr p 0, .s x]).wid = 122 := rfl;generalize Tm.init Tryz.f186.ntmps [.ptr p 0, .s x] = t at *;try simp only [Nd.enc_eq] at *
 have hF := ai @h0 (ai @h1 (ai @hl256 (ai @h16 @w16)));apply rS hC
 ·refine gO (by simp [hF, -loadA] <;> rfl) ?_;rfl
 apply rS hC
 ·iterate 3 refine gO (by simp [hF, -loadA] <;> rfl) ?_
  rfl
 apply rS hC
 ·refine gO (by simp [hF, -loadA] <;> rfl) ?_;rfl
 apply sQ;apply rS hC
 ·iterate 9 refine gO (by simp [hF, -loadA] <;> rfl) ?_
  rfl
 refine cT (by simp [hF, -loadA] <;> rfl) ?_;apply rS hC
 ·iterate 6 refine gO (by simp [hF, -loadA] <;> rfl) ?_
  rfl
 apply bK;refine Tri.loop ?_;refine loop2186_0 hC p N H hB.1 hB.2.1 x _ (x.length : Int) false hx (by omega) (by omega) hcnt (by simp [hw]) (by simp [h0]) (by simp [h1]) (by simp <;> rfl) (by simp <;> rfl) (by simp <;> rfl) (by simp <;> rfl) (by simp <;> rfl) ?exit;case exit =>
  intro t2 hw h0 h1 h5 h6;rw [e5] at h5;rw [e6] at h6;refine inBlk_exit ?_;apply sN;apply sQ;apply rS hC
  ·iterate 2 refine gO (by simp [hF, -loadA, h0, h1, h5, h6, -loadA, hmk] <;> rfl) ?_
   rfl
  refine cF (by simp [hF, -loadA] <;> rfl) ?_;apply Tri.skip;apply sN;apply rS hC
  ·iterate 3 refine gO (by simp [hF, -loadA, h0, h1, h5, h6, -loadA, hmk] <;> rfl) ?_
   rfl
  apply rS hC
  ·refine gO (by simp [hF, -loadA, h0, h1, h5, h6, -loadA, hmk] <;> rfl) ?_;rfl
  apply sQ;apply rS hC
  ·refine gO (by simp [hF, -loadA, h0, h1, h5, h6, -loadA, hmk] <;> rfl) ?_;rfl
  apply bK;refine Tri.loop ?_;refine loop2186_2 hC p N H.length hzn x [] _ _ W 0 rfl (by simpa using hx) hW hB2 (by rw [List.getElem?_append_right (Nat.le_refl _), Nat.sub_self, hW, Nat.zero_add]; rfl) (by simp [hw]) (by simp [h0]) (by simp [h1]) (by simp <;> rfl) (by simp <;> rfl) (by simp <;> rfl) ?exit2;case exit2 =>
   intro t3 H3 hw h12 hz3 hl3 hk3;rw [List.nil_append] at hz3;have hcv := hcv0 H3 hz3;refine inBlk_exit ?_;apply sN;apply rS hC
   ·iterate 3 refine gO (by simp [hF, -loadA, h12, hcv, -evConvO] <;> rfl) ?_
    rfl
   apply Tri.ret;refine ⟨.s (repX x), ⟨H3, rfl, by rw [hl3]; simp, fun j hj => by rw [hk3 j (by omega), List.getElem?_append_left hj]⟩, ?_⟩;simp [Tryz.f186]
theorem repX_count : ∀ x : List UInt8, (repX x).length + x.count 95 = x.length
 | [] => rfl
 | c :: x => by
  have ih := repX_count x;by_cases h : c = 95
  ·subst h;have e : repX (95 :: x) = repX x := by simp [repX]
   rw [e, List.count_cons_self, List.length_cons];omega
  ·have e : (repX (c :: x)).length = (repX x).length + 1 := by simp [repX, h]
   rw [e, List.count_cons_of_ne (fun e => h e), List.length_cons];omega
theorem any_isX : ∀ x : List UInt8, (decide (Lib.countByte x 69 ≠ 0) || decide (Lib.countByte x 95 ≠ 0)) = x.any isX
 | [] => rfl
 | c :: x => by
  have ih := any_isX x;unfold Lib.countByte at ih ⊢;rw [List.any_cons, ← ih];by_cases h : c = 95
  ·subst h;simp [isX]
  ·by_cases h' : c = 69
   ·subst h';simp [isX]
   ·rw [List.count_cons_of_ne (fun e => h e), List.count_cons_of_ne (fun e => h' e)];simp [isX, h, h']
theorem repX_id : ∀ x : List UInt8, x.any isX = false → repX x = x
 | [], _ => rfl
 | c :: x, h => by
  rw [List.any_cons, Bool.or_eq_false_iff] at h;have ih := repX_id x h.2;have h1 : c ≠ 95 ∧ c ≠ 69 := by simpa [isX] using h.1
  have e : repX (c :: x) = c :: repX x := by simp [repX, h1.1, h1.2]
  rw [e, ih]
theorem bytes_byV : ∀ l : List UInt8, bytesV (byV l) = some l
 | [] => rfl
 | c :: l => by
  have ih := bytes_byV l;show bytesV (V.i .u8 c.toNat :: byV l) = _;simp only [bytesV, ih];simp
theorem reps_one (v : V) : ∀ n, reps n [v] = List.replicate n v
 | 0 => rfl
 | n + 1 => by rw [reps, reps_one v n]; rfl
theorem mk_buf (H : Heap) (W : Nat) (hW : W < 2000000) : evMakeSlice TT 64 (.i .i64 W) (.i .i64 W) H = .val (.sl H.length 1 0 W (some W)) (H ++ [some (bufB [] W)]) := by
 have e1 : TT.und 64 = some (.slice 5) := rfl;have e2 : TT.size 5 = some 1 := rfl;have e3 : TT.zero 5 = some (.i .u8 0) := rfl;have e4 : TT.bytes 5 = some 1 := rfl;have hcl : (V.i .u8 0).cells = [V.i .u8 0] := rfl;simp only [evMakeSlice, e1, e2, e3, e4, hcl, newB_eq];rw [if_pos ⟨rfl, by omega, by omega, by omega, by omega, by omega⟩, Int.toNat_natCast, reps_one];rfl
theorem cv_buf (l : List UInt8) (z W : Nat) (hW : W = l.length) (K : Heap) (h : K[z]? = some (some (bufB l 0))) : evConvO TT 64 9 (.sl z 1 0 W (some W)) K = .val (.s l) K := by
 have e1 : TT.und 64 = some (.slice 5) := rfl;have e2 : TT.und 9 = some .string := rfl;have e3 : TT.und 5 = some (.int .u8) := rfl;have hc : cellsAt K z = some (bufB l 0) := by simp [cellsAt, h, bufB]
 have hl : (byV l).length = l.length := by simp [byV]
 have hcut : cut (bufB l 0).cells 0 W = some (byV l) := by
  unfold cut bufB;simp only [List.replicate_zero, List.append_nil];rw [if_pos (by omega), List.drop_zero, List.take_of_length_le (by omega)]
 simp only [evConvO, e1, e2, e3, hc, hcut, bytes_byV, if_true]
theorem sp2186 : ∃ g, SpecOK Tryz.prog TT 186 g ∧ ∀ (p N : Nat) (H : Heap) (x : List UInt8), BsR H p N → x.length < 1100000 → ∃ H', g [.ptr p 0, .s x] H = .val (.s (repX x)) H' ∧ H.length ≤ H'.length ∧ ∀ j, j < H.length → H'[j]? = H[j]? := by
 have hC := ws n0 ok87;have hcnt : ∀ (x : List UInt8) (c : UInt8) (K : Heap), (CallF.none.with 188 spCount) 188 [.s x, .s [c]] K = .val (.i .i64 (Lib.countByte x c)) K := fun x c K => by rw [w_here]; rfl
 generalize CallF.none.with 188 spCount = call at hC hcnt;obtain ⟨g, k, s⟩ := XFact.spec (P := Tryz.prog) (F := 186) TT_ok (D := fun vs H => ∃ (p N : Nat) (x : List UInt8), vs = [.ptr p 0, .s x] ∧ BsR H p N ∧ x.length < 1100000)
  (R := fun vs H r => ∃ (p : Nat) (x : List UInt8), vs = [.ptr p 0, .s x] ∧ ∃ B, r = .val (.s (repX x)) B ∧ H.length ≤ B.length ∧ ∀ j, j < H.length → B[j]? = H[j]?) (by
  rintro vs H ⟨p, N, x, rfl, hB, hx⟩;refine (XBody.fact TT_ok (R := fun r => ∃ B, r = .val (.s (repX x)) B ∧ H.length ≤ B.length ∧ ∀ j, j < H.length → B[j]? = H[j]?) ?_).mono fun r hr => ⟨p, x, rfl, hr⟩;have hc1 : cellsAt H p = some (bsB N) := by
   unfold cellsAt;rw [hB.1];rfl
  have hl256 : loadA TT 37 H (.ptr p 256) = some (.sl N 1 0 2 (some 2)) := by
   have h2 : (bsB N).cells[256]? = some (.sl N 1 0 2 (some 2)) := by
    unfold bsB;simp only;rw [List.getElem?_append_right (by simp)];simp
   simp only [loadA, hc1];have e1 : isAggT (TT.und 37) = some false := rfl;simp only [pickAt, e1, nthU_eq, h2]
  have w16 : IntKind.i64.wrap 16 = 16 := rfl;have hrc := repX_count x;have hlp : p < H.length := Heap.lt hB.1;have hlN : N < H.length := Heap.lt hB.2.1;have hl4 : N + 4 < H.length := Heap.lt hB.2.2.1;have hl7 : N + 7 < H.length := Heap.lt hB.2.2.2;have hWl : (repX x).length < 2000000 := by omega
  have hmk := mk_buf H (repX x).length hWl;have hzn : H.length ≠ p ∧ H.length ≠ N ∧ H.length ≠ N + 4 ∧ H.length ≠ N + 7 := ⟨by omega, by omega, by omega, by omega⟩;have hB2 : BsR (H ++ [some (bufB [] (repX x).length)]) p N := ⟨by rw [List.getElem?_append_left hlp]; exact hB.1, by rw [List.getElem?_append_left hlN]; exact hB.2.1, by rw [List.getElem?_append_left hl4]; exact hB.2.2.1, by rw [List.getElem?_append_left hl7]; exact hB.2.2.2⟩;have hcv0 : ∀ K : Heap, K[H.length]? = some (some (bufB (repX x) 0)) → evConvO TT 64 9 (.sl H.length 1 0 (repX x).length (some (repX x).length)) K = .val (.s (repX x)) K := fun K h => cv_buf (repX x) H.length _ rfl K h;have e5 : (x.length : Int) - (x.count 95 : Nat) = ((repX x).length : Nat) := by omega
  have e5' : (x.length : Int) - (Lib.countByte x 95 : Nat) = ((repX x).length : Nat) := e5;have hany := any_isX x;cases ha : x.any isX with
  | false =>
   have hrep := repX_id x ha;have e6 : (false || x.any isX) = false := by rw [ha]; rfl
   have e6' : (false || decide (Lib.countByte x 69 ≠ 0) || decide (Lib.countByte x 95 ≠ 0)) = false := by rw [Bool.false_or, hany, ha]
   by_cases h16 : (16 : Int) ≤ x.length
   ·exact body_2186b0 hC w16 p N H hB x hx hl256 (hcnt x) h16 _ rfl e5' e6' hmk hrep
   ·exact body_2186n0 hC w16 p N H hB x hx hl256 (hcnt x) h16 _ rfl e5 e6 hmk hrep
  | true =>
   have e6 : (false || x.any isX) = true := by rw [ha]; rfl
   have e6' : (false || decide (Lib.countByte x 69 ≠ 0) || decide (Lib.countByte x 95 ≠ 0)) = true := by rw [Bool.false_or, hany, ha]
   by_cases h16 : (16 : Int) ≤ x.length
   ·exact body_2186b1 hC w16 p N H hB x hx hl256 (hcnt x) h16 _ rfl e5' e6' hmk (by omega) hzn hB2 hcv0
   ·exact body_2186n1 hC w16 p N H hB x hx hl256 (hcnt x) h16 _ rfl e5 e6 hmk (by omega) hzn hB2 hcv0)
 refine ⟨g, k, fun p N H x h1 h2 => ?_⟩;obtain ⟨r, ⟨p', x', he, B, rfl, h3, h4⟩, hr⟩ := s _ H ⟨p, N, x, rfl, h1, h2⟩;simp only [List.cons.injEq, V.ptr.injEq, V.s.injEq, and_true] at he;obtain ⟨rfl, rfl⟩ := he;exact ⟨B, hr, h3, h4⟩
theorem sp2079 : ∃ g, SpecOK Tryz.prog TT 79 g ∧ ∀ (m q : Nat) (H : Heap) (x : List UInt8), x.length < 1100000 → m ≠ q → H[m]? = some (some onB) → H[q]? = some (some (rpB 0 0 .nili (.sl m 1 0 4 none))) → ∃ B, g [.ptr q 0, .s x] H = .val (.s (repX x)) B ∧ H.length ≤ B.length ∧ ∀ j, j < H.length → j ≠ q → B[j]? = H[j]? := by
 obtain ⟨g1, k1, s1⟩ := sp2098;obtain ⟨g2, k2, s2⟩ := sp2186;have hC := ws (ws n0 k1) k2;have c1 : ∀ (m q : Nat) (H : Heap), m ≠ q → H[m]? = some (some onB) → H[q]? = some (some (rpB 0 0 .nili (.sl m 1 0 4 none))) → ∃ B, ((CallF.none.with 98 g1).with 186 g2) 98 [.ptr q 0, .bfn 99 [.ptr q 0]] H = .val .un B ∧ DoR H q B := fun m q H h1 h2 h3 => by
  rw [w_other _ _ _ _ rfl, w_here]; exact s1 m q H h1 h2 h3
 have c2 : BsH ((CallF.none.with 98 g1).with 186 g2) := fun p N H x h1 h2 => by
  rw [w_here]; exact s2 p N H x h1 h2
 generalize (CallF.none.with 98 g1).with 186 g2 = call at hC c1 c2;obtain ⟨g, k, s⟩ := XFact.spec (P := Tryz.prog) (F := 79) TT_ok (D := fun vs H => ∃ (m q : Nat) (x : List UInt8), vs = [.ptr q 0, .s x] ∧ x.length < 1100000 ∧ m ≠ q ∧ H[m]? = some (some onB) ∧ H[q]? = some (some (rpB 0 0 .nili (.sl m 1 0 4 none))))
  (R := fun vs H r => ∃ (q : Nat) (x : List UInt8), vs = [.ptr q 0, .s x] ∧ ∃ B, r = .val (.s (repX x)) B ∧ H.length ≤ B.length ∧ ∀ j, j < H.length → j ≠ q → B[j]? = H[j]?) (by
  rintro vs H ⟨m, q, x, rfl, hx, hne, hm, hq⟩;exact (XBody.fact TT_ok (body_2079 hC m q H x hx hne hm hq (c1 m q H hne hm hq) c2)).mono fun r hr => ⟨q, x, rfl, hr⟩)
 refine ⟨g, k, fun m q H x h1 h2 h3 h4 => ?_⟩;obtain ⟨r, ⟨q', x', he, B, rfl, h5, h6⟩, hr⟩ := s _ H ⟨m, q, x, rfl, h1, h2, h3, h4⟩;simp only [List.cons.injEq, V.ptr.injEq, V.s.injEq, and_true] at he;obtain ⟨rfl, rfl⟩ := he;exact ⟨B, hr, h5, h6⟩
theorem flt_all (s : List UInt8) (at_ : Int) (hs : s.length < 1100000) : FltH s at_ := by
 intro m t hd hm hw t2 t3 t6;obtain ⟨g1, k1, s1⟩ := sp2078;obtain ⟨g2, k2, s2⟩ := sp2079;have hC := ws (ws n0 k1) k2;have hb0 : ∃ b0, (numB s at_)[0]? = some (some b0) ∧ loadA TT 9 (numB s at_) (.ptr 0 0) = some (.s s) := ⟨_, rfl, by rfl⟩;have h1 := s1 3 (numB s at_ ++ [some wdB]) (by rfl);obtain ⟨B, c1, b1, b2, b3, b4⟩ := h1;have h2 := s2 4 5 B (s.take m) (by rw [List.length_take]; omega) (by omega) b3 b4;obtain ⟨B2, c2, d1, d2⟩ := h2;have c1' : ((CallF.none.with 78 g1).with 79 g2) 78 [.sl 3 1 0 4 (some 4)] [some ⟨9, [.s s], .all⟩, some ⟨3, [.i .i64 at_], .all⟩, none, some wdB] = .val (.ptr 5 0) B := by
  rw [w_other _ _ _ _ rfl, w_here]; exact c1
 have c2' : ((CallF.none.with 78 g1).with 79 g2) 79 [.ptr 5 0, .s (s.take m)] B = .val (.s (repX (s.take m))) B2 := by
  rw [w_here]; exact c2
 generalize (CallF.none.with 78 g1).with 79 g2 = call at hC c1' c2';have x1 : TT.ext 78 = none := rfl;have x2 : TT.ext 79 = none := rfl;have hbs : evBuildSlice TT 37 4 [(0, .s [95]), (1, .s []), (2, .s [69]), (3, .s [101])] (numB s at_) = .val (.sl 3 1 0 4 (some 4)) (numB s at_ ++ [some wdB]) := by rfl
 have A1 : ∀ K : Heap, K[0]? = some (some ⟨9, [.s s], .all⟩) → loadA TT 9 K (.ptr 0 0) = some (.s s) := fun K h => by simp [loadA, cellsAt, h, pickAt, isAggT, nthU_eq]
 have hB0 : B[0]? = some (some ⟨9, [.s s], .all⟩) := by rw [b2 0 (by show 0 < 4; omega)]; rfl
 have hB20 : B2[0]? = some (some ⟨9, [.s s], .all⟩) := by rw [d2 0 (by rw [b1]; show 0 < 4 + 2; omega) (by decide)]; exact hB0
 have hle : (m : Int) ≤ s.length := by omega
 show Tri Tryz.prog TT (.region _ _ _) t (numB s at_) _;refine Tri.regN (t' := ?t1) (H' := ?H1) TT_ok hC ?e1 ?q1;case e1 =>
  refine evReg_draw (t' := ?t1) (H' := ?H1) (ks := [.e, .e, .a, .q, .q, .e, .q, .q, .q, .q]) (fun K => K[0]? = some (some ⟨9, [.s s], .all⟩)) (by kernel_rfl) ?A1 ?_ ?r1;case A1 => rfl
  refine DR.eff rfl rfl (by simp [hbs, evParts] <;> rfl) (by rfl) (by simp [hw]) (by rfl) ?_;refine DR.eff rfl rfl (by simp [c1', x1] <;> rfl) (by rfl) (by simp [hw]) hB0 ?_;refine DR.any rfl (by simp [t2, A1 B hB0, -loadA] <;> rfl) (by rfl) (by simp [hw]) (by intro K hK; simp [t2, A1 K hK, -loadA] <;> rfl) ?_;refine DR.blind rfl rfl (by simp [t6] <;> rfl) (by rfl) (by simp [hw]) ?_;refine DR.blind rfl rfl (by simp [hm] <;> rfl) (by rfl) (by simp [hw]) ?_;refine DR.eff rfl rfl (by simp [c2', x2] <;> rfl) (by rfl) (by simp [hw]) hB20 ?_;refine DR.blind rfl rfl (by simp [t6] <;> rfl) (by rfl) (by simp [hw]) ?_;iterate 3 refine DR.blind rfl rfl (by simp <;> rfl) (by rfl) (by simp [hw]) ?_
  exact DR.nil;case r1 => exact rfl
 show Tri Tryz.prog TT .ret _ _ _;apply Tri.ret;show EndsX TT Tryz.f51 _ (.ret _ _);refine ⟨.tup [.i .i64 4, .s (repX (s.take m)), .i .i64 m], ?_, ?_⟩
 ·rw [hd];first
   | exact ⟨B2, rfl⟩
   | rfl
 ·simp [Tryz.f51]
theorem sp2011 : ∃ g, SpecOK Tryz.prog TT 11 g ∧ ∀ (s : List UInt8) (H : Heap), g [.s s] H = .val (scnV (scnT s)) H := by
 obtain ⟨g, k, h⟩ := sp2011_of (fun _ => True) fun s at_ _ hs => flt_all s at_ hs;exact ⟨g, k, fun s H => h s (fun _ => scnD_true s _ 0 true) H⟩
#print axioms sp2011
abbrev bolE : E := .f1 .vb (.va 0)
abbrev scnE : E := .f1 .tup (.f2 .cons (.va 0) (.f2 .cons (.f1 (.vi .i64) (.va 1)) (.f2 .cons (.f1 (.vi .i64) (.va 2)) .nil)))
def shq : Nat → Option Shape := fun f =>
 if f = 10 then some ⟨[.b], bolE, .pure, false⟩ else
 if f = 11 then some ⟨[.v, .i, .i], scnE, .pure, false⟩ else
 if f = 12 then some ⟨[.v, .i, .i], scnE, .pure, false⟩ else
 if f = 13 then some ⟨[.b], bolE, .pure, false⟩ else
 if f = 14 then some ⟨[.b], bolE, .pure, false⟩ else
 if f = 34 then some ⟨[.v], .va 0, .pure, false⟩ else
 shp f
def rowsT (l : List Tk) : List V := l.map fun x => .agg (tkL x)
theorem ld_row {ty : TypeId} (ha : isAggT (TT.und ty) = some true) (hs : TT.size ty = some 4) {l : List Tk} {i : Nat} {x : Tk} (h : l[i]? = some x) (H : Heap) : loadA TT ty H (.ipt 4 (rowsT l) i 0) = some (.agg (tkL x)) := by
 simp only [loadA, rowsT, List.getElem?_map, h, Option.map_some, pickAt, ha, hs];rfl
abbrev islE : E := .f1 (.isl 4) (.va 0)
def shr : Nat → Option Shape := fun f =>
 if f = 11 then some ⟨[.l, .i, .i], .f1 .tup (.f2 .cons islE (.f2 .cons (.f1 (.vi .i64) (.va 1)) (.f2 .cons (.f1 (.vi .i64) (.va 2)) .nil))), .pure, false⟩ else
 if f = 34 then some ⟨[.l], islE, .pure, false⟩ else
 shq f
theorem tr_sa1 : codeT TT shr Tryz.f14.ntmps [] (bodyOf Tryz.f14) [] ⟨[(0, .f1 (.isl 4) (.va 0)), (1, .f1 (.isl 4) (.va 1))], ⟨.va 2, [], []⟩, 3, []⟩ (KF TT Tryz.f14 [5, 6, 18, 19]) = .asks (.call 34 (x1 (.f1 (.isl 4) v0))) [.l] (.f1 (.isl 4) v3) (.asks (.call 34 (x1 (.f1 (.isl 4) v1))) [.l] (.f1 (.isl 4) v4) (.ite (xM (xn v3) (xn v4)) (.fin (xb (.cb false)) ⟨v2,[],[]⟩) (.leaf (.stop [true,true,true,false,true,false]) [(5,.f1 (.isl 4) v3),(6,.f1 (.isl 4) v4),(18,xi (xn v3)),(19,xi c0)] ⟨v2,[],[]⟩)) (.stuck 0)) (.stuck 0) := by kernel_rfl
theorem tr_sa2 : goT TT shr Tryz.f14.ntmps [] [true, true, true, false, true, false, false] (bodyOf Tryz.f14) [] ⟨[(5, .f1 (.isl 4) (.va 0)), (6, .f1 (.isl 4) (.va 1)), (18, .f1 (.vi .i64) (.f1 .lenL (.va 0))), (19, .f1 (.vi .i64) (.va 3))], ⟨.va 2, [], []⟩, 4, []⟩ (KF TT Tryz.f14 [5, 6, 18, 19]) = let qa:SH:=⟨v2,[],[]⟩;.ite (xL v3 (xn v0)) (.need (xE c0 v3) (.ask (.load 34 (.f3 (.ipt 4 0) v0 v3 .nil)) qa [.i,.s,.i,.b] (xg (x4 (xi v4) (xs v5) (xi v6) (xb v7))) false (.need (xL v3 (xn v1)) (.ask (.load 34 (.f3 (.ipt 4 0) v1 v3 .nil)) qa [.i,.s,.i,.b] (xg (x4 (xi v8) (xs v9) (xi v10) (xb v11))) false (.ite (.f2 .andB (xe v4 v8) (.f2 .andB (xQ v5 v9) (.f2 .andB (xe v6 v10) (.f2 .andB (.f2 .eqB v7 v11) (.cb true))))) (.leaf (.again [true,true,true,false,true,false,false]) [(5,.f1 (.isl 4) v0),(6,.f1 (.isl 4) v1),(18,xi (xn v0)),(19,xi (xw (xa v3 c1)))] qa) (.fin (xb (.cb false)) qa)) (.stuck 0))) (.stuck 0))) (.fin (xb (.cb true)) qa) := by kernel_rfl
def OutB (H : Heap) (v : V) (l : List Tk) : Prop := (v = .nils ∧ l = []) ∨ ∃ n, v = .sl n 4 0 l.length none ∧ H[n]? = some (some { ty := 34, cells := tkC l, kind := .more })
theorem appB {H : Heap} {v : V} {l : List Tk} (h : OutB H v l) (hl : l.length < 100000000) (x : Tk) {b : Nat} (hb : H[b]? = some (some { ty := 34, cells := tkL x, kind := .all })) :
 ∃ v2 H2, evAppend TT 23 v (.sl b 4 0 1 (some 1)) H = .val v2 H2 ∧ OutB H2 v2 (l ++ [x]) := by
 have e1 : TT.und 23 = some (.slice 34) := rfl;have e2 : TT.size 34 = some 4 := rfl;have e3 : TT.zero 34 = some (.agg [.i .i64 0, .s [], .i .i64 0, .b false]) := rfl;have e4 : TT.bytes 34 = some 40 := rfl;have c1 : cellsAt H b = some { ty := 34, cells := tkL x, kind := .all } := by simp [cellsAt, hb]
 have c3 : cut (tkL x) (0 * 4) (1 * 4) = some (tkL x) := by simp [cut, tkL]
 have f1 : (tkL x).all flat = true := by simp [tkL, flat]
 have f2 : (V.agg [.i .i64 0, .s [], .i .i64 0, .b false]).cells.length = 4 := rfl;rcases h with ⟨rfl, rfl⟩ | ⟨n, rfl, hn⟩
 ·simp only [evAppend, e1, e2, e3, e4, appended, c1, c3, Option.map_some, if_true];rw [if_pos ⟨by decide, f2, by decide, f1⟩];simp only [newB_eq];rw [if_neg (by decide), if_pos ⟨by omega, by omega⟩];exact ⟨_, _, rfl, .inr ⟨H.length, rfl, by simp [tkC]⟩⟩
 ·have c2 : cellsAt H n = some { ty := 34, cells := tkC l, kind := .more } := by simp [cellsAt, hn]
  have c4 : cut (tkC l) (0 * 4) (l.length * 4) = some (tkC l) := by simp [cut, ← tkC_length]
  have hlen := tkC_length l;simp only [evAppend, e1, e2, e3, e4, appended, c1, c2, c3, c4, Option.map_some, if_true];rw [if_pos ⟨by decide, f2, by decide, f1⟩, if_pos ⟨trivial, by omega, by omega⟩];simp only [newB_eq, setK_eq];rw [if_neg (by decide), if_pos ⟨trivial, by omega, trivial⟩];refine ⟨_, _, rfl, .inr ⟨H.length, by simp, ?_⟩⟩;rw [tkC_snoc];simp
def barT (x : Tk) : Tk := (x.1, x.2.1, 0, false)
theorem loop_bare {call : CallF} (hC : call.Sound Tryz.prog TT) (l : List Tk) (hl : l.length < 1100000) {Q : Out → Prop} :
    ∀ (r p : List Tk) (v : V) (t : Tm) (H : Heap), l = p ++ r → t.wid = 22 → t.get 3 = v → t.get 6 = .isl 4 (rowsT l) → t.get 7 = .i .i64 (l.length : Nat) → t.get 8 = .i .i64 (p.length : Nat) → OutB H v (p.map barT) →
      (∀ (t' : Tm) (H' : Heap) (v : V), t'.wid = 22 → t'.get 3 = v → OutB H' v (l.map barT) → Q (.exit 0 t' H')) →
      LTri Tryz.prog TT (sub [true, true, false, true, false, false] (bodyOf Tryz.f34)) t H Q := by
 intro r
 induction r with
 | nil =>
   intro p v t H e hw t3 t6 t7 t8 hO hQ
   have e1 : p.length = l.length := by rw [e]; simp
   have hlt : ¬ ((p.length : Nat) : Int) < (l.length : Nat) := by omega
   have hF := ai @t3 (ai @t6 (ai @t7 (ai @t8 @hlt)))
   refine LTri.round' ?_
   apply rS hC
   · refine evSeq_go rfl (by simp [hF] <;> rfl) (by rfl) (by simp [hw]) ?_
     rfl
   apply sQ
   refine Tri.condG (o := ?o1) (b := ?b1) ?g1 ?r1 ?y1 ?n1
   case g1 => simp [hF] <;> rfl
   case r1 => rfl
   case y1 => intro h; simp [hF] at h
   case n1 =>
    intro _
    refine Tri.exit ?_
    refine inSeq_exit ?_
    refine inLoop_exit ?_
    refine hQ _ _ v (by simp [hw]) (by simp [t3]) ?_
    rw [e, List.append_nil]
    exact hO
 | cons x r ih =>
   intro p v t H e hw t3 t6 t7 t8 hO hQ
   have hlen : l.length = p.length + (r.length + 1) := by rw [e]; simp
   have hlt : ((p.length : Nat) : Int) < (l.length : Nat) := by omega
   have hx : l[p.length]? = some x := by rw [e]; simp
   have h0 : (0 : Int) ≤ (p.length : Nat) := by omega
   have hrl : (rowsT l).length = l.length := by simp [rowsT]
   have hix : p.length < (rowsT l).length := by omega
   have hld : ∀ h, (rowsT l)[p.length]'h = .agg (tkL x) := fun h => by
    have : p.length < l.length := by omega
    rw [List.getElem?_eq_getElem this] at hx
    simp only [rowsT, List.getElem_map, Option.some.inj hx]
   have hw1 : IntKind.i64.wrap ((p.length : Int) + 1) = ((p ++ [x]).length : Nat) := by
    rw [w64 (by omega) (by omega)]; simp
   have hF := ai @t3 (ai @t6 (ai @t7 (ai @t8 (ai @hlt (ai @hix (ai @hld @hw1))))))
   refine LTri.round' ?_
   apply rS hC
   · refine evSeq_go rfl (by simp [hF] <;> rfl) (by rfl) (by simp [hw]) ?_
     rfl
   apply sQ
   refine Tri.condG (o := ?ok1) (b := ?bk1) ?gk1 ?rk1 ?yk1 ?nk1
   case gk1 => simp [hF] <;> rfl
   case rk1 => rfl
   case nk1 => intro h; simp [hF] at h
   case yk1 =>
    intro _
    apply Tri.skip
    apply sN
    apply sQ
    apply bK
    apply sQ
    refine Tri.regN (t' := ?tk2) (H' := ?Hk2) TT_ok hC ?ek2 ?qk2
    case ek2 =>
     refine go_false ?_
     iterate 4 refine evSeq_go rfl (by simp [hF, tkL] <;> rfl) (by rfl) (by simp [hw]) ?_
     exact evSeq_nil
    apply sN
    have hb3 : ∀ K : Heap, evBuildSlice TT 23 1 [(0, .agg [.i .i64 x.1, .s x.2.1, .i .i64 0, .b false])] K = .val (.sl K.length 4 0 1 (some 1)) (K ++ [some { ty := 34, cells := tkL (barT x), kind := .all }]) := fun K => bsTokP (barT x) K
    obtain ⟨v2, H2, ha, hO2⟩ := appB (H := (H ++ [some ⟨34, tkL x, .all⟩]) ++ [some ⟨34, tkL (barT x), .all⟩]) (v := v) (l := p.map barT) (by
     rcases hO with h | ⟨n, h1, h2⟩
     · exact .inl h
     · refine .inr ⟨n, h1, ?_⟩
       have := Heap.lt h2
       rw [List.getElem?_append_left (by simp; omega), List.getElem?_append_left this]
       exact h2) (by rw [List.length_map]; omega) (barT x) (b := H.length + 1) (by simp)
    simp only [List.append_assoc, List.cons_append, List.nil_append, tkL, barT] at ha
    refine Tri.regN (t' := ?tk3) (H' := ?Hk3) TT_ok hC ?ek3 ?qk3
    case ek3 =>
     refine go_false ?_
     iterate 6 refine evSeq_go rfl (by simp [t3, tkL] <;> rfl) (by rfl) (by simp [hw]) ?_
     refine evSeq_go rfl (by simp [hb3, tkL, barT] <;> rfl) (by rfl) (by simp [hw]) ?_
     refine evSeq_go rfl (by simp [ha] <;> rfl) (by rfl) (by simp [hw]) ?_
     refine evSeq_go rfl (by simp <;> rfl) (by rfl) (by simp [hw]) ?_
     exact evSeq_nil
    apply bN
    apply sN
    refine Tri.regN (t' := ?tk4) (H' := ?Hk4) TT_ok hC ?ek4 ?qk4
    case ek4 =>
     refine go_false ?_
     iterate 2 refine evSeq_go rfl (by simp [t8, hw1] <;> rfl) (by rfl) (by simp [hw]) ?_
     exact evSeq_nil
    refine inLoop_norm ?_
    exact ih (p ++ [x]) v2 _ _ (by rw [e]; simp) (by simp [hw]) (by simp) (by simp [t6]) (by simp [t7]) (by simp [t8, hw1]) (by rw [List.map_append]; exact hO2) hQ
def BareO (l : List Tk) (r : OR) : Prop := ∃ v J, r = .val v J ∧ OutB J v (l.map barT)
theorem bare_frz {l : List Tk} {r : OR} (h : BareO l r) : ∃ v J k v' u, r = .val v J ∧ fz J k v = some v' ∧ Weak v' u ∧ u = .isl 4 (rowsT (l.map barT)) := by
 obtain ⟨v, J, rfl, ho⟩ := h;generalize l.map barT = m at ho;rcases ho with ⟨rfl, rfl⟩ | ⟨n, rfl, hn⟩
 ·exact ⟨_, J, 5, _, _, rfl, by simp [fz] <;> rfl, weak_nils 4, rfl⟩
 ·have hc : cellsAt J n = some { ty := 34, cells := tkC m, kind := .more } := by simp [cellsAt, hn]
  have hlen := tkC_length m;have hcut : cut (tkC m) (0 * 4) (m.length * 4) = some (tkC m) := by
   simp only [cut];rw [if_pos (by omega), Nat.zero_mul, List.drop_zero, List.take_of_length_le (by omega)]
  have hf := fzL_tk (H := J) m (4 * m.length + 7) (by omega);exact ⟨_, J, 4 * m.length + 8, _, _, rfl, by simp only [fz, hc, hcut, hf, rowsOf_tk, Option.map_some]; rfl, Weak.refl _, rfl⟩
theorem rows_nl (l : List Tk) : nl (.isl 4 (rowsT l)) = true := by
 show nlL (rowsT l) = true;unfold rowsT;induction l with
 | nil => rfl
 | cons x l ih =>
  show (nl (V.agg (tkL x)) && nlL (l.map fun x => V.agg (tkL x))) = true;rw [ih];rfl
theorem rows_inj {l r : List Tk} (h : rowsT l = rowsT r) : l = r := by
 refine (List.map_inj_right (f := fun x : Tk => V.agg (tkL x)) fun x y e => ?_).1 h;simp only [V.agg.injEq, tkL, List.cons.injEq, V.i.injEq, V.s.injEq, V.b.injEq, true_and, and_true] at e;exact Prod.ext e.1 (Prod.ext e.2.1 (Prod.ext e.2.2.1 e.2.2.2))
theorem sp2034 : ∃ g, SpecOK Tryz.prog TT 34 g ∧ ∀ l : List Tk, l.length < 1100000 → ∀ H, g [.isl 4 (rowsT l)] H = .val (.isl 4 (rowsT (l.map barT))) H := by
 refine spec_xfrz TT_ok TT_plain 34 (fun l : List Tk => [.isl 4 (rowsT l)]) (fun l => l.length < 1100000) (fun l => .isl 4 (rowsT (l.map barT))) (fun l _ => ?_) (fun a b _ _ h => ?_)
  fun l hl => (XBody.fact TT_ok (R := BareO l) ?_).mono fun r hr => bare_frz hr
 ·show (nl (.isl 4 (rowsT l)) && true) = true;rw [rows_nl]; rfl
 ·simp only [List.cons.injEq, V.isl.injEq, true_and, and_true] at h;rw [rows_inj h]
 ·refine ⟨Tryz.f34, _, rfl, rfl, by simp [Tryz.f34], ?_⟩;have h0 : (Tm.init Tryz.f34.ntmps [.isl 4 (rowsT l)]).get 0 = .isl 4 (rowsT l) := by rw [get_init]; rfl
  have hw : (Tm.init Tryz.f34.ntmps [.isl 4 (rowsT l)]).wid = 22 := rfl;have hrl : (rowsT l).length = l.length := by simp [rowsT]
  generalize Tm.init Tryz.f34.ntmps [.isl 4 (rowsT l)] = t at *;apply sQ;refine Tri.regN (t' := ?t1) (H' := ?H1) TT_ok n0 ?e1 ?q1;case e1 =>
   refine go_false ?_;refine evSeq_go rfl (by simp <;> rfl) (by rfl) (by simp [hw]) ?_;exact evSeq_nil
  apply sN;apply sQ;refine Tri.regN (t' := ?t2) (H' := ?H2) TT_ok n0 ?e2 ?q2;case e2 =>
   refine go_false ?_;refine evSeq_go rfl (by simp <;> rfl) (by rfl) (by simp [hw]) ?_;exact evSeq_nil
  apply sN;iterate 2 apply sQ
  refine Tri.regN (t' := ?t3) (H' := ?H3) TT_ok n0 ?e3 ?q3;case e3 =>
   refine go_false ?_;iterate 3 refine evSeq_go rfl (by simp [h0, hrl] <;> rfl) (by rfl) (by simp [hw]) ?_
   exact evSeq_nil
  apply sN;apply bK;refine Tri.loop ?_;refine loop_bare n0 l hl l [] .nils _ _ rfl (by simp [hw]) (by simp) (by simp [h0]) (by simp [hrl]) (by simp) (.inl ⟨rfl, rfl⟩) ?_;intro t' H' v hw' f3 hO;refine inBlk_exit ?_;apply sN;apply sQ;refine Tri.regN (t' := ?t4) (H' := ?H4) TT_ok n0 ?e4 ?q4;case e4 =>
   refine go_false ?_;iterate 2 refine evSeq_go rfl (by simp [f3] <;> rfl) (by rfl) (by simp [hw']) ?_
   exact evSeq_nil
  apply sN;apply Tri.ret;exact ⟨v, ⟨v, H', rfl, hO⟩, by simp [Tryz.f34, f3] <;> rfl⟩
end Go.Ev
