/- Kinds and texts compared. TokenPlaces returns true. Walks of TokenBlanks. Tokens of a text behind another one. Tokens of a text with blanks put into it. TokenBlanks returns true. What TokenBlanks says of a world, from what the evaluator returns. -/
import Derived.Test.YtmjplflnlggbeaaGreatDoorFBK
import Derived.Test.YtmjplflnlggbeaaGreatDoorFBM
import Derived.ChangeShapes
import Derived.WideShapes
import Derived.RowKit3
import Derived.OpenShut
namespace Go.Ev
open Go Go.Proofs
set_option linter.unusedSimpArgs false
set_option linter.unusedVariables false
set_option linter.unnecessarySimpa false
set_option maxRecDepth 100000
theorem rows_len (l : List Tk) : (rowsT l).length = l.length := by simp [rowsT]
theorem head_sa {call : CallF} (hC : call.Sound Tryz.prog TT) (l r : List Tk) (hl : l.length < 1100000) (he : l.length = r.length) :
 ∀ (n i : Nat) (t : Tm) (H : Heap), l.length < n + i → i ≤ l.length → t.wid = Tryz.f14.ntmps → t.get 5 = .isl 4 (rowsT l) → t.get 6 = .isl 4 (rowsT r) → t.get 18 = .i .i64 l.length → t.get 19 = .i .i64 (i : Nat) →
 ctx Tryz.prog TT [true, true, true, false, true, false, false] (bodyOf Tryz.f14) (EndsX TT Tryz.f14 (isR (.val (.b (decide (l.drop i = r.drop i)))))) (.norm t H) := by
 intro n;induction n with
 | zero => intro i t H h1 h2; omega
 | succ n ih =>
  intro i t H hn hi hw t5 t6 t18 t19;have hlr := rows_len l;have hrr := rows_len r;refine LTri.symIn (p := [true, true, true, false, true, false]) TT_ok hC rfl tr_sa2 (by kernel_rfl) [.ul (rowsT l), .ul (rowsT r), .uh H, .ui (i : Nat)] rfl hw ⟨t5, t6, by rw [t18, ← hlr]; rfl, t19, trivial⟩ rfl (WF_opq _ _) ?_;clear t5 t6 t18 t19 hw;simp -implicitDefEqProofs only [VC, isR, exU, Ask.den, forall_eq, E.den, O1.den, O2.den, O3.den, U.int_ui, U.boo_ub, U.val_uv, U.lst_ul, U.str_us, U.nat_un, U.heap_uh, SH.den, setsD, newD, bD, SB.den, factsTo, LQ, List.cons_append, List.nil_append, List.getElem?_cons_zero, List.getElem?_cons_succ, Option.getD_some, ltB_true, ltB_false, leB_true, leB_false, beq_iff_eq, bne_iff_ne, beq_eq_false_iff_ne, Int.toNat_natCast, Bool.false_eq_true, if_false, if_true];have w1 : IntKind.i64.wrap ((i : Int) + 1) = ((i + 1 : Nat) : Int) := by rw [w64 (by omega) (by omega)]; omega
  simp only [w1, Int.toNat_natCast];refine ⟨fun h => ⟨by omega, .inl ?_⟩, fun h => ?_⟩
  ·have h1 : i < l.length := by omega
   have h2 : i < r.length := by omega
   refine ⟨l[i].1, l[i].2.1, l[i].2.2.1, l[i].2.2.2, ?_, by omega, .inl ⟨r[i].1, r[i].2.1, r[i].2.2.1, r[i].2.2.2, ?_, ?_, ?_⟩⟩
   ·rw [ld_row rfl rfl (List.getElem?_eq_getElem h1)]; rfl
   ·rw [ld_row rfl rfl (List.getElem?_eq_getElem h2)]; rfl
   ·intro hq t' hw' f5 f6 f18 f19;simp only [Bool.and_eq_true, beq_iff_eq] at hq;have hx : l[i] = r[i] := Prod.ext hq.1 (Prod.ext hq.2.1 (Prod.ext hq.2.2.1 hq.2.2.2.1));have e : decide (l.drop i = r.drop i) = decide (l.drop (i + 1) = r.drop (i + 1)) := by
     have e1 : l.drop i = r[i] :: l.drop (i + 1) := by rw [← hx]; exact List.drop_eq_getElem_cons h1
     have e2 : r.drop i = r[i] :: r.drop (i + 1) := List.drop_eq_getElem_cons h2;rw [e1, e2, decide_eq_decide];exact ⟨fun h => (List.cons.inj h).2, fun h => by rw [h]⟩
    rw [e];exact ih (i + 1) t' _ (by omega) (by omega) hw' f5 f6 (by rw [f18, hlr]) f19
   ·intro hq;have hx : l.drop i ≠ r.drop i := fun e => by
     rw [List.drop_eq_getElem_cons h1, List.drop_eq_getElem_cons h2] at e;rw [(List.cons.inj e).1] at hq;simp at hq
    rw [decide_eq_false hx]
  ·rw [List.drop_eq_nil_of_le (by omega), List.drop_eq_nil_of_le (by omega)];rfl
def sameT (l r : List Tk) : Bool := decide (l.map barT = r.map barT)
theorem sp2014 : ∃ g, SpecOK Tryz.prog TT 14 g ∧ ∀ p : List Tk × List Tk, (p.1.length < 1100000 ∧ p.2.length < 1100000) → ∀ H, g [.isl 4 (rowsT p.1), .isl 4 (rowsT p.2)] H = (Res.val (.b (sameT p.1 p.2))).at H := by
 obtain ⟨g1, k1, s1⟩ := sp2034;have hC := ws n0 k1;have c1 : ∀ l : List Tk, l.length < 1100000 → ∀ H, (CallF.none.with 34 g1) 34 [.isl 4 (rowsT l)] H = .val (.isl 4 (rowsT (l.map barT))) H := fun l h H => by rw [w_here]; exact s1 l h H
 generalize CallF.none.with 34 g1 = call at hC c1;refine spec_fn TT_ok TT_plain 14 (fun p : List Tk × List Tk => [.isl 4 (rowsT p.1), .isl 4 (rowsT p.2)]) _ (fun p => .val (.b (sameT p.1 p.2))) (fun p _ => ⟨?_, rfl⟩) (fun a b _ _ h => ?_) fun p hp => ?_
 ·show (nl (.isl 4 (rowsT p.1)) && (nl (.isl 4 (rowsT p.2)) && true)) = true;rw [rows_nl, rows_nl]; rfl
 ·simp only [List.cons.injEq, V.isl.injEq, true_and, and_true] at h;rw [rows_inj h.1, rows_inj h.2]
 ·obtain ⟨l, r⟩ := p;simp only at hp ⊢;refine XBody.sym TT_ok hC (fn := Tryz.f14) rfl rfl (by simp [Tryz.f14]) tr_sa1 (by kernel_rfl) [.ul (rowsT l), .ul (rowsT r), .uh []] rfl ⟨by rw [get_init]; rfl, by rw [get_init]; rfl, trivial⟩ rfl (WF_opq _ _) ?_;simp -implicitDefEqProofs only [VC, isR, exU, Ask.den, forall_eq, E.den, O1.den, O2.den, O3.den, U.int_ui, U.boo_ub, U.val_uv, U.lst_ul, U.str_us, U.nat_un, U.heap_uh, SH.den, setsD, newD, bD, SB.den, factsTo, LQ, List.cons_append, List.nil_append, List.getElem?_cons_zero, List.getElem?_cons_succ, Option.getD_some, ltB_true, ltB_false, leB_true, leB_false, beq_iff_eq, bne_iff_ne, beq_eq_false_iff_ne, Int.toNat_natCast];refine .inl ⟨_, c1 l hp.1, .inl ⟨_, c1 r hp.2, fun h => ?_, fun h t hw t5 t6 t18 t19 => ?_⟩⟩
  ·unfold sameT;rw [decide_eq_false (fun e => by
    rw [e] at h;simp at h)]
  ·rw [rows_len, rows_len, List.length_map, List.length_map] at h;have he : l.length = r.length := Int.ofNat.inj (by simpa using h);have := head_sa n0 (l.map barT) (r.map barT) (by rw [List.length_map]; exact hp.1) (by rw [List.length_map, List.length_map]; exact he) ((l.map barT).length + 1) 0 t [] (by omega) (by omega) hw t5 t6 (by rw [t18, rows_len]) t19;rw [List.drop_zero, List.drop_zero] at this;exact Tri.symLoop rfl this
theorem ld_place {l : List Tk} {i : Nat} {x : Tk} (h : l[i]? = some x) (H : Heap) : loadA TT 3 H (.ipt 4 (rowsT l) i 2) = some (.i .i64 x.2.2.1) := by
 have e : isAggT (TT.und 3) = some false := rfl;simp only [loadA, rowsT, List.getElem?_map, h, Option.map_some, pickAt, e];rfl
theorem rem_i64 (a b : Nat) (hb : 0 < b) : evInt .rem .i64 (a : Int) (b : Int) = some (.i .i64 ((a % b : Nat) : Int)) := by
 have h0 : ¬ (b : Int) = 0 := by omega
 have e : evInt .rem .i64 (a : Int) (b : Int) = some (.i .i64 ((a : Int).tmod (b : Int))) := by
  simp only [evInt, Op.intDiv, if_neg h0];rfl
 rw [e, tmod_nat]
structure PlT (s : List UInt8) (l : List Tk) : Prop where
  len : l.length < 1100000
  at' : ∀ x ∈ l, 0 ≤ x.2.2.1 ∧ x.2.2.1 < (s.length : Int)
  asc : ∀ (n : Nat) (x y : Tk), l[n]? = some x → l[n + 1]? = some y → x.2.2.1 < y.2.2.1
  cut : ∀ (k c : Nat) (x : Tk), l[k]? = some x → x.2.2.1 = (c : Int) → scnT (s.take c) = (l.take k, 0, 0)
theorem PlT.of {s : List UInt8} {l : List Tk} (hs : s.length ≤ 20000) (h : Toks s 0 true l) (hl : l.length < 1100000) : PlT s l where
  len := hl
  at' x hx := by have := h.at (by omega) x hx; omega
  asc := h.asc (by omega)
  cut k c x hx hc := by
    have := h.cut (by omega) k c x hx hc
    rw [List.append_nil] at this
    exact toks_scnT (by rw [List.length_take]; omega) this
theorem toks_len {s : List UInt8} {i : Nat} {b : Bool} {l : List Tk} (h : Toks s i b l) : i ≤ s.length → l.length + i ≤ s.length := by
 induction h with
 | done h => intro hi; simpa using hi
 | @step i j m b l' k t L h hj ht hr ih =>
  intro hi;have hk := skQ_ok hi h;have hm := tokQ_ok ht;rw [List.length_drop] at hm;simp only at hm;have := ih (by omega);simp only [List.length_cons];omega
theorem tr_l5 : codeT TT shr Tryz.f5.ntmps [4] (bodyOf Tryz.f5) [] ⟨[(0, .f1 .vs (.va 0)), (1, .f1 (.vi .u16) (.va 1)), (2, .f1 (.vi .u16) (.va 2))], ⟨.va 3, [], []⟩, 4, []⟩ (KF TT Tryz.f5 [0, 1, 2, 7]) = let qa:Tree:=.asks (.call 10 .nil) [.b] (xb v7) (.fin (xb v7) ⟨v3,[],[]⟩) (.stuck 0);.asks (.call 11 (x1 (xs v0))) [.l,.i,.i] (xt (x3 (.f1 (.isl 4) v4) (xi v5) (xi v6))) (.ite (xG (xl v0) (xc 500)) qa (.ite (xM v6 c0) qa (.ite (xe (xn v4) c0) qa (.leaf (.stop [true,true,true,false]) [(0,xs v0),(1,.f1 (.vi .u16) v1),(2,.f1 (.vi .u16) v2),(7,.f1 (.isl 4) v4)] ⟨v3,[],[]⟩)))) (.stuck 0) := by kernel_rfl
theorem tr_l5b : goT TT shr Tryz.f5.ntmps [] [true, true, true, true] (bodyOf Tryz.f5) [] ⟨[(0, .f1 .vs (.va 0)), (1, .f1 (.vi .u16) (.va 1)), (7, .f1 (.isl 4) (.va 3)), (10, .f1 .vs (.va 4))], ⟨.va 2, [], []⟩, 5, []⟩ (KF TT Tryz.f5 [7, 10, 11, 13, 74, 75]) = let qa:E:=.f2 (.opI .rem .i64) (xw v1) (xn v3);let qb:SH:=⟨v2,[],[]⟩;let qc:E:=.f3 .sub v0 c0 v5;let qe:E:=xc 9223372036854775807;let qf:E:=.f3 .sub v0 v5 (xl v0);let qd:E:=.f1 (.isl 4) v6;let qg:Tree:=.fin (xb (.cb false)) qb;.need (.f2 (.okI .rem .i64) (xw v1) (xn v3)) (.need (xE c0 qa) (.need (xL qa (xn v3)) (.ask (.load 3 (.f3 (.ipt 4 2) v3 qa .nil)) qb [.i] (xi v5) false (.need (xE c0 v5) (.need (xE v5 (xl v0)) (.need (xE (xa (xl qc) (xl v4)) qe) (.need (xE (xa (xl (xP qc v4)) (xl qf)) qe) (.asks (.call 11 (x1 (xs (xP (xP qc v4) qf)))) [.l,.i,.i] (xt (x3 qd (xi v7) (xi v8))) (.ite (xM v8 c0) qg (.asks (.call 14 (x2 (.f1 (.isl 4) v3) qd)) [.b] (xb v9) (.ite v9 (.leaf (.stop [true,true,true,true,true,true,true,true,false,true,false]) [(7,.f1 (.isl 4) v3),(10,xs v4),(11,xi qa),(13,qd),(74,xi (xn v3)),(75,xi c0)] qb) qg) (.stuck 0))) (.stuck 0)))))) (.stuck 0)))) := by kernel_rfl
theorem tr_l5c : goT TT shr Tryz.f5.ntmps [] [true, true, true, true, true, true, true, true, false, true, false, false] (bodyOf Tryz.f5) [] ⟨[(7, .f1 (.isl 4) (.va 0)), (10, .f1 .vs (.va 1)), (11, .f1 (.vi .i64) (.va 2)), (13, .f1 (.isl 4) (.va 3)), (74, .f1 (.vi .i64) (.f1 .lenL (.va 0))), (75, .f1 (.vi .i64) (.va 4))], ⟨.va 5, [], []⟩, 6, []⟩ (KF TT Tryz.f5 [7, 10, 11, 13, 74, 75]) = let qe:E:=.f3 (.ipt 4 3) v0 v4 .nil;let qb:SH:=⟨v5,[],[]⟩;let qf:E:=.f3 (.ipt 4 3) v3 v4 .nil;let qa:Tree:=.leaf (.again [true,true,true,true,true,true,true,true,false,true,false,false]) [(7,.f1 (.isl 4) v0),(10,xs v1),(11,xi v2),(13,.f1 (.isl 4) v3),(74,xi (xn v0)),(75,xi (xw (xa v4 c1)))] qb;let qc:Tree:=.fin (xb (.cb false)) qb;let qg:E:=x2 (xs v1) (xs (.cs [10]));let qd:Tree:=.stuck 0;.ite (xL v4 (xn v0)) (.ite (xM v4 v2) (.need (xE c0 v4) (.ask (.load 4 qe) qb [.b] (xb v6) false (.need (xL v4 (xn v3)) (.ask (.load 4 qf) qb [.b] (xb v7) false (.ite (.f2 .eqB v6 v7) (.ite (xe v4 v2) (.ask (.load 4 qf) qb [.b] (xb v8) false (.ask (.load 4 qe) qb [.b] (xb v9) false (.ite v9 (.ite (.f2 .eqB v8 (.cb true)) qa qc) (.asks (.call 15 qg) [.b] (xb v10) (.ite (.f2 .eqB v8 v10) qa qc) qd)) qd) qd) qa) qc) qd)) qd)) (.ite (xe v4 v2) (.need (xE c0 v4) (.need (xL v4 (xn v3)) (.ask (.load 4 qf) qb [.b] (xb v6) false (.ask (.load 4 qe) qb [.b] (xb v7) false (.ite v7 (.ite (.f2 .eqB v6 (.cb true)) qa qc) (.asks (.call 15 qg) [.b] (xb v8) (.ite (.f2 .eqB v6 v8) qa qc) qd)) qd) qd))) qa)) (.asks (.call 10 .nil) [.b] (xb v6) (.fin (xb v6) qb) qd) := by kernel_rfl
/-! A text behind another one. -/
def shR (d : Nat) : Nat ⊕ (Nat × Bool) → Nat ⊕ (Nat × Bool)
 | .inl a => .inl (d + a)
 | .inr p => .inr (d + p.1, p.2)
theorem atS_sh (p x : List UInt8) (i : Nat) : atS (p ++ x) ((p.length + i : Nat) : Int) = atS x (i : Nat) := by
 rw [atS_R, atS_R, atR_sh, List.drop_left]
theorem drop_app (p x : List UInt8) (i : Nat) : (p ++ x).drop (p.length + i) = x.drop i := by rw [← List.drop_drop, List.drop_left]
theorem comF_sh (p x : List UInt8) : ∀ (n N i d : Nat), x.length < n + i → (p ++ x).length < N + (p.length + i) → comF (p ++ x) N (p.length + i) d = (comF x n i d).map (p.length + ·)
 | 0, N, i, d, hn, hN => by
  cases N with
  | zero => rfl
  | succ N =>
   have e : x.drop i = [] := List.drop_eq_nil_of_le (by omega);have p1 : preR [] [47, 42] = false := by decide
   have p2 : preR [] [42, 47] = false := by decide
   simp only [comF, drop_app, e, p1, p2, Bool.false_eq_true, if_false];rw [if_neg (by rw [List.length_append]; omega)];rfl
 | n + 1, N, i, d, hn, hN => by
  cases N with
  | zero =>
   rw [List.length_append] at hN;have e : x.drop i = [] := List.drop_eq_nil_of_le (by omega);have p1 : preR [] [47, 42] = false := by decide
   have p2 : preR [] [42, 47] = false := by decide
   simp only [comF, e, p1, p2, Bool.false_eq_true, if_false];rw [if_neg (by omega)];rfl
  | succ N =>
   simp only [comF, drop_app];split
   ·exact comF_sh p x n N (i + 2) (d + 1) (by omega) (by omega)
   ·split
    ·split
     ·rfl
     ·exact comF_sh p x n N (i + 2) (d - 1) (by omega) (by omega)
    ·by_cases hl : i < x.length
     ·rw [if_pos hl, if_pos (by rw [List.length_append]; omega)];exact comF_sh p x n N (i + 1) d (by omega) (by omega)
     ·rw [if_neg hl, if_neg (by rw [List.length_append]; omega)];rfl
theorem cut_sh (p x : List UInt8) (i e : Nat) : ((p ++ x).take (p.length + e)).drop (p.length + i) = (x.take e).drop i := by
 rw [List.take_append, List.take_of_length_le (by omega), Nat.add_sub_cancel_left, drop_app]
theorem comE_sh (p x : List UInt8) (i : Nat) (l : Bool) (o : Option Nat) : comE (p ++ x) (p.length + i) l (o.map (p.length + ·)) = (comE x i l o).map fun q => (p.length + q.1, q.2) := by
 cases o with
 | none => rfl
 | some e =>
  simp only [comE, Option.map_some];rw [cut_sh];split <;> rfl
theorem comQ_sh (p x : List UInt8) (i : Nat) (b : Bool) (hi : i ≤ x.length) : comQ (p ++ x) (p.length + i) b = (comQ x i b).map (Option.map fun q => (p.length + q.1, q.2)) := by
 unfold comQ;rw [drop_app];split
 ·have : (if Lib.indexByte (x.drop i) 10 < 0 then (p ++ x).length else p.length + i + (Lib.indexByte (x.drop i) 10).toNat) = p.length + (if Lib.indexByte (x.drop i) 10 < 0 then x.length else i + (Lib.indexByte (x.drop i) 10).toNat) := by
   rw [List.length_append];split <;> omega
  rw [this];simp only [Option.map_some];exact congrArg some (comE_sh p x i b (some _))
 ·split
  ·rw [comF_sh p x (x.length + 1) _ i 0 (by omega) (by rw [List.length_append]; omega)];simp only [Option.map_some];exact congrArg some (comE_sh p x i b _)
  ·rfl
theorem skF_sh (p x : List UInt8) : ∀ (n N i : Nat) (b : Bool), x.length < n + i → (p ++ x).length < N + (p.length + i) → i ≤ x.length → skF (p ++ x) N (p.length + i) b = shR p.length (skF x n i b)
 | 0, N, i, b, hn, hN, hi => by omega
 | n + 1, N, i, b, hn, hN, hi => by
  obtain ⟨N, rfl⟩ : ∃ M, N = M + 1 := ⟨N - 1, by rw [List.length_append] at hN; omega⟩;simp only [skF];by_cases hl : i < x.length
  ·rw [if_pos hl, if_pos (by rw [List.length_append]; omega), atS_sh, comQ_sh p x i b hi];split
   ·exact skF_sh p x n N (i + 1) _ (by omega) (by omega) (by omega)
   ·cases hc : comQ x i b with
    | none => rfl
    | some o =>
     cases o with
     | none => rfl
     | some q =>
      have := comQ_ok hi hc;simp only [Option.map_some];exact skF_sh p x n N q.1 q.2 (by omega) (by omega) this.2
  ·rw [if_neg hl, if_neg (by rw [List.length_append]; omega)];rfl
theorem skQ_sh (p x : List UInt8) (i : Nat) (b : Bool) (hi : i ≤ x.length) : skQ (p ++ x) (p.length + i) b = shR p.length (skQ x i b) := skF_sh p x _ _ i b (by omega) (by omega) hi
def mvT (d : Nat) (x : Tk) : Tk := (x.1, x.2.1, (d : Int) + x.2.2.1, x.2.2.2)
theorem toks_up {x : List UInt8} {i : Nat} {b : Bool} {M : List Tk} (h : Toks x i b M) (p : List UInt8) : i ≤ x.length → Toks (p ++ x) (p.length + i) b (M.map (mvT p.length)) := by
 induction h with
 | done h =>
  intro hi;refine .done (l' := ‹Bool›) ?_;rw [skQ_sh p x _ _ hi, h, List.length_append];rfl
 | @step i j m b l' k t L h hj ht hr ih =>
  intro hi;have hk := skQ_ok hi h;have hm := tokQ_ok ht;rw [List.length_drop] at hm;simp only at hm;have e : mvT p.length (k, t, (j : Int), l') = (k, t, ((p.length + j : Nat) : Int), l') := by unfold mvT; simp
  rw [List.map_cons, e];refine .step (m := m) ?_ (by rw [List.length_append]; omega) (by rw [drop_app]; exact ht) ?_
  ·rw [skQ_sh p x _ _ hi, h]; rfl
  ·rw [Nat.add_assoc];exact ih (by omega)
theorem toks_down {s : List UInt8} {i' : Nat} {b : Bool} {M' : List Tk} (h : Toks s i' b M') (p x : List UInt8) (hs : s = p ++ x) : ∀ i, i' = p.length + i → i ≤ x.length → ∃ M, M' = M.map (mvT p.length) ∧ Toks x i b M := by
 induction h with
 | @done i0 b l' h =>
  intro i hi hil;subst hs hi;rw [skQ_sh p x i b hil] at h;cases hk : skQ x i b with
  | inl a => rw [hk] at h; cases h
  | inr q =>
   rw [hk] at h;simp only [shR, Sum.inr.injEq, Prod.mk.injEq, List.length_append] at h;exact ⟨[], rfl, .done (l' := q.2) (by rw [hk]; congr 1; exact Prod.ext (by simp only; omega) rfl)⟩
 | @step i0 j m b l' k t L h hj ht hr ih =>
  intro i hi hil;subst hs hi;rw [skQ_sh p x i b hil] at h;cases hk : skQ x i b with
  | inl a => rw [hk] at h; cases h
  | inr q =>
   rw [hk] at h;simp only [shR, Sum.inr.injEq, Prod.mk.injEq] at h;obtain ⟨rfl, rfl⟩ := h;rw [List.length_append] at hj;rw [drop_app] at ht;have hm := tokQ_ok ht;rw [List.length_drop] at hm;simp only at hm;obtain ⟨M, h1, h2⟩ := ih (q.1 + m) (by omega) (by omega);refine ⟨(k, t, (q.1 : Int), q.2) :: M, ?_, .step hk (by omega) ht h2⟩;rw [List.map_cons, h1];congr 1
theorem skF_stop {s : List UInt8} : ∀ (n i : Nat) (b : Bool) (j : Nat) (l' : Bool), s.length < n + i → i ≤ s.length → skF s n i b = .inr (j, l') → j < s.length → ∀ (N : Nat) (b' : Bool), skF s (N + 1) j b' = .inr (j, b')
 | 0, i, b, j, l', hn, hi, h, hj => by omega
 | n + 1, i, b, j, l', hn, hi, h, hj => by
  intro N b';have hij := (skF_ok s _ _ _ _ _ hi h).1;simp only [skF] at h;rw [if_pos (show i < s.length by omega)] at h;split at h
  ·exact skF_stop n (i + 1) _ j l' (by omega) (by omega) h hj N b'
  ·rename_i hb;cases hc : comQ s i b with
   | none =>
    rw [hc] at h;simp only [Sum.inr.injEq, Prod.mk.injEq] at h;obtain ⟨rfl, rfl⟩ := h;have hc' : comQ s i b' = none := by
     unfold comQ at hc ⊢;split at hc
     ·cases hc
     ·rename_i h1;rw [if_neg h1];split at hc
      ·cases hc
      ·rename_i h2;rw [if_neg h2]
    simp only [skF];rw [if_pos hj, if_neg hb, hc']
   | some o =>
    cases o with
    | none => rw [hc] at h; cases h
    | some p =>
     rw [hc] at h;have := comQ_ok hi hc;exact skF_stop n p.1 _ j l' (by omega) this.2 h hj N b'
def blkL : List (List UInt8) := [[32], [10], [9, 13], [32, 47, 42, 32, 97, 32, 47, 42, 32, 98, 32, 42, 47, 32, 99, 32, 42, 47, 32], [32, 47, 47, 32, 120, 10], [32]]
theorem skF_step (a : UInt8) (z : List UInt8) (n : Nat) (b : Bool) (ha : isBl a = true) (hn : z.length < n) : skF (a :: z) (n + 1) 0 b = shR 1 (skF z n 0 (b || (a == 10))) := by
 have e0 : atS (a :: z) ((0 : Nat) : Int) = a.toNat := by rw [atS_R, atR_zero]
 have hb : (atS (a :: z) ((0 : Nat) : Int) = 32 ∨ atS (a :: z) ((0 : Nat) : Int) = 9 ∨ atS (a :: z) ((0 : Nat) : Int) = 13 ∨ atS (a :: z) ((0 : Nat) : Int) = 10) := by
  rw [e0];rcases isBl_cases ha with rfl | rfl | rfl | rfl <;> decide
 have h10 : decide (atS (a :: z) ((0 : Nat) : Int) = 10) = (a == 10) := by
  rw [e0];rcases isBl_cases ha with rfl | rfl | rfl | rfl <;> decide
 have e1 : skF (a :: z) (n + 1) 0 b = skF (a :: z) n 1 (b || (a == 10)) := by
  simp only [skF];rw [if_pos (by simp), if_pos hb, h10]
 rw [e1];have := skF_sh [a] z n n 0 (b || (a == 10)) (by omega) (by simp; omega) (by omega);simpa using this
theorem skF_com (q z : List UInt8) (n : Nat) (b : Bool) (nl : Bool) (h0 : ∀ b, comQ (q ++ z) 0 b = some (some (q.length, b || nl))) (hq : 0 < q.length) (h47 : atS (q ++ z) 0 = 47) (hn : z.length < n) : skF (q ++ z) (n + 1) 0 b = shR q.length (skF z n 0 (b || nl)) := by
 have e1 : skF (q ++ z) (n + 1) 0 b = skF (q ++ z) n q.length (b || nl) := by
  have h47' : atS (q ++ z) ((0 : Nat) : Int) = 47 := h47;simp only [skF];rw [if_pos (by rw [List.length_append]; omega), h47', if_neg (by decide), h0]
 rw [e1];exact skF_sh q z n n 0 _ (by omega) (by rw [List.length_append]; omega) (by omega)
theorem com_a (z : List UInt8) (b : Bool) : comQ ([47, 42, 32, 97, 32, 47, 42, 32, 98, 32, 42, 47, 32, 99, 32, 42, 47] ++ z) 0 b = some (some (17, b || false)) := by
 have e : comF ([47, 42, 32, 97, 32, 47, 42, 32, 98, 32, 42, 47, 32, 99, 32, 42, 47] ++ z) (([47, 42, 32, 97, 32, 47, 42, 32, 98, 32, 42, 47, 32, 99, 32, 42, 47] ++ z).length + 1) 0 0 = some 17 := by
  have el : ([47, 42, 32, 97, 32, 47, 42, 32, 98, 32, 42, 47, 32, 99, 32, 42, 47] ++ z).length + 1 = z.length + 18 := by simp
  rw [el];simp [comF, preR]
 unfold comQ;rw [e, if_neg (by simp [preR]), if_pos (by simp [preR])];have e2 : ((([47, 42, 32, 97, 32, 47, 42, 32, 98, 32, 42, 47, 32, 99, 32, 42, 47] : List UInt8) ++ z).take 17).drop 0 = [47, 42, 32, 97, 32, 47, 42, 32, 98, 32, 42, 47, 32, 99, 32, 42, 47] := by simp
 have e3 : Lib.validD [47, 42, 32, 97, 32, 47, 42, 32, 98, 32, 42, 47, 32, 99, 32, 42, 47] = true := by kernel_rfl
 have e4 : Lib.contains [47, 42, 32, 97, 32, 47, 42, 32, 98, 32, 42, 47, 32, 99, 32, 42, 47] [10] = false := by kernel_rfl
 simp only [comE, e2, e3, e4, if_true]
theorem com_b (z : List UInt8) (b : Bool) : comQ ([47, 47, 32, 120] ++ 10 :: z) 0 b = some (some (4, b || false)) := by
 have hi : Lib.indexByte ([47, 47, 32, 120] ++ 10 :: z) 10 = 4 := by
  simp [Lib.indexByte]
 unfold comQ;rw [if_pos (by simp [preR]), List.drop_zero, hi];have e2 : ((([47, 47, 32, 120] : List UInt8) ++ 10 :: z).take 4).drop 0 = [47, 47, 32, 120] := by simp
 have e3 : Lib.validD [47, 47, 32, 120] = true := by kernel_rfl
 have e4 : Lib.contains [47, 47, 32, 120] [10] = false := by kernel_rfl
 have e5 : (if (4 : Int) < 0 then ([47, 47, 32, 120] ++ 10 :: z).length else 0 + (4 : Int).toNat) = 4 := rfl;rw [e5];simp only [comE, e2, e3, e4, if_true]
theorem skF_bl {bl : List UInt8} (hb : bl ∈ blkL) (z : List UInt8) (n : Nat) (b : Bool) (hn : (bl ++ z).length < n) (hz : ∀ (N : Nat) (b' : Bool), skF z (N + 1) 0 b' = .inr (0, b')) : skF (bl ++ z) n 0 b = .inr (bl.length, b || bl.contains 10) := by
 have one : ∀ (a : UInt8) (n : Nat) (b : Bool), isBl a = true → z.length + 1 < n → skF (a :: z) n 0 b = .inr (1, b || (a == 10)) := fun a n b ha hn => by
  obtain ⟨n, rfl⟩ : ∃ m, n = m + 2 := ⟨n - 2, by omega⟩;rw [skF_step a z (n + 1) b ha (by omega), hz];rfl
 simp only [blkL, List.mem_cons, List.not_mem_nil, or_false] at hb;rcases hb with rfl | rfl | rfl | rfl | rfl | rfl
 ·exact (one 32 n b (by decide) (by simp only [List.length_append, List.length_cons, List.length_nil] at hn; omega)).trans (by simp)
 ·exact (one 10 n b (by decide) (by simp only [List.length_append, List.length_cons, List.length_nil] at hn; omega)).trans (by simp)
 ·obtain ⟨n, rfl⟩ : ∃ m, n = m + 1 := ⟨n - 1, by simp only [List.length_append, List.length_cons, List.length_nil] at hn; omega⟩;simp only [List.cons_append, List.nil_append, List.length_cons] at hn ⊢;rw [skF_step 9 (13 :: z) n b (by decide) (by simp; omega), one 13 n _ (by decide) (by omega)];simp [shR]
 ·obtain ⟨n, rfl⟩ : ∃ m, n = m + 2 := ⟨n - 2, by simp only [List.length_append, List.length_cons, List.length_nil] at hn; omega⟩;rw [show ([32, 47, 42, 32, 97, 32, 47, 42, 32, 98, 32, 42, 47, 32, 99, 32, 42, 47, 32] ++ z : List UInt8) = 32 :: ([47, 42, 32, 97, 32, 47, 42, 32, 98, 32, 42, 47, 32, 99, 32, 42, 47] ++ 32 :: z) from rfl] at hn ⊢;simp only [List.length_cons, List.length_append, List.length_nil] at hn;rw [skF_step 32 _ (n + 1) b (by decide) (by simp; omega), skF_com _ (32 :: z) n _ false (com_a _) (by decide) rfl (by simp; omega), one 32 n _ (by decide) (by omega)];simp [shR]
 ·obtain ⟨n, rfl⟩ : ∃ m, n = m + 2 := ⟨n - 2, by simp only [List.length_append, List.length_cons, List.length_nil] at hn; omega⟩;rw [show ([32, 47, 47, 32, 120, 10] ++ z : List UInt8) = 32 :: ([47, 47, 32, 120] ++ 10 :: z) from rfl] at hn ⊢;simp only [List.length_cons, List.length_append, List.length_nil] at hn;rw [skF_step 32 _ (n + 1) b (by decide) (by simp; omega), skF_com _ (10 :: z) n _ false (com_b _) (by decide) rfl (by simp; omega), one 10 n _ (by decide) (by omega)];simp [shR]
 ·exact (one 32 n b (by decide) (by simp only [List.length_append, List.length_cons, List.length_nil] at hn; omega)).trans (by simp)
def barK (x : Tk) : Tk := (x.1, x.2.1, 0, false)
structure BlR (l m : List Tk) (k : Nat) (nl : Bool) : Prop where
  bar : m.map barK = l.map barK
  line : ∀ (n : Nat) (x y : Tk), l[n]? = some x → m[n]? = some y → y.2.2.2 = if n = k then x.2.2.2 || nl else x.2.2.2
theorem Toks.blank {s : List UInt8} {i : Nat} {b : Bool} {l : List Tk} (h : Toks s i b l) {bl : List UInt8} (hb : bl ∈ blkL) : i ≤ s.length → ∀ (k c : Nat) (x : Tk), l[k]? = some x → x.2.2.1 = (c : Int) → ∃ m, Toks (s.take c ++ (bl ++ s.drop c)) i b m ∧ BlR l m k (bl.contains 10) := by
 have hbl : ∀ z : List UInt8, BlH (bl ++ z) := fun z a r e => by
  simp only [blkL, List.mem_cons, List.not_mem_nil, or_false] at hb;rcases hb with rfl | rfl | rfl | rfl | rfl | rfl <;> (rw [← (List.cons.inj e).1]; rfl)
 have hbp : 0 < bl.length := by
  simp only [blkL, List.mem_cons, List.not_mem_nil, or_false] at hb;rcases hb with rfl | rfl | rfl | rfl | rfl | rfl <;> decide
 induction h with
 | done h => intro _ k c x hx; simp at hx
 | @step i j m b l' kd t L h hj ht hr ih =>
  intro hi k c x hx hxc;have hk := skQ_ok hi h;have hm := tokQ_ok ht;rw [List.length_drop] at hm;simp only at hm;cases k with
  | zero =>
   rw [List.getElem?_cons_zero] at hx;cases hx;simp only at hxc;have e : j = c := by omega
   subst e;have hlen : (s.take j).length = j := cut_len hj;have hs : s = s.take j ++ s.drop j := (List.take_append_drop j s).symm;obtain ⟨M, h1, h2, _⟩ := skF_on (y := bl ++ s.drop j) (hbl _) hj _ ((s.take j ++ (bl ++ s.drop j)).length + 1) i b j l' (by omega) hi h (by omega) (by omega);have hst : ∀ (N : Nat) (b' : Bool), skF (s.drop j) (N + 1) 0 b' = .inr (0, b') := fun N b' => by
    have h3 := skF_stop _ i b j l' (by omega) hi h hj (s.length + 1) b';have h4 := skF_sh (s.take j) (s.drop j) (s.length + 1) (s.length + 2) 0 b' (by rw [List.length_drop]; omega) (by rw [← hs, hlen]; omega) (by omega);rw [← hs, hlen] at h4;have h4 : skF s (s.length + 1 + 1) j b' = shR j (skF (s.drop j) (s.length + 1) 0 b') := h4;rw [h3] at h4;have h5 : skF (s.drop j) (s.length + 1) 0 b' = .inr (0, b') := by
     cases hq : skF (s.drop j) (s.length + 1) 0 b' with
     | inl a => rw [hq] at h4; cases h4
     | inr q =>
      rw [hq] at h4;simp only [shR, Sum.inr.injEq, Prod.mk.injEq] at h4;congr 1;exact Prod.ext (by simp only; omega) h4.2.symm
    exact skF_stop (s := s.drop j) (s.length + 1) 0 b' 0 b' (by rw [List.length_drop]; omega) (by omega) h5 (by rw [List.length_drop]; omega) N b'
   have hsk : skQ (s.take j ++ (bl ++ s.drop j)) i b = .inr (j + bl.length, l' || bl.contains 10) := by
    unfold skQ;rw [h2];have h6 := skF_sh (s.take j) (bl ++ s.drop j) ((bl ++ s.drop j).length + 1) M 0 l' (by omega) (by rw [hlen]; omega) (by omega);rw [hlen] at h6;have h6 : skF (s.take j ++ (bl ++ s.drop j)) M j l' = shR j (skF (bl ++ s.drop j) ((bl ++ s.drop j).length + 1) 0 l') := h6;rw [h6, skF_bl hb _ _ _ (by omega) hst];rfl
   obtain ⟨M2, e1, e2⟩ := toks_down hr (s.take j) (s.drop j) hs m (by rw [hlen]) (by rw [List.length_drop]; omega);have hp : s.take j ++ (bl ++ s.drop j) = (s.take j ++ bl) ++ s.drop j := by rw [List.append_assoc]
   have hpl : (s.take j ++ bl).length = j + bl.length := by rw [List.length_append, hlen]
   have e3 := toks_up e2 (s.take j ++ bl) (by rw [List.length_drop]; omega);rw [hpl, ← hp] at e3;refine ⟨_, .step hsk (by rw [hp, List.length_append, hpl, List.length_drop]; omega) (by rw [hp, ← hpl, ← Nat.add_zero (s.take j ++ bl).length, drop_app]; exact ht) e3, ?_, ?_⟩
   ·rw [e1];simp only [List.map_cons, List.map_map];rfl
   ·intro n x y hx hy;cases n with
    | zero =>
     rw [List.getElem?_cons_zero] at hx hy;cases hx;cases hy;rfl
    | succ n =>
     rw [List.getElem?_cons_succ] at hx hy;rw [e1] at hx;rw [List.getElem?_map] at hx hy;cases hq : M2[n]? with
     | none => rw [hq] at hx; cases hx
     | some q =>
      rw [hq] at hx hy;cases hx;cases hy;rw [if_neg (by omega)];rfl
  | succ k =>
   rw [List.getElem?_cons_succ] at hx;have ha := hr.at (by omega) x (List.mem_of_getElem? hx);have hcs : c < s.length := by omega
   obtain ⟨M, h1, h2⟩ := ih (by omega) k c x hx hxc;refine ⟨_, .step (skQ_new (hbl _) hcs hi h (by omega)) (by rw [List.length_append, cut_len hcs]; omega) (tok_new (hbl _) hcs ht (by omega)) h1, ?_, ?_⟩
   ·simp only [List.map_cons];rw [h2.bar]
   ·intro n x y hx hy;cases n with
    | zero =>
     rw [List.getElem?_cons_zero] at hx hy;cases hx;cases hy;rw [if_neg (by omega)]
    | succ n =>
     rw [List.getElem?_cons_succ] at hx hy;have := h2.line n x y hx hy;rw [this];by_cases hnk : n = k
     ·rw [if_pos hnk, if_pos (by omega)]
     ·rw [if_neg hnk, if_neg (by omega)]
theorem ld_line {l : List Tk} {i : Nat} {x : Tk} (h : l[i]? = some x) (H : Heap) : loadA TT 4 H (.ipt 4 (rowsT l) i 3) = some (.b x.2.2.2) := by
 have e : isAggT (TT.und 4) = some false := rfl;simp only [loadA, rowsT, List.getElem?_map, h, Option.map_some, pickAt, e];rfl
theorem head_l5 {call : CallF} (hC : call.Sound Tryz.prog TT) (c1 : ∀ H, call 10 [] H = .val (.b true) H) (l m : List Tk) (k : Nat) (bl : List UInt8) (c6 : ∀ H, call 15 [.s bl, .s [10]] H = .val (.b (bl.contains 10)) H)
 (hl : l.length < 1100000) (he : m.length = l.length) (hp : BlR l m k (bl.contains 10)) :
 ∀ (n i : Nat) (t : Tm) (H : Heap), l.length < n + i → i ≤ l.length → t.wid = Tryz.f5.ntmps → t.get 7 = .isl 4 (rowsT l) → t.get 10 = .s bl → t.get 11 = .i .i64 (k : Nat) → t.get 13 = .isl 4 (rowsT m) → t.get 74 = .i .i64 l.length → t.get 75 = .i .i64 (i : Nat) →
 ctx Tryz.prog TT [true, true, true, true, true, true, true, true, false, true, false, false] (bodyOf Tryz.f5) (EndsX TT Tryz.f5 (isR (.val (.b true)))) (.norm t H) := by
 intro n;induction n with
 | zero => intro i t H h1 h2; omega
 | succ n ih =>
  intro i t H hn hi hw t7 t10 t11 t13 t74 t75;have hlr := rows_len l;have hmr := rows_len m;refine LTri.symIn (p := [true, true, true, true, true, true, true, true, false, true, false]) TT_ok hC rfl tr_l5c (by kernel_rfl) [.ul (rowsT l), .us bl, .ui (k : Nat), .ul (rowsT m), .ui (i : Nat), .uh H] rfl hw ⟨t7, t10, t11, t13, by rw [t74, ← hlr]; rfl, t75, trivial⟩ rfl (WF_opq _ _) ?_;clear t7 t10 t11 t13 t74 t75 hw;simp -implicitDefEqProofs only [VC, isR, exU, Ask.den, forall_eq, E.den, O1.den, O2.den, O3.den, U.int_ui, U.boo_ub, U.val_uv, U.lst_ul, U.str_us, U.nat_un, U.heap_uh, SH.den, setsD, newD, bD, SB.den, factsTo, LQ, List.cons_append, List.nil_append, List.getElem?_cons_zero, List.getElem?_cons_succ, Option.getD_some, ltB_true, ltB_false, leB_true, leB_false, beq_iff_eq, bne_iff_ne, beq_eq_false_iff_ne, Int.toNat_natCast, Bool.false_eq_true, if_false, if_true];have w1 : IntKind.i64.wrap ((i : Int) + 1) = ((i + 1 : Nat) : Int) := by rw [w64 (by omega) (by omega)]; omega
  simp only [w1, Int.toNat_natCast];rw [hlr, hmr];refine ⟨fun h => ?_, fun h => .inl ⟨true, c1, rfl⟩⟩;have h1 : i < l.length := by omega
  have h2 : i < m.length := by omega
  have hx := List.getElem?_eq_getElem h1;have hy := List.getElem?_eq_getElem h2;have hline := hp.line i _ _ hx hy;have ldl : lift (loadA TT 4 H (V.ipt 4 (rowsT l) i 3)) H = OR.val (V.b l[i].2.2.2) H := by rw [ld_line hx]; rfl
  have ldm : lift (loadA TT 4 H (V.ipt 4 (rowsT m) i 3)) H = OR.val (V.b m[i].2.2.2) H := by rw [ld_line hy]; rfl
  have go : ∀ (t : Tm), t.wid = Tryz.f5.ntmps → t.get 7 = .isl 4 (rowsT l) → t.get 10 = .s bl → t.get 11 = .i .i64 (k : Nat) → t.get 13 = .isl 4 (rowsT m) → t.get 74 = V.i IntKind.i64 (l.length : Nat) → t.get 75 = V.i IntKind.i64 ((i + 1 : Nat) : Int) →
   ctx Tryz.prog TT [true, true, true, true, true, true, true, true, false, true, false, false] (bodyOf Tryz.f5) (EndsX TT Tryz.f5 (isR (Res.val (V.b true)))) (Out.norm t H) := fun t hw f7 f10 f11 f13 f74 f75 => ih (i + 1) t H (by omega) (by omega) hw f7 f10 f11 f13 f74 f75
  refine ⟨fun hne => ⟨by omega, .inl ⟨_, ldl, by omega, .inl ⟨_, ldm, fun hq => ⟨fun e => absurd e hne, fun _ => go⟩, fun hq => ?_⟩⟩⟩, fun hb => ⟨fun hik => ⟨by omega, by omega, .inl ⟨_, ldm, .inl ⟨_, ldl, fun k1 => ⟨fun _ => go, fun k2 => ?_⟩, fun k1 => .inl ⟨_, c6, fun _ => go, fun k2 => ?_⟩⟩⟩⟩, fun _ => go⟩⟩
  ·rw [if_neg (fun e => hne (by rw [e]))] at hline;exact absurd hline.symm hq
  ·rw [if_pos (Int.ofNat.inj hik), k1] at hline;exact absurd hline k2
  ·rw [if_pos (Int.ofNat.inj hik), k1, Bool.false_or] at hline;exact absurd hline k2
theorem reg_l5 {call : CallF} (hC : call.Sound Tryz.prog TT) {Q : Out → Prop} (t : Tm) (H : Heap) (w2 k : Nat) (bl : List UInt8) (hw : t.wid = Tryz.f5.ntmps) (hk : w2 % 6 = k) (hb : blkL[k]? = some bl) (t2 : t.get 2 = .i .u16 (w2 : Nat))
 (hQ : ∀ (t' : Tm) (H' : Heap), t'.wid = t.wid → t'.get 10 = .s bl → (∀ j, j < 10 → t'.get j = t.get j) → Q (.norm t' H')) : Tri Tryz.prog TT (sub [true, true, true, false] (bodyOf Tryz.f5)) t H Q := by
 have hk6 : k < 6 := by omega
 have hw1 : t.wid = 118 := hw;have hrem : evInt .rem .u16 (w2 : Nat) 6 = some (.i .u16 (k : Nat)) := by
  have e : evInt .rem .u16 (w2 : Int) 6 = some (.i .u16 ((w2 : Int).tmod ((6 : Nat) : Int))) := by
   simp only [evInt, Op.intDiv];rw [if_neg (by decide)];rfl
  rw [e, tmod_nat, hk]
 have htm : (w2 : Int).tmod 6 = (k : Nat) := by rw [show (6 : Int) = ((6 : Nat) : Int) from rfl, tmod_nat, hk]
 have hlt0 : (0 : Int) ≤ (k : Nat) := by omega
 have hlt6 : ((k : Nat) : Int) < 6 := by omega
 have hcell : ([V.s [32], .s [10], .s [9, 13], .s [32, 47, 42, 32, 97, 32, 47, 42, 32, 98, 32, 42, 47, 32, 99, 32, 42, 47, 32], .s [32, 47, 47, 32, 120, 10], .s [32]] : List V)[k]? = some (.s bl) := by
  have : ([V.s [32], .s [10], .s [9, 13], .s [32, 47, 42, 32, 97, 32, 47, 42, 32, 98, 32, 42, 47, 32, 99, 32, 42, 47, 32], .s [32, 47, 47, 32, 120, 10], .s [32]] : List V) = blkL.map .s := rfl;rw [this, List.getElem?_map, hb];rfl
 have hbs : evBuildSlice TT 37 6 [(0, .s [32]), (1, .s [10]), (2, .s [9, 13]), (3, .s [32, 47, 42, 32, 97, 32, 47, 42, 32, 98, 32, 42, 47, 32, 99, 32, 42, 47, 32]), (4, .s [32, 47, 47, 32, 120, 10]), (5, .s [32])] H = .val (.sl H.length 1 0 6 (some 6)) (H ++ [some ⟨9, [V.s [32], .s [10], .s [9, 13], .s [32, 47, 42, 32, 97, 32, 47, 42, 32, 98, 32, 42, 47, 32, 99, 32, 42, 47, 32], .s [32, 47, 47, 32, 120, 10], .s [32]], .all⟩]) := by
  have e1 : TT.und 37 = some (.slice 9) := rfl;have e2 : TT.size 9 = some 1 := rfl;have e3 : TT.zero 9 = some (.s []) := rfl;simp only [evBuildSlice, e1, e2, e3];simp [reps, fillV, splice, newB_eq, V.cells]
 have hia : ∀ K : Heap, evIndexAddr TT 37 (.sl H.length 1 0 6 (some 6)) (.i .u16 (k : Nat)) = some (.ptr H.length k) := fun K => by
  have e1 : TT.und 37 = some (.slice 9) := rfl;have e2 : TT.size 9 = some 1 := rfl;simp only [evIndexAddr, e1, e2];rw [if_pos ⟨trivial, by omega, by omega⟩];simp
 have hld : loadA TT 9 (H ++ [some ⟨9, [V.s [32], .s [10], .s [9, 13], .s [32, 47, 42, 32, 97, 32, 47, 42, 32, 98, 32, 42, 47, 32, 99, 32, 42, 47, 32], .s [32, 47, 47, 32, 120, 10], .s [32]], .all⟩]) (.ptr H.length k) = some (.s bl) := by
  have e1 : isAggT (TT.und 9) = some false := rfl;simp only [loadA, cellsAt, List.getElem?_append_right (Nat.le_refl _), Nat.sub_self, List.getElem?_cons_zero, pickAt, e1];exact hcell
 generalize hHK : H ++ [some ⟨9, [V.s [32], .s [10], .s [9, 13], .s [32, 47, 42, 32, 97, 32, 47, 42, 32, 98, 32, 42, 47, 32, 99, 32, 42, 47, 32], .s [32, 47, 47, 32, 120, 10], .s [32]], .all⟩] = K at hbs hld;refine Tri.regN (t' := ?t1) (H' := ?H1) TT_ok hC ?e1 ?q1;case e1 =>
  refine go_false ?_;refine evSeq_go rfl (by simp [hbs] <;> rfl) (by rfl) (by simp [hw1]) ?_;iterate 2 refine evSeq_go rfl (by simp [t2, htm] <;> rfl) (by rfl) (by simp [hw1]) ?_
  refine evSeq_go rfl (by simp [hlt0, hlt6] <;> rfl) (by rfl) (by simp [hw1]) ?_;iterate 2 refine evSeq_go rfl (by simp [hld, -loadA] <;> rfl) (by rfl) (by simp [hw1]) ?_
  exact evSeq_nil
 refine hQ _ _ (by simp) (by simp) fun j hj => ?_;have a1 : ¬ j = 36 := by omega
 have a2 : ¬ j = 37 := by omega
 have a3 : ¬ j = 38 := by omega
 have a4 : ¬ j = 39 := by omega
 have a5 : ¬ j = 40 := by omega
 have a6 : ¬ j = 10 := by omega
 simp [a1, a2, a3, a4, a5, a6]
theorem blk_mem {k : Nat} {bl : List UInt8} (h : blkL[k]? = some bl) : bl ∈ blkL ∧ bl.length ≤ 19 := by
 have hm := List.mem_of_getElem? h;refine ⟨hm, ?_⟩;have : ∀ x ∈ blkL, x.length ≤ 19 := by decide
 exact this bl hm
theorem law_blanks (s : List UInt8) (w1 w2 : Nat) (h1 : s.length < 1100000) (hw1 : w1 < 65536) (hw2 : w2 < 65536) : Body Tryz.prog TT 5 [.s s, .i .u16 (w1 : Nat), .i .u16 (w2 : Nat)] (.val (.b true)) := by
 obtain ⟨g1, k1, s1⟩ := sp2010;obtain ⟨g2, k2, s2⟩ := sp2011;obtain ⟨g4, k4, s4⟩ := sp2014;have hC := ws (ws (ws (ws n0 k1) k2) k4) ok15;generalize hc : (((CallF.none.with 10 g1).with 11 g2).with 14 g4).with 15 spContains = call at hC;have c1 : ∀ H, call 10 [] H = .val (.b true) H := fun H => by rw [← hc, w_other _ _ _ _ rfl, w_other _ _ _ _ rfl, w_other _ _ _ _ rfl, w_here]; exact s1 H
 have c2 : ∀ x H, call 11 [.s x] H = .val (scnV (scnT x)) H := fun x H => by rw [← hc, w_other _ _ _ _ rfl, w_other _ _ _ _ rfl, w_here]; exact s2 x H
 have c4 : ∀ p : List Tk × List Tk, (p.1.length < 1100000 ∧ p.2.length < 1100000) → ∀ H, call 14 [.isl 4 (rowsT p.1), .isl 4 (rowsT p.2)] H = .val (.b (sameT p.1 p.2)) H := fun p hp H => by rw [← hc, w_other _ _ _ _ rfl, w_here]; exact s4 p hp H
 have c6 : ∀ x : List UInt8, x.length < 1000 → ∀ H, call 15 [.s x, .s [10]] H = .val (.b (x.contains 10)) H := fun x hx H => by
  rw [← hc, w_here];simp only [spContains];rw [if_pos (by omega), has_nl]
 clear hc;apply EBody.of1;apply XBody.is;refine XBody.sym TT_ok hC (fn := Tryz.f5) rfl rfl (by simp [Tryz.f5]) tr_l5 (by kernel_rfl) [.us s, .ui (w1 : Nat), .ui (w2 : Nat), .uh []] rfl ⟨by rw [get_init]; rfl, by rw [get_init]; rfl, by rw [get_init]; rfl, trivial⟩ rfl (WF_opq _ _) ?_;simp -implicitDefEqProofs only [VC, isR, exU, Ask.den, forall_eq, E.den, O1.den, O2.den, O3.den, U.int_ui, U.boo_ub, U.val_uv, U.lst_ul, U.str_us, U.nat_un, U.heap_uh, SH.den, setsD, newD, bD, SB.den, factsTo, LQ, List.cons_append, List.nil_append, List.getElem?_cons_zero, List.getElem?_cons_succ, Option.getD_some, ltB_true, ltB_false, leB_true, leB_false, beq_iff_eq, bne_iff_ne, beq_eq_false_iff_ne, Int.toNat_natCast];rcases hsc : scnT s with ⟨l, a, e⟩;have c3 := c2 s;rw [hsc] at c3;refine .inl ⟨rowsT l, (a : Nat), (e : Nat), c3, fun h => .inl ⟨true, c1, rfl⟩, fun h => ⟨fun h2 => .inl ⟨true, c1, rfl⟩, fun h2 => ⟨fun h3 => .inl ⟨true, c1, rfl⟩, fun h3 => ?_⟩⟩⟩;have he : e = 0 := by simpa using h2
 subst he;have ht := scnT_toks (by omega) hsc;have hl := toks_len ht (by omega);have hpos : 0 < l.length := by rw [rows_len] at h3; omega
 intro t hw t0 t1 t2 t7;obtain ⟨bl, hb⟩ : ∃ bl, blkL[w2 % 6]? = some bl := ⟨_, List.getElem?_eq_getElem (by show w2 % 6 < 6; omega)⟩;obtain ⟨hbm, hb19⟩ := blk_mem hb;refine reg_l5 hC t _ w2 _ bl hw rfl hb t2 fun t' H' hw' f10 fo => ?_;show Tri Tryz.prog TT (sub [true, true, true, true] (bodyOf Tryz.f5)) t' H' (ctx Tryz.prog TT [true, true, true, true] (bodyOf Tryz.f5) _);refine Tri.symIn TT_ok hC tr_l5b (by kernel_rfl) [.us s, .ui (w1 : Nat), .uh H', .ul (rowsT l), .us bl] rfl (hw'.trans hw) ⟨(fo 0 (by omega)).trans t0, (fo 1 (by omega)).trans t1, (fo 7 (by omega)).trans t7, f10, trivial⟩ rfl (WF_opq _ _) ?_;simp -implicitDefEqProofs only [VC, isR, exU, Ask.den, forall_eq, E.den, O1.den, O2.den, O3.den, U.int_ui, U.boo_ub, U.val_uv, U.lst_ul, U.str_us, U.nat_un, U.heap_uh, SH.den, setsD, newD, bD, SB.den, factsTo, LQ, List.cons_append, List.nil_append, List.getElem?_cons_zero, List.getElem?_cons_succ, Option.getD_some, ltB_true, ltB_false, leB_true, leB_false, beq_iff_eq, bne_iff_ne, beq_eq_false_iff_ne, Int.toNat_natCast, Bool.false_eq_true, if_false, if_true];have w3 : IntKind.i64.wrap (w1 : Int) = w1 := w64 (by omega) (by omega);rw [w3, rows_len, rem_i64 w1 l.length hpos];simp only [intOf_i, kindOf_i, Int.toNat_natCast, decide_true];have hk : w1 % l.length < l.length := Nat.mod_lt _ hpos;generalize w1 % l.length = k at hk;have hx := List.getElem?_eq_getElem hk;have hr := ht.at (by omega) _ (List.getElem_mem hk);obtain ⟨c, hcc⟩ : ∃ c : Nat, l[k].2.2.1 = (c : Int) := ⟨l[k].2.2.1.toNat, by omega⟩;obtain ⟨m, hm, hR⟩ := ht.blank hbm (by omega) k c _ hx hcc;have hs2 : (s.take c ++ (bl ++ s.drop c)).length ≤ 20000 := by rw [List.length_append, List.length_append, List.length_take, List.length_drop]; omega
 have hT := toks_scnT hs2 hm;have hml : m.length = l.length := by
  have := congrArg List.length hR.bar;simpa using this
 have e1 : (s.take c).drop 0 ++ bl ++ (s.take s.length).drop c = s.take c ++ (bl ++ s.drop c) := by
  rw [List.drop_zero, List.take_length, List.append_assoc]
 have c5 := c2 (s.take c ++ (bl ++ s.drop c));rw [hT] at c5;have c7 := c4 (l, m) ⟨by simp only; omega, by simp only; omega⟩;have hsame : sameT l m = true := by
  unfold sameT;rw [decide_eq_true_eq];exact hR.bar.symm
 rw [hsame] at c7;have l1 : (s.take c).length ≤ 500 := by rw [List.length_take]; omega
 have l2 : (s.drop c).length ≤ 500 := by rw [List.length_drop]; omega
 refine ⟨trivial, by omega, by omega, .inl ⟨c, by rw [ld_place hx, hcc]; rfl, by omega, by omega, ?_, ?_, .inl ⟨rowsT m, 0, 0, fun K => ?_, fun h => absurd rfl h, fun _ => .inl ⟨true, c7, fun _ t hw f7 f10 f11 f13 f74 f75 => ?_, fun h => by cases h⟩⟩⟩⟩
 ·simp only [Int.toNat_natCast, List.drop_zero, Int.toNat_zero];omega
 ·simp only [Int.toNat_natCast, List.drop_zero, Int.toNat_zero, List.take_length, List.length_append];omega
 ·have := c5 K;rw [← e1] at this;exact this
 ·exact Tri.symLoop rfl (head_l5 hC c1 l m k bl (fun H => c6 bl (by omega) H) (by omega) hml hR (l.length + 1) 0 t H' (by omega) (by omega) hw f7 f10 f11 f13 f74 f75)
open Go.ChangeShapes Go.WideShapes Go.RowKit
open Go.Proofs.YtmjplflnlggbeaaGreatDoor (Rows.uptoBulk Rows.uptoBulkAll Rows.tokenBlanksSpec Rows.tokenBlanksUptoRow Rows.uptoSmall Rows.OpenSpec.upto)
section
variable {H : Type} {enc : TypeId × Value → H} {W W' : World}
theorem trodAll_carry {sp : Nat → Bool} : ∀ {ts : List TypeId} {vs : List Value} {ds : List (DataW H)} {ps : List MemPlace}, DataW.TrodAll enc Tryz.prog W 0 sp true ts vs ds ps → (∀ p ∈ ps, W.sameAt W' p) → DataW.TrodAll enc Tryz.prog W' 0 sp true ts vs ds ps
 | [], [], [], _, h, _ => h
 | _ :: _, _ :: _, _ :: _, _, ⟨p, q, ⟨n, h1⟩, h2, e⟩, hs => ⟨p, q, ⟨n, DataW.trod_carry n _ _ _ h1 fun x hx => hs x (by rw [e]; exact List.mem_append_left _ hx)⟩, trodAll_carry h2 fun x hx => hs x (by rw [e]; exact List.mem_append_right _ hx), e⟩
theorem same_below (hb : Below W.heap.size W W') (p : MemPlace) (hp : p.block < W.heap.size) : W.sameAt W' p := by
 cases p with
 | cell b off =>
  show W'.cell? ⟨b, off, none⟩ = W.cell? ⟨b, off, none⟩;unfold World.cell?;rw [hb.block b hp]
 | map b => exact hb.block b hp
theorem kept_below (hb : Below W.heap.size W W') (may : MemPlace → Prop) : W.keptBut W' may := by
 refine ⟨hb.os, hb.output, fun i hi => ?_⟩;rw [hb.block i hi];exact (World.keptBut_refl W may).2.2 i hi
theorem kidsT : Kids Tryz.prog (· < Tryz.prog.types.size) := kids_rows (by kernel_rfl) (by kernel_rfl)
theorem arg_of {base : Nat} {v : Value} {d : DataW H} {p : List MemPlace} (hok : Value.okWide Tryz.prog W .any base 9 v) (h : DataW.Trod enc Tryz.prog W 0 (fun _ => true) true 9 v d p) :
 ∃ s : List UInt8, rel (memOf W) [] (.s s) v ∧ s.length < Rows.uptoBulk d := by
 have hv : ∃ s : ByteArray, v = .string s := by
  unfold Value.okWide Cell.okWide Cell.ok at hok;rw [Tryz.underlying9] at hok;cases v <;> simp at hok;exact ⟨_, rfl⟩
 obtain ⟨s, rfl⟩ := hv;obtain ⟨n, hn⟩ := h;obtain ⟨s', e1, e2, _⟩ := DataW.trod_string Tryz.underlying9 hn;have e : s = s' := by simpa [Value.cells] using e1
 subst e;simp only [Prod.mk.injEq] at e2;refine ⟨s.data.toList, by simp only [rel], ?_⟩;rw [e2.1];simp [Rows.uptoBulk]
theorem arg_u16 {base : Nat} {v : Value} (hok : Value.okWide Tryz.prog W .any base 32 v) : ∃ n : Nat, n < 65536 ∧ rel (memOf W) [] (.i .u16 (n : Nat)) v := by
 have hv : ∃ n : Int, v = .int .u16 n ∧ 0 ≤ n ∧ n < 65536 := by
  unfold Value.okWide Cell.okWide Cell.ok at hok;rw [Tryz.underlying32] at hok;cases v <;> simp at hok;obtain ⟨rfl, h⟩ := hok;refine ⟨_, rfl, ?_⟩;have h1 : IntKind.u16.min = 0 := rfl;have h2 : IntKind.u16.max = 65535 := rfl;unfold IntKind.has at h;rw [h1, h2] at h;omega
 obtain ⟨n, rfl, h1, h2⟩ := hv;refine ⟨n.toNat, by omega, ?_⟩;rw [Int.toNat_of_nonneg h1];simp only [rel]
end
theorem contract {H : Type} (enc : TypeId × Value → H) (F : Stop.Interp) (W : World) (base : Nat) (args : Array Value) (ds gs : List (DataW H)) (before : List MemPlace)
 (hval : ∀ (j : Nat) t v, Tryz.f5.params[j]? = some t → args[j]? = some v → Value.okWide Tryz.prog W .any base t v)
 (hW : DataW.Whole enc Tryz.prog Tryz.f5.params.toList Rows.tokenBlanksSpec.vars false W args.toList ds gs before)
 (hsm : Rows.uptoBulkAll (ds ++ gs) ≤ 1048576) (hL : laidMetH Tryz.prog Rows.tokenBlanksUptoRow.laid W) (hsh : W.ShapedOpen Tryz.prog) :
 Calls Tryz.prog 5 args W fun e W' => ∃ v, e = .returned v ∧ ((Rows.OpenSpec.upto Rows.tokenBlanksSpec).at F).post enc Tryz.prog Tryz.f5 false true false false W args v W' := by
 have hW' := hW;obtain ⟨p, q, hA0, hV, rfl, hfz, hnd⟩ := hW;have hA : DataW.TrodAll enc Tryz.prog W 0 (fun _ => true) true Tryz.f5.params.toList args.toList ds p := hA0;have hAk := hA;rw [Tryz.params5] at hA hval;obtain ⟨v0, vs0, d0, ds0, p0, q0, hargs, rfl, rfl, h0, r0⟩ := trodAll_cons hA;obtain ⟨v1, vs1, d1, ds1, p1, q1, rfl, rfl, rfl, h1, r1⟩ := trodAll_cons r0;obtain ⟨v2, vs2, d2, ds2, p2, q2, rfl, rfl, rfl, h2, r2⟩ := trodAll_cons r1;obtain ⟨rfl, rfl, rfl⟩ := trodAll_nil r2;obtain rfl : args = #[v0, v1, v2] := by cases args; simp_all
 obtain ⟨rfl, rfl⟩ := trodVars_none hV;obtain ⟨x0, e0, n0'⟩ := arg_of (hval 0 9 v0 rfl rfl) h0;obtain ⟨x1, b1, e1⟩ := arg_u16 (hval 1 32 v1 rfl rfl);obtain ⟨x2, b2, e2⟩ := arg_u16 (hval 2 32 v2 rfl rfl);simp only [List.append_nil, Rows.uptoBulkAll] at hsm;have hb := law_blanks x0 x1 x2 (by omega) b1 b2;obtain ⟨_, hcall⟩ := con_of_body TT_ok TT_plain hb (by simp [nlL, nl]) rfl;have := hcall [] (memOf W) [] W [v0, v1, v2] (sr_of_laid hL hsh) (relL_cons e0 (relL_cons e1 (relL_cons e2 (by simp only [relL]))));refine Calls.mono this ?_;rintro e W' ⟨x, M', ρ', rfl, he, hx, _⟩;simp only [rel] at hx;subst hx;have hB : Below W.heap.size W W' := ⟨he.os, he.tape, he.output, he.size, fun k hk => he.frame k hk (fun c hc => by simp at hc)⟩;have hlt := hAk.lt;have hresp := DataW.TrodAll.respare (spare' := fun b => decide (b < W.heap.size)) kidsT (slices_full_of Tryz.prog (by kernel_rfl)) (fun t ht => by
  rw [Tryz.params5] at ht;have : t = 9 ∨ t = 32 := by simpa using ht
  rcases this with rfl | rfl
  ·exact of_decide_eq_true (by kernel_rfl)
  ·exact of_decide_eq_true (by kernel_rfl)) hAk (fun p hp => by simpa using hlt p hp)
 refine ⟨_, rfl, ?_⟩;refine ⟨_, _, _, [], _, [], hW', ?_, trodAll_carry hresp (fun p hp => same_below hB p (hlt p hp)), rfl, kept_below hB _, fun h => by cases h⟩;exact trodAll_mk1 (shut_bool Tryz.underlying4 true)
end Go.Ev
