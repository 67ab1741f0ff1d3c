/- Trees of token. The first region of token. The whole body of token, its parts given. Bounds of characters, texts and symbols; the look-up among the keywords. Symbols. The set of keywords on the heap of Scan. The function that Scan defers, behind a return. The function that Scan defers, behind a panic. Bounds of tokens, and token. The loop of Scan. Trees of Quote. Quote. Scan. Two given texts scanned. Two literals behind each other are scanned to their two texts. -/
import Derived.Test.YtmjplflnlggbeaaGreatDoorNYM
import Derived.Test.YtmjplflnlggbeaaGreatDoorNK4
import Derived.Test.YtmjplflnlggbeaaGreatDoorNK9
import Derived.Test.YtmjplflnlggbeaaGreatDoorNWB
import Derived.Test.YtmjplflnlggbeaaGreatDoorNEvMapR
namespace Go.Ev
open Go Go.Proofs
set_option linter.unusedSimpArgs false
set_option linter.unusedVariables false
set_option linter.unnecessarySimpa false
set_option maxRecDepth 1000000
theorem tr_tok1 : codeT TT shp Tryz.f31.ntmps [1] (bodyOf Tryz.f31) [] ⟨[(0, .f1 (.ptr 0) (.va 0))], ⟨.va 1, [(.va 0, some ⟨55, .f2 .cons (.f1 .vs (.va 2)) (.f2 .cons (.f1 (.vi .i64) (.va 3)) (.f2 .cons (.f1 .vb (.va 4)) (.f2 .cons (.f1 .mp (.va 5)) .nil))), .all⟩)], []⟩, 6, []⟩ (KF TT Tryz.f31 [0, 2]) = .leaf (.stop [.true, .false]) [(0, .f1 (.ptr 0) (.va 0)), (2, .f1 (.ptr 0) (.f2 .addn (.f1 .hlen (.va 1)) (.cn 0)))] ⟨.va 1, [(.va 0, .some ⟨55, .f2 .cons (.f1 .vs (.va 2)) (.f2 .cons (.f1 (.vi .i64) (.va 3)) (.f2 .cons (.f1 .vb (.va 4)) (.f2 .cons (.f1 .mp (.va 5)) .nil))), .all⟩)], [.some ⟨34, .f2 .cons (.f1 (.vi .i64) (.ci 0)) (.f2 .cons (.f1 .vs (.cs [])) (.f2 .cons (.f1 (.vi .i64) (.ci 0)) (.f2 .cons (.f1 .vb (.cb .false)) .nil))), .all⟩]⟩ := by kernel_rfl
theorem tr_tok2 : goT TT shp Tryz.f31.ntmps [] [true, true] (bodyOf Tryz.f31) [] ⟨[(0, .f1 (.ptr 0) (.va 0)), (2, .f1 (.ptr 0) (.va 6)), (3, .f1 (.ptr 0) (.va 7))], ⟨.va 1, [(.va 0, some ⟨55, .f2 .cons (.f1 .vs (.va 2)) (.f2 .cons (.f1 (.vi .i64) (.va 3)) (.f2 .cons (.f1 .vb (.va 4)) (.f2 .cons (.f1 .mp (.va 5)) .nil))), .all⟩), (.va 6, some ⟨34, .f2 .cons (.f1 (.vi .i64) (.ci 0)) (.f2 .cons (.f1 .vs (.cs [])) (.f2 .cons (.f1 (.vi .i64) (.ci 0)) (.f2 .cons (.f1 .vb (.cb false)) .nil))), .all⟩), (.va 7, some ⟨34, .f2 .cons (.f1 (.vi .i64) (.ci 0)) (.f2 .cons (.f1 .vs (.cs [])) (.f2 .cons (.f1 (.vi .i64) (.va 3)) (.f2 .cons (.f1 .vb (.va 4)) .nil))), .all⟩)], []⟩, 8, []⟩ (KF TT Tryz.f31 []) = .ask (.call 48 (.f2 .cons (.f1 (.ptr 0) (.va 0)) .nil)) ⟨.va 1, [(.va 0, .some ⟨55, .f2 .cons (.f1 .vs (.va 2)) (.f2 .cons (.f1 (.vi .i64) (.va 3)) (.f2 .cons (.f1 .vb (.va 4)) (.f2 .cons (.f1 .mp (.va 5)) .nil))), .all⟩), (.va 6, .some ⟨34, .f2 .cons (.f1 (.vi .i64) (.ci 0)) (.f2 .cons (.f1 .vs (.cs [])) (.f2 .cons (.f1 (.vi .i64) (.ci 0)) (.f2 .cons (.f1 .vb (.cb .false)) .nil))), .all⟩), (.va 7, .some ⟨34, .f2 .cons (.f1 (.vi .i64) (.ci 0)) (.f2 .cons (.f1 .vs (.cs [])) (.f2 .cons (.f1 (.vi .i64) (.va 3)) (.f2 .cons (.f1 .vb (.va 4)) .nil))), .all⟩)], []⟩ [.s] (.f1 .vs (.va 8)) .false (.asks (.call 49 (.f2 .cons (.f1 .vs (.va 8)) .nil)) [.i] (.f1 (.vi .i64) (.va 9)) (.need (.f2 .ltI (.ci 0) (.f1 .lenS (.va 8))) (.ite (.f2 .gtI (.va 9) (.ci 0)) (.need (.f2 .leI (.ci 0) (.va 9)) (.need (.f2 .leI (.va 9) (.f1 .lenS (.va 8))) (.ask (.lookup 52 (.f1 .mp (.va 5)) (.f1 .vs (.f3 .sub (.va 8) (.ci 0) (.va 9))) .false) ⟨.va 1, [(.va 0, .some ⟨55, .f2 .cons (.f1 .vs (.va 2)) (.f2 .cons (.f1 (.vi .i64) (.va 3)) (.f2 .cons (.f1 .vb (.va 4)) (.f2 .cons (.f1 .mp (.va 5)) .nil))), .all⟩), (.va 6, .some ⟨34, .f2 .cons (.f1 (.vi .i64) (.ci 0)) (.f2 .cons (.f1 .vs (.cs [])) (.f2 .cons (.f1 (.vi .i64) (.ci 0)) (.f2 .cons (.f1 .vb (.cb .false)) .nil))), .all⟩), (.va 7, .some ⟨34, .f2 .cons (.f1 (.vi .i64) (.ci 1)) (.f2 .cons (.f1 .vs (.f3 .sub (.va 8) (.ci 0) (.va 9))) (.f2 .cons (.f1 (.vi .i64) (.va 3)) (.f2 .cons (.f1 .vb (.va 4)) .nil))), .all⟩)], []⟩ [.b] (.f1 .vb (.va 10)) .false (.ite (.va 10) (.fin (.f1 .agg (.f2 .cons (.f1 (.vi .i64) (.ci 2)) (.f2 .cons (.f1 .vs (.f3 .sub (.va 8) (.ci 0) (.va 9))) (.f2 .cons (.f1 (.vi .i64) (.va 3)) (.f2 .cons (.f1 .vb (.va 4)) .nil))))) ⟨.va 1, [(.va 0, .some ⟨55, .f2 .cons (.f1 .vs (.va 2)) (.f2 .cons (.f1 (.vi .i64) (.f1 (.wrap .i64) (.f2 .add (.va 3) (.va 9)))) (.f2 .cons (.f1 .vb (.va 4)) (.f2 .cons (.f1 .mp (.va 5)) .nil))), .all⟩), (.va 6, .some ⟨34, .f2 .cons (.f1 (.vi .i64) (.ci 2)) (.f2 .cons (.f1 .vs (.f3 .sub (.va 8) (.ci 0) (.va 9))) (.f2 .cons (.f1 (.vi .i64) (.va 3)) (.f2 .cons (.f1 .vb (.va 4)) .nil))), .all⟩), (.va 7, .some ⟨34, .f2 .cons (.f1 (.vi .i64) (.ci 2)) (.f2 .cons (.f1 .vs (.f3 .sub (.va 8) (.ci 0) (.va 9))) (.f2 .cons (.f1 (.vi .i64) (.va 3)) (.f2 .cons (.f1 .vb (.va 4)) .nil))), .all⟩)], []⟩) (.fin (.f1 .agg (.f2 .cons (.f1 (.vi .i64) (.ci 1)) (.f2 .cons (.f1 .vs (.f3 .sub (.va 8) (.ci 0) (.va 9))) (.f2 .cons (.f1 (.vi .i64) (.va 3)) (.f2 .cons (.f1 .vb (.va 4)) .nil))))) ⟨.va 1, [(.va 0, .some ⟨55, .f2 .cons (.f1 .vs (.va 2)) (.f2 .cons (.f1 (.vi .i64) (.f1 (.wrap .i64) (.f2 .add (.va 3) (.va 9)))) (.f2 .cons (.f1 .vb (.va 4)) (.f2 .cons (.f1 .mp (.va 5)) .nil))), .all⟩), (.va 6, .some ⟨34, .f2 .cons (.f1 (.vi .i64) (.ci 1)) (.f2 .cons (.f1 .vs (.f3 .sub (.va 8) (.ci 0) (.va 9))) (.f2 .cons (.f1 (.vi .i64) (.va 3)) (.f2 .cons (.f1 .vb (.va 4)) .nil))), .all⟩), (.va 7, .some ⟨34, .f2 .cons (.f1 (.vi .i64) (.ci 1)) (.f2 .cons (.f1 .vs (.f3 .sub (.va 8) (.ci 0) (.va 9))) (.f2 .cons (.f1 (.vi .i64) (.va 3)) (.f2 .cons (.f1 .vb (.va 4)) .nil))), .all⟩)], []⟩)) (.stuck 0)))) (.asks (.call 50 (.f2 .cons (.f1 (.vi .u8) (.f2 .at (.va 8) (.ci 0))) .nil)) [.b] (.f1 .vb (.va 10)) (.ite (.va 10) (.asks (.call 51 (.f2 .cons (.f1 .vs (.va 8)) (.f2 .cons (.f1 (.vi .i64) (.va 3)) .nil))) [.i, .s, .i] (.f1 .tup (.f2 .cons (.f1 (.vi .i64) (.va 11)) (.f2 .cons (.f1 .vs (.va 12)) (.f2 .cons (.f1 (.vi .i64) (.va 13)) .nil)))) (.fin (.f1 .agg (.f2 .cons (.f1 (.vi .i64) (.va 11)) (.f2 .cons (.f1 .vs (.va 12)) (.f2 .cons (.f1 (.vi .i64) (.va 3)) (.f2 .cons (.f1 .vb (.va 4)) .nil))))) ⟨.va 1, [(.va 0, .some ⟨55, .f2 .cons (.f1 .vs (.va 2)) (.f2 .cons (.f1 (.vi .i64) (.f1 (.wrap .i64) (.f2 .add (.va 3) (.va 13)))) (.f2 .cons (.f1 .vb (.va 4)) (.f2 .cons (.f1 .mp (.va 5)) .nil))), .all⟩), (.va 6, .some ⟨34, .f2 .cons (.f1 (.vi .i64) (.va 11)) (.f2 .cons (.f1 .vs (.va 12)) (.f2 .cons (.f1 (.vi .i64) (.va 3)) (.f2 .cons (.f1 .vb (.va 4)) .nil))), .all⟩), (.va 7, .some ⟨34, .f2 .cons (.f1 (.vi .i64) (.va 11)) (.f2 .cons (.f1 .vs (.va 12)) (.f2 .cons (.f1 (.vi .i64) (.va 3)) (.f2 .cons (.f1 .vb (.va 4)) .nil))), .all⟩)], []⟩) (.pnc (.va 11) ⟨.va 1, [(.va 0, .some ⟨55, .f2 .cons (.f1 .vs (.va 2)) (.f2 .cons (.f1 (.vi .i64) (.va 3)) (.f2 .cons (.f1 .vb (.va 4)) (.f2 .cons (.f1 .mp (.va 5)) .nil))), .all⟩), (.va 6, .some ⟨34, .f2 .cons (.f1 (.vi .i64) (.ci 0)) (.f2 .cons (.f1 .vs (.cs [])) (.f2 .cons (.f1 (.vi .i64) (.ci 0)) (.f2 .cons (.f1 .vb (.cb .false)) .nil))), .all⟩), (.va 7, .some ⟨34, .f2 .cons (.f1 (.vi .i64) (.ci 0)) (.f2 .cons (.f1 .vs (.cs [])) (.f2 .cons (.f1 (.vi .i64) (.va 3)) (.f2 .cons (.f1 .vb (.va 4)) .nil))), .all⟩)], []⟩)) (.ite (.f2 .eqI (.f2 .at (.va 8) (.ci 0)) (.ci 39)) (.asks (.call 52 (.f2 .cons (.f1 .vs (.va 8)) (.f2 .cons (.f1 (.vi .i64) (.va 3)) .nil))) [.s, .i] (.f1 .tup (.f2 .cons (.f1 .vs (.va 11)) (.f2 .cons (.f1 (.vi .i64) (.va 12)) .nil))) (.fin (.f1 .agg (.f2 .cons (.f1 (.vi .i64) (.ci 3)) (.f2 .cons (.f1 .vs (.va 11)) (.f2 .cons (.f1 (.vi .i64) (.va 3)) (.f2 .cons (.f1 .vb (.va 4)) .nil))))) ⟨.va 1, [(.va 0, .some ⟨55, .f2 .cons (.f1 .vs (.va 2)) (.f2 .cons (.f1 (.vi .i64) (.f1 (.wrap .i64) (.f2 .add (.va 3) (.va 12)))) (.f2 .cons (.f1 .vb (.va 4)) (.f2 .cons (.f1 .mp (.va 5)) .nil))), .all⟩), (.va 6, .some ⟨34, .f2 .cons (.f1 (.vi .i64) (.ci 3)) (.f2 .cons (.f1 .vs (.va 11)) (.f2 .cons (.f1 (.vi .i64) (.va 3)) (.f2 .cons (.f1 .vb (.va 4)) .nil))), .all⟩), (.va 7, .some ⟨34, .f2 .cons (.f1 (.vi .i64) (.ci 3)) (.f2 .cons (.f1 .vs (.va 11)) (.f2 .cons (.f1 (.vi .i64) (.va 3)) (.f2 .cons (.f1 .vb (.va 4)) .nil))), .all⟩)], []⟩) (.pnc (.va 11) ⟨.va 1, [(.va 0, .some ⟨55, .f2 .cons (.f1 .vs (.va 2)) (.f2 .cons (.f1 (.vi .i64) (.va 3)) (.f2 .cons (.f1 .vb (.va 4)) (.f2 .cons (.f1 .mp (.va 5)) .nil))), .all⟩), (.va 6, .some ⟨34, .f2 .cons (.f1 (.vi .i64) (.ci 0)) (.f2 .cons (.f1 .vs (.cs [])) (.f2 .cons (.f1 (.vi .i64) (.ci 0)) (.f2 .cons (.f1 .vb (.cb .false)) .nil))), .all⟩), (.va 7, .some ⟨34, .f2 .cons (.f1 (.vi .i64) (.ci 3)) (.f2 .cons (.f1 .vs (.cs [])) (.f2 .cons (.f1 (.vi .i64) (.va 3)) (.f2 .cons (.f1 .vb (.va 4)) .nil))), .all⟩)], []⟩)) (.ite (.f2 .eqI (.f2 .at (.va 8) (.ci 0)) (.ci 34)) (.asks (.call 53 (.f2 .cons (.f1 .vs (.va 8)) (.f2 .cons (.f1 (.vi .i64) (.va 3)) .nil))) [.s, .i] (.f1 .tup (.f2 .cons (.f1 .vs (.va 11)) (.f2 .cons (.f1 (.vi .i64) (.va 12)) .nil))) (.fin (.f1 .agg (.f2 .cons (.f1 (.vi .i64) (.ci 5)) (.f2 .cons (.f1 .vs (.va 11)) (.f2 .cons (.f1 (.vi .i64) (.va 3)) (.f2 .cons (.f1 .vb (.va 4)) .nil))))) ⟨.va 1, [(.va 0, .some ⟨55, .f2 .cons (.f1 .vs (.va 2)) (.f2 .cons (.f1 (.vi .i64) (.f1 (.wrap .i64) (.f2 .add (.va 3) (.va 12)))) (.f2 .cons (.f1 .vb (.va 4)) (.f2 .cons (.f1 .mp (.va 5)) .nil))), .all⟩), (.va 6, .some ⟨34, .f2 .cons (.f1 (.vi .i64) (.ci 5)) (.f2 .cons (.f1 .vs (.va 11)) (.f2 .cons (.f1 (.vi .i64) (.va 3)) (.f2 .cons (.f1 .vb (.va 4)) .nil))), .all⟩), (.va 7, .some ⟨34, .f2 .cons (.f1 (.vi .i64) (.ci 5)) (.f2 .cons (.f1 .vs (.va 11)) (.f2 .cons (.f1 (.vi .i64) (.va 3)) (.f2 .cons (.f1 .vb (.va 4)) .nil))), .all⟩)], []⟩) (.pnc (.va 11) ⟨.va 1, [(.va 0, .some ⟨55, .f2 .cons (.f1 .vs (.va 2)) (.f2 .cons (.f1 (.vi .i64) (.va 3)) (.f2 .cons (.f1 .vb (.va 4)) (.f2 .cons (.f1 .mp (.va 5)) .nil))), .all⟩), (.va 6, .some ⟨34, .f2 .cons (.f1 (.vi .i64) (.ci 0)) (.f2 .cons (.f1 .vs (.cs [])) (.f2 .cons (.f1 (.vi .i64) (.ci 0)) (.f2 .cons (.f1 .vb (.cb .false)) .nil))), .all⟩), (.va 7, .some ⟨34, .f2 .cons (.f1 (.vi .i64) (.ci 5)) (.f2 .cons (.f1 .vs (.cs [])) (.f2 .cons (.f1 (.vi .i64) (.va 3)) (.f2 .cons (.f1 .vb (.va 4)) .nil))), .all⟩)], []⟩)) (.asks (.call 54 (.f2 .cons (.f1 .vs (.va 8)) .nil)) [.s] (.f1 .vs (.va 11)) (.asks (.call 55 (.f2 .cons (.f1 .vb (.f2 .gtI (.f1 .lenS (.va 11)) (.ci 0))) (.f2 .cons (.f1 (.vi .i64) (.ci 30)) (.f2 .cons (.f1 (.vi .i64) (.va 3)) .nil)))) [] (.cv (.tup [])) (.fin (.f1 .agg (.f2 .cons (.f1 (.vi .i64) (.ci 6)) (.f2 .cons (.f1 .vs (.va 11)) (.f2 .cons (.f1 (.vi .i64) (.va 3)) (.f2 .cons (.f1 .vb (.va 4)) .nil))))) ⟨.va 1, [(.va 0, .some ⟨55, .f2 .cons (.f1 .vs (.va 2)) (.f2 .cons (.f1 (.vi .i64) (.f1 (.wrap .i64) (.f2 .add (.va 3) (.f1 .lenS (.va 11))))) (.f2 .cons (.f1 .vb (.va 4)) (.f2 .cons (.f1 .mp (.va 5)) .nil))), .all⟩), (.va 6, .some ⟨34, .f2 .cons (.f1 (.vi .i64) (.ci 6)) (.f2 .cons (.f1 .vs (.va 11)) (.f2 .cons (.f1 (.vi .i64) (.va 3)) (.f2 .cons (.f1 .vb (.va 4)) .nil))), .all⟩), (.va 7, .some ⟨34, .f2 .cons (.f1 (.vi .i64) (.ci 6)) (.f2 .cons (.f1 .vs (.va 11)) (.f2 .cons (.f1 (.vi .i64) (.va 3)) (.f2 .cons (.f1 .vb (.va 4)) .nil))), .all⟩)], []⟩) (.pnc (.va 12) ⟨.va 1, [(.va 0, .some ⟨55, .f2 .cons (.f1 .vs (.va 2)) (.f2 .cons (.f1 (.vi .i64) (.va 3)) (.f2 .cons (.f1 .vb (.va 4)) (.f2 .cons (.f1 .mp (.va 5)) .nil))), .all⟩), (.va 6, .some ⟨34, .f2 .cons (.f1 (.vi .i64) (.ci 0)) (.f2 .cons (.f1 .vs (.cs [])) (.f2 .cons (.f1 (.vi .i64) (.ci 0)) (.f2 .cons (.f1 .vb (.cb .false)) .nil))), .all⟩), (.va 7, .some ⟨34, .f2 .cons (.f1 (.vi .i64) (.ci 6)) (.f2 .cons (.f1 .vs (.va 11)) (.f2 .cons (.f1 (.vi .i64) (.va 3)) (.f2 .cons (.f1 .vb (.va 4)) .nil))), .all⟩)], []⟩)) (.stuck 0))))) (.stuck 0)))) (.stuck 0)) (.stuck 0) := by kernel_rfl
theorem reg_tok {call : CallF} (hC : call.Sound Tryz.prog TT) (t : Tm) (H : Heap) (q : Nat) (z : V) (s : List UInt8) (i : Nat) (l : Bool) (m : Nat) (hw : t.wid = 104) (t0 : t.get 0 = .ptr q 0) (t2 : t.get 2 = z) (hb : H[q]? = some (some (scB s i l m))) {Q : Out → Prop}
    (h : ∀ t', t'.wid = t.wid → t'.get 0 = .ptr q 0 → t'.get 2 = z → t'.get 3 = .ptr H.length 0 → Q (.norm t' (H ++ [some ⟨34, [.i .i64 0, .s [], .i .i64 i, .b l], .all⟩]))) : Tri Tryz.prog TT (sub [true, false] (bodyOf Tryz.f31)) t H Q := by
  have hq : q < H.length := Heap.lt hb
  have hF := ai @t0 (ai @t2 @hb)
  show Tri Tryz.prog TT (.region _ _ true) t H Q
  refine Tri.regN (t' := ?t1) (H' := ?H1) TT_ok hC ?e1 ?q1
  case e1 =>
    refine evReg_draw (t' := ?t1) (H' := ?H1) (ks := [.q, .q, .q, .a, .q, .q, .q, .a, .q, .e, .e]) (fun K => K[q]? = some (some (scB s i l m))) (by kernel_rfl) ?A1 ?_ ?r1
    case A1 => exact hb
    iterate 3 refine DR.blind rfl rfl (by simp [hF] <;> rfl) (by rfl) (by simp [hw]) ?_
    refine DR.any rfl (by simp [hF] <;> rfl) (by rfl) (by simp [hw]) (by intro K hK; simp [hF, hK] <;> rfl) ?_
    iterate 3 refine DR.blind rfl rfl (by simp [hF] <;> rfl) (by rfl) (by simp [hw]) ?_
    refine DR.any rfl (by simp [hF] <;> rfl) (by rfl) (by simp [hw]) (by intro K hK; simp [hF, hK] <;> rfl) ?_
    refine DR.blind rfl rfl (by simp [hF] <;> rfl) (by rfl) (by simp [hw]) ?_
    iterate 2 refine DR.eff rfl rfl (by simp [hF] <;> rfl) (by rfl) (by simp [hw]) ((List.getElem?_append_left hq).trans hb) ?_
    exact DR.nil
    case r1 => exact rfl
  refine h _ ?_ ?_ ?_ ?_
  all_goals simp [hF, hw]
def tokQ (kwf : List UInt8 → Bool) (nq : List UInt8 → Option (Int × List UInt8 × Nat)) (x : List UInt8) : Nat ⊕ (Int × List UInt8 × Nat) :=
  if 0 < idR x 0 then .inr (if kwf (x.take (idR x 0)) = true then 2 else 1, x.take (idR x 0), idR x 0)
  else if (decide (48 ≤ atS x 0) && decide (atS x 0 ≤ 57)) = true then (match nq x with | some r => .inr r | none => .inl 33)
  else if atS x 0 = 39 then (match chrQ x with | some p => .inr (3, p.1, p.2) | none => .inl 31)
  else if atS x 0 = 34 then (match txtQ x with | some p => .inr (5, p.1, p.2) | none => .inl 31)
  else if 0 < (sgF x sgnL []).length then .inr (6, sgF x sgnL [], (sgF x sgnL []).length) else .inl 30
def Kept (H H' : Heap) (q : Nat) : Prop := H.length ≤ H'.length ∧ ∀ j, j < H.length → j ≠ q → H'[j]? = H[j]?
def tokS (H : Heap) (q : Nat) (s : List UInt8) (i : Nat) (l : Bool) (m : Nat) (o : Nat ⊕ (Int × List UInt8 × Nat)) (r : OR) : Prop := match o with
  | .inr p => ∃ H', r = .val (.agg [.i .i64 p.1, .s p.2.1, .i .i64 i, .b l]) H' ∧ ScB H' q s (i + p.2.2) l m ∧ Kept H H' q
  | .inl e => ∃ H', r = .pan (fltV e i) H' ∧ Kept H H' q
set_option maxHeartbeats 1000000 in
theorem body_tok {call : CallF} (hC : call.Sound Tryz.prog TT) (hm : MustH call) (hrest : ∀ (n : Nat) (s : List UInt8) (i : Nat) (l : Bool) (m : Nat) (H : Heap), ScB H n s i l m → i ≤ s.length → call 48 [.ptr n 0] H = .val (.s (s.drop i)) H)
    (q : Nat) (s : List UInt8) (hword : ∀ x : List UInt8, x.length ≤ s.length → ∀ H, call 49 [.s x] H = .val (.i .i64 (idR x 0 : Nat)) H) (i : Nat) (l : Bool) (m : Nat) (H : Heap) (hb : ScB H q s i l m) (hi : i < s.length) (hs : s.length < 1100000) (kwf : List UInt8 → Bool) (nq : List UInt8 → Option (Int × List UInt8 × Nat)) (hm0 : m < H.length) (hmq : m ≠ q) (hlk : ∀ (y : List UInt8) (K : Heap), K[m]? = H[m]? → evLookup TT 52 (.mp m) (.s y) false K = some (.b (kwf y)))
    (hdig : ∀ c : Int, ∀ H, call 50 [.i .u8 c] H = .val (.b (decide (48 ≤ c) && decide (c ≤ 57))) H) (hsg : ∀ x : List UInt8, ∀ H, call 54 [.s x] H = .val (.s (sgF x sgnL [])) H)
    (hchr : ∀ (x : List UInt8) (a : Int), (0 < x.length ∧ x.length < 1100000) → ∀ H, call 52 [.s x, .i .i64 a] H = (escRes (chrQ x) a).at H) (htxt : ∀ (x : List UInt8) (a : Int), (0 < x.length ∧ x.length < 1100000) → ∀ H, call 53 [.s x, .i .i64 a] H = (escRes (txtQ x) a).at H)
    (hnum : (decide (48 ≤ atS (s.drop i) 0) && decide (atS (s.drop i) 0 ≤ 57)) = true → ∀ (a : Int) (H : Heap), call 51 [.s (s.drop i), .i .i64 a] H = (match nq (s.drop i) with | some r => .val (.tup [.i .i64 r.1, .s r.2.1, .i .i64 (r.2.2 : Nat)]) H | none => .pan (fltV 33 a) H)) (hnl : ∀ r, nq (s.drop i) = some r → r.2.2 ≤ s.length) (hcl : ∀ p, chrQ (s.drop i) = some p → p.2 ≤ s.length) (htl : ∀ p, txtQ (s.drop i) = some p → p.2 ≤ s.length) (hsl : (sgF (s.drop i) sgnL []).length ≤ 6) :
    XBody Tryz.prog TT 31 [.ptr q 0] H (tokS H q s i l m (tokQ kwf nq (s.drop i))) := by
  have hq : q < H.length := Heap.lt hb
  refine XBody.sym TT_ok hC (fn := Tryz.f31) rfl rfl (by simp [Tryz.f31]) tr_tok1 (by kernel_rfl) [.un q, .uh H, .us s, .ui (i : Nat), .ub l, .un m] rfl ⟨by rw [get_init]; rfl, trivial⟩ (Heap.set_self hb) ⟨by simp; exact hq, by simp⟩ ?_
  simp -implicitDefEqProofs only [VC, isR, exU, Ask.den, forall_eq, E.den, O1.den, O2.den, O3.den, U.int_ui, U.boo_ub, U.val_uv, U.lst_ul, U.str_us, U.nat_un, U.heap_uh, SH.den, setsD, newD, bD, SB.den, factsTo, LQ, List.cons_append, List.nil_append, List.getElem?_cons_zero, List.getElem?_cons_succ, Option.getD_some, ltB_true, ltB_false, leB_true, leB_false, beq_iff_eq, bne_iff_ne, beq_eq_false_iff_ne, Int.toNat_natCast, knownIn, Bool.false_eq_true, if_false, if_true]
  intro t hw t0 t2
  refine reg_tok hC t _ q _ s i l m hw t0 t2 (by rw [List.getElem?_append_left (by rw [List.length_set]; exact hq), List.getElem?_set_self hq]) fun t' hw' f0 f2 f3 => ?_
  show Tri Tryz.prog TT (sub [true, true] (bodyOf Tryz.f31)) t' _ (ctx Tryz.prog TT [true, true] (bodyOf Tryz.f31) _)
  have hb' : ScB (H.set q (some (scB s i l m)) ++ [some ⟨34, [.i .i64 0, .s [], .i .i64 0, .b false], .all⟩] ++ [some ⟨34, [.i .i64 0, .s [], .i .i64 i, .b l], .all⟩]) q s i l m := by
    unfold ScB
    rw [List.append_assoc, List.getElem?_append_left (by rw [List.length_set]; exact hq), List.getElem?_set_self hq]
  generalize hG : H.set q (some (scB s i l m)) ++ [some ⟨34, [.i .i64 0, .s [], .i .i64 0, .b false], .all⟩] ++ [some ⟨34, [.i .i64 0, .s [], .i .i64 i, .b l], .all⟩] = G at hb'
  have g1 : G[H.length]? = some (some ⟨34, [.i .i64 0, .s [], .i .i64 0, .b false], .all⟩) := by rw [← hG]; simp
  have g2 : G[H.length + 1]? = some (some ⟨34, [.i .i64 0, .s [], .i .i64 i, .b l], .all⟩) := by rw [← hG]; simp
  have hl : G.length = H.length + 2 := by rw [← hG]; simp
  have fin : ∀ (A B : Option Blk) (k : Nat), ScB (((G.set (H.length + 1) A).set H.length B).set q (some (scB s k l m))) q s k l m := fun A B k => by
    unfold ScB
    rw [List.getElem?_set_self (by simp [hl]; omega)]
  have kept : ∀ (A B C : Option Blk), Kept H (((G.set (H.length + 1) A).set H.length B).set q C) q := fun A B C => ⟨by simp [hl], fun j h1 h2 => by
    rw [List.getElem?_set_ne (fun e => h2 e.symm), List.getElem?_set_ne (by omega), List.getElem?_set_ne (by omega), ← hG, List.append_assoc, List.getElem?_append_left (by rw [List.length_set]; exact h1), List.getElem?_set_ne (fun e => h2 e.symm)]⟩
  have e0 : ((G.set (H.length + 1) (some ⟨34, [.i .i64 0, .s [], .i .i64 (i : Nat), .b l], .all⟩)).set H.length (some ⟨34, [.i .i64 0, .s [], .i .i64 0, .b false], .all⟩)).set q (some (scB s i l m)) = G := by
    rw [← Heap.set_self g2, ← Heap.set_self g1, ← Heap.set_self hb']
  refine Tri.symIn TT_ok hC tr_tok2 (by kernel_rfl) [.un q, .uh G, .us s, .ui (i : Nat), .ub l, .un m, .un H.length, .un (H.length + 1)] rfl (hw'.trans hw) ⟨f0, ?_, ?_, trivial⟩ ?_ ?_ ?_
  · rw [f2]; simp
  · rw [f3]; simp
  · show G = ((G.set (H.length + 1) _).set H.length _).set q _
    exact e0.symm
  · have hl : G.length = H.length + 2 := by rw [← hG]; simp
    exact ⟨by simp [hl]; omega, by simp; omega⟩
  · simp -implicitDefEqProofs only [VC, isR, exU, Ask.den, forall_eq, E.den, O1.den, O2.den, O3.den, U.int_ui, U.boo_ub, U.val_uv, U.lst_ul, U.str_us, U.nat_un, U.heap_uh, SH.den, setsD, newD, bD, SB.den, factsTo, LQ, List.cons_append, List.nil_append, List.getElem?_cons_zero, List.getElem?_cons_succ, Option.getD_some, ltB_true, ltB_false, leB_true, leB_false, beq_iff_eq, bne_iff_ne, beq_eq_false_iff_ne, Int.toNat_natCast, knownIn, Bool.false_eq_true, if_false, if_true, e0]
    refine .inl ⟨_, hrest q s i l m G hb' (by omega), .inl ⟨_, fun K => hword _ (by rw [List.length_drop]; omega) K, by rw [List.length_drop]; omega, fun h1 => ?_, fun h1 => ?_⟩⟩
    · have hil : idR (s.drop i) 0 ≤ (s.drop i).length := (idR_le (Nat.zero_le _)).2
      have hkm : ∀ A : Option Blk, (((G.set (H.length + 1) A).set H.length (some ⟨34, [.i .i64 0, .s [], .i .i64 0, .b false], .all⟩)).set q (some (scB s i l m)))[m]? = H[m]? := fun A => (kept A _ _).2 m hm0 hmq
      have ec : (((idR (s.drop i) 0 : Nat) : Int)).toNat = idR (s.drop i) 0 := Int.toNat_natCast _
      have w1 : IntKind.i64.wrap ((i : Int) + (idR (s.drop i) 0 : Nat)) = ((i + idR (s.drop i) 0 : Nat) : Int) := by rw [List.length_drop] at hil; rw [w64 (by omega) (by omega)]; omega
      have e1 : tokQ kwf nq (s.drop i) = .inr (if kwf ((s.drop i).take (idR (s.drop i) 0)) = true then 2 else 1, (s.drop i).take (idR (s.drop i) 0), idR (s.drop i) 0) := by unfold tokQ; rw [if_pos (by omega)]
      simp only [ec, w1, e1]
      refine ⟨by omega, by omega, .inl ⟨kwf ((s.drop i).take (idR (s.drop i) 0)), ?_, fun h2 => ?_, fun h2 => ?_⟩⟩
      · rw [hlk _ _ (hkm _)]; rfl
      · rw [h2]; exact ⟨_, rfl, fin _ _ _, kept _ _ _⟩
      · rw [h2]; exact ⟨_, rfl, fin _ _ _, kept _ _ _⟩
    · have n1 : ¬ 0 < idR (s.drop i) 0 := by omega
      have hxl : 0 < (s.drop i).length ∧ (s.drop i).length < 1100000 := by rw [List.length_drop]; omega
      have hKG : Kept H G q := ⟨by rw [hl]; omega, fun j h1 h2 => by
        rw [← hG, List.append_assoc, List.getElem?_append_left (by rw [List.length_set]; exact h1), List.getElem?_set_ne (fun e => h2 e.symm)]⟩
      have wk : ∀ k : Nat, k ≤ s.length + 6 → IntKind.i64.wrap ((i : Int) + (k : Nat)) = ((i + k : Nat) : Int) := fun k hk => by rw [w64 (by omega) (by omega)]; omega
      refine .inl ⟨_, fun K => hdig _ K, fun h2 => ?_, fun h2 => ⟨fun h3 => ?_, fun h3 => ⟨fun h4 => ?_, fun h4 => .inl ⟨_, fun K => hsg _ K, ?_⟩⟩⟩⟩
      · rcases hn : nq (s.drop i) with _ | r
        · have e1 : tokQ kwf nq (s.drop i) = .inl 33 := by unfold tokQ; rw [if_neg n1, if_pos h2, hn]
          rw [e1]
          exact .inr ⟨fltV 33 i, fun K => by rw [hnum h2 _ K, hn], _, rfl, hKG⟩
        · have e1 : tokQ kwf nq (s.drop i) = .inr r := by unfold tokQ; rw [if_neg n1, if_pos h2, hn]
          rw [e1]
          refine .inl ⟨r.1, r.2.1, (r.2.2 : Nat), fun K => by rw [hnum h2 _ K, hn], ?_⟩
          rw [wk _ (by have := hnl r hn; omega)]
          exact ⟨_, rfl, fin _ _ _, kept _ _ _⟩
      · have n2 : ¬ (decide (48 ≤ atS (s.drop i) 0) && decide (atS (s.drop i) 0 ≤ 57)) = true := by rw [h2]; exact Bool.false_ne_true
        rcases hn : chrQ (s.drop i) with _ | p
        · have e1 : tokQ kwf nq (s.drop i) = .inl 31 := by unfold tokQ; rw [if_neg n1, if_neg n2, if_pos h3, hn]
          rw [e1]
          exact .inr ⟨_, fun K => by rw [hchr _ _ hxl K, hn]; rfl, _, rfl, kept _ _ _⟩
        · have e1 : tokQ kwf nq (s.drop i) = .inr (3, p.1, p.2) := by unfold tokQ; rw [if_neg n1, if_neg n2, if_pos h3, hn]
          rw [e1]
          refine .inl ⟨p.1, (p.2 : Nat), fun K => by rw [hchr _ _ hxl K, hn]; rfl, ?_⟩
          rw [wk _ (by have := hcl p hn; omega)]
          exact ⟨_, rfl, fin _ _ _, kept _ _ _⟩
      · have n2 : ¬ (decide (48 ≤ atS (s.drop i) 0) && decide (atS (s.drop i) 0 ≤ 57)) = true := by rw [h2]; exact Bool.false_ne_true
        rcases hn : txtQ (s.drop i) with _ | p
        · have e1 : tokQ kwf nq (s.drop i) = .inl 31 := by unfold tokQ; rw [if_neg n1, if_neg n2, if_neg h3, if_pos h4, hn]
          rw [e1]
          exact .inr ⟨_, fun K => by rw [htxt _ _ hxl K, hn]; rfl, _, rfl, kept _ _ _⟩
        · have e1 : tokQ kwf nq (s.drop i) = .inr (5, p.1, p.2) := by unfold tokQ; rw [if_neg n1, if_neg n2, if_neg h3, if_pos h4, hn]
          rw [e1]
          refine .inl ⟨p.1, (p.2 : Nat), fun K => by rw [htxt _ _ hxl K, hn]; rfl, ?_⟩
          rw [wk _ (by have := htl p hn; omega)]
          exact ⟨_, rfl, fin _ _ _, kept _ _ _⟩
      · have n2 : ¬ (decide (48 ≤ atS (s.drop i) 0) && decide (atS (s.drop i) 0 ≤ 57)) = true := by rw [h2]; exact Bool.false_ne_true
        have e0 : tokQ kwf nq (s.drop i) = if 0 < (sgF (s.drop i) sgnL []).length then .inr (6, sgF (s.drop i) sgnL [], (sgF (s.drop i) sgnL []).length) else .inl 30 := by
          unfold tokQ; rw [if_neg n1, if_neg n2, if_neg h3, if_neg h4]
        generalize sgF (s.drop i) sgnL [] = g at e0 hsl ⊢
        rw [e0]
        refine must_ask hm _ _ _ (fun h5 => ?_) (fun h5 => ?_)
        · have h6 : 0 < g.length := by simpa using h5
          rw [if_pos h6, wk _ (by omega)]
          exact ⟨_, rfl, fin _ _ _, kept _ _ _⟩
        · have h6 : ¬ 0 < g.length := by intro e; simp [e] at h5
          rw [if_neg h6]
          exact ⟨_, rfl, kept _ _ _⟩
theorem chrQ_ok {x : List UInt8} {p : List UInt8 × Nat} (h : chrQ x = some p) : 0 < p.2 ∧ p.2 ≤ x.length := by
  unfold chrQ at h
  rcases hq : quoted x 39 with _ | q
  · rw [hq] at h; cases h
  · rw [hq] at h
    simp only at h
    obtain ⟨_, h2, h3⟩ := quoted_ok hq
    by_cases h1 : Lib.runeCount ⟨q.1.toArray⟩ = 1
    · rw [if_pos h1] at h
      have h := Option.some.inj h
      rw [← h]
      exact ⟨by simp only; omega, h3⟩
    · rw [if_neg h1] at h; cases h
theorem txtQ_ok {x : List UInt8} {p : List UInt8 × Nat} (h : txtQ x = some p) : 0 < p.2 ∧ p.2 ≤ x.length := by
  unfold txtQ at h
  by_cases h0 : preR x [34, 34, 34] = true
  · rw [if_pos h0] at h
    have hl := preR_len h0
    simp only [List.length_cons, List.length_nil] at hl
    by_cases h1 : 0 ≤ Lib.index (x.drop 3) [34, 34, 34] ∧ Lib.validD ((x.drop 3).take (Lib.index (x.drop 3) [34, 34, 34]).toNat) = true
    · rw [if_pos h1] at h
      have hr := Lib.index_room (x.drop 3) [34, 34, 34] h1.1
      rw [List.length_drop] at hr
      simp only [List.length_cons, List.length_nil] at hr
      have h := Option.some.inj h
      rw [← h]
      exact ⟨by simp only; omega, by simp only; omega⟩
    · rw [if_neg h1] at h; cases h
  · rw [if_neg h0] at h
    obtain ⟨_, h2, h3⟩ := quoted_ok h
    exact ⟨by omega, h3⟩
theorem sgF_mem (s : List UInt8) : ∀ (L : List (List UInt8)) (b : List UInt8), sgF s L b = b ∨ sgF s L b ∈ L
  | [], b => .inl rfl
  | x :: l, b => by
    simp only [sgF]
    rcases sgF_mem s l (if okP s b x = true then x else b) with h | h
    · rw [h]
      by_cases hx : okP s b x = true
      · rw [if_pos hx]; exact .inr (List.mem_cons_self ..)
      · rw [if_neg hx]; exact .inl rfl
    · exact .inr (List.mem_cons_of_mem _ h)
theorem sgnL_len : (sgnL.all fun x => decide (x.length ≤ 6)) = true := by kernel_rfl
theorem sgF_len (s : List UInt8) : (sgF s sgnL []).length ≤ 6 := by
  rcases sgF_mem s sgnL [] with h | h
  · rw [h]; simp
  · exact of_decide_eq_true (List.all_eq_true.1 sgnL_len _ h)
theorem kw_look {K : Heap} {m : Nat} (h : K[m]? = kwHeap[0]?) (s : List UInt8) : evLookup TT 52 (.mp m) (.s s) false K = some (.b (kw s)) := by
  have e : mapAt K m = mapAt kwHeap 0 := by unfold mapAt; rw [h]
  have h1 : mapAt K m = some ⟨52, (kwWords.map fun w => [V.s w, V.b true]).flatten, .map⟩ := e.trans rfl
  simp only [evLookup, tU, Tryz.underlying52, h1, tU, Tryz.underlying9, goodKey, if_true, mapGet_words, kw]
  cases kwWords.contains s <;> simp
theorem sp2023 : ∃ g, SpecOK Tryz.prog TT 23 g ∧ ∀ H, g [] H = .val (.isl 1 (encS sgnL)) H := spec_run TT_ok TT_plain 23 3000 3000 (.isl 1 (encS sgnL)) (by kernel_rfl)
def scH0 : Heap := [some { ty := 23, cells := [.nils], kind := .all }, some { ty := 3, cells := [.i .i64 0], kind := .all }, some { ty := 24, cells := [.i .i64 0], kind := .all }]
theorem keywords_sc : evFun TT (gamOf Con.none) 3000 29 [] scH0 = .val (.mp 3) (scH0 ++ kwHeap) := by kernel_rfl
def spKwS : List V → Heap → OR := fun vs H => match vs with
  | [] => if Heap.beq H scH0 = true then .val (.mp 3) (scH0 ++ kwHeap) else .no
  | _ => .no
theorem ok72s : SpecOK Tryz.prog TT 29 spKwS := by
  intro vs H r h hne
  unfold spKwS at h
  split at h
  · split at h
    · rename_i hb
      have := Heap.beq_eq _ _ hb
      subst this
      subst h
      exact evFun_ok TT_ok Con.none_sound 3000 29 [] scH0 _ keywords_sc hne
    · exact absurd h.symm hne
  · exact absurd h.symm hne
theorem clo_ret {call : CallF} (hC : call.Sound Tryz.prog TT) {t : Tm} {H : Heap} (hw : t.wid = 16) (h6 : t.get 6 = .nili) : Tri Tryz.prog TT (sub [true] (bodyOf Tryz.f28)) t H (fun o => ∃ tI v, (o = .norm tI H ∨ o = .ret tI H) ∧ finish TT Tryz.f28 tI.get H = .val v H) := by
 apply bK
 apply rS hC
 · refine oA ?_
   rfl
 refine cT (by simp [h6] <;> rfl) ?_
 apply rN hC
 · refine oA ?_
   rfl
 apply bN
 exact ⟨_, _, .inl rfl, rfl⟩
theorem closes_ret (vs : List V) (hv : vs.length = 3) (H : Heap) : Closes Tryz.prog TT 28 vs none H H := by
  refine closes_of (fn := Tryz.f28) (c := bodyOf Tryz.f28) TT_ok rfl rfl (by rw [hv]; simp [Tryz.f28]) ?_
  refine TriS.seq ?_
  refine TriS.reg TT_ok n0 0 rfl rfl rfl rfl rfl rfl ?_
  exact clo_ret n0 rfl ((get_put _ 6 6 .nili).trans (if_pos rfl))

def cloH (H : Heap) (e k : Int) : Heap := (((H ++ [some (⟨50, [.i .i64 e, .i .i64 k], .all⟩ : Blk)]).set 0 (some ⟨23, [.nils], .all⟩)).set 1 (some ⟨3, [.i .i64 k], .all⟩)).set 2 (some ⟨24, [.i .i64 e], .all⟩)
theorem clo_pan {call : CallF} (hC : call.Sound Tryz.prog TT) {t : Tm} {H : Heap} {v : V} {x y e k : Int} (hw : t.wid = 16) (h6 : t.get 6 = fltV e k) (h0 : t.get 0 = .ptr 0 0) (h1 : t.get 1 = .ptr 1 0) (h2 : t.get 2 = .ptr 2 0)
    (g0 : H[0]? = some (some ⟨23, [v], .all⟩)) (g1 : H[1]? = some (some ⟨3, [.i .i64 x], .all⟩)) (g2 : H[2]? = some (some ⟨24, [.i .i64 y], .all⟩)) :
    Tri Tryz.prog TT (sub [true] (bodyOf Tryz.f28)) t H (fun o => ∃ tI v, (o = .norm tI (cloH H e k) ∨ o = .ret tI (cloH H e k)) ∧ finish TT Tryz.f28 tI.get (cloH H e k) = .val v (cloH H e k)) := by
 have l2 : 2 < H.length := Heap.lt g2
 obtain ⟨K, hK⟩ : ∃ K, H = some ⟨23, [v], .all⟩ :: some ⟨3, [.i .i64 x], .all⟩ :: some ⟨24, [.i .i64 y], .all⟩ :: K := by
  match H, g0, g1, g2 with
  | a :: b :: c :: K, g0, g1, g2 =>
    simp at g0 g1 g2
    subst g0 g1 g2
    exact ⟨K, rfl⟩
 subst hK
 clear g0 g1 g2 l2
 apply bK
 apply rS hC
 · refine gO (by simp [h6, fltV] <;> rfl) ?_
   rfl
 refine Tri.condG (o := ?o2) (b := ?b2) ?g2 ?r2 ?y2 ?n2
 case g2 => simp [h6, fltV] <;> rfl
 case r2 => rfl
 case y2 => intro h; simp at h
 case n2 =>
  intro _
  apply sQ
  refine Tri.regN (t' := ?t3) (H' := ?H3) TT_ok hC ?e3 ?q3
  case e3 =>
   refine go_false ?_
   iterate 3 refine evSeq_go rfl (by simp [h6, fltV] <;> rfl) (by rfl) (by simp [hw]) ?_
   exact evSeq_nil
  apply sN
  refine Tri.condG (o := ?o4) (b := ?b4) ?g4 ?r4 ?y4 ?n4
  case g4 => simp <;> rfl
  case r4 => rfl
  case n4 => intro h; simp at h
  case y4 =>
   intro _
   apply sQ
   refine Tri.regN (t' := ?t5) (H' := ?H5) TT_ok hC ?e5 ?q5
   case e5 =>
    refine go_false ?_
    iterate 2 refine evSeq_go rfl (by simp <;> rfl) (by rfl) (by simp [hw]) ?_
    exact evSeq_nil
   apply sN
   refine Tri.regN (t' := ?t6) (H' := ?H6) TT_ok hC ?e6 ?q6
   case e6 =>
    refine evReg_draw (t' := ?t6) (H' := ?H6) (ks := [.q, .a, .q, .a, .e, .e, .e]) (fun J => J[K.length + 3]? = some (some ⟨50, [.i .i64 e, .i .i64 k], .all⟩)) (by kernel_rfl) ?A6 ?_ ?r6
    case A6 => simp
    refine DR.blind rfl rfl (by simp [h0, h1, h2] <;> rfl) (by rfl) (by simp [hw]) ?_
    refine DR.any rfl (by simp [h0, h1, h2] <;> rfl) (by rfl) (by simp [hw]) (by intro J hJ; simp [hJ] <;> rfl) ?_
    refine DR.blind rfl rfl (by simp [h0, h1, h2] <;> rfl) (by rfl) (by simp [hw]) ?_
    refine DR.any rfl (by simp [h0, h1, h2] <;> rfl) (by rfl) (by simp [hw]) (by intro J hJ; simp [hJ] <;> rfl) ?_
    iterate 3 refine DR.eff rfl rfl (by simp [h0, h1, h2] <;> rfl) (by rfl) (by simp [hw]) (by simp) ?_
    exact DR.nil
    case r6 => exact rfl
   apply bN
   exact ⟨_, _, .inl rfl, rfl⟩
theorem closes_pan {H : Heap} {v : V} {x y : Int} (e k : Int) (g0 : H[0]? = some (some ⟨23, [v], .all⟩)) (g1 : H[1]? = some (some ⟨3, [.i .i64 x], .all⟩)) (g2 : H[2]? = some (some ⟨24, [.i .i64 y], .all⟩)) : Closes Tryz.prog TT 28 [.ptr 0 0, .ptr 1 0, .ptr 2 0] (some (fltV e k)) H (cloH H e k) := by
  refine closes_of (fn := Tryz.f28) (c := bodyOf Tryz.f28) TT_ok rfl rfl (by simp [Tryz.f28]) ?_
  refine TriS.seq ?_
  refine TriS.reg TT_ok n0 0 rfl rfl rfl rfl rfl rfl ?_
  exact clo_pan n0 rfl ((get_put _ 6 6 _).trans (if_pos rfl)) rfl rfl rfl g0 g1 g2
theorem pfxQ_ok {x : List UInt8} {base : Nat} {r : Int × List UInt8 × Nat} (hl : 2 ≤ x.length) (h : pfxQ x base = some r) : 0 < r.2.2 ∧ r.2.2 ≤ x.length := by
  unfold pfxQ at h
  split at h
  · cases h
  · rename_i n hn
    have := runF_le base _ _ _ hn
    rw [List.length_drop] at this
    split at h
    · split at h
      · cases h
      · split at h
        · have h := Option.some.inj h
          rw [← h]
          exact ⟨by simp only; omega, by simp only; omega⟩
        · cases h
    · cases h
theorem tailQ_ok {x : List UInt8} {m : Nat} {r : Bool} {p : Nat × Bool} (hm : m ≤ x.length) (h : tailQ x m r = some p) : m ≤ p.1 ∧ p.1 ≤ x.length := by
  unfold tailQ at h
  split at h
  · cases h
  · rename_i k hk
    have := expF_le _ _ hk
    rw [List.length_drop] at this
    split at h
    · split at h
      · have h := Option.some.inj h; rw [← h]; exact ⟨by simp only; omega, by simp only; omega⟩
      · cases h
    · split at h
      · have h := Option.some.inj h; rw [← h]; exact ⟨Nat.le_refl _, hm⟩
      · cases h
theorem decF_ok {x : List UInt8} {p : Nat × Bool} (h : decF x = some p) : p.1 ≤ x.length ∧ ∀ n, runF 10 x 0 = some n → n ≤ p.1 := by
  unfold decF at h
  split at h
  · cases h
  · rename_i n hn
    have hnl := runF_le 10 _ _ _ hn
    split at h
    · split at h
      · cases h
      · rename_i k hk
        have hkl := runF_le 10 _ _ _ hk
        rw [List.length_drop] at hkl
        obtain ⟨h1, h2⟩ := tailQ_ok (by omega) h
        exact ⟨h2, fun n' hn' => by rw [hn] at hn'; cases hn'; omega⟩
    · obtain ⟨h1, h2⟩ := tailQ_ok (by omega) h
      exact ⟨h2, fun n' hn' => by rw [hn] at hn'; cases hn'; omega⟩
theorem runF_ge (base : Int) : ∀ (L : List UInt8) (n m : Nat), runF base L n = some m → n ≤ m
  | [], n, m, h => by simp [runF] at h; omega
  | c :: r, n, m, h => by
    simp only [runF] at h
    split at h
    · have := runF_ge base r (n + 1) m h; omega
    · split at h
      · have := Option.some.inj h; omega
      · split at h
        · split at h
          · have := runF_ge base _ (n + 1) m h; omega
          · cases h
        · cases h
theorem runF_dig {x : List UInt8} {m : Nat} (hd : (decide (48 ≤ atS x 0) && decide (atS x 0 ≤ 57)) = true) (h : runF 10 x 0 = some m) : 0 < m := by
  cases x with
  | nil => simp [atS] at hd
  | cons c r =>
    simp only [Bool.and_eq_true, decide_eq_true_eq] at hd
    have e : atS (c :: r) 0 = c.toNat := by simp [atS]
    rw [e] at hd
    simp only [runF] at h
    rw [if_pos (by unfold valN digN; rw [if_pos hd, if_neg (by omega)]; omega)] at h
    have := runF_ge 10 r 1 m h
    omega
theorem numQ_ok {x : List UInt8} {r : Int × List UInt8 × Nat} (h : numQ x = some r) : r.2.2 ≤ x.length ∧ ((decide (48 ≤ atS x 0) && decide (atS x 0 ≤ 57)) = true → 0 < r.2.2) := by
  rw [numQ_eq] at h
  split at h
  · rename_i hp
    have := preR_len hp
    simp only [List.length_cons, List.length_nil] at this
    exact ⟨(pfxQ_ok (by omega) h).2, fun _ => (pfxQ_ok (by omega) h).1⟩
  · split at h
    · rename_i hp
      have := preR_len hp
      simp only [List.length_cons, List.length_nil] at this
      exact ⟨(pfxQ_ok (by omega) h).2, fun _ => (pfxQ_ok (by omega) h).1⟩
    · cases hd : decF x with
      | none => rw [hd] at h; cases h
      | some p =>
        obtain ⟨k1, k2⟩ := decF_ok hd
        have k3 : (decide (48 ≤ atS x 0) && decide (atS x 0 ≤ 57)) = true → 0 < p.1 := fun hg => by
          cases hr : runF 10 x 0 with
          | none => simp [decF, hr] at hd
          | some n => have := k2 n hr; have := runF_dig hg hr; omega
        obtain ⟨m, b⟩ := p
        rw [hd] at h
        cases b with
        | true => simp only [decO] at h; have h := Option.some.inj h; rw [← h]; exact ⟨k1, k3⟩
        | false =>
          simp only [decO] at h
          split at h
          · cases h
          · have h := Option.some.inj h; rw [← h]; exact ⟨k1, k3⟩
theorem sgF_le (x : List UInt8) : ∀ (L : List (List UInt8)) (b : List UInt8), b.length ≤ x.length → (sgF x L b).length ≤ x.length
  | [], b, h => h
  | y :: L, b, h => by
    simp only [sgF]
    refine sgF_le x L _ ?_
    split
    · rename_i hy
      unfold okP at hy
      simp only [Bool.and_eq_true] at hy
      exact preR_len hy.2.1
    · exact h
theorem skF_ok (s : List UInt8) : ∀ (n i : Nat) (l : Bool) (j : Nat) (l' : Bool), i ≤ s.length → skF s n i l = .inr (j, l') → i ≤ j ∧ j ≤ s.length
  | 0, i, l, j, l', hi, h => by simp [skF] at h; omega
  | n + 1, i, l, j, l', hi, h => by
    simp only [skF] at h
    split at h
    · split at h
      · have := skF_ok s n (i + 1) _ j l' (by omega) h; omega
      · split at h
        · simp at h; omega
        · cases h
        · rename_i p hp
          obtain ⟨q1, q2⟩ := comQ_ok hi hp
          have := skF_ok s n p.1 p.2 j l' q2 h; omega
    · simp at h; omega
theorem skQ_ok {s : List UInt8} {i j : Nat} {l l' : Bool} (hi : i ≤ s.length) (h : skQ s i l = .inr (j, l')) : i ≤ j ∧ j ≤ s.length := skF_ok s _ i l j l' hi h
theorem tokQ_ok {x : List UInt8} {p : Int × List UInt8 × Nat} (h : tokQ kw numQ x = .inr p) : 0 < p.2.2 ∧ p.2.2 ≤ x.length := by
  have hle := sgF_le x sgnL [] (by simp)
  unfold tokQ at h
  generalize sgF x sgnL [] = g at h hle
  split at h
  · rename_i h0
    cases h
    exact ⟨h0, (idR_le (Nat.zero_le _)).2⟩
  · split at h
    · rename_i hd
      cases hn : numQ x with
      | none => rw [hn] at h; cases h
      | some r =>
        rw [hn] at h
        cases h
        obtain ⟨k1, k2⟩ := numQ_ok hn
        exact ⟨k2 hd, k1⟩
    · split at h
      · cases hc : chrQ x with
        | none => rw [hc] at h; cases h
        | some r => rw [hc] at h; cases h; exact chrQ_ok hc
      · split at h
        · cases hc : txtQ x with
          | none => rw [hc] at h; cases h
          | some r => rw [hc] at h; cases h; exact txtQ_ok hc
        · split at h
          · rename_i hs
            cases h
            exact ⟨hs, hle⟩
          · cases h
def TokD (D : List UInt8 → Prop) (x : List UInt8) : Prop := (decide (48 ≤ atS x 0) && decide (atS x 0 ≤ 57)) = true → D x
theorem sp2031_of (D : List UInt8 → Prop) (hf : ∀ s at_, D s → s.length < 1100000 → FltH s at_) : ∃ g, SpecOK Tryz.prog TT 31 g ∧ ∀ (q : Nat) (s : List UInt8) (i : Nat) (l : Bool) (m : Nat) (H : Heap), ScB H q s i l m → i < s.length → s.length < 1090000 → H[m]? = kwHeap[0]? → m ≠ q → TokD D (s.drop i) →
    tokS H q s i l m (tokQ kw numQ (s.drop i)) (g [.ptr q 0] H) := by
  obtain ⟨g1, k1, s1⟩ := sp2055
  obtain ⟨g2, k2, s2⟩ := sp2048
  obtain ⟨g3, k3, s3⟩ := sp71p
  obtain ⟨g4, k4, s4⟩ := sp99p
  obtain ⟨g5, k5, s5⟩ := sp2054
  obtain ⟨g6, k6, s6⟩ := sp2052
  obtain ⟨g7, k7, s7⟩ := sp2053
  obtain ⟨g8, k8, s8⟩ := sp2051_of D hf
  have hC := ws (ws (ws (ws (ws (ws (ws (ws n0 k1) k2) k3) k4) k5) k6) k7) k8
  have hm : MustH ((((((((CallF.none.with 55 g1).with 48 g2).with 49 g3).with 50 g4).with 54 g5).with 52 g6).with 53 g7).with 51 g8) := fun b e k H => by
    rw [w_other _ _ _ _ rfl, w_other _ _ _ _ rfl, w_other _ _ _ _ rfl, w_other _ _ _ _ rfl, w_other _ _ _ _ rfl, w_other _ _ _ _ rfl, w_other _ _ _ _ rfl, w_here]; exact s1 b e k H
  have c2 : ∀ (n : Nat) (s : List UInt8) (i : Nat) (l : Bool) (m : Nat) (H : Heap), ScB H n s i l m → i ≤ s.length → ((((((((CallF.none.with 55 g1).with 48 g2).with 49 g3).with 50 g4).with 54 g5).with 52 g6).with 53 g7).with 51 g8) 48 [.ptr n 0] H = .val (.s (s.drop i)) H := fun n s i l m H h1 h2 => by
    rw [w_other _ _ _ _ rfl, w_other _ _ _ _ rfl, w_other _ _ _ _ rfl, w_other _ _ _ _ rfl, w_other _ _ _ _ rfl, w_other _ _ _ _ rfl, w_here]; exact s2 n s i l m H h1 h2
  have c3 : ∀ x : List UInt8, x.length < 1090000 → ∀ H, ((((((((CallF.none.with 55 g1).with 48 g2).with 49 g3).with 50 g4).with 54 g5).with 52 g6).with 53 g7).with 51 g8) 49 [.s x] H = .val (.i .i64 (idR x 0 : Nat)) H := fun x hx H => by
    rw [w_other _ _ _ _ rfl, w_other _ _ _ _ rfl, w_other _ _ _ _ rfl, w_other _ _ _ _ rfl, w_other _ _ _ _ rfl, w_here]; exact s3 x hx H
  have c4 : ∀ c : Int, ∀ H, ((((((((CallF.none.with 55 g1).with 48 g2).with 49 g3).with 50 g4).with 54 g5).with 52 g6).with 53 g7).with 51 g8) 50 [.i .u8 c] H = .val (.b (decide (48 ≤ c) && decide (c ≤ 57))) H := fun c H => by
    rw [w_other _ _ _ _ rfl, w_other _ _ _ _ rfl, w_other _ _ _ _ rfl, w_other _ _ _ _ rfl, w_here]; exact s4 c trivial H
  have c5 : ∀ x : List UInt8, ∀ H, ((((((((CallF.none.with 55 g1).with 48 g2).with 49 g3).with 50 g4).with 54 g5).with 52 g6).with 53 g7).with 51 g8) 54 [.s x] H = .val (.s (sgF x sgnL [])) H := fun x H => by
    rw [w_other _ _ _ _ rfl, w_other _ _ _ _ rfl, w_other _ _ _ _ rfl, w_here]; exact s5 x trivial H
  have c6 : ∀ (x : List UInt8) (a : Int), (0 < x.length ∧ x.length < 1100000) → ∀ H, ((((((((CallF.none.with 55 g1).with 48 g2).with 49 g3).with 50 g4).with 54 g5).with 52 g6).with 53 g7).with 51 g8) 52 [.s x, .i .i64 a] H = (escRes (chrQ x) a).at H := fun x a hx H => by
    rw [w_other _ _ _ _ rfl, w_other _ _ _ _ rfl, w_here]; exact s6 (x, a) hx H
  have c7 : ∀ (x : List UInt8) (a : Int), (0 < x.length ∧ x.length < 1100000) → ∀ H, ((((((((CallF.none.with 55 g1).with 48 g2).with 49 g3).with 50 g4).with 54 g5).with 52 g6).with 53 g7).with 51 g8) 53 [.s x, .i .i64 a] H = (escRes (txtQ x) a).at H := fun x a hx H => by
    rw [w_other _ _ _ _ rfl, w_here]; exact s7 (x, a) hx H
  have c8 : ∀ (x : List UInt8) (a : Int), D x → x.length < 1100000 → ∀ H, ((((((((CallF.none.with 55 g1).with 48 g2).with 49 g3).with 50 g4).with 54 g5).with 52 g6).with 53 g7).with 51 g8) 51 [.s x, .i .i64 a] H = (numV (numQ x) a).at H := fun x a hd hx H => by
    rw [w_here]; exact s8 x a hd hx H
  generalize (((((((CallF.none.with 55 g1).with 48 g2).with 49 g3).with 50 g4).with 54 g5).with 52 g6).with 53 g7).with 51 g8 = call at hC hm c2 c3 c4 c5 c6 c7 c8
  obtain ⟨g, k, h⟩ := spec_hp TT_ok 31 (fun p : Nat × List UInt8 × Nat × Bool × Nat => [.ptr p.1 0]) (fun p H => ScB H p.1 p.2.1 p.2.2.1 p.2.2.2.1 p.2.2.2.2 ∧ p.2.2.1 < p.2.1.length ∧ p.2.1.length < 1090000 ∧ H[p.2.2.2.2]? = kwHeap[0]? ∧ p.2.2.2.2 ≠ p.1 ∧ TokD D (p.2.1.drop p.2.2.1))
    (fun p H r => tokS H p.1 p.2.1 p.2.2.1 p.2.2.2.1 p.2.2.2.2 (tokQ kw numQ (p.2.1.drop p.2.2.1)) r) (by
    rintro ⟨n, s, i, l, m⟩ ⟨n', s', i', l', m'⟩ H r ⟨h1, _⟩ ⟨h2, _⟩ he hr
    simp only [List.cons.injEq, V.ptr.injEq, and_true] at he
    subst he
    obtain ⟨rfl, rfl, rfl, rfl⟩ := h1.inj h2
    exact hr) (by
    rintro ⟨q, s, i, l, m⟩ H ⟨hb, hi, hs, hkm, hmq, hd⟩
    simp only at hb hi hs hkm hmq hd ⊢
    have hm0 : m < H.length := by
      have : kwHeap[0]? ≠ none := by decide
      rw [← hkm] at this
      exact Nat.lt_of_not_le fun h => this (List.getElem?_eq_none h)
    have hlen : (s.drop i).length ≤ s.length := by rw [List.length_drop]; omega
    refine body_tok hC hm c2 q s (fun x hx H => c3 x (by omega) H) i l m H hb hi (by omega) kw numQ hm0 hmq (fun y K hK => kw_look (hK.trans hkm) y) c4 c5 c6 c7 (fun hg a K => ?_) (fun r hr => ?_) (fun p hp => ?_) (fun p hp => ?_) (sgF_len _)
    · rw [c8 _ a (hd hg) (by omega) K]
      cases numQ (s.drop i) <;> rfl
    · have := (numQ_ok hr).1; omega
    · have := (chrQ_ok hp).2; omega
    · have := (txtQ_ok hp).2; omega)
  exact ⟨g, k, fun q s i l m H h1 h2 h3 h4 h5 h6 => h (q, s, i, l, m) H ⟨h1, h2, h3, h4, h5, h6⟩⟩
def scnF (s : List UInt8) : Nat → Nat → Bool → List Tk → List Tk ⊕ (Nat × Nat)
  | 0, _, _, acc => .inl acc
  | n + 1, i, l, acc => match skQ s i l with
    | .inl a => .inr (a, 32)
    | .inr (j, l') => if j = s.length then .inl acc else match tokQ kw numQ (s.drop j) with
      | .inl e => .inr (j, e)
      | .inr (k, t, m) => scnF s n (j + m) false (acc ++ [(k, t, (j : Int), l')])
def scnD (D : List UInt8 → Prop) (s : List UInt8) : Nat → Nat → Bool → Prop
  | 0, _, _ => True
  | n + 1, i, l => match skQ s i l with
    | .inl a => True
    | .inr (j, l') => j = s.length ∨ (TokD D (s.drop j) ∧ match tokQ kw numQ (s.drop j) with
      | .inl e => True
      | .inr (k, t, m) => scnD D s n (j + m) false)
def OutP (H : Heap) (q m : Nat) (v : V) (l : List Tk) : Prop := (v = .nils ∧ l = []) ∨ ∃ n, v = .sl n 4 0 l.length none ∧ H[n]? = some (some { ty := 34, cells := tkC l, kind := .more }) ∧ 3 ≤ n ∧ n ≠ q ∧ n ≠ m
theorem bsTokP (v : Tk) (H : Heap) : evBuildSlice TT 23 1 [(0, .agg (tkL v))] H = .val (.sl H.length 4 0 1 (some 1)) (H ++ [some { ty := 34, cells := tkL v, kind := .all }]) := by
  have e1 : TT.und 23 = some (.slice 34) := rfl
  have e2 : TT.size 34 = some 4 := rfl
  have e3 : TT.zero 34 = some (.agg [.i .i64 0, .s [], .i .i64 0, .b false]) := rfl
  simp only [evBuildSlice, e1, e2, e3]
  simp [reps, fillV, splice, newB_eq, V.cells, tkL]
theorem appTokP {H : Heap} {q m : Nat} {v : V} {l : List Tk} (h : OutP H q m v l) (hl : l.length < 100000000) (x : Tk) {b : Nat} (hb : H[b]? = some (some { ty := 34, cells := tkL x, kind := .all })) (hq : q < H.length) (hm : m < H.length) (h3 : 3 ≤ H.length) :
    ∃ v2 H2, evAppend TT 23 v (.sl b 4 0 1 (some 1)) H = .val v2 H2 ∧ OutP H2 q m v2 (l ++ [x]) ∧ H.length ≤ H2.length ∧ (∀ j, (j < 3 ∨ j = q ∨ j = m) → H2[j]? = H[j]?) := by
  have e1 : TT.und 23 = some (.slice 34) := rfl
  have e2 : TT.size 34 = some 4 := rfl
  have e3 : TT.zero 34 = some (.agg [.i .i64 0, .s [], .i .i64 0, .b false]) := rfl
  have e4 : TT.bytes 34 = some 40 := rfl
  have c1 : cellsAt H b = some { ty := 34, cells := tkL x, kind := .all } := by simp [cellsAt, hb]
  have c3 : cut (tkL x) (0 * 4) (1 * 4) = some (tkL x) := by simp [cut, tkL]
  have f1 : (tkL x).all flat = true := by simp [tkL, flat]
  have f2 : (V.agg [.i .i64 0, .s [], .i .i64 0, .b false]).cells.length = 4 := rfl
  have keep : ∀ (n : Nat) (K : Heap), 3 ≤ n → n ≠ q → n ≠ m → ∀ j, (j < 3 ∨ j = q ∨ j = m) → (H.set n none ++ K)[j]? = H[j]? := by
    intro n K h1 h2 h3' j hj
    have hjl : j < H.length := by rcases hj with hj | rfl | rfl <;> omega
    rw [List.getElem?_append_left (by rw [List.length_set]; exact hjl), List.getElem?_set_ne (by rcases hj with hj | rfl | rfl <;> omega)]
  rcases h with ⟨rfl, rfl⟩ | ⟨n, rfl, hn, hn3, hnq, hnm⟩
  · simp only [evAppend, e1, e2, e3, e4, appended, c1, c3, Option.map_some, if_true]
    rw [if_pos ⟨by decide, f2, by decide, f1⟩]
    simp only [newB_eq]
    rw [if_neg (by decide), if_pos ⟨by omega, by omega⟩]
    refine ⟨_, _, rfl, .inr ⟨H.length, rfl, by simp [tkC], h3, by omega, by omega⟩, by simp, fun j hj => ?_⟩
    rw [List.getElem?_append_left (by rcases hj with hj | rfl | rfl <;> omega)]
  · have c2 : cellsAt H n = some { ty := 34, cells := tkC l, kind := .more } := by simp [cellsAt, hn]
    have c4 : cut (tkC l) (0 * 4) (l.length * 4) = some (tkC l) := by simp [cut, ← tkC_length]
    have hlen := tkC_length l
    simp only [evAppend, e1, e2, e3, e4, appended, c1, c2, c3, c4, Option.map_some, if_true]
    rw [if_pos ⟨by decide, f2, by decide, f1⟩, if_pos ⟨trivial, by omega, by omega⟩]
    simp only [newB_eq, setK_eq]
    rw [if_neg (by decide), if_pos ⟨trivial, by omega, trivial⟩]
    refine ⟨_, _, rfl, .inr ⟨H.length, by simp, ?_, h3, by omega, by omega⟩, by simp, keep n _ hn3 hnq hnm⟩
    rw [tkC_snoc]
    simp
structure SI (H : Heap) (q m : Nat) (s : List UInt8) (i : Nat) (l : Bool) (v : V) (acc : List Tk) : Prop where
  c0 : H[0]? = some (some ⟨23, [v], .all⟩)
  c1 : H[1]? = some (some ⟨3, [.i .i64 0], .all⟩)
  c2 : H[2]? = some (some ⟨24, [.i .i64 0], .all⟩)
  sc : ScB H q s i l m
  kw : H[m]? = kwHeap[0]?
  out : OutP H q m v acc
  q3 : 3 ≤ q
  m3 : 3 ≤ m
  ne : m ≠ q
theorem SI.lt {H : Heap} {q m : Nat} {s : List UInt8} {i : Nat} {l : Bool} {v : V} {acc : List Tk} (h : SI H q m s i l v acc) : q < H.length ∧ m < H.length := by
  refine ⟨Heap.lt h.sc, ?_⟩
  have : kwHeap[0]? ≠ none := by decide
  rw [← h.kw] at this
  exact Nat.lt_of_not_le fun h => this (List.getElem?_eq_none h)
theorem SI.keep {H H' : Heap} {q m : Nat} {s : List UInt8} {i i' : Nat} {l l' : Bool} {v : V} {acc : List Tk} (h : SI H q m s i l v acc) (hs : ScB H' q s i' l' m) (hk : ∀ j, j < H.length → j ≠ q → H'[j]? = H[j]?) : SI H' q m s i' l' v acc := by
  obtain ⟨hq, hm⟩ := h.lt
  have q3 := h.q3
  have m3 := h.m3
  refine ⟨by rw [hk 0 (by omega) (by omega)]; exact h.c0, by rw [hk 1 (by omega) (by omega)]; exact h.c1, by rw [hk 2 (by omega) (by omega)]; exact h.c2, hs, by rw [hk m hm h.ne]; exact h.kw, ?_, q3, m3, h.ne⟩
  rcases h.out with h | ⟨n, h1, h2, h3, h4, h5⟩
  · exact .inl h
  · exact .inr ⟨n, h1, by rw [hk n (Heap.lt h2) h4]; exact h2, h3, h4, h5⟩
theorem SI.set {H : Heap} {q m : Nat} {s : List UInt8} {i i' : Nat} {l l' : Bool} {v : V} {acc : List Tk} (h : SI H q m s i l v acc) : SI (H.set q (some (scB s i' l' m))) q m s i' l' v acc := by
  refine h.keep (by unfold ScB; rw [List.getElem?_set_self h.lt.1]) fun j _ hj => ?_
  rw [List.getElem?_set_ne (fun e => hj e.symm)]
theorem OutP.cell {H : Heap} {q m : Nat} {v : V} {l : List Tk} (h : OutP H q m v l) : v.cells = [v] ∧ flat v = true := by
  rcases h with ⟨rfl, _⟩ | ⟨n, rfl, _⟩ <;> exact ⟨rfl, rfl⟩
theorem tok_ne (j : Nat) (n : Nat) (h : ¬ j = n) : (((j : Nat) : Int) == (n : Nat)) = false := by
  simp; omega
set_option maxHeartbeats 1000000 in
theorem loop_scn {call : CallF} (hC : call.Sound Tryz.prog TT) (D : List UInt8 → Prop) (s : List UInt8) (hs : s.length ≤ 20000) (q m : Nat)
    (hskip : ∀ (i : Nat) (l : Bool) (H : Heap), ScB H q s i l m → i ≤ s.length → skR H q s m (skQ s i l) (call 30 [.ptr q 0] H))
    (htok : ∀ (i : Nat) (l : Bool) (H : Heap), ScB H q s i l m → i < s.length → H[m]? = kwHeap[0]? → m ≠ q → TokD D (s.drop i) → tokS H q s i l m (tokQ kw numQ (s.drop i)) (call 31 [.ptr q 0] H)) {Q : Out → Prop} :
    ∀ (n i : Nat) (l : Bool) (v : V) (acc : List Tk) (t : Tm) (H : Heap), s.length < n + i → i ≤ s.length → acc.length ≤ i → SI H q m s i l v acc → scnD D s n i l → t.wid = 32 → t.get 0 = .s s → t.get 2 = .ptr 0 0 → t.get 3 = .ptr 1 0 → t.get 4 = .ptr 2 0 → t.get 5 = .ptr q 0 →
      (∀ (t' : Tm) (H' : Heap) (toks : List Tk) (v : V), scnF s n i l acc = .inl toks → t'.get 2 = .ptr 0 0 → t'.get 3 = .ptr 1 0 → t'.get 4 = .ptr 2 0 → H'[0]? = some (some ⟨23, [v], .all⟩) → H'[1]? = some (some ⟨3, [.i .i64 0], .all⟩) → H'[2]? = some (some ⟨24, [.i .i64 0], .all⟩) → OutP H' q m v toks → Q (.ret t' H')) →
      (∀ (t' : Tm) (H' : Heap) (a e : Nat) (v : V), scnF s n i l acc = .inr (a, e) → t'.get 2 = .ptr 0 0 → t'.get 3 = .ptr 1 0 → t'.get 4 = .ptr 2 0 → H'[0]? = some (some ⟨23, [v], .all⟩) → H'[1]? = some (some ⟨3, [.i .i64 0], .all⟩) → H'[2]? = some (some ⟨24, [.i .i64 0], .all⟩) → Q (.pan (fltV e a) t' H')) →
      LTri Tryz.prog TT (sub [true, true, true, true, false, false] (bodyOf Tryz.f11)) t H Q := by
 have ex1 : TT.ext 30 = none := rfl
 have ex2 : TT.ext 31 = none := rfl
 have ci : ∀ (k : IntKind) (n : Int), (V.i k n).cells = [V.i k n] := fun _ _ => rfl
 have fi : ∀ (k : IntKind) (n : Int), flat (V.i k n) = true := fun _ _ => rfl
 intro n
 induction n with
 | zero => intro i l v acc t H h1 h2; omega
 | succ n ih =>
   intro i l v acc t H hn hi hacc hI hD hw t0 t2 t3 t4 t5 hR hP
   obtain ⟨hql, hml⟩ := hI.lt
   have q3 := hI.q3
   have m3 := hI.m3
   have hsk := hskip i l H hI.sc hi
   rcases hk : skQ s i l with a | ⟨j, l'⟩
   · -- a fault among blanks
     rw [hk] at hsk
     obtain ⟨b, hsk⟩ := hsk
     have hF := ai @t5 (ai @hsk @ex1)
     refine LTri.round' ?_
     apply bK
     apply sQ
     refine Tri.regP (v := ?v1) (t' := ?t1) (H' := ?H1) TT_ok hC ?e1 ?q1
     case e1 =>
      refine go_false ?_
      refine oA ?_
      refine evSeq_panG rfl (by simp [hF] <;> rfl) (by rfl) ?_
      exact rfl
     refine inSeq_pan ?_
     refine inBlk_pan ?_
     refine inLoop_pan ?_
     refine hP _ _ a 32 v (by simp only [scnF, hk]) (by simp [t2]) (by simp [t3]) (by simp [t4]) ?_ ?_ ?_
     · rw [List.getElem?_set_ne (by omega)]; exact hI.c0
     · rw [List.getElem?_set_ne (by omega)]; exact hI.c1
     · rw [List.getElem?_set_ne (by omega)]; exact hI.c2
   · rw [hk] at hsk
     have hsk : call 30 [.ptr q 0] H = .val .un (H.set q (some (scB s j l' m))) := hsk
     have hI1 : SI (H.set q (some (scB s j l' m))) q m s j l' v acc := hI.set
     obtain ⟨hij, hjl⟩ : i ≤ j ∧ j ≤ s.length := skQ_ok hi hk
     generalize hH1 : H.set q (some (scB s j l' m)) = H1 at hsk hI1
     have g0 := hI1.c0
     have g1 := hI1.c1
     have g2 := hI1.c2
     have gq : H1[q]? = some (some (scB s j l' m)) := hI1.sc
     obtain ⟨hvc, hvf⟩ := hI1.out.cell
     obtain ⟨hql1, hml1⟩ := hI1.lt
     have gl0 : 0 < H1.length := by omega
     have gl1 : 1 < H1.length := by omega
     have gl2 : 2 < H1.length := by omega
     refine LTri.round' ?_
     apply bK
     apply sQ
     refine Tri.regN (t' := ?t2) (H' := ?H2) TT_ok hC ?e2 ?q2
     case e2 =>
      refine go_false ?_
      iterate 2 refine evSeq_go rfl (by simp [t5, hsk, ex1] <;> rfl) (by rfl) (by simp [hw]) ?_
      exact evSeq_nil
     apply sN
     iterate 2 apply sQ
     by_cases hend : j = s.length
     · -- the end
       have hee : (((j : Nat) : Int) == (s.length : Nat)) = true := by rw [hend]; simp
       refine Tri.regN (t' := ?t3) (H' := ?H3) TT_ok hC ?e3 ?q3
       case e3 =>
        refine go_false ?_
        iterate 7 refine evSeq_go rfl (by simp [t5, t0, gq, hee] <;> rfl) (by rfl) (by simp [hw]) ?_
        exact evSeq_nil
       apply sN
       refine Tri.condG (o := ?o3) (b := ?b3) ?g3 ?r3 ?y3 ?n3
       case g3 => simp [hee] <;> rfl
       case r3 => rfl
       case n3 => intro h; simp at h
       case y3 =>
        intro _
        apply sQ
        refine Tri.regN (t' := ?t4) (H' := ?H4) TT_ok hC ?e4 ?q4
        case e4 =>
         refine go_false ?_
         iterate 4 refine evSeq_go rfl (by simp [t2, t3, t4, g0, g1, g2, hvc, hvf, ci, fi, -V.cells, -flat] <;> rfl) (by rfl) (by simp [hw]) ?_
         exact evSeq_nil
        apply sN
        apply Tri.ret
        apply sR
        apply bR
        refine inLoop_ret ?_
        refine hR _ _ acc v (by simp only [scnF, hk]; rw [if_pos hend]) (by simp [t2]) (by simp [t3]) (by simp [t4]) ?_ ?_ ?_ ?_
        · simp [gl0, gl1, gl2]
        · simp [gl0, gl1, gl2]
        · simp [gl0, gl1, gl2]
        · rcases hI1.out with h | ⟨nb, h1, h2, h3, h4, h5⟩
          · exact .inl h
          · refine .inr ⟨nb, h1, ?_, h3, h4, h5⟩
            rw [List.getElem?_set_ne (by omega), List.getElem?_set_ne (by omega), List.getElem?_set_ne (by omega)]
            exact h2
     · have hlt : j < s.length := by omega
       have hne : (((j : Nat) : Int) == (s.length : Nat)) = false := tok_ne _ _ hend
       refine Tri.regN (t' := ?t5) (H' := ?H5) TT_ok hC ?e5 ?q5
       case e5 =>
        refine go_false ?_
        iterate 7 refine evSeq_go rfl (by simp [t5, t0, gq, hne] <;> rfl) (by rfl) (by simp [hw]) ?_
        exact evSeq_nil
       apply sN
       refine Tri.condG (o := ?o5) (b := ?b5) ?g5 ?r5 ?y5 ?n5
       case g5 => simp [hne] <;> rfl
       case r5 => rfl
       case y5 => intro h; simp at h
       case n5 =>
        intro _
        apply Tri.skip
        apply sN
        apply sQ
        have hD' : TokD D (s.drop j) ∧ match tokQ kw numQ (s.drop j) with | .inl e => True | .inr (k, t, m) => scnD D s n (j + m) false := by
         have := hD
         simp only [scnD, hk] at this
         exact this.resolve_left hend
        have htk := htok j l' H1 hI1.sc hlt hI1.kw hI1.ne hD'.1
        have hlen := hD'.2
        rcases hq : tokQ kw numQ (s.drop j) with e | p
        · rw [hq] at htk
          obtain ⟨H3, htk, hkp, hke⟩ := htk
          refine Tri.drawPan TT_ok hC 2 ?v6 ?H6 [false, false, true, true, true, true] (by kernel_rfl) ?e6 ?q6
          case e6 =>
           iterate 2 refine QP.val rfl (by simp [t2, t5, g0, htk, ex2] <;> rfl) (by rfl) (by simp [hw]) ?_
           refine QP.stop rfl rfl (by simp [t2, t5, g0, htk, ex2] <;> rfl) (by rfl) (by simp [hw]) ?_
           iterate 3 refine QP.skip rfl (by simp [hw]) ?_
           exact QP.nil
          refine inSeq_pan ?_
          refine inBlk_pan ?_
          refine inLoop_pan ?_
          refine hP _ _ j e v (by simp only [scnF, hk, hq]; rw [if_neg hend]) (by simp [forget_get, t2]) (by simp [forget_get, t3]) (by simp [forget_get, t4]) ?_ ?_ ?_
          · rw [hke 0 (by omega) (by omega)]; exact g0
          · rw [hke 1 (by omega) (by omega)]; exact g1
          · rw [hke 2 (by omega) (by omega)]; exact g2
        · rw [hq] at htk
          obtain ⟨H3, htk, hsc3, hkp, hke⟩ := htk
          have htk : call 31 [.ptr q 0] H1 = .val (.agg (tkL (p.1, p.2.1, (j : Int), l'))) H3 := htk
          have hI3 : SI H3 q m s (j + p.2.2) l' v acc := hI1.keep hsc3 hke
          obtain ⟨hp1, hp2⟩ := tokQ_ok hq
          rw [List.length_drop] at hp2
          obtain ⟨hql3, hml3⟩ := hI3.lt
          have b1 := bsTokP (p.1, p.2.1, (j : Int), l') H3
          have hI4 : SI (H3 ++ [some { ty := 34, cells := tkL (p.1, p.2.1, (j : Int), l'), kind := .all }]) q m s (j + p.2.2) l' v acc := hI3.keep (by unfold ScB; rw [List.getElem?_append_left hql3]; exact hI3.sc) fun i hi _ => List.getElem?_append_left hi
          obtain ⟨v2, H5, b2, hO5, hl5, hk5⟩ := appTokP hI4.out (by omega) (p.1, p.2.1, (j : Int), l') (b := H3.length) (by simp) hI4.lt.1 hI4.lt.2 (by simp; omega)
          generalize hH4 : H3 ++ [some { ty := 34, cells := tkL (p.1, p.2.1, (j : Int), l'), kind := .all }] = H4 at b1 b2 hI4 hk5 hl5
          have g30 := hI3.c0
          have g40 := hI4.c0
          have g50 : H5[0]? = some (some ⟨23, [v], .all⟩) := by rw [hk5 0 (by omega)]; exact hI4.c0
          have g51 : H5[1]? = some (some ⟨3, [.i .i64 0], .all⟩) := by rw [hk5 1 (by omega)]; exact hI4.c1
          have g52 : H5[2]? = some (some ⟨24, [.i .i64 0], .all⟩) := by rw [hk5 2 (by omega)]; exact hI4.c2
          have g5q : H5[q]? = some (some (scB s (j + p.2.2) l' m)) := by rw [hk5 q (by omega)]; exact hI4.sc
          have g5m : H5[m]? = kwHeap[0]? := by rw [hk5 m (by omega)]; exact hI4.kw
          obtain ⟨hvc2, hvf2⟩ := hO5.cell
          refine Tri.regN (t' := ?t7) (H' := ?H7) TT_ok hC ?e7 ?q7
          case e7 =>
           refine evReg_draw (t' := ?t7) (H' := ?H7) (ks := [.a, .q, .e, .e, .e, .l]) (fun J => J[0]? = some (some ⟨23, [v], .all⟩)) (by kernel_rfl) g0 ?_ ?r7
           refine DR.any rfl (by simp [t2, g0] <;> rfl) (by rfl) (by simp [hw]) (by intro J hJ; simp [hJ, t2] <;> rfl) ?_
           refine DR.blind rfl rfl (by simp [t5] <;> rfl) (by rfl) (by simp [hw]) ?_
           refine DR.eff rfl rfl (by simp [htk, ex2] <;> rfl) (by rfl) (by simp [hw]) g30 ?_
           refine DR.eff rfl rfl (by simp [b1] <;> rfl) (by rfl) (by simp [hw]) g40 ?_
           refine DR.eff rfl rfl (by simp [b2] <;> rfl) (by rfl) (by simp [hw]) g50 ?_
           refine DR.last (x := ?x7) (v := ?v7) ?h1 ?h2 ?h3 ?h4 ?h5
           case h1 => exact rfl
           case h2 => exact rfl
           case h3 => simp [t2, g50, hvc2, hvf2, -V.cells, -flat] <;> rfl
           case h4 => exact rfl
           case h5 => simp [hw]
           case r7 => exact rfl
          apply sN
          have hl5q : q < H5.length := Heap.lt g5q
          have q0 : ¬ 0 = q := by omega
          refine Tri.regN (t' := ?t8) (H' := ?H8) TT_ok hC ?e8 ?q8
          case e8 =>
           refine go_false ?_
           iterate 4 refine evSeq_go rfl (by simp [t5, g5q, q0] <;> rfl) (by rfl) (by simp [hw]) ?_
           exact evSeq_nil
          apply bN
          refine inLoop_norm ?_
          have hI6 : SI ((H5.set 0 (some ⟨23, [v2], .all⟩)).set q (some (scB s (j + p.2.2) false m))) q m s (j + p.2.2) false v2 (acc ++ [(p.1, p.2.1, (j : Int), l')]) := by
           have l0 : 0 < H5.length := Heap.lt g50
           refine ⟨?_, ?_, ?_, ?_, ?_, ?_, q3, m3, hI1.ne⟩
           · rw [List.getElem?_set_ne (by omega), List.getElem?_set_self l0]
           · rw [List.getElem?_set_ne (by omega), List.getElem?_set_ne (by omega)]; exact g51
           · rw [List.getElem?_set_ne (by omega), List.getElem?_set_ne (by omega)]; exact g52
           · unfold ScB; rw [List.getElem?_set_self (by rw [List.length_set]; exact hl5q)]
           · rw [List.getElem?_set_ne (fun e => hI1.ne e.symm), List.getElem?_set_ne (by omega)]; exact g5m
           · rcases hO5 with h | ⟨nb, h1, h2, h3, h4, h5⟩
             · exact .inl h
             · refine .inr ⟨nb, h1, ?_, h3, h4, h5⟩
               rw [List.getElem?_set_ne (fun e => h4 e.symm), List.getElem?_set_ne (by omega)]
               exact h2
          have hsn : scnF s (n + 1) i l acc = scnF s n (j + p.2.2) false (acc ++ [(p.1, p.2.1, (j : Int), l')]) := by
           simp only [scnF, hk, hq]
           rw [if_neg hend]
          rw [hq] at hlen
          refine ih (j + p.2.2) false v2 (acc ++ [(p.1, p.2.1, (j : Int), l')]) _ _ (by omega) (by omega) (by simp; omega) (by simpa [scB] using hI6) hlen (by simp [hw]) (by simp [t0]) (by simp [t2]) (by simp [t3]) (by simp [t4]) (by simp [t5]) ?_ ?_
          · intro t' H' toks u k1
            exact hR t' H' toks u (hsn.trans k1)
          · intro t' H' a e u k1
            exact hP t' H' a e u (hsn.trans k1)
theorem tr_qt1 : codeT TT shp Tryz.f16.ntmps [] (bodyOf Tryz.f16) [] ⟨[(0, .f1 .vs (.va 0))], ⟨.va 1, [], []⟩, 2, []⟩ (KF TT Tryz.f16 [0, 4, 12, 13]) = .asks (.call 36 (.f2 .cons (.f1 .vs (.va 0)) .nil)) [.b] (.f1 .vb (.va 2)) (.ite (.va 2) (.ask (.call 37 (.f2 .cons (.f1 (.ptr 0) (.f2 .addn (.f1 .hlen (.va 1)) (.cn 0))) (.f2 .cons (.f1 (.vi .u8) (.ci 34)) .nil))) ⟨.va 1, [], [.some ⟨66, .f2 .cons (.cv .nilp) (.f2 .cons (.cv .nils) .nil), .all⟩]⟩ [] (.cv .nili) .true (.leaf (.stop [.true, .true, .true, .true, .false, .true, .false]) [(0, .f1 .vs (.va 0)), (4, .f1 (.ptr 0) (.f2 .addn (.f1 .hlen (.va 1)) (.cn 0))), (12, .f1 (.vi .i64) (.f1 .lenS (.va 0))), (13, .f1 (.vi .i64) (.ci 0))] ⟨.va 3, [], []⟩) (.stuck 0)) (.fin (.f1 .tup (.f2 .cons (.f1 .vs (.cs [])) (.f2 .cons (.f1 (.vi .i64) (.ci 2)) .nil))) ⟨.va 1, [], []⟩)) (.stuck 0) := by kernel_rfl
theorem tr_qt2 : goT TT shp Tryz.f16.ntmps [] [true, true, true, true, false, true, false, false] (bodyOf Tryz.f16) [] ⟨[(0, .f1 .vs (.va 0)), (4, .f1 (.ptr 0) (.va 2)), (12, .f1 (.vi .i64) (.f1 .lenS (.va 0))), (13, .f1 (.vi .i64) (.va 3))], ⟨.va 1, [], []⟩, 4, []⟩ (KF TT Tryz.f16 [0, 4, 12, 13]) = .ite (.f2 .ltI (.va 3) (.f1 .lenS (.va 0))) (.need (.f2 .leI (.ci 0) (.va 3)) (.ite (.f2 .eqI (.f2 .at (.va 0) (.va 3)) (.ci 34)) (.need (.f2 .leI (.f2 .add (.ci 1) (.f1 .lenS (.f1 .enc (.f1 (.wrap .i32) (.f2 .at (.va 0) (.va 3)))))) (.ci 9223372036854775807)) (.ask (.call 38 (.f2 .cons (.f1 (.ptr 0) (.va 2)) (.f2 .cons (.f1 .vs (.f2 .app (.cs [92]) (.f1 .enc (.f1 (.wrap .i32) (.f2 .at (.va 0) (.va 3)))))) .nil))) ⟨.va 1, [], []⟩ [.i] (.f1 .tup (.f2 .cons (.f1 (.vi .i64) (.va 5)) (.f2 .cons (.cv .nili) .nil))) .true (.leaf (.again [.true, .true, .true, .true, .false, .true, .false, .false]) [(0, .f1 .vs (.va 0)), (4, .f1 (.ptr 0) (.va 2)), (12, .f1 (.vi .i64) (.f1 .lenS (.va 0))), (13, .f1 (.vi .i64) (.f1 (.wrap .i64) (.f2 .add (.va 3) (.ci 1))))] ⟨.va 4, [], []⟩) (.stuck 0))) (.ite (.f2 .eqI (.f2 .at (.va 0) (.va 3)) (.ci 92)) (.need (.f2 .leI (.f2 .add (.ci 1) (.f1 .lenS (.f1 .enc (.f1 (.wrap .i32) (.f2 .at (.va 0) (.va 3)))))) (.ci 9223372036854775807)) (.ask (.call 38 (.f2 .cons (.f1 (.ptr 0) (.va 2)) (.f2 .cons (.f1 .vs (.f2 .app (.cs [92]) (.f1 .enc (.f1 (.wrap .i32) (.f2 .at (.va 0) (.va 3)))))) .nil))) ⟨.va 1, [], []⟩ [.i] (.f1 .tup (.f2 .cons (.f1 (.vi .i64) (.va 5)) (.f2 .cons (.cv .nili) .nil))) .true (.leaf (.again [.true, .true, .true, .true, .false, .true, .false, .false]) [(0, .f1 .vs (.va 0)), (4, .f1 (.ptr 0) (.va 2)), (12, .f1 (.vi .i64) (.f1 .lenS (.va 0))), (13, .f1 (.vi .i64) (.f1 (.wrap .i64) (.f2 .add (.va 3) (.ci 1))))] ⟨.va 4, [], []⟩) (.stuck 0))) (.ite (.f2 .eqI (.f2 .at (.va 0) (.va 3)) (.ci 10)) (.ask (.call 38 (.f2 .cons (.f1 (.ptr 0) (.va 2)) (.f2 .cons (.f1 .vs (.cs [92, 110])) .nil))) ⟨.va 1, [], []⟩ [.i] (.f1 .tup (.f2 .cons (.f1 (.vi .i64) (.va 5)) (.f2 .cons (.cv .nili) .nil))) .true (.leaf (.again [.true, .true, .true, .true, .false, .true, .false, .false]) [(0, .f1 .vs (.va 0)), (4, .f1 (.ptr 0) (.va 2)), (12, .f1 (.vi .i64) (.f1 .lenS (.va 0))), (13, .f1 (.vi .i64) (.f1 (.wrap .i64) (.f2 .add (.va 3) (.ci 1))))] ⟨.va 4, [], []⟩) (.stuck 0)) (.ite (.f2 .eqI (.f2 .at (.va 0) (.va 3)) (.ci 9)) (.ask (.call 38 (.f2 .cons (.f1 (.ptr 0) (.va 2)) (.f2 .cons (.f1 .vs (.cs [92, 116])) .nil))) ⟨.va 1, [], []⟩ [.i] (.f1 .tup (.f2 .cons (.f1 (.vi .i64) (.va 5)) (.f2 .cons (.cv .nili) .nil))) .true (.leaf (.again [.true, .true, .true, .true, .false, .true, .false, .false]) [(0, .f1 .vs (.va 0)), (4, .f1 (.ptr 0) (.va 2)), (12, .f1 (.vi .i64) (.f1 .lenS (.va 0))), (13, .f1 (.vi .i64) (.f1 (.wrap .i64) (.f2 .add (.va 3) (.ci 1))))] ⟨.va 4, [], []⟩) (.stuck 0)) (.ite (.f2 .eqI (.f2 .at (.va 0) (.va 3)) (.ci 13)) (.ask (.call 38 (.f2 .cons (.f1 (.ptr 0) (.va 2)) (.f2 .cons (.f1 .vs (.cs [92, 114])) .nil))) ⟨.va 1, [], []⟩ [.i] (.f1 .tup (.f2 .cons (.f1 (.vi .i64) (.va 5)) (.f2 .cons (.cv .nili) .nil))) .true (.leaf (.again [.true, .true, .true, .true, .false, .true, .false, .false]) [(0, .f1 .vs (.va 0)), (4, .f1 (.ptr 0) (.va 2)), (12, .f1 (.vi .i64) (.f1 .lenS (.va 0))), (13, .f1 (.vi .i64) (.f1 (.wrap .i64) (.f2 .add (.va 3) (.ci 1))))] ⟨.va 4, [], []⟩) (.stuck 0)) (.ite (.f2 .eqI (.f2 .at (.va 0) (.va 3)) (.ci 0)) (.ask (.call 38 (.f2 .cons (.f1 (.ptr 0) (.va 2)) (.f2 .cons (.f1 .vs (.cs [92, 48])) .nil))) ⟨.va 1, [], []⟩ [.i] (.f1 .tup (.f2 .cons (.f1 (.vi .i64) (.va 5)) (.f2 .cons (.cv .nili) .nil))) .true (.leaf (.again [.true, .true, .true, .true, .false, .true, .false, .false]) [(0, .f1 .vs (.va 0)), (4, .f1 (.ptr 0) (.va 2)), (12, .f1 (.vi .i64) (.f1 .lenS (.va 0))), (13, .f1 (.vi .i64) (.f1 (.wrap .i64) (.f2 .add (.va 3) (.ci 1))))] ⟨.va 4, [], []⟩) (.stuck 0)) (.ite (.f2 .ltI (.f2 .at (.va 0) (.va 3)) (.ci 32)) (.need (.f2 (.okSh .shr .u8 .u64) (.f2 .at (.va 0) (.va 3)) (.ci 4)) (.need (.f2 .leI (.ci 0) (.f2 (.sh .shr .u8 .u64) (.f2 .at (.va 0) (.va 3)) (.ci 4))) (.need (.f2 .leI (.f2 (.sh .shr .u8 .u64) (.f2 .at (.va 0) (.va 3)) (.ci 4)) (.f1 (.wrap .u8) (.f2 .add (.f2 (.sh .shr .u8 .u64) (.f2 .at (.va 0) (.va 3)) (.ci 4)) (.ci 1)))) (.need (.f2 .leI (.f1 (.wrap .u8) (.f2 .add (.f2 (.sh .shr .u8 .u64) (.f2 .at (.va 0) (.va 3)) (.ci 4)) (.ci 1))) (.ci 16)) (.need (.f2 .leI (.f2 .add (.ci 2) (.f1 .lenS (.f3 .sub (.cs [48, 49, 50, 51, 52, 53, 54, 55, 56, 57, 65, 66, 67, 68, 69, 70]) (.f2 (.sh .shr .u8 .u64) (.f2 .at (.va 0) (.va 3)) (.ci 4)) (.f1 (.wrap .u8) (.f2 .add (.f2 (.sh .shr .u8 .u64) (.f2 .at (.va 0) (.va 3)) (.ci 4)) (.ci 1)))))) (.ci 9223372036854775807)) (.lets (.f2 .app (.cs [92, 120]) (.f3 .sub (.cs [48, 49, 50, 51, 52, 53, 54, 55, 56, 57, 65, 66, 67, 68, 69, 70]) (.f2 (.sh .shr .u8 .u64) (.f2 .at (.va 0) (.va 3)) (.ci 4)) (.f1 (.wrap .u8) (.f2 .add (.f2 (.sh .shr .u8 .u64) (.f2 .at (.va 0) (.va 3)) (.ci 4)) (.ci 1))))) (.need (.f2 (.okI .and .u8) (.f2 .at (.va 0) (.va 3)) (.ci 15)) (.need (.f2 .leI (.ci 0) (.f2 (.opI .and .u8) (.f2 .at (.va 0) (.va 3)) (.ci 15))) (.need (.f2 .leI (.f2 (.opI .and .u8) (.f2 .at (.va 0) (.va 3)) (.ci 15)) (.f1 (.wrap .u8) (.f2 .add (.f2 (.opI .and .u8) (.f2 .at (.va 0) (.va 3)) (.ci 15)) (.ci 1)))) (.need (.f2 .leI (.f1 (.wrap .u8) (.f2 .add (.f2 (.opI .and .u8) (.f2 .at (.va 0) (.va 3)) (.ci 15)) (.ci 1))) (.ci 16)) (.need (.f2 .leI (.f2 .add (.f1 .lenS (.va 4)) (.f1 .lenS (.f3 .sub (.cs [48, 49, 50, 51, 52, 53, 54, 55, 56, 57, 65, 66, 67, 68, 69, 70]) (.f2 (.opI .and .u8) (.f2 .at (.va 0) (.va 3)) (.ci 15)) (.f1 (.wrap .u8) (.f2 .add (.f2 (.opI .and .u8) (.f2 .at (.va 0) (.va 3)) (.ci 15)) (.ci 1)))))) (.ci 9223372036854775807)) (.lets (.f2 .app (.va 4) (.f3 .sub (.cs [48, 49, 50, 51, 52, 53, 54, 55, 56, 57, 65, 66, 67, 68, 69, 70]) (.f2 (.opI .and .u8) (.f2 .at (.va 0) (.va 3)) (.ci 15)) (.f1 (.wrap .u8) (.f2 .add (.f2 (.opI .and .u8) (.f2 .at (.va 0) (.va 3)) (.ci 15)) (.ci 1))))) (.ask (.call 38 (.f2 .cons (.f1 (.ptr 0) (.va 2)) (.f2 .cons (.f1 .vs (.va 5)) .nil))) ⟨.va 1, [], []⟩ [.i] (.f1 .tup (.f2 .cons (.f1 (.vi .i64) (.va 7)) (.f2 .cons (.cv .nili) .nil))) .true (.leaf (.again [.true, .true, .true, .true, .false, .true, .false, .false]) [(0, .f1 .vs (.va 0)), (4, .f1 (.ptr 0) (.va 2)), (12, .f1 (.vi .i64) (.f1 .lenS (.va 0))), (13, .f1 (.vi .i64) (.f1 (.wrap .i64) (.f2 .add (.va 3) (.ci 1))))] ⟨.va 6, [], []⟩) (.stuck 0)))))))))))))) (.ite (.f2 .eqI (.f2 .at (.va 0) (.va 3)) (.ci 127)) (.need (.f2 (.okSh .shr .u8 .u64) (.f2 .at (.va 0) (.va 3)) (.ci 4)) (.need (.f2 .leI (.ci 0) (.f2 (.sh .shr .u8 .u64) (.f2 .at (.va 0) (.va 3)) (.ci 4))) (.need (.f2 .leI (.f2 (.sh .shr .u8 .u64) (.f2 .at (.va 0) (.va 3)) (.ci 4)) (.f1 (.wrap .u8) (.f2 .add (.f2 (.sh .shr .u8 .u64) (.f2 .at (.va 0) (.va 3)) (.ci 4)) (.ci 1)))) (.need (.f2 .leI (.f1 (.wrap .u8) (.f2 .add (.f2 (.sh .shr .u8 .u64) (.f2 .at (.va 0) (.va 3)) (.ci 4)) (.ci 1))) (.ci 16)) (.need (.f2 .leI (.f2 .add (.ci 2) (.f1 .lenS (.f3 .sub (.cs [48, 49, 50, 51, 52, 53, 54, 55, 56, 57, 65, 66, 67, 68, 69, 70]) (.f2 (.sh .shr .u8 .u64) (.f2 .at (.va 0) (.va 3)) (.ci 4)) (.f1 (.wrap .u8) (.f2 .add (.f2 (.sh .shr .u8 .u64) (.f2 .at (.va 0) (.va 3)) (.ci 4)) (.ci 1)))))) (.ci 9223372036854775807)) (.lets (.f2 .app (.cs [92, 120]) (.f3 .sub (.cs [48, 49, 50, 51, 52, 53, 54, 55, 56, 57, 65, 66, 67, 68, 69, 70]) (.f2 (.sh .shr .u8 .u64) (.f2 .at (.va 0) (.va 3)) (.ci 4)) (.f1 (.wrap .u8) (.f2 .add (.f2 (.sh .shr .u8 .u64) (.f2 .at (.va 0) (.va 3)) (.ci 4)) (.ci 1))))) (.need (.f2 (.okI .and .u8) (.f2 .at (.va 0) (.va 3)) (.ci 15)) (.need (.f2 .leI (.ci 0) (.f2 (.opI .and .u8) (.f2 .at (.va 0) (.va 3)) (.ci 15))) (.need (.f2 .leI (.f2 (.opI .and .u8) (.f2 .at (.va 0) (.va 3)) (.ci 15)) (.f1 (.wrap .u8) (.f2 .add (.f2 (.opI .and .u8) (.f2 .at (.va 0) (.va 3)) (.ci 15)) (.ci 1)))) (.need (.f2 .leI (.f1 (.wrap .u8) (.f2 .add (.f2 (.opI .and .u8) (.f2 .at (.va 0) (.va 3)) (.ci 15)) (.ci 1))) (.ci 16)) (.need (.f2 .leI (.f2 .add (.f1 .lenS (.va 4)) (.f1 .lenS (.f3 .sub (.cs [48, 49, 50, 51, 52, 53, 54, 55, 56, 57, 65, 66, 67, 68, 69, 70]) (.f2 (.opI .and .u8) (.f2 .at (.va 0) (.va 3)) (.ci 15)) (.f1 (.wrap .u8) (.f2 .add (.f2 (.opI .and .u8) (.f2 .at (.va 0) (.va 3)) (.ci 15)) (.ci 1)))))) (.ci 9223372036854775807)) (.lets (.f2 .app (.va 4) (.f3 .sub (.cs [48, 49, 50, 51, 52, 53, 54, 55, 56, 57, 65, 66, 67, 68, 69, 70]) (.f2 (.opI .and .u8) (.f2 .at (.va 0) (.va 3)) (.ci 15)) (.f1 (.wrap .u8) (.f2 .add (.f2 (.opI .and .u8) (.f2 .at (.va 0) (.va 3)) (.ci 15)) (.ci 1))))) (.ask (.call 38 (.f2 .cons (.f1 (.ptr 0) (.va 2)) (.f2 .cons (.f1 .vs (.va 5)) .nil))) ⟨.va 1, [], []⟩ [.i] (.f1 .tup (.f2 .cons (.f1 (.vi .i64) (.va 7)) (.f2 .cons (.cv .nili) .nil))) .true (.leaf (.again [.true, .true, .true, .true, .false, .true, .false, .false]) [(0, .f1 .vs (.va 0)), (4, .f1 (.ptr 0) (.va 2)), (12, .f1 (.vi .i64) (.f1 .lenS (.va 0))), (13, .f1 (.vi .i64) (.f1 (.wrap .i64) (.f2 .add (.va 3) (.ci 1))))] ⟨.va 6, [], []⟩) (.stuck 0)))))))))))))) (.ask (.call 37 (.f2 .cons (.f1 (.ptr 0) (.va 2)) (.f2 .cons (.f1 (.vi .u8) (.f2 .at (.va 0) (.va 3))) .nil))) ⟨.va 1, [], []⟩ [] (.cv .nili) .true (.leaf (.again [.true, .true, .true, .true, .false, .true, .false, .false]) [(0, .f1 .vs (.va 0)), (4, .f1 (.ptr 0) (.va 2)), (12, .f1 (.vi .i64) (.f1 .lenS (.va 0))), (13, .f1 (.vi .i64) (.f1 (.wrap .i64) (.f2 .add (.va 3) (.ci 1))))] ⟨.va 4, [], []⟩) (.stuck 0))))))))))) (.ask (.call 37 (.f2 .cons (.f1 (.ptr 0) (.va 2)) (.f2 .cons (.f1 (.vi .u8) (.ci 34)) .nil))) ⟨.va 1, [], []⟩ [] (.cv .nili) .true (.ask (.call 39 (.f2 .cons (.f1 (.ptr 0) (.va 2)) .nil)) ⟨.va 4, [], []⟩ [.s] (.f1 .vs (.va 6)) .true (.fin (.f1 .tup (.f2 .cons (.f1 .vs (.va 6)) (.f2 .cons (.f1 (.vi .i64) (.ci 0)) .nil))) ⟨.va 5, [], []⟩) (.stuck 0)) (.stuck 0)) := by kernel_rfl
def hexL : List UInt8 := [48, 49, 50, 51, 52, 53, 54, 55, 56, 57, 65, 66, 67, 68, 69, 70]
def qtC (c : Nat) : List UInt8 := if c = 34 then [92, 34] else if c = 92 then [92, 92] else if c = 10 then [92, 110] else if c = 9 then [92, 116] else if c = 13 then [92, 114] else if c = 0 then [92, 48]
  else if c < 32 ∨ c = 127 then [92, 120, hexL.getD (c / 16) 0, hexL.getD (c % 16) 0] else [UInt8.ofNat c]
theorem qtC_len (c : Nat) : (qtC c).length ≤ 4 := by
  unfold qtC
  repeat' split
  all_goals simp
theorem qt_tab : ((List.range 256).all fun c => kindOf (evShift .shr .u8 (c : Nat) .u64 4) .u8 && decide (intOf (evShift .shr .u8 (c : Nat) .u64 4) = ((c / 16 : Nat) : Int)) && kindOf (evInt .and .u8 (c : Nat) 15) .u8 && decide (intOf (evInt .and .u8 (c : Nat) 15) = ((c % 16 : Nat) : Int))) = true := by kernel_rfl
theorem qt_byte (c : Nat) (h : c < 256) : kindOf (evShift .shr .u8 (c : Nat) .u64 4) .u8 = true ∧ intOf (evShift .shr .u8 (c : Nat) .u64 4) = ((c / 16 : Nat) : Int) ∧ kindOf (evInt .and .u8 (c : Nat) 15) .u8 = true ∧ intOf (evInt .and .u8 (c : Nat) 15) = ((c % 16 : Nat) : Int) := by
  have := List.all_eq_true.1 qt_tab c (List.mem_range.2 h)
  simp only [Bool.and_eq_true, decide_eq_true_eq] at this
  exact ⟨this.1.1.1, this.1.1.2, this.1.2, this.2⟩
theorem w8 (n : Nat) (h : n < 256) : IntKind.u8.wrap (n : Int) = n := by
  have e : (2 : Int) ^ IntKind.u8.bits = 256 := rfl
  simp only [IntKind.wrap, e, IntKind.signed, Bool.false_and, Bool.false_eq_true, if_false]
  omega
theorem hex_cut : ∀ k : Nat, k < 16 → (([48, 49, 50, 51, 52, 53, 54, 55, 56, 57, 65, 66, 67, 68, 69, 70] : List UInt8).take (k + 1)).drop k = [hexL.getD k 0] := by decide
theorem enc34 : (Utf8.encode (IntKind.i32.wrap 34)).data.toList = [34] := by kernel_rfl
theorem enc92 : (Utf8.encode (IntKind.i32.wrap 92)).data.toList = [92] := by kernel_rfl
theorem head_qt {call : CallF} (hC : call.Sound Tryz.prog TT)
    (hwb : ∀ (n : Nat) (l : List UInt8) (c : UInt8) (H : Heap), Bld H n l → l.length < 100000000 → ∃ H', call 37 [.ptr n 0, .i .u8 c.toNat] H = .val .nili H' ∧ Bld H' n (l ++ [c]))
    (hws : ∀ (n : Nat) (l x : List UInt8) (H : Heap), Bld H n l → l.length + x.length < 100000000 → ∃ H', call 38 [.ptr n 0, .s x] H = .val (.tup [.i .i64 x.length, .nili]) H' ∧ Bld H' n (l ++ x))
    (hst : ∀ (n : Nat) (l : List UInt8) (H : Heap), BldR H n l → l.length < 100000000 → ∃ H', call 39 [.ptr n 0] H = .val (.s l) H' ∧ BldR H' n l) (s : List UInt8) (q : Nat) (hs : s.length < 1100000) :
    ∀ (n i : Nat) (out : List UInt8) (t : Tm) (H : Heap), s.length < n + i → i ≤ s.length → out.length ≤ 4 * i + 1 → t.wid = Tryz.f16.ntmps → t.get 0 = .s s → t.get 4 = .ptr q 0 → t.get 12 = .i .i64 s.length → t.get 13 = .i .i64 (i : Nat) → Bld H q out →
    ctx Tryz.prog TT [true, true, true, true, false, true, false, false] (bodyOf Tryz.f16) (EndsX TT Tryz.f16 (isR (.val (.tup [.s (out ++ ((s.drop i).map fun c => qtC c.toNat).flatten ++ [34]), .i .i64 0])))) (.norm t H) := by
  intro n
  induction n with
  | zero => intro i out t H h1 h2; omega
  | succ n ih =>
    intro i out t H hn hi ho hw t0 t4 t12 t13 hb
    refine LTri.symIn (p := [true, true, true, true, false, true, false]) TT_ok hC rfl tr_qt2 (by kernel_rfl) [.us s, .uh H, .un q, .ui (i : Nat)] rfl hw ⟨t0, t4, t12, t13, trivial⟩ rfl (WF_opq _ _) ?_
    clear t0 t4 t12 t13 hw
    simp -implicitDefEqProofs only [VC, isR, exU, Ask.den, forall_eq, E.den, O1.den, O2.den, O3.den, U.int_ui, U.boo_ub, U.val_uv, U.lst_ul, U.str_us, U.nat_un, U.heap_uh, SH.den, setsD, newD, bD, SB.den, factsTo, LQ, List.cons_append, List.nil_append, List.getElem?_cons_zero, List.getElem?_cons_succ, Option.getD_some, ltB_true, ltB_false, leB_true, leB_false, beq_iff_eq, bne_iff_ne, beq_eq_false_iff_ne, Int.toNat_natCast, Bool.false_eq_true, if_false, if_true]
    have w1 : IntKind.i64.wrap ((i : Int) + 1) = ((i + 1 : Nat) : Int) := by rw [w64 (by omega) (by omega)]; omega
    simp only [w1, Int.toNat_natCast]
    refine ⟨fun h => ?_, fun h => ?_⟩
    · have hlt : i < s.length := by omega
      obtain ⟨c, hc⟩ := atS_byte s i hlt
      have hcb := c.toNat_lt
      have hcons : s.drop i = c :: s.drop (i + 1) := by
        have e := List.drop_eq_getElem_cons hlt
        rw [e]
        congr 1
        unfold atS at hc
        rw [Int.toNat_natCast, List.getElem?_eq_getElem hlt] at hc
        exact UInt8.toNat_inj.1 (Int.ofNat_inj.1 hc)
      have e : out ++ ((s.drop i).map fun c => qtC c.toNat).flatten ++ [34] = (out ++ qtC c.toNat) ++ ((s.drop (i + 1)).map fun c => qtC c.toNat).flatten ++ [34] := by
        rw [hcons]; simp
      have hql := qtC_len c.toNat
      rw [e, hc]
      have go : ∀ (H' : Heap), Bld H' q (out ++ qtC c.toNat) → ∀ t' : Tm, t'.wid = Tryz.f16.ntmps → t'.get 0 = .s s → t'.get 4 = .ptr q 0 → t'.get 12 = .i .i64 s.length → t'.get 13 = .i .i64 ((i + 1 : Nat) : Int) →
          ctx Tryz.prog TT [true, true, true, true, false, true, false, false] (bodyOf Tryz.f16) (EndsX TT Tryz.f16 (isR (.val (.tup [.s ((out ++ qtC c.toNat) ++ ((s.drop (i + 1)).map fun c => qtC c.toNat).flatten ++ [34]), .i .i64 0])))) (.norm t' H') :=
        fun H' hb' t' hw' f0 f4 f12 f13 => ih (i + 1) (out ++ qtC c.toNat) t' H' (by omega) (by omega) (by rw [List.length_append]; omega) hw' f0 f4 f12 f13 hb'
      have st : ∀ x : List UInt8, x = qtC c.toNat → (∃ (k : Int) (H' : Heap), call 38 [.ptr q 0, .s x] H = .val (.tup [.i .i64 k, .nili]) H' ∧ ∀ t' : Tm, t'.wid = Tryz.f16.ntmps → t'.get 0 = .s s → t'.get 4 = .ptr q 0 → t'.get 12 = .i .i64 s.length → t'.get 13 = .i .i64 ((i + 1 : Nat) : Int) →
          ctx Tryz.prog TT [true, true, true, true, false, true, false, false] (bodyOf Tryz.f16) (EndsX TT Tryz.f16 (isR (.val (.tup [.s ((out ++ qtC c.toNat) ++ ((s.drop (i + 1)).map fun c => qtC c.toNat).flatten ++ [34]), .i .i64 0])))) (.norm t' H')) ∨ ∃ v H', call 38 [.ptr q 0, .s x] H = .pan v H' ∧ False := by
        rintro x rfl
        obtain ⟨H1, q1, b1⟩ := hws q out (qtC c.toNat) H hb (by omega)
        exact .inl ⟨_, H1, q1, go H1 b1⟩
      obtain ⟨b1, b2, b3, b4⟩ := qt_byte c.toNat hcb
      have k1 : c.toNat / 16 < 16 := by omega
      have k2 : c.toNat % 16 < 16 := by omega
      have u1 : IntKind.u8.wrap (((c.toNat / 16 : Nat) : Int) + 1) = ((c.toNat / 16 + 1 : Nat) : Int) := w8 (c.toNat / 16 + 1) (by omega)
      have u2 : IntKind.u8.wrap (((c.toNat % 16 : Nat) : Int) + 1) = ((c.toNat % 16 + 1 : Nat) : Int) := w8 (c.toNat % 16 + 1) (by omega)
      have x1 := hex_cut _ k1
      have x2 := hex_cut _ k2
      simp only [b1, b2, b3, b4, u1, u2, Int.toNat_natCast, x1, x2]
      have cN : ∀ k : Nat, (c.toNat : Int) = k → c.toNat = k := fun k h => by omega
      have hx : (c.toNat < 32 ∨ c.toNat = 127) → c.toNat ≠ 34 → c.toNat ≠ 92 → c.toNat ≠ 10 → c.toNat ≠ 9 → c.toNat ≠ 13 → c.toNat ≠ 0 → [92, 120, hexL.getD (c.toNat / 16) 0, hexL.getD (c.toNat % 16) 0] = qtC c.toNat := by
        intro h a1 a2 a3 a4 a5 a6
        unfold qtC
        rw [if_neg a1, if_neg a2, if_neg a3, if_neg a4, if_neg a5, if_neg a6, if_pos h]
      refine ⟨by omega, fun h1 => ⟨?_, st _ ?_⟩, fun h1 => ⟨fun h2 => ⟨?_, st _ ?_⟩, fun h2 => ⟨fun h3 => st _ ?_, fun h3 => ⟨fun h4 => st _ ?_, fun h4 => ⟨fun h5 => st _ ?_, fun h5 => ⟨fun h6 => st _ ?_, fun h6 => ⟨fun h7 => ?_, fun h7 => ⟨fun h8 => ?_, fun h8 => ?_⟩⟩⟩⟩⟩⟩⟩⟩
      · rw [h1, enc34]; simp
      · rw [h1, enc34, cN 34 h1]; rfl
      · rw [h2, enc92]; simp
      · rw [h2, enc92, cN 92 h2]; rfl
      · rw [cN 10 h3]; rfl
      · rw [cN 9 h4]; rfl
      · rw [cN 13 h5]; rfl
      · rw [cN 0 h6]; rfl
      · exact ⟨trivial, by omega, by omega, by omega, by simp, trivial, by omega, by omega, by omega, by simp, st _ (hx (.inl (by omega)) (by omega) (by omega) (by omega) (by omega) (by omega) (by omega))⟩
      · exact ⟨trivial, by omega, by omega, by omega, by simp, trivial, by omega, by omega, by omega, by simp, st _ (hx (.inr (by omega)) (by omega) (by omega) (by omega) (by omega) (by omega) (by omega))⟩
      · have e2 : qtC c.toNat = [c] := by
          unfold qtC
          rw [if_neg (by omega), if_neg (by omega), if_neg (by omega), if_neg (by omega), if_neg (by omega), if_neg (by omega), if_neg (by omega), ofNat_u8]
        obtain ⟨H1, q1, b1⟩ := hwb q out c H hb (by omega)
        exact .inl ⟨H1, q1, go H1 (by rw [e2]; exact b1)⟩
    · have hlt : s.length ≤ i := by omega
      rw [List.drop_eq_nil_of_le hlt]
      obtain ⟨H1, q1, b1⟩ := hwb q out 34 H hb (by omega)
      obtain ⟨H2, q2, b2⟩ := hst q (out ++ [34]) H1 b1.read (by simp; omega)
      refine .inl ⟨H1, q1, .inl ⟨_, H2, q2, ?_⟩⟩
      simp
def qtR (s : List UInt8) : V := if Lib.validD s = true then .tup [.s ([34] ++ (s.map fun c => qtC c.toNat).flatten ++ [34]), .i .i64 0] else .tup [.s [], .i .i64 2]
theorem sp68 : ∃ g, SpecOK Tryz.prog TT 16 g ∧ ∀ s : List UInt8, s.length < 1100000 → ∀ H, g [.s s] H = (Res.val (qtR s)).at H := by
  obtain ⟨g1, k1, s1⟩ := sp33v
  obtain ⟨g3, k3, s3⟩ := sp80
  obtain ⟨g4, k4, s4⟩ := sp67
  obtain ⟨g5, k5, s5⟩ := sp44
  have hC := ws (ws (ws (ws n0 k1) k3) k4) k5
  have c1 : ∀ x : List UInt8, x.length < 20000000 → ∀ H, ((((CallF.none.with 36 g1).with 37 g3).with 38 g4).with 39 g5) 36 [.s x] H = .val (.b (Lib.validD x)) H := fun x hx H => by
    rw [w_other _ _ _ _ rfl, w_other _ _ _ _ rfl, w_other _ _ _ _ rfl, w_here]; exact s1 x (by omega) H
  have c3 : ∀ (n : Nat) (l : List UInt8) (c : UInt8) (H : Heap), Bld H n l → l.length < 100000000 → ∃ H', ((((CallF.none.with 36 g1).with 37 g3).with 38 g4).with 39 g5) 37 [.ptr n 0, .i .u8 c.toNat] H = .val .nili H' ∧ Bld H' n (l ++ [c]) := fun n l c H h1 h2 => by
    rw [w_other _ _ _ _ rfl, w_other _ _ _ _ rfl, w_here]; exact s3 (n, l, c) H ⟨h1, h2⟩
  have c4 : ∀ (n : Nat) (l x : List UInt8) (H : Heap), Bld H n l → l.length + x.length < 100000000 → ∃ H', ((((CallF.none.with 36 g1).with 37 g3).with 38 g4).with 39 g5) 38 [.ptr n 0, .s x] H = .val (.tup [.i .i64 x.length, .nili]) H' ∧ Bld H' n (l ++ x) := fun n l x H h1 h2 => by
    rw [w_other _ _ _ _ rfl, w_here]; exact s4 (n, l, x) H ⟨h1, h2⟩
  have c5 : ∀ (n : Nat) (l : List UInt8) (H : Heap), BldR H n l → l.length < 100000000 → ∃ H', ((((CallF.none.with 36 g1).with 37 g3).with 38 g4).with 39 g5) 39 [.ptr n 0] H = .val (.s l) H' ∧ BldR H' n l := fun n l H h1 h2 => by
    rw [w_here]; exact s5 (n, l) H ⟨h1, h2⟩
  generalize (((CallF.none.with 36 g1).with 37 g3).with 38 g4).with 39 g5 = call at hC c1 c3 c4 c5
  refine spec_fn TT_ok TT_plain 16 (fun s : List UInt8 => [.s s]) _ (fun s => .val (qtR s)) (fun p _ => ⟨rfl, by unfold qtR; split <;> rfl⟩)
    (fun a b _ _ h => by
      simp only [List.cons.injEq, V.s.injEq, and_true] at h
      rw [h]) fun s hs => ?_
  refine XBody.sym TT_ok hC (fn := Tryz.f16) rfl rfl (by simp [Tryz.f16]) tr_qt1 (by kernel_rfl) [.us s, .uh []] rfl ⟨by rw [get_init]; rfl, trivial⟩ rfl (WF_opq _ _) ?_
  simp -implicitDefEqProofs only [VC, isR, exU, Ask.den, forall_eq, E.den, O1.den, O2.den, O3.den, U.int_ui, U.boo_ub, U.val_uv, U.lst_ul, U.str_us, U.nat_un, U.heap_uh, SH.den, setsD, newD, bD, SB.den, factsTo, LQ, List.cons_append, List.nil_append, List.getElem?_cons_zero, List.getElem?_cons_succ, Option.getD_some, ltB_true, ltB_false, leB_true, leB_false, beq_iff_eq, bne_iff_ne, beq_eq_false_iff_ne, Int.toNat_natCast, Bool.false_eq_true, if_false, if_true]
  refine .inl ⟨_, fun K => c1 s (by omega) K, fun h => ?_, fun h => ?_⟩
  · have hb : Bld ([] ++ [some ⟨66, [.nilp, .nils], .all⟩]) 0 [] := ⟨_, .inl rfl, .inl ⟨rfl, rfl⟩⟩
    obtain ⟨H1, q1, b1⟩ := c3 0 [] 34 _ hb (by simp)
    refine .inl ⟨H1, q1, fun t hw t0 t4 t12 t13 => ?_⟩
    have e : qtR s = .tup [.s (([] ++ [34]) ++ ((s.drop 0).map fun c => qtC c.toNat).flatten ++ [34]), .i .i64 0] := by unfold qtR; rw [if_pos h]; rfl
    rw [e]
    exact Tri.symLoop rfl (head_qt hC c3 c4 c5 s 0 hs (s.length + 1) 0 ([] ++ [34]) t H1 (by omega) (by omega) (by simp) hw t0 t4 t12 t13 b1)
  · have e : qtR s = .tup [.s [], .i .i64 2] := by unfold qtR; rw [if_neg (by rw [h]; exact Bool.false_ne_true)]
    rw [e]
def scnT (s : List UInt8) : List Tk × Nat × Nat := if 20000 < s.length then ([], 0, 16) else match scnF s (s.length + 1) 0 true [] with
  | .inl l => (l, 0, 0)
  | .inr (a, e) => ([], a, e)
def tkV (l : List Tk) : V := .isl 4 (l.map fun x => .agg (tkL x))
def scnV (p : List Tk × Nat × Nat) : V := .tup [tkV p.1, .i .i64 (p.2.1 : Nat), .i .i64 (p.2.2 : Nat)]
def ScnO (p : List Tk × Nat × Nat) (r : OR) : Prop := ∃ (v : V) (J : Heap) (q m : Nat), r = .val (.tup [v, .i .i64 (p.2.1 : Nat), .i .i64 (p.2.2 : Nat)]) J ∧ OutP J q m v p.1
theorem ScnO_frz {p : List Tk × Nat × Nat} {r : OR} (h : ScnO p r) : ∃ v J k v' u, r = .val v J ∧ fz J k v = some v' ∧ Weak v' u ∧ u = scnV p := by
  obtain ⟨v, J, q, m, rfl, ho⟩ := h
  rcases ho with ⟨rfl, hl⟩ | ⟨n, rfl, hn, _⟩
  · refine ⟨_, J, 5, _, _, rfl, by simp [fz, Ev.fzL] <;> rfl, ?_, rfl⟩
    unfold scnV tkV
    rw [hl]
    exact WeakL.tup (WeakL.cons (weak_nils 4) (WeakL.cons (Weak.refl _) (WeakL.cons (Weak.refl _) WeakL.nil)))
  · obtain ⟨l, a, c⟩ := p
    simp only at hn ⊢
    have hc : cellsAt J n = some { ty := 34, cells := tkC l, kind := .more } := by simp [cellsAt, hn]
    have hlen := tkC_length l
    have hcut : cut (tkC l) (0 * 4) (l.length * 4) = some (tkC l) := by
      simp only [cut]
      rw [if_pos (by omega), Nat.zero_mul, List.drop_zero, List.take_of_length_le (by omega)]
    have hf := fzL_tk (H := J) l (4 * l.length + 7) (by omega)
    have hf1 : fz J (4 * l.length + 8) (.sl n 4 0 l.length none) = some (.isl 4 (l.map fun x => V.agg (tkL x))) := by
      simp only [fz, hc, hcut, hf, rowsOf_tk, Option.map_some]
    have e2 : Ev.fzL J (4 * l.length + 8) [V.i .i64 (a : Nat), V.i .i64 (c : Nat)] = some [V.i .i64 (a : Nat), V.i .i64 (c : Nat)] := by simp [Ev.fzL, fz]
    have e1 : Ev.fzL J (4 * l.length + 9) (V.sl n 4 0 l.length none :: [V.i .i64 (a : Nat), V.i .i64 (c : Nat)]) = some (V.isl 4 (l.map fun x => V.agg (tkL x)) :: [V.i .i64 (a : Nat), V.i .i64 (c : Nat)]) := by
      rw [Ev.fzL, hf1, e2]
    refine ⟨_, J, 4 * l.length + 10, scnV (l, a, c), scnV (l, a, c), rfl, ?_, Weak.refl _, rfl⟩
    rw [fz, e1]
    rfl
theorem body_2011 {call : CallF} (hC : call.Sound Tryz.prog TT) (D : List UInt8 → Prop) (s : List UInt8)
    (hkw : call 29 [] scH0 = .val (.mp 3) (scH0 ++ kwHeap))
    (hskip : ∀ (q m : Nat) (i : Nat) (l : Bool) (H : Heap), ScB H q s i l m → i ≤ s.length → s.length ≤ 20000 → skR H q s m (skQ s i l) (call 30 [.ptr q 0] H))
    (htok : ∀ (q m : Nat) (i : Nat) (l : Bool) (H : Heap), ScB H q s i l m → i < s.length → s.length ≤ 20000 → H[m]? = kwHeap[0]? → m ≠ q → TokD D (s.drop i) → tokS H q s i l m (tokQ kw numQ (s.drop i)) (call 31 [.ptr q 0] H))
    (hD : s.length ≤ 20000 → scnD D s (s.length + 1) 0 true) : DBody Tryz.prog TT 11 [.s s] [] (ScnO (scnT s)) := by
  refine ⟨Tryz.f11, _, rfl, rfl, by simp [Tryz.f11], ?_⟩
  have h0 : (Tm.init Tryz.f11.ntmps [.s s]).get 0 = .s s := by rw [get_init]; rfl
  have hw : (Tm.init Tryz.f11.ntmps [.s s]).wid = 32 := rfl
  generalize Tm.init Tryz.f11.ntmps [.s s] = t at *
  refine TriD.seq (TriD.lift ?_)
  refine Tri.regN (t' := ?t1) (H' := ?H1) TT_ok hC ?e1 ?q1
  case e1 =>
    refine go_false ?_
    iterate 3 refine evSeq_go rfl (by simp <;> rfl) (by rfl) (by simp [hw]) ?_
    exact evSeq_nil
  refine TriD.seq (TriD.lift ?_)
  by_cases hl : (s.length : Int) ≤ 20000
  · have hl' : s.length ≤ 20000 := by omega
    have hgt : ¬ (20000 : Int) < s.length := by omega
    apply sQ
    refine Tri.regN (t' := ?t2) (H' := ?H2) TT_ok hC ?e2 ?q2
    case e2 =>
      refine go_false ?_
      iterate 3 refine evSeq_go rfl (by simp [h0, hgt, hl] <;> rfl) (by rfl) (by simp [hw]) ?_
      exact evSeq_nil
    apply sN
    refine Tri.condG (o := ?o2) (b := ?b2) ?g2 ?r2 ?y2 ?n2
    case g2 => simp <;> rfl
    case r2 => rfl
    case y2 => intro h; simp at h
    case n2 =>
      intro _
      apply Tri.skip
      refine TriD.seq ?_
      refine TriD.reg (f := 28) (caps := [.ptr 0 0, .ptr 1 0, .ptr 2 0]) (vs := []) (xv := ?xv) (yv := ?yv) (t1 := ?t3) (t2 := ?t4) (H1 := ?H3) (H2 := ?H4) TT_ok hC 1 rfl rfl rfl ?e3 ?x3 ?xx ?y3 ?yy ?f3 ?e4 ?q3
      case e3 =>
        refine oA ?_
        exact evSeq_nil
      case x3 => simp <;> rfl
      case xx => rfl
      case y3 => rfl
      case yy => rfl
      case f3 => simp [hw]
      case e4 => exact evSeq_nil
      refine TriD.seq (TriD.lift ?_)
      have ex : TT.ext 29 = none := rfl
      have hkw' : call 29 [] [some ⟨23, [.nils], .all⟩, some ⟨3, [.i .i64 0], .all⟩, some ⟨24, [.i .i64 0], .all⟩] = .val (.mp 3) (scH0 ++ kwHeap) := hkw
      refine Tri.regN (t' := ?t5) (H' := ?H5) TT_ok hC ?e5 ?q5
      case e5 =>
        refine go_false ?_
        iterate 5 refine evSeq_go rfl (by simp [h0, hkw', ex] <;> rfl) (by rfl) (by simp [hw]) ?_
        exact evSeq_nil
      refine TriD.lift ?_
      apply bK
      refine Tri.loop ?_
      have hI : SI (scH0 ++ kwHeap ++ [some (scB s 0 true 3)]) (scH0 ++ kwHeap).length 3 s 0 true .nils [] := by
        refine ⟨rfl, rfl, rfl, ?_, rfl, .inl ⟨rfl, rfl⟩, by simp [scH0], by omega, by simp [scH0, kwHeap]⟩
        unfold ScB
        simp
      refine loop_scn hC D s hl' _ 3 (fun i l H h1 h2 => hskip _ 3 i l H h1 h2 hl') (fun i l H h1 h2 h3 h4 h5 => htok _ 3 i l H h1 h2 hl' h3 h4 h5) (s.length + 1) 0 true .nils [] _ _ (by omega) (by omega) (by simp) hI (hD hl') (by simp [hw]) (by simp [h0]) (by simp) (by simp) (by simp) (by simp [scH0, kwHeap]) ?_ ?_
      · intro t' H' toks v hsc f2 f3 f4 g0 g1 g2 hO
        apply bR
        have hT : scnT s = (toks, 0, 0) := by unfold scnT; rw [if_neg (by omega), hsc]
        refine ⟨H', _, ⟨H', closes_ret _ rfl H', rfl⟩, ?_, v, H', _, _, rfl, by rw [hT]; exact hO⟩
        rw [hT]
        simp [Tryz.f11, f2, f3, f4, g0, g1, g2]
      · intro t' H' a e v hsc f2 f3 f4 g0 g1 g2
        refine inBlk_pan ?_
        have hT : scnT s = ([], a, e) := by unfold scnT; rw [if_neg (by omega), hsc]
        have hl2 : 2 < H'.length := Heap.lt g2
        refine ⟨rfl, cloH H' e a, _, closes_pan e a g0 g1 g2, ?_, .nils, cloH H' e a, 0, 0, rfl, by rw [hT]; exact .inl ⟨rfl, rfl⟩⟩
        rw [hT]
        have k0 : (cloH H' e a)[0]? = some (some ⟨23, [.nils], .all⟩) := by
          unfold cloH
          rw [List.getElem?_set_ne (by omega), List.getElem?_set_ne (by omega), List.getElem?_set_self (by simp)]
        have k1 : (cloH H' e a)[1]? = some (some ⟨3, [.i .i64 (a : Nat)], .all⟩) := by
          unfold cloH
          rw [List.getElem?_set_ne (by omega), List.getElem?_set_self (by simp; omega)]
        have k2 : (cloH H' e a)[2]? = some (some ⟨24, [.i .i64 (e : Nat)], .all⟩) := by
          unfold cloH
          rw [List.getElem?_set_self (by simp; omega)]
        simp [Tryz.f11, f2, f3, f4, k0, k1, k2]
  · have hgt : (20000 : Int) < s.length := by omega
    have hT : scnT s = ([], 0, 16) := by unfold scnT; rw [if_pos (by omega)]
    apply sQ
    refine Tri.regN (t' := ?t6) (H' := ?H6) TT_ok hC ?e6 ?q6
    case e6 =>
      refine go_false ?_
      iterate 3 refine evSeq_go rfl (by simp [h0, hgt] <;> rfl) (by rfl) (by simp [hw]) ?_
      exact evSeq_nil
    apply sN
    refine Tri.condG (o := ?o6) (b := ?b6) ?g6 ?r6 ?y6 ?n6
    case g6 => simp <;> rfl
    case r6 => rfl
    case n6 => intro h; simp at h
    case y6 =>
      intro _
      apply sQ
      refine Tri.regN (t' := ?t7) (H' := ?H7) TT_ok hC ?e7 ?q7
      case e7 =>
        refine go_false ?_
        iterate 3 refine evSeq_go rfl (by simp <;> rfl) (by rfl) (by simp [hw]) ?_
        exact evSeq_nil
      apply sN
      apply Tri.ret
      refine ⟨_, _, rfl, ?_, .nils, _, 0, 0, rfl, by rw [hT]; exact .inl ⟨rfl, rfl⟩⟩
      rw [hT]
      simp [Tryz.f11]
theorem spec_xfrz {P : Program} {T : Tab} (hT : TOk P T) (hp : T.Plain) (F : FuncId) {α : Type} (enc : α → List V) (D : α → Prop) (r : α → V) (hnl : ∀ a, D a → nlL (enc a) = true) (inj : ∀ a b, D a → D b → enc a = enc b → r a = r b)
    (h : ∀ a, D a → XFact P T F (enc a) [] fun x => ∃ v J k v' u, x = .val v J ∧ fz J k v = some v' ∧ Weak v' u ∧ u = r a) : ∃ g, SpecOK P T F g ∧ ∀ a, D a → ∀ H, g (enc a) H = .val (r a) H := by
  obtain ⟨g0, k0, s0⟩ := XFact.spec (F := F) hT (D := fun vs H => H = [] ∧ ∃ a, D a ∧ vs = enc a) (R := fun vs _ x => ∃ a, D a ∧ vs = enc a ∧ ∃ v J k v' u, x = .val v J ∧ fz J k v = some v' ∧ Weak v' u ∧ u = r a) (by
    rintro vs H ⟨rfl, a, ha, rfl⟩
    exact (h a ha).mono fun x hx => ⟨a, ha, rfl, hx⟩)
  obtain ⟨g, k, s⟩ := spec_frzw hp k0 (fun vs => ∃ a, D a ∧ vs = enc a) (fun vs u => ∃ a, D a ∧ vs = enc a ∧ u = r a) (by
    rintro vs ⟨a, ha, rfl⟩
    refine ⟨hnl a ha, ?_⟩
    obtain ⟨x, ⟨b, hb, he, v, J, n, v', u, rfl, h1, h2, h3⟩, h4⟩ := s0 (enc a) [] ⟨rfl, a, ha, rfl⟩
    exact ⟨v, J, n, v', u, h4, h1, h2, b, hb, he, h3⟩)
  refine ⟨g, k, fun a ha H => ?_⟩
  obtain ⟨u, ⟨b, hb, he, rfl⟩, h2⟩ := s (enc a) ⟨a, ha, rfl⟩
  rw [h2 H, inj a b ha hb he]
theorem sp2011_of (D : List UInt8 → Prop) (hf : ∀ s at_, D s → s.length < 1100000 → FltH s at_) : ∃ g, SpecOK Tryz.prog TT 11 g ∧ ∀ s : List UInt8, (s.length ≤ 20000 → scnD D s (s.length + 1) 0 true) → ∀ H, g [.s s] H = .val (scnV (scnT s)) H := by
  obtain ⟨g1, k1, s1⟩ := sp2030
  obtain ⟨g2, k2, s2⟩ := sp2031_of D hf
  have hC := ws (ws (ws n0 k1) k2) ok72s
  have c1 : ∀ (q m : Nat) (s : List UInt8) (i : Nat) (l : Bool) (H : Heap), ScB H q s i l m → i ≤ s.length → s.length ≤ 20000 → skR H q s m (skQ s i l) ((((CallF.none.with 30 g1).with 31 g2).with 29 spKwS) 30 [.ptr q 0] H) := fun q m s i l H h1 h2 h3 => by
    rw [w_other _ _ _ _ rfl, w_other _ _ _ _ rfl, w_here]
    exact s1 (q, s, i, l, m) H ⟨h1, h2, by simp only; omega⟩
  have c2 : ∀ (q m : Nat) (s : List UInt8) (i : Nat) (l : Bool) (H : Heap), ScB H q s i l m → i < s.length → s.length ≤ 20000 → H[m]? = kwHeap[0]? → m ≠ q → TokD D (s.drop i) → tokS H q s i l m (tokQ kw numQ (s.drop i)) ((((CallF.none.with 30 g1).with 31 g2).with 29 spKwS) 31 [.ptr q 0] H) := fun q m s i l H h1 h2 h3 h4 h5 h6 => by
    rw [w_other _ _ _ _ rfl, w_here]
    exact s2 q s i l m H h1 h2 (by omega) h4 h5 h6
  have c3 : (((CallF.none.with 30 g1).with 31 g2).with 29 spKwS) 29 [] scH0 = .val (.mp 3) (scH0 ++ kwHeap) := by
    rw [w_here]
    simp [spKwS, Heap.beq_refl]
  generalize ((CallF.none.with 30 g1).with 31 g2).with 29 spKwS = call at hC c1 c2 c3
  exact spec_xfrz TT_ok TT_plain 11 (fun s => [.s s]) (fun s : List UInt8 => s.length ≤ 20000 → scnD D s (s.length + 1) 0 true) (fun s => scnV (scnT s)) (fun _ _ => rfl) (fun a b _ _ h => by simp only [List.cons.injEq, V.s.injEq, and_true] at h; rw [h])
    fun s hs => (DBody.fact TT_ok (body_2011 hC D s c3 (fun q m i l H h1 h2 h3 => c1 q m s i l H h1 h2 h3) (fun q m i l H h1 h2 h3 h4 h5 h6 => c2 q m s i l H h1 h2 h3 h4 h5 h6) hs)).mono fun r hr => ScnO_frz hr
def aw1 : List UInt8 := [108, 101, 116, 32, 120, 39, 32, 61, 32, 48, 120, 70, 70, 32, 47, 47, 32, 97]
def aw2 : List UInt8 := [49, 46, 101, 32, 97, 46, 62, 98, 32, 34, 97, 92, 120, 52, 49, 34]
theorem aw1_scn : scnT aw1 = ([(2, [108, 101, 116], 0, true), (1, [120, 39], 4, false), (6, [61], 7, false), (3, [50, 53, 53], 9, false)], 0, 0) := by kernel_rfl
theorem aw2_scn : scnT aw2 = ([(3, [49], 0, true), (6, [46], 1, false), (1, [101], 2, false), (1, [97], 4, false), (6, [46, 62], 5, false), (1, [98], 7, false), (5, [97, 65], 9, false)], 0, 0) := by kernel_rfl
section
variable (u v : List UInt8)
end
end Go.Ev
