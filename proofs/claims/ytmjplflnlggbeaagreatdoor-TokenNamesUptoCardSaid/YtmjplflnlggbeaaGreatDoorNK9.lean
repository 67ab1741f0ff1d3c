/- digits and whole. Walks and specification: a run of digits. Walks and specification: an exponent. What is left of the text at a place. Walks and specification: HasPrefix. Walks and specification: sign. -/
import Derived.Test.YtmjplflnlggbeaaGreatDoorNWB
import Derived.Test.YtmjplflnlggbeaaGreatDoorNK4
import Derived.Test.YtmjplflnlggbeaaGreatDoorNEvMapR
namespace Go.Ev
open Go Go.Proofs
set_option linter.unusedSimpArgs false
set_option linter.unusedVariables false
set_option linter.unnecessarySimpa false
set_option maxRecDepth 100000
theorem tr_dig : codeT TT shp Tryz.f95.ntmps [] (bodyOf Tryz.f95) [] ⟨[(0, .f1 .vs (.va 1)), (1, .f1 (.vi .i64) (.va 2))], ⟨.va 0, [], []⟩, 3, []⟩ (KF TT Tryz.f95 []) = .fin (.f1 (.fn 109) (.f2 .cons (.f1 (.ptr 0) (.f2 .addn (.f1 .hlen (.va 0)) (.cn 0))) (.f2 .cons (.f1 (.ptr 0) (.f2 .addn (.f1 .hlen (.va 0)) (.cn 1))) .nil))) ⟨.va 0, [], [.some ⟨9, .f2 .cons (.f1 .vs (.va 1)) .nil, .all⟩, .some ⟨3, .f2 .cons (.f1 (.vi .i64) (.va 2)) .nil, .all⟩]⟩ := by kernel_rfl
theorem tr_dig1 : codeT TT shp Tryz.f109.ntmps [] (sub [true, false, false, true, true, false, false, true, false] (bodyOf Tryz.f109)) [] ⟨[(0, .va 1), (1, .f1 (.ptr 0) (.va 2)), (2, .f1 (.ptr 0) (.va 3)), (4, .f1 (.vi .i64) (.va 4)), (8, .f1 (.vi .i64) (.va 5)), (9, .f1 (.vi .i64) (.va 4))], ⟨.va 0, [(.va 2, some ⟨9, .f2 .cons (.f1 .vs (.va 6)) .nil, .all⟩), (.va 3, some ⟨3, .f2 .cons (.f1 (.vi .i64) (.va 7)) .nil, .all⟩)], []⟩, 8, []⟩ (K0 [0, 1, 2, 5, 6, 8, 9]) = .need (.f2 .leI (.ci 0) (.va 4)) (.need (.f2 .ltI (.va 4) (.f1 .lenS (.va 6))) (.asks (.call 94 (.f2 .cons (.f1 (.vi .u8) (.f2 .at (.va 6) (.va 4))) (.f2 .cons (.f1 (.vi .i64) (.va 7)) .nil))) [.i, .b] (.f1 .tup (.f2 .cons (.f1 (.vi .u64) (.va 8)) (.f2 .cons (.f1 .vb (.va 9)) .nil))) (.leaf .norm [(0, .va 1), (1, .f1 (.ptr 0) (.va 2)), (2, .f1 (.ptr 0) (.va 3)), (5, .f1 (.vi .u64) (.va 8)), (6, .f1 .vb (.va 9)), (8, .f1 (.vi .i64) (.va 5)), (9, .f1 (.vi .i64) (.va 4))] ⟨.va 0, [(.va 2, .some ⟨9, .f2 .cons (.f1 .vs (.va 6)) .nil, .all⟩), (.va 3, .some ⟨3, .f2 .cons (.f1 (.vi .i64) (.va 7)) .nil, .all⟩)], []⟩) (.stuck 0))) := by kernel_rfl
def digB2 (s : List UInt8) (base : Int) : Heap := [some ⟨9, [.s s], .all⟩, some ⟨3, [.i .i64 base], .all⟩]
theorem sp2095 : ∃ g, SpecOK Tryz.prog TT 95 g ∧ ∀ (s : List UInt8) (base : Int) (H : Heap), g [.s s, .i .i64 base] H = .val (.fn 109 [.ptr H.length 0, .ptr (H.length + 1) 0]) (H ++ digB2 s base) := by
  obtain ⟨g, k, h⟩ := spec_hp TT_ok 95 (fun p : List UInt8 × Int => [.s p.1, .i .i64 p.2]) (fun _ _ => True) (fun p H r => r = .val (.fn 109 [.ptr H.length 0, .ptr (H.length + 1) 0]) (H ++ digB2 p.1 p.2)) (by
    rintro ⟨s, b⟩ ⟨s', b'⟩ H r _ _ he hr
    simp only [List.cons.injEq, V.s.injEq, V.i.injEq, true_and, and_true] at he
    obtain ⟨rfl, rfl⟩ := he
    exact hr) (by
    rintro ⟨s, b⟩ H _
    refine XBody.sym TT_ok n0 (fn := Tryz.f95) rfl rfl (by simp [Tryz.f95]) tr_dig (by kernel_rfl) [.uh H, .us s, .ui b] rfl ⟨by rw [get_init]; rfl, by rw [get_init]; rfl, trivial⟩ rfl (WF_opq _ _) ?_
    simp -implicitDefEqProofs only [VC, isR, exU, Ask.den, forall_eq, E.den, O1.den, O2.den, O3.den, U.int_ui, U.boo_ub, U.val_uv, U.lst_ul, U.str_us, U.nat_un, U.heap_uh, SH.den, setsD, newD, bD, SB.den, factsTo, LQ, List.cons_append, List.nil_append, List.getElem?_cons_zero, List.getElem?_cons_succ, Option.getD_some, ltB_true, ltB_false, leB_true, leB_false, beq_iff_eq, bne_iff_ne, beq_eq_false_iff_ne, Int.toNat_natCast]
    simp [digB2])
  exact ⟨g, k, fun s b H => h (s, b) H trivial⟩
def whoF (base : Nat) : List UInt8 → Nat → Option Nat
  | [], a => some a
  | c :: r, a => if valN c.toNat < base then (if a * base + (valN c.toNat).toNat < 340282366920938463463374607431768211456 then whoF base r (a * base + (valN c.toNat).toNat) else none) else whoF base r a
noncomputable def rfOf : Code → Code × Code
  | .rangeFunc _ _ a b => (a, b)
  | _ => (.skip, .skip)
noncomputable def wasg : Code := (rfOf (sub [true, true, false, true, false] (bodyOf Tryz.f76))).1
noncomputable def wbdy : Code := (rfOf (sub [true, true, false, true, false] (bodyOf Tryz.f76))).2
abbrev whH (s : List UInt8) (base at_ : Int) (lo hi : Nat) : Heap := [some ⟨3, [.i .i64 base], .all⟩, some ⟨3, [.i .i64 at_], .all⟩, some ⟨131, [.i .u64 lo, .i .u64 hi], .all⟩, some ⟨9, [.s s], .all⟩, some ⟨3, [.i .i64 base], .all⟩]
theorem wrd_a {call : CallF} (hC : call.Sound Tryz.prog TT) {r : Option Nat} {hs : List HE} {t : Tm} {K : Heap} {v : V} (hw : t.wid = 27) (h13 : t.get 13 = v) {Q : Out → List HE → Prop}
    (hQ : ∀ tA : Tm, tA.wid = 27 → tA.get 8 = v → (∀ j, j ≤ 7 → tA.get j = t.get j) → Q (.norm tA K) hs) : TriG Tryz.prog TT r hs wasg t K Q := by
  refine TriG.reg (t' := ?t1) (H' := ?H1) TT_ok hC (by kernel_rfl) ?e1 ?q1
  case e1 =>
    refine go_false ?_
    refine evSeq_go rfl (by simp [h13] <;> rfl) (by rfl) (by simp [hw]) ?_
    exact evSeq_nil
  refine hQ _ (by simp [hw]) (by simp) ?_
  intro j hj
  have : ¬ j = 8 := by omega
  simp [this]
theorem wrd_b {call : CallF} (hC : call.Sound Tryz.prog TT) {r : Option Nat} {hs : List HE} {t : Tm} (s : List UInt8) (base : Nat) (at_ : Int) (hb : base = 2 ∨ base = 10 ∨ base = 16) (a v : Nat) (ha : a < 340282366920938463463374607431768211456) (hv : v < 16)
    (htim : ∀ p : Nat × Nat × Nat × Nat, p.1 < 18446744073709551616 ∧ p.2.1 < 18446744073709551616 ∧ p.2.2.1 < 18446744073709551616 ∧ p.2.2.2 < 18446744073709551616 → ∀ H, call 96 [wideV p.1 p.2.1, .i .u64 p.2.2.1, .i .u64 p.2.2.2] H = .val (timV (timN p.1 p.2.1 p.2.2.1 p.2.2.2)) H)
    (hmust : ∀ (b : Bool) (e k : Int) (H : Heap), call 55 [.b b, .i .i64 e, .i .i64 k] H = if b = true then .val .un H else .pan (fltV e k) H)
    (hw : t.wid = 27) (h8 : t.get 8 = .i .u64 v) (h4 : t.get 4 = .ptr 0 0) (h5 : t.get 5 = .ptr 1 0) (h7 : t.get 7 = .ptr 2 0) {Q : Out → List HE → Prop}
    (hG : ∀ tA : Tm, a * base + v < 340282366920938463463374607431768211456 → Q (.norm tA (whH s base at_ ((a * base + v) % 18446744073709551616) ((a * base + v) / 18446744073709551616))) hs)
    (hP : ∀ (tA : Tm) (HA : Heap), HA.length = 5 → ¬ a * base + v < 340282366920938463463374607431768211456 → Q (.pan (fltV 33 at_) tA HA) hs) : TriG Tryz.prog TT r hs wbdy t (whH s base at_ (a % 18446744073709551616) (a / 18446744073709551616)) Q := by
  have ht := htim (a % 18446744073709551616, a / 18446744073709551616, base, v) ⟨by simp only; omega, by simp only; omega, by simp only; omega, by simp only; omega⟩
  have en : timN (a % 18446744073709551616) (a / 18446744073709551616) base v = a * base + v := by
    unfold timN
    rcases hb with rfl | rfl | rfl <;> omega
  rw [en] at ht
  simp only [timV, wideV] at ht
  have ex : TT.ext 96 = none := rfl
  have ex2 : TT.ext 55 = none := rfl
  have hwr : IntKind.u64.wrap (base : Int) = base := by rcases hb with rfl | rfl | rfl <;> rfl
  generalize a * base + v = n at ht hG hP
  generalize a % 18446744073709551616 = lo at ht
  generalize a / 18446744073709551616 = hi at ht
  have eN : n < 340282366920938463463374607431768211456 → n / 18446744073709551616 % 18446744073709551616 = n / 18446744073709551616 := fun h => by omega
  generalize n % 18446744073709551616 = lo' at ht hG
  generalize n / 18446744073709551616 % 18446744073709551616 = hi' at ht eN
  clear en ha htim
  refine TriG.block ?_
  apply TriG.seq
  refine TriG.reg (t' := ?t1) (H' := ?H1) TT_ok hC (by kernel_rfl) ?e1 ?q1
  case e1 =>
    refine go_false ?_
    refine evSeq_go rfl (by simp <;> rfl) (by rfl) (by simp [hw]) ?_
    exact evSeq_nil
  apply inSeqG_norm
  apply TriG.seq
  refine TriG.reg (t' := ?t2) (H' := ?H2) TT_ok hC (by kernel_rfl) ?e2 ?q2
  case e2 =>
    refine go_false ?_
    iterate 10 refine evSeq_go rfl (by simp [h8, h4, h5, h7, ht, hwr, ex] <;> rfl) (by rfl) (by simp [hw]) ?_
    exact evSeq_nil
  apply inSeqG_norm
  cases hd : decide (n < 340282366920938463463374607431768211456) with
  | true =>
    have hm : ∀ H, call 55 [.b true, .i .i64 33, .i .i64 at_] H = .val .un H := fun H => by rw [hmust]; rfl
    refine TriG.reg (t' := ?t3) (H' := ?H3) TT_ok hC (by kernel_rfl) ?e3 ?q3
    case e3 =>
      refine go_false ?_
      iterate 3 refine evSeq_go rfl (by simp [h8, h4, h5, h7, hd, hm, ex2] <;> rfl) (by rfl) (by simp [hw]) ?_
      exact evSeq_nil
    refine inBlkG_norm ?_
    rw [decide_eq_true_eq] at hd
    rw [← eN hd] at hG
    exact hG _ hd
  | false =>
    have hm : ∀ H, call 55 [.b false, .i .i64 33, .i .i64 at_] H = .pan (fltV 33 at_) H := fun H => by rw [hmust]; rfl
    refine TriG.regP (t1 := ?t4) (H1 := ?H4) (v := fltV 33 at_) (H' := ?H5) TT_ok hC 2 (by kernel_rfl) rfl ?e4 rfl ?o4 ?q4
    case e4 =>
      iterate 2 refine evSeq_go rfl (by simp [h8, h4, h5, h7, hd, hm, ex2] <;> rfl) (by rfl) (by simp [hw]) ?_
      exact evSeq_nil
    case o4 =>
      simp [h8, h4, h5, h7, hd, hm, ex2] <;> rfl
    exact hP _ _ rfl (of_decide_eq_false hd)
theorem valN_nn0 (c : UInt8) : 0 ≤ valN c.toNat := by
  have := u8_nn c
  unfold valN digN
  split <;> (try split) <;> (try split) <;> omega
theorem loop_dig {call : CallF} (hC : call.Sound Tryz.prog TT) (s : List UInt8) (base : Nat) (at_ : Int) (hb : base = 2 ∨ base = 10 ∨ base = 16) (hlen : s.length < 1100000)
    (hval : ∀ c : UInt8, ∀ H, call 94 [.i .u8 c.toNat, .i .i64 base] H = .val (.tup [.i .u64 (valN c.toNat), .b (decide (valN c.toNat < base))]) H)
    (htim : ∀ p : Nat × Nat × Nat × Nat, p.1 < 18446744073709551616 ∧ p.2.1 < 18446744073709551616 ∧ p.2.2.1 < 18446744073709551616 ∧ p.2.2.2 < 18446744073709551616 → ∀ H, call 96 [wideV p.1 p.2.1, .i .u64 p.2.2.1, .i .u64 p.2.2.2] H = .val (timV (timN p.1 p.2.1 p.2.2.1 p.2.2.2)) H)
    (hmust : ∀ (b : Bool) (e k : Int) (H : Heap), call 55 [.b b, .i .i64 e, .i .i64 k] H = if b = true then .val .un H else .pan (fltV e k) H)
    {l : Nat} {rec : Loop} {t0 : Tm} (hfn : ∃ f, Tryz.prog.funcs[rec.fn]? = some f) (hst : rec.state = .ready) (hpd : rec.pending = none) (hps : rec.params = #[13]) (hasg : rec.assign = wasg) (hbdy : rec.body = wbdy) (hw0 : t0.wid = 27) (e4 : t0.get 4 = .ptr 0 0) (e5 : t0.get 5 = .ptr 1 0) (e7 : t0.get 7 = .ptr 2 0) {Q : Out → List HE → Prop}
    (hP : ∀ (t' : Tm) (H' : Heap) (rec' : Loop), H'.length = 5 → whoF base s 0 = none → Q (.pan (fltV 33 at_) t' H') [⟨l, .loop rec', t0, rec.tmps⟩])
    (hE : ∀ (t' : Tm) (a : Nat), whoF base s 0 = some a → a < 340282366920938463463374607431768211456 → t'.wid = 28 → Q (.exit 0 t' (whH s base at_ (a % 18446744073709551616) (a / 18446744073709551616))) [⟨l, .loop rec, t0, rec.tmps⟩]) :
    ∀ (L pre : List UInt8) (a : Nat) (t : Tm), s = pre ++ L → a < 340282366920938463463374607431768211456 → whoF base s 0 = whoF base L a → t.wid = 28 → t.get 0 = .yld l → t.get 1 = .ptr 3 0 → t.get 2 = .ptr 4 0 → t.get 8 = .i .i64 (s.length : Nat) → t.get 9 = .i .i64 (pre.length : Nat) →
    LTriG Tryz.prog TT none [⟨l, .loop rec, t0, rec.tmps⟩] (sub [true, false, false] (bodyOf Tryz.f109)) t (whH s base at_ (a % 18446744073709551616) (a / 18446744073709551616)) Q := by
  have hrecE : (⟨l, .loop { rec with state := if (none : Option Code).isNone then .ready else .done, pending := none }, t0, rec.tmps⟩ : HE) = ⟨l, .loop rec, t0, rec.tmps⟩ := by
    cases rec
    simp only at hst hpd
    subst hst hpd
    rfl
  intro L
  induction L with
  | nil =>
    intro pre a t hs ha hwh hw t0 t1 t2 t8 t9
    have hF := ai @t0 (ai @t1 (ai @t2 (ai @t8 @t9)))
    have hnl : ¬ ((pre.length : Int) < s.length) := by rw [hs]; simp
    refine LTriG.round ?_
    apply TriG.seq
    refine TriG.reg (t' := ?t1) (H' := ?H1) TT_ok hC (by kernel_rfl) ?e1 ?q1
    case e1 =>
      refine go_false ?_
      refine evSeq_go rfl (by simp [hF, hnl] <;> rfl) (by rfl) (by simp [hw]) ?_
      exact evSeq_nil
    apply inSeqG_norm
    apply TriG.seq
    refine TriG.cond (o := ?o2) (b := ?b2) ?g2 ?r2 ?y2 ?n2
    case g2 => simp [hF, hnl] <;> rfl
    case r2 => rfl
    case y2 => intro h; simp at h
    case n2 =>
      intro _
      refine TriG.exit ?_
      exact hE _ a (by rw [hwh]; rfl) ha (by simp [hw])
  | cons c L ih =>
    intro pre a t hs ha hwh hw t0 t1 t2 t8 t9
    have hF := ai @t0 (ai @t1 (ai @t2 (ai @t8 @t9)))
    have hlt : (pre.length : Int) < s.length := by rw [hs]; simp; omega
    refine LTriG.round ?_
    apply TriG.seq
    refine TriG.reg (t' := ?t1c) (H' := ?H1c) TT_ok hC (by kernel_rfl) ?e1c ?q1c
    case e1c =>
      refine go_false ?_
      refine evSeq_go rfl (by simp [hF, hlt] <;> rfl) (by rfl) (by simp [hw]) ?_
      exact evSeq_nil
    apply inSeqG_norm
    apply TriG.seq
    refine TriG.cond (o := ?o2c) (b := ?b2c) ?g2c ?r2c ?y2c ?n2c
    case g2c => simp [hF, hlt] <;> rfl
    case r2c => rfl
    case n2c => intro h; simp at h
    case y2c =>
      intro _
      refine TriG.skip ?_
      apply inSeqG_norm
      apply TriG.seq
      refine TriG.block ?_
      apply TriG.seq
      refine TriG.reg (t' := ?t3c) (H' := ?H3c) TT_ok hC (by kernel_rfl) ?e3c ?q3c
      case e3c =>
        refine go_false ?_
        iterate 2 refine evSeq_go rfl (by simp [hF, hlt] <;> rfl) (by rfl) (by simp [hw]) ?_
        exact evSeq_nil
      apply inSeqG_norm
      apply TriG.seq
      have hat : atS s pre.length = c.toNat := by rw [hs]; exact at_mid pre L c _ rfl
      have hin : ((pre.length : Nat) : Int).toNat = pre.length := by omega
      have hv0 := valN_nn0 c
      obtain ⟨v, hv⟩ : ∃ v : Nat, valN c.toNat = v := ⟨(valN c.toNat).toNat, by omega⟩
      have hvl := hval c
      rw [hv] at hvl
      refine TriG.lift (Q2 := fun o => ∃ t' : Tm, o = .norm t' (whH s base at_ (a % 18446744073709551616) (a / 18446744073709551616)) ∧ t'.wid = 28 ∧ t'.get 0 = .yld l ∧ t'.get 1 = .ptr 3 0 ∧ t'.get 2 = .ptr 4 0 ∧ t'.get 5 = .i .u64 v ∧ t'.get 6 = .b (decide ((v : Int) < base)) ∧ t'.get 8 = .i .i64 (s.length : Nat) ∧ t'.get 9 = .i .i64 (pre.length : Nat)) ?tri ?_
      case tri =>
        refine Tri.sym (R := fun _ => False) TT_ok hC tr_dig1 (by kernel_rfl) (σ := [.uh (whH s base at_ (a % 18446744073709551616) (a / 18446744073709551616)), .uv (.yld l), .un 3, .un 4, .ui (pre.length : Nat), .ui (s.length : Nat), .us s, .ui base]) (by simp [hw] <;> rfl) rfl ⟨by simp [hF], by simp [hF], by simp [hF], by simp, by simp [hF], by simp [hF], trivial⟩ rfl ⟨by simp, by simp⟩ ?_
        simp -implicitDefEqProofs only [VC, isR, exU, Ask.den, forall_eq, E.den, O1.den, O2.den, O3.den, U.int_ui, U.boo_ub, U.val_uv, U.lst_ul, U.str_us, U.nat_un, U.heap_uh, SH.den, setsD, newD, bD, SB.den, factsTo, LQ, List.cons_append, List.nil_append, List.getElem?_cons_zero, List.getElem?_cons_succ, Option.getD_some, ltB_true, ltB_false, leB_true, leB_false, beq_iff_eq, bne_iff_ne, beq_eq_false_iff_ne, Int.toNat_natCast, hat]
        refine ⟨by omega, hlt, .inl ⟨_, _, fun K => hvl K, ?_⟩⟩
        intro t' hw' f0 f1 f2 f5 f6 f8 f9
        exact ⟨t', rfl, hw', f0, f1, f2, f5, f6, f8, f9⟩
      rintro _ ⟨t', rfl, hw', f0, f1, f2, f5, f6, f8, f9⟩
      refine ⟨trivial, ?_⟩
      apply inSeqG_norm
      clear t0 t1 t2 t8 t9 hF
      have wr1 : IntKind.i64.wrap ((pre.length : Int) + 1) = (pre.length : Int) + 1 := w64 (by omega) (by omega)
      have again : ∀ (a' : Nat) (t3 : Tm), a' < 340282366920938463463374607431768211456 → whoF base s 0 = whoF base L a' → t3.wid = 28 → t3.get 0 = .yld l → t3.get 1 = .ptr 3 0 → t3.get 2 = .ptr 4 0 → t3.get 8 = .i .i64 (s.length : Nat) → t3.get 9 = .i .i64 (pre.length : Nat) →
          TriG Tryz.prog TT none [⟨l, .loop rec, t0, rec.tmps⟩] (sub [true, false, false, true, true, true] (bodyOf Tryz.f109)) t3 (whH s base at_ (a' % 18446744073709551616) (a' / 18446744073709551616)) (inLoopG Tryz.prog TT none (sub [true, false, false] (bodyOf Tryz.f109)) Q) := by
        intro a' t3 ha' hwa' hw3 g0 g1 g2 g8 g9
        refine TriG.reg (t' := ?t9) (H' := ?H9) TT_ok hC (by kernel_rfl) ?e9 ?q9
        case e9 =>
          refine go_false ?_
          iterate 2 refine evSeq_go rfl (by simp [g0, g1, g2, g8, g9, wr1] <;> rfl) (by rfl) (by simp [fits_some, fits_none, hw3, Nat.blt_eq]) ?_
          exact evSeq_nil
        refine inLoopG_norm ?_
        refine ih (pre ++ [c]) a' _ ?_ ha' hwa' ?_ ?_ ?_ ?_ ?_ ?_
        · rw [hs]; simp
        all_goals simp [hw3, g0, g1, g2, g8]
      apply TriG.seq
      by_cases hvb : (v : Int) < base
      · rw [decide_eq_true hvb] at f6
        have hv16 : v < 16 := by rcases hb with rfl | rfl | rfl <;> omega
        have hwc : whoF base (c :: L) a = if a * base + v < 340282366920938463463374607431768211456 then whoF base L (a * base + v) else none := by
          simp only [whoF]
          rw [hv, if_pos hvb, Int.toNat_natCast]
        by_cases hbig : a * base + v < 340282366920938463463374607431768211456
        · refine TriG.yield (vs := [.i .u64 v]) (t1 := ?ty) (H1 := ?Hy) TT_ok hC (by kernel_rfl) 4 hps hasg hbdy rfl ?ey ?gy rfl ?jy ?vy hfn rfl hst ?fy (by simp [hw0]) ?_
          case ey =>
            iterate 2 refine evSeq_go rfl (by simp [f0, f1, f2, f5, f6, f8, f9] <;> rfl) (by rfl) (by simp [fits_some, fits_none, hw', Nat.blt_eq]) ?_
            iterate 2 refine evSeq_go (by simp [wants]) (by simp [f0, f1, f2, f5, f6, f8, f9] <;> rfl) (by rfl) (by simp [fits_some, fits_none, hw', Nat.blt_eq]) ?_
            exact evSeq_nil
          case gy => simp [wants]
          case jy => simp [f0]
          case vy => simp [f5]
          case fy => simp [fits_some, hw', Nat.blt_eq]
          refine wrd_a hC (v := .i .u64 v) (by simp [putL, hw0]) (by simp [putL]) ?_
          intro tA hwA h8A hkA
          refine ⟨_, _, _, rfl, rfl, ?_⟩
          refine wrd_b hC s base at_ hb a v ha hv16 htim hmust hwA h8A (by rw [hkA 4 (by omega)]; simp [putL, e4]) (by rw [hkA 5 (by omega)]; simp [putL, e5]) (by rw [hkA 7 (by omega)]; simp [putL, e7]) (fun tB _ => ?_) (fun _ _ _ h => absurd hbig h)
          refine ⟨_, rfl, none, _, ⟨rfl, rfl⟩, ?t26, ?H26, ?er6, ?_⟩
          case er6 =>
            refine evSeq_go (by simp [wants]) (by simp [f0, f1, f2, f5, f6, f8, f9] <;> rfl) (by rfl) (by simp [fits_some, fits_none, hw', Nat.blt_eq]) ?_
            refine evSeq_go rfl (by simp [f0, f1, f2, f5, f6, f8, f9] <;> rfl) (by rfl) (by simp [fits_some, fits_none, hw', Nat.blt_eq]) ?_
            exact evSeq_nil
          rw [hrecE]
          apply inSeqG_norm
          refine TriG.cond (o := ?o8) (b := ?b8) ?g8 ?r8 ?y8 ?n8
          case g8 => simp [f6] <;> rfl
          case r8 => rfl
          case y8 => intro h; simp at h
          case n8 =>
            intro _
            refine TriG.skip ?_
            refine inBlkG_norm ?_
            apply inSeqG_norm
            refine again _ _ hbig (by rw [hwh, hwc, if_pos hbig]) ?_ ?_ ?_ ?_ ?_ ?_
            all_goals simp [hw', f0, f1, f2, f8, f9]
        · refine TriG.yieldP (vs := [.i .u64 v]) (t1 := ?tz) (H1 := ?Hz) TT_ok hC (by kernel_rfl) 4 hps hasg hbdy rfl ?ez ?gz rfl ?jz ?vz hfn rfl hst (by simp [hw0]) ?_
          case ez =>
            iterate 2 refine evSeq_go rfl (by simp [f0, f1, f2, f5, f6, f8, f9] <;> rfl) (by rfl) (by simp [fits_some, fits_none, hw', Nat.blt_eq]) ?_
            iterate 2 refine evSeq_go (by simp [wants]) (by simp [f0, f1, f2, f5, f6, f8, f9] <;> rfl) (by rfl) (by simp [fits_some, fits_none, hw', Nat.blt_eq]) ?_
            exact evSeq_nil
          case gz => simp [wants]
          case jz => simp [f0]
          case vz => simp [f5]
          refine wrd_a hC (v := .i .u64 v) (by simp [putL, hw0]) (by simp [putL]) ?_
          intro tA hwA h8A hkA
          refine ⟨_, _, _, rfl, rfl, ?_⟩
          refine wrd_b hC s base at_ hb a v ha hv16 htim hmust hwA h8A (by rw [hkA 4 (by omega)]; simp [putL, e4]) (by rw [hkA 5 (by omega)]; simp [putL, e5]) (by rw [hkA 7 (by omega)]; simp [putL, e7]) (fun tB h => absurd h hbig) (fun tB HB hl5 _ => ?_)
          exact ⟨_, _, _, _, rfl, rfl, hP _ _ _ hl5 (by rw [hwh, hwc, if_neg hbig])⟩
      · rw [decide_eq_false hvb] at f6
        have hwc : whoF base (c :: L) a = whoF base L a := by
          simp only [whoF]
          rw [hv, if_neg hvb]
        refine TriG.reg (t' := ?t7) (H' := ?H7) TT_ok hC (by kernel_rfl) ?e7 ?q7
        case e7 =>
          refine go_false ?_
          iterate 2 refine evSeq_go rfl (by simp [f0, f1, f2, f5, f6, f8, f9] <;> rfl) (by rfl) (by simp [fits_some, fits_none, hw', Nat.blt_eq]) ?_
          iterate 4 refine evSeq_off (by simp [wants]) (by simp [fits_some, fits_none, hw', Nat.blt_eq]) ?_
          refine evSeq_go rfl (by simp [f0, f1, f2, f5, f6, f8, f9] <;> rfl) (by rfl) (by simp [fits_some, fits_none, hw', Nat.blt_eq]) ?_
          exact evSeq_nil
        apply inSeqG_norm
        refine TriG.cond (o := ?o6) (b := ?b6) ?g6 ?r6 ?y6 ?n6
        case g6 => simp [f6] <;> rfl
        case r6 => rfl
        case y6 => intro h; simp at h
        case n6 =>
          intro _
          refine TriG.skip ?_
          refine inBlkG_norm ?_
          apply inSeqG_norm
          refine again a _ ha (by rw [hwh, hwc]) ?_ ?_ ?_ ?_ ?_ ?_
          all_goals simp [hw', f0, f1, f2, f8, f9]
def whoO (s : List UInt8) (base at_ : Int) (t : Tm) : Option Nat → Out
  | some a => .norm t (whH s base at_ (a % 18446744073709551616) (a / 18446744073709551616))
  | none => .pan (fltV 33 at_) t [none, none, none, none, none]
theorem hle_none {H : Heap} (h : H.length = 5) : HLe [none, none, none, none, none] H := by
  refine ⟨h.symm, fun i b hi => ?_⟩
  match i, hi with
  | 0, hi => cases hi
  | 1, hi => cases hi
  | 2, hi => cases hi
  | 3, hi => cases hi
  | 4, hi => cases hi
  | n + 5, hi => simp at hi
theorem iter_dig {call : CallF} (hC : call.Sound Tryz.prog TT) (s : List UInt8) (base : Nat) (at_ : Int) (hb : base = 2 ∨ base = 10 ∨ base = 16) (hlen : s.length < 1100000)
    (hval : ∀ c : UInt8, ∀ H, call 94 [.i .u8 c.toNat, .i .i64 base] H = .val (.tup [.i .u64 (valN c.toNat), .b (decide (valN c.toNat < base))]) H)
    (htim : ∀ p : Nat × Nat × Nat × Nat, p.1 < 18446744073709551616 ∧ p.2.1 < 18446744073709551616 ∧ p.2.2.1 < 18446744073709551616 ∧ p.2.2.2 < 18446744073709551616 → ∀ H, call 96 [wideV p.1 p.2.1, .i .u64 p.2.2.1, .i .u64 p.2.2.2] H = .val (timV (timN p.1 p.2.1 p.2.2.1 p.2.2.2)) H)
    (hmust : ∀ (b : Bool) (e k : Int) (H : Heap), call 55 [.b b, .i .i64 e, .i .i64 k] H = if b = true then .val .un H else .pan (fltV e k) H)
    {l : Nat} {rec : Loop} {t0 : Tm} (hfn : ∃ f, Tryz.prog.funcs[rec.fn]? = some f) (hst : rec.state = .ready) (hpd : rec.pending = none) (hps : rec.params = #[13]) (hasg : rec.assign = wasg) (hbdy : rec.body = wbdy) (hw0 : t0.wid = 27) (e4 : t0.get 4 = .ptr 0 0) (e5 : t0.get 5 = .ptr 1 0) (e7 : t0.get 7 = .ptr 2 0) :
    TriG Tryz.prog TT none [⟨l, .loop rec, t0, rec.tmps⟩] (bodyOf Tryz.f109) (Tm.init Tryz.f109.ntmps [.yld l, .ptr 3 0, .ptr 4 0]) (whH s base at_ 0 0) (RangeQP TT Tryz.f109 l rec.tmps t0 (whoO s base at_ t0 (whoF base s 0)) []) := by
  have h0 : (Tm.init Tryz.f109.ntmps [.yld l, .ptr 3 0, .ptr 4 0]).get 0 = .yld l := by rw [get_init]; rfl
  have h1 : (Tm.init Tryz.f109.ntmps [.yld l, .ptr 3 0, .ptr 4 0]).get 1 = .ptr 3 0 := by rw [get_init]; rfl
  have h2 : (Tm.init Tryz.f109.ntmps [.yld l, .ptr 3 0, .ptr 4 0]).get 2 = .ptr 4 0 := by rw [get_init]; rfl
  have hw : (Tm.init Tryz.f109.ntmps [.yld l, .ptr 3 0, .ptr 4 0]).wid = 28 := rfl
  generalize Tm.init Tryz.f109.ntmps [.yld l, .ptr 3 0, .ptr 4 0] = t at *
  apply TriG.seq
  refine TriG.reg (t' := ?t1) (H' := ?H1) TT_ok hC (by kernel_rfl) ?e1 ?q1
  case e1 =>
    refine go_false ?_
    iterate 3 refine evSeq_go rfl (by simp [h0, h1, h2] <;> rfl) (by rfl) (by simp [hw]) ?_
    exact evSeq_nil
  apply inSeqG_norm
  refine TriG.block ?_
  refine TriG.loop ?_
  refine loop_dig hC s base at_ hb hlen hval htim hmust hfn hst hpd hps hasg hbdy hw0 e4 e5 e7 ?_ ?_ s [] 0 _ rfl (by omega) rfl ?_ ?_ ?_ ?_ ?_ ?_
  · intro t' H' rec' hl hn
    rw [hn]
    exact .inr ⟨rec', _, t', H', [none, none, none, none, none], hle_none hl, rfl, rfl, rfl⟩
  · intro t' a ha _ hw'
    rw [ha]
    refine inBlkG_exit ?_
    exact .inl ⟨rec, _, _, .tup [], HLe.refl _, ⟨_, .inl rfl, rfl⟩, rfl, by rw [hst]; simp, .inl ⟨hpd, rfl⟩⟩
  all_goals simp [hw, h0, h1, h2]
theorem whoF_lt (base : Nat) : ∀ (L : List UInt8) (a b : Nat), whoF base L a = some b → a < 340282366920938463463374607431768211456 → b < 340282366920938463463374607431768211456
  | [], a, b, h, ha => by
    have h := Option.some.inj h
    rw [← h]; exact ha
  | c :: r, a, b, h, ha => by
    simp only [whoF] at h
    by_cases h1 : valN c.toNat < base
    · rw [if_pos h1] at h
      by_cases h2 : a * base + (valN c.toNat).toNat < 340282366920938463463374607431768211456
      · rw [if_pos h2] at h
        exact whoF_lt base r _ b h h2
      · rw [if_neg h2] at h; cases h
    · rw [if_neg h1] at h
      exact whoF_lt base r a b h ha
def whoV (base : Nat) (s : List UInt8) (at_ : Int) : Res := match whoF base s 0 with
  | some a => .val (.s (decN a))
  | none => .pan (fltV 33 at_)
theorem body_2076 {call : CallF} (hC : call.Sound Tryz.prog TT) (s : List UInt8) (base : Nat) (at_ : Int) (hb : base = 2 ∨ base = 10 ∨ base = 16) (hlen : s.length < 1100000)
    (hval : ∀ c : UInt8, ∀ H, call 94 [.i .u8 c.toNat, .i .i64 base] H = .val (.tup [.i .u64 (valN c.toNat), .b (decide (valN c.toNat < base))]) H)
    (htim : ∀ p : Nat × Nat × Nat × Nat, p.1 < 18446744073709551616 ∧ p.2.1 < 18446744073709551616 ∧ p.2.2.1 < 18446744073709551616 ∧ p.2.2.2 < 18446744073709551616 → ∀ H, call 96 [wideV p.1 p.2.1, .i .u64 p.2.2.1, .i .u64 p.2.2.2] H = .val (timV (timN p.1 p.2.1 p.2.2.1 p.2.2.2)) H)
    (hmust : ∀ (b : Bool) (e k : Int) (H : Heap), call 55 [.b b, .i .i64 e, .i .i64 k] H = if b = true then .val .un H else .pan (fltV e k) H)
    (hdig : ∀ (s : List UInt8) (base : Int) (H : Heap), call 95 [.s s, .i .i64 base] H = .val (.fn 109 [.ptr H.length 0, .ptr (H.length + 1) 0]) (H ++ digB2 s base))
    (htxt : ∀ p : Nat × Nat, p.1 < 18446744073709551616 ∧ p.2 < 18446744073709551616 → ∀ H, call 97 [wideV p.1 p.2] H = .val (.s (decN (p.1 + p.2 * 18446744073709551616))) H) :
    GXBody Tryz.prog TT 76 [.s s, .i .i64 base, .i .i64 at_] [] (isR (whoV base s at_)) := by
  have ex1 : TT.ext 95 = none := rfl
  have ex2 : TT.ext 97 = none := rfl
  refine ⟨Tryz.f76, _, rfl, rfl, by simp [Tryz.f76], ?_⟩
  have h0 : (Tm.init Tryz.f76.ntmps [.s s, .i .i64 base, .i .i64 at_]).get 0 = .s s := by rw [get_init]; rfl
  have h1 : (Tm.init Tryz.f76.ntmps [.s s, .i .i64 base, .i .i64 at_]).get 1 = .i .i64 base := by rw [get_init]; rfl
  have h2 : (Tm.init Tryz.f76.ntmps [.s s, .i .i64 base, .i .i64 at_]).get 2 = .i .i64 at_ := by rw [get_init]; rfl
  have hw : (Tm.init Tryz.f76.ntmps [.s s, .i .i64 base, .i .i64 at_]).wid = 27 := rfl
  generalize Tm.init Tryz.f76.ntmps [.s s, .i .i64 base, .i .i64 at_] = t at *
  apply TriG.seq
  refine TriG.reg (t' := ?t1) (H' := ?H1) TT_ok hC (by kernel_rfl) ?e1 ?q1
  case e1 =>
    refine go_false ?_
    iterate 3 refine evSeq_go rfl (by simp [h0, h1, h2] <;> rfl) (by rfl) (by simp [hw]) ?_
    exact evSeq_nil
  apply inSeqG_norm
  apply TriG.seq
  refine TriG.reg (t' := ?t2) (H' := ?H2) TT_ok hC (by kernel_rfl) ?e2 ?q2
  case e2 =>
    refine go_false ?_
    refine evSeq_go rfl (by simp [h0, h1, h2] <;> rfl) (by rfl) (by simp [hw]) ?_
    exact evSeq_nil
  apply inSeqG_norm
  iterate 2 apply TriG.seq
  refine TriG.reg (t' := ?t3) (H' := ?H3) TT_ok hC (by kernel_rfl) ?e3 ?q3
  case e3 =>
    refine go_false ?_
    iterate 3 refine evSeq_go rfl (by simp [h0, h1, h2, hdig, digB2, ex1] <;> rfl) (by rfl) (by simp [hw]) ?_
    exact evSeq_nil
  apply inSeqG_norm
  refine TriG.block ?_
  refine TriG.range (gv := some (.fn 109 [.ptr 3 0, .ptr 4 0])) (oz := ?oz) (hsz := []) TT_ok (by simp) rfl Tryz.func109 rfl (TT_ok.func 109 _ _ rfl rfl).2 (by decide) (by simp) ?hQ ?hI
  case hI =>
    intro l rec hfn hst hpd hps hasg hbdy
    refine iter_dig hC s base at_ hb hlen hval htim hmust hfn hst hpd hps hasg hbdy ?_ ?_ ?_ ?_
    all_goals simp [hw]
  case hQ =>
    cases hF : whoF base s 0 with
    | none =>
      simp only [whoO, whoV, hF]
      exact rfl
    | some a =>
      have hlt := whoF_lt base s 0 a hF (by omega)
      have ht := htxt (a % 18446744073709551616, a / 18446744073709551616) ⟨by simp only; omega, by simp only; omega⟩
      rw [show a % 18446744073709551616 + a / 18446744073709551616 * 18446744073709551616 = a from by omega] at ht
      simp only [wideV] at ht
      simp only [whoO, whoV, hF]
      generalize a % 18446744073709551616 = lo at ht ⊢
      generalize a / 18446744073709551616 = hi at ht ⊢
      clear hlt
      refine inBlkG_norm ?_
      apply inSeqG_norm
      apply TriG.seq
      refine TriG.reg (t' := ?t5) (H' := ?H5) TT_ok hC (by kernel_rfl) ?e5 ?q5
      case e5 =>
        refine go_false ?_
        iterate 3 refine evSeq_go rfl (by simp [h0, h1, h2, ht, ex2] <;> rfl) (by rfl) (by simp [hw]) ?_
        exact evSeq_nil
      apply inSeqG_norm
      refine TriG.ret ?_
      refine ⟨.s (decN a), rfl, ?_⟩
      simp [Tryz.f76]
theorem spec_gx {P : Program} {T : Tab} (hp : T.Plain) (F : FuncId) {α : Type} (enc : α → List V) (D : α → Prop) (r : α → Res) (hnl : ∀ a, D a → nlL (enc a) = true ∧ (r a).nl = true) (inj : ∀ a b, D a → D b → enc a = enc b → r a = r b)
    (h : ∀ a, D a → XFact P T F (enc a) [] (isR (r a))) : ∃ g, SpecOK P T F g ∧ ∀ a, D a → ∀ H, g (enc a) H = (r a).at H := by
  classical
  refine ⟨fun vs H => if hd : ∃ a, D a ∧ vs = enc a then (r hd.choose).at H else .no, ?_, ?_⟩
  · intro vs H q hq hne
    simp only at hq
    split at hq
    · rename_i hd
      obtain ⟨ha, he⟩ := hd.choose_spec
      generalize hd.choose = a at ha he hq
      subst he
      obtain ⟨x, hx, _, hent, hw⟩ := h a ha
      refine ⟨hent, fun M ρ w args hS hr => ?_⟩
      have k := hw M [] w args (hS.forget hp) (nlL_rel (σ := []) _ args (hnl a ha).1 hr)
      subst hq
      have hn := (hnl a ha).2
      cases hra : r a with
      | val v =>
        rw [hra] at hx hn
        cases x with
        | val v' J =>
          have hx : Res.val v = .val v' := hx
          cases hx
          refine Calls.mono k ?_
          rintro e w' ⟨y, M', σ, rfl, he, hy, hk⟩
          exact ⟨y, M', ρ, rfl, he.recall, nl_rel v y hn hy, hS.recall hk he⟩
        | pan v' J => cases (show Res.val v = .pan v' from hx)
        | no => exact hx.elim
      | pan v =>
        rw [hra] at hx hn
        cases x with
        | pan v' J =>
          have hx : Res.pan v = .pan v' := hx
          cases hx
          refine Calls.mono k ?_
          rintro e w' ⟨y, M', σ, rfl, he, hy, hk⟩
          exact ⟨y, M', ρ, rfl, he.recall, nl_rel v y hn hy, hS.recall hk he⟩
        | val v' J => cases (show Res.pan v = .val v' from hx)
        | no => exact hx.elim
    · exact absurd hq.symm hne
  · intro a ha H
    have hd : ∃ b, D b ∧ enc a = enc b := ⟨a, ha, rfl⟩
    obtain ⟨h1, h2⟩ := hd.choose_spec
    show (if hd : ∃ b, D b ∧ enc a = enc b then (r hd.choose).at H else .no) = _
    rw [dif_pos hd, inj a _ ha h1 h2]
theorem sp2076 : ∃ g, SpecOK Tryz.prog TT 76 g ∧ ∀ (s : List UInt8) (base : Nat) (at_ : Int), base = 2 ∨ base = 10 ∨ base = 16 → s.length < 1100000 → ∀ H, g [.s s, .i .i64 base, .i .i64 at_] H = (whoV base s at_).at H := by
  obtain ⟨g1, k1, s1⟩ := sp2094
  obtain ⟨g2, k2, s2⟩ := sp2055
  obtain ⟨g3, k3, s3⟩ := sp2096
  obtain ⟨g4, k4, s4⟩ := sp2095
  obtain ⟨g5, k5, s5⟩ := sp2097
  have hC := ws (ws (ws (ws (ws n0 k1) k2) k3) k4) k5
  obtain ⟨g, k, h⟩ := spec_gx (P := Tryz.prog) (T := TT) TT_plain 76 (fun p : List UInt8 × Nat × Int => [.s p.1, .i .i64 p.2.1, .i .i64 p.2.2]) (fun p => (p.2.1 = 2 ∨ p.2.1 = 10 ∨ p.2.1 = 16) ∧ p.1.length < 1100000) (fun p => whoV p.2.1 p.1 p.2.2)
    (fun p _ => ⟨rfl, by unfold whoV; cases whoF p.2.1 p.1 0 <;> rfl⟩)
    (fun p q _ _ he => by
      simp only [List.cons.injEq, V.s.injEq, V.i.injEq, true_and, and_true, Int.ofNat_inj] at he
      obtain ⟨h1, h2, h3⟩ := he
      rw [h1, h2, h3])
    (fun p hp => GXBody.fact TT_ok (body_2076 hC p.1 p.2.1 p.2.2 hp.1 hp.2
      (fun c H => by rw [w_other _ _ _ _ rfl, w_other _ _ _ _ rfl, w_other _ _ _ _ rfl, w_other _ _ _ _ rfl, w_here]; exact s1 _ _ (by omega) (by have := c.toNat_lt; omega) (by have := hp.1; omega) H)
      (fun q hq H => by rw [w_other _ _ _ _ rfl, w_other _ _ _ _ rfl, w_here]; exact s3 q hq H)
      (fun b e k H => by rw [w_other _ _ _ _ rfl, w_other _ _ _ _ rfl, w_other _ _ _ _ rfl, w_here]; exact s2 b e k H)
      (fun s b H => by rw [w_other _ _ _ _ rfl, w_here]; exact s4 s b H)
      (fun q hq H => by rw [w_here]; exact s5 q hq H)))
  exact ⟨g, k, fun s base at_ hb hs H => h (s, base, at_) ⟨hb, hs⟩ H⟩
def runF (base : Int) : List UInt8 → Nat → Option Nat
  | [], n => some n
  | c :: r, n => if valN c.toNat < base then runF base r (n + 1) else if c.toNat ≠ 95 ∨ n = 0 then some n else match r with
    | d :: _ => if valN d.toNat < base then runF base r (n + 1) else none
    | [] => none
def RunE (r : Option Nat) (at_ : Int) (R : Res → Prop) : Prop := match r with
  | some n => R (.val (.i .i64 n))
  | none => R (.pan (fltV 33 at_))

theorem loop2075 {call : CallF} (hC : call.Sound Tryz.prog TT) {Q : Out → Prop} (base at_ : Int) (hb : base = 2 ∨ base = 10 ∨ base = 16) (hval : ∀ c : UInt8, ∀ H, call 94 [.i .u8 c.toNat, .i .i64 base] H = .val (.tup [.i .u64 (valN c.toNat), .b (decide (valN c.toNat < base))]) H)
    (hmust : ∀ (b : Bool) (e k : Int) (H : Heap), call 55 [.b b, .i .i64 e, .i .i64 k] H = if b = true then .val .un H else .pan (fltV e k) H) : ∀ (L pre : List UInt8) (t : Tm) (H : Heap), (pre ++ L).length < 1100000 → t.wid = 55 → t.get 0 = .s (pre ++ L) → t.get 1 = .i .i64 base → t.get 2 = .i .i64 at_ → t.get 7 = .i .i64 pre.length →
    (∀ (t' : Tm) (H' : Heap) (n : Nat), runF base L pre.length = some n → t'.wid = 55 → t'.get 7 = .i .i64 n → Q (.exit 0 t' H')) →
    (∀ (v : V) (t' : Tm) (H' : Heap), runF base L pre.length = none → v = fltV 33 at_ → Q (.pan v t' H')) →
    LTri Tryz.prog TT (sub [true, true, false, false, false] (bodyOf Tryz.f75)) t H Q := by
 intro L
 induction L with
 | nil =>
   intro pre t H hlen hw h0 h1 h2 h7 hE hP
   have hF := ai @h0 (ai @h1 (ai @h2 @h7))
   refine LTri.round' ?_
   apply sQ
   apply rS hC
   · iterate 4 refine evSeq_go rfl (by simp [hF] <;> rfl) (by rfl) (by simp [hw]) ?_
     rfl
   refine cF (by simp [hF] <;> rfl) ?_
   refine Tri.exit ?_
   refine inSeq_exit ?_
   refine inLoop_exit ?_
   exact hE _ _ pre.length rfl (by simp [hw]) (by simp [h7])
 | cons b L ih =>
   intro pre t H hlen hw h0 h1 h2 h7 hE hP
   have hlt := fin_len pre.length L.length
   have hat := str_at pre b L
   have hat2 := str_at2 pre b L
   cases hd : decide (valN b.toNat < base) with
   | true =>
     have hv : ∀ H, call 94 [.i .u8 b.toNat, .i .i64 base] H = .val (.tup [.i .u64 (valN b.toNat), .b true]) H := fun H => by rw [hval, hd]
     rw [decide_eq_true_eq] at hd
     have hF := ai @h0 (ai @h1 (ai @h2 (ai @h7 (ai @hlt (ai @hat (ai @hat2 @hv))))))
     refine LTri.round' ?_
     apply sQ
     apply rS hC
     · iterate 4 refine evSeq_go rfl (by simp [hF] <;> rfl) (by rfl) (by simp [hw]) ?_
       rfl
     refine cT (by simp [hF] <;> rfl) ?_
     apply Tri.skip
     apply sN
     apply bK
     apply sQ
     apply rS hC
     · iterate 10 refine evSeq_go rfl (by simp [hF] <;> rfl) (by rfl) (by simp [hw]) ?_
       rfl
     apply rS hC
     · refine evSeq_go rfl (by simp [hF] <;> rfl) (by rfl) (by simp [hw]) ?_
       rfl
     refine cT (by simp [hF] <;> rfl) ?_
     apply rS hC
     · iterate 3 refine evSeq_go rfl (by simp [hF] <;> rfl) (by rfl) (by simp [hw]) ?_
       rfl
     refine Tri.exit ?_
     refine inSeq_exit ?_
     refine inBlk_exit ?_
     refine inLoop_norm ?_
     refine ih (pre ++ [b]) _ _ (by simpa using hlen) (by simp [hw]) (by simp [h0]) (by simp [h1]) (by simp [h2]) (by simp <;> exact wrap_i64 (by omega) (by simp at hlen; omega)) (fun t' H' n k1 k2 k3 => hE t' H' n (by simp only [runF, hd, if_true]; simpa using k1) k2 k3) (fun v t' H' k1 k2 => hP v t' H' (by simp only [runF, hd, if_true]; simpa using k1) k2)
   | false =>
     have hv : ∀ H, call 94 [.i .u8 b.toNat, .i .i64 base] H = .val (.tup [.i .u64 (valN b.toNat), .b false]) H := fun H => by rw [hval, hd]
     cases hc : ((b.toNat : Int) != 95) with
     | true =>
       have hcc : b.toNat ≠ 95 ∨ pre.length = 0 := .inl (by simp at hc; omega)
       have hF := ai @h0 (ai @h1 (ai @h2 (ai @h7 (ai @hlt (ai @hat (ai @hat2 (ai @hv @hc)))))))
       refine LTri.round' ?_
       apply sQ
       apply rS hC
       · iterate 4 refine evSeq_go rfl (by simp [hF] <;> rfl) (by rfl) (by simp [hw]) ?_
         rfl
       refine cT (by simp [hF] <;> rfl) ?_
       apply Tri.skip
       apply sN
       apply bK
       apply sQ
       apply rS hC
       · iterate 10 refine evSeq_go rfl (by simp [hF] <;> rfl) (by rfl) (by simp [hw]) ?_
         rfl
       apply rS hC
       · refine evSeq_go rfl (by simp [hF] <;> rfl) (by rfl) (by simp [hw]) ?_
         rfl
       refine cF (by simp [hF] <;> rfl) ?_
       apply Tri.skip
       apply sN
       apply sQ
       apply rS hC
       · iterate 5 refine evSeq_go rfl (by simp [hF] <;> rfl) (by rfl) (by simp [hw]) ?_
         iterate 2 refine evSeq_off (by simp [wants, hF]) (by simp [hw]) ?_
         refine evSeq_go rfl (by simp [hF] <;> rfl) (by rfl) (by simp [hw]) ?_
         rfl
       refine cT (by simp [hF] <;> rfl) ?_
       refine Tri.exit ?_
       refine inSeq_exit ?_
       refine inBlk_pass rfl ?_
       refine inLoop_exit ?_
       exact hE _ _ pre.length (by simp only [runF]; rw [if_neg (by simpa using hd), if_pos hcc]) (by simp [hw]) (by simp [h7])
     | false =>
       have hc5 : b.toNat = 95 := by simp at hc; omega
       cases hz : ((pre.length : Int) == 0) with
       | true =>
         have hcc : b.toNat ≠ 95 ∨ pre.length = 0 := .inr (by simp at hz; simp [hz])
         have hF := ai @h0 (ai @h1 (ai @h2 (ai @h7 (ai @hlt (ai @hat (ai @hat2 (ai @hv (ai @hc @hz))))))))
         refine LTri.round' ?_
         apply sQ
         apply rS hC
         · iterate 4 refine evSeq_go rfl (by simp [hF] <;> rfl) (by rfl) (by simp [hw]) ?_
           rfl
         refine cT (by simp [hF] <;> rfl) ?_
         apply Tri.skip
         apply sN
         apply bK
         apply sQ
         apply rS hC
         · iterate 10 refine evSeq_go rfl (by simp [hF] <;> rfl) (by rfl) (by simp [hw]) ?_
           rfl
         apply rS hC
         · refine evSeq_go rfl (by simp [hF] <;> rfl) (by rfl) (by simp [hw]) ?_
           rfl
         refine cF (by simp [hF] <;> rfl) ?_
         apply Tri.skip
         apply sN
         apply sQ
         apply rS hC
         · iterate 5 refine evSeq_go rfl (by simp [hF] <;> rfl) (by rfl) (by simp [hw]) ?_
           iterate 2 refine evSeq_go (by simp [wants, hF]) (by simp [hF] <;> rfl) (by rfl) (by simp [hw]) ?_
           refine evSeq_go rfl (by simp [hF] <;> rfl) (by rfl) (by simp [hw]) ?_
           rfl
         refine cT (by simp [hF] <;> rfl) ?_
         refine Tri.exit ?_
         refine inSeq_exit ?_
         refine inBlk_pass rfl ?_
         refine inLoop_exit ?_
         exact hE _ _ pre.length (by simp only [runF]; rw [if_neg (by simpa using hd), if_pos hcc]) (by simp [hw]) (by simp [h7])
       | false =>
         have hzn : pre.length ≠ 0 := by simp at hz; simp [hz]
         have hncc : ¬ (b.toNat ≠ 95 ∨ pre.length = 0) := by omega
         have hdd : ¬ valN b.toNat < base := by simpa using hd
         have hw1 : IntKind.i64.wrap ((pre.length : Int) + 1) = pre.length + 1 := wrap_i64 (by omega) (by simp at hlen; omega)
         cases L with
         | nil =>
           have hlt : (pre.length : Int) < pre.length + 1 := by omega
           have hrun : runF base [b] pre.length = none := by simp only [runF]; rw [if_neg hdd, if_neg hncc]
           have hm : ∀ H, call 55 [.b false, .i .i64 33, .i .i64 at_] H = .pan (fltV 33 at_) H := fun H => by rw [hmust]; rfl
           have hF := ai @h0 (ai @h1 (ai @h2 (ai @h7 (ai @hlt (ai @hat (ai @hat2 (ai @hv (ai @hc (ai @hz (ai @hw1 @hm))))))))))
           refine LTri.round' ?_
           apply sQ
           apply rS hC
           · iterate 4 refine evSeq_go rfl (by simp [hF] <;> rfl) (by rfl) (by simp [hw]) ?_
             rfl
           refine cT (by simp [hF] <;> rfl) ?_
           apply Tri.skip
           apply sN
           apply bK
           apply sQ
           apply rS hC
           · iterate 10 refine evSeq_go rfl (by simp [hF] <;> rfl) (by rfl) (by simp [hw]) ?_
             rfl
           apply rS hC
           · refine evSeq_go rfl (by simp [hF] <;> rfl) (by rfl) (by simp [hw]) ?_
             rfl
           refine cF (by simp [hF] <;> rfl) ?_
           apply Tri.skip
           apply sN
           apply sQ
           apply rS hC
           · iterate 5 refine evSeq_go rfl (by simp [hF] <;> rfl) (by rfl) (by simp [hw]) ?_
             iterate 2 refine evSeq_go (by simp [wants, hF]) (by simp [hF] <;> rfl) (by rfl) (by simp [hw]) ?_
             refine evSeq_go rfl (by simp [hF] <;> rfl) (by rfl) (by simp [hw]) ?_
             rfl
           refine cF (by simp [hF] <;> rfl) ?_
           apply Tri.skip
           apply sN
           apply rS hC
           · iterate 6 refine evSeq_go rfl (by simp [hF] <;> rfl) (by rfl) (by simp [hw]) ?_
             rfl
           apply sQ
           apply rS hC
           · refine evSeq_go rfl (by simp [hF] <;> rfl) (by rfl) (by simp [hw]) ?_
             rfl
           refine cF (by simp [hF] <;> rfl) ?_
           apply Tri.skip
           apply sN
           apply sQ
           refine Tri.regP (v := ?ve11) (t' := ?te11) (H' := ?He11) TT_ok hC ?ee11 ?qe11
           case ee11 =>
            refine go_false ?_
            iterate 2 refine evSeq_go rfl (by simp [hF] <;> rfl) (by rfl) (by simp [hw]) ?_
            refine evSeq_panG rfl (by simp [hF] <;> rfl) (by rfl) ?_
            exact rfl
           refine inSeq_pan ?_
           refine inBlk_pan ?_
           refine inLoop_pan ?_
           exact hP _ _ _ hrun rfl
         | cons d L =>
           have hlt : (pre.length : Int) < pre.length + (L.length + 1 + 1) := by omega
           have hl1 : (pre.length : Int) + 1 < pre.length + (L.length + 1 + 1) := by omega
           have hat3 : (pre ++ b :: d :: L)[pre.length + 1]? = some d := by have := str_at (pre ++ [b]) d L; simpa using this
           have hat4 : ∀ h, (pre ++ b :: d :: L)[pre.length + 1]'h = d := fun h => by rw [List.getElem?_eq_getElem h] at hat3; exact Option.some.inj hat3
           cases hd2 : decide (valN d.toNat < base) with
           | true =>
             have hv2 : ∀ H, call 94 [.i .u8 d.toNat, .i .i64 base] H = .val (.tup [.i .u64 (valN d.toNat), .b true]) H := fun H => by rw [hval, hd2]
             have hrun : runF base (b :: d :: L) pre.length = runF base (d :: L) (pre.length + 1) := by simp only [runF]; rw [if_neg hdd, if_neg hncc, if_pos (by simpa using hd2)]
             have hm : ∀ H, call 55 [.b true, .i .i64 33, .i .i64 at_] H = .val .un H := fun H => by rw [hmust]; rfl
             have hF := ai @h0 (ai @h1 (ai @h2 (ai @h7 (ai @hlt (ai @hat (ai @hat2 (ai @hv (ai @hc (ai @hz (ai @hw1 (ai @hl1 (ai @hat3 (ai @hat4 (ai @hv2 @hm))))))))))))))
             refine LTri.round' ?_
             apply sQ
             apply rS hC
             · iterate 4 refine evSeq_go rfl (by simp [hF] <;> rfl) (by rfl) (by simp [hw]) ?_
               rfl
             refine cT (by simp [hF] <;> rfl) ?_
             apply Tri.skip
             apply sN
             apply bK
             apply sQ
             apply rS hC
             · iterate 10 refine evSeq_go rfl (by simp [hF] <;> rfl) (by rfl) (by simp [hw]) ?_
               rfl
             apply rS hC
             · refine evSeq_go rfl (by simp [hF] <;> rfl) (by rfl) (by simp [hw]) ?_
               rfl
             refine cF (by simp [hF] <;> rfl) ?_
             apply Tri.skip
             apply sN
             apply sQ
             apply rS hC
             · iterate 5 refine evSeq_go rfl (by simp [hF] <;> rfl) (by rfl) (by simp [hw]) ?_
               iterate 2 refine evSeq_go (by simp [wants, hF]) (by simp [hF] <;> rfl) (by rfl) (by simp [hw]) ?_
               refine evSeq_go rfl (by simp [hF] <;> rfl) (by rfl) (by simp [hw]) ?_
               rfl
             refine cF (by simp [hF] <;> rfl) ?_
             apply Tri.skip
             apply sN
             apply rS hC
             · iterate 6 refine evSeq_go rfl (by simp [hF] <;> rfl) (by rfl) (by simp [hw]) ?_
               rfl
             apply sQ
             apply rS hC
             · refine evSeq_go rfl (by simp [hF] <;> rfl) (by rfl) (by simp [hw]) ?_
               rfl
             refine cT (by simp [hF] <;> rfl) ?_
             apply rN hC
             · iterate 10 refine evSeq_go rfl (by simp [hF] <;> rfl) (by rfl) (by simp [hw]) ?_
               rfl
             apply sN
             apply rS hC
             · iterate 3 refine evSeq_go rfl (by simp [hF] <;> rfl) (by rfl) (by simp [hw]) ?_
               rfl
             apply rN hC
             · iterate 3 refine evSeq_go rfl (by simp [hF] <;> rfl) (by rfl) (by simp [hw]) ?_
               rfl
             apply bN
             refine inLoop_norm ?_
             refine ih (pre ++ [b]) _ _ (by simpa using hlen) (by simp [hw]) (by simp [h0]) (by simp [h1]) (by simp [h2]) (by simp <;> exact wrap_i64 (by omega) (by simp at hlen; omega)) (fun t' H' n k1 k2 k3 => hE t' H' n (by rw [hrun]; simpa using k1) k2 k3) (fun v t' H' k1 k2 => hP v t' H' (by rw [hrun]; simpa using k1) k2)
           | false =>
             have hv2 : ∀ H, call 94 [.i .u8 d.toNat, .i .i64 base] H = .val (.tup [.i .u64 (valN d.toNat), .b false]) H := fun H => by rw [hval, hd2]
             have hrun : runF base (b :: d :: L) pre.length = none := by simp only [runF]; rw [if_neg hdd, if_neg hncc, if_neg (by simpa using hd2)]
             have hm : ∀ H, call 55 [.b false, .i .i64 33, .i .i64 at_] H = .pan (fltV 33 at_) H := fun H => by rw [hmust]; rfl
             have hF := ai @h0 (ai @h1 (ai @h2 (ai @h7 (ai @hlt (ai @hat (ai @hat2 (ai @hv (ai @hc (ai @hz (ai @hw1 (ai @hl1 (ai @hat3 (ai @hat4 (ai @hv2 @hm))))))))))))))
             refine LTri.round' ?_
             apply sQ
             apply rS hC
             · iterate 4 refine evSeq_go rfl (by simp [hF] <;> rfl) (by rfl) (by simp [hw]) ?_
               rfl
             refine Tri.condG (o := ?of2) (b := ?bf2) ?gf2 ?rf2 ?yf2 ?nf2
             case gf2 => simp [hF] <;> rfl
             case rf2 => rfl
             case yf2 =>
              intro hy2
              apply Tri.skip
              apply sN
              apply bK
              apply sQ
              apply rS hC
              · iterate 10 refine evSeq_go rfl (by simp [hF] <;> rfl) (by rfl) (by simp [hw]) ?_
                rfl
              apply rS hC
              · refine evSeq_go rfl (by simp [hF] <;> rfl) (by rfl) (by simp [hw]) ?_
                rfl
              refine cF (by simp [hF] <;> rfl) ?_
              apply Tri.skip
              apply sN
              apply sQ
              apply rS hC
              · iterate 5 refine evSeq_go rfl (by simp [hF] <;> rfl) (by rfl) (by simp [hw]) ?_
                iterate 2 refine evSeq_go (by simp [wants, hF]) (by simp [hF] <;> rfl) (by rfl) (by simp [hw]) ?_
                refine evSeq_go rfl (by simp [hF] <;> rfl) (by rfl) (by simp [hw]) ?_
                rfl
              refine cF (by simp [hF] <;> rfl) ?_
              apply Tri.skip
              apply sN
              apply rS hC
              · iterate 6 refine evSeq_go rfl (by simp [hF] <;> rfl) (by rfl) (by simp [hw]) ?_
                rfl
              apply sQ
              apply rS hC
              · refine evSeq_go rfl (by simp [hF] <;> rfl) (by rfl) (by simp [hw]) ?_
                rfl
              refine cT (by simp [hF] <;> rfl) ?_
              apply rN hC
              · iterate 10 refine evSeq_go rfl (by simp [hF] <;> rfl) (by rfl) (by simp [hw]) ?_
                rfl
              apply sN
              apply sQ
              refine Tri.regP (v := ?vf12) (t' := ?tf12) (H' := ?Hf12) TT_ok hC ?ef12 ?qf12
              case ef12 =>
               refine go_false ?_
               iterate 2 refine evSeq_go rfl (by simp [hF] <;> rfl) (by rfl) (by simp [hw]) ?_
               refine evSeq_panG rfl (by simp [hF] <;> rfl) (by rfl) ?_
               exact rfl
              refine inSeq_pan ?_
              refine inBlk_pan ?_
              refine inLoop_pan ?_
              exact hP _ _ _ hrun rfl
             case nf2 =>
              intro hn2
              exact absurd hn2 (by simp [hF])

theorem body_2075 {call : CallF} (hC : call.Sound Tryz.prog TT) (s : List UInt8) (hs : s.length < 1100000) (base at_ : Int) (hb : base = 2 ∨ base = 10 ∨ base = 16) (hval : ∀ c : UInt8, ∀ H, call 94 [.i .u8 c.toNat, .i .i64 base] H = .val (.tup [.i .u64 (valN c.toNat), .b (decide (valN c.toNat < base))]) H)
    (hmust : ∀ (b : Bool) (e k : Int) (H : Heap), call 55 [.b b, .i .i64 e, .i .i64 k] H = if b = true then .val .un H else .pan (fltV e k) H)  : EBody Tryz.prog TT 75 [.s s, .i .i64 base, .i .i64 at_] (fun r => r = (match runF base s 0 with | some n => .val (.i .i64 n) | none => .pan (fltV 33 at_))) := by
 refine en Tryz.f75 rfl rfl (by simp [Tryz.f75]) 55 rfl fun t hw hg => ?_
 have h0 := hg 0 _ rfl
 have h1 := hg 1 _ rfl
 have h2 := hg 2 _ rfl
 clear hg
 try simp only [Nd.enc_eq] at *
 have hF := ai @h0 (ai @h1 @h2)
 apply rS hC
 · refine evSeq_go rfl (by simp [hF] <;> rfl) (by rfl) (by simp [hw]) ?_
   rfl
 apply rS hC
 · refine evSeq_go rfl (by simp [hF] <;> rfl) (by rfl) (by simp [hw]) ?_
   rfl
 apply sQ
 apply bK
 refine Tri.loop ?_
 refine loop2075 hC base at_ hb hval hmust s [] _ _ (by simpa using hs) (by simp [hw]) (by simp [h0]) (by simp [h1]) (by simp [h2]) (by simp) ?exit ?pan
 case exit =>
  intro t2 H2 n hn hw h7
  refine inBlk_exit ?_
  apply sN
  apply rS hC
  · iterate 2 refine evSeq_go rfl (by simp [hF, h7] <;> rfl) (by rfl) (by simp [hw]) ?_
    rfl
  apply Tri.ret
  refine endsE (by simp [Tryz.f75, h7] <;> rfl) (by rfl) ?_
  simp only [List.length_nil] at hn
  rw [hn]
 case pan =>
  intro v t2 H2 hn hv
  subst hv
  refine inBlk_pan ?_
  refine inSeq_pan ?_
  refine endsP ?_
  simp only [List.length_nil] at hn
  rw [hn]
theorem sp2075 : ∃ g, SpecOK Tryz.prog TT 75 g ∧ ∀ (s : List UInt8) (base at_ : Int), s.length < 1100000 → base = 2 ∨ base = 10 ∨ base = 16 → ∀ H, g [.s s, .i .i64 base, .i .i64 at_] H = (match runF base s 0 with | some n => .val (.i .i64 n) H | none => .pan (fltV 33 at_) H) := by
  obtain ⟨g1, k1, s1⟩ := sp2094
  obtain ⟨g2, k2, s2⟩ := sp2055
  obtain ⟨g, h, s⟩ := spec_pure (P := Tryz.prog) (T := TT) TT_ok TT_plain 75 (fun vs => ∃ (s : List UInt8) (base at_ : Int), s.length < 1100000 ∧ (base = 2 ∨ base = 10 ∨ base = 16) ∧ vs = [.s s, .i .i64 base, .i .i64 at_]) (fun vs r => ∃ (s : List UInt8) (base at_ : Int), vs = [.s s, .i .i64 base, .i .i64 at_] ∧ r = (match runF base s 0 with | some n => .val (.i .i64 n) | none => .pan (fltV 33 at_))) (by
    rintro vs ⟨s, base, at_, hs, hb, rfl⟩
    refine ⟨rfl, ?_, ?_⟩
    · rintro r ⟨s', b', a', _, rfl⟩
      cases runF b' s' 0 <;> rfl
    · obtain ⟨fn, c, h1, h2, h3, h4⟩ := body_2075 (ws (ws n0 k1) k2) s hs base at_ hb (fun c H => by rw [w_other _ _ _ _ rfl, w_here]; exact s1 _ _ (by omega) (by have := c.toNat_lt; omega) hb H) (fun b e k H => by rw [w_here]; exact s2 b e k H)
      exact ⟨fn, c, h1, h2, h3, h4.mono fun o ⟨r, hr, ho⟩ => ⟨r, ⟨s, base, at_, rfl, hr⟩, ho⟩⟩)
  refine ⟨g, h, fun x base at_ hx hb H => ?_⟩
  obtain ⟨r, ⟨x', b', a', he, rfl⟩, h2⟩ := s _ ⟨x, base, at_, hx, hb, rfl⟩
  simp only [List.cons.injEq, V.s.injEq, V.i.injEq, true_and, and_true] at he
  obtain ⟨rfl, rfl, rfl⟩ := he
  rw [h2]
  cases runF base x 0 <;> rfl

def sgnE : List UInt8 → Nat
  | d :: _ => if d = 43 ∨ d = 45 then 2 else 1
  | [] => 1
def expF : List UInt8 → Option Nat
  | [] => some 0
  | c :: r => if c = 101 ∨ c = 69 then match runF 10 ((c :: r).drop (sgnE r)) 0 with
      | some (k + 1) => some (sgnE r + (k + 1))
      | _ => none
    else some 0
def optR (o : Option Nat) (at_ : Int) : Res := match o with
  | some n => .val (.i .i64 n)
  | none => .pan (fltV 33 at_)

theorem exp_a {call : CallF} (hC : call.Sound Tryz.prog TT) {t : Tm} {H : Heap} (hw : t.wid = 49) (s : List UInt8) (at_ : Int) (n : Nat) (hs : s.length < 1100000) (hn : (n : Int) ≤ s.length) (h0 : t.get 0 = .s s) (h1 : t.get 1 = .i .i64 at_) (h5 : t.get 5 = .i .i64 n) (hr : ∀ H, call 75 [.s (s.drop n), .i .i64 10, .i .i64 at_] H = .pan (fltV 33 at_) H) : Tri Tryz.prog TT (sub [true, true, true, true] (bodyOf Tryz.f77)) t H (fun o => ∃ r, r = .pan (fltV 33 at_) ∧ Ends TT Tryz.f77 r o) := by
  have hF := ai @h0 (ai @h1 (ai @h5 (ai @hn @hr)))
  apply sQ
  refine Tri.regP (v := ?v1) (t' := ?t1) (H' := ?H1) TT_ok hC ?e1 ?q1
  case e1 =>
    refine go_false ?_
    iterate 4 refine oA ?_
    refine evSeq_panG rfl (by simp [hF] <;> rfl) (by rfl) ?_
    exact rfl
  refine inSeq_pan ?_
  exact endsP rfl
theorem exp_b {call : CallF} (hC : call.Sound Tryz.prog TT) {t : Tm} {H : Heap} (hw : t.wid = 49) (s : List UInt8) (at_ : Int) (n : Nat) (hs : s.length < 1100000) (hn : (n : Int) ≤ s.length) (h0 : t.get 0 = .s s) (h1 : t.get 1 = .i .i64 at_) (h5 : t.get 5 = .i .i64 n) (hr : ∀ H, call 75 [.s (s.drop n), .i .i64 10, .i .i64 at_] H = .val (.i .i64 0) H) (hm : ∀ H, call 55 [.b false, .i .i64 33, .i .i64 at_] H = .pan (fltV 33 at_) H) : Tri Tryz.prog TT (sub [true, true, true, true] (bodyOf Tryz.f77)) t H (fun o => ∃ r, r = .pan (fltV 33 at_) ∧ Ends TT Tryz.f77 r o) := by
 have hF := ai @h0 (ai @h1 (ai @h5 (ai @hn (ai @hr @hm))))
 apply rS hC
 · iterate 6 refine oA ?_
   rfl
 apply sQ
 refine Tri.regP (v := ?v2) (t' := ?t2) (H' := ?H2) TT_ok hC ?e2 ?q2
 case e2 =>
  refine go_false ?_
  iterate 3 refine oA ?_
  refine evSeq_panG rfl (by simp [hF] <;> rfl) (by rfl) ?_
  exact rfl
 refine inSeq_pan ?_
 exact endsP rfl
theorem exp_c {call : CallF} (hC : call.Sound Tryz.prog TT) {t : Tm} {H : Heap} (hw : t.wid = 49) (s : List UInt8) (at_ : Int) (n : Nat) (hs : s.length < 1100000) (hn : (n : Int) ≤ s.length) (h0 : t.get 0 = .s s) (h1 : t.get 1 = .i .i64 at_) (h5 : t.get 5 = .i .i64 n) (k : Nat) (hr : ∀ H, call 75 [.s (s.drop n), .i .i64 10, .i .i64 at_] H = .val (.i .i64 ((k : Int) + 1)) H) (hk : decide ((0 : Int) < (k : Int) + 1) = true) (hm : ∀ H, call 55 [.b true, .i .i64 33, .i .i64 at_] H = .val .un H) (hw2 : IntKind.i64.wrap ((n : Int) + ((k : Int) + 1)) = ((n + (k + 1) : Nat) : Int)) : Tri Tryz.prog TT (sub [true, true, true, true] (bodyOf Tryz.f77)) t H (fun o => ∃ r, r = .val (.i .i64 ((n + (k + 1) : Nat) : Int)) ∧ Ends TT Tryz.f77 r o) := by
 have hF := ai @h0 (ai @h1 (ai @h5 (ai @hn (ai @hr (ai @hk (ai @hm @hw2))))))
 apply rS hC
 · iterate 6 refine oA ?_
   rfl
 apply rS hC
 · iterate 4 refine oA ?_
   rfl
 apply rS hC
 · iterate 4 refine oA ?_
   rfl
 apply Tri.ret
 refine endsE (by simp [Tryz.f77, hF] <;> rfl) (by rfl) ?_
 simp
theorem runF_le (base : Int) : ∀ (L : List UInt8) (n m : Nat), runF base L n = some m → m ≤ n + L.length
  | [], n, m, h => by simp only [runF, Option.some.injEq] at h; simp; omega
  | [c], n, m, h => by
    simp only [runF] at h
    split at h
    · simp only [Option.some.injEq] at h; simp; omega
    · split at h
      · simp only [Option.some.injEq] at h; simp; omega
      · cases h
  | c :: d :: r, n, m, h => by
    rw [runF] at h
    split at h
    · have := runF_le base (d :: r) (n + 1) m h
      simp only [List.length_cons] at this ⊢; omega
    · split at h
      · simp only [Option.some.injEq] at h; simp only [List.length_cons]; omega
      · split at h
        · have := runF_le base (d :: r) (n + 1) m h
          simp only [List.length_cons] at this ⊢; omega
        · cases h
def expT (s : List UInt8) (n : Nat) : Option Nat := match runF 10 (s.drop n) 0 with
  | some (k + 1) => some (n + (k + 1))
  | _ => none
theorem exp_tail {call : CallF} (hC : call.Sound Tryz.prog TT) {t : Tm} {H : Heap} (hw : t.wid = 49) (s : List UInt8) (at_ : Int) (n : Nat) (hs : s.length < 1100000) (hn : (n : Int) ≤ s.length) (h0 : t.get 0 = .s s) (h1 : t.get 1 = .i .i64 at_) (h5 : t.get 5 = .i .i64 n) (hrun : ∀ (x : List UInt8), x.length < 1100000 → ∀ H, call 75 [.s x, .i .i64 10, .i .i64 at_] H = (match runF 10 x 0 with | some n => .val (.i .i64 n) H | none => .pan (fltV 33 at_) H))
    (hmust : ∀ (b : Bool) (e k : Int) (H : Heap), call 55 [.b b, .i .i64 e, .i .i64 k] H = if b = true then .val .un H else .pan (fltV e k) H) : Tri Tryz.prog TT (sub [true, true, true, true] (bodyOf Tryz.f77)) t H (fun o => ∃ r, r = optR (expT s n) at_ ∧ Ends TT Tryz.f77 r o) := by
  have hr := hrun (s.drop n) (by simp; omega)
  unfold expT
  cases he : runF 10 (s.drop n) 0 with
  | none => exact exp_a hC hw s at_ n hs hn h0 h1 h5 fun H => by rw [hr, he]
  | some k =>
    cases k with
    | zero => exact exp_b hC hw s at_ n hs hn h0 h1 h5 (fun H => by rw [hr, he]; rfl) fun H => by rw [hmust]; rfl
    | succ k =>
      have := runF_le 10 _ _ _ he
      exact exp_c hC hw s at_ n hs hn h0 h1 h5 k (fun H => by rw [hr, he]; simp) (by simp <;> omega) (fun H => by rw [hmust]; rfl) (by push_cast; exact wrap_i64 (by omega) (by simp at this; omega))

theorem exp_mn {call : CallF} (hC : call.Sound Tryz.prog TT) {t : Tm} {H : Heap} (hw : t.wid = 49) (c d : UInt8) (r : List UInt8) (at_ : Int) (hs : ([c]).length < 1100000) (h0 : t.get 0 = .s ([c])) (h1 : t.get 1 = .i .i64 at_)  (hrun : ∀ (x : List UInt8), x.length < 1100000 → ∀ H, call 75 [.s x, .i .i64 10, .i .i64 at_] H = (match runF 10 x 0 with | some n => .val (.i .i64 n) H | none => .pan (fltV 33 at_) H)) (hmust : ∀ (b : Bool) (e k : Int) (H : Heap), call 55 [.b b, .i .i64 e, .i .i64 k] H = if b = true then .val .un H else .pan (fltV e k) H) : Tri Tryz.prog TT (sub [true, true] (bodyOf Tryz.f77)) t H (fun o => ∃ r', r' = optR (expT ([c]) 1) at_ ∧ Ends TT Tryz.f77 r' o) := by
 apply rS hC
 · refine oA ?_
   rfl
 apply sQ
 apply rS hC
 · iterate 5 refine oA ?_
   iterate 10 refine oC ?_
   refine oA ?_
   rfl
 refine cF (by simp [h0, h1] <;> rfl) ?_
 apply Tri.skip
 apply sN
 exact exp_tail hC (by simp [hw]) ([c]) at_ 1 hs (by simp <;> omega) (by simp [h0]) (by simp [h1]) (by simp <;> rfl) hrun hmust
theorem exp_mp {call : CallF} (hC : call.Sound Tryz.prog TT) {t : Tm} {H : Heap} (hw : t.wid = 49) (c d : UInt8) (r : List UInt8) (at_ : Int) (hs : (c :: d :: r).length < 1100000) (h0 : t.get 0 = .s (c :: d :: r)) (h1 : t.get 1 = .i .i64 at_) (hl : (1 : Int) < r.length + 1 + 1) (hd : ((d.toNat : Int) == 43) = true) (hrun : ∀ (x : List UInt8), x.length < 1100000 → ∀ H, call 75 [.s x, .i .i64 10, .i .i64 at_] H = (match runF 10 x 0 with | some n => .val (.i .i64 n) H | none => .pan (fltV 33 at_) H)) (hmust : ∀ (b : Bool) (e k : Int) (H : Heap), call 55 [.b b, .i .i64 e, .i .i64 k] H = if b = true then .val .un H else .pan (fltV e k) H) : Tri Tryz.prog TT (sub [true, true] (bodyOf Tryz.f77)) t H (fun o => ∃ r', r' = optR (expT (c :: d :: r) 2) at_ ∧ Ends TT Tryz.f77 r' o) := by
 have hF := ai @h0 (ai @h1 (ai @hl @hd))
 apply rS hC
 · refine oA ?_
   rfl
 apply sQ
 apply rS hC
 · iterate 5 refine oA ?_
   iterate 5 refine oB ?_
   iterate 4 refine oC ?_
   refine oB ?_
   refine oA ?_
   rfl
 refine cT (by simp [hF] <;> rfl) ?_
 apply rN hC
 · iterate 3 refine oA ?_
   rfl
 apply sN
 exact exp_tail hC (by simp [hw]) (c :: d :: r) at_ 2 hs (by simp <;> omega) (by simp [h0]) (by simp [h1]) (by simp <;> rfl) hrun hmust
theorem exp_mq {call : CallF} (hC : call.Sound Tryz.prog TT) {t : Tm} {H : Heap} (hw : t.wid = 49) (c d : UInt8) (r : List UInt8) (at_ : Int) (hs : (c :: d :: r).length < 1100000) (h0 : t.get 0 = .s (c :: d :: r)) (h1 : t.get 1 = .i .i64 at_) (hl : (1 : Int) < r.length + 1 + 1) (hd : ((d.toNat : Int) == 43) = false) (hd2 : ((d.toNat : Int) == 45) = true) (hrun : ∀ (x : List UInt8), x.length < 1100000 → ∀ H, call 75 [.s x, .i .i64 10, .i .i64 at_] H = (match runF 10 x 0 with | some n => .val (.i .i64 n) H | none => .pan (fltV 33 at_) H)) (hmust : ∀ (b : Bool) (e k : Int) (H : Heap), call 55 [.b b, .i .i64 e, .i .i64 k] H = if b = true then .val .un H else .pan (fltV e k) H) : Tri Tryz.prog TT (sub [true, true] (bodyOf Tryz.f77)) t H (fun o => ∃ r', r' = optR (expT (c :: d :: r) 2) at_ ∧ Ends TT Tryz.f77 r' o) := by
 have hF := ai @h0 (ai @h1 (ai @hl (ai @hd @hd2)))
 apply rS hC
 · refine oA ?_
   rfl
 apply sQ
 apply rS hC
 · iterate 5 refine oA ?_
   iterate 10 refine oB ?_
   refine oA ?_
   rfl
 refine cT (by simp [hF] <;> rfl) ?_
 apply rN hC
 · iterate 3 refine oA ?_
   rfl
 apply sN
 exact exp_tail hC (by simp [hw]) (c :: d :: r) at_ 2 hs (by simp <;> omega) (by simp [h0]) (by simp [h1]) (by simp <;> rfl) hrun hmust
theorem exp_mo {call : CallF} (hC : call.Sound Tryz.prog TT) {t : Tm} {H : Heap} (hw : t.wid = 49) (c d : UInt8) (r : List UInt8) (at_ : Int) (hs : (c :: d :: r).length < 1100000) (h0 : t.get 0 = .s (c :: d :: r)) (h1 : t.get 1 = .i .i64 at_) (hl : (1 : Int) < r.length + 1 + 1) (hd : ((d.toNat : Int) == 43) = false) (hd2 : ((d.toNat : Int) == 45) = false) (hrun : ∀ (x : List UInt8), x.length < 1100000 → ∀ H, call 75 [.s x, .i .i64 10, .i .i64 at_] H = (match runF 10 x 0 with | some n => .val (.i .i64 n) H | none => .pan (fltV 33 at_) H)) (hmust : ∀ (b : Bool) (e k : Int) (H : Heap), call 55 [.b b, .i .i64 e, .i .i64 k] H = if b = true then .val .un H else .pan (fltV e k) H) : Tri Tryz.prog TT (sub [true, true] (bodyOf Tryz.f77)) t H (fun o => ∃ r', r' = optR (expT (c :: d :: r) 1) at_ ∧ Ends TT Tryz.f77 r' o) := by
 have hF := ai @h0 (ai @h1 (ai @hl (ai @hd @hd2)))
 apply rS hC
 · refine oA ?_
   rfl
 apply sQ
 apply rS hC
 · iterate 5 refine oA ?_
   iterate 10 refine oB ?_
   refine oA ?_
   rfl
 refine cF (by simp [hF] <;> rfl) ?_
 apply Tri.skip
 apply sN
 exact exp_tail hC (by simp [hw]) (c :: d :: r) at_ 1 hs (by simp <;> omega) (by simp [h0]) (by simp [h1]) (by simp <;> rfl) hrun hmust
theorem exp_mid {call : CallF} (hC : call.Sound Tryz.prog TT) {t : Tm} {H : Heap} (hw : t.wid = 49) (c : UInt8) (r : List UInt8) (at_ : Int) (hs : (c :: r).length < 1100000) (h0 : t.get 0 = .s (c :: r)) (h1 : t.get 1 = .i .i64 at_) (hrun : ∀ (x : List UInt8), x.length < 1100000 → ∀ H, call 75 [.s x, .i .i64 10, .i .i64 at_] H = (match runF 10 x 0 with | some n => .val (.i .i64 n) H | none => .pan (fltV 33 at_) H)) (hmust : ∀ (b : Bool) (e k : Int) (H : Heap), call 55 [.b b, .i .i64 e, .i .i64 k] H = if b = true then .val .un H else .pan (fltV e k) H) : Tri Tryz.prog TT (sub [true, true] (bodyOf Tryz.f77)) t H (fun o => ∃ r', r' = optR (expT (c :: r) (sgnE r)) at_ ∧ Ends TT Tryz.f77 r' o) := by
  cases r with
  | nil => exact exp_mn hC hw c 0 [] at_ hs h0 h1 hrun hmust
  | cons d r =>
    have hl : (1 : Int) < r.length + 1 + 1 := by omega
    by_cases h43 : d = 43
    · subst h43
      exact exp_mp hC hw c 43 r at_ hs h0 h1 hl rfl hrun hmust
    · have e1 : ((d.toNat : Int) == 43) = false := (u8_eq d 43).symm.trans (by simpa using h43)
      by_cases h45 : d = 45
      · subst h45
        exact exp_mq hC hw c 45 r at_ hs h0 h1 hl rfl rfl hrun hmust
      · have e2 : ((d.toNat : Int) == 45) = false := (u8_eq d 45).symm.trans (by simpa using h45)
        have e3 : sgnE (d :: r) = 1 := by simp [sgnE, h43, h45]
        rw [e3]
        exact exp_mo hC hw c d r at_ hs h0 h1 hl e1 e2 hrun hmust

theorem body_2077n {call : CallF} (hC : call.Sound Tryz.prog TT) (c : UInt8) (r : List UInt8) (at_ : Int) (hs : (c :: r).length < 1100000)  (hrun : ∀ (x : List UInt8), x.length < 1100000 → ∀ H, call 75 [.s x, .i .i64 10, .i .i64 at_] H = (match runF 10 x 0 with | some n => .val (.i .i64 n) H | none => .pan (fltV 33 at_) H)) (hmust : ∀ (b : Bool) (e k : Int) (H : Heap), call 55 [.b b, .i .i64 e, .i .i64 k] H = if b = true then .val .un H else .pan (fltV e k) H)  : EBody Tryz.prog TT 77 [.s [], .i .i64 at_] (fun x => x = optR (some 0) at_) := by
 refine en Tryz.f77 rfl rfl (by simp [Tryz.f77]) 49 rfl fun t hw hg => ?_
 have h0 := hg 0 _ rfl
 have h1 := hg 1 _ rfl
 clear hg
 try simp only [Nd.enc_eq] at *
 apply rS hC
 · refine oA ?_
   rfl
 apply sQ
 apply rS hC
 · iterate 3 refine oA ?_
   iterate 8 refine oC ?_
   refine oA ?_
   rfl
 refine cT (by simp [h0, h1] <;> rfl) ?_
 apply rS hC
 · refine oA ?_
   rfl
 apply Tri.ret
 apply sR
 refine endsE (by simp [Tryz.f77, h0, h1] <;> rfl) (by rfl) ?_
 rfl
theorem body_2077o {call : CallF} (hC : call.Sound Tryz.prog TT) (c : UInt8) (r : List UInt8) (at_ : Int) (hs : (c :: r).length < 1100000) (h5 : ((c.toNat : Int) != 101) = true) (h6 : ((c.toNat : Int) != 69) = true) (hrun : ∀ (x : List UInt8), x.length < 1100000 → ∀ H, call 75 [.s x, .i .i64 10, .i .i64 at_] H = (match runF 10 x 0 with | some n => .val (.i .i64 n) H | none => .pan (fltV 33 at_) H)) (hmust : ∀ (b : Bool) (e k : Int) (H : Heap), call 55 [.b b, .i .i64 e, .i .i64 k] H = if b = true then .val .un H else .pan (fltV e k) H)  : EBody Tryz.prog TT 77 [.s (c :: r), .i .i64 at_] (fun x => x = optR (some 0) at_) := by
 refine en Tryz.f77 rfl rfl (by simp [Tryz.f77]) 49 rfl fun t hw hg => ?_
 have h0 := hg 0 _ rfl
 have h1 := hg 1 _ rfl
 clear hg
 try simp only [Nd.enc_eq] at *
 have hF := ai @h0 (ai @h1 (ai @h5 @h6))
 apply rS hC
 · refine oA ?_
   rfl
 apply sQ
 apply rS hC
 · iterate 3 refine oA ?_
   iterate 8 refine oB ?_
   refine oA ?_
   rfl
 refine cT (by simp [hF] <;> rfl) ?_
 apply rS hC
 · refine oA ?_
   rfl
 apply Tri.ret
 apply sR
 refine endsE (by simp [Tryz.f77, hF] <;> rfl) (by rfl) ?_
 rfl
theorem body_2077e {call : CallF} (hC : call.Sound Tryz.prog TT) (c : UInt8) (r : List UInt8) (at_ : Int) (hs : (c :: r).length < 1100000) (h5 : ((c.toNat : Int) != 101) = false) (hrun : ∀ (x : List UInt8), x.length < 1100000 → ∀ H, call 75 [.s x, .i .i64 10, .i .i64 at_] H = (match runF 10 x 0 with | some n => .val (.i .i64 n) H | none => .pan (fltV 33 at_) H)) (hmust : ∀ (b : Bool) (e k : Int) (H : Heap), call 55 [.b b, .i .i64 e, .i .i64 k] H = if b = true then .val .un H else .pan (fltV e k) H)  : EBody Tryz.prog TT 77 [.s (c :: r), .i .i64 at_] (fun x => x = optR (expT (c :: r) (sgnE r)) at_) := by
 refine en Tryz.f77 rfl rfl (by simp [Tryz.f77]) 49 rfl fun t hw hg => ?_
 have h0 := hg 0 _ rfl
 have h1 := hg 1 _ rfl
 clear hg
 try simp only [Nd.enc_eq] at *
 have hF := ai @h0 (ai @h1 @h5)
 apply rS hC
 · refine oA ?_
   rfl
 apply sQ
 apply rS hC
 · iterate 3 refine oA ?_
   iterate 4 refine oB ?_
   iterate 3 refine oC ?_
   refine oB ?_
   refine oA ?_
   rfl
 refine cF (by simp [hF] <;> rfl) ?_
 apply Tri.skip
 apply sN
 exact exp_mid hC (by simp [hw]) c r at_ hs (by simp [h0]) (by simp [h1]) hrun hmust
theorem body_2077f {call : CallF} (hC : call.Sound Tryz.prog TT) (c : UInt8) (r : List UInt8) (at_ : Int) (hs : (c :: r).length < 1100000) (h5 : ((c.toNat : Int) != 101) = true) (h6 : ((c.toNat : Int) != 69) = false) (hrun : ∀ (x : List UInt8), x.length < 1100000 → ∀ H, call 75 [.s x, .i .i64 10, .i .i64 at_] H = (match runF 10 x 0 with | some n => .val (.i .i64 n) H | none => .pan (fltV 33 at_) H)) (hmust : ∀ (b : Bool) (e k : Int) (H : Heap), call 55 [.b b, .i .i64 e, .i .i64 k] H = if b = true then .val .un H else .pan (fltV e k) H)  : EBody Tryz.prog TT 77 [.s (c :: r), .i .i64 at_] (fun x => x = optR (expT (c :: r) (sgnE r)) at_) := by
 refine en Tryz.f77 rfl rfl (by simp [Tryz.f77]) 49 rfl fun t hw hg => ?_
 have h0 := hg 0 _ rfl
 have h1 := hg 1 _ rfl
 clear hg
 try simp only [Nd.enc_eq] at *
 have hF := ai @h0 (ai @h1 (ai @h5 @h6))
 apply rS hC
 · refine oA ?_
   rfl
 apply sQ
 apply rS hC
 · iterate 3 refine oA ?_
   iterate 8 refine oB ?_
   refine oA ?_
   rfl
 refine cF (by simp [hF] <;> rfl) ?_
 apply Tri.skip
 apply sN
 exact exp_mid hC (by simp [hw]) c r at_ hs (by simp [h0]) (by simp [h1]) hrun hmust
theorem sp2077 : ∃ g, SpecOK Tryz.prog TT 77 g ∧ ∀ (s : List UInt8) (at_ : Int), s.length < 1100000 → ∀ H, g [.s s, .i .i64 at_] H = (optR (expF s) at_).at H := by
  obtain ⟨g1, k1, s1⟩ := sp2075
  obtain ⟨g2, k2, s2⟩ := sp2055
  obtain ⟨g, h, s⟩ := spec_pure (P := Tryz.prog) (T := TT) TT_ok TT_plain 77 (fun vs => ∃ (s : List UInt8) (at_ : Int), s.length < 1100000 ∧ vs = [.s s, .i .i64 at_]) (fun vs r => ∃ (s : List UInt8) (at_ : Int), vs = [.s s, .i .i64 at_] ∧ r = optR (expF s) at_) (by
    rintro vs ⟨s, at_, hs, rfl⟩
    refine ⟨rfl, ?_, ?_⟩
    · rintro r ⟨s', a', _, rfl⟩
      cases expF s' <;> rfl
    · have hC := ws (ws n0 k1) k2
      have hrun : ∀ (x : List UInt8), x.length < 1100000 → ∀ H, ((CallF.none.with 75 g1).with 55 g2) 75 [.s x, .i .i64 10, .i .i64 at_] H = (match runF 10 x 0 with | some n => .val (.i .i64 n) H | none => .pan (fltV 33 at_) H) := fun x hx H => by rw [w_other _ _ _ _ rfl, w_here]; exact s1 x 10 at_ hx (by simp) H
      have hmust : ∀ (b : Bool) (e k : Int) (H : Heap), ((CallF.none.with 75 g1).with 55 g2) 55 [.b b, .i .i64 e, .i .i64 k] H = if b = true then .val .un H else .pan (fltV e k) H := fun b e k H => by rw [w_here]; exact s2 b e k H
      have key : EBody Tryz.prog TT 77 [.s s, .i .i64 at_] (fun x => x = optR (expF s) at_) := by
        cases s with
        | nil => exact body_2077n hC 0 [] at_ (by simp) hrun hmust
        | cons c r =>
          by_cases h101 : c = 101
          · subst h101
            exact body_2077e hC 101 r at_ hs rfl hrun hmust
          · have e1 : ((c.toNat : Int) != 101) = true := by rw [bne, show ((c.toNat : Int) == 101) = (c == 101) from (u8_eq c 101).symm]; simpa using h101
            by_cases h69 : c = 69
            · subst h69
              exact body_2077f hC 69 r at_ hs rfl rfl hrun hmust
            · have e2 : ((c.toNat : Int) != 69) = true := by rw [bne, show ((c.toNat : Int) == 69) = (c == 69) from (u8_eq c 69).symm]; simpa using h69
              have e3 : expF (c :: r) = some 0 := by simp [expF, h101, h69]
              rw [e3]
              exact body_2077o hC c r at_ hs e1 e2 hrun hmust
      obtain ⟨fn, c, h1, h2, h3, h4⟩ := key
      exact ⟨fn, c, h1, h2, h3, h4.mono fun o ⟨r, hr, ho⟩ => ⟨r, ⟨s, at_, rfl, hr⟩, ho⟩⟩)
  refine ⟨g, h, fun x at_ hx H => ?_⟩
  obtain ⟨r, ⟨x', a', he, rfl⟩, h2⟩ := s _ ⟨x, at_, hx, rfl⟩
  simp only [List.cons.injEq, V.s.injEq, V.i.injEq, true_and, and_true] at he
  obtain ⟨rfl, rfl⟩ := he
  exact h2 H

def ScB (H : Heap) (n : Nat) (s : List UInt8) (i : Nat) (l : Bool) (m : Nat) : Prop := H[n]? = some (some { ty := 55, cells := [.s s, .i .i64 i, .b l, .mp m], kind := .all })

theorem body_2048 {call : CallF} (hC : call.Sound Tryz.prog TT) (H : Heap) (n : Nat) (s : List UInt8) (i : Nat) (l : Bool) (m : Nat) (hb : H[n]? = some (some { ty := 55, cells := [.s s, .i .i64 i, .b l, .mp m], kind := .all })) (hi : (i : Int) ≤ s.length)  : HBody Tryz.prog TT 48 [.ptr n 0] H (fun v H2 => v = .s (s.drop i) ∧ H2 = H) := by
 refine en Tryz.f48 rfl rfl (by simp [Tryz.f48]) 12 rfl fun t hw hg => ?_
 have h0 := hg 0 _ rfl
 clear hg
 try simp only [Nd.enc_eq] at *
 have hF := ai @h0 (ai @hb @hi)
 apply rS hC
 · refine oA ?_
   rfl
 apply sQ
 refine Tri.regN (t' := ?t2) (H' := ?H2) TT_ok hC ?e2 ?q2
 case e2 =>
  refine evReg_quiet (t' := ?t2) (by kernel_rfl) ?_ ?r902
  iterate 10 refine QR.val rfl (by simp [hF] <;> rfl) (by rfl) (by simp [hw]) ?_
  exact QR.nil
  case r902 => exact rfl
 apply sN
 apply Tri.ret
 refine endsH (by simp [Tryz.f48, hF] <;> rfl) (by rfl) ?_
 exact ⟨rfl, rfl⟩
theorem sp2048 : ∃ g, SpecOK Tryz.prog TT 48 g ∧ ∀ (n : Nat) (s : List UInt8) (i : Nat) (l : Bool) (m : Nat) (H : Heap), ScB H n s i l m → i ≤ s.length → g [.ptr n 0] H = .val (.s (s.drop i)) H := by
  obtain ⟨g, h, k⟩ := HFact.spec (F := 48) TT_ok (D := fun vs H => ∃ (n : Nat) (s : List UInt8) (i : Nat) (l : Bool) (m : Nat), ScB H n s i l m ∧ i ≤ s.length ∧ vs = [.ptr n 0]) (R := fun vs H v H2 => ∀ (n : Nat) (s : List UInt8) (i : Nat) (l : Bool) (m : Nat), ScB H n s i l m → vs = [.ptr n 0] → v = .s (s.drop i) ∧ H2 = H) (by
    rintro vs H ⟨n, s, i, l, m, hb, hi, rfl⟩
    refine (HBody.fact TT_ok (body_2048 n0 H n s i l m hb (by omega))).mono fun v H2 ⟨h1, h2⟩ => ?_
    intro n' s' i' l' m' hb' e
    cases e
    unfold ScB at hb hb'
    rw [hb] at hb'
    simp only [Option.some.injEq, Blk.mk.injEq, List.cons.injEq, V.s.injEq, V.i.injEq, true_and, Int.ofNat_inj] at hb'
    obtain ⟨⟨rfl, rfl, _⟩, _⟩ := hb'
    exact ⟨h1, h2⟩)
  refine ⟨g, h, fun n s i l m H hb hi => ?_⟩
  obtain ⟨v, H2, h1, h2⟩ := k _ H ⟨n, s, i, l, m, hb, hi, rfl⟩
  obtain ⟨rfl, rfl⟩ := h1 n s i l m hb rfl
  exact h2

def preR (s p : List UInt8) : Bool := decide (p.length ≤ s.length) && (s.take p.length == p)
theorem body_2093t {call : CallF} (hC : call.Sound Tryz.prog TT) (s p : List UInt8) (hl : (p.length : Int) ≤ s.length)  : EBody Tryz.prog TT 93 [.s s, .s p] (fun r => r = .val (.b (s.take p.length == p))) := by
 refine en Tryz.f93 rfl rfl (by simp [Tryz.f93]) 18 rfl fun t hw hg => ?_
 have h0 := hg 0 _ rfl
 have h1 := hg 1 _ rfl
 clear hg
 try simp only [Nd.enc_eq] at *
 have hF := ai @h0 (ai @h1 @hl)
 apply rS hC
 · refine oA ?_
   rfl
 apply rS hC
 · iterate 6 refine oA ?_
   iterate 6 refine oB ?_
   iterate 2 refine oA ?_
   rfl
 apply Tri.ret
 refine endsE (by simp [Tryz.f93, hF] <;> rfl) (by rfl) ?_
 rfl
theorem body_2093f {call : CallF} (hC : call.Sound Tryz.prog TT) (s p : List UInt8) (hl : ¬ (p.length : Int) ≤ s.length)  : EBody Tryz.prog TT 93 [.s s, .s p] (fun r => r = .val (.b false)) := by
 refine en Tryz.f93 rfl rfl (by simp [Tryz.f93]) 18 rfl fun t hw hg => ?_
 have h0 := hg 0 _ rfl
 have h1 := hg 1 _ rfl
 clear hg
 try simp only [Nd.enc_eq] at *
 have hF := ai @h0 (ai @h1 @hl)
 apply rS hC
 · refine oA ?_
   rfl
 apply rS hC
 · iterate 6 refine oA ?_
   iterate 6 refine oC ?_
   iterate 2 refine oA ?_
   rfl
 apply Tri.ret
 refine endsE (by simp [Tryz.f93, hF] <;> rfl) (by rfl) ?_
 rfl
theorem body_2070 {call : CallF} (hC : call.Sound Tryz.prog TT) (s p : List UInt8) (x : Bool) (hq : ∀ H, call 93 [.s s, .s p] H = .val (.b x) H)  : EBody Tryz.prog TT 70 [.s s, .s p] (fun r => r = .val (.b x)) := by
 refine en Tryz.f70 rfl rfl (by simp [Tryz.f70]) 8 rfl fun t hw hg => ?_
 have h0 := hg 0 _ rfl
 have h1 := hg 1 _ rfl
 clear hg
 try simp only [Nd.enc_eq] at *
 have hF := ai @h0 (ai @h1 @hq)
 apply rS hC
 · refine oA ?_
   rfl
 apply rS hC
 · iterate 4 refine oA ?_
   rfl
 apply Tri.ret
 refine endsE (by simp [Tryz.f70, hF] <;> rfl) (by rfl) ?_
 rfl
theorem sp2093 : ∃ g, SpecOK Tryz.prog TT 93 g ∧ ∀ p : List UInt8 × List UInt8, True → ∀ H, g [.s p.1, .s p.2] H = .val (.b (preR p.1 p.2)) H := by
  refine spec_val TT_ok TT_plain 93 (fun p : List UInt8 × List UInt8 => [.s p.1, .s p.2]) (fun _ => True) (fun p => .b (preR p.1 p.2)) (fun _ _ => rfl) (fun _ => rfl) (fun a b h => by simp only [List.cons.injEq, V.s.injEq, and_true] at h; rw [h.1, h.2]) fun p _ => EBody.of2 ?_
  by_cases h : p.2.length ≤ p.1.length
  · have e : preR p.1 p.2 = (p.1.take p.2.length == p.2) := by simp [preR, h]
    rw [e]
    exact body_2093t n0 p.1 p.2 (by omega)
  · have e : preR p.1 p.2 = false := by simp [preR, h]
    rw [e]
    exact body_2093f n0 p.1 p.2 (by omega)
theorem sp2070 : ∃ g, SpecOK Tryz.prog TT 70 g ∧ ∀ (s p : List UInt8) (H : Heap), g [.s s, .s p] H = .val (.b (preR s p)) H := by
  obtain ⟨g1, k1, s1⟩ := sp2093
  obtain ⟨g, h, s⟩ := spec_val TT_ok TT_plain 70 (fun p : List UInt8 × List UInt8 => [.s p.1, .s p.2]) (fun _ => True) (fun p => .b (preR p.1 p.2)) (fun _ _ => rfl) (fun _ => rfl) (fun a b h => by simp only [List.cons.injEq, V.s.injEq, and_true] at h; rw [h.1, h.2]) fun p _ => EBody.of2 (body_2070 (ws n0 k1) p.1 p.2 _ fun H => by rw [w_here]; exact s1 p trivial H)
  exact ⟨g, h, fun x p H => s (x, p) trivial H⟩

def okP (s best x : List UInt8) : Bool := decide (best.length < x.length) && (preR s x && !((letR (lastB x) || (lastB x == 95)) && (decide (x.length < s.length) && worR (atR s x.length))))
def sgF (s : List UInt8) : List (List UInt8) → List UInt8 → List UInt8
  | [], best => best
  | x :: l, best => sgF s l (if okP s best x = true then x else best)

theorem loop2054 {call : CallF} (hC : call.Sound Tryz.prog TT) {Q : Out → Prop} {H : Heap} (s : List UInt8) (hpre : ∀ p H, call 70 [.s s, .s p] H = .val (.b (preR s p)) H) (hlet : ∀ c : Int, ∀ H, call 72 [.i .u8 c] H = .val (.b (letR c || (c == 95))) H) (hwor : ∀ c : UInt8, ∀ H, call 73 [.i .u8 c.toNat] H = .val (.b (worR c.toNat)) H) :
    ∀ (L pre : List (List UInt8)) (best : List UInt8) (t : Tm), sgnL = pre ++ L → t.wid = 44 → t.get 0 = .s s → t.get 3 = .s best → t.get 6 = .agg (sgnL.map .s) → t.get 7 = .i .i64 pre.length →
    (∀ t' : Tm, t'.wid = 44 → t'.get 3 = .s (sgF s L best) → Q (.exit 0 t' H)) →
    LTri Tryz.prog TT (sub [true, true, false, true, false, false] (bodyOf Tryz.f54)) t H Q := by
 intro L
 induction L with
 | nil =>
   intro pre best t hS hw h0 h3 h6 h7 hE
   have hlast : pre.length = 43 := by have := congrArg List.length hS; simpa [sgnL] using this.symm
   have hF := ai @h0 (ai @h3 (ai @h6 (ai @h7 @hlast)))
   refine LTri.round' ?_
   apply rS hC
   · refine evSeq_go rfl (by simp [hF] <;> rfl) (by rfl) (by simp [hw]) ?_
     rfl
   apply sQ
   refine cF (by simp [hF] <;> rfl) ?_
   refine Tri.exit ?_
   refine inSeq_exit ?_
   refine inLoop_exit ?_
   exact hE _ (by simp [hw]) (by simp [h3, sgF])
 | cons x L ih =>
   intro pre best t hS hw h0 h3 h6 h7 hE
   have hlen := congrArg List.length hS
   have h43 : sgnL.length = 43 := rfl
   rw [h43] at hlen
   simp only [List.length_append, List.length_cons] at hlen
   have hlt : (pre.length : Int) < 43 := by omega
   have hx : sgnL[pre.length]? = some x := by rw [hS]; simp
   have hwp : IntKind.i64.wrap ((pre.length : Int) + 1) = pre.length + 1 := wrap_i64 (by omega) (by omega)
   have hmem : x ∈ sgnL := by rw [hS]; simp
   have hall : sgnL.all (fun x => decide (0 < x.length) && decide (x.length < 10)) = true := by decide
   have hx1 := List.all_eq_true.1 hall x hmem
   rw [Bool.and_eq_true, decide_eq_true_eq, decide_eq_true_eq] at hx1
   obtain ⟨y, b, rfl⟩ : ∃ y b, x = y ++ [b] := ⟨x.dropLast, x.getLast (by intro e; rw [e] at hx1; simp at hx1), (List.dropLast_concat_getLast _).symm⟩
   have hxl : (y ++ [b]).length = y.length + 1 := by simp
   rw [hxl] at hx1
   have hlb : lastB (y ++ [b]) = b.toNat := by simp [lastB]
   have hwy : IntKind.i64.wrap (y.length : Int) = y.length := wrap_i64 (by omega) (by omega)
   have hp1 := hpre (y ++ [b])
   have hl1 := hlet b.toNat
   cases hb : decide ((y.length : Int) + 1 ≤ best.length) with
   | true =>
     have hok : okP s best (y ++ [b]) = false := by
      have : ¬ best.length < (y ++ [b]).length := by rw [decide_eq_true_eq] at hb; rw [hxl]; omega
      simp only [okP, decide_eq_false this, Bool.false_and]
     have hF := ai @h0 (ai @h3 (ai @h6 (ai @h7 (ai @hlt (ai @hx (ai @hwp @hb))))))
     refine LTri.round' ?_
     apply rS hC
     · refine evSeq_go rfl (by simp [hF] <;> rfl) (by rfl) (by simp [hw]) ?_
       rfl
     apply sQ
     refine cT (by simp [hF] <;> rfl) ?_
     apply Tri.skip
     apply sN
     apply sQ
     apply bK
     apply rS hC
     · iterate 2 refine evSeq_go rfl (by simp [hF] <;> rfl) (by rfl) (by simp [hw]) ?_
       rfl
     apply sQ
     apply rS hC
     · iterate 6 refine evSeq_go rfl (by simp [hF] <;> rfl) (by rfl) (by simp [hw]) ?_
       iterate 4 refine evSeq_off (by simp [wants, hF]) (by simp [hw]) ?_
       refine evSeq_go rfl (by simp [hF] <;> rfl) (by rfl) (by simp [hw]) ?_
       rfl
     refine cT (by simp [hF] <;> rfl) ?_
     refine Tri.exit ?_
     refine inSeq_exit ?_
     refine inBlk_exit ?_
     apply sN
     apply rN hC
     · iterate 2 refine evSeq_go rfl (by simp [hF] <;> rfl) (by rfl) (by simp [hw]) ?_
       rfl
     refine inLoop_norm ?_
     refine ih (pre ++ [y ++ [b]]) best _ (by simpa using hS) (by simp [hw]) (by simp [h0]) (by simp [h3]) (by simp [h6]) (by simp <;> exact hwp) ?_
     intro t' k1 k2
     exact hE t' k1 (by rw [k2]; simp only [sgF]; rw [hok]; simp)
   | false =>
     have hbt : best.length < (y ++ [b]).length := by rw [decide_eq_false_iff_not] at hb; rw [hxl]; omega
     cases hpv : preR s (y ++ [b]) with
     | false =>
       have hok : okP s best (y ++ [b]) = false := by simp only [okP, hpv, Bool.false_and, Bool.and_false]
       have hp : ∀ H, call 70 [.s s, .s (y ++ [b])] H = .val (.b false) H := fun H => by rw [hp1, hpv]
       have hF := ai @h0 (ai @h3 (ai @h6 (ai @h7 (ai @hlt (ai @hx (ai @hwp (ai @hb @hp)))))))
       refine LTri.round' ?_
       apply rS hC
       · refine evSeq_go rfl (by simp [hF] <;> rfl) (by rfl) (by simp [hw]) ?_
         rfl
       apply sQ
       refine cT (by simp [hF] <;> rfl) ?_
       apply Tri.skip
       apply sN
       apply sQ
       apply bK
       apply rS hC
       · iterate 2 refine evSeq_go rfl (by simp [hF] <;> rfl) (by rfl) (by simp [hw]) ?_
         rfl
       apply sQ
       apply rS hC
       · iterate 6 refine evSeq_go rfl (by simp [hF] <;> rfl) (by rfl) (by simp [hw]) ?_
         iterate 4 refine evSeq_go (by simp [wants, hF]) (by simp [hF] <;> rfl) (by rfl) (by simp [hw]) ?_
         refine evSeq_go rfl (by simp [hF] <;> rfl) (by rfl) (by simp [hw]) ?_
         rfl
       refine cT (by simp [hF] <;> rfl) ?_
       refine Tri.exit ?_
       refine inSeq_exit ?_
       refine inBlk_exit ?_
       apply sN
       apply rN hC
       · iterate 2 refine evSeq_go rfl (by simp [hF] <;> rfl) (by rfl) (by simp [hw]) ?_
         rfl
       refine inLoop_norm ?_
       refine ih (pre ++ [y ++ [b]]) best _ (by simpa using hS) (by simp [hw]) (by simp [h0]) (by simp [h3]) (by simp [h6]) (by simp <;> exact hwp) ?_
       intro t' k1 k2
       exact hE t' k1 (by rw [k2]; simp only [sgF]; rw [hok]; simp)
     | true =>
       have hp : ∀ H, call 70 [.s s, .s (y ++ [b])] H = .val (.b true) H := fun H => by rw [hp1, hpv]
       cases hlv : (letR b.toNat || ((b.toNat : Int) == 95)) with
       | false =>
         have hok : okP s best (y ++ [b]) = true := by simp only [okP, hpv, hlb, hlv, decide_eq_true hbt, Bool.false_and, Bool.not_false, Bool.and_true]
         have hl : ∀ H, call 72 [.i .u8 b.toNat] H = .val (.b false) H := fun H => by rw [hl1, hlv]
         have hF := ai @h0 (ai @h3 (ai @h6 (ai @h7 (ai @hlt (ai @hx (ai @hwp (ai @hb (ai @hp (ai @hwy @hl)))))))))
         refine LTri.round' ?_
         apply rS hC
         · refine evSeq_go rfl (by simp [hF] <;> rfl) (by rfl) (by simp [hw]) ?_
           rfl
         apply sQ
         refine cT (by simp [hF] <;> rfl) ?_
         apply Tri.skip
         apply sN
         apply sQ
         apply bK
         apply rS hC
         · iterate 2 refine evSeq_go rfl (by simp [hF] <;> rfl) (by rfl) (by simp [hw]) ?_
           rfl
         apply sQ
         apply rS hC
         · iterate 6 refine evSeq_go rfl (by simp [hF] <;> rfl) (by rfl) (by simp [hw]) ?_
           iterate 4 refine evSeq_go (by simp [wants, hF]) (by simp [hF] <;> rfl) (by rfl) (by simp [hw]) ?_
           refine evSeq_go rfl (by simp [hF] <;> rfl) (by rfl) (by simp [hw]) ?_
           rfl
         refine cF (by simp [hF] <;> rfl) ?_
         apply Tri.skip
         apply sN
         apply sQ
         apply rS hC
         · iterate 7 refine evSeq_go rfl (by simp [hF] <;> rfl) (by rfl) (by simp [hw]) ?_
           iterate 5 refine evSeq_off (by simp [wants, hF]) (by simp [hw]) ?_
           iterate 2 refine evSeq_go rfl (by simp [hF] <;> rfl) (by rfl) (by simp [hw]) ?_
           iterate 5 refine evSeq_off (by simp [wants, hF]) (by simp [hw]) ?_
           refine evSeq_go rfl (by simp [hF] <;> rfl) (by rfl) (by simp [hw]) ?_
           rfl
         refine cF (by simp [hF] <;> rfl) ?_
         apply Tri.skip
         apply sN
         apply rN hC
         · iterate 2 refine evSeq_go rfl (by simp [hF] <;> rfl) (by rfl) (by simp [hw]) ?_
           rfl
         apply bN
         apply sN
         apply rN hC
         · iterate 2 refine evSeq_go rfl (by simp [hF] <;> rfl) (by rfl) (by simp [hw]) ?_
           rfl
         refine inLoop_norm ?_
         refine ih (pre ++ [y ++ [b]]) (y ++ [b]) _ (by simpa using hS) (by simp [hw]) (by simp [h0]) (by simp [h3]) (by simp [h6]) (by simp <;> exact hwp) ?_
         intro t' k1 k2
         exact hE t' k1 (by rw [k2]; simp only [sgF]; rw [hok]; simp)
       | true =>
         have hl : ∀ H, call 72 [.i .u8 b.toNat] H = .val (.b true) H := fun H => by rw [hl1, hlv]
         cases hg : decide ((y.length : Int) + 1 < s.length) with
         | false =>
           have hgn : ¬ (y ++ [b]).length < s.length := by rw [decide_eq_false_iff_not] at hg; rw [hxl]; omega
           have hok : okP s best (y ++ [b]) = true := by simp only [okP, hpv, hlb, hlv, decide_eq_true hbt, decide_eq_false hgn, Bool.false_and, Bool.and_false, Bool.not_false, Bool.and_true]
           have hF := ai @h0 (ai @h3 (ai @h6 (ai @h7 (ai @hlt (ai @hx (ai @hwp (ai @hb (ai @hp (ai @hwy (ai @hl @hg))))))))))
           refine LTri.round' ?_
           apply rS hC
           · refine evSeq_go rfl (by simp [hF] <;> rfl) (by rfl) (by simp [hw]) ?_
             rfl
           apply sQ
           refine cT (by simp [hF] <;> rfl) ?_
           apply Tri.skip
           apply sN
           apply sQ
           apply bK
           apply rS hC
           · iterate 2 refine evSeq_go rfl (by simp [hF] <;> rfl) (by rfl) (by simp [hw]) ?_
             rfl
           apply sQ
           apply rS hC
           · iterate 6 refine evSeq_go rfl (by simp [hF] <;> rfl) (by rfl) (by simp [hw]) ?_
             iterate 4 refine evSeq_go (by simp [wants, hF]) (by simp [hF] <;> rfl) (by rfl) (by simp [hw]) ?_
             refine evSeq_go rfl (by simp [hF] <;> rfl) (by rfl) (by simp [hw]) ?_
             rfl
           refine cF (by simp [hF] <;> rfl) ?_
           apply Tri.skip
           apply sN
           apply sQ
           apply rS hC
           · iterate 7 refine evSeq_go rfl (by simp [hF] <;> rfl) (by rfl) (by simp [hw]) ?_
             iterate 5 refine evSeq_go (by simp [wants, hF]) (by simp [hF] <;> rfl) (by rfl) (by simp [hw]) ?_
             iterate 2 refine evSeq_go rfl (by simp [hF] <;> rfl) (by rfl) (by simp [hw]) ?_
             iterate 5 refine evSeq_off (by simp [wants, hF]) (by simp [hw]) ?_
             refine evSeq_go rfl (by simp [hF] <;> rfl) (by rfl) (by simp [hw]) ?_
             rfl
           refine cF (by simp [hF] <;> rfl) ?_
           apply Tri.skip
           apply sN
           apply rN hC
           · iterate 2 refine evSeq_go rfl (by simp [hF] <;> rfl) (by rfl) (by simp [hw]) ?_
             rfl
           apply bN
           apply sN
           apply rN hC
           · iterate 2 refine evSeq_go rfl (by simp [hF] <;> rfl) (by rfl) (by simp [hw]) ?_
             rfl
           refine inLoop_norm ?_
           refine ih (pre ++ [y ++ [b]]) (y ++ [b]) _ (by simpa using hS) (by simp [hw]) (by simp [h0]) (by simp [h3]) (by simp [h6]) (by simp <;> exact hwp) ?_
           intro t' k1 k2
           exact hE t' k1 (by rw [k2]; simp only [sgF]; rw [hok]; simp)
         | true =>
           have hgn : (y ++ [b]).length < s.length := by rw [decide_eq_true_eq] at hg; rw [hxl]; omega
           obtain ⟨d, hd⟩ : ∃ d, s[y.length + 1]? = some d := ⟨_, List.getElem?_eq_getElem (by rw [← hxl]; exact hgn)⟩
           have hd2 : ∀ h, s[y.length + 1]'h = d := fun h => by rw [List.getElem?_eq_getElem h] at hd; exact Option.some.inj hd
           have hat : atR s (y ++ [b]).length = d.toNat := by rw [hxl]; simp [atR, hd]
           have hq1 := hwor d
           cases hqv : worR d.toNat with
           | true =>
             have hok : okP s best (y ++ [b]) = false := by simp only [okP, hpv, hlb, hlv, hat, hqv, decide_eq_true hbt, decide_eq_true hgn, Bool.and_true, Bool.not_true, Bool.and_false]
             have hq : ∀ H, call 73 [.i .u8 d.toNat] H = .val (.b true) H := fun H => by rw [hq1, hqv]
             have hF := ai @h0 (ai @h3 (ai @h6 (ai @h7 (ai @hlt (ai @hx (ai @hwp (ai @hb (ai @hp (ai @hwy (ai @hl (ai @hg (ai @hd (ai @hd2 @hq)))))))))))))
             refine LTri.round' ?_
             apply rS hC
             · refine evSeq_go rfl (by simp [hF] <;> rfl) (by rfl) (by simp [hw]) ?_
               rfl
             apply sQ
             refine cT (by simp [hF] <;> rfl) ?_
             apply Tri.skip
             apply sN
             apply sQ
             apply bK
             apply rS hC
             · iterate 2 refine evSeq_go rfl (by simp [hF] <;> rfl) (by rfl) (by simp [hw]) ?_
               rfl
             apply sQ
             apply rS hC
             · iterate 6 refine evSeq_go rfl (by simp [hF] <;> rfl) (by rfl) (by simp [hw]) ?_
               iterate 4 refine evSeq_go (by simp [wants, hF]) (by simp [hF] <;> rfl) (by rfl) (by simp [hw]) ?_
               refine evSeq_go rfl (by simp [hF] <;> rfl) (by rfl) (by simp [hw]) ?_
               rfl
             refine cF (by simp [hF] <;> rfl) ?_
             apply Tri.skip
             apply sN
             apply sQ
             apply rS hC
             · iterate 7 refine evSeq_go rfl (by simp [hF] <;> rfl) (by rfl) (by simp [hw]) ?_
               iterate 5 refine evSeq_go (by simp [wants, hF]) (by simp [hF] <;> rfl) (by rfl) (by simp [hw]) ?_
               iterate 2 refine evSeq_go rfl (by simp [hF] <;> rfl) (by rfl) (by simp [hw]) ?_
               iterate 5 refine evSeq_go (by simp [wants, hF]) (by simp [hF] <;> rfl) (by rfl) (by simp [hw]) ?_
               refine evSeq_go rfl (by simp [hF] <;> rfl) (by rfl) (by simp [hw]) ?_
               rfl
             refine cT (by simp [hF] <;> rfl) ?_
             refine Tri.exit ?_
             refine inSeq_exit ?_
             refine inBlk_exit ?_
             apply sN
             apply rN hC
             · iterate 2 refine evSeq_go rfl (by simp [hF] <;> rfl) (by rfl) (by simp [hw]) ?_
               rfl
             refine inLoop_norm ?_
             refine ih (pre ++ [y ++ [b]]) best _ (by simpa using hS) (by simp [hw]) (by simp [h0]) (by simp [h3]) (by simp [h6]) (by simp <;> exact hwp) ?_
             intro t' k1 k2
             exact hE t' k1 (by rw [k2]; simp only [sgF]; rw [hok]; simp)
           | false =>
             have hok : okP s best (y ++ [b]) = true := by simp only [okP, hpv, hlb, hlv, hat, hqv, decide_eq_true hbt, decide_eq_true hgn, Bool.and_false, Bool.not_false, Bool.and_true]
             have hq : ∀ H, call 73 [.i .u8 d.toNat] H = .val (.b false) H := fun H => by rw [hq1, hqv]
             have hF := ai @h0 (ai @h3 (ai @h6 (ai @h7 (ai @hlt (ai @hx (ai @hwp (ai @hb (ai @hp (ai @hwy (ai @hl (ai @hg (ai @hd (ai @hd2 @hq)))))))))))))
             refine LTri.round' ?_
             apply rS hC
             · refine evSeq_go rfl (by simp [hF] <;> rfl) (by rfl) (by simp [hw]) ?_
               rfl
             apply sQ
             refine Tri.condG (o := ?of2) (b := ?bf2) ?gf2 ?rf2 ?yf2 ?nf2
             case gf2 => simp [hF] <;> rfl
             case rf2 => rfl
             case yf2 =>
              intro hy2
              apply Tri.skip
              apply sN
              apply sQ
              apply bK
              apply rS hC
              · iterate 2 refine evSeq_go rfl (by simp [hF] <;> rfl) (by rfl) (by simp [hw]) ?_
                rfl
              apply sQ
              apply rS hC
              · iterate 6 refine evSeq_go rfl (by simp [hF] <;> rfl) (by rfl) (by simp [hw]) ?_
                iterate 4 refine evSeq_go (by simp [wants, hF]) (by simp [hF] <;> rfl) (by rfl) (by simp [hw]) ?_
                refine evSeq_go rfl (by simp [hF] <;> rfl) (by rfl) (by simp [hw]) ?_
                rfl
              refine cF (by simp [hF] <;> rfl) ?_
              apply Tri.skip
              apply sN
              apply sQ
              apply rS hC
              · iterate 7 refine evSeq_go rfl (by simp [hF] <;> rfl) (by rfl) (by simp [hw]) ?_
                iterate 5 refine evSeq_go (by simp [wants, hF]) (by simp [hF] <;> rfl) (by rfl) (by simp [hw]) ?_
                iterate 2 refine evSeq_go rfl (by simp [hF] <;> rfl) (by rfl) (by simp [hw]) ?_
                iterate 5 refine evSeq_go (by simp [wants, hF]) (by simp [hF] <;> rfl) (by rfl) (by simp [hw]) ?_
                refine evSeq_go rfl (by simp [hF] <;> rfl) (by rfl) (by simp [hw]) ?_
                rfl
              refine cF (by simp [hF] <;> rfl) ?_
              apply Tri.skip
              apply sN
              apply rN hC
              · iterate 2 refine evSeq_go rfl (by simp [hF] <;> rfl) (by rfl) (by simp [hw]) ?_
                rfl
              apply bN
              apply sN
              apply rN hC
              · iterate 2 refine evSeq_go rfl (by simp [hF] <;> rfl) (by rfl) (by simp [hw]) ?_
                rfl
              refine inLoop_norm ?_
              refine ih (pre ++ [y ++ [b]]) (y ++ [b]) _ (by simpa using hS) (by simp [hw]) (by simp [h0]) (by simp [h3]) (by simp [h6]) (by simp <;> exact hwp) ?_
              intro t' k1 k2
              exact hE t' k1 (by rw [k2]; simp only [sgF]; rw [hok]; simp)
             case nf2 =>
              intro hn2
              exact absurd hn2 (by simp [hF])

theorem ld_signs (H : Heap) : loadA TT 77 H (.gp 0 0) = some (.agg (sgnL.map .s)) := rfl

theorem body_2054 {call : CallF} (hC : call.Sound Tryz.prog TT) (s : List UInt8) (hpre : ∀ p H, call 70 [.s s, .s p] H = .val (.b (preR s p)) H) (hlet : ∀ c : Int, ∀ H, call 72 [.i .u8 c] H = .val (.b (letR c || (c == 95))) H) (hwor : ∀ c : UInt8, ∀ H, call 73 [.i .u8 c.toNat] H = .val (.b (worR c.toNat)) H)  : EBody Tryz.prog TT 54 [.s s] (fun r => r = .val (.s (sgF s sgnL []))) := by
 refine en Tryz.f54 rfl rfl (by simp [Tryz.f54]) 44 rfl fun t hw hg => ?_
 have h0 := hg 0 _ rfl
 clear hg
 try simp only [Nd.enc_eq] at *
 apply rS hC
 · refine evSeq_go rfl (by simp [h0] <;> rfl) (by rfl) (by simp [hw]) ?_
   rfl
 apply rS hC
 · refine evSeq_go rfl (by simp [h0] <;> rfl) (by rfl) (by simp [hw]) ?_
   rfl
 apply sQ
 apply rS hC
 · iterate 2 refine evSeq_go rfl (by simp [h0, ld_signs, -loadA] <;> rfl) (by rfl) (by simp [hw]) ?_
   rfl
 apply bK
 refine Tri.loop ?_
 refine loop2054 hC s hpre hlet hwor sgnL [] [] _ rfl (by simp [hw]) (by simp [h0]) (by simp) (by simp) (by simp) ?exit
 case exit =>
  intro t2 hw h3
  refine inBlk_exit ?_
  apply sN
  apply rS hC
  · iterate 2 refine evSeq_go rfl (by simp [h0, h3] <;> rfl) (by rfl) (by simp [hw]) ?_
    rfl
  apply Tri.ret
  refine endsE (by simp [Tryz.f54, h3] <;> rfl) (by rfl) ?_
  rfl
theorem sp2054 : ∃ g, SpecOK Tryz.prog TT 54 g ∧ ∀ s : List UInt8, True → ∀ H, g [.s s] H = .val (.s (sgF s sgnL [])) H := by
  obtain ⟨g1, k1, s1⟩ := sp2070
  obtain ⟨g2, k2, s2⟩ := sp83p
  obtain ⟨g3, k3, s3⟩ := sp84p
  refine spT 54 (fun s => .s (sgF s sgnL [])) (fun _ => True) (fun _ => rfl) fun s _ => ?_
  exact body_2054 (ws (ws (ws n0 k1) k2) k3) s (fun p H => by rw [w_other _ _ _ _ rfl, w_other _ _ _ _ rfl, w_here]; exact s1 s p H) (fun c H => by rw [w_other _ _ _ _ rfl, w_here]; exact s2 c trivial H) fun c H => by rw [w_here]; exact s3 c trivial H

end Go.Ev
