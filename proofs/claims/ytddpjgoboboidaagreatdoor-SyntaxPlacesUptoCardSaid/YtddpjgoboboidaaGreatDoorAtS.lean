/- At of a tree and a path is the part that lies there, or none. -/
import Derived.Test.YtddpjgoboboidaaGreatDoorAtW
namespace Go.Ev
open Go Go.Proofs
set_option maxRecDepth 100000
set_option linter.unusedSimpArgs false
set_option linter.unusedVariables false
/-- What is known behind the loop. -/
def okHeap (f : Nd) (n : Nat) : Heap := none :: some ⟨24, [.i .i64 0, .s [], .nils], .all⟩ :: some ⟨28, [.i .i64 0], .all⟩ :: some ⟨24, [.i .i64 f.kind, .s f.text, .isl 3 (Nd.encL f.kids)], .all⟩ :: none :: none :: List.replicate n none
def badHeap (n : Nat) : Heap := none :: some ⟨24, [.i .i64 0, .s [], .nils], .all⟩ :: some ⟨28, [.i .i64 5], .all⟩ :: List.replicate (n + 4) none
theorem okHeap_le {K : Heap} {f : Nd} {n : Nat} (h : AtS K f n) : HLe (okHeap f n) K := by
  refine ⟨by simp [okHeap, h.gl], fun i b hb => ?_⟩
  match i with
  | 0 => simp [okHeap] at hb
  | 1 => rw [h.g1]; simpa [okHeap] using hb
  | 2 => rw [h.g2]; simpa [okHeap] using hb
  | 3 => rw [h.g3]; simpa [okHeap] using hb
  | 4 => simp [okHeap] at hb
  | 5 => simp [okHeap] at hb
  | k + 6 => simp [okHeap, List.getElem?_replicate] at hb
theorem badHeap_le {K : Heap} {n : Nat} (h : AtBad K (n + 7)) : HLe (badHeap n) K := by
  obtain ⟨h0, h1, h2⟩ := h
  refine ⟨by simp [badHeap, h0], fun i b hb => ?_⟩
  match i with
  | 0 => simp [badHeap] at hb
  | 1 => rw [h1]; simpa [badHeap] using hb
  | 2 => rw [h2]; simpa [badHeap] using hb
  | k + 3 => simp [badHeap, List.getElem?_replicate] at hb
theorem iter_ok {call : CallF} (hC : call.Sound Tryz.prog TT) {tA : Tm} (l : Nat) (rec : Loop) (hst : rec.state = .ready) (hpd : rec.pending = none) (hps : rec.params = #[13, 14]) (hasg : rec.assign = asg) (hbdy : rec.body = bdy) (hwA : tA.wid = 21) (b4 : tA.get 4 = .ptr 1 0) (b5 : tA.get 5 = .ptr 2 0) (b6 : tA.get 6 = .ptr 3 0)
    (x fin : Nd) (p : List Int) (hwalk : walkN x p = some fin) (hlen : p.length < 1100000) (K : Heap) (hK : AtS K x 0) (h5 : K[5]? = some (some ⟨25, [.isl 1 (encI p)], .all⟩)) : TriG Tryz.prog TT none [⟨l, .loop rec, tA, rec.tmps⟩] (bodyOf Tryz.f35) (Tm.init Tryz.f35.ntmps [.yld l, .ptr 5 0, .ptr 4 0]) K (RangeQ TT Tryz.f35 l rec.tmps tA (.norm tA (okHeap fin p.length)) []) := by
  have h0 : (Tm.init Tryz.f35.ntmps [.yld l, .ptr 5 0, .ptr 4 0]).get 0 = .yld l := by rw [get_init]; rfl
  have h1 : (Tm.init Tryz.f35.ntmps [.yld l, .ptr 5 0, .ptr 4 0]).get 1 = .ptr 5 0 := by rw [get_init]; rfl
  have h2 : (Tm.init Tryz.f35.ntmps [.yld l, .ptr 5 0, .ptr 4 0]).get 2 = .ptr 4 0 := by rw [get_init]; rfl
  have hw : (Tm.init Tryz.f35.ntmps [.yld l, .ptr 5 0, .ptr 4 0]).wid = 34 := rfl
  generalize Tm.init Tryz.f35.ntmps [.yld l, .ptr 5 0, .ptr 4 0] = t at *
  refine TriG.seq ?_
  refine TriG.reg (t' := ?t1) (H' := ?H1) TT_ok hC (by kernel_rfl) ?e1 ?q1
  case e1 =>
    refine go_false ?_
    refine evSeq_go rfl (by simp [h0, h1, h2, h5, encI_length] <;> rfl) (by rfl) (by simp [hw]) ?_
    refine evSeq_go rfl (by simp [h0, h1, h2, h5, encI_length] <;> rfl) (by rfl) (by simp [hw]) ?_
    refine evSeq_go rfl (by simp [h0, h1, h2, h5, encI_length] <;> rfl) (by rfl) (by simp [hw]) ?_
    exact evSeq_nil
  refine inSeqG_norm ?_
  refine TriG.block ?_
  refine TriG.loop ?_
  refine loop45 hC hst hpd hps hasg hbdy hwA b4 b5 b6 p [] x fin _ _ hK hwalk (by simp [hw]) (by simp [h0]) (by simp [h1]) (by simp [h2]) (by simp) (by simp [encI_length]) (by simp) (by simpa using hlen) ?exit
  case exit =>
    intro t2 K2 hI2
    refine inBlkG_exit ?_
    exact ⟨rec, K2, okHeap fin p.length, .tup [], okHeap_le (by simpa using hI2), ⟨_, .inl rfl, rfl⟩, rfl, by rw [hst]; simp, .inl ⟨hpd, rfl⟩⟩
theorem body_12ok {call : CallF} (hC : call.Sound Tryz.prog TT) (x : Nd) (p : List Int) (fin : Nd) (hwalk : walkN x p = some fin) (hcp : ∀ K, call 28 [.agg [.i .i64 fin.kind, .s fin.text, .isl 3 (Nd.encL fin.kids)]] K = .val (.agg [.i .i64 fin.kind, .s fin.text, .isl 3 (Nd.encL fin.kids)]) K) (hlen : p.length < 1100000) (hs18 : ∀ K : Heap, call 27 [.agg [.i .i64 x.kind, .s x.text, .isl 3 (Nd.encL x.kids)], .isl 1 (encI p)] K = .val (.fn 35 [.ptr (K.length + 1) 0, .ptr K.length 0]) (K ++ [some ⟨24, [.i .i64 x.kind, .s x.text, .isl 3 (Nd.encL x.kids)], .all⟩, some ⟨25, [.isl 1 (encI p)], .all⟩]))  : GBody Tryz.prog TT 8 [x.enc, .isl 1 (encI p)] [] (fun v _ => v = .tup [.agg [.i .i64 fin.kind, .s fin.text, .isl 3 (Nd.encL fin.kids)], .i .i64 0]) := by
  refine ⟨Tryz.f8, _, rfl, rfl, by simp [Tryz.f8], ?_⟩
  have h0 : (Tm.init Tryz.f8.ntmps [x.enc, .isl 1 (encI p)]).get 0 = x.enc := by rw [get_init]; rfl
  have h1 : (Tm.init Tryz.f8.ntmps [x.enc, .isl 1 (encI p)]).get 1 = .isl 1 (encI p) := by rw [get_init]; rfl
  have hw : (Tm.init Tryz.f8.ntmps [x.enc, .isl 1 (encI p)]).wid = 21 := rfl
  generalize Tm.init Tryz.f8.ntmps [x.enc, .isl 1 (encI p)] = t at *
  try simp only [Nd.enc_eq] at *
  refine TriG.seq ?_
  refine TriG.reg (t' := ?t1) (H' := ?H1) TT_ok hC (by kernel_rfl) ?e1 ?q1
  case e1 =>
    refine go_false ?_
    refine evSeq_go rfl (by simp [h0, h1, hs18, hcp, okHeap] <;> rfl) (by rfl) (by simp [hw]) ?_
    refine evSeq_go rfl (by simp [h0, h1, hs18, hcp, okHeap] <;> rfl) (by rfl) (by simp [hw]) ?_
    refine evSeq_go rfl (by simp [h0, h1, hs18, hcp, okHeap] <;> rfl) (by rfl) (by simp [hw]) ?_
    exact evSeq_nil
  refine inSeqG_norm ?_
  refine TriG.seq ?_
  refine TriG.reg (t' := ?t2) (H' := ?H2) TT_ok hC (by kernel_rfl) ?e2 ?q2
  case e2 =>
    refine go_false ?_
    refine evSeq_go rfl (by simp [h0, h1, hs18, hcp, okHeap] <;> rfl) (by rfl) (by simp [hw]) ?_
    refine evSeq_go rfl (by simp [h0, h1, hs18, hcp, okHeap] <;> rfl) (by rfl) (by simp [hw]) ?_
    refine evSeq_go rfl (by simp [h0, h1, hs18, hcp, okHeap] <;> rfl) (by rfl) (by simp [hw]) ?_
    exact evSeq_nil
  refine inSeqG_norm ?_
  refine TriG.seq ?_
  refine TriG.seq ?_
  refine TriG.reg (t' := ?t3) (H' := ?H3) TT_ok hC (by kernel_rfl) ?e3 ?q3
  case e3 =>
    refine go_false ?_
    refine evSeq_go rfl (by simp [h0, h1, hs18, hcp, okHeap] <;> rfl) (by rfl) (by simp [hw]) ?_
    refine evSeq_go rfl (by simp [h0, h1, hs18, hcp, okHeap] <;> rfl) (by rfl) (by simp [hw]) ?_
    refine evSeq_go rfl (by simp [h0, h1, hs18, hcp, okHeap] <;> rfl) (by rfl) (by simp [hw]) ?_
    exact evSeq_nil
  refine inSeqG_norm ?_
  refine TriG.block ?_
  refine TriG.range_norm TT_ok (okHeap fin p.length) (hsz := []) (gv := some (.fn 35 [.ptr 5 0, .ptr 4 0])) (by simp) rfl Tryz.func35 rfl (TT_ok.func 35 _ _ rfl rfl).2 (by decide) (by simp) ?hI ?hQ
  case hI =>
    intro l rec hst hpd hps hasg hbdy
    refine @iter_ok call hC _ l rec hst hpd hps hasg hbdy ?_ ?_ ?_ ?_ x fin p hwalk hlen _ ⟨?_, ?_, ?_, ?_, ?_⟩ ?_
    all_goals simp [hw]
  refine inBlkG_norm ?_
  refine inSeqG_norm ?_
  refine TriG.seq ?_
  refine TriG.reg (t' := ?t4) (H' := ?H4) TT_ok hC (by kernel_rfl) ?e4 ?q4
  case e4 =>
    refine go_false ?_
    refine evSeq_go rfl (by simp [h0, h1, hs18, hcp, okHeap] <;> rfl) (by rfl) (by simp [hw]) ?_
    refine evSeq_go rfl (by simp [h0, h1, hs18, hcp, okHeap] <;> rfl) (by rfl) (by simp [hw]) ?_
    refine evSeq_go rfl (by simp [h0, h1, hs18, hcp, okHeap] <;> rfl) (by rfl) (by simp [hw]) ?_
    refine evSeq_go rfl (by simp [h0, h1, hs18, hcp, okHeap] <;> rfl) (by rfl) (by simp [hw]) ?_
    exact evSeq_nil
  refine inSeqG_norm ?_
  refine TriG.ret ?_
  refine ⟨.tup [.agg [.i .i64 fin.kind, .s fin.text, .isl 3 (Nd.encL fin.kids)], .i .i64 0], _, ⟨_, .inr rfl, ?_⟩, rfl⟩
  simp [finish, evResults, evResult, Tryz.f8, okHeap, badHeap]
theorem iter_no {call : CallF} (hC : call.Sound Tryz.prog TT) {tA : Tm} (l : Nat) (rec : Loop) (hst : rec.state = .ready) (hpd : rec.pending = none) (hps : rec.params = #[13, 14]) (hasg : rec.assign = asg) (hbdy : rec.body = bdy) (hwA : tA.wid = 21) (b4 : tA.get 4 = .ptr 1 0) (b5 : tA.get 5 = .ptr 2 0) (b6 : tA.get 6 = .ptr 3 0)
    (x : Nd) (p : List Int) (hwalk : walkN x p = none) (hlen : p.length < 1100000) (K : Heap) (hK : AtS K x 0) (h5 : K[5]? = some (some ⟨25, [.isl 1 (encI p)], .all⟩)) : TriG Tryz.prog TT none [⟨l, .loop rec, tA, rec.tmps⟩] (bodyOf Tryz.f35) (Tm.init Tryz.f35.ntmps [.yld l, .ptr 5 0, .ptr 4 0]) K (RangeQ TT Tryz.f35 l rec.tmps tA (.ret tA (badHeap (failAt x p))) []) := by
  have h0 : (Tm.init Tryz.f35.ntmps [.yld l, .ptr 5 0, .ptr 4 0]).get 0 = .yld l := by rw [get_init]; rfl
  have h1 : (Tm.init Tryz.f35.ntmps [.yld l, .ptr 5 0, .ptr 4 0]).get 1 = .ptr 5 0 := by rw [get_init]; rfl
  have h2 : (Tm.init Tryz.f35.ntmps [.yld l, .ptr 5 0, .ptr 4 0]).get 2 = .ptr 4 0 := by rw [get_init]; rfl
  have hw : (Tm.init Tryz.f35.ntmps [.yld l, .ptr 5 0, .ptr 4 0]).wid = 34 := rfl
  generalize Tm.init Tryz.f35.ntmps [.yld l, .ptr 5 0, .ptr 4 0] = t at *
  refine TriG.seq ?_
  refine TriG.reg (t' := ?t1) (H' := ?H1) TT_ok hC (by kernel_rfl) ?e1 ?q1
  case e1 =>
    refine go_false ?_
    refine evSeq_go rfl (by simp [h0, h1, h2, h5, encI_length] <;> rfl) (by rfl) (by simp [hw]) ?_
    refine evSeq_go rfl (by simp [h0, h1, h2, h5, encI_length] <;> rfl) (by rfl) (by simp [hw]) ?_
    refine evSeq_go rfl (by simp [h0, h1, h2, h5, encI_length] <;> rfl) (by rfl) (by simp [hw]) ?_
    exact evSeq_nil
  refine inSeqG_norm ?_
  refine TriG.block ?_
  refine TriG.loop ?_
  refine loop45b hC hst hpd hps hasg hbdy hwA b4 b5 b6 p [] x _ _ hK hwalk (by simp [hw]) (by simp [h0]) (by simp [h1]) (by simp [h2]) (by simp) (by simp [encI_length]) (by simp) (by simpa using hlen) ?exit
  case exit =>
    intro t2 K2 hI2
    refine inBlkG_ret ?_
    exact ⟨_, K2, badHeap (failAt x p), .tup [], badHeap_le (by simpa using hI2), ⟨_, .inr rfl, rfl⟩, rfl, by simp, .inr (.inl ⟨rfl, rfl⟩)⟩
theorem body_12no {call : CallF} (hC : call.Sound Tryz.prog TT) (x : Nd) (p : List Int) (hwalk : walkN x p = none) (hlen : p.length < 1100000) (hs18 : ∀ K : Heap, call 27 [.agg [.i .i64 x.kind, .s x.text, .isl 3 (Nd.encL x.kids)], .isl 1 (encI p)] K = .val (.fn 35 [.ptr (K.length + 1) 0, .ptr K.length 0]) (K ++ [some ⟨24, [.i .i64 x.kind, .s x.text, .isl 3 (Nd.encL x.kids)], .all⟩, some ⟨25, [.isl 1 (encI p)], .all⟩]))  : GBody Tryz.prog TT 8 [x.enc, .isl 1 (encI p)] [] (fun v _ => v = .tup [.agg [.i .i64 0, .s [], .nils], .i .i64 5]) := by
  refine ⟨Tryz.f8, _, rfl, rfl, by simp [Tryz.f8], ?_⟩
  have h0 : (Tm.init Tryz.f8.ntmps [x.enc, .isl 1 (encI p)]).get 0 = x.enc := by rw [get_init]; rfl
  have h1 : (Tm.init Tryz.f8.ntmps [x.enc, .isl 1 (encI p)]).get 1 = .isl 1 (encI p) := by rw [get_init]; rfl
  have hw : (Tm.init Tryz.f8.ntmps [x.enc, .isl 1 (encI p)]).wid = 21 := rfl
  generalize Tm.init Tryz.f8.ntmps [x.enc, .isl 1 (encI p)] = t at *
  try simp only [Nd.enc_eq] at *
  refine TriG.seq ?_
  refine TriG.reg (t' := ?t1) (H' := ?H1) TT_ok hC (by kernel_rfl) ?e1 ?q1
  case e1 =>
    refine go_false ?_
    refine evSeq_go rfl (by simp [h0, h1, hs18, badHeap] <;> rfl) (by rfl) (by simp [hw]) ?_
    refine evSeq_go rfl (by simp [h0, h1, hs18, badHeap] <;> rfl) (by rfl) (by simp [hw]) ?_
    refine evSeq_go rfl (by simp [h0, h1, hs18, badHeap] <;> rfl) (by rfl) (by simp [hw]) ?_
    exact evSeq_nil
  refine inSeqG_norm ?_
  refine TriG.seq ?_
  refine TriG.reg (t' := ?t2) (H' := ?H2) TT_ok hC (by kernel_rfl) ?e2 ?q2
  case e2 =>
    refine go_false ?_
    refine evSeq_go rfl (by simp [h0, h1, hs18, badHeap] <;> rfl) (by rfl) (by simp [hw]) ?_
    refine evSeq_go rfl (by simp [h0, h1, hs18, badHeap] <;> rfl) (by rfl) (by simp [hw]) ?_
    refine evSeq_go rfl (by simp [h0, h1, hs18, badHeap] <;> rfl) (by rfl) (by simp [hw]) ?_
    exact evSeq_nil
  refine inSeqG_norm ?_
  refine TriG.seq ?_
  refine TriG.seq ?_
  refine TriG.reg (t' := ?t3) (H' := ?H3) TT_ok hC (by kernel_rfl) ?e3 ?q3
  case e3 =>
    refine go_false ?_
    refine evSeq_go rfl (by simp [h0, h1, hs18, badHeap] <;> rfl) (by rfl) (by simp [hw]) ?_
    refine evSeq_go rfl (by simp [h0, h1, hs18, badHeap] <;> rfl) (by rfl) (by simp [hw]) ?_
    refine evSeq_go rfl (by simp [h0, h1, hs18, badHeap] <;> rfl) (by rfl) (by simp [hw]) ?_
    exact evSeq_nil
  refine inSeqG_norm ?_
  refine TriG.block ?_
  refine TriG.range_ret TT_ok (badHeap (failAt x p)) (hsz := []) (gv := some (.fn 35 [.ptr 5 0, .ptr 4 0])) (by simp) rfl Tryz.func35 rfl (TT_ok.func 35 _ _ rfl rfl).2 (by decide) (by simp) ?hI ?hQ
  case hI =>
    intro l rec hst hpd hps hasg hbdy
    refine @iter_no call hC _ l rec hst hpd hps hasg hbdy ?_ ?_ ?_ ?_ x p hwalk hlen _ ⟨?_, ?_, ?_, ?_, ?_⟩ ?_
    all_goals simp [hw]
  refine inBlkG_ret ?_
  refine inSeqG_ret ?_
  refine ⟨.tup [.agg [.i .i64 0, .s [], .nils], .i .i64 5], _, ⟨_, .inr rfl, ?_⟩, rfl⟩
  simp [finish, evResults, evResult, Tryz.f8, okHeap, badHeap]
end Go.Ev

namespace Go.Ev
open Go Go.Proofs
set_option maxRecDepth 100000
set_option linter.unusedSimpArgs false
set_option linter.unusedVariables false
theorem walkN_num : ∀ (p : List Int) (x f : Nd), walkN x p = some f → f.num ≤ x.num
  | [], x, f, h => by
    simp only [walkN, Option.some.injEq] at h
    rw [h]
    exact Nat.le_refl _
  | i :: p, x, f, h => by
    simp only [walkN] at h
    split at h
    · split at h
      · rename_i k hk
        have h1 := walkN_num p k f h
        have h2 := Nd.num_mem (List.mem_of_getElem? hk)
        have h3 := x.num_eq
        omega
      · cases h
    · cases h
def noNd : Nd := .mk 0 [] []
/-- What At returns. -/
def atV (x : Nd) (p : List Int) : V := match walkN x p with
  | some f => .tup [f.enc, .i .i64 0]
  | none => .tup [noNd.enc, .i .i64 5]
theorem encI_inj : ∀ a b : List Int, encI a = encI b → a = b
  | [], [], _ => rfl
  | [], _ :: _, h => by simp [encI] at h
  | _ :: _, [], h => by simp [encI] at h
  | x :: a, y :: b, h => by
    simp only [encI, List.map_cons, List.cons.injEq, V.i.injEq, true_and] at h
    rw [h.1, encI_inj a b h.2]
theorem args_inj {x y : Nd} {p q : List Int} (h : [x.enc, V.isl 1 (encI p)] = [y.enc, .isl 1 (encI q)]) : x = y ∧ p = q := by
  simp only [List.cons.injEq, V.isl.injEq, true_and, and_true] at h
  exact ⟨Nd.enc_inj _ _ h.1, encI_inj _ _ h.2⟩
/-- steps. -/
theorem sp18 : ∃ g, SpecOK Tryz.prog TT 27 g ∧ ∀ (x : Nd) (p : List V) (K : Heap), g [x.enc, .isl 1 p] K = .val (.fn 35 [.ptr (K.length + 1) 0, .ptr K.length 0]) (K ++ [some ⟨24, [.i .i64 x.kind, .s x.text, .isl 3 (Nd.encL x.kids)], .all⟩, some ⟨25, [.isl 1 p], .all⟩]) := by
  obtain ⟨g, k, s⟩ := HFact.spec (F := 27) TT_ok (D := fun vs _ => ∃ (x : Nd) (p : List V), vs = [x.enc, .isl 1 p]) (R := fun vs K v K' => ∃ (x : Nd) (p : List V), vs = [x.enc, .isl 1 p] ∧ v = .fn 35 [.ptr (K.length + 1) 0, .ptr K.length 0] ∧ K' = K ++ [some ⟨24, [.i .i64 x.kind, .s x.text, .isl 3 (Nd.encL x.kids)], .all⟩, some ⟨25, [.isl 1 p], .all⟩]) (fun vs K hd => by
    obtain ⟨x, p, rfl⟩ := hd
    exact (HBody.fact TT_ok (body_18 none_sound x p K)).mono fun v H' h => ⟨x, p, rfl, h.1, h.2⟩)
  refine ⟨g, k, fun x p K => ?_⟩
  obtain ⟨v, K', ⟨x', p', e, h1, h2⟩, h⟩ := s [x.enc, .isl 1 p] K ⟨x, p, rfl⟩
  simp only [List.cons.injEq, V.isl.injEq, true_and, and_true] at e
  have := Nd.enc_inj _ _ e.1
  subst this
  rw [h, h1, h2, e.2]
theorem fz_at (K : Heap) (f : Nd) (c : Int) : fz K 9 (.tup [.agg [.i .i64 f.kind, .s f.text, .isl 3 (Nd.encL f.kids)], .i .i64 c]) = some (.tup [.agg [.i .i64 f.kind, .s f.text, .isl 3 (Nd.encL f.kids)], .i .i64 c]) := by
  simp [fz, fzL, nl, Nd.encL_nl]
/-- At. -/
theorem sp12 : ∃ g, SpecOK Tryz.prog TT 8 g ∧ ∀ (x : Nd) (p : List Int), x.num < NT → p.length < 1100000 → ∀ H : Heap, g [x.enc, .isl 1 (encI p)] H = .val (atV x p) H := by
  obtain ⟨g18, k18, s18⟩ := sp18
  obtain ⟨g19, k19, s19⟩ := sp19
  have hC := ws (ws n0 k19) k18
  obtain ⟨g, k, s⟩ := HFact.spec (F := 8) TT_ok (D := fun vs K => K = [] ∧ ∃ (x : Nd) (p : List Int), x.num < NT ∧ p.length < 1100000 ∧ vs = [x.enc, .isl 1 (encI p)]) (R := fun vs _ v _ => ∃ (x : Nd) (p : List Int), vs = [x.enc, .isl 1 (encI p)] ∧
      ((∃ f, walkN x p = some f ∧ v = .tup [.agg [.i .i64 f.kind, .s f.text, .isl 3 (Nd.encL f.kids)], .i .i64 0]) ∨ (walkN x p = none ∧ v = .tup [.agg [.i .i64 0, .s [], .nils], .i .i64 5]))) (fun vs K hd => by
    obtain ⟨rfl, x, p, hx, hp, rfl⟩ := hd
    have h18 : ∀ K : Heap, ((CallF.none.with 28 g19).with 27 g18) 27 [.agg [.i .i64 x.kind, .s x.text, .isl 3 (Nd.encL x.kids)], .isl 1 (encI p)] K = .val (.fn 35 [.ptr (K.length + 1) 0, .ptr K.length 0]) (K ++ [some ⟨24, [.i .i64 x.kind, .s x.text, .isl 3 (Nd.encL x.kids)], .all⟩, some ⟨25, [.isl 1 (encI p)], .all⟩]) := fun K => by
      rw [w_here, ← Nd.enc_eq]
      exact s18 x (encI p) K
    cases hw : walkN x p with
    | some f =>
      refine (GBody.fact TT_ok (body_12ok hC x p f hw (fun K => ?_) hp h18)).mono fun v H' h => ⟨x, p, rfl, .inl ⟨f, hw, h⟩⟩
      rw [w_other _ _ _ _ rfl, w_here, ← Nd.enc_eq]
      have := walkN_num p x f hw
      exact s19 f (by omega) K
    | none => exact (GBody.fact TT_ok (body_12no hC x p hw hp h18)).mono fun v H' h => ⟨x, p, rfl, .inr ⟨hw, h⟩⟩)
  obtain ⟨g', k', s'⟩ := spec_frzw TT_plain k (fun vs => ∃ (x : Nd) (p : List Int), x.num < NT ∧ p.length < 1100000 ∧ vs = [x.enc, .isl 1 (encI p)]) (fun vs v => ∃ (x : Nd) (p : List Int), vs = [x.enc, .isl 1 (encI p)] ∧ v = atV x p) (by
    rintro vs ⟨x, p, hx, hp, rfl⟩
    refine ⟨by simp [nlL, nl, Nd.enc_nl, encI_nl], ?_⟩
    obtain ⟨v, K', ⟨x', p', e, hv⟩, h⟩ := s [x.enc, .isl 1 (encI p)] [] ⟨rfl, x, p, hx, hp, rfl⟩
    obtain ⟨rfl, rfl⟩ := args_inj e
    rcases hv with ⟨f, hw, rfl⟩ | ⟨hw, rfl⟩
    · exact ⟨_, K', 9, _, _, h, fz_at K' f 0, Weak.refl _, x, p, rfl, by simp [atV, hw, Nd.enc_eq]⟩
    · refine ⟨_, K', 9, .tup [.agg [.i .i64 0, .s [], .nils], .i .i64 5], .tup [noNd.enc, .i .i64 5], h, by simp [fz, fzL], ?_, x, p, rfl, by simp [atV, hw]⟩
      refine WeakL.tup (WeakL.cons (WeakL.agg ?_) (WeakL.cons (Weak.refl _) WeakL.nil))
      exact WeakL.cons (Weak.refl _) (WeakL.cons (Weak.refl _) (WeakL.cons (weak_nils 3) WeakL.nil)))
  refine ⟨g', k', fun x p hx hp H => ?_⟩
  obtain ⟨v, ⟨x', p', e, hv⟩, h⟩ := s' [x.enc, .isl 1 (encI p)] ⟨x, p, hx, hp, rfl⟩
  obtain ⟨rfl, rfl⟩ := args_inj e
  rw [h H, hv]
end Go.Ev
