/- At of a tree and a path is the part that lies there, or none. One name is a name. The functions do what the law asks ahead of the rest. The law returns true, for all trees within its bounds. The contract of the row, where what is read is of bulk at most 1048576. -/
import Derived.Test.YtddpjgoboboidaaGreatDoorKAt2
import Derived.Test.YtddpjgoboboidaaGreatDoorKT3
import Derived.Test.YtddpjgoboboidaaGreatDoorKP9
import Derived.ChangeShapes
import Derived.WideShapes
import Derived.RowKit3
import Derived.OpenShut
namespace Go.Ev
open Go Go.Proofs
set_option linter.unusedSimpArgs false
set_option linter.unusedVariables false
set_option maxRecDepth 1000000
def okHeap (f : Nd) (n : Nat) : Heap := none :: some ⟨24, [.i .i64 0, .s [], .nils], .all⟩ :: some ⟨28, [.i .i64 0], .all⟩ :: some ⟨24, [.i .i64 f.kind, .s f.text, .isl 3 (Nd.encL f.kids)], .all⟩ :: none :: none :: List.replicate n none
def badHeap (n : Nat) : Heap := none :: some ⟨24, [.i .i64 0, .s [], .nils], .all⟩ :: some ⟨28, [.i .i64 5], .all⟩ :: List.replicate (n + 4) none
theorem okHeap_le {K : Heap} {f : Nd} {n : Nat} (h : AtS K f n) : HLe (okHeap f n) K := by
  refine ⟨by simp [okHeap, h.gl], fun i b hb => ?_⟩
  match i with
  | 0 => simp [okHeap] at hb
  | 1 => rw [h.g1]; simpa [okHeap] using hb
  | 2 => rw [h.g2]; simpa [okHeap] using hb
  | 3 => rw [h.g3]; simpa [okHeap] using hb
  | 4 => simp [okHeap] at hb
  | 5 => simp [okHeap] at hb
  | k + 6 => simp [okHeap, List.getElem?_replicate] at hb
theorem badHeap_le {K : Heap} {n : Nat} (h : AtBad K (n + 7)) : HLe (badHeap n) K := by
  obtain ⟨h0, h1, h2⟩ := h
  refine ⟨by simp [badHeap, h0], fun i b hb => ?_⟩
  match i with
  | 0 => simp [badHeap] at hb
  | 1 => rw [h1]; simpa [badHeap] using hb
  | 2 => rw [h2]; simpa [badHeap] using hb
  | k + 3 => simp [badHeap, List.getElem?_replicate] at hb
theorem iter_ok {call : CallF} (hC : call.Sound Tryz.prog TT) {tA : Tm} (l : Nat) (rec : Loop) (hst : rec.state = .ready) (hpd : rec.pending = none) (hps : rec.params = #[13, 14]) (hasg : rec.assign = asg) (hbdy : rec.body = bdy) (hwA : tA.wid = 21) (b4 : tA.get 4 = .ptr 1 0) (b5 : tA.get 5 = .ptr 2 0) (b6 : tA.get 6 = .ptr 3 0)
    (x fin : Nd) (p : List Int) (hwalk : walkN x p = some fin) (hlen : p.length < 1100000) (K : Heap) (hK : AtS K x 0) (h5 : K[5]? = some (some ⟨25, [.isl 1 (encI p)], .all⟩)) : TriG Tryz.prog TT none [⟨l, .loop rec, tA, rec.tmps⟩] (bodyOf Tryz.f35) (Tm.init Tryz.f35.ntmps [.yld l, .ptr 5 0, .ptr 4 0]) K (RangeQ TT Tryz.f35 l rec.tmps tA (.norm tA (okHeap fin p.length)) []) := by
 have h0 : (Tm.init Tryz.f35.ntmps [.yld l, .ptr 5 0, .ptr 4 0]).get 0 = .yld l := by rw [get_init]; rfl
 have h1 : (Tm.init Tryz.f35.ntmps [.yld l, .ptr 5 0, .ptr 4 0]).get 1 = .ptr 5 0 := by rw [get_init]; rfl
 have h2 : (Tm.init Tryz.f35.ntmps [.yld l, .ptr 5 0, .ptr 4 0]).get 2 = .ptr 4 0 := by rw [get_init]; rfl
 have hw : (Tm.init Tryz.f35.ntmps [.yld l, .ptr 5 0, .ptr 4 0]).wid = 34 := rfl
 generalize Tm.init Tryz.f35.ntmps [.yld l, .ptr 5 0, .ptr 4 0] = t at *
 apply TriG.seq
 apply rG hC
 · iterate 3 refine gO (by simp [h0, h1, h2, h5, encI_length] <;> rfl) ?_
   rfl
 apply inSeqG_norm
 refine TriG.block ?_
 refine TriG.loop ?_
 refine loop45 hC hst hpd hps hasg hbdy hwA b4 b5 b6 p [] x fin _ _ hK hwalk (by simp [hw]) (by simp [h0]) (by simp [h1]) (by simp [h2]) (by simp) (by simp [encI_length]) (by simp) (by simpa using hlen) ?exit
 case exit =>
  intro t2 K2 hI2
  refine inBlkG_exit ?_
  exact ⟨rec, K2, okHeap fin p.length, .tup [], okHeap_le (by simpa using hI2), ⟨_, .inl rfl, rfl⟩, rfl, by rw [hst]; simp, .inl ⟨hpd, rfl⟩⟩
theorem body_12ok {call : CallF} (hC : call.Sound Tryz.prog TT) (x : Nd) (p : List Int) (fin : Nd) (hwalk : walkN x p = some fin) (hcp : ∀ K, call 28 [.agg [.i .i64 fin.kind, .s fin.text, .isl 3 (Nd.encL fin.kids)]] K = .val (.agg [.i .i64 fin.kind, .s fin.text, .isl 3 (Nd.encL fin.kids)]) K) (hlen : p.length < 1100000) (hs18 : ∀ K : Heap, call 27 [.agg [.i .i64 x.kind, .s x.text, .isl 3 (Nd.encL x.kids)], .isl 1 (encI p)] K = .val (.fn 35 [.ptr (K.length + 1) 0, .ptr K.length 0]) (K ++ [some ⟨24, [.i .i64 x.kind, .s x.text, .isl 3 (Nd.encL x.kids)], .all⟩, some ⟨25, [.isl 1 (encI p)], .all⟩]))  : GBody Tryz.prog TT 8 [x.enc, .isl 1 (encI p)] [] (fun v _ => v = .tup [.agg [.i .i64 fin.kind, .s fin.text, .isl 3 (Nd.encL fin.kids)], .i .i64 0]) := by
 refine ⟨Tryz.f8, _, rfl, rfl, by simp [Tryz.f8], ?_⟩
 have h0 : (Tm.init Tryz.f8.ntmps [x.enc, .isl 1 (encI p)]).get 0 = x.enc := by rw [get_init]; rfl
 have h1 : (Tm.init Tryz.f8.ntmps [x.enc, .isl 1 (encI p)]).get 1 = .isl 1 (encI p) := by rw [get_init]; rfl
 have hw : (Tm.init Tryz.f8.ntmps [x.enc, .isl 1 (encI p)]).wid = 21 := rfl
 generalize Tm.init Tryz.f8.ntmps [x.enc, .isl 1 (encI p)] = t at *
 try simp only [Nd.enc_eq] at *
 apply TriG.seq
 apply rG hC
 · iterate 3 refine gO (by simp [h0, h1, hs18, hcp, okHeap] <;> rfl) ?_
   rfl
 apply inSeqG_norm
 apply TriG.seq
 apply rG hC
 · iterate 3 refine gO (by simp [h0, h1, hs18, hcp, okHeap] <;> rfl) ?_
   rfl
 apply inSeqG_norm
 iterate 2 apply TriG.seq
 apply rG hC
 · iterate 3 refine gO (by simp [h0, h1, hs18, hcp, okHeap] <;> rfl) ?_
   rfl
 apply inSeqG_norm
 refine TriG.block ?_
 refine TriG.range_norm TT_ok (okHeap fin p.length) (hsz := []) (gv := some (.fn 35 [.ptr 5 0, .ptr 4 0])) (by simp) rfl Tryz.func35 rfl (TT_ok.func 35 _ _ rfl rfl).2 (by decide) (by simp) ?hI ?hQ
 case hI =>
  intro l rec hst hpd hps hasg hbdy
  refine @iter_ok call hC _ l rec hst hpd hps hasg hbdy ?_ ?_ ?_ ?_ x fin p hwalk hlen _ ⟨?_, ?_, ?_, ?_, ?_⟩ ?_
  all_goals simp [hw]
 refine inBlkG_norm ?_
 apply inSeqG_norm
 apply TriG.seq
 apply rG hC
 · iterate 4 refine gO (by simp [h0, h1, hs18, hcp, okHeap] <;> rfl) ?_
   rfl
 apply inSeqG_norm
 refine TriG.ret ?_
 refine ⟨.tup [.agg [.i .i64 fin.kind, .s fin.text, .isl 3 (Nd.encL fin.kids)], .i .i64 0], _, ⟨_, .inr rfl, ?_⟩, rfl⟩
 simp [Tryz.f8, okHeap, badHeap]
theorem iter_no {call : CallF} (hC : call.Sound Tryz.prog TT) {tA : Tm} (l : Nat) (rec : Loop) (hst : rec.state = .ready) (hpd : rec.pending = none) (hps : rec.params = #[13, 14]) (hasg : rec.assign = asg) (hbdy : rec.body = bdy) (hwA : tA.wid = 21) (b4 : tA.get 4 = .ptr 1 0) (b5 : tA.get 5 = .ptr 2 0) (b6 : tA.get 6 = .ptr 3 0)
    (x : Nd) (p : List Int) (hwalk : walkN x p = none) (hlen : p.length < 1100000) (K : Heap) (hK : AtS K x 0) (h5 : K[5]? = some (some ⟨25, [.isl 1 (encI p)], .all⟩)) : TriG Tryz.prog TT none [⟨l, .loop rec, tA, rec.tmps⟩] (bodyOf Tryz.f35) (Tm.init Tryz.f35.ntmps [.yld l, .ptr 5 0, .ptr 4 0]) K (RangeQ TT Tryz.f35 l rec.tmps tA (.ret tA (badHeap (failAt x p))) []) := by
 have h0 : (Tm.init Tryz.f35.ntmps [.yld l, .ptr 5 0, .ptr 4 0]).get 0 = .yld l := by rw [get_init]; rfl
 have h1 : (Tm.init Tryz.f35.ntmps [.yld l, .ptr 5 0, .ptr 4 0]).get 1 = .ptr 5 0 := by rw [get_init]; rfl
 have h2 : (Tm.init Tryz.f35.ntmps [.yld l, .ptr 5 0, .ptr 4 0]).get 2 = .ptr 4 0 := by rw [get_init]; rfl
 have hw : (Tm.init Tryz.f35.ntmps [.yld l, .ptr 5 0, .ptr 4 0]).wid = 34 := rfl
 generalize Tm.init Tryz.f35.ntmps [.yld l, .ptr 5 0, .ptr 4 0] = t at *
 apply TriG.seq
 apply rG hC
 · iterate 3 refine gO (by simp [h0, h1, h2, h5, encI_length] <;> rfl) ?_
   rfl
 apply inSeqG_norm
 refine TriG.block ?_
 refine TriG.loop ?_
 refine loop45b hC hst hpd hps hasg hbdy hwA b4 b5 b6 p [] x _ _ hK hwalk (by simp [hw]) (by simp [h0]) (by simp [h1]) (by simp [h2]) (by simp) (by simp [encI_length]) (by simp) (by simpa using hlen) ?exit
 case exit =>
  intro t2 K2 hI2
  refine inBlkG_ret ?_
  exact ⟨_, K2, badHeap (failAt x p), .tup [], badHeap_le (by simpa using hI2), ⟨_, .inr rfl, rfl⟩, rfl, by simp, .inr (.inl ⟨rfl, rfl⟩)⟩
theorem body_12no {call : CallF} (hC : call.Sound Tryz.prog TT) (x : Nd) (p : List Int) (hwalk : walkN x p = none) (hlen : p.length < 1100000) (hs18 : ∀ K : Heap, call 27 [.agg [.i .i64 x.kind, .s x.text, .isl 3 (Nd.encL x.kids)], .isl 1 (encI p)] K = .val (.fn 35 [.ptr (K.length + 1) 0, .ptr K.length 0]) (K ++ [some ⟨24, [.i .i64 x.kind, .s x.text, .isl 3 (Nd.encL x.kids)], .all⟩, some ⟨25, [.isl 1 (encI p)], .all⟩]))  : GBody Tryz.prog TT 8 [x.enc, .isl 1 (encI p)] [] (fun v _ => v = .tup [.agg [.i .i64 0, .s [], .nils], .i .i64 5]) := by
 refine ⟨Tryz.f8, _, rfl, rfl, by simp [Tryz.f8], ?_⟩
 have h0 : (Tm.init Tryz.f8.ntmps [x.enc, .isl 1 (encI p)]).get 0 = x.enc := by rw [get_init]; rfl
 have h1 : (Tm.init Tryz.f8.ntmps [x.enc, .isl 1 (encI p)]).get 1 = .isl 1 (encI p) := by rw [get_init]; rfl
 have hw : (Tm.init Tryz.f8.ntmps [x.enc, .isl 1 (encI p)]).wid = 21 := rfl
 generalize Tm.init Tryz.f8.ntmps [x.enc, .isl 1 (encI p)] = t at *
 try simp only [Nd.enc_eq] at *
 apply TriG.seq
 apply rG hC
 · iterate 3 refine gO (by simp [h0, h1, hs18, badHeap] <;> rfl) ?_
   rfl
 apply inSeqG_norm
 apply TriG.seq
 apply rG hC
 · iterate 3 refine gO (by simp [h0, h1, hs18, badHeap] <;> rfl) ?_
   rfl
 apply inSeqG_norm
 iterate 2 apply TriG.seq
 apply rG hC
 · iterate 3 refine gO (by simp [h0, h1, hs18, badHeap] <;> rfl) ?_
   rfl
 apply inSeqG_norm
 refine TriG.block ?_
 refine TriG.range_ret TT_ok (badHeap (failAt x p)) (hsz := []) (gv := some (.fn 35 [.ptr 5 0, .ptr 4 0])) (by simp) rfl Tryz.func35 rfl (TT_ok.func 35 _ _ rfl rfl).2 (by decide) (by simp) ?hI ?hQ
 case hI =>
  intro l rec hst hpd hps hasg hbdy
  refine @iter_no call hC _ l rec hst hpd hps hasg hbdy ?_ ?_ ?_ ?_ x p hwalk hlen _ ⟨?_, ?_, ?_, ?_, ?_⟩ ?_
  all_goals simp [hw]
 refine inBlkG_ret ?_
 refine inSeqG_ret ?_
 refine ⟨.tup [.agg [.i .i64 0, .s [], .nils], .i .i64 5], _, ⟨_, .inr rfl, ?_⟩, rfl⟩
 simp [Tryz.f8, okHeap, badHeap]
theorem walkN_num : ∀ (p : List Int) (x f : Nd), walkN x p = some f → f.num ≤ x.num
  | [], x, f, h => by
    simp only [walkN, Option.some.injEq] at h
    rw [h]
    exact Nat.le_refl _
  | i :: p, x, f, h => by
    simp only [walkN] at h
    split at h
    · split at h
      · rename_i k hk
        have h1 := walkN_num p k f h
        have h2 := Nd.num_mem (List.mem_of_getElem? hk)
        have h3 := x.num_eq
        omega
      · cases h
    · cases h
def noNd : Nd := .mk 0 [] []
def atV (x : Nd) (p : List Int) : V := match walkN x p with
  | some f => .tup [f.enc, .i .i64 0]
  | none => .tup [noNd.enc, .i .i64 5]
theorem encI_inj : ∀ a b : List Int, encI a = encI b → a = b
  | [], [], _ => rfl
  | [], _ :: _, h => by simp [encI] at h
  | _ :: _, [], h => by simp [encI] at h
  | x :: a, y :: b, h => by
    simp only [encI, List.map_cons, List.cons.injEq, V.i.injEq, true_and] at h
    rw [h.1, encI_inj a b h.2]
theorem args_inj {x y : Nd} {p q : List Int} (h : [x.enc, V.isl 1 (encI p)] = [y.enc, .isl 1 (encI q)]) : x = y ∧ p = q := by
  simp only [List.cons.injEq, V.isl.injEq, true_and, and_true] at h
  exact ⟨Nd.enc_inj _ _ h.1, encI_inj _ _ h.2⟩
theorem sp18 : ∃ g, SpecOK Tryz.prog TT 27 g ∧ ∀ (x : Nd) (p : List V) (K : Heap), g [x.enc, .isl 1 p] K = .val (.fn 35 [.ptr (K.length + 1) 0, .ptr K.length 0]) (K ++ [some ⟨24, [.i .i64 x.kind, .s x.text, .isl 3 (Nd.encL x.kids)], .all⟩, some ⟨25, [.isl 1 p], .all⟩]) := by
  obtain ⟨g, k, s⟩ := HFact.spec (F := 27) TT_ok (D := fun vs _ => ∃ (x : Nd) (p : List V), vs = [x.enc, .isl 1 p]) (R := fun vs K v K' => ∃ (x : Nd) (p : List V), vs = [x.enc, .isl 1 p] ∧ v = .fn 35 [.ptr (K.length + 1) 0, .ptr K.length 0] ∧ K' = K ++ [some ⟨24, [.i .i64 x.kind, .s x.text, .isl 3 (Nd.encL x.kids)], .all⟩, some ⟨25, [.isl 1 p], .all⟩]) (fun vs K hd => by
    obtain ⟨x, p, rfl⟩ := hd
    exact (HBody.fact TT_ok (body_18 none_sound x p K)).mono fun v H' h => ⟨x, p, rfl, h.1, h.2⟩)
  refine ⟨g, k, fun x p K => ?_⟩
  obtain ⟨v, K', ⟨x', p', e, h1, h2⟩, h⟩ := s [x.enc, .isl 1 p] K ⟨x, p, rfl⟩
  simp only [List.cons.injEq, V.isl.injEq, true_and, and_true] at e
  have := Nd.enc_inj _ _ e.1
  subst this
  rw [h, h1, h2, e.2]
theorem fz_at (K : Heap) (f : Nd) (c : Int) : fz K 9 (.tup [.agg [.i .i64 f.kind, .s f.text, .isl 3 (Nd.encL f.kids)], .i .i64 c]) = some (.tup [.agg [.i .i64 f.kind, .s f.text, .isl 3 (Nd.encL f.kids)], .i .i64 c]) := by
  simp [fz, fzL, nl, Nd.encL_nl]
theorem sp12 : ∃ g, SpecOK Tryz.prog TT 8 g ∧ ∀ (x : Nd) (p : List Int), x.num < NT → p.length < 1100000 → ∀ H : Heap, g [x.enc, .isl 1 (encI p)] H = .val (atV x p) H := by
  obtain ⟨g18, k18, s18⟩ := sp18
  obtain ⟨g19, k19, s19⟩ := sp19
  have hC := ws (ws n0 k19) k18
  obtain ⟨g, k, s⟩ := HFact.spec (F := 8) TT_ok (D := fun vs K => K = [] ∧ ∃ (x : Nd) (p : List Int), x.num < NT ∧ p.length < 1100000 ∧ vs = [x.enc, .isl 1 (encI p)]) (R := fun vs _ v _ => ∃ (x : Nd) (p : List Int), vs = [x.enc, .isl 1 (encI p)] ∧
      ((∃ f, walkN x p = some f ∧ v = .tup [.agg [.i .i64 f.kind, .s f.text, .isl 3 (Nd.encL f.kids)], .i .i64 0]) ∨ (walkN x p = none ∧ v = .tup [.agg [.i .i64 0, .s [], .nils], .i .i64 5]))) (fun vs K hd => by
    obtain ⟨rfl, x, p, hx, hp, rfl⟩ := hd
    have h18 : ∀ K : Heap, ((CallF.none.with 28 g19).with 27 g18) 27 [.agg [.i .i64 x.kind, .s x.text, .isl 3 (Nd.encL x.kids)], .isl 1 (encI p)] K = .val (.fn 35 [.ptr (K.length + 1) 0, .ptr K.length 0]) (K ++ [some ⟨24, [.i .i64 x.kind, .s x.text, .isl 3 (Nd.encL x.kids)], .all⟩, some ⟨25, [.isl 1 (encI p)], .all⟩]) := fun K => by
      rw [w_here, ← Nd.enc_eq]
      exact s18 x (encI p) K
    cases hw : walkN x p with
    | some f =>
      refine (GBody.fact TT_ok (body_12ok hC x p f hw (fun K => ?_) hp h18)).mono fun v H' h => ⟨x, p, rfl, .inl ⟨f, hw, h⟩⟩
      rw [w_other _ _ _ _ rfl, w_here, ← Nd.enc_eq]
      have := walkN_num p x f hw
      exact s19 f (by omega) K
    | none => exact (GBody.fact TT_ok (body_12no hC x p hw hp h18)).mono fun v H' h => ⟨x, p, rfl, .inr ⟨hw, h⟩⟩)
  obtain ⟨g', k', s'⟩ := spec_frzw TT_plain k (fun vs => ∃ (x : Nd) (p : List Int), x.num < NT ∧ p.length < 1100000 ∧ vs = [x.enc, .isl 1 (encI p)]) (fun vs v => ∃ (x : Nd) (p : List Int), vs = [x.enc, .isl 1 (encI p)] ∧ v = atV x p) (by
    rintro vs ⟨x, p, hx, hp, rfl⟩
    refine ⟨by simp [nlL, nl, Nd.enc_nl, encI_nl], ?_⟩
    obtain ⟨v, K', ⟨x', p', e, hv⟩, h⟩ := s [x.enc, .isl 1 (encI p)] [] ⟨rfl, x, p, hx, hp, rfl⟩
    obtain ⟨rfl, rfl⟩ := args_inj e
    rcases hv with ⟨f, hw, rfl⟩ | ⟨hw, rfl⟩
    · exact ⟨_, K', 9, _, _, h, fz_at K' f 0, Weak.refl _, x, p, rfl, by simp [atV, hw, Nd.enc_eq]⟩
    · refine ⟨_, K', 9, .tup [.agg [.i .i64 0, .s [], .nils], .i .i64 5], .tup [noNd.enc, .i .i64 5], h, by simp [fz, fzL], ?_, x, p, rfl, by simp [atV, hw]⟩
      refine WeakL.tup (WeakL.cons (WeakL.agg ?_) (WeakL.cons (Weak.refl _) WeakL.nil))
      exact WeakL.cons (Weak.refl _) (WeakL.cons (Weak.refl _) (WeakL.cons (weak_nils 3) WeakL.nil)))
  refine ⟨g', k', fun x p hx hp H => ?_⟩
  obtain ⟨v, ⟨x', p', e, hv⟩, h⟩ := s' [x.enc, .isl 1 (encI p)] ⟨x, p, hx, hp, rfl⟩
  obtain ⟨rfl, rfl⟩ := args_inj e
  rw [h H, hv]
open Go Go.Proofs Go.RowKit
theorem isIdent_x : (match evFun TT (gamOf Con.none) 3000 41 [.s [120]] [] with | .val (.b true) _ => true | _ => false) = true := by kernel_rfl
def spX : List V → Heap → OR
  | [.s [c]], H => if c = 120 then .val (.b true) H else .no
  | _, _ => .no
theorem ok26x : SpecOK Tryz.prog TT 41 spX := by
  intro vs H r h hne
  unfold spX at h
  split at h
  · split at h
    · rename_i hc
      subst h hc
      have hl := isIdent_x
      split at hl
      · rename_i J he
        obtain ⟨h1, h2⟩ := con_of_ev TT_ok TT_plain Con.none_sound (r := .val (.b true)) he rfl rfl
        exact ⟨h1, h2 _⟩
      · cases hl
    · exact absurd h.symm hne
  · exact absurd h.symm hne
open Go Go.Proofs Go.RowKit
theorem rel_isl0 {M M' : Mem} {ρ ρ' : Ren} {n : Nat} {x : Value} (h : rel M ρ (.isl n []) x) : rel M' ρ' (.isl n []) x := by
  simp only [rel] at h ⊢
  obtain ⟨a, k, h1, h2, _⟩ := h
  exact ⟨a, k, h1, h2, fun e => absurd rfl e⟩
theorem weak_isl {n : Nat} {l l' : List V} (h : ∀ (M : Mem) (ρ : Ren) (b o : Nat), relRow M ρ n l b o → relRow M ρ n l' b o) (hl : l.length = l'.length) (h0 : l' ≠ [] → l ≠ []) : Weak (.isl n l) (.isl n l') := fun M ρ x k => by
  simp only [rel] at k ⊢
  obtain ⟨a, k, h1, h2, h3⟩ := k
  refine ⟨a, k, by rw [← hl]; exact h1, by omega, fun e => ?_⟩
  obtain ⟨b, o, h4, h5⟩ := h3 (h0 e)
  exact ⟨b, o, h4, h _ _ _ _ h5⟩
def axN : Nd := .mk 27 [] [.mk 23 [120] [], .mk 19 [49] []]
def ndV (k : Int) (t : List UInt8) : V := .agg [.i .i64 k, .s t, .nils]
def axV : V := .agg [.i .i64 27, .s [], .isl 3 [ndV 23 [120], ndV 19 [49]]]
def MFree (v : V) : Prop := ∀ (M M' : Mem) (ρ ρ' : Ren) (x : Value), rel M ρ v x → rel M' ρ' v x
def MFreeL (l : List V) : Prop := ∀ (M M' : Mem) (ρ ρ' : Ren) (x : List Value), relL M ρ l x → relL M' ρ' l x
theorem MFreeL.nil : MFreeL [] := fun _ _ _ _ _ h => by simpa only [relL] using h
theorem MFreeL.cons {v : V} {l : List V} (h : MFree v) (hl : MFreeL l) : MFreeL (v :: l) := fun M M' ρ ρ' x k => by
  simp only [relL] at k ⊢
  obtain ⟨a, b, e, h1, h2⟩ := k
  exact ⟨a, b, e, h M M' ρ ρ' a h1, hl M M' ρ ρ' b h2⟩
theorem MFreeL.agg {l : List V} (h : MFreeL l) : MFree (.agg l) := fun M M' ρ ρ' x k => by
  simp only [rel] at k ⊢
  obtain ⟨cs, e, h1⟩ := k
  exact ⟨cs, e, h M M' ρ ρ' cs h1⟩
theorem MFreeL.tup {l : List V} (h : MFreeL l) : MFree (.tup l) := fun M M' ρ ρ' x k => by
  simp only [rel] at k ⊢
  obtain ⟨cs, e, h1⟩ := k
  exact ⟨cs, e, h M M' ρ ρ' cs h1⟩
theorem free_i {k : IntKind} {n : Int} : MFree (.i k n) := fun _ _ _ _ _ h => by simpa only [rel] using h
theorem free_s {l : List UInt8} : MFree (.s l) := fun _ _ _ _ _ h => by simpa only [rel] using h
theorem free_isl0 {n : Nat} : MFree (.isl n []) := fun _ _ _ _ _ h => rel_isl0 h
theorem leaf_free (k : Int) (t : List UInt8) : MFree (Nd.enc (.mk k t [])) := MFreeL.agg (MFreeL.cons free_i (MFreeL.cons free_s (MFreeL.cons free_isl0 MFreeL.nil)))
theorem leaf_weak (k : Int) (t : List UInt8) : Weak (ndV k t) (Nd.enc (.mk k t [])) := by
  refine WeakL.agg (WeakL.cons (Weak.refl _) (WeakL.cons (Weak.refl _) (WeakL.cons (weak_nils 3) WeakL.nil)))
theorem axV_weak : Weak axV axN.enc := by
  refine WeakL.agg (WeakL.cons (Weak.refl _) (WeakL.cons (Weak.refl _) (WeakL.cons (weak_isl ?_ rfl (fun _ => by simp)) WeakL.nil)))
  intro M ρ b o h
  simp only [relRow] at h ⊢
  obtain ⟨⟨x, h1, h2, h3⟩, ⟨y, h4, h5, h6⟩, _⟩ := h
  exact ⟨⟨x, leaf_weak _ _ _ _ _ h1, h2, h3⟩, ⟨y, leaf_weak _ _ _ _ _ h4, h5, h6⟩, trivial⟩
def spAt : List V → Heap → OR
  | [x, p], H => match fz H 60 x, fz H 60 p with
    | some a, some b => if (a.beq axV && b.beq (.isl 1 [.i .i64 1])) = true then .val (.tup [Nd.enc (.mk 19 [49] []), .i .i64 0]) H else .no
    | _, _ => .no
  | _, _ => .no
theorem axN_at : atV axN [1] = .tup [Nd.enc (.mk 19 [49] []), .i .i64 0] := by kernel_rfl
theorem ok12 : SpecOK Tryz.prog TT 8 spAt := by
  obtain ⟨g, hg, hs⟩ := sp12
  intro vs H r h hne
  unfold spAt at h
  split at h
  · rename_i H x p
    split at h
    · rename_i a b ha hb
      split at h
      · rename_i hab
        subst h
        rw [Bool.and_eq_true] at hab
        have ea := V.beq_eq _ _ hab.1
        have eb := V.beq_eq _ _ hab.2
        subst ea eb
        have h12 := hs axN [1] (by decide) (by decide) []
        rw [axN_at] at h12
        obtain ⟨k1, k2⟩ := hg _ _ _ h12 (by simp)
        refine ⟨k1, fun M ρ w args hS hr => ?_⟩
        simp only [relL] at hr
        obtain ⟨y, r, rfl, hy, z, r2, rfl, hz, rfl⟩ := hr
        obtain ⟨h1, n1⟩ := fz_rel hS 60 _ _ _ ha hy
        obtain ⟨h2, n2⟩ := fz_rel hS 60 _ _ _ hb hz
        have hS0 := hS.freeze TT_plain
        have hr0 : relL (frz M ρ _ w) [] [axN.enc, .isl 1 [.i .i64 1]] [y, z] := relL_cons (axV_weak _ _ _ (nl_rel _ _ n1 h1)) (relL_cons (nl_rel _ _ n2 h2) (by simp only [relL]))
        refine Calls.mono (k2 _ [] w _ hS0 hr0) ?_
        rintro e w' ⟨v, M', ρ', rfl, he, hv, _⟩
        have hB : Below w.heap.size w w' := ⟨he.os, he.tape, he.output, he.size, fun k hk => he.frame k hk (fun c hc => by simp at hc)⟩
        refine ⟨v, M, ρ, rfl, ext_below hB, ?_, sr_below hS hB⟩
        exact (MFreeL.tup (MFreeL.cons (leaf_free _ _) (MFreeL.cons free_i MFreeL.nil))) _ _ _ _ _ hv
      · exact absurd h.symm hne
    · exact absurd h.symm hne
  · exact absurd h.symm hne
noncomputable def G1 : Gam := fun f vs H => if f = 31 then some (spShapes vs H) else if f = 41 then some (spX vs H) else if f = 8 then some (spAt vs H) else none
theorem G1_ok : G1.Sound Tryz.prog TT := by
  intro f vs H r h hne
  simp only [G1] at h
  split at h
  · rename_i e; subst e; exact ok15 vs H r (Option.some.inj h) hne
  · split at h
    · rename_i e; subst e; exact ok26x vs H r (Option.some.inj h) hne
    · split at h
      · rename_i e; subst e; exact ok12 vs H r (Option.some.inj h) hne
      · cases h
theorem awake_run : (match evFun TT G1 3000 7 [] [] with | .val (.b true) _ => true | _ => false) = true := by kernel_rfl
def spAwake : List V → Heap → OR
  | [], H => .val (.b true) H
  | _, _ => .no
theorem ok5 : SpecOK Tryz.prog TT 7 spAwake := by
  intro vs H r h hne
  unfold spAwake at h
  split at h
  · subst h
    have hl := awake_run
    split at hl
    · rename_i J he
      obtain ⟨h1, h2⟩ := evFun_ok TT_ok G1_ok 3000 7 [] [] _ he (by simp)
      refine ⟨h1, fun M ρ w args hS hr => ?_⟩
      exact CallOK.frame rfl hS (h2 M [] w args (hS.forget TT_plain) (nlL_rel [] args rfl hr))
    · cases hl
  · exact absurd h.symm hne
theorem sp4m : ∃ g, SpecOK Tryz.prog TT 6 g ∧ ∀ (x : Nd) (m : Int), x.num < NT → ∀ H, g [x.enc, .i .i64 m] H = .val (.b (decide (sz x m ≤ m))) H := by
  obtain ⟨g9, k9, s9⟩ := sp9
  obtain ⟨g, hg, hs⟩ := spec_val TT_ok TT_plain 6 (fun p : Nd × Int => [p.1.enc, .i .i64 p.2]) (fun p => p.1.num < NT) (fun p => .b (decide (sz p.1 p.2 ≤ p.2))) (fun x _ => by simp [nlL, nl, Nd.enc_nl]) (fun _ => rfl) (fun a b h => by
    simp only [List.cons.injEq, V.i.injEq, true_and, and_true] at h
    rw [Nd.enc_inj _ _ h.1, h.2]) (fun p hp => body_4 (ws n0 k9) p.1 p.2 fun H => by rw [w_here]; exact s9 p.1 p.2 hp H)
  exact ⟨g, hg, fun x m h => hs (x, m) h⟩
theorem law_checks (x : Nd) (hx : x.num < NT) (ht : x.tok) : Body Tryz.prog TT 5 [x.enc] (.val (.b true)) := by
  obtain ⟨g4, k4, s4⟩ := sp4m
  obtain ⟨g7, k7, s7⟩ := sp7
  obtain ⟨g16, k16, s16⟩ := sp1016
  obtain ⟨g8, k8, s8⟩ := sp8P
  obtain ⟨g17, k17, s17⟩ := sp1017
  obtain ⟨g23, k23, s23⟩ := sp23p
  obtain ⟨g19, k19, s19⟩ := sp1019
  obtain ⟨g24, k24, s24⟩ := sp24p
  obtain ⟨g21, k21, s21⟩ := sp1021
  obtain ⟨g32, k32, s32⟩ := sp32p
  obtain ⟨g03, k03, s03⟩ := sp1023
  have hC := ws (ws (ws (ws (ws (ws (ws (ws (ws (ws (ws (ws n0 k4) k7) k16) k8) k17) k23) k19) k24) k21) k32) k03) ok5
  generalize hc : (((((((((((CallF.none.with 6 g4).with 15 g7).with 16 g16).with 14 g8).with 17 g17).with 18 g23).with 19 g19).with 20 g24).with 21 g21).with 22 g32).with 23 g03).with 7 spAwake = call at hC
  have c5 : ∀ H, call 7 [] H = .val (.b true) H := fun H => by rw [← hc]; rw [w_here]; rfl
  have c03 : ∀ vs H, call 23 (vs) H = g03 vs H := fun vs H => by rw [← hc]; simp [CallF.with]
  have c32 : ∀ vs H, call 22 (vs) H = g32 vs H := fun vs H => by rw [← hc]; simp [CallF.with]
  have c21 : ∀ vs H, call 21 (vs) H = g21 vs H := fun vs H => by rw [← hc]; simp [CallF.with]
  have c24 : ∀ vs H, call 20 (vs) H = g24 vs H := fun vs H => by rw [← hc]; simp [CallF.with]
  have c19 : ∀ vs H, call 19 (vs) H = g19 vs H := fun vs H => by rw [← hc]; simp [CallF.with]
  have c23 : ∀ vs H, call 18 (vs) H = g23 vs H := fun vs H => by rw [← hc]; simp [CallF.with]
  have c17 : ∀ vs H, call 17 (vs) H = g17 vs H := fun vs H => by rw [← hc]; simp [CallF.with]
  have c8 : ∀ vs H, call 14 (vs) H = g8 vs H := fun vs H => by rw [← hc]; simp [CallF.with]
  have c16 : ∀ vs H, call 16 (vs) H = g16 vs H := fun vs H => by rw [← hc]; simp [CallF.with]
  have c7 : ∀ vs H, call 15 (vs) H = g7 vs H := fun vs H => by rw [← hc]; simp [CallF.with]
  have c4 : ∀ vs H, call 6 (vs) H = g4 vs H := fun vs H => by rw [← hc]; simp [CallF.with]
  clear hc
  have S : ∀ (m : Int) (v : Bool), decide (sz x m ≤ m) = v → ∀ H, call 6 [x.enc, .i .i64 m] H = .val (.b v) H := fun m v e H => by rw [c4, s4 x m hx, e]
  have y8 : ∀ H, call 14 [x.enc] H = .val (.i .i64 (chkV nodeR x)) H := fun H => by rw [c8, s8 x ⟨hx, ht⟩, chk_eq]
  apply EBody.of2
  cases h3 : decide (sz x 300 ≤ 300) with
  | true => exact body_1005y1 hC x (S 300 _ h3) c5 _ _ _ _ _ _ (fun H => (c7 _ H).trans (s7 x hx H)) (fun H => (c16 _ H).trans (s16 x hx H)) y8 (fun H => (c17 _ H).trans (s17 x ⟨hx, ht⟩ H)) (fun H => (c23 _ H).trans (s23 x H)) (fun H => (c19 _ H).trans (s19 x H)) (fun H => (c24 _ H).trans (s24 x H)) (fun H => (c21 _ H).trans (s21 x H)) (fun H => (c32 _ H).trans (s32 x H)) (fun H => (c03 _ H).trans (s03 x H))
  | false =>
  cases h4 : decide (sz x 4000 ≤ 4000) with
  | true => exact body_1005n1 hC x (S 300 _ h3) (S 4000 _ h4) c5
  | false =>
  cases h8 : decide (sz x 8000 ≤ 8000) with
  | false => exact body_1005n2 hC x (S 300 _ h3) (S 4000 _ h4) (S 8000 _ h8) c5
  | true => exact body_1005y2 hC x (S 300 _ h3) (S 4000 _ h4) (S 8000 _ h8) c5 _ _ _ _ _ _ (fun H => (c7 _ H).trans (s7 x hx H)) (fun H => (c16 _ H).trans (s16 x hx H)) y8 (fun H => (c17 _ H).trans (s17 x ⟨hx, ht⟩ H)) (fun H => (c23 _ H).trans (s23 x H)) (fun H => (c19 _ H).trans (s19 x H)) (fun H => (c24 _ H).trans (s24 x H)) (fun H => (c21 _ H).trans (s21 x H)) (fun H => (c32 _ H).trans (s32 x H)) (fun H => (c03 _ H).trans (s03 x H))
open Go.ChangeShapes Go.WideShapes Go.RowKit
open Go.Proofs.YtddpjgoboboidaaGreatDoor (Rows.uptoBulk Rows.uptoBulkAll Rows.syntaxChecksSpec Rows.syntaxChecksUptoRow Rows.uptoSmall Rows.OpenSpec.upto)
mutual
theorem Nd.tok_of_tl : ∀ x : Nd, x.tl < NT → x.tok
  | .mk _ s l, h => by
    simp only [Nd.tl] at h
    exact ⟨by omega, Nd.tokL_of_tl l (by omega)⟩
theorem Nd.tokL_of_tl : ∀ l : List Nd, Nd.tlL l < NT → Nd.tokL l
  | [], _ => trivial
  | x :: l, h => by
    simp only [Nd.tlL] at h
    exact ⟨Nd.tok_of_tl x (by omega), Nd.tokL_of_tl l (by omega)⟩
end
section
variable {H : Type} {enc : TypeId × Value → H} {W W' : World}
theorem trodAll_carry {sp : Nat → Bool} : ∀ {ts : List TypeId} {vs : List Value} {ds : List (DataW H)} {ps : List MemPlace}, DataW.TrodAll enc Tryz.prog W 0 sp true ts vs ds ps → (∀ p ∈ ps, W.sameAt W' p) → DataW.TrodAll enc Tryz.prog W' 0 sp true ts vs ds ps
  | [], [], [], _, h, _ => h
  | _ :: _, _ :: _, _ :: _, _, ⟨p, q, ⟨n, h1⟩, h2, e⟩, hs => ⟨p, q, ⟨n, DataW.trod_carry n _ _ _ h1 fun x hx => hs x (by rw [e]; exact List.mem_append_left _ hx)⟩, trodAll_carry h2 fun x hx => hs x (by rw [e]; exact List.mem_append_right _ hx), e⟩
theorem same_below (hb : Below W.heap.size W W') (p : MemPlace) (hp : p.block < W.heap.size) : W.sameAt W' p := by
  cases p with
  | cell b off =>
    show W'.cell? ⟨b, off, none⟩ = W.cell? ⟨b, off, none⟩
    unfold World.cell?
    rw [hb.block b hp]
  | map b => exact hb.block b hp
theorem kept_below (hb : Below W.heap.size W W') (may : MemPlace → Prop) : W.keptBut W' may := by
  refine ⟨hb.os, hb.output, fun i hi => ?_⟩
  rw [hb.block i hi]
  exact (World.keptBut_refl W may).2.2 i hi
theorem kidsT : Kids Tryz.prog (· < Tryz.prog.types.size) := kids_rows (by kernel_rfl) (by kernel_rfl)
theorem arg_of {base : Nat} {v : Value} {d : DataW H} {p : List MemPlace} (hok : Value.okWide Tryz.prog W .any base 24 v) (h : DataW.Trod enc Tryz.prog W 0 (fun _ => true) true 24 v d p) :
    ∃ y : Nd, rel (memOf W) [] y.enc v ∧ y.num + y.tl ≤ Rows.uptoBulk d := by
  unfold Value.okWide at hok
  rw [Tryz.underlying24] at hok
  obtain ⟨cs, rfl, _, _⟩ := hok
  obtain ⟨n, hn⟩ := h
  obtain ⟨y, hy, hb⟩ := nd_of_trod n _ _ hn
  refine ⟨y, ?_, hb⟩
  rw [Nd.enc_eq]
  simp only [rel]
  exact ⟨cs.toList, by simp, hy⟩
end
theorem contract {H : Type} (enc : TypeId × Value → H) (F : Stop.Interp) (W : World) (base : Nat) (args : Array Value) (ds gs : List (DataW H)) (before : List MemPlace)
    (hval : ∀ (j : Nat) t v, Tryz.f5.params[j]? = some t → args[j]? = some v → Value.okWide Tryz.prog W .any base t v)
    (hW : DataW.Whole enc Tryz.prog Tryz.f5.params.toList Rows.syntaxChecksSpec.vars false W args.toList ds gs before)
    (hsm : Rows.uptoBulkAll (ds ++ gs) ≤ 1048576) (hL : laidMetH Tryz.prog Rows.syntaxChecksUptoRow.laid W) :
    Calls Tryz.prog 5 args W fun e W' => ∃ v, e = .returned v ∧ ((Rows.OpenSpec.upto Rows.syntaxChecksSpec).at F).post enc Tryz.prog Tryz.f5 false true false false W args v W' := by
  have hW' := hW
  obtain ⟨p, q, hA0, hV, rfl, hfz, hnd⟩ := hW
  have hA : DataW.TrodAll enc Tryz.prog W 0 (fun _ => true) true Tryz.f5.params.toList args.toList ds p := hA0
  have hAk := hA
  rw [Tryz.params5] at hA hval
  obtain ⟨v0, vs0, d0, ds0, p0, q0, hargs, rfl, rfl, h0, r0⟩ := trodAll_cons hA
  obtain ⟨rfl, rfl, rfl⟩ := trodAll_nil r0
  obtain rfl : args = #[v0] := by cases args; simp_all
  obtain ⟨rfl, rfl⟩ := trodVars_none hV
  obtain ⟨x0, e0, n0'⟩ := arg_of (hval 0 24 v0 rfl rfl) h0
  simp only [List.append_nil, Rows.uptoBulkAll] at hsm
  have hN : NT = 1090000 := rfl
  have hb := law_checks x0 (by omega) (Nd.tok_of_tl x0 (by omega))
  obtain ⟨_, hcall⟩ := con_of_body TT_ok TT_plain hb (by simp [nlL, nl, Nd.enc_nl]) rfl
  have := hcall [] (memOf W) [] W [v0] (sr_of_laid hL) (relL_cons e0 (by simp only [relL]))
  refine Calls.mono this ?_
  rintro e W' ⟨x, M', ρ', rfl, he, hx, _⟩
  simp only [rel] at hx
  subst hx
  have hB : Below W.heap.size W W' := ⟨he.os, he.tape, he.output, he.size, fun k hk => he.frame k hk (fun c hc => by simp at hc)⟩
  have hlt := hAk.lt
  have hresp := DataW.TrodAll.respare (spare' := fun b => decide (b < W.heap.size)) kidsT (slices_full_of Tryz.prog (by kernel_rfl)) (fun t ht => by
    rw [Tryz.params5] at ht
    have : t = 24 := by simpa using ht
    subst this
    exact of_decide_eq_true (by kernel_rfl)) hAk (fun p hp => by simpa using hlt p hp)
  refine ⟨_, rfl, ?_⟩
  refine ⟨_, _, _, [], _, [], hW', ?_, trodAll_carry hresp (fun p hp => same_below hB p (hlt p hp)), rfl, kept_below hB _, fun h => by cases h⟩
  exact trodAll_mk1 (shut_bool Tryz.underlying4 true)
end Go.Ev
