/- Trees as values: the tree of a node, its size, its depth. -/
import Derived.Test.YtddpjgoboboidaaGreatDoorEvSet
namespace Go.Ev
open Go Go.Proofs
set_option maxRecDepth 100000
set_option linter.unusedSimpArgs false
inductive Nd where
  | mk (k : Int) (t : List UInt8) (l : List Nd)
mutual
def Nd.enc : Nd → V
  | .mk k t l => .agg [.i .i64 k, .s t, .isl 3 (Nd.encL l)]
def Nd.encL : List Nd → List V
  | [] => []
  | x :: l => x.enc :: Nd.encL l
end
def Nd.kind : Nd → Int
  | .mk k _ _ => k
def Nd.text : Nd → List UInt8
  | .mk _ t _ => t
def Nd.kids : Nd → List Nd
  | .mk _ _ l => l
theorem Nd.enc_eq (x : Nd) : x.enc = .agg [.i .i64 x.kind, .s x.text, .isl 3 (Nd.encL x.kids)] := by cases x; rfl
mutual
theorem Nd.enc_inj : ∀ x y : Nd, x.enc = y.enc → x = y
  | .mk k s l, .mk k' s' l', h => by
    simp only [Nd.enc, V.agg.injEq, List.cons.injEq, V.i.injEq, V.s.injEq, V.isl.injEq, true_and, and_true] at h
    obtain ⟨rfl, rfl, h⟩ := h
    rw [Nd.encL_inj l l' h]
theorem Nd.encL_inj : ∀ l l' : List Nd, Nd.encL l = Nd.encL l' → l = l'
  | [], [], _ => rfl
  | [], _ :: _, h => by simp [Nd.encL] at h
  | _ :: _, [], h => by simp [Nd.encL] at h
  | x :: l, y :: l', h => by
    simp only [Nd.encL, List.cons.injEq] at h
    rw [Nd.enc_inj x y h.1, Nd.encL_inj l l' h.2]
end
mutual
theorem Nd.enc_nl : ∀ x : Nd, nl x.enc = true
  | .mk k s l => by simp [Nd.enc, nl, nlL, Nd.encL_nl l]
theorem Nd.encL_nl : ∀ l : List Nd, nlL (Nd.encL l) = true
  | [] => by simp [Nd.encL, nlL]
  | x :: l => by simp [Nd.encL, nlL, Nd.enc_nl x, Nd.encL_nl l]
end

mutual
def Nd.num : Nd → Nat
  | .mk _ _ l => Nd.numL l + 1
def Nd.numL : List Nd → Nat
  | [] => 0
  | x :: l => x.num + Nd.numL l
end
theorem Nd.encL_length : ∀ l : List Nd, (Nd.encL l).length = l.length
  | [] => rfl
  | _ :: l => by simp [Nd.encL, Nd.encL_length l]
mutual
def sz : Nd → Int → Int
  | .mk _ s l, m => szL l m (IntKind.i64.wrap (1 + IntKind.i64.wrap ((s.length : Int) / 300)))
def szL : List Nd → Int → Int → Int
  | [], _, o => o
  | x :: l, m, o => if o > m then o else szL l m (IntKind.i64.wrap (o + sz x (IntKind.i64.wrap (m - o))))
end
theorem encL_at (pre : List Nd) (x : Nd) (l : List Nd) : (Nd.encL (pre ++ x :: l))[pre.length]? = some x.enc := by
  induction pre with
  | nil => simp [Nd.encL]
    | cons y pre ih => simp [Nd.encL, ih]
theorem Nd.num_mem : ∀ {l : List Nd} {x : Nd}, x ∈ l → x.num ≤ Nd.numL l
  | y :: l, x, h => by
    rcases List.mem_cons.1 h with rfl | h
    · simp only [Nd.numL]; omega
    · have := Nd.num_mem h; simp only [Nd.numL]; omega
theorem Nd.num_pos (x : Nd) : 0 < x.num := by cases x; simp [Nd.num]
theorem Nd.numL_length : ∀ l : List Nd, l.length ≤ Nd.numL l
  | [] => Nat.le_refl _
  | x :: l => by
    have := Nd.numL_length l; have := x.num_pos; simp only [Nd.numL, List.length_cons]; omega
theorem Nd.num_eq (x : Nd) : x.num = Nd.numL x.kids + 1 := by cases x; rfl
theorem encL_at2 (pre : List Nd) (x : Nd) (l : List Nd) : ∀ h, (Nd.encL (pre ++ x :: l))[pre.length]'h = x.enc := fun h => by
  have := encL_at pre x l; rw [List.getElem?_eq_getElem h] at this; exact Option.some.inj this
theorem fin_len (n m : Nat) : (n : Int) < n + (m + 1) := by omega
/-- Trees that fit. -/
def Nd.fit (x : Nd) : Prop := x.num < 1100000
theorem TT_plain : TT.Plain := by
  intro g l h
  simp only [TT] at h
  split at h
  · cases h; kernel_rfl
  · split at h
    · cases h; kernel_rfl
    · split at h
      · cases h; kernel_rfl
      · cases h
end Go.Ev
