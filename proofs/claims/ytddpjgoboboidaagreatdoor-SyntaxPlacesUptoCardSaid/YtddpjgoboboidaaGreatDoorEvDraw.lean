/- A region in which the tape is drawn from does what the evaluator says on every tape. -/
import Derived.Test.YtddpjgoboboidaaGreatDoorEvStep
namespace Go.Ev
open Go

mutual
def V.beq : V → V → Bool
  | .i k n, .i k' n' => decide (k = k') && decide (n = n')
  | .b x, .b y => x == y
  | .s l, .s l' => decide (l = l')
  | .agg l, .agg l' => V.beqL l l'
  | .tup l, .tup l' => V.beqL l l'
  | .nilp, .nilp => true
  | .nils, .nils => true
  | .nilf, .nilf => true
  | .nili, .nili => true
  | .nilm, .nilm => true
  | .emp, .emp => true
  | .ptr n o, .ptr n' o' => n == n' && o == o'
  | .sl n z o l c, .sl n' z' o' l' c' => n == n' && z == z' && o == o' && l == l' && decide (c = c')
  | .fn g l, .fn g' l' => g == g' && V.beqL l l'
  | .ifc t v, .ifc t' v' => t == t' && V.beq v v'
  | .isl z l, .isl z' l' => z == z' && V.beqL l l'
  | .ipt z l j o, .ipt z' l' j' o' => z == z' && V.beqL l l' && j == j' && o == o'
  | .gp g o, .gp g' o' => g == g' && o == o'
  | .mp n, .mp n' => n == n'
  | .yld n, .yld n' => n == n'
  | _, _ => false
def V.beqL : List V → List V → Bool
  | [], [] => true
  | v :: l, v' :: l' => V.beq v v' && V.beqL l l'
  | _, _ => false
end
mutual
theorem V.beq_refl : ∀ v : V, V.beq v v = true
  | .i .. => by simp [V.beq]
  | .b .. => by simp [V.beq]
  | .s .. => by simp [V.beq]
  | .agg l => by simp [V.beq, V.beqL_refl l]
  | .tup l => by simp [V.beq, V.beqL_refl l]
  | .nilp => by simp [V.beq]
  | .nils => by simp [V.beq]
  | .nilf => by simp [V.beq]
  | .nili => by simp [V.beq]
  | .nilm => by simp [V.beq]
  | .emp => by simp [V.beq]
  | .ptr .. => by simp [V.beq]
  | .sl .. => by simp [V.beq]
  | .fn g l => by simp [V.beq, V.beqL_refl l]
  | .ifc t v => by simp [V.beq, V.beq_refl v]
  | .isl z l => by simp [V.beq, V.beqL_refl l]
  | .ipt z l j o => by simp [V.beq, V.beqL_refl l]
  | .gp .. => by simp [V.beq]
  | .mp .. => by simp [V.beq]
  | .yld .. => by simp [V.beq]
theorem V.beqL_refl : ∀ l : List V, V.beqL l l = true
  | [] => by simp [V.beqL]
  | v :: l => by simp [V.beqL, V.beq_refl v, V.beqL_refl l]
end
mutual
theorem V.beq_eq : ∀ (v u : V), V.beq v u = true → v = u := fun v u h => by
  cases v <;> cases u <;> simp [V.beq] at h <;> first
    | rfl
    | (obtain ⟨rfl, rfl⟩ := h; rfl)
    | (subst h; rfl)
    | (obtain ⟨⟨⟨⟨rfl, rfl⟩, rfl⟩, rfl⟩, rfl⟩ := h; rfl)
    | (rename_i l l'; rw [V.beqL_eq l l' h])
    | (rename_i g l g' l'; obtain ⟨rfl, h⟩ := h; rw [V.beqL_eq l l' h])
    | (rename_i t v t' v'; obtain ⟨rfl, h⟩ := h; rw [V.beq_eq v v' h])
    | (rename_i z l j o z' l' j' o'; obtain ⟨⟨⟨rfl, h⟩, rfl⟩, rfl⟩ := h; rw [V.beqL_eq l l' h])
theorem V.beqL_eq : ∀ (l l' : List V), V.beqL l l' = true → l = l'
  | [], [], _ => rfl
  | [], _ :: _, h => by simp [V.beqL] at h
  | _ :: _, [], h => by simp [V.beqL] at h
  | v :: l, v' :: l', h => by
    simp [V.beqL] at h
    rw [V.beq_eq v v' h.1, V.beqL_eq l l' h.2]
end

def Heap.beq : Heap → Heap → Bool
  | [], [] => true
  | none :: l, none :: l' => Heap.beq l l'
  | some x :: l, some y :: l' => x.ty == y.ty && V.beqL x.cells y.cells && decide (x.kind = y.kind) && Heap.beq l l'
  | _, _ => false
theorem Heap.beq_refl : ∀ H : Heap, Heap.beq H H = true
  | [] => rfl
  | none :: l => by simp [Heap.beq, Heap.beq_refl l]
  | some x :: l => by simp [Heap.beq, V.beqL_refl, Heap.beq_refl l]
theorem Heap.beq_eq : ∀ (H H' : Heap), Heap.beq H H' = true → H = H'
  | [], [], _ => rfl
  | [], _ :: _, h => by simp [Heap.beq] at h
  | _ :: _, [], h => by simp [Heap.beq] at h
  | none :: l, none :: l', h => by simp [Heap.beq] at h; rw [Heap.beq_eq l l' h]
  | none :: l, some _ :: l', h => by simp [Heap.beq] at h
  | some _ :: l, none :: l', h => by simp [Heap.beq] at h
  | some x :: l, some y :: l', h => by
    obtain ⟨tx, cx, kx⟩ := x
    obtain ⟨ty, cy, ky⟩ := y
    simp [Heap.beq] at h
    obtain ⟨⟨⟨rfl, h1⟩, rfl⟩, h2⟩ := h
    rw [V.beqL_eq _ _ h1, Heap.beq_eq l l' h2]

/-- May the operation turn the heap? -/
def isEff : Op → Bool
  | .alloc _ | .box .. | .buildSlice .. | .makeSlice .. | .store .. | .panic _ | .makeMap .. | .mapUpdate .. | .insert .. => true
  | .call { callee := .builtin .len, .. } | .call { callee := .builtin .max, .. } | .call { callee := .builtin .min, .. } => false
  | .call _ => true
  | _ => false
/-- Does it look at the heap? -/
def looks : Op → Bool
  | .load .. | .convert .. | .lookup .. => true
  | op => isEff op

structure Rec where
  o : Oper
  t : Env
  v : V
  w : Bool
  e : Bool

noncomputable def drawRun (step : Oper → Env → Heap → OR) (ops : Array Oper) : List Oper → Tm → Heap → Option (List Rec × List Heap × Tm)
  | [], t, H => some ([], [H], t)
  | o :: r, t, H => match wants ops o t.get with
    | some true => match step o t.get H with
      | .val v H' => opened o.op v fun v => match putK t o.dst v none fun t' => drawRun step ops r t' H' with
        | some (rs, Hs, tf) => if isEff o.op && !Heap.beq H' H then some (⟨o, t.get, v, true, true⟩ :: rs, H :: Hs, tf) else some (⟨o, t.get, v, true, false⟩ :: rs, Hs, tf)
        | none => none
      | _ => none
    | some false => match putK t o.dst .un none fun t' => drawRun step ops r t' H with
      | some (rs, Hs, tf) => some (⟨o, t.get, .un, false, false⟩ :: rs, Hs, tf)
      | none => none
    | none => none

/-- The operations that an operation waits for. -/
def edges (o : Oper) : List Nat := (o.after.toList.filter fun e => Region.binds .any e).map (·.on)
/-- Of each operation: a mask of all that come before it in every order. -/
def masks : List Oper → List Nat → List Nat
  | [], acc => acc
  | o :: r, acc => masks r (acc ++ [(edges o).foldl (fun s e => s ||| 2 ^ e ||| acc.getD e 0) 0])
/-- The temporaries that an operation reads. -/
def slots (ops : Array Oper) (o : Oper) : List Nat := o.looksAt ops

def sameOR (r : OR) (v : V) (H : Heap) : Bool :=
  match r with
  | .val u H' => V.beq u v && Heap.beq H' H
  | _ => false

def effsFrom : List Rec → Nat → List Nat
  | [], _ => []
  | r :: rs, k => if r.e then k :: effsFrom rs (k + 1) else effsFrom rs (k + 1)
def effs (rs : List Rec) : List Nat := effsFrom rs 0

/-- May these operations come in any order: what the operations alone tell. -/
def drawStat (l : List Oper) (ops : Array Oper) (ms : List Nat) : Bool :=
  let n := l.length
  let bef := fun i j => (ms.getD i 0).testBit j
  (List.range n).all fun i => match l[i]? with
    | none => false
    | some oi =>
      (edges oi).all (fun e => decide (e < i)) &&
      (List.range n).all (fun j => i == j || match l[j]? with
        | none => false
        | some oj => match oj.dst with
          | none => true
          | some d => decide (oi.dst ≠ some d) && (!(slots ops oi).contains d || (if j < i then bef i j else bef j i)))
/-- And what the run tells. -/
def drawDyn (step : Oper → Env → Heap → OR) (ms : List Nat) (rs : List Rec) (Hs : List Heap) : Bool :=
  let n := rs.length
  let bef := fun i j => (ms.getD i 0).testBit j
  let es := effs rs
  (List.range n).all fun i => match rs[i]? with
    | none => false
    | some ri =>
      (if ri.e then es.all (fun p => decide (p ≤ i ∨ bef p i = true))
       else !(looks ri.o.op && ri.w) || (List.range (es.length + 1)).all (fun q =>
          !(decide ((es.filter fun p => bef i p).length ≤ q) && decide (q ≤ (es.filter fun p => !bef p i).length)) ||
          match Hs[q]? with
          | some Hq => sameOR (step ri.o ri.t Hq) ri.v Hq
          | none => false))

noncomputable def evDraw (step : Oper → Env → Heap → OR) (ops : Array Oper) (t : Tm) (H : Heap) : Out :=
  match drawRun step ops ops.toList t H with
  | some (rs, Hs, tf) => if (drawStat ops.toList ops (masks ops.toList []) && ((effs rs).isEmpty || drawDyn step (masks ops.toList []) rs Hs)) = true then match Hs.getLast? with
      | some H' => .norm tf H'
      | none => .no
    else .no
  | none => .no


/-- The temporaries behind those operations that have come. -/
def curs (t : Env) : List Rec → (Nat → Bool) → Env
  | [], _ => t
  | r :: rs, L => curs (if L 0 then put t r.o.dst r.v else t) rs (fun j => L (j + 1))
theorem curs_congr : ∀ (rs : List Rec) (t : Env) (L L' : Nat → Bool) (d : Nat), (∀ (j : Nat) (r : Rec), rs[j]? = some r → r.o.dst = some d → L j = L' j) → (∀ t' : Env, t' d = t d → (curs t rs L) d = (curs t' rs L') d)
  | [], t, L, L', d, h, t', ht => ht.symm
  | r :: rs, t, L, L', d, h, t', ht => by
    simp only [curs]
    refine curs_congr rs _ _ _ d (fun j r' hj hd => h (j + 1) r' (by simpa using hj) hd) _ ?_
    cases hd : r.o.dst with
    | none => simp [put, ht]
    | some e =>
      by_cases he : e = d
      · subst he
        have := h 0 r rfl hd
        rw [this]
        cases L' 0 with
        | false => simpa using ht
        | true => simp [put]
      · have he' : ¬ d = e := fun h => he h.symm
        have e1 : (if L 0 then put t (some e) r.v else t) d = t d := by split <;> simp [put, he']
        have e2 : (if L' 0 then put t' (some e) r.v else t') d = t' d := by split <;> simp [put, he']
        rw [e1, e2, ht]
theorem put_comm (t : Env) {d e : Nat} (h : e ≠ d) (v u : V) : put (put t (some d) v) (some e) u = put (put t (some e) u) (some d) v := by
  funext k
  simp only [put]
  by_cases h1 : k = d
  · subst h1
    have : ¬ k = e := fun e' => h e'.symm
    simp [this]
  · simp [h1]
theorem curs_put : ∀ (rs : List Rec) (t : Env) (L : Nat → Bool) (d : Nat) (v : V), (∀ (j : Nat) (r : Rec), rs[j]? = some r → r.o.dst ≠ some d) → curs (put t (some d) v) rs L = put (curs t rs L) (some d) v
  | [], t, L, d, v, h => rfl
  | r :: rs, t, L, d, v, h => by
    simp only [curs]
    have h0 := h 0 r rfl
    have : (if L 0 then put (put t (some d) v) r.o.dst r.v else put t (some d) v) = put (if L 0 then put t r.o.dst r.v else t) (some d) v := by
      split
      · cases hd : r.o.dst with
        | none => rfl
        | some e =>
          have : e ≠ d := fun e' => h0 (by rw [hd, e'])
          exact put_comm t this v r.v
      · rfl
    rw [this, curs_put rs _ _ d v (fun j r' hj => h (j + 1) r' (by simpa using hj))]
theorem curs_add : ∀ (rs : List Rec) (t : Env) (L L' : Nat → Bool) (i : Nat) (r : Rec), rs[i]? = some r → L i = false → (∀ j, L' j = (L j || j == i)) → (∀ (j : Nat) (q : Rec), j ≠ i → rs[j]? = some q → ∀ d, q.o.dst = some d → r.o.dst ≠ some d) →
    curs t rs L' = put (curs t rs L) r.o.dst r.v
  | [], t, L, L', i, r, hi, _, _, _ => by simp at hi
  | q :: rs, t, L, L', 0, r, hi, hL, hL', hd => by
    simp at hi
    subst hi
    simp only [curs, hL, hL' 0, Bool.false_or, beq_self_eq_true, if_true, Bool.false_eq_true, if_false]
    have : (fun j => L' (j + 1)) = fun j => L (j + 1) := by funext j; simp [hL' (j + 1)]
    rw [this]
    cases hq : q.o.dst with
    | none => rfl
    | some d =>
      exact curs_put rs t _ d q.v (fun j r' hj e => hd (j + 1) r' (by omega) (by simpa using hj) d e hq)
  | q :: rs, t, L, L', i + 1, r, hi, hL, hL', hd => by
    simp only [curs]
    have h0 : L' 0 = L 0 := by rw [hL' 0]; simp
    rw [h0]
    exact curs_add rs _ (fun j => L (j + 1)) (fun j => L' (j + 1)) i r (by simpa using hi) hL (fun j => by rw [hL' (j + 1)]; congr 1; simp) (fun j q' hj hq => hd (j + 1) q' (by omega) (by simpa using hq))

/-- How many of the operations ahead have turned the heap. -/
def cnt (rs : List Rec) (i : Nat) : Nat := ((rs.take i).filter (·.e)).length
theorem effsFrom_cnt : ∀ (rs : List Rec) (k i : Nat), ((effsFrom rs k).filter fun p => decide (p < k + i)).length = cnt rs i
  | [], k, i => by simp [effsFrom, cnt]
  | r :: rs, k, 0 => by
    have h : ∀ (rs : List Rec) (m : Nat), ∀ p ∈ effsFrom rs m, m ≤ p := by
      intro rs
      induction rs with
      | nil => intro m p hp; simp [effsFrom] at hp
      | cons r rs ih =>
        intro m p hp
        simp only [effsFrom] at hp
        split at hp
        · simp at hp
          rcases hp with rfl | hp
          · exact Nat.le_refl _
          · have := ih (m + 1) p hp; omega
        · have := ih (m + 1) p hp; omega
    have : (effsFrom (r :: rs) k).filter (fun p => decide (p < k + 0)) = [] := by
      rw [List.filter_eq_nil_iff]
      intro p hp
      have := h _ _ p hp
      simp; omega
    rw [this]
    simp [cnt]
  | r :: rs, k, i + 1 => by
    have ih := effsFrom_cnt rs (k + 1) i
    have e : (fun p => decide (p < k + (i + 1))) = fun p => decide (p < k + 1 + i) := by funext p; congr 1; simp; omega
    rw [e]
    simp only [effsFrom, cnt, List.take_succ_cons, List.filter_cons]
    split
    · rename_i hr
      rw [List.filter_cons, if_pos (by simp; omega), List.length_cons, List.length_cons, ih]
      rfl
    · rename_i hr
      rw [ih]
      rfl

/-- What a run in the text's order tells of each operation. -/
structure Ran (step : Oper → Env → Heap → OR) (ops : Array Oper) (t : Tm) (H : Heap) (l : List Oper) (rs : List Rec) (Hs : List Heap) (tf : Tm) : Prop where
  opers : rs.map (·.o) = l
  seen : ∀ (i : Nat) (r : Rec), rs[i]? = some r → r.t = curs t.get rs (fun j => decide (j < i))
  last : tf.get = curs t.get rs (fun _ => true)
  wide : tf.wid = t.wid
  fits : ∀ (i : Nat) (r : Rec), rs[i]? = some r → t.fits r.o.dst = true
  off : ∀ (i : Nat) (r : Rec), rs[i]? = some r → r.w = false → wants ops r.o r.t = some false ∧ r.v = .un ∧ r.e = false
  on : ∀ (i : Nat) (r : Rec), rs[i]? = some r → r.w = true → wants ops r.o r.t = some true ∧ ∃ Hk H', Hs[cnt rs i]? = some Hk ∧ step r.o r.t Hk = .val r.v H' ∧ (r.e = true → Hs[cnt rs i + 1]? = some H') ∧ (r.e = false → H' = Hk)
  heaps : Hs.length = cnt rs rs.length + 1
  first : Hs[0]? = some H

theorem drawRun_ran {step : Oper → Env → Heap → OR} {ops : Array Oper} (hq : ∀ o t H v H', isEff o.op = false → step o t H = .val v H' → H' = H) : ∀ (l : List Oper) (t : Tm) (H : Heap) (rs : List Rec) (Hs : List Heap) (tf : Tm), drawRun step ops l t H = some (rs, Hs, tf) → Ran step ops t H l rs Hs tf
  | [], t, H, rs, Hs, tf, h => by
    simp only [drawRun, Option.some.injEq, Prod.mk.injEq] at h
    obtain ⟨rfl, rfl, rfl⟩ := h
    exact ⟨rfl, by simp, rfl, rfl, by simp, by simp, by simp, by simp [cnt], rfl⟩
  | o :: r, t, H, rs, Hs, tf, h => by
    have build : ∀ (v : V) (w e : Bool) (H' : Heap) (rs' : List Rec) (Hs' : List Heap), t.fits o.dst = true → Ran step ops (t.put o.dst v) H' r rs' Hs' tf → (w = false → wants ops o t.get = some false ∧ v = .un ∧ e = false) → (w = true → wants ops o t.get = some true ∧ step o t.get H = .val v H') → (e = false → H' = H) →
        Ran step ops t H (o :: r) (⟨o, t.get, v, w, e⟩ :: rs') (if e then H :: Hs' else Hs') tf := by
      intro v w e H' rs' Hs' hfit ih hoff hon he
      have hcnt : ∀ i, cnt (⟨o, t.get, v, w, e⟩ :: rs') (i + 1) = (if e then 1 else 0) + cnt rs' i := by
        intro i
        simp only [cnt, List.take_succ_cons, List.filter_cons]
        cases e <;> simp; omega
      have hget : ∀ k, (if e then H :: Hs' else Hs')[(if e then 1 else 0) + k]? = Hs'[k]? := by
        intro k
        cases e
        · simp
        · simp [Nat.add_comm 1 k]
      refine ⟨by simp [ih.opers], ?_, ?_, by rw [ih.wide, Tm.wid_put], ?_, ?_, ?_, ?_, ?_⟩
      · intro i q hi
        cases i with
        | zero =>
          simp at hi
          subst hi
          have : ∀ (rs : List Rec) (t : Env), curs t rs (fun _ => false) = t := by
            intro rs
            induction rs with
            | nil => intro t; rfl
            | cons r rs ih => intro t; simp only [curs]; exact ih t
          simp only [Nat.not_lt_zero, decide_false]
          exact (this _ _).symm
        | succ i =>
          have := ih.seen i q (by simpa using hi)
          rw [this, Tm.get_put]
          simp only [curs, Nat.zero_lt_succ, decide_true, if_true, Nat.add_lt_add_iff_right]
      · rw [ih.last, Tm.get_put]
        simp [curs]
      · intro i q hi
        cases i with
        | zero => simp at hi; subst hi; exact hfit
        | succ i =>
          have := ih.fits i q (by simpa using hi)
          cases hq : q.o.dst with
          | none => rfl
          | some d => rw [hq] at this; simpa [Tm.fits] using this
      · intro i q hi hw
        cases i with
        | zero => simp at hi; subst hi; exact hoff hw
        | succ i => exact ih.off i q (by simpa using hi) hw
      · intro i q hi hw
        cases i with
        | zero =>
          simp at hi
          subst hi
          obtain ⟨h1, h2⟩ := hon hw
          refine ⟨h1, H, H', ?_, h2, ?_, he⟩
          · cases e with
            | false => simp [cnt]; rw [ih.first, he rfl]
            | true => simp [cnt]
          · intro he'
            subst he'
            simp [cnt, ih.first]
        | succ i =>
          obtain ⟨h1, Hk, H2, h2, h3, h4, h5⟩ := ih.on i q (by simpa using hi) hw
          refine ⟨h1, Hk, H2, by rw [hcnt, hget, h2], h3, fun hh => ?_, h5⟩
          rw [hcnt, Nat.add_assoc, hget]
          exact h4 hh
      · simp only [List.length_cons]
        rw [hcnt]
        have := ih.heaps
        cases e <;> simp [this]; omega
      · cases e with
        | false => simp [ih.first, he rfl]
        | true => simp
    simp only [drawRun, putK_eq, opened_eq] at h
    split at h
    · rename_i hw
      split at h
      · rename_i v H' hv
        split at h
        · rename_i rs' Hs' tf' hr
          split at hr
          case isFalse => cases hr
          rename_i hfit
          have ih := drawRun_ran hq r _ _ _ _ _ hr
          split at h
          · cases h
            have := build v true true H' rs' Hs' hfit ih (by simp) (fun _ => ⟨hw, hv⟩) (by simp)
            simpa using this
          · rename_i hne
            cases h
            have := build v true false H' rs' Hs hfit ih (by simp) (fun _ => ⟨hw, hv⟩) (fun _ => by
              by_cases hE : isEff o.op = true
              · simp only [hE, Bool.true_and, Bool.not_eq_true'] at hne
                exact Heap.beq_eq _ _ (by simpa using hne)
              · exact hq o t.get H v H' (by simpa using hE) hv)
            simpa using this
        · cases h
      · cases h
    · rename_i hw
      split at h
      · rename_i rs' Hs' tf' hr
        split at hr
        case isFalse => cases hr
        rename_i hfit
        have ih := drawRun_ran hq r _ _ _ _ _ hr
        cases h
        have := build .un false false H rs' Hs hfit ih (fun _ => ⟨hw, rfl, rfl⟩) (by simp) (fun _ => rfl)
        simpa using this
      · cases h
    · cases h

noncomputable def evReg (T : Tab) (call : CallF) : RegF := fun ops d t H => if d then evDraw (evOp T call) ops t H else evSeq (evOp T call) ops ops.toList t H
noncomputable def evFun (T : Tab) (G : Gam) : Nat → CallF := evFunR T (evReg T) G
end Go.Ev

namespace Go.Ev
open Go
section
variable {P : Program} {T : Tab}

theorem evs_congr {t t' : Env} : ∀ {l : List Operand}, (∀ x ∈ l, ev1 t x = ev1 t' x) → evs t l = evs t' l
  | [], _ => rfl
  | o :: r, h => by simp only [evs, h o (by simp), evs_congr (l := r) (fun x hx => h x (by simp [hx]))]
theorem evParts_congr {t t' : Env} : ∀ {l : List (Nat × Operand)}, (∀ x ∈ l.map (·.2), ev1 t x = ev1 t' x) → evParts t l = evParts t' l
  | [], _ => rfl
  | (i, o) :: r, h => by simp only [evParts, h o (by simp), evParts_congr (l := r) (fun x hx => h x (by simp at hx ⊢; exact .inr hx))]
theorem bound_congr {t t' : Env} {m d : Nat} : ∀ {o : Option Operand}, (∀ x ∈ o.toList, ev1 t x = ev1 t' x) → bound t m d o = bound t' m d o
  | none, _ => rfl
  | some o, h => by simp only [bound, h o (by simp)]
theorem evSlice_congr {t t' : Env} {ty : TypeId} {p : V} {lo hi mx : Option Operand} (h1 : ∀ x ∈ lo.toList, ev1 t x = ev1 t' x) (h2 : ∀ x ∈ hi.toList, ev1 t x = ev1 t' x) : evSlice T ty t p lo hi mx = evSlice T ty t' p lo hi mx := by
  unfold evSlice
  simp only [bound_congr h1, bound_congr h2]
theorem evCall_congr {call : CallF} {c : Call} {t t' : Env} {H : Heap} (h : ∀ x ∈ c.operands, ev1 t x = ev1 t' x) : evCall T call c t H = evCall T call c t' H := by
  have h1 : evs t c.args.toList = evs t' c.args.toList := evs_congr fun x hx => h x (by simp only [Call.operands, Array.mem_append]; exact .inr (by simpa using hx))
  unfold evCall
  rw [h1]
  cases hc : c.callee with
  | value f =>
    have := h f (by simp [Call.operands, hc])
    simp only [this]
  | builtin b => cases b <;> rfl
  | invoke r m => rfl
theorem evOp_congr {call : CallF} {o : Oper} {t t' : Env} {H : Heap} (h : ∀ x ∈ o.op.operands, ev1 t x = ev1 t' x) : evOp T call o t H = evOp T call o t' H := by
  unfold evOp
  cases ho : o.op <;> rw [ho] at h <;> simp only [Op.operands] at h
  case build ty ps => simp only [evParts_congr (l := ps.toList) (fun x hx => h x (by simpa using hx))]
  case buildSlice ty n ps => simp only [evParts_congr (l := ps.toList) (fun x hx => h x (by simpa using hx))]
  case call c => exact evCall_congr h
  case makeMap ty r =>
    cases r with
    | none => rfl
    | some o => simp only [h o (by simp)]
  case makeFunc fn first captured =>
    cases fn with
    | func g => simp only [evs_congr (l := captured.toList) (fun x hx => h x (by simp only [Array.mem_append]; exact .inr (by simpa using hx)))]
    | _ => rfl
  case slice ty x lo hi mx =>
    have hx := h x (by simp)
    have h1 : ∀ y ∈ lo.toList, ev1 t y = ev1 t' y := fun y hy => h y (by simp at hy ⊢; simp [hy])
    have h2 : ∀ y ∈ hi.toList, ev1 t y = ev1 t' y := fun y hy => h y (by simp at hy ⊢; simp [hy])
    have h3 : ∀ p, evSlice T ty t p lo hi mx = evSlice T ty t' p lo hi mx := fun p => evSlice_congr h1 h2
    simp only [hx, h3]
  all_goals first
    | rfl
    | (simp only [List.mem_toArray, List.mem_cons, List.not_mem_nil, or_false, forall_eq_or_imp, forall_eq] at h
       first
         | (obtain ⟨h1, h2, h3⟩ := h; simp only [h1, h2, h3]; done)
         | (obtain ⟨h1, h2⟩ := h; simp only [h1, h2]; done)
         | (simp only [h]; done))

theorem looks_congr {ops : Array Oper} {o : Oper} {t t' : Env} (h : ∀ d ∈ o.looksAt ops, t d = t' d) : ∀ x ∈ o.op.operands, ev1 t x = ev1 t' x := by
  intro x hx
  cases x with
  | tmp d => exact congrArg some <| h d (List.mem_append_left _ (List.mem_filterMap.2 ⟨.tmp d, by simpa using hx, rfl⟩))
  | _ => rfl
theorem wants_congr {ops : Array Oper} {o : Oper} {t t' : Env} (h : ∀ d ∈ o.looksAt ops, t d = t' d) : wants ops o t = wants ops o t' := by
  unfold wants
  cases hg : o.guard with
  | none => rfl
  | some gw =>
    obtain ⟨g, want⟩ := gw
    simp only
    cases hd : (ops[g]?).bind (·.dst) with
    | none => rfl
    | some d =>
      have := h d (List.mem_append_right _ (by simp [hg, hd]))
      simp only [this]

theorem lift_val {r : Option V} {H H' : Heap} {v : V} (h : lift r H = .val v H') : r = some v ∧ H' = H := by
  cases r with
  | none => cases h
  | some u => cases h; exact ⟨rfl, rfl⟩

/-- What does not turn the heap. -/
theorem quiet_heap {call : CallF} {o : Oper} {t : Env} {H H' : Heap} {v : V} (hq : isEff o.op = false) (h : evOp T call o t H = .val v H') : H' = H := by
  unfold evOp at h
  split at h
  all_goals first
    | (rename_i ho; rw [ho] at hq; simp [isEff] at hq; done)
    | skip
  case h_27 c ho =>
    rw [ho] at hq
    unfold evCall at h
    split at h
    · cases h
    · split at h
      all_goals first
        | (rename_i hc; obtain ⟨cal, cargs, cty⟩ := c; simp only at hc; subst hc; simp [isEff] at hq; done)
        | skip
      all_goals
        repeat' (split at h)
        all_goals first
          | exact (lift_val h).2
          | cases h
  all_goals
    repeat' (split at h)
    all_goals first
      | exact (lift_val h).2
      | (cases h; rfl)
      | cases h

/-- What does not look at the heap. -/
theorem pure_heap {call : CallF} {o : Oper} {t : Env} {H H' : Heap} {v : V} (hq : looks o.op = false) (h : evOp T call o t H = .val v H') (H2 : Heap) : evOp T call o t H2 = .val v H2 := by
  unfold evOp at h ⊢
  split at h
  all_goals first
    | (rename_i ho; rw [ho] at hq; simp [looks, isEff] at hq; done)
    | skip
  case h_27 c ho =>
    rw [ho] at hq
    unfold evCall at h ⊢
    split at h
    · cases h
    · split at h
      all_goals first
        | (rename_i hc; obtain ⟨cal, cargs, cty⟩ := c; simp only at hc; subst hc; simp [looks, isEff] at hq; done)
        | skip
      all_goals
        repeat' (split at h)
        all_goals first
          | (simp only [(lift_val h).1, lift]; done)
          | cases h
  all_goals
    repeat' (split at h)
    all_goals first
      | (simp only [(lift_val h).1, lift]; done)
      | (cases h; rfl)
      | cases h
end
end Go.Ev

namespace Go.Ev
open Go
section
variable {P : Program} {T : Tab}

theorem masks_pre : ∀ (l : List Oper) (acc : List Nat), acc <+: masks l acc
  | [], acc => List.prefix_refl _
  | o :: r, acc => by
    simp only [masks]
    exact (List.prefix_append _ _).trans (masks_pre r _)
theorem getD_pre {a b : List Nat} (h : a <+: b) {k : Nat} (hk : k < a.length) : b.getD k 0 = a.getD k 0 := by
  obtain ⟨t, rfl⟩ := h
  simp [List.getD_eq_getElem?_getD, List.getElem?_append_left hk]
theorem fold_bit (acc : List Nat) (j : Nat) : ∀ (es : List Nat) (s : Nat), ((es.foldl (fun s e => s ||| 2 ^ e ||| acc.getD e 0) s).testBit j) = true → s.testBit j = true ∨ ∃ e ∈ es, j = e ∨ (acc.getD e 0).testBit j = true
  | [], s, h => .inl h
  | e :: es, s, h => by
    simp only [List.foldl_cons] at h
    rcases fold_bit acc j es _ h with h | ⟨e', he, h⟩
    · simp only [Nat.testBit_or, Bool.or_eq_true, Nat.testBit_two_pow, decide_eq_true_eq] at h
      rcases h with (h | h) | h
      · exact .inl h
      · exact .inr ⟨e, by simp, .inl h.symm⟩
      · exact .inr ⟨e, by simp, .inr h⟩
    · exact .inr ⟨e', by simp [he], h⟩
theorem masks_spec : ∀ (l : List Oper) (acc : List Nat) (i : Nat) (o : Oper) (j : Nat), l[i]? = some o → ((masks l acc).getD (acc.length + i) 0).testBit j = true → ∃ e ∈ edges o, j = e ∨ ((masks l acc).getD e 0).testBit j = true
  | [], _, _, _, _, h, _ => by simp at h
  | o' :: r, acc, 0, o, j, h, hb => by
    simp at h
    subst h
    simp only [masks, Nat.add_zero] at hb ⊢
    have hp := masks_pre r (acc ++ [(edges o').foldl (fun s e => s ||| 2 ^ e ||| acc.getD e 0) 0])
    rw [getD_pre hp (by simp)] at hb
    simp only [List.getD_eq_getElem?_getD, List.getElem?_concat_length, Option.getD_some] at hb
    rcases fold_bit acc j _ _ (by simpa [List.getD_eq_getElem?_getD] using hb) with h | ⟨e, he, h⟩
    · simp at h
    · refine ⟨e, he, h.imp id fun h => ?_⟩
      have hlt : e < acc.length := by
        rcases Nat.lt_or_ge e acc.length with h' | h'
        · exact h'
        · rw [List.getD_eq_getElem?_getD, List.getElem?_eq_none h'] at h; simp at h
      rw [getD_pre hp (by simp; omega)]
      have : (acc ++ [(edges o').foldl (fun s e => s ||| 2 ^ e ||| acc.getD e 0) 0]).getD e 0 = acc.getD e 0 := getD_pre (List.prefix_append _ _) hlt
      rw [this]
      exact h
  | o' :: r, acc, i + 1, o, j, h, hb => by
    simp only [masks] at hb ⊢
    exact masks_spec r _ i o j (by simpa using h) (by rw [show (acc ++ [(edges o').foldl (fun s e => s ||| 2 ^ e ||| acc.getD e 0) 0]).length + i = acc.length + (i + 1) from by simp; omega]; exact hb)

theorem filter_le {l : List Nat} {p q : Nat → Bool} (h : ∀ x ∈ l, p x = true → q x = true) : (l.filter p).length ≤ (l.filter q).length := by
  induction l with
  | nil => simp
  | cons x l ih =>
    have ih := ih fun y hy => h y (by simp [hy])
    have hx := h x (by simp)
    simp only [List.filter_cons]
    cases hp : p x <;> cases hq : q x <;> simp_all <;> omega

theorem mem_effs : ∀ (rs : List Rec) (k p : Nat), p ∈ effsFrom rs k → ∃ j r, p = k + j ∧ rs[j]? = some r ∧ r.e = true
  | [], _, _, h => by simp [effsFrom] at h
  | r :: rs, k, p, h => by
    simp only [effsFrom] at h
    split at h
    · rename_i he
      simp at h
      rcases h with rfl | h
      · exact ⟨0, r, rfl, rfl, he⟩
      · obtain ⟨j, q, rfl, hj, hq⟩ := mem_effs rs (k + 1) p h
        exact ⟨j + 1, q, by omega, by simpa using hj, hq⟩
    · obtain ⟨j, q, rfl, hj, hq⟩ := mem_effs rs (k + 1) p h
      exact ⟨j + 1, q, by omega, by simpa using hj, hq⟩
theorem effs_mem : ∀ (rs : List Rec) (k j : Nat) (r : Rec), rs[j]? = some r → r.e = true → k + j ∈ effsFrom rs k
  | [], _, _, _, h, _ => by simp at h
  | q :: rs, k, 0, r, h, he => by simp at h; subst h; simp [effsFrom, he]
  | q :: rs, k, j + 1, r, h, he => by
    have := effs_mem rs (k + 1) j r (by simpa using h) he
    simp only [effsFrom]
    split
    · exact List.mem_cons_of_mem _ (by rwa [show k + (j + 1) = k + 1 + j from by omega])
    · rwa [show k + (j + 1) = k + 1 + j from by omega]
theorem effs_nodup : ∀ (rs : List Rec) (k : Nat), (effsFrom rs k).Nodup ∧ ∀ p ∈ effsFrom rs k, k ≤ p
  | [], _ => by simp [effsFrom]
  | r :: rs, k => by
    obtain ⟨h1, h2⟩ := effs_nodup rs (k + 1)
    simp only [effsFrom]
    split
    · refine ⟨List.nodup_cons.2 ⟨fun h => by have := h2 _ h; omega, h1⟩, fun p hp => ?_⟩
      rcases List.mem_cons.1 hp with rfl | hp
      · exact Nat.le_refl _
      · have := h2 _ hp; omega
    · exact ⟨h1, fun p hp => by have := h2 _ hp; omega⟩

/-- What the check tells. -/
structure Free (step : Oper → Env → Heap → OR) (ops : Array Oper) (bef : Nat → Nat → Bool) (rs : List Rec) (Hs : List Heap) : Prop where
  edge : ∀ (i : Nat) (r : Rec), rs[i]? = some r → ∀ e ∈ edges r.o, e < i
  slot : ∀ (i j : Nat) (r q : Rec), rs[i]? = some r → rs[j]? = some q → i ≠ j → ∀ d, q.o.dst = some d → r.o.dst ≠ some d ∧ (d ∈ slots ops r.o → if j < i then bef i j = true else bef j i = true)
  chain : ∀ (i : Nat) (r : Rec), rs[i]? = some r → r.e = true → ∀ p ∈ effs rs, p ≤ i ∨ bef p i = true
  quiet : ∀ (i : Nat) (r : Rec), rs[i]? = some r → r.e = false → r.w = true → looks r.o.op = true → ∀ q, ((effs rs).filter fun p => bef i p).length ≤ q → q ≤ ((effs rs).filter fun p => !bef p i).length → q ≤ (effs rs).length → ∃ Hq, Hs[q]? = some Hq ∧ step r.o r.t Hq = .val r.v Hq

theorem drawOK_free {step : Oper → Env → Heap → OR} {ops : Array Oper} {ms : List Nat} {rs : List Rec} {Hs : List Heap} {t : Tm} {H : Heap} {tf : Tm} (R : Ran step ops t H ops.toList rs Hs tf) (h : drawStat ops.toList ops ms = true) (h' : (effs rs).isEmpty = true ∨ drawDyn step ms rs Hs = true) : Free step ops (fun i j => (ms.getD i 0).testBit j) rs Hs := by
  have hop : ∀ {i : Nat} {r : Rec}, rs[i]? = some r → ops.toList[i]? = some r.o := by
    intro i r hi
    have : (rs.map (·.o))[i]? = some r.o := by simp [hi]
    rwa [R.opers] at this
  have hall : ∀ (i : Nat) (o : Oper), ops.toList[i]? = some o → _ := fun i r hi => by
    have hlt := (List.getElem?_eq_some_iff.1 hi).1
    have := List.all_eq_true.1 h i (List.mem_range.2 hlt)
    simp only [hi] at this
    exact this
  have hdyn : drawDyn step ms rs Hs = true → ∀ (i : Nat) (r : Rec), rs[i]? = some r → _ := fun h i r hi => by
    have hlt := (List.getElem?_eq_some_iff.1 hi).1
    have := List.all_eq_true.1 h i (List.mem_range.2 hlt)
    simp only [hi] at this
    exact this
  refine ⟨?_, ?_, ?_, ?_⟩
  · intro i r hi e he
    have := hall i r.o (hop hi)
    simp only [Bool.and_eq_true] at this
    simpa using List.all_eq_true.1 this.1 e he
  · intro i j r q hi hj hne d hd
    have := hall i r.o (hop hi)
    simp only [Bool.and_eq_true] at this
    have hlt := (List.getElem?_eq_some_iff.1 (hop hj)).1
    have := List.all_eq_true.1 this.2 j (List.mem_range.2 hlt)
    simp only [hop hj, hd, Bool.or_eq_true, Bool.and_eq_true, beq_iff_eq, decide_eq_true_eq, Bool.not_eq_true', List.contains_eq_mem, decide_eq_false_iff_not] at this
    rcases this with e | ⟨h1, h2⟩
    · exact absurd e hne
    · refine ⟨h1, fun hd => ?_⟩
      rcases h2 with h2 | h2
      · exact absurd hd h2
      · split <;> simp_all
  · intro i r hi he p hp
    rcases h' with h' | h'
    · rw [List.isEmpty_iff.1 h'] at hp; cases hp
    have := hdyn h' i r hi
    simp only [he, if_true] at this
    simpa using List.all_eq_true.1 this p hp
  · intro i r hi he hw hl q h1 h2 h3
    rcases h' with h' | h'
    · have h0 := List.isEmpty_iff.1 h'
      rw [h0] at h3
      have hq : q = 0 := by simpa using h3
      subst hq
      obtain ⟨_, Hk, H', hk, hs, _, h5⟩ := R.on i r hi hw
      have hc : cnt rs i = 0 := by
        have := effsFrom_cnt rs 0 i
        rw [← this, show effsFrom rs 0 = [] from h0]
        rfl
      rw [hc] at hk
      rw [h5 he] at hs
      exact ⟨Hk, hk, hs⟩
    have := hdyn h' i r hi
    simp only [he, hw, hl, Bool.false_eq_true, if_false, Bool.and_true, Bool.not_true, Bool.false_or] at this
    have := List.all_eq_true.1 this q (List.mem_range.2 (by omega))
    simp only [h1, h2, decide_true, Bool.and_true, Bool.not_true, Bool.false_or] at this
    split at this
    · rename_i Hq hq
      refine ⟨Hq, hq, ?_⟩
      unfold sameOR at this
      split at this
      · rename_i u H' hs
        simp only [Bool.and_eq_true] at this
        rw [hs, V.beq_eq _ _ this.1, Heap.beq_eq _ _ this.2]
      · cases this
    · cases this
end
end Go.Ev

namespace Go.Ev
open Go
section
variable {P : Program} {T : Tab}

theorem curs_ext : ∀ (rs : List Rec) (t : Env) (L L' : Nat → Bool), (∀ j, j < rs.length → L j = L' j) → curs t rs L = curs t rs L'
  | [], _, _, _, _ => rfl
  | r :: rs, t, L, L', h => by
    simp only [curs, h 0 (by simp)]
    exact curs_ext rs _ _ _ fun j hj => h (j + 1) (by simp; omega)
theorem count_same {l : List Nat} {L L' : Nat → Bool} (h : ∀ p ∈ l, L' p = L p) : (l.filter L').length = (l.filter L).length := by
  rw [List.filter_congr h]
theorem count_add : ∀ {l : List Nat} {L L' : Nat → Bool} {i : Nat}, l.Nodup → i ∈ l → L i = false → (∀ j, L' j = (L j || j == i)) → (l.filter L').length = (l.filter L).length + 1
  | [], _, _, _, _, h, _, _ => by simp at h
  | x :: l, L, L', i, hn, hi, hL, hL' => by
    rw [List.nodup_cons] at hn
    by_cases hx : x = i
    · subst hx
      have h1 : L' x = true := by rw [hL']; simp
      simp only [List.filter_cons, h1, hL, if_true, Bool.false_eq_true, if_false, List.length_cons]
      rw [count_same (L := L) (L' := L') fun p hp => by
        rw [hL']
        have : p ≠ x := fun e => hn.1 (e ▸ hp)
        simp [this]]
    · have hi' : i ∈ l := by
        rcases List.mem_cons.1 hi with h | h
        · exact absurd h.symm hx
        · exact h
      have ih := count_add hn.2 hi' hL hL'
      have h1 : L' x = L x := by rw [hL']; simp [hx]
      simp only [List.filter_cons, h1]
      split <;> simp [ih]

theorem put_size (a : Act) (d : Option Tmp) (x : Value) : (a.put d x).tmps.size = a.tmps.size := by cases d <;> simp [Act.put]
theorem evDraw_ok (hT : TOk P T) {call : CallF} (hcall : call.Sound P T) {id : Nat} {ops : Array Oper} {t : Tm} {H : Heap} {a : Act} {w : World} {M : Mem} {ρ : Ren} {Q : Exit → Act → World → Prop} (hS : SR T M ρ H w) (ht : relTm M ρ t a.tmps)
    (h : OutOK T M ρ w Q a.defers (evDraw (evOp T call) ops t H)) : (Code.region id ops true).wp P Q a w := by
  unfold evDraw at h
  split at h
  case h_2 => exact h.elim
  rename_i rs Hs tf hrun
  split at h
  case isFalse => exact h.elim
  rename_i hok
  split at h
  case h_2 => exact h.elim
  rename_i Hl hlast
  have R := drawRun_ran (fun o t H v H' hq hh => quiet_heap hq hh) ops.toList t H rs Hs tf hrun
  simp only [Bool.and_eq_true, Bool.or_eq_true] at hok
  have F := drawOK_free R hok.1 hok.2
  generalize hbefd : (fun i j => ((masks ops.toList []).getD i 0).testBit j) = bef at F
  have hlen : rs.length = ops.size := by have := congrArg List.length R.opers; simpa using this
  have hop : ∀ {i : Nat} {r : Rec}, rs[i]? = some r → ops[i]? = some r.o := by
    intro i r hi
    have : (rs.map (·.o))[i]? = some r.o := by simp [hi]
    rw [R.opers] at this
    simpa using this
  have hbef : ∀ (i : Nat) (r : Rec) (j : Nat), rs[i]? = some r → bef i j = true → ∃ e ∈ edges r.o, j = e ∨ bef e j = true := by
    intro i r j hi hb
    subst hbefd
    exact masks_spec ops.toList [] i r.o j (by simpa using hop hi) (by simpa using hb)
  have hget : ∀ {i : Nat}, i < rs.length → ∃ r, rs[i]? = some r := fun hi => ⟨_, List.getElem?_eq_getElem hi⟩
  -- what comes before has come
  have hin : ∀ (L : Nat → Bool), (∀ i r, rs[i]? = some r → L i = true → ∀ e ∈ edges r.o, L e = true) → ∀ (i : Nat) (r : Rec) (j : Nat), rs[i]? = some r → (∀ e ∈ edges r.o, L e = true) → bef i j = true → L j = true := by
    intro L hcl i
    induction i using Nat.strongRecOn with
    | _ i ih =>
      intro r j hi he hb
      obtain ⟨e, hem, hj⟩ := hbef i r j hi hb
      rcases hj with rfl | hj
      · exact he _ hem
      · have hlt := F.edge i r hi e hem
        obtain ⟨re, hre⟩ := hget (i := e) (by have := (List.getElem?_eq_some_iff.1 hi).1; omega)
        exact ih e hlt re j hre (hcl e re hre (he e hem)) hj
  refine wp_region_any hT.mixed ?_
  have key : ∀ (fuel : Nat) (listed : Array Bool) (a' : Act) (w' : World) (M' : Mem) (ρ' : Ren), listed.size = ops.size →
      (∀ i r, rs[i]? = some r → listed.getD i false = true → ∀ e ∈ edges r.o, listed.getD e false = true) →
      ((List.range ops.size).filter fun i => !listed.getD i false).length ≤ fuel → Ext M ρ w M' ρ' w' →
      relT M' ρ' (curs t.get rs fun j => listed.getD j false) a'.tmps → a'.tmps.size = t.wid →
      (∃ Hq, Hs[((effs rs).filter fun p => listed.getD p false).length]? = some Hq ∧ SR T M' ρ' Hq w') → a'.defers = a.defers →
      wpAny P .any ops Q fuel listed a' w' := by
    -- all have come
    have fin : ∀ (listed : Array Bool) (a' : Act) (w' : World) (M' : Mem) (ρ' : Ren), (∀ i, i < ops.size → listed.getD i false = true) → Ext M ρ w M' ρ' w' → relT M' ρ' (curs t.get rs fun j => listed.getD j false) a'.tmps → a'.tmps.size = t.wid →
        (∃ Hq, Hs[((effs rs).filter fun p => listed.getD p false).length]? = some Hq ∧ SR T M' ρ' Hq w') → a'.defers = a.defers → Q .normal a' w' := by
      intro listed a' w' M' ρ' hall hext hrel hsize hheap hdef
      obtain ⟨Hq, hq, hS'⟩ := hheap
      have e1 : curs t.get rs (fun j => listed.getD j false) = tf.get := by
        rw [R.last]
        exact curs_ext rs t.get _ _ fun j hj => hall j (by omega)
      have e2 : ((effs rs).filter fun p => listed.getD p false).length = cnt rs rs.length := by
        have := effsFrom_cnt rs 0 rs.length
        rw [← this]
        refine count_same fun p hp => ?_
        obtain ⟨j, r, rfl, hj, _⟩ := mem_effs rs 0 p hp
        have hlt := (List.getElem?_eq_some_iff.1 hj).1
        rw [hall _ (by omega)]
        simp; omega
      have e3 : Hl = Hq := by
        rw [List.getLast?_eq_getElem?, R.heaps, Nat.add_sub_cancel, ← e2, hq] at hlast
        exact (Option.some.inj hlast).symm
      rw [e1] at hrel
      subst e3
      exact h a' w' M' ρ' hext ⟨by rw [R.wide, hsize], hrel⟩ hS' hdef
    have hready : ∀ (listed : Array Bool) (i : Nat), listed.size = ops.size → (i ∈ Region.ready .any ops listed ↔ ∃ r, rs[i]? = some r ∧ listed.getD i false = false ∧ ∀ e ∈ edges r.o, listed.getD e false = true) := by
      intro listed i hsz
      unfold Region.ready
      rw [List.mem_filter, List.mem_range]
      constructor
      · rintro ⟨hi, hh⟩
        obtain ⟨r, hr⟩ := hget (i := i) (by omega)
        rw [hop hr] at hh
        simp only [Option.map_some, Option.getD_some, Bool.and_eq_true, Bool.not_eq_true', Array.all_eq_true'] at hh
        refine ⟨r, hr, ?_, fun e he => ?_⟩
        · have := hh.1
          rw [Array.getD_eq_getD_getElem?] at this ⊢
          rw [Array.getElem?_eq_getElem (by omega)] at this ⊢
          exact this
        · simp only [edges, List.mem_map, List.mem_filter] at he
          obtain ⟨x, ⟨hx, hb⟩, rfl⟩ := he
          have := hh.2 x (by simpa using hx)
          simpa [hb] using this
      · rintro ⟨r, hr, hL, he⟩
        have hi := (List.getElem?_eq_some_iff.1 hr).1
        refine ⟨by omega, ?_⟩
        rw [hop hr]
        simp only [Option.map_some, Option.getD_some, Bool.and_eq_true, Bool.not_eq_true', Array.all_eq_true']
        refine ⟨?_, fun x hx => ?_⟩
        · rw [Array.getD_eq_getD_getElem?] at hL ⊢
          rw [Array.getElem?_eq_getElem (by omega)] at hL ⊢
          exact hL
        · cases hb : Region.binds .any x with
          | false => simp
          | true =>
            simp only [Bool.not_true, Bool.false_or]
            exact he x.on (List.mem_map.2 ⟨x, List.mem_filter.2 ⟨by simpa using hx, hb⟩, rfl⟩)
    have hnil : ∀ (listed : Array Bool), listed.size = ops.size → Region.ready .any ops listed = [] → ∀ i, i < ops.size → listed.getD i false = true := by
      intro listed hsz hr i
      induction i using Nat.strongRecOn with
      | _ i ihi =>
        intro hi
        obtain ⟨r, hri⟩ := hget (i := i) (by omega)
        cases hL : listed.getD i false with
        | true => rfl
        | false =>
          have : i ∈ Region.ready .any ops listed := (hready listed i hsz).2 ⟨r, hri, hL, fun e he => ihi e (F.edge i r hri e he) (by have := F.edge i r hri e he; omega)⟩
          rw [hr] at this
          cases this
    intro fuel
    induction fuel with
    | zero =>
      intro listed a' w' M' ρ' hsz hcl hcount hext hrel hsize hheap hdef
      have hall : ∀ i, i < ops.size → listed.getD i false = true := by
        intro i hi
        have : (List.range ops.size).filter (fun i => !listed.getD i false) = [] := List.eq_nil_of_length_eq_zero (by omega)
        have := (List.filter_eq_nil_iff.1 this) i (List.mem_range.2 hi)
        simpa using this
      refine ⟨?_, fin listed a' w' M' ρ' hall hext hrel hsize hheap hdef⟩
      cases hr : Region.ready .any ops listed with
      | nil => rfl
      | cons i l =>
        obtain ⟨r, hri, hL, _⟩ := (hready listed i hsz).1 (by rw [hr]; simp)
        have := hall i (by have := (List.getElem?_eq_some_iff.1 hri).1; omega)
        rw [this] at hL
        cases hL
    | succ fuel ih =>
      intro listed a' w' M' ρ' hsz hcl hcount hext hrel hsize hheap hdef
      refine ⟨fun hr => fin listed a' w' M' ρ' (hnil listed hsz hr) hext hrel hsize hheap hdef, fun i hi => ?_⟩
      obtain ⟨r, hri, hL, hedge⟩ := (hready listed i hsz).1 hi
      have hilt : i < ops.size := by have := (List.getElem?_eq_some_iff.1 hri).1; omega
      have hset : ∀ j, (listed.setIfInBounds i true).getD j false = (listed.getD j false || j == i) := by
        intro j
        simp only [Array.getD_eq_getD_getElem?, Array.getElem?_setIfInBounds]
        by_cases hj : i = j
        · subst hj
          simp [hsz, hilt]
        · have : (j == i) = false := by simp; omega
          simp [hj, this]
      -- the temporaries that it reads
      have hslot : ∀ d ∈ r.o.looksAt ops, (curs t.get rs fun j => listed.getD j false) d = r.t d := by
        intro d hd
        rw [R.seen i r hri]
        refine curs_congr rs t.get _ _ d (fun j q hj hqd => ?_) t.get rfl
        by_cases hji : i = j
        · subst hji
          simp only [hL]
          simp
        · have hsl := (F.slot i j r q hri hj hji d hqd).2 hd
          by_cases hlt : j < i
          · rw [if_pos hlt] at hsl
            have := hin (fun j => listed.getD j false) hcl i r j hri hedge hsl
            simp only [this]
            simp [hlt]
          · rw [if_neg hlt] at hsl
            cases hLj : listed.getD j false with
            | false => simp [hlt]
            | true =>
              have := hin (fun j => listed.getD j false) hcl j q i hj (hcl j q hj hLj) hsl
              rw [hL] at this
              cases this
      have hcl' : ∀ k q, rs[k]? = some q → (listed.setIfInBounds i true).getD k false = true → ∀ e ∈ edges q.o, (listed.setIfInBounds i true).getD e false = true := by
        intro k q hk hLk e he
        rw [hset] at hLk ⊢
        by_cases hki : k = i
        · subst hki
          rw [hri] at hk
          cases hk
          simp [hedge e he]
        · have : (k == i) = false := by simpa using hki
          rw [this, Bool.or_false] at hLk
          simp [hcl k q hk hLk e he]
      have hcount' : ((List.range ops.size).filter fun j => !(listed.setIfInBounds i true).getD j false).length ≤ fuel := by
        have e1 := count_add (l := List.range ops.size) (L := fun j => listed.getD j false) (L' := fun j => (listed.setIfInBounds i true).getD j false) (i := i) List.nodup_range (List.mem_range.2 hilt) hL hset
        have e2 : ∀ (l : List Nat) (p : Nat → Bool), (l.filter p).length + (l.filter fun j => !p j).length = l.length := by
          intro l p
          induction l with
          | nil => rfl
          | cons x l ih => simp only [List.filter_cons]; cases p x <;> simp <;> omega
        have e3 := e2 (List.range ops.size) (fun j => listed.getD j false)
        have e4 := e2 (List.range ops.size) (fun j => (listed.setIfInBounds i true).getD j false)
        omega
      have hcurs : curs t.get rs (fun j => (listed.setIfInBounds i true).getD j false) = put (curs t.get rs fun j => listed.getD j false) r.o.dst r.v :=
        curs_add rs t.get _ _ i r hri hL hset fun j q hji hj d hqd => (F.slot i j r q hri hj (fun e => hji e.symm) d hqd).1
      have hwants : wants ops r.o (curs t.get rs fun j => listed.getD j false) = wants ops r.o r.t := wants_congr hslot
      have hfd : ∀ e, r.o.dst = some e → e < a'.tmps.size := by rw [hsize]; exact fits_lt (R.fits i r hri)
      obtain ⟨Hq, hq, hS'⟩ := hheap
      unfold wpOp
      rw [hop hri]
      simp only
      cases hw : r.w with
      | false =>
        obtain ⟨h1, h2, h3⟩ := R.off i r hri hw
        rw [wants_ok hrel (hwants.trans h1)]
        simp only [Bool.false_eq_true, if_false]
        refine ih _ _ _ M' ρ' (by simpa using hsz) hcl' hcount' hext (by rw [hcurs, h2]; exact put_relT hrel rel_undef r.o.dst hfd) (by rw [put_size]; exact hsize) ⟨Hq, ?_, hS'⟩ (by rw [put_defers']; exact hdef)
        rw [count_same (L := fun p => listed.getD p false) fun p hp => ?_]
        · exact hq
        · rw [hset]
          obtain ⟨j, q, rfl, hj, hqe⟩ := mem_effs rs 0 p hp
          have : j ≠ i := fun e => by subst e; rw [hri] at hj; cases hj; rw [h3] at hqe; cases hqe
          simp; omega
      | true =>
        obtain ⟨h1, Hk, H', h2, h3, h4, h5⟩ := R.on i r hri hw
        rw [wants_ok hrel (hwants.trans h1)]
        simp only [if_true]
        refine .inl ?_
        -- the operation at this heap
        have hev : ∀ v H2, evOp T call r.o r.t Hq = .val v H2 → evOp T call r.o (curs t.get rs fun j => listed.getD j false) Hq = .val v H2 := fun v H2 hh => (evOp_congr (looks_congr hslot)).trans hh
        cases he : r.e with
        | true =>
          have hcnt : ((effs rs).filter fun p => listed.getD p false).length = cnt rs i := by
            have := effsFrom_cnt rs 0 i
            rw [← this]
            refine count_same fun p hp => ?_
            obtain ⟨j, q, rfl, hj, hqe⟩ := mem_effs rs 0 p hp
            simp only [Nat.zero_add]
            by_cases hlt : j < i
            · have hmem := effs_mem rs 0 i r hri he
              rcases F.chain j q hj hqe (0 + i) hmem with hc | hc
              · omega
              · rw [Nat.zero_add] at hc
                have := hin (fun j => listed.getD j false) hcl i r j hri hedge hc
                rw [this]
                simp [hlt]
            · have e0 : decide (j < i) = false := by simpa using hlt
              rw [e0]
              by_cases hji : j = i
              · subst hji; exact hL
              · have hmem := effs_mem rs 0 j q hj hqe
                rcases F.chain i r hri he (0 + j) hmem with hc | hc
                · omega
                · rw [Nat.zero_add] at hc
                  cases hLj : listed.getD j false with
                  | false => rfl
                  | true =>
                    have := hin (fun j => listed.getD j false) hcl j q i hj (hcl j q hj hLj) hc
                    rw [hL] at this
                    cases this
          rw [hcnt, h2] at hq
          cases hq
          refine evOp_ok hT hcall hS' hrel (hev r.v H' h3) ?_
          intro x M2 ρ2 w2 hx hv hS2
          refine ih _ _ _ M2 ρ2 (by simpa using hsz) hcl' hcount' (hext.trans hx) (by rw [hcurs]; exact put_relT (relT_mono hx.mem hx.pre hrel) hv r.o.dst hfd) (by rw [put_size]; exact hsize) ⟨H', ?_, hS2⟩ (by rw [put_defers']; exact hdef)
          have hmem := effs_mem rs 0 i r hri he
          rw [Nat.zero_add] at hmem
          have hnd : (effs rs).Nodup := (effs_nodup rs 0).1
          have hmem' : i ∈ effs rs := hmem
          have hca := count_add (L := fun p => listed.getD p false) (L' := fun p => (listed.setIfInBounds i true).getD p false) hnd hmem' hL hset
          rw [hca, hcnt]
          exact h4 he
        | false =>
          have hsame : evOp T call r.o r.t Hq = .val r.v Hq := by
            cases hl : looks r.o.op with
            | false =>
              rw [h5 he] at h3
              exact pure_heap hl h3 Hq
            | true =>
              have hlo : ((effs rs).filter fun p => bef i p).length ≤ ((effs rs).filter fun p => listed.getD p false).length :=
                filter_le fun p _ hp => hin (fun j => listed.getD j false) hcl i r p hri hedge hp
              have hhi : ((effs rs).filter fun p => listed.getD p false).length ≤ ((effs rs).filter fun p => !bef p i).length := by
                refine filter_le fun p hp hLp => ?_
                obtain ⟨j, q, rfl, hj, hqe⟩ := mem_effs rs 0 p hp
                rw [Nat.zero_add] at hLp ⊢
                cases hb : bef j i with
                | false => rfl
                | true =>
                  have := hin (fun j => listed.getD j false) hcl j q i hj (hcl j q hj hLp) hb
                  rw [hL] at this
                  cases this
              obtain ⟨H2, hq2, hs2⟩ := F.quiet i r hri he hw hl _ hlo hhi (List.length_filter_le _ _)
              rw [hq] at hq2
              cases hq2
              exact hs2
          refine evOp_ok hT hcall hS' hrel (hev r.v Hq hsame) ?_
          intro x M2 ρ2 w2 hx hv hS2
          refine ih _ _ _ M2 ρ2 (by simpa using hsz) hcl' hcount' (hext.trans hx) (by rw [hcurs]; exact put_relT (relT_mono hx.mem hx.pre hrel) hv r.o.dst hfd) (by rw [put_size]; exact hsize) ⟨Hq, ?_, hS2⟩ (by rw [put_defers']; exact hdef)
          rw [count_same (L := fun p => listed.getD p false) fun p hp => ?_]
          · exact hq
          · rw [hset]
            obtain ⟨j, q, rfl, hj, hqe⟩ := mem_effs rs 0 p hp
            have : j ≠ i := fun e => by subst e; rw [hri] at hj; cases hj; rw [he] at hqe; cases hqe
            simp; omega
  refine key ops.size (Array.replicate ops.size false) a _ M ρ (by simp) (fun i r hi hL => ?_) ?_ (Ext.drew M ρ w) ?_ ht.1.symm ⟨H, ?_, hS.drew⟩ rfl
  · exfalso
    simp [Array.getD_eq_getD_getElem?, Array.getElem?_replicate] at hL
    split at hL <;> simp at hL
  · exact Nat.le_trans (List.length_filter_le _ _) (by simp)
  · have : curs t.get rs (fun j => (Array.replicate ops.size false).getD j false) = t.get := by
      have h0 : ∀ j, (Array.replicate ops.size false).getD j false = false := by
        intro j
        simp only [Array.getD_eq_getD_getElem?, Array.getElem?_replicate]
        split <;> rfl
      simp only [h0]
      have : ∀ (rs : List Rec) (t : Env), curs t rs (fun _ => false) = t := by
        intro rs
        induction rs with
        | nil => intro t; rfl
        | cons r rs ih => intro t; simp only [curs]; exact ih t
      exact this _ _
    rw [this]
    exact ht.2
  · have h0 : ∀ j, (Array.replicate ops.size false).getD j false = false := by
      intro j
      simp only [Array.getD_eq_getD_getElem?, Array.getElem?_replicate]
      split <;> rfl
    simp only [h0]
    rw [show (effs rs).filter (fun _ => false) = [] from List.filter_eq_nil_iff.2 (by simp)]
    exact R.first

theorem evReg_ok (hT : TOk P T) {call : CallF} (hcall : call.Sound P T) : RegF.Sound P T (evReg T call) := by
  intro id ops d t H a w M ρ Q hS ht h
  cases d with
  | false => exact evSeqReg_ok hT hcall hS ht h
  | true => exact evDraw_ok hT hcall hS ht h
/-- THE EVALUATOR TELLS THE TRUTH. -/
theorem evFun_ok (hT : TOk P T) {G : Gam} (hG : G.Sound P T) (n : Nat) : CallF.Sound P T (evFun T G n) := evFunR_ok hT (fun _ h => evReg_ok hT h) hG n
end
end Go.Ev
