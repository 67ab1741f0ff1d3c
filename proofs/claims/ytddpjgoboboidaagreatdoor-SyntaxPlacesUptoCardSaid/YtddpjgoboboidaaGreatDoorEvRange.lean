/- The rounds of a range over a function: the body is called by yield, the triples go over. -/
import Derived.Test.YtddpjgoboboidaaGreatDoorEvFz
import Derived.RangeFuncNested
import Derived.RangeFuncLeaves
import Derived.TacticsIn
namespace Go.Ev
open Go Go.RowKit
section
variable {P : Program} {T : Tab} {M : Mem} {ρ : Ren} {w : World} {H : Heap}
/-- The fence that lets everything in, in a round or not. -/
abbrev FR (r : Option Nat) : Fence := { Fence.wide with round := r }
theorem wpIn_of_wp {r : Option Nat} {n : Nat} {o : Oper} {a : Act} {K : Act → World → Prop} {Q : Exit → Act → World → Prop} (hnd : ∀ c, o.op ≠ .defer c) (h : o.wp P a w K Q) : o.wpIn (FR r) n P a w K Q := by
  refine ⟨fun f _ => trivial, ?_⟩
  rw [Oper.semAt_eq _ _ _ hnd]
  unfold Oper.wp at h
  generalize (execOp a.eval o).run P w = res at h
  have hd : (FR r).depth.isSome = true → 1 ≤ n := fun e => by cases e
  cases res with
  | ok v w' =>
    cases v with
    | enter f args =>
      refine ⟨hd, ?_⟩
      have := (callsIn_wide (n := n - 1)).2 h
      exact this
    | round => exact h.elim
    | row row args => exact ⟨hd, fun c cs _ => let ⟨v, w', r, s⟩ := h c cs; ⟨v, w', r, stepsIn_wide.2 s⟩⟩
    | _ => exact h
  | halt hh w' =>
    cases hh with
    | panic v => exact h
    | _ => exact h
theorem evSeqIn_ok (hT : TOk P T) {call : CallF} (hcall : call.Sound P T) (ops : Array Oper) {r : Option Nat} {n : Nat} {Q : Exit → Act → World → Prop} (rest : List Oper) : ∀ (l : List Oper) (t : Tm) (H : Heap) (a : Act) (w : World) (M : Mem) (ρ : Ren) (t' : Tm) (H' : Heap), SR T M ρ H w → relTm M ρ t a.tmps →
    (∀ o ∈ l, ∀ c, o.op ≠ .defer c) → evSeq (evOp T call) ops l t H = .norm t' H' →
    (∀ a' w' M' ρ', Ext M ρ w M' ρ' w' → relTm M' ρ' t' a'.tmps → SR T M' ρ' H' w' → a'.defers = a.defers → wpListIn (FR r) n P ops Q rest a' w') → wpListIn (FR r) n P ops Q (l ++ rest) a w
  | [], t, H, a, w, M, ρ, t', H', hS, ht, _, h, k => by
    simp only [evSeq] at h
    cases h
    exact k a w M ρ (Ext.refl _ _ _) ht hS rfl
  | o :: l, t, H, a, w, M, ρ, t', H', hS, ht, hnd, h, k => by
    simp only [evSeq, putK_eq, opened_eq] at h
    rw [List.cons_append]
    unfold wpListIn
    split at h
    · rename_i hw
      rw [wants_ok ht.2 hw]
      simp only [if_true]
      split at h
      · rename_i v H2 hv
        split at h
        · rename_i hfit
          refine wpIn_of_wp (hnd o (by simp)) (evOp_ok hT hcall hS ht.2 (r := .val v H2) hv ?_)
          intro x M' ρ' w' he hx hS'
          refine evSeqIn_ok hT hcall ops rest l _ H2 _ w' M' ρ' t' H' hS' (put_rel (relTm_mono he.mem he.pre ht) hx o.dst hfit) (fun o' ho => hnd o' (by simp [ho])) h ?_
          intro a' w2 M2 ρ2 he2 ht2 hS2 hd
          rw [put_defers'] at hd
          exact k a' w2 M2 ρ2 (he.trans he2) ht2 hS2 hd
        · cases h
      · cases h
      · cases h
    · rename_i hw
      rw [wants_ok ht.2 hw]
      simp only [Bool.false_eq_true, if_false]
      split at h
      · rename_i hfit
        refine ⟨fun f _ => trivial, evSeqIn_ok hT hcall ops rest l _ H _ w M ρ t' H' hS (put_rel ht rel_undef o.dst hfit) (fun o' ho => hnd o' (by simp [ho])) h ?_⟩
        intro a' w2 M2 ρ2 he2 ht2 hS2 hd
        rw [put_defers'] at hd
        exact k a' w2 M2 ρ2 he2 ht2 hS2 hd
      · cases h
    · cases h
/-- A region without draws, in a round or not. -/
theorem regIn_ok (hT : TOk P T) {call : CallF} (hcall : call.Sound P T) {ops : Array Oper} {r : Option Nat} {n id : Nat} {Q : Exit → Act → World → Prop} {t t' : Tm} {H' : Heap} {a : Act} (hS : SR T M ρ H w) (ht : relTm M ρ t a.tmps) (hnd : ∀ o ∈ ops.toList, ∀ c, o.op ≠ .defer c)
    (h : evReg T call ops false t H = .norm t' H') (k : ∀ a' w' M' ρ', Ext M ρ w M' ρ' w' → relTm M' ρ' t' a'.tmps → SR T M' ρ' H' w' → a'.defers = a.defers → Q .normal a' w') : (Code.region id ops false).wpIn (FR r) n P Q a w := by
  refine wpIn_region_list ?_
  have := evSeqIn_ok hT hcall ops (r := r) (n := n) (Q := Q) [] ops.toList t H a w M ρ t' H' hS ht hnd h (fun a' w' M' ρ' he ht' hS' hd => k a' w' M' ρ' he ht' hS' hd)
  rwa [List.append_nil] at this
/-- A block that the abstract heap does not know. -/
structure Hid (l : Nat) (o : Obj) (M : Mem) (ρ : Ren) (w : World) : Prop where
  at_ : w.heap[l]? = some o
  free : M l = none
  un : ∀ c, (l, c) ∉ ρ
theorem Hid.lt {l : Nat} {o : Obj} (h : Hid l o M ρ w) : l < w.heap.size := (Array.getElem?_eq_some_iff.1 h.at_).1
theorem Hid.ext {l : Nat} {o : Obj} {M' : Mem} {ρ' : Ren} {w' : World} (h : Hid l o M ρ w) (he : Ext M ρ w M' ρ' w') : Hid l o M' ρ' w' where
  at_ := by rw [he.frame l h.lt h.un]; exact h.at_
  free := by rw [he.newM l h.lt h.un]; exact h.free
  un c hc := by
    rcases he.newR l c hc with ⟨c', h'⟩ | h'
    · exact h.un c' h'
    · exact absurd h.lt (by omega)
/-- It turns: nothing that is known does. -/
theorem sr_put {l : Nat} {o o' : Obj} (hS : SR T M ρ H w) (h : Hid l o M ρ w) : SR T M ρ H (w.putObj l o') where
  frozen b ob hb := by
    have : b ≠ l := fun e => by subst e; rw [h.free] at hb; cases hb
    rw [World.putObj_heap_other this]
    exact hS.frozen b ob hb
  len := hS.len
  blk n b hn := by
    obtain ⟨c, q, hr, hM, hlt, hok⟩ := hS.blk n b hn
    have : c ≠ l := fun e => by subst e; exact h.un q (List.mem_of_getElem? hr)
    refine ⟨c, q, hr, hM, by simpa using hlt, ?_⟩
    rw [World.putObj_heap_other this]
    exact hok
  inj := hS.inj
  glob := hS.glob
theorem Hid.put {l : Nat} {o : Obj} (o' : Obj) (h : Hid l o M ρ w) : Hid l o' M ρ (w.putObj l o') := ⟨World.putObj_heap_same h.lt, h.free, h.un⟩
theorem Hid.other {l k : Nat} {o o' : Obj} (h : Hid k o M ρ w) (hne : k ≠ l) : Hid k o M ρ (w.putObj l o') := ⟨by rw [World.putObj_heap_other hne]; exact h.at_, h.free, h.un⟩
/-- Seen from a world in which it was not there yet, nothing has turned. -/
theorem ext_put {M0 : Mem} {ρ0 : Ren} {w0 : World} {l : Nat} {o' : Obj} (he : Ext M0 ρ0 w0 M ρ w) (hl : w0.heap.size ≤ l) : Ext M0 ρ0 w0 M ρ (w.putObj l o') where
  os := he.os
  tape := he.tape
  output := he.output
  size := by simpa using he.size
  mem := he.mem
  pre := he.pre
  frame b hb hn := by rw [World.putObj_heap_other (by omega)]; exact he.frame b hb hn
  newM := he.newM
  newR := he.newR
theorem sr_alloc (hS : SR T M ρ H w) (o : Obj) : SR T M ρ H (w.alloc o) where
  frozen b ob hb := by
    have := hS.frozen b ob hb
    rw [RowKit.Below.heap_alloc w o b (Array.getElem?_eq_some_iff.1 this).1]
    exact this
  len := hS.len
  blk n b hn := by
    obtain ⟨c, q, hr, hM, hlt, hok⟩ := hS.blk n b hn
    refine ⟨c, q, hr, hM, by simp; omega, ?_⟩
    rw [RowKit.Below.heap_alloc w o c hlt]
    exact hok
  inj := hS.inj
  glob := hS.glob
theorem ext_alloc (o : Obj) : Ext M ρ w M ρ (w.alloc o) where
  os := rfl
  tape := rfl
  output := rfl
  size := by simp
  mem := Mem.le.refl _
  pre := List.prefix_refl _
  frame b hb _ := RowKit.Below.heap_alloc w o b hb
  newM _ _ _ := rfl
  newR _ c h := .inl ⟨c, h⟩
/-- A call of yield. -/
theorem yield_ok {r : Option Nat} {n l k : Nat} {o : Oper} {a : Act} {K : Act → World → Prop} {Q : Exit → Act → World → Prop} {c : Call} {t : Tm} {vs : List V} {rec : Loop} (ht : relTm M ρ t a.tmps)
    (ho : o.op = .call c) (hc : c.callee = .value (.tmp k)) (hk : t.get k = .yld l) (hvs : evs t.get c.args.toList = some vs) (hl : w.heap[l]? = some (.loop rec)) (hlen : vs.length = rec.params.size)
    (h : ∀ args : List Value, relL M ρ vs args → RoundIn (FR r) (n - 1) P l rec.fn ((rec.params.zip args.toArray).foldl (fun tmps (t, a) => tmps.setIfInBounds t a) rec.tmps) rec.assign rec.body w fun e w' => match e with | .returned v => K (a.put o.dst v) w' | _ => False) : o.wpIn (FR r) n P a w K Q := by
  have hv := ht.2 k
  rw [hk] at hv
  simp only [rel] at hv
  have hrel := evs_rel ht.2 hvs
  have hsz : (c.args.map a.eval).size = rec.params.size := by
    have := relL_length hrel
    simp at this
    simp [this, ← hlen]
  refine ⟨fun f _ => trivial, ?_⟩
  rw [Oper.semAt_eq _ _ _ (fun c' e => by rw [ho] at e; cases e)]
  have hy := run_yield (P := P) (args := c.args.map a.eval) hl hsz
  have hexec : (execOp a.eval o).run P w = .ok (.round l rec.fn ((rec.params.zip (c.args.map a.eval)).foldl (fun tmps (t, a) => tmps.setIfInBounds t a) rec.tmps) rec.assign rec.body) w := by
    have h1 : a.eval (.tmp k) = .func (.yield l) #[] #[] := hv
    simp [execOp, ho, resolve, hc, h1, Deferred.ofValue, invoke, hy]
  rw [hexec, Oper.uponIn_round]
  refine ⟨fun e => (by cases e), ?_⟩
  have := h (c.args.toList.map a.eval) hrel
  have e2 : (c.args.toList.map a.eval).toArray = c.args.map a.eval := by apply Array.ext'; simp
  rw [e2] at this
  refine this.mono fun e w' he => ?_
  cases e with
  | returned v => exact he
  | panicked chain => exact he.elim
  | outgrown => exact he.elim
end
end Go.Ev
namespace Go.Ev
open Go Go.RowKit
def Out.isN : Out → Bool
  | .norm .. => true
  | _ => false
noncomputable def Out.tm : Out → Tm
  | .norm t _ => t
  | _ => Tm.init 0 []
def Out.hp : Out → Heap
  | .norm _ H => H
  | _ => []
theorem Out.eq_of_isN {o : Out} (h : o.isN = true) : o = .norm o.tm o.hp := by cases o <;> first | rfl | cases h
def noDefer (ops : Array Oper) : Bool := ops.toList.all fun o => match o.op with
  | .defer _ => false
  | _ => true
theorem noDefer_at {ops : Array Oper} (h : noDefer ops = true) : ∀ o ∈ ops.toList, ∀ c, o.op ≠ .defer c := fun o ho c e => by
  have := List.all_eq_true.1 h o ho
  rw [e] at this
  cases this
/-- A call of what a temporary holds. -/
def callTmp (o : Oper) : Option (Nat × List Operand) := match o.op with
  | .call ⟨.value (.tmp j), args, _⟩ => some (j, args.toList)
  | _ => none
theorem callTmp_at {o : Oper} {j : Nat} {ops2 : List Operand} (h : callTmp o = some (j, ops2)) : ∃ c : Call, o.op = .call c ∧ c.callee = .value (.tmp j) ∧ c.args.toList = ops2 := by
  unfold callTmp at h
  split at h
  · rename_i j' args tys e
    cases h
    exact ⟨_, e, rfl, rfl⟩
  · cases h
section
variable {P : Program} {T : Tab} {M : Mem} {ρ : Ren} {w : World} {H : Heap}
theorem regN (hT : TOk P T) {call : CallF} (hcall : call.Sound P T) {ops : Array Oper} {r : Option Nat} {n id : Nat} {Q : Exit → Act → World → Prop} {t : Tm} {a : Act} (hS : SR T M ρ H w) (ht : relTm M ρ t a.tmps) (hnd : noDefer ops = true)
    (h : (evReg T call ops false t H).isN = true) (k : ∀ a' w' M' ρ', Ext M ρ w M' ρ' w' → relTm M' ρ' (evReg T call ops false t H).tm a'.tmps → SR T M' ρ' (evReg T call ops false t H).hp w' → a'.defers = a.defers → Q .normal a' w') : (Code.region id ops false).wpIn (FR r) n P Q a w :=
  regIn_ok hT hcall hS ht (noDefer_at hnd) (Out.eq_of_isN h) k
/-- A region in which a round is run. -/
theorem regY (hT : TOk P T) {call : CallF} (hcall : call.Sound P T) {ops : Array Oper} {r : Option Nat} {n id l j q : Nat} {ops2 : List Operand} {vs : List V} {rec : Loop} {Q : Exit → Act → World → Prop} {t : Tm} {a : Act} {o : Oper} (hS : SR T M ρ H w) (ht : relTm M ρ t a.tmps) (hnd : noDefer ops = true)
    (hops : ops.toList = ops.toList.take q ++ o :: ops.toList.drop (q + 1)) (hg : o.guard = none)
    (h : (evSeq (evOp T call) ops (ops.toList.take q) t H).isN = true) (ho : callTmp o = some (j, ops2)) (hj : (evSeq (evOp T call) ops (ops.toList.take q) t H).tm.get j = .yld l) (hvs : evs (evSeq (evOp T call) ops (ops.toList.take q) t H).tm.get ops2 = some vs)
    (hlen : vs.length = rec.params.size) (hl : Hid l (.loop rec) M ρ w)
    (hround : ∀ (a' : Act) (w' : World) (M' : Mem) (ρ' : Ren), Ext M ρ w M' ρ' w' → relTm M' ρ' (evSeq (evOp T call) ops (ops.toList.take q) t H).tm a'.tmps → SR T M' ρ' (evSeq (evOp T call) ops (ops.toList.take q) t H).hp w' → Hid l (.loop rec) M' ρ' w' → a'.defers = a.defers →
      ∀ args : List Value, relL M' ρ' vs args → RoundIn (FR r) (n - 1) P l rec.fn ((rec.params.zip args.toArray).foldl (fun tmps (t, a) => tmps.setIfInBounds t a) rec.tmps) rec.assign rec.body w' fun e w' => match e with | .returned v => wpListIn (FR r) n P ops Q (ops.toList.drop (q + 1)) (a'.put o.dst v) w' | _ => False) :
    (Code.region id ops false).wpIn (FR r) n P Q a w := by
  refine wpIn_region_list ?_
  rw [hops]
  refine evSeqIn_ok hT hcall ops (o :: ops.toList.drop (q + 1)) (ops.toList.take q) t H a w M ρ _ _ hS ht (fun o' ho' => noDefer_at hnd o' (List.mem_of_mem_take ho')) (Out.eq_of_isN h) ?_
  intro a' w' M' ρ' he ht' hS' hd
  obtain ⟨c, h1, h2, h3⟩ := callTmp_at ho
  unfold wpListIn
  simp only [Region.wanted, hg, if_true]
  have hl' := hl.ext he
  exact yield_ok ht' h1 h2 hj (by rw [h3]; exact hvs) hl'.at_ hlen (hround a' w' M' ρ' he ht' hS' hl' hd)
end
end Go.Ev
