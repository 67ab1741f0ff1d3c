/- Terms that stand for values not known, and what they mean. Heaps in terms. Rules of terms: integers and lists. -/
import Derived.Test.YtmjplflnlggbeaaGreatDoorSEvN
namespace Go.Ev
open Go Go.Proofs
set_option linter.unusedSimpArgs false
set_option linter.unusedVariables false
open Go
inductive U where
  | ui (n : Int) | ub (x : Bool) | us (l : List UInt8) | uv (x : V) | un (k : Nat) | ul (xs : List V) | uh (H : Heap)
  deriving Inhabited
def U.int : U → Int | .ui n => n | _ => 0
@[simp] theorem U.int_ui (x) : (U.ui x).int = x := rfl
def U.boo : U → Bool | .ub x => x | _ => false
@[simp] theorem U.boo_ub (x) : (U.ub x).boo = x := rfl
def U.str : U → List UInt8 | .us l => l | _ => []
@[simp] theorem U.str_us (x) : (U.us x).str = x := rfl
def U.val : U → V | .uv x => x | _ => .un
@[simp] theorem U.val_uv (x) : (U.uv x).val = x := rfl
def U.nat : U → Nat | .un k => k | _ => 0
@[simp] theorem U.nat_un (x) : (U.un x).nat = x := rfl
def U.lst : U → List V | .ul xs => xs | _ => []
@[simp] theorem U.lst_ul (x) : (U.ul x).lst = x := rfl
def U.heap : U → Heap | .uh H => H | _ => []
@[simp] theorem U.heap_uh (x) : (U.uh x).heap = x := rfl

inductive O1 where
  | vi (k : IntKind) | vb | vs | agg | tup | ifc (t : Nat) | fn (g : Nat) | ptr (off : Nat) | mp | isl (sz : Nat)
  | lenS | lenL | not | wrap (k : IntKind) | hlen | enc | slc (sz len : Nat) | bys | nn
  deriving DecidableEq
inductive O2 where
  | add | sub | mul | eqI | neI | ltI | leI | gtI | geI | eqS | neS | ltS | leS | gtS | geS | eqB | neB | app | at | inS | cons | addn
  | opI (op : BinOp) (k : IntKind) | okI (op : BinOp) (k : IntKind) | sh (op : BinOp) (k j : IntKind) | okSh (op : BinOp) (k j : IntKind) | cat | sl (sz : Nat) | ptrI (sz : Nat) | pushB
  deriving DecidableEq
inductive O3 where
  | sub | subL | ipt (sz off : Nat) | setB
  deriving DecidableEq
inductive E where
  | va (k : Nat)
  | ci (n : Int) | cn (k : Nat) | cb (c : Bool) | cs (l : List UInt8) | cv (x : V)
  | nil
  | f1 (o : O1) (a : E)
  | f2 (o : O2) (a c : E)
  | f3 (o : O3) (a c d : E)
  deriving Inhabited

def ltB (a b : Int) : Bool := decide (a < b)
def leB (a b : Int) : Bool := decide (a ≤ b)
@[simp] theorem ltB_true (a b : Int) : (ltB a b = true) = (a < b) := by simp [ltB]
@[simp] theorem ltB_false (a b : Int) : (ltB a b = false) = (¬ a < b) := by simp [ltB]
@[simp] theorem leB_true (a b : Int) : (leB a b = true) = (a ≤ b) := by simp [leB]
@[simp] theorem leB_false (a b : Int) : (leB a b = false) = (¬ a ≤ b) := by simp [leB]
def atS (s : List UInt8) (i : Int) : Int := match s[i.toNat]? with
  | some c => c.toNat
  | none => 0
def intOf (o : Option V) : Int := match o with
  | some (.i _ n) => n
  | _ => 0
@[simp] theorem intOf_i (k n) : intOf (some (.i k n)) = n := rfl
def kindOf (o : Option V) (k : IntKind) : Bool := match o with
  | some (.i j _) => decide (j = k)
  | _ => false
@[simp] theorem kindOf_i (k j n) : kindOf (some (.i k n)) j = decide (k = j) := rfl
@[simp] def O1.den : O1 → U → U
  | .vi k, a => .uv (.i k a.int)
  | .vb, a => .uv (.b a.boo)
  | .vs, a => .uv (.s a.str)
  | .agg, a => .uv (.agg a.lst)
  | .tup, a => .uv (.tup a.lst)
  | .ifc t, a => .uv (.ifc t a.val)
  | .fn g, a => .uv (.fn g a.lst)
  | .ptr off, a => .uv (.ptr a.nat off)
  | .mp, a => .uv (.mp a.nat)
  | .isl sz, a => .uv (.isl sz a.lst)
  | .lenS, a => .ui a.str.length
  | .lenL, a => .ui a.lst.length
  | .not, a => .ub !a.boo
  | .wrap k, a => .ui (k.wrap a.int)
  | .hlen, a => .un a.heap.length
  | .enc, a => .us (Utf8.encode a.int).data.toList
  | .slc sz len, a => .uv (.sl a.nat sz 0 len (some len))
  | .bys, a => .ul (a.str.map fun c => .i .u8 c.toNat)
  | .nn, a => .ui (a.int.toNat : Nat)

@[simp] def O2.den : O2 → U → U → U
  | .add, a, c => .ui (a.int + c.int)
  | .sub, a, c => .ui (a.int - c.int)
  | .mul, a, c => .ui (a.int * c.int)
  | .eqI, a, c => .ub (a.int == c.int)
  | .neI, a, c => .ub (a.int != c.int)
  | .ltI, a, c => .ub (ltB a.int c.int)
  | .leI, a, c => .ub (leB a.int c.int)
  | .gtI, a, c => .ub (ltB c.int a.int)
  | .geI, a, c => .ub (leB c.int a.int)
  | .eqS, a, c => .ub (a.str == c.str)
  | .neS, a, c => .ub !(a.str == c.str)
  | .ltS, a, c => .ub (Op.bytesLess a.str c.str)
  | .leS, a, c => .ub (Op.bytesLess a.str c.str || a.str == c.str)
  | .gtS, a, c => .ub !(Op.bytesLess a.str c.str || a.str == c.str)
  | .geS, a, c => .ub !(Op.bytesLess a.str c.str)
  | .eqB, a, c => .ub (a.boo == c.boo)
  | .neB, a, c => .ub !(a.boo == c.boo)
  | .app, a, c => .us (a.str ++ c.str)
  | .at, a, c => .ui (atS a.str c.int)
  | .inS, a, c => .ub (leB 0 c.int && ltB c.int a.str.length)
  | .cons, a, c => .ul (a.val :: c.lst)
  | .addn, a, c => .un (a.nat + c.nat)
  | .opI op k, a, c => .ui (intOf (evInt op k a.int c.int))
  | .okI op k, a, c => .ub (kindOf (evInt op k a.int c.int) k)
  | .sh op k j, a, c => .ui (intOf (evShift op k a.int j c.int))
  | .okSh op k j, a, c => .ub (kindOf (evShift op k a.int j c.int) k)
  | .cat, a, c => .ul (a.lst ++ c.lst)
  | .sl sz, a, c => .uv (.sl a.nat sz 0 c.int.toNat none)
  | .ptrI sz, a, c => .uv (.ptr a.nat (c.int.toNat * sz))
  | .pushB, a, c => .us (a.str ++ [UInt8.ofNat c.int.toNat])
@[simp] def O3.den : O3 → U → U → U → U
  | .sub, a, c, d => .us ((a.str.take d.int.toNat).drop c.int.toNat)
  | .subL, a, c, d => .ul ((a.lst.take d.int.toNat).drop c.int.toNat)
  | .ipt sz off, a, c, d => .uv (.ipt sz a.lst c.int.toNat off)
  | .setB, a, c, d => .us (a.str.set c.int.toNat (UInt8.ofNat d.int.toNat))
@[simp] def E.den (σ : List U) : E → U
  | .va k => (σ[k]?).getD (.ui 0)
  | .ci n => .ui n
  | .cn k => .un k
  | .cb c => .ub c
  | .cs l => .us l
  | .cv x => .uv x
  | .nil => .ul []
  | .f1 o a => o.den (a.den σ)
  | .f2 o a c => o.den (a.den σ) (c.den σ)
  | .f3 o a c d => o.den (a.den σ) (c.den σ) (d.den σ)
noncomputable def E.scop (n : Nat) (e : E) : Bool :=
  E.rec (fun k => Nat.blt k n) (fun _ => true) (fun _ => true) (fun _ => true) (fun _ => true) (fun _ => true) true (fun _ _ r => r) (fun _ _ _ r q => Bool.rec false q r) (fun _ _ _ _ r q p => Bool.rec false (Bool.rec false p q) r) e
theorem E.scop_den (σ τ : List U) : ∀ (e : E), e.scop σ.length = true → e.den (σ ++ τ) = e.den σ
  | .va k, h => by
    have hk : k < σ.length := by simpa [E.scop, Nat.blt_eq] using h
    simp [E.den, List.getElem?_append_left hk]
  | .ci _, _ => rfl
  | .cn _, _ => rfl
  | .cb _, _ => rfl
  | .cs _, _ => rfl
  | .cv _, _ => rfl
  | .nil, _ => rfl
  | .f1 o a, h => by
    have h : a.scop σ.length = true := h
    simp only [E.den, E.scop_den σ τ a h]
  | .f2 o a c, h => by
    have h : (Bool.rec false (c.scop σ.length) (a.scop σ.length) : Bool) = true := h
    cases ha : a.scop σ.length
    · rw [ha] at h; cases h
    · rw [ha] at h; simp only [E.den, E.scop_den σ τ a ha, E.scop_den σ τ c h]
  | .f3 o a c d, h => by
    have h : (Bool.rec false (Bool.rec false (d.scop σ.length) (c.scop σ.length) : Bool) (a.scop σ.length) : Bool) = true := h
    cases ha : a.scop σ.length
    · rw [ha] at h; cases h
    · rw [ha] at h
      cases hc : c.scop σ.length
      · rw [hc] at h; cases h
      · rw [hc] at h; simp only [E.den, E.scop_den σ τ a ha, E.scop_den σ τ c hc, E.scop_den σ τ d h]

theorem E.scop_mono {n m : Nat} (hm : n ≤ m) : ∀ (e : E), e.scop n = true → e.scop m = true
  | .va k, h => by
    have h : Nat.blt k n = true := h
    show Nat.blt k m = true
    rw [Nat.blt_eq] at h ⊢
    omega
  | .ci _, _ => rfl
  | .cn _, _ => rfl
  | .cb _, _ => rfl
  | .cs _, _ => rfl
  | .cv _, _ => rfl
  | .nil, _ => rfl
  | .f1 o a, h => E.scop_mono hm a h
  | .f2 o a c, h => by
    have h : (Bool.rec false (c.scop n) (a.scop n) : Bool) = true := h
    show (Bool.rec false (c.scop m) (a.scop m) : Bool) = true
    cases ha : a.scop n
    · rw [ha] at h; cases h
    · rw [ha] at h; rw [E.scop_mono hm a ha]; exact E.scop_mono hm c h
  | .f3 o a c d, h => by
    have h : (Bool.rec false (Bool.rec false (d.scop n) (c.scop n) : Bool) (a.scop n) : Bool) = true := h
    show (Bool.rec false (Bool.rec false (d.scop m) (c.scop m) : Bool) (a.scop m) : Bool) = true
    cases ha : a.scop n
    · rw [ha] at h; cases h
    · rw [ha] at h
      cases hc : c.scop n
      · rw [hc] at h; cases h
      · rw [hc] at h; rw [E.scop_mono hm a ha, E.scop_mono hm c hc]; exact E.scop_mono hm d h
noncomputable def E.up (n : Nat) (e : E) : E :=
  E.rec (fun k => .va (n + k)) (fun n => .ci n) (fun n => .cn n) (fun c => .cb c) (fun l => .cs l) (fun x => .cv x) .nil (fun o _ r => .f1 o r) (fun o _ _ r q => .f2 o r q) (fun o _ _ _ r q p => .f3 o r q p) e
section
variable {α : Type}
noncomputable def fO1 (o : O1) (k : O1 → α) : α := O1.rec (fun j => k (.vi j)) (k .vb) (k .vs) (k .agg) (k .tup) (fun t => fN t fun t => k (.ifc t)) (fun g => fN g fun g => k (.fn g)) (fun d => fN d fun d => k (.ptr d)) (k .mp) (fun z => fN z fun z => k (.isl z))
  (k .lenS) (k .lenL) (k .not) (fun j => k (.wrap j)) (k .hlen) (k .enc) (fun z n => fN z fun z => fN n fun n => k (.slc z n)) (k .bys) (k .nn) o
theorem fO1_eq (o : O1) (k : O1 → α) : fO1 o k = k o := by cases o <;> simp [fO1, fN_eq]
noncomputable def fO3 (o : O3) (k : O3 → α) : α := O3.rec (k .sub) (k .subL) (fun z d => fN z fun z => fN d fun d => k (.ipt z d)) (k .setB) o
theorem fO3_eq (o : O3) (k : O3 → α) : fO3 o k = k o := by cases o <;> simp [fO3, fN_eq]
noncomputable def fO2 (o : O2) (k : O2 → α) : α := match o with
  | .sl z => fN z fun z => k (.sl z)
  | .ptrI z => fN z fun z => k (.ptrI z)
  | o => k o
theorem fO2_eq (o : O2) (k : O2 → α) : fO2 o k = k o := by cases o <;> simp [fO2, fN_eq]
noncomputable def fE (e : E) : (E → α) → α :=
  E.rec (motive := fun _ => (E → α) → α) (fun n k => fN n fun n => k (.va n)) (fun n k => fI n fun n => k (.ci n)) (fun n k => fN n fun n => k (.cn n)) (fun c k => Bool.rec (k (.cb false)) (k (.cb true)) c) (fun l k => fUs l fun l => k (.cs l)) (fun x k => fV x fun x => k (.cv x)) (fun k => k .nil)
    (fun o _ r k => r fun a => fO1 o fun o => k (.f1 o a)) (fun o _ _ r q k => r fun a => q fun c => fO2 o fun o => k (.f2 o a c)) (fun o _ _ _ r q p k => r fun a => q fun c => p fun d => fO3 o fun o => k (.f3 o a c d)) e
theorem fE_eq : ∀ (e : E) (k : E → α), fE e k = k e
  | .va n, k => by show fN n (fun n => k (.va n)) = _; rw [fN_eq]
  | .ci n, k => by show fI n (fun n => k (.ci n)) = _; rw [fI_eq]
  | .cn n, k => by show fN n (fun n => k (.cn n)) = _; rw [fN_eq]
  | .cb c, k => by cases c <;> rfl
  | .cs l, k => by show fUs l (fun l => k (.cs l)) = _; rw [fUs_eq]
  | .cv x, k => by show fV x (fun x => k (.cv x)) = _; rw [fV_eq]
  | .nil, k => rfl
  | .f1 o a, k => by show fE a (fun a => fO1 o fun o => k (.f1 o a)) = _; rw [fE_eq a, fO1_eq]
  | .f2 o a c, k => by show fE a (fun a => fE c fun c => fO2 o fun o => k (.f2 o a c)) = _; rw [fE_eq a, fE_eq c, fO2_eq]
  | .f3 o a c d, k => by show fE a (fun a => fE c fun c => fE d fun d => fO3 o fun o => k (.f3 o a c d)) = _; rw [fE_eq a, fE_eq c, fE_eq d, fO3_eq]
end
noncomputable def E.same (e : E) : E → Bool :=
  E.rec (motive := fun _ => E → Bool) (fun k f => match f with | .va j => Nat.beq k j | _ => false) (fun n f => match f with | .ci m => decide (n = m) | _ => false) (fun n f => match f with | .cn m => Nat.beq n m | _ => false) (fun c f => match f with | .cb d => c == d | _ => false)
    (fun l f => match f with | .cs m => eqU l m | _ => false) (fun _ _ => false) (fun f => match f with | .nil => true | _ => false)
    (fun o _ r f => match f with | .f1 p a => Bool.rec false (r a) (decide (o = p)) | _ => false) (fun o _ _ r q f => match f with | .f2 p a c => Bool.rec false (Bool.rec false (q c) (r a)) (decide (o = p)) | _ => false)
    (fun o _ _ _ r q s f => match f with | .f3 p a c d => Bool.rec false (Bool.rec false (Bool.rec false (s d) (q c)) (r a)) (decide (o = p)) | _ => false) e
theorem brec_and {a b : Bool} (h : (Bool.rec false b a : Bool) = true) : a = true ∧ b = true := by
  cases a
  · cases h
  · exact ⟨rfl, h⟩
theorem E.same_eq : ∀ (e f : E), e.same f = true → e = f
  | .va k, f, h => by cases f <;> first | (cases h; done) | (have h : Nat.beq k _ = true := h; rw [Nat.eq_of_beq_eq_true h])
  | .ci k, f, h => by cases f <;> first | (cases h; done) | (have h : decide (k = _) = true := h; rw [of_decide_eq_true h])
  | .cn k, f, h => by cases f <;> first | (cases h; done) | (have h : Nat.beq k _ = true := h; rw [Nat.eq_of_beq_eq_true h])
  | .cb k, f, h => by cases f <;> first | (cases h; done) | (have h : (k == _) = true := h; rw [eq_of_beq h])
  | .cs k, f, h => by cases f <;> first | (cases h; done) | (have h : eqU k _ = true := h; rw [eqU_eq] at h; rw [eq_of_beq h])
  | .cv k, f, h => by cases h
  | .nil, f, h => by cases f <;> first | rfl | (cases h; done)
  | .f1 o a, f, h => by
    cases f <;> first | (cases h; done) | skip
    rename_i p c
    have h : (Bool.rec false (a.same c) (decide (o = p)) : Bool) = true := h
    obtain ⟨h1, h2⟩ := brec_and h
    rw [of_decide_eq_true h1, E.same_eq a c h2]
  | .f2 o a b, f, h => by
    cases f <;> first | (cases h; done) | skip
    rename_i p c d
    have h : (Bool.rec false (Bool.rec false (b.same d) (a.same c) : Bool) (decide (o = p)) : Bool) = true := h
    obtain ⟨h1, h2⟩ := brec_and h
    obtain ⟨h2, h3⟩ := brec_and h2
    rw [of_decide_eq_true h1, E.same_eq a c h2, E.same_eq b d h3]
  | .f3 o a b g, f, h => by
    cases f <;> first | (cases h; done) | skip
    rename_i p c d e
    have h : (Bool.rec false (Bool.rec false (Bool.rec false (g.same e) (b.same d) : Bool) (a.same c) : Bool) (decide (o = p)) : Bool) = true := h
    obtain ⟨h1, h2⟩ := brec_and h
    obtain ⟨h2, h3⟩ := brec_and h2
    obtain ⟨h3, h4⟩ := brec_and h3
    rw [of_decide_eq_true h1, E.same_eq a c h2, E.same_eq b d h3, E.same_eq g e h4]

/-! Values as terms. -/
def ofV1 : V → E
  | .i k n => .f1 (.vi k) (.ci n)
  | .b c => .f1 .vb (.cb c)
  | .s l => .f1 .vs (.cs l)
  | v => .cv v
noncomputable def ofVs (l : List V) : E := List.rec .nil (fun v _ r => .f2 .cons (ofV1 v) r) l
noncomputable def ofV : V → E
  | .agg l => .f1 .agg (ofVs l)
  | .tup l => .f1 .tup (ofVs l)
  | v => ofV1 v
theorem den_ofV1 (σ : List U) (v : V) : ((ofV1 v).den σ).val = v := by cases v <;> rfl
theorem den_ofVs (σ : List U) : ∀ (l : List V), ((ofVs l).den σ).lst = l
  | [] => rfl
  | v :: l => by
    show ((ofV1 v).den σ).val :: ((ofVs l).den σ).lst = _
    rw [den_ofV1, den_ofVs σ l]
theorem den_ofV (σ : List U) (v : V) : ((ofV v).den σ).val = v := by
  cases v with
  | agg l =>
    show V.agg ((ofVs l).den σ).lst = _
    rw [den_ofVs]
  | tup l =>
    show V.tup ((ofVs l).den σ).lst = _
    rw [den_ofVs]
  | _ => rfl
noncomputable def E.items (e : E) : Option (List E) :=
  E.rec (fun _ => none) (fun _ => none) (fun _ => none) (fun _ => none) (fun _ => none) (fun _ => none) (some []) (fun _ _ _ => none)
    (fun o a _ _ q => match (generalizing := false) o, q with | .cons, some l => some (a :: l) | _, _ => none) (fun _ _ _ _ _ _ _ => none) e
theorem E.items_den (σ : List U) : ∀ (e : E) (l : List E), e.items = some l → (e.den σ).lst = l.map fun a => (a.den σ).val
  | .va _, _, h => by cases h
  | .ci _, _, h => by cases h
  | .cn _, _, h => by cases h
  | .cb _, _, h => by cases h
  | .cs _, _, h => by cases h
  | .cv _, _, h => by cases h
  | .nil, l, h => by cases h; rfl
  | .f1 _ _, _, h => by cases h
  | .f3 _ _ _ _, _, h => by cases h
  | .f2 o a c, l, h => by
    have h : (match (generalizing := false) o, c.items with | .cons, some l => some (a :: l) | _, _ => none) = some l := h
    cases hc : c.items with
    | none => rw [hc] at h; cases o <;> cases h
    | some l' =>
      rw [hc] at h
      have : o = .cons := by cases o <;> first | rfl | cases h
      subst this
      cases h
      show (a.den σ).val :: (c.den σ).lst = _
      rw [E.items_den σ c l' hc]
      rfl
noncomputable def toE (l : List E) : E := List.rec .nil (fun v _ r => .f2 .cons v r) l
theorem den_toE (σ : List U) : ∀ (l : List E), ((toE l).den σ).lst = l.map fun a => (a.den σ).val
  | [] => rfl
  | v :: l => by
    show (v.den σ).val :: ((toE l).den σ).lst = _
    rw [den_toE σ l]; rfl
open Go
/-! Heaps in terms: one that is not looked into, blocks in it that are known, and new blocks behind it. -/
structure SB where
  ty : Nat
  cells : E
  kind : BK
structure SH where
  base : E
  sets : List (E × Option SB)
  new : List (Option SB)
@[simp] def SB.den (σ : List U) (b : SB) : Blk := ⟨b.ty, (b.cells.den σ).lst, b.kind⟩
@[simp] def bD (σ : List U) : Option SB → Option Blk
  | some b => some (b.den σ)
  | none => none
@[simp] def setsD (σ : List U) (H : Heap) : List (E × Option SB) → Heap
  | [] => H
  | p :: r => (setsD σ H r).set (p.1.den σ).nat (bD σ p.2)
@[simp] def newD (σ : List U) : Heap → List (Option SB) → Heap
  | H, [] => H
  | H, b :: r => newD σ (H ++ [bD σ b]) r
@[simp] def SH.den (σ : List U) (h : SH) : Heap := newD σ (setsD σ (h.base.den σ).heap h.sets) h.new
structure SH.WF (σ : List U) (h : SH) : Prop where
  lt : ∀ p ∈ h.sets, (p.1.den σ).nat < (h.base.den σ).heap.length
  ne : h.sets.Pairwise fun p q => (p.1.den σ).nat ≠ (q.1.den σ).nat
noncomputable def lookS (n : E) (l : List (E × Option SB)) : Option (Option SB) := List.rec none (fun p _ r => bif p.1.same n then some p.2 else r) l
noncomputable def setS (n : E) (b : Option SB) (l : List (E × Option SB)) : Option (List (E × Option SB)) := List.rec none (fun p t r => bif p.1.same n then some ((p.1, b) :: t) else match r with | some q => some (p :: q) | none => none) l
noncomputable def newIx (h : SH) (n : E) : Option Nat := match n with
  | .f2 .addn (.f1 .hlen b) (.cn j) => bif b.same h.base then some j else none
  | _ => none
noncomputable def SH.look0 (h : SH) (n : E) : Option (Option SB) := match newIx h n with
  | some j => nthU h.new j
  | none => lookS n h.sets
noncomputable def SH.look (h : SH) (n : E) : Option SB := match h.look0 n with
  | some (some b) => some b
  | _ => none
noncomputable def SH.put (h : SH) (n : E) (b : Option SB) : Option SH := match newIx h n with
  | some j => bif Nat.blt j h.new.length then some { h with new := h.new.set j b } else none
  | none => match setS n b h.sets with
    | some l => some { h with sets := l }
    | none => none
noncomputable def SH.add (h : SH) (b : Option SB) : SH := { h with new := h.new ++ [b] }
noncomputable def SH.fresh (h : SH) : E := .f2 .addn (.f1 .hlen h.base) (.cn h.new.length)

theorem setsD_length (σ : List U) (H : Heap) : ∀ l, (setsD σ H l).length = H.length
  | [] => rfl
  | p :: r => by simp [setsD_length σ H r]
theorem newD_eq (σ : List U) : ∀ l H, newD σ H l = H ++ l.map (bD σ)
  | [], H => by simp
  | b :: r, H => by simp [newD_eq σ r]
theorem SH.den_length (σ : List U) (h : SH) : (h.den σ).length = (h.base.den σ).heap.length + h.new.length := by simp [setsD_length, newD_eq]
theorem newIx_some {σ : List U} {h : SH} {n : E} {j : Nat} (e : newIx h n = some j) : (n.den σ).nat = (h.base.den σ).heap.length + j := by
  unfold newIx at e
  split at e
  · rename_i b i
    cases hb : b.same h.base
    · rw [hb] at e; cases e
    · rw [hb] at e
      cases e
      rw [E.same_eq _ _ hb]
      rfl
  · cases e
theorem lookS_at {σ : List U} {H : Heap} {n : E} {b : Option SB} : ∀ {l : List (E × Option SB)}, lookS n l = some b → (∀ p ∈ l, (p.1.den σ).nat < H.length) → (l.Pairwise fun p q => (p.1.den σ).nat ≠ (q.1.den σ).nat) → (∃ c, (n, c) ∈ l) ∧ (setsD σ H l)[(n.den σ).nat]? = some (bD σ b)
  | [], e, _, _ => by cases e
  | p :: r, e, h1, h2 => by
    have e : (bif p.1.same n then some p.2 else lookS n r) = some b := e
    cases hp : p.1.same n
    · rw [hp] at e
      obtain ⟨⟨c, hc⟩, h⟩ := lookS_at (σ := σ) (H := H) e (fun q hq => h1 q (List.mem_cons_of_mem _ hq)) (List.pairwise_cons.1 h2).2
      refine ⟨⟨c, List.mem_cons_of_mem _ hc⟩, ?_⟩
      have := (List.pairwise_cons.1 h2).1 _ hc
      simp only [setsD]
      rw [List.getElem?_set_ne this]
      exact h
    · rw [hp] at e
      cases e
      have hn := E.same_eq _ _ hp
      subst hn
      refine ⟨⟨p.2, List.mem_cons_self ..⟩, ?_⟩
      simp only [setsD]
      rw [List.getElem?_set_self (by rw [setsD_length]; exact h1 p (List.mem_cons_self ..))]
theorem SH.look0_den {σ : List U} {h : SH} {n : E} {b : Option SB} (hw : h.WF σ) (e : h.look0 n = some b) : (h.den σ)[(n.den σ).nat]? = some (bD σ b) := by
  unfold SH.look0 at e
  split at e
  · rename_i j hj
    rw [newIx_some hj]
    rw [nthU_eq] at e
    simp only [SH.den, newD_eq]
    rw [List.getElem?_append_right (by rw [setsD_length]; omega), setsD_length, Nat.add_sub_cancel_left]
    simp [e]
  · have := lookS_at e hw.lt hw.ne
    simp only [SH.den, newD_eq]
    have hlt : (n.den σ).nat < (setsD σ (h.base.den σ).heap h.sets).length := by
      obtain ⟨⟨c, hc⟩, _⟩ := this
      rw [setsD_length]
      exact hw.lt _ hc
    rw [List.getElem?_append_left hlt]
    exact this.2
theorem SH.look_den {σ : List U} {h : SH} {n : E} {b : SB} (hw : h.WF σ) (e : h.look n = some b) : (h.den σ)[(n.den σ).nat]? = some (some (b.den σ)) := by
  unfold SH.look at e
  split at e
  · rename_i b' hb
    cases e
    exact SH.look0_den hw hb
  · cases e
theorem setS_at {σ : List U} {H : Heap} {n : E} {b : Option SB} : ∀ {l l' : List (E × Option SB)}, setS n b l = some l' → (∀ p ∈ l, (p.1.den σ).nat < H.length) → (l.Pairwise fun p q => (p.1.den σ).nat ≠ (q.1.den σ).nat) →
    (∃ c, (n, c) ∈ l) ∧ l'.map (·.1) = l.map (·.1) ∧ setsD σ H l' = (setsD σ H l).set (n.den σ).nat (bD σ b)
  | [], _, e, _, _ => by cases e
  | p :: r, l', e, h1, h2 => by
    have e : (bif p.1.same n then some ((p.1, b) :: r) else match setS n b r with | some q => some (p :: q) | none => none) = some l' := e
    cases hp : p.1.same n
    · rw [hp] at e
      simp only [cond_false] at e
      split at e
      · rename_i q hq
        cases e
        obtain ⟨⟨c, hc⟩, h3, h4⟩ := setS_at (σ := σ) (H := H) hq (fun q hq => h1 q (List.mem_cons_of_mem _ hq)) (List.pairwise_cons.1 h2).2
        refine ⟨⟨c, List.mem_cons_of_mem _ hc⟩, by simp [h3], ?_⟩
        have := (List.pairwise_cons.1 h2).1 _ hc
        simp only [setsD]
        rw [h4, List.set_comm _ _ this]
      · cases e
    · rw [hp] at e
      cases e
      have hn := E.same_eq _ _ hp
      subst hn
      refine ⟨⟨p.2, List.mem_cons_self ..⟩, rfl, ?_⟩
      simp only [setsD, List.set_set]
theorem SH.put_den {σ : List U} {h h' : SH} {n : E} {b : Option SB} (hw : h.WF σ) (e : h.put n b = some h') : h'.WF σ ∧ h'.den σ = (h.den σ).set (n.den σ).nat (bD σ b) := by
  unfold SH.put at e
  split at e
  · rename_i j hj
    cases hl : Nat.blt j h.new.length
    · rw [hl] at e; cases e
    · rw [hl] at e
      cases e
      refine ⟨⟨hw.lt, hw.ne⟩, ?_⟩
      rw [newIx_some hj]
      simp only [SH.den, newD_eq]
      rw [List.set_append_right _ _ (by rw [setsD_length]; omega), setsD_length, Nat.add_sub_cancel_left, List.map_set]
  · split at e
    · rename_i l hl
      cases e
      obtain ⟨⟨c, hc⟩, h3, h4⟩ := setS_at (σ := σ) hl hw.lt hw.ne
      refine ⟨⟨?_, ?_⟩, ?_⟩
      · intro p hp
        have : p.1 ∈ h.sets.map (·.1) := h3 ▸ List.mem_map_of_mem hp
        obtain ⟨q, hq, e⟩ := List.mem_map.1 this
        rw [← e]
        exact hw.lt q hq
      · have k1 : (l.map (·.1)).Pairwise fun a c : E => (a.den σ).nat ≠ (c.den σ).nat := by
          rw [h3, List.pairwise_map]
          exact hw.ne
        rwa [List.pairwise_map] at k1
      · simp only [SH.den, newD_eq]
        rw [h4, List.set_append_left _ _ (by rw [setsD_length]; exact hw.lt _ hc)]
    · cases e
theorem SH.add_den {σ : List U} {h : SH} {b : Option SB} (hw : h.WF σ) : (h.add b).WF σ ∧ (h.add b).den σ = h.den σ ++ [bD σ b] ∧ (h.fresh.den σ).nat = (h.den σ).length := by
  refine ⟨⟨hw.lt, hw.ne⟩, ?_, ?_⟩
  · simp [SH.add, newD_eq]
  · rw [SH.den_length]; rfl
noncomputable def SB.scop (n : Nat) (b : Option SB) : Bool := match b with
  | some b => b.cells.scop n
  | none => true
noncomputable def SH.scop (n : Nat) (h : SH) : Bool := h.base.scop n && h.sets.all (fun p => p.1.scop n && SB.scop n p.2) && h.new.all (SB.scop n)
theorem SB.scop_den {σ τ : List U} {b : Option SB} (h : SB.scop σ.length b = true) : bD (σ ++ τ) b = bD σ b := by
  cases b with
  | none => rfl
  | some b =>
    simp only [bD, SB.den]
    rw [E.scop_den σ τ _ h]
theorem SB.scop_mono {n m : Nat} (hm : n ≤ m) {b : Option SB} (h : SB.scop n b = true) : SB.scop m b = true := by
  cases b with
  | none => rfl
  | some b => exact E.scop_mono hm _ h
theorem SH.scop_den {σ τ : List U} {h : SH} (hs : h.scop σ.length = true) : h.den (σ ++ τ) = h.den σ ∧ (h.WF σ → h.WF (σ ++ τ)) := by
  simp only [SH.scop, Bool.and_eq_true] at hs
  obtain ⟨⟨h1, h2⟩, h3⟩ := hs
  have hp : ∀ p ∈ h.sets, p.1.den (σ ++ τ) = p.1.den σ ∧ bD (σ ++ τ) p.2 = bD σ p.2 := fun p hp => by
    have := List.all_eq_true.1 h2 p hp
    rw [Bool.and_eq_true] at this
    exact ⟨E.scop_den σ τ _ this.1, SB.scop_den this.2⟩
  have e1 : ∀ l : List (E × Option SB), (∀ p ∈ l, p.1.den (σ ++ τ) = p.1.den σ ∧ bD (σ ++ τ) p.2 = bD σ p.2) → ∀ H, setsD (σ ++ τ) H l = setsD σ H l := fun l => by
    induction l with
    | nil => intro _ _; rfl
    | cons p l ih =>
      intro k H
      simp only [setsD]
      rw [ih (fun q hq => k q (List.mem_cons_of_mem _ hq)), (k p (List.mem_cons_self ..)).1, (k p (List.mem_cons_self ..)).2]
  have e2 : ∀ H, newD (σ ++ τ) H h.new = newD σ H h.new := fun H => by
    rw [newD_eq, newD_eq]
    congr 1
    exact List.map_congr_left fun b hb => by rw [SB.scop_den (List.all_eq_true.1 h3 b hb)]
  refine ⟨?_, fun hw => ⟨fun p q => ?_, ?_⟩⟩
  · simp only [SH.den]
    rw [E.scop_den σ τ _ h1, e1 _ hp, e2]
  · rw [(hp p q).1, E.scop_den σ τ _ h1]
    exact hw.lt p q
  · refine List.Pairwise.imp_of_mem ?_ hw.ne
    intro p q h4 h5 h6
    rw [(hp p h4).1, (hp q h5).1]
    exact h6

theorem SH.scop_mono {n m : Nat} (hm : n ≤ m) {h : SH} (hs : h.scop n = true) : h.scop m = true := by
  simp only [SH.scop, Bool.and_eq_true, List.all_eq_true] at hs ⊢
  obtain ⟨⟨h1, h2⟩, h3⟩ := hs
  exact ⟨⟨E.scop_mono hm _ h1, fun p hp => ⟨E.scop_mono hm _ (h2 p hp).1, SB.scop_mono hm (h2 p hp).2⟩⟩, fun b hb => SB.scop_mono hm (h3 b hb)⟩

noncomputable def liveS (l : List (E × Option SB)) : List (E × SB) := List.rec [] (fun p _ r => match p.2 with | some b => (p.1, b) :: r | none => r) l
noncomputable def liveN (base : E) (l : List (Option SB)) : Nat → List (E × SB) := List.rec (motive := fun _ => Nat → List (E × SB)) (fun _ => []) (fun p _ r j => match p with | some b => (.f2 .addn (.f1 .hlen base) (.cn j), b) :: r (j + 1) | none => r (j + 1)) l
noncomputable def SH.live (h : SH) : List (E × SB) := liveS h.sets ++ liveN h.base h.new 0
theorem liveS_mem {p : E × SB} : ∀ {l : List (E × Option SB)}, p ∈ liveS l → (p.1, some p.2) ∈ l
  | [], h => by cases h
  | (n, none) :: r, h => List.mem_cons_of_mem _ (liveS_mem (l := r) h)
  | (n, some b) :: r, h => by
    rcases List.mem_cons.1 (show p ∈ (n, b) :: liveS r from h) with rfl | h
    · exact List.mem_cons_self ..
    · exact List.mem_cons_of_mem _ (liveS_mem h)
theorem liveS_ne {σ : List U} : ∀ {l : List (E × Option SB)}, (l.Pairwise fun p q => (p.1.den σ).nat ≠ (q.1.den σ).nat) → (liveS l).Pairwise fun p q => (p.1.den σ).nat ≠ (q.1.den σ).nat
  | [], _ => .nil
  | (n, none) :: r, h => liveS_ne (l := r) (List.pairwise_cons.1 h).2
  | (n, some b) :: r, h => by
    obtain ⟨h1, h2⟩ := List.pairwise_cons.1 h
    exact List.pairwise_cons.2 ⟨fun q hq => h1 _ (liveS_mem hq), liveS_ne h2⟩
theorem liveN_name {σ : List U} {base : E} {p : E × SB} : ∀ {l : List (Option SB)} {j : Nat}, p ∈ liveN base l j → ∃ i, j ≤ i ∧ (p.1.den σ).nat = (base.den σ).heap.length + i
  | [], _, h => by cases h
  | none :: r, j, h => by
    obtain ⟨i, h1, h2⟩ := liveN_name (σ := σ) (l := r) (j := j + 1) h
    exact ⟨i, by omega, h2⟩
  | some b :: r, j, h => by
    rcases List.mem_cons.1 (show p ∈ (E.f2 .addn (.f1 .hlen base) (.cn j), b) :: liveN base r (j + 1) from h) with rfl | h
    · exact ⟨j, Nat.le_refl _, rfl⟩
    · obtain ⟨i, h1, h2⟩ := liveN_name (σ := σ) h
      exact ⟨i, by omega, h2⟩
theorem liveN_ne {σ : List U} {base : E} : ∀ {l : List (Option SB)} {j : Nat}, (liveN base l j).Pairwise fun p q => (p.1.den σ).nat ≠ (q.1.den σ).nat
  | [], _ => .nil
  | none :: r, j => liveN_ne (l := r) (j := j + 1)
  | some b :: r, j => by
    refine List.pairwise_cons.2 ⟨fun q hq => ?_, liveN_ne⟩
    obtain ⟨i, h1, h2⟩ := liveN_name (σ := σ) hq
    rw [h2]
    show (base.den σ).heap.length + j ≠ _
    omega
theorem SH.live_ne {σ : List U} {h : SH} (hw : h.WF σ) : h.live.Pairwise fun p q => (p.1.den σ).nat ≠ (q.1.den σ).nat := by
  refine List.pairwise_append.2 ⟨liveS_ne hw.ne, liveN_ne, fun p hp q hq => ?_⟩
  have h1 := hw.lt _ (liveS_mem hp)
  obtain ⟨i, _, h2⟩ := liveN_name (σ := σ) hq
  rw [h2]
  simp only at h1
  omega
@[simp] def knownIn (σ : List U) (H : Heap) : List (E × SB) → Prop
  | [] => True
  | p :: r => H[(p.1.den σ).nat]? = some (some (p.2.den σ)) ∧ knownIn σ H r
def withK (n : Nat) (l : List (E × SB)) : SH := ⟨.va n, l.map fun p => (p.1, some p.2), []⟩
theorem setsD_known {σ : List U} {H : Heap} : ∀ {l : List (E × SB)}, knownIn σ H l → setsD σ H (l.map fun p => (p.1, some p.2)) = H
  | [], _ => rfl
  | p :: r, h => by
    simp only [List.map_cons, setsD, bD]
    rw [setsD_known h.2]
    obtain ⟨h1, h2⟩ := List.getElem?_eq_some_iff.1 h.1
    rw [← h2, List.set_getElem_self]
theorem knownIn_mem {σ : List U} {H : Heap} : ∀ {l : List (E × SB)}, knownIn σ H l → ∀ p ∈ l, H[(p.1.den σ).nat]? = some (some (p.2.den σ))
  | [], _, p, hp => by cases hp
  | q :: r, h, p, hp => by
    rcases List.mem_cons.1 hp with rfl | hp
    · exact h.1
    · exact knownIn_mem h.2 p hp
/-! What is known at a place of the code. -/
structure St where
  tm : List (Nat × E)
  h : SH
  nv : Nat
  kn : List (E × Bool)
noncomputable def getE (l : List (Nat × E)) (k : Nat) : Option E := List.rec none (fun p _ r => bif Nat.beq p.1 k then some p.2 else r) l
noncomputable def knows (l : List (E × Bool)) (e : E) : Option Bool := List.rec none (fun p _ r => bif p.1.same e then some p.2 else r) l
theorem getE_mem {k : Nat} {e : E} : ∀ {l : List (Nat × E)}, getE l k = some e → (k, e) ∈ l
  | [], h => by cases h
  | p :: r, h => by
    have h : (bif Nat.beq p.1 k then some p.2 else getE r k) = some e := h
    cases hp : Nat.beq p.1 k
    · rw [hp] at h
      exact List.mem_cons_of_mem _ (getE_mem h)
    · rw [hp] at h
      cases h
      have := Nat.eq_of_beq_eq_true hp
      subst this
      exact List.mem_cons_self ..
theorem getE_cons {l : List (Nat × E)} {k j : Nat} {e e' : E} (h : getE ((j, e') :: l) k = some e) : (j = k ∧ e' = e) ∨ (j ≠ k ∧ getE l k = some e) := by
  have h : (bif Nat.beq j k then some e' else getE l k) = some e := h
  cases hp : Nat.beq j k
  · rw [hp] at h
    exact .inr ⟨Nat.ne_of_beq_eq_false hp, h⟩
  · rw [hp] at h
    cases h
    exact .inl ⟨Nat.eq_of_beq_eq_true hp, rfl⟩
theorem knows_mem {e : E} {y : Bool} : ∀ {l : List (E × Bool)}, knows l e = some y → (e, y) ∈ l
  | [], h => by cases h
  | p :: r, h => by
    have h : (bif p.1.same e then some p.2 else knows r e) = some y := h
    cases hp : p.1.same e
    · rw [hp] at h
      exact List.mem_cons_of_mem _ (knows_mem h)
    · rw [hp] at h
      cases h
      have := E.same_eq _ _ hp
      subst this
      exact List.mem_cons_self ..
structure Holds (w : Nat) (σ : List U) (st : St) (t : Tm) (H : Heap) : Prop where
  wid : t.wid = w
  tm : ∀ k e, getE st.tm k = some e → t.get k = (e.den σ).val
  heap : H = st.h.den σ
  wf : st.h.WF σ
  nv : σ.length = st.nv
  kn : ∀ p ∈ st.kn, (p.1.den σ).boo = p.2
  sc : ∀ p ∈ st.tm, p.2.scop st.nv = true
  sh : st.h.scop st.nv = true
  sk : ∀ p ∈ st.kn, p.1.scop st.nv = true
theorem Holds.more {w : Nat} {σ : List U} {st : St} {t : Tm} {H : Heap} (h : Holds w σ st t H) (us : List U) : Holds w (σ ++ us) { st with nv := st.nv + us.length } t H where
  wid := h.wid
  tm k e he := by
    rw [h.tm k e he, E.scop_den σ us e]
    rw [h.nv]
    exact h.sc _ (getE_mem he)
  heap := by rw [(SH.scop_den (by rw [h.nv]; exact h.sh)).1]; exact h.heap
  wf := (SH.scop_den (by rw [h.nv]; exact h.sh)).2 h.wf
  nv := by simp [h.nv]
  kn p hp := by
    rw [E.scop_den σ us p.1 (by rw [h.nv]; exact h.sk p hp)]
    exact h.kn p hp
  sc p hp := E.scop_mono (Nat.le_add_right _ _) _ (h.sc p hp)
  sh := SH.scop_mono (Nat.le_add_right _ _) h.sh
  sk p hp := E.scop_mono (Nat.le_add_right _ _) _ (h.sk p hp)
open Go
inductive Ask where
  | call (f : Nat) (args : E)
  | ext (f : Nat) (args : E)
  | lookup (ty : Nat) (m k : E) (ok : Bool)
  | load (ty : Nat) (p : E)
inductive SRes where
  | val (x : E)
  | eff (x : E) (h : SH)
  | need (e : E) (r : SRes)
  | ite (e : E) (a b : SRes)
  | ask (q : Ask)
  | pan (x : E)
  | no
section
variable (T : Tab) (call : CallF) (σ : List U) (H : Heap)
@[simp] noncomputable def Ask.den : Ask → OR
  | .call f a => call f (a.den σ).lst H
  | .ext f a => match T.ext f with
    | some F => lift (F (a.den σ).lst) H
    | none => .no
  | .lookup ty m k ok => lift (evLookup T ty (m.den σ).val (k.den σ).val ok H) H
  | .load ty p => lift (loadA T ty H (p.den σ).val) H
def SRes.Ok : SRes → OR → Prop
  | .val e, x => x = .val (e.den σ).val H
  | .eff e h, x => x = .val (e.den σ).val (h.den σ) ∧ h.WF σ
  | .need e r, x => (e.den σ).boo = true → SRes.Ok r x
  | .ite e a b, x => ((e.den σ).boo = true → SRes.Ok a x) ∧ ((e.den σ).boo = false → SRes.Ok b x)
  | .ask q, x => x = q.den T call σ H
  | .pan e, x => x = .pan (e.den σ).val H
  | .no, _ => True
end
noncomputable def fold2 (o : O2) (a c : E) : E := match a, c with
  | .ci m, .ci n => (match o with
    | .add => .ci (m + n)
    | .sub => .ci (m - n)
    | .mul => .ci (m * n)
    | .eqI => .cb (m == n)
    | .neI => .cb (m != n)
    | .ltI => .cb (decide (m < n))
    | .leI => .cb (decide (m ≤ n))
    | .gtI => .cb (decide (m > n))
    | .geI => .cb (decide (m ≥ n))
    | o => .f2 o (.ci m) (.ci n))
  | a, c => .f2 o a c
theorem fold2_den (σ : List U) (o : O2) (a c : E) : (fold2 o a c).den σ = (E.f2 o a c).den σ := by
  unfold fold2
  split
  · split <;> rfl
  · rfl
theorem leE {σ : List U} {a c : E} (h : ((fold2 .leI a c).den σ).boo = true) : (a.den σ).int ≤ (c.den σ).int := by
  rw [fold2_den] at h
  exact of_decide_eq_true h
theorem ltE {σ : List U} {a c : E} (h : ((fold2 .ltI a c).den σ).boo = true) : (a.den σ).int < (c.den σ).int := by
  rw [fold2_den] at h
  exact of_decide_eq_true h
noncomputable def wrapE (k : IntKind) (a : E) : E := match a with
  | .ci n => .ci (k.wrap n)
  | a => .f1 (.wrap k) a
theorem wrapE_den (σ : List U) (k : IntKind) (a : E) : (wrapE k a).den σ = (E.f1 (.wrap k) a).den σ := by
  unfold wrapE
  split <;> rfl
noncomputable def notE (a : E) : E := match a with
  | .cb c => .cb !c
  | .f1 .not c => c
  | a => .f1 .not a
theorem notE_den (σ : List U) (a : E) : ((notE a).den σ).boo = !(a.den σ).boo := by
  unfold notE
  split <;> simp
noncomputable def lenE (a : E) : E := match a with
  | .cs l => .ci l.length
  | a => .f1 .lenS a
theorem lenE_den (σ : List U) (a : E) : (lenE a).den σ = (E.f1 .lenS a).den σ := by
  unfold lenE
  split <;> rfl
theorem kindOf_eq {o : Option V} {k : IntKind} (h : kindOf o k = true) : o = some (.i k (intOf o)) := by
  unfold kindOf at h
  split at h
  · rename_i j n
    have : j = k := of_decide_eq_true h
    subst this
    rfl
  · cases h

/-! Operands. -/
noncomputable def sv (tm : List (Nat × E)) : Operand → Option E
  | .tmp k => getE tm k
  | .const v => match ofVal v with
    | some x => some (ofV x)
    | none => none
  | .global g => some (.cv (.gp g 0))
  | .func f => some (.f1 (.fn f) .nil)
def Sees (σ : List U) (tm : List (Nat × E)) (t : Env) : Prop := ∀ k e, getE tm k = some e → t k = (e.den σ).val
section
variable {T : Tab} {call : CallF} {σ : List U} {H : Heap} {tm : List (Nat × E)} {t : Env}
theorem sv_ok (h : Sees σ tm t) {x : Operand} {e : E} (he : sv tm x = some e) : ev1 t x = some (e.den σ).val := by
  cases x with
  | tmp k => simp only [ev1]; rw [h k e he]
  | const v =>
    simp only [sv] at he
    split at he
    · rename_i x hx
      cases he
      simp only [ev1, hx, den_ofV]
    · cases he
  | global g => cases he; rfl
  | func f => cases he; rfl
noncomputable def svs (tm : List (Nat × E)) : List Operand → Option (List E)
  | [] => some []
  | o :: r => match sv tm o, svs tm r with
    | some x, some l => some (x :: l)
    | _, _ => none
theorem svs_ok (h : Sees σ tm t) : ∀ {l : List Operand} {es : List E}, svs tm l = some es → evs t l = some (es.map fun e => (e.den σ).val)
  | [], _, e => by cases e; rfl
  | o :: r, es, e => by
    simp only [svs] at e
    split at e
    · rename_i x l hx hl
      cases e
      simp only [evs, sv_ok h hx, svs_ok h hl, List.map_cons]
    · cases e

/-! Numbers, texts, bools. -/
noncomputable def parI (op : BinOp) (k : IntKind) (a c : E) : SRes := match a, c with
  | .ci m, .ci n => (match evInt op k m n with
    | some (.i j r) => if j = k then .val (.f1 (.vi k) (.ci r)) else .no
    | _ => .no)
  | a, c => .need (.f2 (.okI op k) a c) (.val (.f1 (.vi k) (.f2 (.opI op k) a c)))
noncomputable def parS (op : BinOp) (k j : IntKind) (a c : E) : SRes := match a, c with
  | .ci m, .ci n => (match evShift op k m j n with
    | some (.i l r) => if l = k then .val (.f1 (.vi k) (.ci r)) else .no
    | _ => .no)
  | a, c => .need (.f2 (.okSh op k j) a c) (.val (.f1 (.vi k) (.f2 (.sh op k j) a c)))
theorem parI_ok (op : BinOp) (k : IntKind) (a c : E) : SRes.Ok T call σ H (parI op k a c) (lift (evInt op k (a.den σ).int (c.den σ).int) H) := by
  unfold parI
  split
  · rename_i m n
    split
    · rename_i j r hr
      split
      · rename_i hj
        subst hj
        simp only [SRes.Ok, E.den, O1.den, U.int_ui, U.val_uv, hr, lift]
      · trivial
    · trivial
  · intro h
    have h := kindOf_eq h
    simp only [SRes.Ok, E.den, O1.den, O2.den, U.int_ui, U.boo_ub, U.val_uv]
    rw [h]
    simp only [lift, intOf_i]
theorem parS_ok (op : BinOp) (k j : IntKind) (a c : E) : SRes.Ok T call σ H (parS op k j a c) (lift (evShift op k (a.den σ).int j (c.den σ).int) H) := by
  unfold parS
  split
  · rename_i m n
    split
    · rename_i l r hr
      split
      · rename_i hl
        subst hl
        simp only [SRes.Ok, E.den, O1.den, U.int_ui, U.val_uv, hr, lift]
      · trivial
    · trivial
  · intro h
    have h := kindOf_eq h
    simp only [SRes.Ok, E.den, O1.den, O2.den, U.int_ui, U.boo_ub, U.val_uv]
    rw [h]
    simp only [lift, intOf_i]
noncomputable def sIntK (op : BinOp) (k : IntKind) (a c : E) : SRes := match op with
  | .add => .val (.f1 (.vi k) (wrapE k (fold2 .add a c)))
  | .sub => .val (.f1 (.vi k) (wrapE k (fold2 .sub a c)))
  | .mul => .val (.f1 (.vi k) (wrapE k (fold2 .mul a c)))
  | .eql => .val (.f1 .vb (fold2 .eqI a c))
  | .neq => .val (.f1 .vb (fold2 .neI a c))
  | .lss => .val (.f1 .vb (fold2 .ltI a c))
  | .leq => .val (.f1 .vb (fold2 .leI a c))
  | .gtr => .val (.f1 .vb (fold2 .gtI a c))
  | .geq => .val (.f1 .vb (fold2 .geI a c))
  | op => parI op k a c
noncomputable def sInt (op : BinOp) (k j : IntKind) (a c : E) : SRes := match op with
  | .shl => parS .shl k j a c
  | .shr => parS .shr k j a c
  | op => if k = j then sIntK op k a c else .no
theorem sIntK_ok (op : BinOp) (k : IntKind) (a c : E) : SRes.Ok T call σ H (sIntK op k a c) (lift (evInt op k (a.den σ).int (c.den σ).int) H) := by
  unfold sIntK
  split
  all_goals first
    | (simp only [SRes.Ok, E.den, fold2_den, wrapE_den, O1.den, O2.den, U.int_ui, U.boo_ub, U.val_uv, evInt, lift]; done)
    | (simp only [SRes.Ok, E.den, fold2_den, wrapE_den, O1.den, O2.den, U.int_ui, U.boo_ub, U.val_uv, evInt, lift]; rfl)
    | exact parI_ok ..
theorem sInt_ok (op : BinOp) (xT : TypeId) (k j : IntKind) (a c : E) : SRes.Ok T call σ H (sInt op k j a c) (lift (evBin T op xT (.i k (a.den σ).int) (.i j (c.den σ).int)) H) := by
  unfold sInt
  split
  · exact parS_ok ..
  · exact parS_ok ..
  · rename_i h1 h2
    split
    · rename_i hk
      subst hk
      have : evBin T op xT (.i k (a.den σ).int) (.i k (c.den σ).int) = evInt op k (a.den σ).int (c.den σ).int := by
        cases op <;> first | exact absurd rfl h1 | exact absurd rfl h2 | simp only [evBin, if_true]
      rw [this]
      exact sIntK_ok op k a c
    · trivial
noncomputable def sStr (op : BinOp) (a c : E) : SRes := match op with
  | .add => .need (fold2 .leI (fold2 .add (lenE a) (lenE c)) (.ci 9223372036854775807)) (.val (.f1 .vs (.f2 .app a c)))
  | .eql => .val (.f1 .vb (.f2 .eqS a c))
  | .neq => .val (.f1 .vb (.f2 .neS a c))
  | .lss => .val (.f1 .vb (.f2 .ltS a c))
  | .leq => .val (.f1 .vb (.f2 .leS a c))
  | .gtr => .val (.f1 .vb (.f2 .gtS a c))
  | .geq => .val (.f1 .vb (.f2 .geS a c))
  | _ => .no
theorem sStr_ok (op : BinOp) (a c : E) : SRes.Ok T call σ H (sStr op a c) (lift (evStr op (a.den σ).str (c.den σ).str) H) := by
  unfold sStr
  split
  · intro h
    simp only [fold2_den, lenE_den, E.den, O2.den, O1.den, U.int_ui, U.boo_ub, leB_true] at h
    have : Nat.ble ((a.den σ).str.length + (c.den σ).str.length) 9223372036854775807 = true := Nat.ble_eq ▸ (by omega)
    simp only [SRes.Ok, evStr, this, if_true, lift, E.den, O1.den, O2.den, U.str_us, U.val_uv]
  all_goals first
    | trivial
    | simp only [SRes.Ok, evStr, lift, E.den, O1.den, O2.den, U.boo_ub, U.val_uv, eqU_eq]
noncomputable def sEq (d : Option TypeDesc) (x y : E) : Option E := match d, x, y with
  | some .bool, .f1 .vb a, .f1 .vb c => some (.f2 .eqB a c)
  | some (.pointer _), .cv .nilp, .cv .nilp => some (.cb true)
  | some (.pointer _), .cv .nilp, .f1 (.ptr _) _ => some (.cb false)
  | some (.pointer _), .f1 (.ptr _) _, .cv .nilp => some (.cb false)
  | some (.slice _), .cv .nils, .cv .nils => some (.cb true)
  | some (.slice _), .cv .emp, .cv .nils => some (.cb false)
  | some (.func ..), .cv .nilf, .cv .nilf => some (.cb true)
  | some (.func ..), .f1 (.fn _) _, .cv .nilf => some (.cb false)
  | some (.interface _), .cv .nili, .f1 (.ifc _) _ => some (.cb false)
  | some (.interface _), .f1 (.ifc _) _, .cv .nili => some (.cb false)
  | _, _, _ => none
theorem sEq_ok {xT : TypeId} {x y e : E} (h : sEq (T.und xT) x y = some e) : evEqT T xT (x.den σ).val (y.den σ).val = some (e.den σ).boo ∧ ((∀ k n, (x.den σ).val ≠ .i k n) ∧ (∀ l, (x.den σ).val ≠ .s l)) ∧ ((x.den σ).val = .nili → (y.den σ).val ≠ .nili) := by
  generalize hd : T.und xT = d at h
  unfold sEq at h
  split at h
  all_goals first
    | (cases h; done)
    | (cases h
       simp [evEqT, hd, evEq])
noncomputable def sBin (T : Tab) (op : BinOp) (xT : TypeId) (yo : Operand) (x y : E) : SRes := match x, y with
  | .f1 (.vi k) a, .f1 (.vi j) c => sInt op k j a c
  | .f1 .vs a, .f1 .vs c => sStr op a c
  | .cv .nili, .cv .nili => match yo, T.und xT, op with
    | .const _, some (.interface _), .eql => .val (.f1 .vb (.cb true))
    | .const _, some (.interface _), .neq => .val (.f1 .vb (.cb false))
    | _, _, _ => .no
  | .f1 (.ptr o) n, .f1 (.ptr q) m => (match T.und xT with
    | some (.pointer e) => (match T.size e with
      | some z => if z ≠ 0 ∧ n.same m = true then (match op with
        | .eql => .val (.f1 .vb (.cb (Nat.beq o q)))
        | .neq => .val (.f1 .vb (.cb (!Nat.beq o q)))
        | _ => .no) else .no
      | none => .no)
    | _ => .no)
  | x, y => match sEq (T.und xT) x y with
    | some e => (match op with
      | .eql => .val (.f1 .vb e)
      | .neq => .val (.f1 .vb (notE e))
      | _ => .no)
    | none => .no
theorem sBin_ok (op : BinOp) (xT : TypeId) (yo : Operand) (x y : E) : SRes.Ok T call σ H (sBin T op xT yo x y) (lift (evBinO T op xT yo (x.den σ).val (y.den σ).val) H) := by
  unfold sBin
  split
  · exact sInt_ok op xT _ _ _ _
  · exact sStr_ok op _ _
  · split
    · rename_i h
      simp [SRes.Ok, evBinO, h, lift]
    · rename_i h
      simp [SRes.Ok, evBinO, h, lift]
    · trivial
  · rename_i o n q m
    split
    · rename_i e hu
      split
      · rename_i z hz
        split
        · rename_i hc
          obtain ⟨h1, h2⟩ := hc
          have h2 := E.same_eq _ _ h2
          subst h2
          have e1 : evEqT T xT (.ptr (n.den σ).nat o) (.ptr (n.den σ).nat q) = some (Nat.beq o q) := by
            simp only [evEqT, hu, hz]
            rw [if_pos ⟨h1, trivial⟩, beq_dec]
            rfl
          split
          · show _ = _
            simp only [E.den, O1.den, U.val_uv, U.boo_ub, evBinO, evBin, e1, Option.map_some, lift]
          · show _ = _
            simp only [E.den, O1.den, U.val_uv, U.boo_ub, evBinO, evBin, e1, Option.map_some, lift]
          · trivial
        · trivial
      · trivial
    · trivial
  · split
    · rename_i e he
      obtain ⟨h1, ⟨h2, h3⟩, h4⟩ := sEq_ok (σ := σ) he
      have key : ∀ op, evBinO T op xT yo (x.den σ).val (y.den σ).val = evBin T op xT (x.den σ).val (y.den σ).val := fun op => by
        cases hx : (x.den σ).val <;> cases hy : (y.den σ).val <;> first | rfl | (exact absurd hy (h4 hx)) | (cases yo <;> rfl)
      have key2 : evBin T .eql xT (x.den σ).val (y.den σ).val = some (.b (e.den σ).boo) := by
        have e1 : evBin T .eql xT (x.den σ).val (y.den σ).val = (evEqT T xT (x.den σ).val (y.den σ).val).map .b := by
          cases hx : (x.den σ).val <;> first | exact absurd hx (h2 _ _) | exact absurd hx (h3 _) | rfl
        rw [e1, h1]; rfl
      have key3 : evBin T .neq xT (x.den σ).val (y.den σ).val = some (.b !(e.den σ).boo) := by
        have e1 : evBin T .neq xT (x.den σ).val (y.den σ).val = (evEqT T xT (x.den σ).val (y.den σ).val).map fun r => .b !r := by
          cases hx : (x.den σ).val <;> first | exact absurd hx (h2 _ _) | exact absurd hx (h3 _) | rfl
        rw [e1, h1]; rfl
      split
      · rw [key, key2]; rfl
      · rw [key, key3]
        simp only [SRes.Ok, lift, E.den, notE_den, O1.den, U.boo_ub, U.val_uv]
      · trivial
    · trivial
noncomputable def sUn (op : UnOp) (x : E) : SRes := match op, x with
  | .not, .f1 .vb a => .val (.f1 .vb (notE a))
  | .neg, .f1 (.vi k) a => .val (.f1 (.vi k) (wrapE k (fold2 .sub (.ci 0) a)))
  | .xor, .f1 (.vi k) a => .need (.f2 (.okI .xor k) (.ci (if k.signed then -1 else k.max)) a) (.val (.f1 (.vi k) (.f2 (.opI .xor k) (.ci (if k.signed then -1 else k.max)) a)))
  | _, _ => .no
theorem sUn_ok (op : UnOp) (x : E) : SRes.Ok T call σ H (sUn op x) (lift (evUn op (x.den σ).val) H) := by
  unfold sUn
  split
  · simp only [SRes.Ok, E.den, notE_den, O1.den, U.boo_ub, U.val_uv, evUn, lift]
  · simp only [SRes.Ok, E.den, wrapE_den, fold2_den, O1.den, O2.den, U.int_ui, U.val_uv, evUn, lift]
  · rename_i k a
    intro h
    have h := kindOf_eq (o := evInt .xor k (if k.signed then -1 else k.max) (a.den σ).int) (k := k) h
    simp only [SRes.Ok, E.den, O1.den, O2.den, U.int_ui, U.val_uv, evUn]
    rw [h]
    simp only [lift, intOf_i]
  · trivial
noncomputable def sConv (T : Tab) (src dst : TypeId) (x : E) : SRes := match x with
  | .f1 (.vi k) a => (match T.und src, T.und dst with
    | some _, some (.int j) => .val (.f1 (.vi j) (wrapE j a))
    | some _, some .string => .val (.f1 .vs (.f1 .enc a))
    | _, _ => .no)
  | .f1 .vs a => (match T.und src, T.und dst with
    | some _, some .string => .val (.f1 .vs a)
    | _, _ => .no)
  | _ => .no
theorem sConv_ok (src dst : TypeId) (x : E) : SRes.Ok T call σ H (sConv T src dst x) (evConvO T src dst (x.den σ).val H) := by
  unfold sConv
  split
  · split
    · rename_i hs hd
      simp only [E.den, O1.den, U.val_uv, evConvO, evConvH, evConv, hs, hd, SRes.Ok, lift, wrapE_den, U.int_ui]
      try (split <;> simp_all)
    · rename_i hs hd
      simp only [E.den, O1.den, U.val_uv, evConvO, evConvH, evConv, hs, hd, SRes.Ok, lift, U.int_ui, U.str_us]
      try (split <;> simp_all)
    · trivial
  · split
    · rename_i hs hd
      simp only [E.den, O1.den, U.val_uv, evConvO, evConvH, evConv, hs, hd, SRes.Ok, lift, U.str_us]
      try (split <;> simp_all)
    · trivial
  · trivial
end
end Go.Ev
