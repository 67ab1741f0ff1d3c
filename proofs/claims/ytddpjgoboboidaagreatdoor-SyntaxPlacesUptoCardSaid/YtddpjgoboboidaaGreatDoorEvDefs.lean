/- The evaluator: what the regions and functions of a program compute on values without places, as a plain function. -/
import Derived.WalkKit
import Derived.Shelf.Abstract
namespace Go.Ev
open Go
noncomputable section

/-- Abstract values. -/
inductive V where
  | i (k : IntKind) (n : Int)
  | b (x : Bool)
  | s (l : List UInt8)
  | agg (l : List V)
  | tup (l : List V)
  | nilp | nils | nilf | nili | nilm
  | ptr (n off : Nat)
  | sl (n sz off len : Nat) (cap : Option Nat)
  | emp
  | fn (g : Nat) (cap : List V)
  | ifc (t : Nat) (v : V)
  | isl (sz : Nat) (l : List V)
  | ipt (sz : Nat) (l : List V) (i off : Nat)
  | gp (g off : Nat)
  | mp (n : Nat)
  | yld (l : Nat)
  deriving Inhabited

/-- What an untouched temporary holds. -/
abbrev V.un : V := .tup []

def V.cells : V → List V
  | .agg l => l
  | v => [v]

def V.isAgg : V → Bool
  | .agg _ => true
  | _ => false

/-- What a block is: cells, all of them known; cells, with others behind that nobody has seen; a map, its keys and values in turn. -/
inductive BK where
  | all | more | map
  deriving DecidableEq
structure Blk where
  ty : Nat
  cells : List V
  kind : BK

abbrev Heap := List (Option Blk)
/-- What the temporaries hold. -/
abbrev Env := Nat → V

/-! Data laid open before it is handed on: for the kernel's reckoning. Each is the identity. -/
section
variable {α : Type}
noncomputable def fN (n : Nat) (k : Nat → α) : α := Nat.rec (k 0) (fun m _ => k (m + 1)) n
noncomputable def fI (n : Int) (k : Int → α) : α := Int.rec (fun m => fN m fun m => k (.ofNat m)) (fun m => fN m fun m => k (.negSucc m)) n
noncomputable def fU (c : UInt8) (k : UInt8 → α) : α := fN c.toNat fun m => k (UInt8.ofNat m)
noncomputable def fUs (l : List UInt8) : (List UInt8 → α) → α :=
  List.rec (motive := fun _ => (List UInt8 → α) → α) (fun k => k []) (fun c _ ih k => fU c fun c => ih fun l => k (c :: l)) l
noncomputable def fV (v : V) : (V → α) → α :=
  V.rec (motive_1 := fun _ => (V → α) → α) (motive_2 := fun _ => (List V → α) → α)
    (fun j n k => fI n fun n => k (.i j n)) (fun x k => Bool.rec (k (.b false)) (k (.b true)) x) (fun l k => fUs l fun l => k (.s l))
    (fun _ ih k => ih fun l => k (.agg l)) (fun _ ih k => ih fun l => k (.tup l)) (fun k => k .nilp) (fun k => k .nils) (fun k => k .nilf) (fun k => k .nili) (fun k => k .nilm)
    (fun n o k => fN n fun n => fN o fun o => k (.ptr n o))
    (fun n z o l c k => fN n fun n => fN o fun o => fN l fun l => Option.rec (k (.sl n z o l none)) (fun c => fN c fun c => k (.sl n z o l (some c))) c)
    (fun k => k .emp) (fun g _ ih k => ih fun l => k (.fn g l)) (fun t _ ih k => ih fun v => k (.ifc t v)) (fun z _ ih k => ih fun l => k (.isl z l))
    (fun z _ j o ih k => ih fun l => fN j fun j => fN o fun o => k (.ipt z l j o)) (fun g o k => fN o fun o => k (.gp g o)) (fun n k => fN n fun n => k (.mp n)) (fun n k => k (.yld n))
    (fun k => k []) (fun _ _ ih ihl k => ih fun v => ihl fun l => k (v :: l)) v
noncomputable def fVs (l : List V) : (List V → α) → α := List.rec (motive := fun _ => (List V → α) → α) (fun k => k []) (fun v _ ihl k => fV v fun v => ihl fun l => k (v :: l)) l
theorem fN_eq (n : Nat) (k : Nat → α) : fN n k = k n := by cases n <;> rfl
theorem fI_eq (n : Int) (k : Int → α) : fI n k = k n := by
  cases n with
  | ofNat m => show fN m (fun m => k (.ofNat m)) = _; rw [fN_eq]
  | negSucc m => show fN m (fun m => k (.negSucc m)) = _; rw [fN_eq]
theorem fU_eq (c : UInt8) (k : UInt8 → α) : fU c k = k c := by simp [fU, fN_eq]
theorem fUs_eq : ∀ (l : List UInt8) (k : List UInt8 → α), fUs l k = k l
  | [], _ => rfl
  | c :: l, k => by
    show fU c (fun c => fUs l fun l => k (c :: l)) = _
    rw [fU_eq, fUs_eq l]
mutual
theorem fV_eq : ∀ (v : V) (k : V → α), fV v k = k v
  | .i j n, k => by show fI n (fun n => k (.i j n)) = _; rw [fI_eq]
  | .b x, k => by cases x <;> rfl
  | .s l, k => by show fUs l (fun l => k (.s l)) = _; rw [fUs_eq]
  | .agg l, k => fVs2_eq l (fun l => k (.agg l))
  | .tup l, k => fVs2_eq l (fun l => k (.tup l))
  | .ptr n o, k => by show fN n (fun n => fN o fun o => k (.ptr n o)) = _; rw [fN_eq, fN_eq]
  | .sl n z o l c, k => by
    show fN n (fun n => fN o fun o => fN l fun l => Option.rec (motive := fun _ => α) (k (.sl n z o l none)) (fun c => fN c fun c => k (.sl n z o l (some c))) c) = _
    rw [fN_eq, fN_eq, fN_eq]
    cases c with
    | none => rfl
    | some c => show fN c (fun c => k (.sl n z o l (some c))) = _; rw [fN_eq]
  | .fn g l, k => fVs2_eq l (fun l => k (.fn g l))
  | .ifc t v, k => fV_eq v (fun v => k (.ifc t v))
  | .isl z l, k => fVs2_eq l (fun l => k (.isl z l))
  | .ipt z l j o, k => (fVs2_eq l (fun l => fN j fun j => fN o fun o => k (.ipt z l j o))).trans (by rw [fN_eq, fN_eq])
  | .gp g o, k => by show fN o (fun o => k (.gp g o)) = _; rw [fN_eq]
  | .mp n, k => by show fN n (fun n => k (.mp n)) = _; rw [fN_eq]
  | .yld n, k => rfl
  | .nilp, k => rfl
  | .nils, k => rfl
  | .nilf, k => rfl
  | .nili, k => rfl
  | .nilm, k => rfl
  | .emp, k => rfl
theorem fVs2_eq : ∀ (l : List V) (k : List V → α), (V.rec_1 (motive_1 := fun _ => (V → α) → α) (motive_2 := fun _ => (List V → α) → α)
    (fun j n k => fI n fun n => k (.i j n)) (fun x k => Bool.rec (k (.b false)) (k (.b true)) x) (fun l k => fUs l fun l => k (.s l))
    (fun _ ih k => ih fun l => k (.agg l)) (fun _ ih k => ih fun l => k (.tup l)) (fun k => k .nilp) (fun k => k .nils) (fun k => k .nilf) (fun k => k .nili) (fun k => k .nilm)
    (fun n o k => fN n fun n => fN o fun o => k (.ptr n o))
    (fun n z o l c k => fN n fun n => fN o fun o => fN l fun l => Option.rec (k (.sl n z o l none)) (fun c => fN c fun c => k (.sl n z o l (some c))) c)
    (fun k => k .emp) (fun g _ ih k => ih fun l => k (.fn g l)) (fun t _ ih k => ih fun v => k (.ifc t v)) (fun z _ ih k => ih fun l => k (.isl z l))
    (fun z _ j o ih k => ih fun l => fN j fun j => fN o fun o => k (.ipt z l j o)) (fun g o k => fN o fun o => k (.gp g o)) (fun n k => fN n fun n => k (.mp n)) (fun n k => k (.yld n))
    (fun k => k []) (fun _ _ ih ihl k => ih fun v => ihl fun l => k (v :: l)) l : (List V → α) → α) k = k l
  | [], _ => rfl
  | v :: l, k => (fV_eq v _).trans (fVs2_eq l (fun l => k (v :: l)))
end
theorem fVs_eq : ∀ (l : List V) (k : List V → α), fVs l k = k l
  | [], _ => rfl
  | v :: l, k => (fV_eq v _).trans (fVs_eq l (fun l => k (v :: l)))
/-- A list's spine laid open. -/
def fSp {β : Type} (l : List β) : (List β → α) → α := List.rec (motive := fun _ => (List β → α) → α) (fun k => k []) (fun v _ ih k => ih fun l => k (v :: l)) l
theorem fSp_eq {β : Type} : ∀ (l : List β) (k : List β → α), fSp l k = k l
  | [], _ => rfl
  | v :: l, k => fSp_eq l (fun l => k (v :: l))
def tlU {β : Type} (l : List β) : List β := List.rec [] (fun _ r _ => r) l
def drop16 {β : Type} (l : List β) : List β := tlU <| tlU <| tlU <| tlU <| tlU <| tlU <| tlU <| tlU <| tlU <| tlU <| tlU <| tlU <| tlU <| tlU <| tlU <| tlU l
def blkU {β : Type} (q : Nat) (l : List β) : List β := Nat.rec l (fun _ ih => drop16 ih) q
def dropR {β : Type} (n : Nat) (l : List β) : List β := Nat.rec l (fun _ ih => tlU ih) n
def dropU {β : Type} (n : Nat) (l : List β) : List β := dropR (n % 16) (blkU (n / 16) l)
def nthU {β : Type} (l : List β) (n : Nat) : Option β := List.rec none (fun x _ _ => some x) (dropU n l)
theorem tlU_eq {β : Type} (l : List β) : tlU l = l.drop 1 := by cases l <;> rfl
theorem drop16_eq {β : Type} (l : List β) : drop16 l = l.drop 16 := by simp only [drop16, tlU_eq, List.drop_drop]
theorem blkU_eq {β : Type} : ∀ (q : Nat) (l : List β), blkU q l = l.drop (16 * q)
  | 0, l => rfl
  | q + 1, l => by
    show drop16 (blkU q l) = _
    rw [drop16_eq, blkU_eq q, List.drop_drop]
    congr 1
theorem dropR_eq {β : Type} : ∀ (n : Nat) (l : List β), dropR n l = l.drop n
  | 0, l => rfl
  | n + 1, l => by
    show tlU (dropR n l) = _
    rw [tlU_eq, dropR_eq n, List.drop_drop]
theorem dropU_eq {β : Type} (n : Nat) (l : List β) : dropU n l = l.drop n := by
  rw [dropU, dropR_eq, blkU_eq, List.drop_drop]
  congr 1
  omega
theorem nthU_eq {β : Type} (l : List β) (n : Nat) : nthU l n = l[n]? := by
  rw [nthU, dropU_eq, ← List.head?_drop]
  cases l.drop n <;> rfl
def takeU {β : Type} (l : List β) : Nat → List β := List.rec (motive := fun _ => Nat → List β) (fun _ => []) (fun x _ ih n => Nat.rec [] (fun m _ => x :: ih m) n) l
theorem takeU_eq {β : Type} : ∀ (l : List β) (n : Nat), takeU l n = l.take n
  | [], n => by cases n <;> rfl
  | x :: l, 0 => rfl
  | x :: l, n + 1 => by
    show x :: takeU l n = _
    rw [takeU_eq l n]
    rfl
/-- From one place to another. -/
def subU {β : Type} (l : List β) (k h : Nat) : List β := takeU (dropU k l) (h - k)
theorem subU_eq {β : Type} (l : List β) (k h : Nat) : subU l k h = (l.take h).drop k := by
  rw [subU, takeU_eq, dropU_eq, List.drop_take]
/-- Strings told apart. -/
def eqU (a : List UInt8) : List UInt8 → Bool :=
  List.rec (motive := fun _ => List UInt8 → Bool) (fun b => List.rec true (fun _ _ _ => false) b) (fun c _ ih b => List.rec false (fun d r _ => Bool.rec false (ih r) (Nat.beq c.toNat d.toNat)) b) a
theorem eqU_eq : ∀ (a b : List UInt8), eqU a b = (a == b)
  | [], [] => rfl
  | [], _ :: _ => rfl
  | _ :: _, [] => rfl
  | c :: a, d :: b => by
    show (Bool.rec false (eqU a b) (Nat.beq c.toNat d.toNat) : Bool) = _
    rw [eqU_eq a b, List.cons_beq_cons]
    cases h : Nat.beq c.toNat d.toNat
    · have : ¬ c = d := fun e => by subst e; rw [Nat.beq_refl] at h; cases h
      have h2 : (c == d) = false := by simpa using this
      rw [h2]; rfl
    · have : c = d := UInt8.toNat_inj.1 (Nat.eq_of_beq_eq_true h)
      subst this
      simp
/-- A list with another element. -/
noncomputable def setK {β : Type} (l : List β) : Nat → β → (List β → α) → α :=
  List.rec (motive := fun _ => Nat → β → (List β → α) → α) (fun _ _ k => k []) (fun x r ih n v k => Nat.rec (k (v :: r)) (fun m _ => ih m v fun r => k (x :: r)) n) l
theorem setK_eq {β : Type} : ∀ (l : List β) (n : Nat) (v : β) (k : List β → α), setK l n v k = k (l.set n v)
  | [], _, _, _ => rfl
  | _ :: _, 0, _, _ => rfl
  | x :: r, n + 1, v, k => (setK_eq r n v fun r => k (x :: r)).trans (by simp)
/-- A list with one element more. -/
noncomputable def addK {β : Type} (l : List β) (v : β) : (List β → α) → α :=
  List.rec (motive := fun _ => (List β → α) → α) (fun k => k [v]) (fun x _ ih k => ih fun r => k (x :: r)) l
theorem addK_eq {β : Type} : ∀ (l : List β) (v : β) (k : List β → α), addK l v k = k (l ++ [v])
  | [], _, _ => rfl
  | x :: r, v, k => (addK_eq r v fun r => k (x :: r)).trans (by simp)
end

/-- Tables: what is known of the program's types, variables and functions. -/
structure Tab where
  und : TypeId → Option TypeDesc
  size : TypeId → Option Nat
  zero : TypeId → Option V
  bytes : TypeId → Option Nat
  glob : Nat → Option (List V)
  func : FuncId → Option Func
  ext : FuncId → Option (List V → Option V)
  lies : TypeId → Nat → Nat → TypeId → Bool

inductive OR where
  | val (v : V) (H : Heap)
  | pan (v : V) (H : Heap)
  | no
  deriving Inhabited

/-- The block of cells with a name. -/
def cellsAt (H : Heap) (n : Nat) : Option Blk :=
  match H[n]? with
  | some (some blk) => if blk.kind = .map then none else some blk
  | _ => none

/-- A new block; a block turned. -/
def newB (v : V) (H : Heap) (blk : Blk) : OR := fSp blk.cells fun cs => addK H (some { blk with cells := cs }) fun H' => .val v H'
def setB (v : V) (H : Heap) (n : Nat) (blk : Blk) : OR := fSp blk.cells fun cs => setK H n (some { blk with cells := cs }) fun H' => .val v H'
theorem newB_eq (v : V) (H : Heap) (blk : Blk) : newB v H blk = .val v (H ++ [some blk]) := by simp [newB, fSp_eq, addK_eq]
theorem setB_eq (v : V) (H : Heap) (n : Nat) (blk : Blk) : setB v H n blk = .val v (H.set n (some blk)) := by simp [setB, fSp_eq, setK_eq]

def ofSc : Value → Option V
  | .int k n => some (.i k n)
  | .bool x => some (.b x)
  | .string s => some (.s s.data.toList)
  | .pointer none => some .nilp
  | .slice none 0 0 => some .nils
  | .nilFunc => some .nilf
  | .nilIface => some .nili
  | .map none => some .nilm
  | .func (.func f) ⟨[]⟩ ⟨[]⟩ => some (.fn f [])
  | .tuple ⟨[]⟩ => some .un
  | _ => none

def ofScs : List Value → Option (List V)
  | [] => some []
  | v :: r => match ofSc v, ofScs r with
    | some x, some l => some (x :: l)
    | _, _ => none

def ofVal (v : Value) : Option V :=
  match v with
  | .agg cs => (ofScs cs.toList).map .agg
  | v => ofSc v

def ev1 (t : Env) : Operand → Option V
  | .tmp k => some (t k)
  | .const v => ofVal v
  | .global g => some (.gp g 0)
  | .func f => some (.fn f [])

def evs (t : Env) : List Operand → Option (List V)
  | [] => some []
  | o :: r => match ev1 t o, evs t r with
    | some x, some l => some (x :: l)
    | _, _ => none

def put (t : Env) (dst : Option Tmp) (v : V) : Env :=
  match dst with
  | some d => fun k => if k = d then v else t k
  | none => t

/-- The temporaries as a tree: for the kernel's reckoning. -/
inductive Tr where
  | leaf
  | node (v : V) (l r : Tr)
  deriving Inhabited
noncomputable def Tr.get (t : Tr) : Nat → V :=
  Tr.rec (motive := fun _ => Nat → V) (fun _ => .un) (fun v _ _ gl gr n => Bool.rec (Bool.rec (gr ((n - 1) / 2)) (gl ((n - 1) / 2)) (Nat.beq (n % 2) 1)) v (Nat.beq n 0)) t
theorem bool_rec {α : Type} (b : Bool) (x y : α) : (Bool.rec x y b : α) = bif b then y else x := by cases b <;> rfl
theorem Tr.get_leaf (n : Nat) : Tr.leaf.get n = .un := rfl
theorem Tr.get_node (v : V) (l r : Tr) (n : Nat) : (Tr.node v l r).get n = bif Nat.beq n 0 then v else bif Nat.beq (n % 2) 1 then l.get ((n - 1) / 2) else r.get ((n - 1) / 2) := by
  rw [← bool_rec, ← bool_rec]; rfl
def Tr.single (v : V) : Nat → Nat → Tr
  | 0, _ => .node v .leaf .leaf
  | f + 1, n => bif Nat.beq n 0 then .node v .leaf .leaf else bif Nat.beq (n % 2) 1 then .node .un (single v f ((n - 1) / 2)) .leaf else .node .un .leaf (single v f ((n - 1) / 2))
noncomputable def Tr.setK {α : Type} (t : Tr) : Nat → V → (Tr → α) → α :=
  Tr.rec (motive := fun _ => Nat → V → (Tr → α) → α) (fun n v k => k (.single v n n)) (fun w l r sl sr n v k => Bool.rec (Bool.rec (sr ((n - 1) / 2) v fun r => k (.node w l r)) (sl ((n - 1) / 2) v fun l => k (.node w l r)) (Nat.beq (n % 2) 1)) (k (.node v l r)) (Nat.beq n 0)) t
theorem Tr.setK_leaf {α : Type} (n : Nat) (v : V) (k : Tr → α) : Tr.leaf.setK n v k = k (.single v n n) := rfl
theorem Tr.setK_node {α : Type} (w : V) (l r : Tr) (n : Nat) (v : V) (k : Tr → α) : (Tr.node w l r).setK n v k = bif Nat.beq n 0 then k (.node v l r) else bif Nat.beq (n % 2) 1 then l.setK ((n - 1) / 2) v fun l => k (.node w l r) else r.setK ((n - 1) / 2) v fun r => k (.node w l r) := by
  rw [← bool_rec, ← bool_rec]; rfl
noncomputable def Tr.set (t : Tr) (n : Nat) (v : V) : Tr := t.setK n v id
theorem Tr.setK_eq {α : Type} : ∀ (t : Tr) (n : Nat) (v : V) (k : Tr → α), t.setK n v k = k (t.set n v)
  | .leaf, n, v, k => rfl
  | .node w l r, n, v, k => by
    simp only [Tr.set, Tr.setK_node]
    cases Nat.beq n 0
    · cases Nat.beq (n % 2) 1
      · simp only [cond_false]; rw [Tr.setK_eq r, Tr.setK_eq r]; rfl
      · simp only [cond_true, cond_false]; rw [Tr.setK_eq l, Tr.setK_eq l]; rfl
    · rfl
theorem beq_dec (a b : Nat) : Nat.beq a b = decide (a = b) := by
  cases h : Nat.beq a b
  · exact (decide_eq_false (fun e => by have := Nat.ne_of_beq_eq_false h; exact this e)).symm
  · exact (decide_eq_true (Nat.eq_of_beq_eq_true h)).symm
theorem Tr.get_single (v : V) : ∀ (f n k : Nat), n ≤ f → (Tr.single v f n).get k = if k = n then v else .un
  | 0, n, k, h => by
    have : n = 0 := by omega
    subst this
    simp only [Tr.single, Tr.get_node, Tr.get_leaf, beq_dec]
    by_cases hk : k = 0 <;> simp [hk]
  | f + 1, n, k, h => by
    simp only [Tr.single, beq_dec]
    by_cases hn : n = 0
    · subst hn
      simp only [decide_true, cond_true, Tr.get_node, Tr.get_leaf, beq_dec]
      by_cases hk : k = 0 <;> simp [hk]
    · have ih := Tr.get_single v f ((n - 1) / 2) ((k - 1) / 2) (by omega)
      simp only [decide_eq_false hn, cond_false]
      by_cases hm : n % 2 = 1
      · simp only [decide_eq_true hm, cond_true, Tr.get_node, Tr.get_leaf, beq_dec]
        by_cases hk : k = 0
        · simp only [decide_eq_true hk, cond_true]
          rw [if_neg (by omega)]
        · simp only [decide_eq_false hk, cond_false]
          by_cases hj : k % 2 = 1
          · simp only [decide_eq_true hj, cond_true]
            rw [ih]
            by_cases e : k = n
            · rw [if_pos e, if_pos (by omega)]
            · rw [if_neg e, if_neg (by omega)]
          · simp only [decide_eq_false hj, cond_false]
            rw [if_neg (by omega)]
      · simp only [decide_eq_false hm, cond_false, Tr.get_node, Tr.get_leaf, beq_dec]
        by_cases hk : k = 0
        · simp only [decide_eq_true hk, cond_true]
          rw [if_neg (by omega)]
        · simp only [decide_eq_false hk, cond_false]
          by_cases hj : k % 2 = 1
          · simp only [decide_eq_true hj, cond_true]
            rw [if_neg (by omega)]
          · simp only [decide_eq_false hj, cond_false]
            rw [ih]
            by_cases e : k = n
            · rw [if_pos e, if_pos (by omega)]
            · rw [if_neg e, if_neg (by omega)]
theorem Tr.get_set (v : V) : ∀ (t : Tr) (n k : Nat), (t.set n v).get k = if k = n then v else t.get k
  | .leaf, n, k => by
    show (Tr.single v n n).get k = _
    rw [Tr.get_single v n n k (Nat.le_refl _)]
    rfl
  | .node w l r, n, k => by
    simp only [Tr.set, Tr.setK_node, beq_dec]
    by_cases hn : n = 0
    · subst hn
      simp only [decide_true, cond_true, id, Tr.get_node, beq_dec]
      by_cases hk : k = 0 <;> simp [hk]
    · simp only [decide_eq_false hn, cond_false]
      by_cases hm : n % 2 = 1
      · simp only [decide_eq_true hm, cond_true]
        rw [Tr.setK_eq]
        simp only [id, Tr.get_node, beq_dec]
        by_cases hk : k = 0
        · simp only [decide_eq_true hk, cond_true]
          rw [if_neg (by omega)]
        · simp only [decide_eq_false hk, cond_false]
          by_cases hj : k % 2 = 1
          · simp only [decide_eq_true hj, cond_true]
            rw [Tr.get_set v l]
            by_cases e : k = n
            · rw [if_pos e, if_pos (by omega)]
            · rw [if_neg e, if_neg (by omega)]
          · simp only [decide_eq_false hj, cond_false]
            rw [if_neg (by omega)]
      · simp only [decide_eq_false hm, cond_false]
        rw [Tr.setK_eq]
        simp only [id, Tr.get_node, beq_dec]
        by_cases hk : k = 0
        · simp only [decide_eq_true hk, cond_true]
          rw [if_neg (by omega)]
        · simp only [decide_eq_false hk, cond_false]
          by_cases hj : k % 2 = 1
          · simp only [decide_eq_true hj, cond_true]
            rw [if_neg (by omega)]
          · simp only [decide_eq_false hj, cond_false]
            rw [Tr.get_set v r]
            by_cases e : k = n
            · rw [if_pos e, if_pos (by omega)]
            · rw [if_neg e, if_neg (by omega)]

/-- The temporaries, and how many there are. -/
structure Tm where
  wid : Nat
  tr : Tr
  deriving Inhabited
def Tm.get (t : Tm) : Env := t.tr.get
def Tm.put (t : Tm) (dst : Option Tmp) (v : V) : Tm :=
  match dst with
  | some d => ⟨t.wid, t.tr.set d v⟩
  | none => t
def Tm.fits (t : Tm) (dst : Option Tmp) : Bool :=
  match dst with
  | some d => Nat.blt d t.wid
  | none => true
@[simp] theorem Tm.wid_put (t : Tm) (d : Option Tmp) (v : V) : (t.put d v).wid = t.wid := by cases d <;> rfl
theorem Tm.get_put (t : Tm) (d : Option Tmp) (v : V) : (t.put d v).get = Ev.put t.get d v := by
  cases d with
  | none => rfl
  | some d => funext k; exact Tr.get_set v t.tr d k

def putK {α : Type} (t : Tm) (dst : Option Tmp) (v : V) (no : α) (k : Tm → α) : α :=
  match dst with
  | some d => bif Nat.blt d t.wid then t.tr.setK d v fun tr => k ⟨t.wid, tr⟩ else no
  | none => k t
theorem putK_eq {α : Type} (t : Tm) (dst : Option Tmp) (v : V) (no : α) (k : Tm → α) : putK t dst v no k = if t.fits dst = true then k (t.put dst v) else no := by
  cases dst with
  | none => rfl
  | some d =>
    rw [show putK t (some d) v no k = cond (t.fits (some d)) (k (t.put (some d) v)) no from by simp only [putK, Tr.setK_eq]; rfl, Bool.cond_eq_ite]
/-- The arguments laid down. -/
def Tr.fill : List V → Nat → Tr → Tr
  | [], _, t => t
  | v :: l, n, t => Tr.fill l (n + 1) (t.set n v)
def Tm.init (n : Nat) (args : List V) : Tm := ⟨n, Tr.fill args 0 .leaf⟩
theorem Tr.get_fill : ∀ (l : List V) (n : Nat) (t : Tr) (k : Nat), (Tr.fill l n t).get k = if n ≤ k then (l[k - n]?).getD (t.get k) else t.get k
  | [], n, t, k => by simp [Tr.fill]
  | v :: l, n, t, k => by
    simp only [Tr.fill]
    rw [Tr.get_fill l (n + 1), Tr.get_set]
    by_cases h : n + 1 ≤ k
    · rw [if_pos h, if_pos (show n ≤ k from by omega), if_neg (show ¬ k = n from by omega), show k - n = (k - (n + 1)) + 1 from by omega, List.getElem?_cons_succ]
    · rw [if_neg h]
      by_cases e : k = n
      · subst e; simp
      · rw [if_neg e, if_neg (by omega)]

inductive Out where
  | norm (t : Tm) (H : Heap)
  | exit (id : Nat) (t : Tm) (H : Heap)
  | ret (t : Tm) (H : Heap)
  | pan (v : V) (t : Tm) (H : Heap)
  | no
  deriving Inhabited

def isAggT : Option TypeDesc → Option Bool
  | some (.struct _) => some true
  | some (.array _ _) => some true
  | some _ => some false
  | none => none

/-- So many cells from a place on. -/
def cut (l : List V) (off n : Nat) : Option (List V) := if off + n ≤ l.length then some ((l.drop off).take n) else none

/-- The value of a type that lies at a place of a row of cells. -/
def pickAt (T : Tab) (t : TypeId) (cells : List V) (off : Nat) : Option V :=
  match isAggT (T.und t) with
  | some true => match T.size t with
    | some n => (cut cells off n).map .agg
    | none => none
  | some false => cells[off]?
  | none => none

def splice (l : List V) (off : Nat) (x : List V) : List V := l.take off ++ x ++ l.drop (off + x.length)

def loadA (T : Tab) (t : TypeId) (H : Heap) : V → Option V
  | .ptr n off => match cellsAt H n with
    | some blk => pickAt T t blk.cells off
    | none => none
  | .ipt _ l i off => match l[i]? with
    | some e => pickAt T t e.cells off
    | none => none
  | .gp g off => match T.glob g with
    | some l => pickAt T t l off
    | none => none
  | _ => none

def flat : V → Bool
  | .agg _ => false
  | .tup _ => false
  | _ => true

def storeA (T : Tab) (t : TypeId) (H : Heap) (a x : V) : Option Heap :=
  match a with
  | .ptr n off => match cellsAt H n with
    | some blk =>
      if T.size t = some x.cells.length ∧ off + x.cells.length ≤ blk.cells.length ∧ x.cells.all flat = true then
        fSp (splice blk.cells off x.cells) fun cs => setK H n (some { blk with cells := cs }) some
      else none
    | none => none
  | _ => none

def addOff (d : Nat) : V → Option V
  | .ptr n off => some (.ptr n (off + d))
  | .ipt sz l i off => some (.ipt sz l i (off + d))
  | .gp g off => some (.gp g (off + d))
  | _ => none

def evInt (op : BinOp) (k : IntKind) (a b : Int) : Option V :=
  match op with
  | .add => some (.i k (k.wrap (a + b)))
  | .sub => some (.i k (k.wrap (a - b)))
  | .mul => some (.i k (k.wrap (a * b)))
  | .eql => some (.b (a == b))
  | .neq => some (.b (a != b))
  | .lss => some (.b (decide (a < b)))
  | .leq => some (.b (decide (a ≤ b)))
  | .gtr => some (.b (decide (a > b)))
  | .geq => some (.b (decide (a ≥ b)))
  | .quo | .rem => if b = 0 then none else match Op.intDiv op k a b with
    | .pure v => ofSc v
    | _ => none
  | .and | .or | .xor | .andNot => match Op.intBits op k a b with
    | .pure v => ofSc v
    | _ => none
  | _ => none

def evShift (op : BinOp) (k : IntKind) (a : Int) (yk : IntKind) (b : Int) : Option V :=
  match Op.shift op k a yk b with
  | .pure v => ofSc v
  | _ => none

def evStr (op : BinOp) (a b : List UInt8) : Option V :=
  match op with
  | .add => if ((a.length + b.length : Nat) : Int) ≤ 9223372036854775807 then some (.s (a ++ b)) else none
  | .eql => some (.b (eqU a b))
  | .neq => some (.b !(eqU a b))
  | .lss => some (.b (Op.bytesLess a b))
  | .leq => some (.b (Op.bytesLess a b || a == b))
  | .gtr => some (.b !(Op.bytesLess a b || a == b))
  | .geq => some (.b !(Op.bytesLess a b))
  | _ => none

/-- '==' where one side is nil, or both are bools. -/
def evEq (d : Option TypeDesc) (x y : V) : Option Bool :=
  match d, x, y with
  | some .bool, .b p, .b q => some (p == q)
  | some (.pointer _), .nilp, .nilp => some true
  | some (.pointer _), .nilp, .ptr .. => some false
  | some (.pointer _), .ptr .., .nilp => some false
  | some (.slice _), .nils, .nils => some true
  | some (.slice _), .nils, .sl .. => some false
  | some (.slice _), .sl .., .nils => some false
  | some (.slice _), .nils, .isl _ l => if l.isEmpty = true then none else some false
  | some (.slice _), .isl _ l, .nils => if l.isEmpty = true then none else some false
  | some (.slice _), .nils, .emp => some false
  | some (.slice _), .emp, .nils => some false
  | some (.pointer _), .nilp, .ipt .. => some false
  | some (.pointer _), .ipt .., .nilp => some false
  | some (.func ..), .nilf, .nilf => some true
  | some (.func ..), .nilf, .fn .. => some false
  | some (.func ..), .fn .., .nilf => some false
  | some (.interface _), .nili, .ifc .. => some false
  | some (.interface _), .ifc .., .nili => some false
  | _, _, _ => none

def evEqT (T : Tab) (t : TypeId) (x y : V) : Option Bool :=
  match x, y with
  | .ptr n o, .ptr m q => match T.und t with
    | some (.pointer e) => match T.size e with
      | some s => if s ≠ 0 ∧ n = m then some (o == q) else none
      | none => none
    | _ => none
  | x, y => evEq (T.und t) x y

def evBin (T : Tab) (op : BinOp) (xT : TypeId) (x y : V) : Option V :=
  match x, y with
  | .i k a, .i k' b => match op with
    | .shl | .shr => evShift op k a k' b
    | _ => if k = k' then evInt op k a b else none
  | .s a, .s b => evStr op a b
  | x, y => match op with
    | .eql => (evEqT T xT x y).map .b
    | .neq => (evEqT T xT x y).map fun r => .b !r
    | _ => none

def evUn (op : UnOp) (x : V) : Option V :=
  match op, x with
  | .not, .b y => some (.b !y)
  | .neg, .i k n => some (.i k (k.wrap (0 - n)))
  | .xor, .i k n => evInt .xor k (if k.signed then -1 else k.max) n
  | _, _ => none

def evConv (T : Tab) (src dst : TypeId) (x : V) : Option V :=
  match T.und src, T.und dst, x with
  | some _, some (.int k), .i _ n => some (.i k (k.wrap n))
  | some _, some .string, .i _ n => some (.s (Utf8.encode n).data.toList)
  | some _, some .string, .s l => some (.s l)
  | _, _, _ => none

/-- Conversions, unsafe.Pointer's too. -/
def evConvH (T : Tab) (H : Heap) (src dst : TypeId) (x : V) : Option V :=
  match T.und src, T.und dst, x with
  | some (.pointer e), some .unsafePointer, .ptr n off => match cellsAt H n, T.size e with
    | some blk, some s => if s ≠ 0 ∧ off < blk.cells.length then some (.ptr n off) else none
    | _, _ => none
  | some .unsafePointer, some (.pointer u), .ptr n off => match cellsAt H n, T.size u with
    | some blk, some s => if s ≠ 0 ∧ blk.kind = .all ∧ T.lies blk.ty blk.cells.length off u = true then some (.ptr n off) else none
    | _, _ => none
  | _, _, _ => evConv T src dst x

/-- A map's keys. -/
def sameKey (d : Option TypeDesc) (x y : V) : Option Bool :=
  match d, x, y with
  | some .string, .s a, .s b => some (eqU a b)
  | some (.int _), .i k a, .i k' b => if k = k' then some (a == b) else none
  | some .bool, .b a, .b b => some (a == b)
  | _, _, _ => none
def goodKey (d : Option TypeDesc) (x : V) : Bool :=
  match d, x with
  | some .string, .s _ => true
  | some (.int _), .i _ _ => true
  | some .bool, .b _ => true
  | _, _ => false
def mapSet (d : Option TypeDesc) (k v : V) : List V → Option (List V)
  | k' :: v' :: l => match sameKey d k k' with
    | some true => some (k :: v :: l)
    | some false => match mapSet d k v l with
      | some r => some (k' :: v' :: r)
      | none => none
    | none => none
  | [_] => none
  | [] => some [k, v]
def mapGet (d : Option TypeDesc) (k : V) : List V → Option (Option V)
  | k' :: v' :: l => match sameKey d k k' with
    | some true => some (some v')
    | some false => mapGet d k l
    | none => none
  | [_] => none
  | [] => some none
def mapAt (H : Heap) (n : Nat) : Option Blk :=
  match H[n]? with
  | some (some blk) => if blk.kind = .map then some blk else none
  | _ => none
def evMapSet (T : Tab) (ty : TypeId) (m k v : V) (H : Heap) : OR :=
  match T.und ty, m with
  | some (.map kt _), .mp n => match mapAt H n with
    | some blk => if goodKey (T.und kt) k then match mapSet (T.und kt) k v blk.cells with
        | some l => setB .un H n { blk with cells := l }
        | none => .no
      else .no
    | none => .no
  | _, _ => .no
def evLookup (T : Tab) (ty : TypeId) (m k : V) (ok : Bool) (H : Heap) : Option V :=
  match T.und ty, m with
  | some (.map kt et), .mp n => match mapAt H n with
    | some blk => if goodKey (T.und kt) k then match mapGet (T.und kt) k blk.cells with
        | some (some v) => some (if ok then .tup [v, .b true] else v)
        | some none => match T.zero et with
          | some z => some (if ok then .tup [z, .b false] else z)
          | none => none
        | none => none
      else none
    | none => none
  | _, _ => none

/-- Bytes out of cells. -/
def bytesV : List V → Option (List UInt8)
  | [] => some []
  | .i .u8 n :: l => match bytesV l with
    | some r => some (n.toNat.toUInt8 :: r)
    | none => none
  | _ :: _ => none
def evUnsafeString (T : Tab) (pt : TypeId) (p len : V) (H : Heap) : OR :=
  match p, len with
  | .nilp, .i _ 0 => .val (.s []) H
  | .ptr n off, .i _ m => if m = 0 then .val (.s []) H else if 0 < m ∧ m ≤ 1099511627776 then
      match T.und pt, cellsAt H n with
      | some (.pointer e), some blk => if blk.ty = e ∧ T.size e = some 1 then match cut blk.cells off m.toNat with
          | some l => match bytesV l with
            | some r => setK H n none fun H' => .val (.s r) H'
            | none => .no
          | none => .no
        else .no
      | _, _ => .no
    else .no
  | _, _ => .no
def evSliceData (x : V) : Option V :=
  match x with
  | .nils => some .nilp
  | .sl n sz off len _ => if 0 < len then some (.ptr n (off * sz)) else none
  | _ => none

def fillV (place : Nat → Option (Nat × Nat)) (cells : List V) : List (Nat × V) → Option (List V)
  | [] => some cells
  | (i, v) :: rest => match place i with
    | none => none
    | some (off, size) =>
      if v.cells.length = size ∧ off + v.cells.length ≤ cells.length then fillV place (splice cells off v.cells) rest else none

def evParts (t : Env) : List (Nat × Operand) → Option (List (Nat × V))
  | [] => some []
  | (i, o) :: r => match ev1 t o, evParts t r with
    | some x, some l => some ((i, x) :: l)
    | _, _ => none

def placesOf (T : Tab) : List Field → Option (List (Nat × Nat))
  | [] => some []
  | f :: r => match T.size f.type, placesOf T r with
    | some n, some l => some ((f.offset, n) :: l)
    | _, _ => none

def evBuild (T : Tab) (ty : TypeId) (parts : List (Nat × V)) : Option V :=
  match T.zero ty, T.und ty with
  | some z, some (.struct fs) => match placesOf T fs.toList with
    | some pl => (fillV (fun i => pl[i]?) z.cells parts).map .agg
    | none => none
  | some z, some (.array _ e) => match T.size e with
    | some n => (fillV (fun i => some (i * n, n)) z.cells parts).map .agg
    | none => none
  | _, _ => none

def reps {α : Type} (n : Nat) (l : List α) : List α :=
  match n with
  | 0 => []
  | n + 1 => l ++ reps n l

def evBuildSlice (T : Tab) (ty : TypeId) (len : Nat) (parts : List (Nat × V)) (H : Heap) : OR :=
  match T.und ty with
  | some (.slice e) => match T.size e, T.zero e with
    | some n, some z =>
      if n = z.cells.length ∧ 0 < n ∧ len * n ≤ 16777216 then
        match fillV (fun i => some (i * n, n)) (reps len z.cells) parts with
        | some cells => newB (.sl H.length n 0 len (some len)) H { ty := e, cells, kind := .all }
        | none => .no
      else .no
    | _, _ => .no
  | _ => .no

def evMakeSlice (T : Tab) (ty : TypeId) (len cap : V) (H : Heap) : OR :=
  match T.und ty, len, cap with
  | some (.slice e), .i _ l, .i _ c => match T.size e, T.zero e, T.bytes e with
    | some n, some z, some bs =>
      if n = z.cells.length ∧ 0 < n ∧ 0 ≤ l ∧ l ≤ c ∧ c * bs ≤ 1099511627776 ∧ c ≤ 1099511627776 then
        newB (.sl H.length n 0 l.toNat (some c.toNat)) H { ty := e, cells := reps c.toNat z.cells, kind := .all }
      else .no
    | _, _, _ => .no
  | _, _, _ => .no

/-- A bound of a slice expression: a number from 0 to the most. -/
def bound (t : Env) (most dflt : Nat) : Option Operand → Option Nat
  | none => some dflt
  | some o => match ev1 t o with
    | some (.i _ n) => if 0 ≤ n ∧ n ≤ most then some n.toNat else none
    | _ => none

def evSlice (T : Tab) (ty : TypeId) (t : Env) (x : V) (lo hi mx : Option Operand) : Option V :=
  match mx with
  | some _ => none
  | none => match x with
    | .s l => match T.und ty with
      | some .string => match bound t l.length l.length hi with
        | some h => match bound t h 0 lo with
          | some k => some (.s (subU l k h))
          | none => none
        | none => none
      | _ => none
    | .isl sz l => match T.und ty with
      | some (.slice e) => if T.size e = some sz then match bound t l.length l.length hi with
          | some h => match bound t h 0 lo with
            | some k => some (.isl sz ((l.take h).drop k))
            | none => none
          | none => none
        else none
      | _ => none
    | .nils => match T.und ty with
      | some (.slice e) => match T.size e, bound t 0 0 hi, bound t 0 0 lo with
        | some _, some 0, some 0 => some .nils
        | _, _, _ => none
      | _ => none
    | .sl n sz off len cap => match T.und ty with
      | some (.slice e) => if T.size e = some sz then match bound t (cap.getD len) len hi with
          | some h => match bound t h 0 lo with
            | some k => match cap with
              | some c => if c = k then some (.sl n sz off (h - k) (some 0)) else some (.sl n sz (off + k) (h - k) (some (c - k)))
              | none => if h = k ∧ 0 < k then some .emp else some (.sl n sz (off + k) (h - k) none)
            | none => none
          | none => none
        else none
      | _ => none
    | .ptr n off => match T.und ty with
      | some (.array m e) => match T.size e with
        | some sz => if 0 < sz ∧ off % sz = 0 then match bound t m m hi with
            | some h => match bound t h 0 lo with
              | some k => if m = k then none else some (.sl n sz (off / sz + k) (h - k) (some (m - k)))
              | none => none
            | none => none
          else none
        | none => none
      | _ => none
    | _ => none

def evFieldAddr (T : Tab) (ty : TypeId) (x : V) (f : Nat) : Option V :=
  match T.und ty with
  | some (.struct fs) => match fs[f]? with
    | some fd => match T.size fd.type with
      | some n => if n = 0 then none else addOff fd.offset x
      | none => none
    | none => none
  | _ => none

def evField (T : Tab) (ty : TypeId) (x : V) (f : Nat) : Option V :=
  match T.und ty, x with
  | some (.struct fs), .agg l => match fs[f]? with
    | some fd => pickAt T fd.type l fd.offset
    | none => none
  | _, _ => none

def evIndexAddr (T : Tab) (ty : TypeId) (x ix : V) : Option V :=
  match T.und ty, x, ix with
  | some (.slice e), .sl n sz off len _, .i _ j => if T.size e = some sz ∧ 0 ≤ j ∧ j < len then some (.ptr n ((off + j.toNat) * sz)) else none
  | some (.slice e), .isl sz l, .i _ j => if T.size e = some sz ∧ 0 ≤ j ∧ j < l.length then some (.ipt sz l j.toNat 0) else none
  | some (.array len e), x, .i _ j => match T.size e with
    | some n => if 0 ≤ j ∧ j < len then addOff (j.toNat * n) x else none
    | none => none
  | _, _, _ => none

def evIndex (T : Tab) (ty : TypeId) (x ix : V) : Option V :=
  match T.und ty, x, ix with
  | some (.array len e), .agg l, .i _ j => match T.size e with
    | some n => if 0 ≤ j ∧ j < len then pickAt T e l (j.toNat * n) else none
    | none => none
  | some .string, .s l, .i _ j => if 0 ≤ j then (nthU l j.toNat).map fun c => .i .u8 c.toNat else none
  | _, _, _ => none

def evLen (T : Tab) (ty : TypeId) (x : V) : Option V :=
  match T.und ty, x with
  | some .string, .s l => some (.i .i64 l.length)
  | some (.array n _), _ => some (.i .i64 n)
  | some (.slice _), .sl _ _ _ len _ => some (.i .i64 len)
  | some (.slice _), .isl _ l => some (.i .i64 l.length)
  | some (.slice _), .nils => some (.i .i64 0)
  | some (.slice _), .emp => some (.i .i64 0)
  | _, _ => none

/-- The cells that an append adds, and how many elements these are. -/
def appended (_ : Tab) (_ : TypeId) (sz : Nat) (H : Heap) : V → Option (List V × Nat)
  | .sl n s off len _ => if s = sz then match cellsAt H n with
      | some blk => (cut blk.cells (off * sz) (len * sz)).map fun c => (c, len)
      | none => none
    else none
  | .isl s l => if s = sz ∧ l.all (fun v => v.cells.length = sz) = true then some (l.flatMap V.cells, l.length) else none
  | .nils => some ([], 0)
  | .emp => some ([], 0)
  | .s l => if sz = 1 then some (l.map fun c => .i .u8 c.toNat, l.length) else none
  | _ => none

def evAppend (T : Tab) (ty : TypeId) (s x : V) (H : Heap) : OR :=
  match T.und ty with
  | some (.slice e) => match T.size e, T.bytes e, T.zero e with
    | some sz, some bs, some z => match appended T e sz H x with
      | some (new, k) =>
        if 0 < sz ∧ z.cells.length = sz ∧ bs ≤ 1000000 ∧ new.all flat = true then
          match s with
          | .nils => if k = 0 then .val .nils H else if k * bs ≤ 1099511627776 ∧ k ≤ 1099511627776 then newB (.sl H.length sz 0 k none) H { ty := e, cells := new, kind := .more } else .no
          | .sl n y off len cap => if y = sz ∧ (len + k) * bs ≤ 1099511627776 ∧ len + k ≤ 1099511627776 then match cellsAt H n with
              | some blk => match cut blk.cells (off * sz) (len * sz) with
                | some old =>
                  if k = 0 then .val s H
                  else match cap with
                  | some c => if len + k ≤ c then
                        (if (off + len + k) * sz ≤ blk.cells.length then setB (.sl n sz off (len + k) cap) H n { blk with cells := splice blk.cells ((off + len) * sz) new } else .no)
                      else newB (.sl H.length sz 0 (len + k) none) H { ty := e, cells := old ++ new, kind := .more }
                  | none => if off = 0 ∧ len * sz = blk.cells.length ∧ blk.ty = e then
                      setK H n none fun H' => newB (.sl H.length sz 0 (len + k) none) H' { ty := e, cells := old ++ new, kind := .more } else .no
                | none => .no
              | none => .no
            else .no
          | _ => .no
        else .no
      | none => .no
    | _, _, _ => .no
  | _ => .no

def evMax (op : Builtin) (x y : V) : Option V :=
  match op, x, y with
  | .max, .i k a, .i _ b => some (.i k (if b > a then b else a))
  | .min, .i k a, .i _ b => some (.i k (if b < a then b else a))
  | _, _, _ => none

def lift (x : Option V) (H : Heap) : OR :=
  match x with
  | some v => .val v H
  | none => .no

abbrev CallF := FuncId → List V → Heap → OR

def evCall (T : Tab) (call : CallF) (c : Call) (t : Env) (H : Heap) : OR :=
  match evs t c.args.toList with
  | none => .no
  | some args => match c.callee with
    | .value f => match ev1 t f with
      | some (.fn g cap) => match T.ext g with
        | some F => lift (F (args ++ cap)) H
        | none => call g (args ++ cap) H
      | _ => .no
    | .builtin .unsafeSliceData => match args with
      | [x] => lift (evSliceData x) H
      | _ => .no
    | .builtin .unsafeString => match c.argTypes[0]?, args with
      | some ty, [p, l] => evUnsafeString T ty p l H
      | _, _ => .no
    | .builtin .len => match c.argTypes[0]?, args with
      | some ty, [x] => lift (evLen T ty x) H
      | _, _ => .no
    | .builtin .append => match c.argTypes[0]?, c.argTypes[1]?, args with
      | some ty, some ty2, [s, x] => match T.und ty2 with
        | some (.slice _) => evAppend T ty s x H
        | some .string => evAppend T ty s x H
        | _ => .no
      | _, _, _ => .no
    | .builtin .max => match args with
      | [x, y] => lift (evMax .max x y) H
      | _ => .no
    | .builtin .min => match args with
      | [x, y] => lift (evMax .min x y) H
      | _ => .no
    | _ => .no

def evOp (T : Tab) (call : CallF) (o : Oper) (t : Env) (H : Heap) : OR :=
  match o.op with
  | .move x => lift (ev1 t x) H
  | .assign x => lift (ev1 t x) H
  | .pick c a b => match ev1 t c with
    | some (.b true) => lift (ev1 t a) H
    | some (.b false) => lift (ev1 t b) H
    | _ => .no
  | .alloc e => match T.zero e with
    | some z => newB (.ptr H.length 0) H { ty := e, cells := z.cells, kind := .all }
    | none => .no
  | .box e x => match ev1 t x with
    | some v => if v.cells.all flat = true then newB (.ptr H.length 0) H { ty := e, cells := v.cells, kind := .all } else .no
    | none => .no
  | .build ty parts => match evParts t parts.toList with
    | some ps => lift (evBuild T ty ps) H
    | none => .no
  | .buildSlice ty len parts => match evParts t parts.toList with
    | some ps => evBuildSlice T ty len ps H
    | none => .no
  | .load ty a => match ev1 t a with
    | some p => lift (loadA T ty H p) H
    | none => .no
  | .store ty a x => match ev1 t a, ev1 t x with
    | some p, some v => match storeA T ty H p v with
      | some H' => .val .un H'
      | none => .no
    | _, _ => .no
  | .nilCheck x => match ev1 t x with
    | some (.ptr n off) => .val (.ptr n off) H
    | some (.gp g off) => .val (.gp g off) H
    | some (.ipt sz l i off) => .val (.ipt sz l i off) H
    | some (.fn g cap) => .val (.fn g cap) H
    | _ => .no
  | .binOp op xT x y _ => match ev1 t x, ev1 t y with
    | some p, some q => lift (evBin T op xT p q) H
    | _, _ => .no
  | .unOp op _ x => match ev1 t x with
    | some p => lift (evUn op p) H
    | none => .no
  | .convert src dst x => match ev1 t x with
    | some p => lift (evConvH T H src dst p) H
    | none => .no
  | .makeInterface ty x => match T.und ty, ev1 t x with
    | some (.interface _), _ => .no
    | some _, some v => .val (.ifc ty v) H
    | _, _ => .no
  | .makeFunc (.func g) first captured => match first.toList, evs t captured.toList with
    | [], some cs => .val (.fn g cs) H
    | _, _ => .no
  | .makeSlice ty len cap => match ev1 t len, ev1 t cap with
    | some l, some c => evMakeSlice T ty l c H
    | _, _ => .no
  | .slice ty x lo hi mx => match ev1 t x with
    | some p => lift (evSlice T ty t p lo hi mx) H
    | none => .no
  | .fieldAddr ty x f => match ev1 t x with
    | some p => lift (evFieldAddr T ty p f) H
    | none => .no
  | .field ty x f => match ev1 t x with
    | some p => lift (evField T ty p f) H
    | none => .no
  | .indexAddr ty x ix => match ev1 t x, ev1 t ix with
    | some p, some q => lift (evIndexAddr T ty p q) H
    | _, _ => .no
  | .index ty x ix => match ev1 t x, ev1 t ix with
    | some p, some q => lift (evIndex T ty p q) H
    | _, _ => .no
  | .extract x ix => match ev1 t x with
    | some (.tup l) => lift l[ix]? H
    | _ => .no
  | .makeMap ty r => match r with
    | none => newB (.mp H.length) H { ty, cells := [], kind := .map }
    | some o => match T.und ty, ev1 t o with
      | some (.map _ _), some (.i _ _) => newB (.mp H.length) H { ty, cells := [], kind := .map }
      | _, _ => .no
  | .mapUpdate ty m k v => match ev1 t m, ev1 t k, ev1 t v with
    | some p, some q, some x => evMapSet T ty p q x H
    | _, _, _ => .no
  | .insert ty m k v => match ev1 t m, ev1 t k, ev1 t v with
    | some p, some q, some x => evMapSet T ty p q x H
    | _, _, _ => .no
  | .lookup ty m k ok => match ev1 t m, ev1 t k with
    | some p, some q => lift (evLookup T ty p q ok H) H
    | _, _ => .no
  | .call c => evCall T call c t H
  | .panic x => match ev1 t x with
    | some (.ifc ty v) => .pan (.ifc ty v) H
    | _ => .no
  | _ => .no

/-- Is an operation carried out: its guard. -/
def wants (ops : Array Oper) (o : Oper) (t : Env) : Option Bool :=
  match o.guard with
  | none => some true
  | some (j, want) => match (ops[j]?).bind (·.dst) with
    | none => some false
    | some d => match t d with
      | .b y => some (y == want)
      | .tup [] => some false
      | _ => none

/-- The result laid open, where it was not so before. -/
def opened (op : Op) (v : V) {α : Type} (k : V → α) : α :=
  match op with
  | .move (.tmp _) => k v
  | .assign (.tmp _) => k v
  | .pick .. => k v
  | .extract .. => k v
  | .nilCheck .. => k v
  | _ => fV v k
theorem opened_eq (op : Op) (v : V) {α : Type} (k : V → α) : opened op v k = k v := by
  unfold opened
  split <;> first
    | rfl
    | exact fV_eq v k

def evSeq (step : Oper → Env → Heap → OR) (ops : Array Oper) : List Oper → Tm → Heap → Out
  | [], t, H => .norm t H
  | o :: r, t, H => match wants ops o t.get with
    | some true => match step o t.get H with
      | .val v H' => opened o.op v fun v => putK t o.dst v .no fun t' => evSeq step ops r t' H'
      | .pan v H' => .pan v t H'
      | .no => .no
    | some false => putK t o.dst .un .no fun t' => evSeq step ops r t' H
    | none => .no

def evCode (reg : Array Oper → Bool → Tm → Heap → Out) (loop : Code → Tm → Heap → Out) : Code → Tm → Heap → Out
  | .skip, t, H => .norm t H
  | .label _, t, H => .norm t H
  | .region _ ops d, t, H => reg ops d t H
  | .seq a c, t, H => match evCode reg loop a t H with
    | .norm t' H' => evCode reg loop c t' H'
    | o => o
  | .cond c x y, t, H => match ev1 t.get c with
    | some (.b true) => evCode reg loop x t H
    | some (.b false) => evCode reg loop y t H
    | _ => .no
  | .block id c, t, H => match evCode reg loop c t H with
    | .exit j t' H' => if j = id then .norm t' H' else .exit j t' H'
    | o => o
  | .loop c, t, H => match evCode reg loop c t H with
    | .norm t' H' => loop c t' H'
    | o => o
  | .exit id, t, H => .exit id t H
  | .ret, t, H => .ret t H
  | _, _, _ => .no

def evLoop (reg : Array Oper → Bool → Tm → Heap → Out) : Nat → Code → Tm → Heap → Out
  | 0, _, _, _ => .no
  | n + 1, c, t, H => evCode reg (evLoop reg n) (.loop c) t H

def evResult (T : Tab) (t : Env) (H : Heap) : ResultVar → Option V
  | .tmp k => some (t k)
  | .cell a ty => loadA T ty H (t a)

def evResults (T : Tab) (t : Env) (H : Heap) : List ResultVar → Option (List V)
  | [] => some []
  | r :: rs => match evResult T t H r, evResults T t H rs with
    | some x, some l => some (x :: l)
    | _, _ => none

def finish (T : Tab) (fn : Func) (t : Env) (H : Heap) : OR :=
  match evResults T t H fn.results.toList with
  | some [x] => .val x H
  | some l => .val (.tup l) H
  | none => .no

abbrev Gam := FuncId → List V → Heap → Option OR

def evFunR (T : Tab) (reg : CallF → Array Oper → Bool → Tm → Heap → Out) (G : Gam) : Nat → CallF
  | 0, _, _, _ => .no
  | n + 1, f, args, H => match G f args H with
    | some r => r
    | none => match T.func f with
      | none => .no
      | some fn => match fn.body with
        | none => .no
        | some c => bif Nat.ble args.length fn.ntmps then
          match evCode (reg (evFunR T reg G n)) (evLoop (reg (evFunR T reg G n)) n) c (Tm.init fn.ntmps args) H with
          | .norm t H' => finish T fn t.get H'
          | .ret t H' => finish T fn t.get H'
          | .pan v _ H' => .pan v H'
          | _ => .no
        else .no

end
end Go.Ev
