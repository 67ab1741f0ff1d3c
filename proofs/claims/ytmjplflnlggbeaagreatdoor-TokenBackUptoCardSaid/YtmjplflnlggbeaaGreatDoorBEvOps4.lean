/- The evaluator: what the regions and functions of a program compute on values without places, as a plain function. The relation between the values of the evaluator and those of the machine, for every memory and every renaming of places. Each operation of the machine does on related values what the evaluator says, for every world in the relation. -/
import Derived.WalkKit
import Derived.Shelf.Abstract
import Derived.Lib.Strings
namespace Go.Ev
open Go Go.Proofs
set_option linter.unusedSimpArgs false
set_option linter.unusedVariables false
set_option linter.unnecessarySimpa false
open Go
noncomputable section

inductive V where
  |i (k:IntKind) (n:Int)
  |b (x:Bool)
  |s (l:List UInt8)
  |agg (l:List V)
  |tup (l:List V)
  |nilp|nils|nilf|nili|nilm
  |ptr (n off:Nat)
  |sl (n sz off len:Nat) (cap:Option Nat)
  |emp
  |fn (g:Nat) (cap:List V)
  |ifc (t:Nat) (v:V)
  |isl (sz:Nat) (l:List V)
  |ipt (sz:Nat) (l:List V) (i off:Nat)
  |gp (g off:Nat)
  |mp (n:Nat)
  |yld (l:Nat)
  |itr (l:Nat)
  |bfn (g:Nat) (l:List V)
  deriving Inhabited

abbrev V.un:V:=.tup []
def V.cells:V→List V
 | .agg l=>l
 |v=>[v]
def V.isAgg:V→Bool
 | .agg _=>true
 |_=>false
inductive BK where
  |all|more|map
  deriving DecidableEq
structure Blk where
  ty:Nat
  cells:List V
  kind:BK

abbrev zaa:=List (Option Blk)
abbrev Env:=Nat→V
/-! Data laid open before it is handed on: for the kernel's reckoning. Each is the identity. -/
section
variable {α:Type}
noncomputable def fN (n:Nat)(k:Nat→α):α:=Nat.rec (k 0) (fun m _=>k (m+1)) n
noncomputable def fI (n:Int)(k:Int→α):α:=Int.rec (fun m=>fN m fun m=>k (.ofNat m)) (fun m=>fN m fun m=>k (.negSucc m)) n
noncomputable def fU (c:UInt8)(k:UInt8→α):α:=fN c.toNat fun m=>k (UInt8.ofNat m)
noncomputable def fUs (l:List UInt8):(List UInt8→α)→α:=
 List.rec (motive:=fun _=>(List UInt8→α)→α) (fun k=>k []) (fun c _ ih k=>fU c fun c=>ih fun l=>k (c::l)) l
noncomputable def fV (v:V):(V→α)→α:=
 V.rec (motive_1:=fun _=>(V→α)→α) (motive_2:=fun _=>(List V→α)→α)
  (fun j n k=>fI n fun n=>k (.i j n)) (fun x k=>Bool.rec (k (.b false)) (k (.b true)) x) (fun l k=>fUs l fun l=>k (.s l))
  (fun _ ih k=>ih fun l=>k (.agg l)) (fun _ ih k=>ih fun l=>k (.tup l)) (fun k=>k .nilp) (fun k=>k .nils) (fun k=>k .nilf) (fun k=>k .nili) (fun k=>k .nilm)
  (fun n o k=>fN n fun n=>fN o fun o=>k (.ptr n o))
  (fun n z o l c k=>fN n fun n=>fN o fun o=>fN l fun l=>Option.rec (k (.sl n z o l none)) (fun c=>fN c fun c=>k (.sl n z o l (some c))) c)
  (fun k=>k .emp) (fun g _ ih k=>ih fun l=>k (.fn g l)) (fun t _ ih k=>ih fun v=>k (.ifc t v)) (fun z _ ih k=>ih fun l=>k (.isl z l))
  (fun z _ j o ih k=>ih fun l=>fN j fun j=>fN o fun o=>k (.ipt z l j o)) (fun g o k=>fN o fun o=>k (.gp g o)) (fun n k=>fN n fun n=>k (.mp n)) (fun n k=>k (.yld n)) (fun n k=>k (.itr n)) (fun g _ ih k=>ih fun l=>k (.bfn g l))
  (fun k=>k []) (fun _ _ ih ihl k=>ih fun v=>ihl fun l=>k (v::l)) v
theorem zco (n:Nat)(k:Nat→α):fN n k=k n:=by cases n<;>rfl
theorem zva (n:Int)(k:Int→α):fI n k=k n:=by
 cases n with
 |ofNat m=>show fN m (fun m=>k (.ofNat m))=_;rw[zco]
 |negSucc m=>show fN m (fun m=>k (.negSucc m))=_;rw[zco]
theorem zxr (c:UInt8)(k:UInt8→α):fU c k=k c:=by simp[fU,zco]
theorem zoI:∀(l:List UInt8)(k:List UInt8→α),fUs l k=k l
 | [],_=>rfl
 |c::l,k=>by
  show fU c (fun c=>fUs l fun l=>k (c::l))=_;rw[zxr,zoI l]
mutual
theorem zq5:∀(v:V) (k:V→α),fV v k=k v
  | .i j n,k=>by show fI n (fun n=>k (.i j n))=_;rw[zva]
  | .b x,k=>by cases x<;>rfl
  | .s l,k=>by show fUs l (fun l=>k (.s l))=_;rw[zoI]
  | .agg l,k=>fVs2_eq l (fun l=>k (.agg l))
  | .tup l,k=>fVs2_eq l (fun l=>k (.tup l))
  | .ptr n o,k=>by show fN n (fun n=>fN o fun o=>k (.ptr n o))=_;rw[zco,zco]
  | .sl n z o l c,k=>by
    show fN n (fun n=>fN o fun o=>fN l fun l=>Option.rec (motive:=fun _=>α) (k (.sl n z o l none)) (fun c=>fN c fun c=>k (.sl n z o l (some c))) c)=_
    rw[zco,zco,zco]
    cases c with
    |none=>rfl
    |some c=>show fN c (fun c=>k (.sl n z o l (some c)))=_;rw[zco]
  | .fn g l,k=>fVs2_eq l (fun l=>k (.fn g l))
  | .ifc t v,k=>zq5 v (fun v=>k (.ifc t v))
  | .isl z l,k=>fVs2_eq l (fun l=>k (.isl z l))
  | .ipt z l j o,k=>(fVs2_eq l (fun l=>fN j fun j=>fN o fun o=>k (.ipt z l j o))).trans (by rw[zco,zco])
  | .gp g o,k=>by show fN o (fun o=>k (.gp g o))=_;rw[zco]
  | .mp n,k=>by show fN n (fun n=>k (.mp n))=_;rw[zco]
  | .yld n,k=>rfl
  | .itr n,k=>rfl
  | .bfn g l,k=>fVs2_eq l (fun l=>k (.bfn g l))
  | .nilp,k=>rfl
  | .nils,k=>rfl
  | .nilf,k=>rfl
  | .nili,k=>rfl
  | .nilm,k=>rfl
  | .emp,k=>rfl
theorem fVs2_eq:∀(l:List V) (k:List V→α),(V.rec_1 (motive_1:=fun _=>(V→α)→α) (motive_2:=fun _=>(List V→α)→α)
    (fun j n k=>fI n fun n=>k (.i j n)) (fun x k=>Bool.rec (k (.b false)) (k (.b true)) x) (fun l k=>fUs l fun l=>k (.s l))
    (fun _ ih k=>ih fun l=>k (.agg l)) (fun _ ih k=>ih fun l=>k (.tup l)) (fun k=>k .nilp) (fun k=>k .nils) (fun k=>k .nilf) (fun k=>k .nili) (fun k=>k .nilm)
    (fun n o k=>fN n fun n=>fN o fun o=>k (.ptr n o))
    (fun n z o l c k=>fN n fun n=>fN o fun o=>fN l fun l=>Option.rec (k (.sl n z o l none)) (fun c=>fN c fun c=>k (.sl n z o l (some c))) c)
    (fun k=>k .emp) (fun g _ ih k=>ih fun l=>k (.fn g l)) (fun t _ ih k=>ih fun v=>k (.ifc t v)) (fun z _ ih k=>ih fun l=>k (.isl z l))
    (fun z _ j o ih k=>ih fun l=>fN j fun j=>fN o fun o=>k (.ipt z l j o)) (fun g o k=>fN o fun o=>k (.gp g o)) (fun n k=>fN n fun n=>k (.mp n)) (fun n k=>k (.yld n)) (fun n k=>k (.itr n)) (fun g _ ih k=>ih fun l=>k (.bfn g l))
    (fun k=>k []) (fun _ _ ih ihl k=>ih fun v=>ihl fun l=>k (v::l)) l:(List V→α)→α) k=k l
  | [],_=>rfl
  |v::l,k=>(zq5 v _).trans (fVs2_eq l (fun l=>k (v::l)))
end
def fSp {β:Type}(l:List β):(List β→α)→α:=List.rec (motive:=fun _=>(List β→α)→α) (fun k=>k []) (fun v _ ih k=>ih fun l=>k (v::l)) l
theorem zfN {β:Type}:∀(l:List β) (k:List β→α),fSp l k=k l
  | [],_=>rfl
  |v::l,k=>zfN l (fun l=>k (v::l))
def tlU {β:Type}(l:List β):List β:=List.rec [] (fun _ r _=>r) l
def zl8 {β:Type}(l:List β):List β:=tlU<|tlU<|tlU<|tlU<|tlU<|tlU<|tlU<|tlU<|tlU<|tlU<|tlU<|tlU<|tlU<|tlU<|tlU<|tlU l
def zxe {β:Type}(q:Nat)(l:List β):List β:=Nat.rec l (fun _ ih=>zl8 ih) q
def zs2 {β:Type}(n:Nat)(l:List β):List β:=Nat.rec l (fun _ ih=>tlU ih) n
def zqV {β:Type}(n:Nat)(l:List β):List β:=zs2 (n%16) (zxe (n/16) l)
def zuD {β:Type}(l:List β)(n:Nat):Option β:=List.rec none (fun x _ _=>some x) (zqV n l)
theorem zsv {β:Type}(l:List β):tlU l=l.drop 1:=by cases l<;>rfl
theorem zop {β:Type}(l:List β):zl8 l=l.drop 16:=by simp only[zl8,zsv,List.drop_drop]
theorem znT {β:Type}:∀(q:Nat)(l:List β),zxe q l=l.drop (16*q)
 |0,l=>rfl
 |q+1,l=>by
  show zl8 (zxe q l)=_;rw[zop,znT q,List.drop_drop];congr 1
theorem zl9 {β:Type}:∀(n:Nat)(l:List β),zs2 n l=l.drop n
 |0,l=>rfl
 |n+1,l=>by
  show tlU (zs2 n l)=_;rw[zsv,zl9 n,List.drop_drop]
theorem zma {β:Type}(n:Nat)(l:List β):zqV n l=l.drop n:=by
 rw[zqV,zl9,znT,List.drop_drop];congr 1;omega
theorem zcd {β:Type}(l:List β)(n:Nat):zuD l n=l[n]?:=by
 rw[zuD,zma,←List.head?_drop];cases l.drop n<;>rfl
def zt5 {β:Type}(l:List β):Nat→List β:=List.rec (motive:=fun _=>Nat→List β) (fun _=>[]) (fun x _ ih n=>Nat.rec [] (fun m _=>x::ih m) n) l
theorem zmM {β:Type}:∀(l:List β)(n:Nat),zt5 l n=l.take n
 | [],n=>by cases n<;>rfl
 |x::l,0=>rfl
 |x::l,n+1=>by
  show x::zt5 l n=_;rw[zmM l n];rfl
def zxM {β:Type}(l:List β)(k h:Nat):List β:=zt5 (zqV k l) (h-k)
theorem zlN {β:Type}(l:List β)(k h:Nat):zxM l k h=(l.take h).drop k:=by
 rw[zxM,zmM,zma,List.drop_take]
def eqU (a:List UInt8):List UInt8→Bool:=
 List.rec (motive:=fun _=>List UInt8→Bool) (fun b=>List.rec true (fun _ _ _=>false) b) (fun c _ ih b=>List.rec false (fun d r _=>Bool.rec false (ih r) (Nat.beq c.toNat d.toNat)) b) a
theorem zfJ:∀(a b:List UInt8),eqU a b=(a==b)
 | [],[]=>rfl
 | [],_::_=>rfl
 |_::_,[]=>rfl
 |c::a,d::b=>by
  show(Bool.rec false (eqU a b) (Nat.beq c.toNat d.toNat):Bool)=_;rw[zfJ a b,List.cons_beq_cons];cases h:Nat.beq c.toNat d.toNat
  ·have:¬c=d:=fun e=>by subst e;rw[Nat.beq_refl]at h;cases h
   have h2:(c==d)=false:=by simpa using this
   rw[h2];rfl
  ·have:c=d:=UInt8.toNat_inj.1 (Nat.eq_of_beq_eq_true h);subst this;simp
noncomputable def setK {β:Type} (l:List β):Nat→β→(List β→α)→α:=
  List.rec (motive:=fun _=>Nat→β→(List β→α)→α) (fun _ _ k=>k []) (fun x r ih n v k=>Nat.rec (k (v::r)) (fun m _=>ih m v fun r=>k (x::r)) n) l
theorem setK_eq {β:Type}:∀(l:List β) (n:Nat) (v:β) (k:List β→α),setK l n v k=k (l.set n v)
  | [],_,_,_=>rfl
  |_::_,0,_,_=>rfl
  |x::r,n+1,v,k=>(setK_eq r n v fun r=>k (x::r)).trans (by simp)
noncomputable def zxZ {β:Type} (l:List β) (v:β):(List β→α)→α:=
  List.rec (motive:=fun _=>(List β→α)→α) (fun k=>k [v]) (fun x _ ih k=>ih fun r=>k (x::r)) l
theorem znN {β:Type}:∀(l:List β) (v:β) (k:List β→α),zxZ l v k=k (l++[v])
  | [],_,_=>rfl
  |x::r,v,k=>(znN r v fun r=>k (x::r)).trans (by simp)
end

structure Tab where
  und:TypeId→Option TypeDesc
  size:TypeId→Option Nat
  zero:TypeId→Option V
  bytes:TypeId→Option Nat
  glob:Nat→Option (List V)
  func:FuncId→Option Func
  ext:FuncId→Option (List V→Option V)
  lies:TypeId→Nat→Nat→TypeId→Bool
  eqs:TypeId→Bool:=fun _=>false
  gint:Nat→Bool:=fun _=>false
  meth:TypeId→String→Option FuncId:=fun _ _=>none

inductive OR where
  |val (v:V) (H:zaa)
  |pan (v:V) (H:zaa)
  |no
  deriving Inhabited

def zar (H:zaa)(n:Nat):Option Blk:=
 match H[n]? with
 |some (some blk)=>if blk.kind=.map then none else some blk
 |_=>none
def zng (v:V)(H:zaa)(blk:Blk):OR:=fSp blk.cells fun cs=>zxZ H (some {blk with cells:=cs}) fun H'=>.val v H'
def setB (v:V)(H:zaa)(n:Nat)(blk:Blk):OR:=fSp blk.cells fun cs=>setK H n (some {blk with cells:=cs}) fun H'=>.val v H'
theorem za2 (v:V)(H:zaa)(blk:Blk):zng v H blk=.val v (H++[some blk]):=by simp[zng,zfN,znN]
theorem zcK (v:V)(H:zaa)(n:Nat)(blk:Blk):setB v H n blk=.val v (H.set n (some blk)):=by simp[setB,zfN,setK_eq]

def zsm:Value→Option V
 | .int k n=>some (.i k n)
 | .bool x=>some (.b x)
 | .string s=>some (.s s.data.toList)
 | .pointer none=>some .nilp
 | .slice none 0 0=>some .nils
 | .nilFunc=>some .nilf
 | .nilIface=>some .nili
 | .map none=>some .nilm
 | .func (.func f) ⟨[]⟩ ⟨[]⟩=>some (.fn f [])
 | .tuple ⟨[]⟩=>some .un
 |_=>none
def zlq:List Value→Option (List V)
 | []=>some []
 |v::r=>match zsm v,zlq r with
  |some x,some l=>some (x::l)
  |_,_=>none
def zkq (v:Value):Option V:=
 match v with
 | .agg cs=>(zlq cs.toList).map .agg
 |v=>zsm v
def ev1 (t:Env):Operand→Option V
 | .tmp k=>some (t k)
 | .const v=>zkq v
 | .global g=>some (.gp g 0)
 | .func f=>some (.fn f [])
def evs (t:Env):List Operand→Option (List V)
 | []=>some []
 |o::r=>match ev1 t o,evs t r with
  |some x,some l=>some (x::l)
  |_,_=>none
def put (t:Env)(dst:Option Tmp)(v:V):Env:=
 match dst with
 |some d=>fun k=>if k=d then v else t k
 |none=>t
inductive Tr where
  |leaf
  |node (v:V) (l r:Tr)
  deriving Inhabited
noncomputable def Tr.get (t:Tr):Nat→V:=
 Tr.rec (motive:=fun _=>Nat→V) (fun _=>.un) (fun v _ _ gl gr n=>Bool.rec (Bool.rec (gr ((n-1)/2)) (gl ((n-1)/2)) (Nat.beq (n%2) 1)) v (Nat.beq n 0)) t
theorem zf3 {α:Type}(b:Bool)(x y:α):(Bool.rec x y b:α)=bif b then y else x:=by cases b<;>rfl
theorem Tr.get_leaf (n:Nat):Tr.leaf.get n=.un:=rfl
theorem Tr.get_node (v:V)(l r:Tr)(n:Nat):(Tr.node v l r).get n=bif Nat.beq n 0 then v else bif Nat.beq (n%2) 1 then l.get ((n-1)/2)else r.get ((n-1)/2):=by
 rw[←zf3,←zf3];rfl
def Tr.single (v:V):Nat→Nat→Tr
 |0,_=>.node v .leaf .leaf
 |f+1,n=>bif Nat.beq n 0 then .node v .leaf .leaf else bif Nat.beq (n%2) 1 then .node .un (single v f ((n-1)/2)) .leaf else .node .un .leaf (single v f ((n-1)/2))
noncomputable def Tr.setK {α:Type}(t:Tr):Nat→V→(Tr→α)→α:=
 Tr.rec (motive:=fun _=>Nat→V→(Tr→α)→α) (fun n v k=>k (.single v n n)) (fun w l r sl sr n v k=>Bool.rec (Bool.rec (sr ((n-1)/2) v fun r=>k (.node w l r)) (sl ((n-1)/2) v fun l=>k (.node w l r)) (Nat.beq (n%2) 1)) (k (.node v l r)) (Nat.beq n 0)) t
theorem Tr.setK_node {α:Type}(w:V)(l r:Tr)(n:Nat)(v:V)(k:Tr→α):(Tr.node w l r).setK n v k=bif Nat.beq n 0 then k (.node v l r)else bif Nat.beq (n%2) 1 then l.setK ((n-1)/2) v fun l=>k (.node w l r)else r.setK ((n-1)/2) v fun r=>k (.node w l r):=by
 rw[←zf3,←zf3];rfl
noncomputable def Tr.set (t:Tr)(n:Nat)(v:V):Tr:=t.setK n v id
theorem Tr.setK_eq {α:Type}:∀(t:Tr)(n:Nat)(v:V)(k:Tr→α),t.setK n v k=k (t.set n v)
 | .leaf,n,v,k=>rfl
 | .node w l r,n,v,k=>by
  simp only[Tr.set,Tr.setK_node];cases Nat.beq n 0
  ·cases Nat.beq (n%2) 1
   ·simp only[cond_false];rw[Tr.setK_eq r,Tr.setK_eq r];rfl
   ·simp only[cond_true,cond_false];rw[Tr.setK_eq l,Tr.setK_eq l];rfl
  ·rfl
theorem zcX (a b:Nat):Nat.beq a b=decide (a=b):=by
 cases h:Nat.beq a b
 ·exact(decide_eq_false (fun e=>by have:=Nat.ne_of_beq_eq_false h;exact this e)).symm
 ·exact(decide_eq_true (Nat.eq_of_beq_eq_true h)).symm
theorem Tr.get_single (v:V):∀(f n k:Nat),n≤f→(Tr.single v f n).get k=if k=n then v else .un
 |0,n,k,h=>by
  have:n=0:=by omega
  subst this;simp only[Tr.single,Tr.get_node,Tr.get_leaf,zcX];by_cases hk:k=0<;>simp[hk]
 |f+1,n,k,h=>by
  simp only[Tr.single,zcX];by_cases hn:n=0
  ·subst hn;simp only[decide_true,cond_true,Tr.get_node,Tr.get_leaf,zcX];by_cases hk:k=0<;>simp[hk]
  ·have ih:=Tr.get_single v f ((n-1)/2) ((k-1)/2) (by omega);simp only[decide_eq_false hn,cond_false];by_cases hm:n%2=1
   ·simp only[decide_eq_true hm,cond_true,Tr.get_node,Tr.get_leaf,zcX];by_cases hk:k=0
    ·simp only[decide_eq_true hk,cond_true];rw[if_neg (by omega)]
    ·simp only[decide_eq_false hk,cond_false];by_cases hj:k%2=1
     ·simp only[decide_eq_true hj,cond_true];rw[ih];by_cases e:k=n
      ·rw[if_pos e,if_pos (by omega)]
      ·rw[if_neg e,if_neg (by omega)]
     ·simp only[decide_eq_false hj,cond_false];rw[if_neg (by omega)]
   ·simp only[decide_eq_false hm,cond_false,Tr.get_node,Tr.get_leaf,zcX];by_cases hk:k=0
    ·simp only[decide_eq_true hk,cond_true];rw[if_neg (by omega)]
    ·simp only[decide_eq_false hk,cond_false];by_cases hj:k%2=1
     ·simp only[decide_eq_true hj,cond_true];rw[if_neg (by omega)]
     ·simp only[decide_eq_false hj,cond_false];rw[ih];by_cases e:k=n
      ·rw[if_pos e,if_pos (by omega)]
      ·rw[if_neg e,if_neg (by omega)]
theorem Tr.get_set (v:V):∀(t:Tr)(n k:Nat),(t.set n v).get k=if k=n then v else t.get k
 | .leaf,n,k=>by
  show(Tr.single v n n).get k=_;rw[Tr.get_single v n n k (Nat.le_refl _)];rfl
 | .node w l r,n,k=>by
  simp only[Tr.set,Tr.setK_node,zcX];by_cases hn:n=0
  ·subst hn;simp only[decide_true,cond_true,id,Tr.get_node,zcX];by_cases hk:k=0<;>simp[hk]
  ·simp only[decide_eq_false hn,cond_false];by_cases hm:n%2=1
   ·simp only[decide_eq_true hm,cond_true];rw[Tr.setK_eq];simp only[id,Tr.get_node,zcX];by_cases hk:k=0
    ·simp only[decide_eq_true hk,cond_true];rw[if_neg (by omega)]
    ·simp only[decide_eq_false hk,cond_false];by_cases hj:k%2=1
     ·simp only[decide_eq_true hj,cond_true];rw[Tr.get_set v l];by_cases e:k=n
      ·rw[if_pos e,if_pos (by omega)]
      ·rw[if_neg e,if_neg (by omega)]
     ·simp only[decide_eq_false hj,cond_false];rw[if_neg (by omega)]
   ·simp only[decide_eq_false hm,cond_false];rw[Tr.setK_eq];simp only[id,Tr.get_node,zcX];by_cases hk:k=0
    ·simp only[decide_eq_true hk,cond_true];rw[if_neg (by omega)]
    ·simp only[decide_eq_false hk,cond_false];by_cases hj:k%2=1
     ·simp only[decide_eq_true hj,cond_true];rw[if_neg (by omega)]
     ·simp only[decide_eq_false hj,cond_false];rw[Tr.get_set v r];by_cases e:k=n
      ·rw[if_pos e,if_pos (by omega)]
      ·rw[if_neg e,if_neg (by omega)]
structure Tm where
  wid:Nat
  tr:Tr
  deriving Inhabited
def Tm.get (t:Tm):Env:=t.tr.get
def Tm.put (t:Tm) (dst:Option Tmp) (v:V):Tm:=
  match dst with
  |some d=>⟨t.wid,t.tr.set d v⟩
  |none=>t
def Tm.fits (t:Tm)(dst:Option Tmp):Bool:=
 match dst with
 |some d=>Nat.blt d t.wid
 |none=>true
@[simp] theorem Tm.wid_put (t:Tm)(d:Option Tmp)(v:V):(t.put d v).wid=t.wid:=by cases d<;>rfl
theorem Tm.get_put (t:Tm)(d:Option Tmp)(v:V):(t.put d v).get=Ev.put t.get d v:=by
 cases d with
 |none=>rfl
 |some d=>funext k;exact Tr.get_set v t.tr d k
def ztC {α:Type} (t:Tm) (dst:Option Tmp) (v:V) (no:α) (k:Tm→α):α:=
  match dst with
  |some d=>bif Nat.blt d t.wid then t.tr.setK d v fun tr=>k ⟨t.wid,tr⟩else no
  |none=>k t
theorem zbI {α:Type}(t:Tm)(dst:Option Tmp)(v:V)(no:α)(k:Tm→α):ztC t dst v no k=if t.fits dst=true then k (t.put dst v)else no:=by
 cases dst with
 |none=>rfl
 |some d=>
  rw[show ztC t (some d) v no k=cond (t.fits (some d)) (k (t.put (some d) v)) no from by simp only[ztC,Tr.setK_eq];rfl,Bool.cond_eq_ite]
def Tr.fill:List V→Nat→Tr→Tr
 | [],_,t=>t
 |v::l,n,t=>Tr.fill l (n+1) (t.set n v)
def Tm.init (n:Nat)(args:List V):Tm:=⟨n,Tr.fill args 0 .leaf⟩
theorem Tr.get_fill:∀(l:List V)(n:Nat)(t:Tr)(k:Nat),(Tr.fill l n t).get k=if n≤k then(l[k-n]?).getD (t.get k)else t.get k
 | [],n,t,k=>by simp[Tr.fill]
 |v::l,n,t,k=>by
  simp only[Tr.fill];rw[Tr.get_fill l (n+1),Tr.get_set];by_cases h:n+1≤k
  ·rw[if_pos h,if_pos (show n≤k from by omega),if_neg (show ¬k=n from by omega),show k-n=(k-(n+1))+1 from by omega,List.getElem?_cons_succ]
  ·rw[if_neg h];by_cases e:k=n
   ·subst e;simp
   ·rw[if_neg e,if_neg (by omega)]
inductive Out where
  |norm (t:Tm) (H:zaa)
  |exit (id:Nat) (t:Tm) (H:zaa)
  |ret (t:Tm) (H:zaa)
  |pan (v:V) (t:Tm) (H:zaa)
  |no
  deriving Inhabited

def zb3:Option TypeDesc→Option Bool
 |some (.struct _)=>some true
 |some (.array _ _)=>some true
 |some _=>some false
 |none=>none
def cut (l:List V)(off n:Nat):Option (List V):=if off+n≤l.length then some ((l.drop off).take n)else none
def zby (T:Tab)(t:TypeId)(cells:List V)(off:Nat):Option V:=
 match zb3 (T.und t)with
 |some true=>match T.size t with
  |some n=>(cut cells off n).map .agg
  |none=>none
 |some false=>cells[off]?
 |none=>none
def splice (l:List V)(off:Nat)(x:List V):List V:=l.take off++x++l.drop (off+x.length)
def zae (T:Tab)(t:TypeId)(H:zaa):V→Option V
 | .ptr n off=>match zar H n with
  |some blk=>zby T t blk.cells off
  |none=>none
 | .ipt _ l i off=>match l[i]? with
  |some e=>zby T t e.cells off
  |none=>none
 | .gp g off=>match T.glob g with
  |some l=>zby T t l off
  |none=>none
 |_=>none
def zeF:V→Bool
 | .agg _=>false
 | .tup _=>false
 |_=>true
def zbO (T:Tab)(t:TypeId)(H:zaa)(a x:V):Option zaa:=
 match a with
 | .ptr n off=>match zar H n with
  |some blk=>
   if T.size t=some x.cells.length∧off+x.cells.length≤blk.cells.length∧x.cells.all zeF=true then
    fSp (splice blk.cells off x.cells) fun cs=>setK H n (some {blk with cells:=cs}) some
   else none
  |none=>none
 |_=>none
def zgv (d:Nat):V→Option V
 | .ptr n off=>some (.ptr n (off+d))
 | .ipt sz l i off=>some (.ipt sz l i (off+d))
 | .gp g off=>some (.gp g (off+d))
 |_=>none
def zbM (op:BinOp)(k:IntKind)(a b:Int):Option V:=
 match op with
 | .add=>some (.i k (k.wrap (a+b)))
 | .sub=>some (.i k (k.wrap (a-b)))
 | .mul=>some (.i k (k.wrap (a*b)))
 | .eql=>some (.b (a==b))
 | .neq=>some (.b (a !=b))
 | .lss=>some (.b (decide (a<b)))
 | .leq=>some (.b (decide (a≤b)))
 | .gtr=>some (.b (decide (a>b)))
 | .geq=>some (.b (decide (a≥b)))
 | .quo | .rem=>if b=0 then none else match Op.intDiv op k a b with
  | .pure v=>zsm v
  |_=>none
 | .and | .or | .xor | .andNot=>match Op.intBits op k a b with
  | .pure v=>zsm v
  |_=>none
 |_=>none
def zbn (op:BinOp)(k:IntKind)(a:Int)(yk:IntKind)(b:Int):Option V:=
 match Op.shift op k a yk b with
 | .pure v=>zsm v
 |_=>none
def zlc (op:BinOp) (a b:List UInt8):Option V:=
  match op with
  | .add=>if Nat.ble (a.length+b.length) 9223372036854775807=true then some (.s (a++b))else none
  | .eql=>some (.b (eqU a b))
  | .neq=>some (.b !(eqU a b))
  | .lss=>some (.b (Op.bytesLess a b))
  | .leq=>some (.b (Op.bytesLess a b||a==b))
  | .gtr=>some (.b !(Op.bytesLess a b||a==b))
  | .geq=>some (.b !(Op.bytesLess a b))
  |_=>none

def zuA (d:Option TypeDesc)(x y:V):Option Bool:=
 match d,x,y with
 |some .bool,.b p,.b q=>some (p==q)
 |some (.pointer _),.nilp,.nilp=>some true
 |some (.pointer _),.nilp,.ptr .. =>some false
 |some (.pointer _),.ptr ..,.nilp=>some false
 |some (.slice _),.nils,.nils=>some true
 |some (.slice _),.nils,.sl .. =>some false
 |some (.slice _),.sl ..,.nils=>some false
 |some (.slice _),.nils,.isl _ l=>if l.isEmpty=true then none else some false
 |some (.slice _),.isl _ l,.nils=>if l.isEmpty=true then none else some false
 |some (.slice _),.nils,.emp=>some false
 |some (.slice _),.emp,.nils=>some false
 |some (.pointer _),.nilp,.ipt .. =>some false
 |some (.pointer _),.ipt ..,.nilp=>some false
 |some (.func ..),.nilf,.nilf=>some true
 |some (.func ..),.nilf,.fn .. =>some false
 |some (.func ..),.fn ..,.nilf=>some false
 |some (.interface _),.nili,.ifc .. =>some false
 |some (.interface _),.ifc ..,.nili=>some false
 |_,_,_=>none
def eq1 (d:Option TypeDesc) (x y:Option V):Option Bool:=
  match d,x,y with
  |some .bool,some (.b p),some (.b q)=>some (p==q)
  |some (.int _),some (.i k a),some (.i k' b)=>if k=k' then some (a==b)else none
  |some .string,some (.s a),some (.s b)=>some (eqU a b)
  |_,_,_=>none
def zos (T:Tab) (xs ys:List V):List Field→Option Bool
  | []=>some true
  | f::l=>match eq1 (T.und f.type) xs[f.offset]? ys[f.offset]? with
    |some true=>zos T xs ys l
    |some false=>some false
    |none=>none

def zei (T:Tab) (t:TypeId) (x y:V):Option Bool:=
  match x,y with
  | .agg xs,.agg ys=>match T.und t with
    |some (.struct fs)=>if T.eqs t=true then zos T xs ys fs.toList else none
    |_=>none
  | .ptr n o,.ptr m q=>match T.und t with
    | some (.pointer e)=>match T.size e with
      |some s=>if s≠0∧n=m then some (o==q)else none
      |none=>none
    |_=>none
  |x,y=>zuA (T.und t) x y

def zeh (T:Tab) (op:BinOp) (xT:TypeId) (x y:V):Option V:=
  match x,y with
  | .i k a,.i k' b=>match op with
    | .shl | .shr=>zbn op k a k' b
    |_=>if k=k' then zbM op k a b else none
  | .s a,.s b=>zlc op a b
  | x,y=>match op with
    | .eql=>(zei T xT x y).map .b
    | .neq=>(zei T xT x y).map fun r=>.b !r
    |_=>none

def zdy (T:Tab) (op:BinOp) (xT:TypeId) (y:Operand) (p q:V):Option V:=
  match p,q,y with
  | .nili,.nili,.const _=>match T.und xT,op with
    |some (.interface _),.eql=>some (.b true)
    |some (.interface _),.neq=>some (.b false)
    |_,_=>none
  |p,q,_=>zeh T op xT p q

def zsb (op:UnOp)(x:V):Option V:=
 match op,x with
 | .not,.b y=>some (.b !y)
 | .neg,.i k n=>some (.i k (k.wrap (0-n)))
 | .xor,.i k n=>zbM .xor k (if k.signed then -1 else k.max) n
 |_,_=>none
def zgN (T:Tab)(src dst:TypeId)(x:V):Option V:=
 match T.und src,T.und dst,x with
 |some _,some (.int k),.i _ n=>some (.i k (k.wrap n))
 |some _,some .string,.i _ n=>some (.s (Utf8.encode n).data.toList)
 |some _,some .string,.s l=>some (.s l)
 |_,_,_=>none
def zdh (T:Tab)(H:zaa)(src dst:TypeId)(x:V):Option V:=
 match T.und src,T.und dst,x with
 |some (.pointer e),some .unsafePointer,.ptr n off=>match zar H n,T.size e with
  |some blk,some s=>if s≠0∧off<blk.cells.length then some (.ptr n off)else none
  |_,_=>none
 |some .unsafePointer,some (.pointer u),.ptr n off=>match zar H n,T.size u with
  |some blk,some s=>if s≠0∧blk.kind=.all∧T.lies blk.ty blk.cells.length off u=true then some (.ptr n off)else none
  |_,_=>none
 |_,_,_=>zgN T src dst x
def zkA:List V→Option (List Int)
 | []=>some []
 | .i .i32 n::l=>match zkA l with
  |some r=>some (n::r)
  |none=>none
 |_=>none
def zim (l:List UInt8):List V:=(Conv.runesFrom ⟨l.toArray⟩ l.length 0 #[]).toList.map fun v=>match v with
 | .int k n=>.i k n
 |_=>.tup []
def zho (ns:List Int):List UInt8:=(ns.foldl (fun r n=>r++Utf8.encode n) ByteArray.empty).data.toList
def zdU (d:Option TypeDesc) (x y:V):Option Bool:=
  match d,x,y with
  |some .string,.s a,.s b=>some (eqU a b)
  |some (.int _),.i k a,.i k' b=>if k=k' then some (a==b)else none
  |some .bool,.b a,.b b=>some (a==b)
  |_,_,_=>none
def zcG (d:Option TypeDesc)(x:V):Bool:=
 match d,x with
 |some .string,.s _=>true
 |some (.int _),.i _ _=>true
 |some .bool,.b _=>true
 |_,_=>false
def zdA (d:Option TypeDesc) (k v:V):List V→Option (List V)
  | k' :: v'::l=>match zdU d k k' with
    |some true=>some (k::v::l)
    | some false=>match zdA d k v l with
      |some r=>some (k'::v'::r)
      |none=>none
    |none=>none
  | [_]=>none
  | []=>some [k,v]
def zcT (d:Option TypeDesc) (k:V):List V→Option (Option V)
  | k'::v'::l=>match zdU d k k' with
    |some true=>some (some v')
    |some false=>zcT d k l
    |none=>none
  | [_]=>none
  | []=>some none
def zgW:List V→Option (List V)
 | .tup []::l=>some l
 |_=>none
def zdG (H:zaa)(n:Nat):Option Blk:=
 match H[n]? with
 |some (some blk)=>if blk.kind=.map∧(zgW blk.cells).isNone=true then some blk else none
 |_=>none
def ziZ (H:zaa)(n:Nat):Option Blk:=
 match H[n]? with
 |some (some blk)=>if blk.kind=.map then(match zgW blk.cells with
  |some l=>some {blk with cells:=l}
  |none=>none)else none
 |_=>none
def zcR (T:Tab) (ty:TypeId) (m k v:V) (H:zaa):OR:=
  match T.und ty,m with
  | some (.map kt _),.mp n=>match zdG H n with
    | some blk=>if zcG (T.und kt) k then match zdA (T.und kt) k v blk.cells with
        |some l=>setB .un H n {blk with cells:=l}
        |none=>.no
      else .no
    |none=>.no
  |_,_=>.no
def zbm (T:Tab) (ty:TypeId) (m k:V) (ok:Bool) (H:zaa):Option V:=
  match T.und ty,m with
  | some (.map kt et),.mp n=>match zdG H n with
    | some blk=>if zcG (T.und kt) k then match zcT (T.und kt) k blk.cells with
        |some (some v)=>some (if ok then .tup [v,.b true]else v)
        | some none=>match T.zero et with
          |some z=>some (if ok then .tup [z,.b false]else z)
          |none=>none
        |none=>none
      else none
    |none=>none
  |_,_=>none

def zcs:List V→Option (List UInt8)
 | []=>some []
 | .i .u8 n::l=>match zcs l with
  |some r=>some (n.toNat.toUInt8::r)
  |none=>none
 |_::_=>none
def zaJ (T:Tab) (pt:TypeId) (p len:V) (H:zaa):OR:=
  match p,len with
  | .nilp,.i _ 0=>.val (.s []) H
  | .ptr n off,.i _ m=>if m=0 then .val (.s []) H else if 0<m∧m≤1099511627776 then
      match T.und pt,zar H n with
      | some (.pointer e),some blk=>if blk.ty=e∧T.size e=some 1 then match cut blk.cells off m.toNat with
          | some l=>match zcs l with
            |some r=>setK H n (some {ty:=blk.ty,cells:=.tup []::blk.cells,kind:=.map}) fun H'=>.val (.s r) H'
            |none=>.no
          |none=>.no
        else .no
      | some (.pointer e),none=>match ziZ H n with
        | some blk=>if blk.ty=e∧T.size e=some 1 then match cut blk.cells off m.toNat with
          | some l=>match zcs l with
            |some r=>.val (.s r) H
            |none=>.no
          |none=>.no
          else .no
        |none=>.no
      |_,_=>.no
    else .no
  |_,_=>.no
def zdk (x:V):Option V:=
 match x with
 | .nils=>some .nilp
 | .sl n sz off len _=>if 0<len then some (.ptr n (off*sz))else none
 |_=>none
def zfq (place:Nat→Option (Nat×Nat))(cells:List V):List (Nat×V)→Option (List V)
 | []=>some cells
 |(i,v)::rest=>match place i with
  |none=>none
  |some (off,size)=>
   if v.cells.length=size∧off+v.cells.length≤cells.length then zfq place (splice cells off v.cells) rest else none
def zca (t:Env):List (Nat×Operand)→Option (List (Nat×V))
 | []=>some []
 |(i,o)::r=>match ev1 t o,zca t r with
  |some x,some l=>some ((i,x)::l)
  |_,_=>none
def zdq (T:Tab):List Field→Option (List (Nat×Nat))
 | []=>some []
 |f::r=>match T.size f.type,zdq T r with
  |some n,some l=>some ((f.offset,n)::l)
  |_,_=>none
def zer (T:Tab)(ty:TypeId)(parts:List (Nat×V)):Option V:=
 match T.zero ty,T.und ty with
 |some z,some (.struct fs)=>match zdq T fs.toList with
  |some pl=>(zfq (fun i=>pl[i]?) z.cells parts).map .agg
  |none=>none
 |some z,some (.array _ e)=>match T.size e with
  |some n=>(zfq (fun i=>some (i*n,n)) z.cells parts).map .agg
  |none=>none
 |_,_=>none
def zhP {α:Type}(n:Nat)(l:List α):List α:=
 match n with
 |0=>[]
 |n+1=>l++zhP n l
def zaY (T:Tab)(ty:TypeId)(len:Nat)(parts:List (Nat×V))(H:zaa):OR:=
 match T.und ty with
 |some (.slice e)=>match T.size e,T.zero e with
  |some n,some z=>
   if n=z.cells.length∧0<n∧len*n≤16777216 then
    match zfq (fun i=>some (i*n,n)) (zhP len z.cells) parts with
    |some cells=>zng (.sl H.length n 0 len (some len)) H {ty:=e,cells,kind:=.all}
    |none=>.no
   else .no
  |_,_=>.no
 |_=>.no
def zbc (T:Tab)(ty:TypeId)(len cap:V)(H:zaa):OR:=
 match T.und ty,len,cap with
 |some (.slice e),.i _ l,.i _ c=>match T.size e,T.zero e,T.bytes e with
  |some n,some z,some bs=>
   if n=z.cells.length∧0<n∧0≤l∧l≤c∧c*bs≤1099511627776∧c≤1099511627776 then
    zng (.sl H.length n 0 l.toNat (some c.toNat)) H {ty:=e,cells:=zhP c.toNat z.cells,kind:=.all}
   else .no
  |_,_,_=>.no
 |_,_,_=>.no
def zbJ (t:Env)(most dflt:Nat):Option Operand→Option Nat
 |none=>some dflt
 |some o=>match ev1 t o with
  |some (.i _ n)=>if 0≤n∧n≤most then some n.toNat else none
  |_=>none
def zcn (T : Tab) (ty:TypeId) (t:Env) (x:V) (lo hi mx:Option Operand):Option V:=
  match mx with
  |some _=>none
  | none => match x with
    | .s l =>match T.und ty with
      | some .string=>match zbJ t l.length l.length hi with
        | some h=>match zbJ t h 0 lo with
          |some k=>some (.s (zxM l k h))
          |none=>none
        |none=>none
      |_=>none
    | .isl sz l=>match T.und ty with
      | some (.slice e)=>if T.size e=some sz then match zbJ t l.length l.length hi with
          | some h=>match zbJ t h 0 lo with
            |some k=>some (.isl sz ((l.take h).drop k))
            |none=>none
          |none=>none
        else none
      |_=>none
    | .nils=>match T.und ty with
      | some (.slice e)=>match T.size e,zbJ t 0 0 hi,zbJ t 0 0 lo with
        |some _,some 0,some 0=>some .nils
        |_,_,_=>none
      |_=>none
    | .sl n sz off len cap=>match T.und ty with
      | some (.slice e)=>if T.size e=some sz then match zbJ t (cap.getD len) len hi with
          | some h=>match zbJ t h 0 lo with
            | some k=>match cap with
              |some c=>if c=k then some (.sl n sz off (h-k) (some 0))else some (.sl n sz (off+k) (h-k) (some (c-k)))
              |none=>if h=k∧0<k then some .emp else some (.sl n sz (off+k) (h-k) none)
            |none=>none
          |none=>none
        else none
      |_=>none
    | .ptr n off=>match T.und ty with
      | some (.array m e)=>match T.size e with
        | some sz=>if 0<sz∧off%sz=0 then match zbJ t m m hi with
            | some h=>match zbJ t h 0 lo with
              |some k=>if m=k then none else some (.sl n sz (off/sz+k) (h-k) (some (m-k)))
              |none=>none
            |none=>none
          else none
        |none=>none
      |_=>none
    |_=>none

def zb9 (T:Tab)(ty:TypeId)(x:V)(f:Nat):Option V:=
 match T.und ty with
 |some (.struct fs)=>match fs[f]? with
  |some fd=>match T.size fd.type with
   |some n=>if n=0 then none else zgv fd.offset x
   |none=>none
  |none=>none
 |_=>none
def zfm (T:Tab)(ty:TypeId)(x:V)(f:Nat):Option V:=
 match T.und ty,x with
 |some (.struct fs),.agg l=>match fs[f]? with
  |some fd=>zby T fd.type l fd.offset
  |none=>none
 |_,_=>none
def zbb (T:Tab)(ty:TypeId)(x ix:V):Option V:=
 match T.und ty,x,ix with
 |some (.slice e),.sl n sz off len _,.i _ j=>if T.size e=some sz∧0≤j∧j<len then some (.ptr n ((off+j.toNat)*sz))else none
 |some (.slice e),.isl sz l,.i _ j=>if T.size e=some sz∧0≤j∧j<l.length then some (.ipt sz l j.toNat 0)else none
 |some (.array len e),x,.i _ j=>match T.size e with
  |some n=>if 0≤j∧j<len then zgv (j.toNat*n) x else none
  |none=>none
 |_,_,_=>none
def zes (T:Tab) (ty:TypeId) (x ix:V):Option V:=
  match T.und ty,x,ix with
  | some (.array len e),.agg l,.i _ j=>match T.size e with
    |some n=>if 0≤j∧j<len then zby T e l (j.toNat*n)else none
    |none=>none
  |some .string,.s l,.i _ j=>if 0≤j then(zuD l j.toNat).map fun c=>.i .u8 c.toNat else none
  |_,_,_=>none

def zj5 (T:Tab)(ty:TypeId)(x:V):Option V:=
 match T.und ty,x with
 |some .string,.s l=>some (.i .i64 l.length)
 |some (.array n _),_=>some (.i .i64 n)
 |some (.slice _),.sl _ _ _ len _=>some (.i .i64 len)
 |some (.slice _),.isl _ l=>some (.i .i64 l.length)
 |some (.slice _),.nils=>some (.i .i64 0)
 |some (.slice _),.emp=>some (.i .i64 0)
 |_,_=>none
def za9 (_:Tab) (_:TypeId) (sz:Nat) (H:zaa):V→Option (List V×Nat)
  | .sl n s off len _=>if s=sz then match zar H n with
      |some blk=>(cut blk.cells (off*sz) (len*sz)).map fun c=>(c,len)
      |none=>none
    else none
  | .isl s l=>if s=sz∧l.all (fun v=>v.cells.length=sz)=true then some (l.flatMap V.cells,l.length)else none
  | .nils=>some ([],0)
  | .emp=>some ([],0)
  | .s l=>if sz=1 then some (l.map fun c=>.i .u8 c.toNat,l.length)else none
  |_=>none

def zaM (T : Tab) (ty:TypeId) (s x:V) (H:zaa):OR:=
  match T.und ty with
  | some (.slice e) => match T.size e,T.bytes e,T.zero e with
    | some sz, some bs, some z=>match za9 T e sz H x with
      |some (new,k)=>
        if 0 < sz ∧ z.cells.length=sz∧bs≤1000000∧new.all zeF=true then
          match s with
          | .nils=>if k=0 then .val .nils H else if k*bs≤1099511627776∧k≤1099511627776 then zng (.sl H.length sz 0 k none) H {ty:=e,cells:=new,kind:=.more}else .no
          | .sl n y off len cap=>if y=sz∧(len+k)*bs≤1099511627776∧len+k≤1099511627776 then match zar H n with
              | some blk =>match cut blk.cells (off*sz) (len*sz)with
                | some old=>
                  if k=0 then .val s H
                  else match cap with
                  | some c=>if len+k≤c then
                        (if(off+len+k)*sz≤blk.cells.length then setB (.sl n sz off (len+k) cap) H n {blk with cells:=splice blk.cells ((off+len)*sz) new}else .no)
                      else zng (.sl H.length sz 0 (len+k) none) H {ty:=e,cells:=old++new,kind:=.more}
                  | none=>if off=0∧len*sz=blk.cells.length∧blk.ty=e then
                      setK H n none fun H'=>zng (.sl H.length sz 0 (len+k) none) H' {ty:=e,cells:=old++new,kind:=.more}else .no
                |none=>.no
              |none=>.no
            else .no
          |_=>.no
        else .no
      |none=>.no
    |_,_,_=>.no
  |_=>.no

def zjy (H:zaa)(n:Nat):Option (List V):=match zar H n with
 |some b=>some b.cells
 |none=>(ziZ H n).map (·.cells)
def zdz (T:Tab)(ty:TypeId)(d s:V)(H:zaa):OR:=
 match T.und ty,d,s with
 |some (.slice e),.sl n sz off len _,.sl m sz2 off2 len2 _=>match zar H n,zjy H m with
  |some blk,some cs=>match cut cs off2 (Nat.min len2 len)with
   |some new=>if sz=1∧sz2=1∧T.size e=some 1∧new.all zeF=true∧off+new.length≤blk.cells.length then setB (.i .i64 (new.length:Nat)) H n {blk with cells:=splice blk.cells off new}else .no
   |none=>.no
  |_,_=>.no
 |_,_,_=>.no
def zq1 (op:Builtin)(x y:V):Option V:=
 match op,x,y with
 | .max,.i k a,.i _ b=>some (.i k (if b>a then b else a))
 | .min,.i k a,.i _ b=>some (.i k (if b<a then b else a))
 |_,_,_=>none
def lift (x:Option V)(H:zaa):OR:=
 match x with
 |some v=>.val v H
 |none=>.no
abbrev zad:=FuncId→List V→zaa→OR
def zb0 (T:Tab)(call:zad)(c:Call)(t:Env)(H:zaa):OR:=
 match evs t c.args.toList with
 |none=>.no
 |some args=>match c.callee with
  | .value f=>match ev1 t f with
   |some (.fn g cap)=>match T.ext g with
    |some F=>lift (F (args++cap)) H
    |none=>call g (args++cap) H
   |some (.bfn g fs)=>match T.ext g with
    |some _=>.no
    |none=>call g (fs++args) H
   |_=>.no
  | .invoke x name=>match ev1 t x with
   |some (.ifc ty v)=>match T.meth ty name with
    |some g=>match T.ext g with
     |some _=>.no
     |none=>call g (v::args) H
    |none=>.no
   |_=>.no
  | .builtin .copy=>match c.argTypes[0]?,args with
   |some ty,[d,s]=>zdz T ty d s H
   |_,_=>.no
  | .builtin .unsafeSliceData=>match args with
   | [x]=>lift (zdk x) H
   |_=>.no
  | .builtin .unsafeString=>match c.argTypes[0]?,args with
   |some ty,[p,l]=>zaJ T ty p l H
   |_,_=>.no
  | .builtin .len=>match c.argTypes[0]?,args with
   |some ty,[x]=>lift (zj5 T ty x) H
   |_,_=>.no
  | .builtin .append=>match c.argTypes[0]?,c.argTypes[1]?,args with
   |some ty,some ty2,[s,x]=>match T.und ty2 with
    |some (.slice _)=>zaM T ty s x H
    |some .string=>zaM T ty s x H
    |_=>.no
   |_,_,_=>.no
  | .builtin .max=>match args with
   | [x,y]=>lift (zq1 .max x y) H
   |_=>.no
  | .builtin .min=>match args with
   | [x,y]=>lift (zq1 .min x y) H
   |_=>.no
  |_=>.no
def zdg (T:Tab)(ty:TypeId)(ok:Bool)(p:V):Option V:=
 match T.und ty with
 |some (.interface _)=>none
 |none=>none
 |some _=>match p with
  | .ifc t v=>if t=ty then some (bif ok then .tup [v,.b true]else v)else bif ok then(T.zero ty).map fun z=>.tup [z,.b false]else none
  | .nili=>bif ok then(T.zero ty).map fun z=>.tup [z,.b false]else none
  |_=>none
def zaW (T:Tab) (src dst:TypeId) (p:V) (H:zaa):OR:=
  match T.und src,T.und dst,p with
  | some .string,some (.slice e),.s l=>match T.und e with
    |some (.int .u8)=>if Nat.beq src 9=true then zng (.sl H.length 1 0 l.length none) H {ty:=e,cells:=.tup []::l.map (fun c=>.i .u8 c.toNat),kind:=.map}else .no
    |some (.int .i32)=>if Nat.beq src 9=true∧l.length≤70368744177664 then zng (.sl H.length 1 0 (zim l).length none) H {ty:=e,cells:=zim l,kind:=.more}else .no
    |_=>.no
  | some (.slice e),some .string,.sl n sz off len _=>match T.und e,zar H n with
    | some (.int .i32),some blk=>if sz=1 then match cut blk.cells off len with
        | some cs=>match zkA cs with
          |some ns=>.val (.s (zho ns)) H
          |none=>.no
        |none=>.no
      else .no
    | some (.int .u8),some blk=>if sz=1 then match cut blk.cells off len with
        | some cs=>match zcs cs with
          |some r=>.val (.s r) H
          |none=>.no
        |none=>.no
      else .no
    |_,_=>.no
  |_,_,_=>lift (zdh T H src dst p) H

def zb6 (T:Tab) (call:zad) (o:Oper) (t:Env) (H:zaa):OR:=
  match o.op with
  | .move x=>lift (ev1 t x) H
  | .assign x=>lift (ev1 t x) H
  | .pick c a b=>match ev1 t c with
    |some (.b true)=>lift (ev1 t a) H
    |some (.b false)=>lift (ev1 t b) H
    |_=>.no
  | .alloc e=>match T.zero e with
    |some z=>zng (.ptr H.length 0) H {ty:=e,cells:=z.cells,kind:=.all}
    |none=>.no
  | .box e x=>match ev1 t x with
    |some v=>if v.cells.all zeF=true then zng (.ptr H.length 0) H {ty:=e,cells:=v.cells,kind:=.all}else .no
    |none=>.no
  | .build ty parts=>match zca t parts.toList with
    |some ps=>lift (zer T ty ps) H
    |none=>.no
  | .buildSlice ty len parts=>match zca t parts.toList with
    |some ps=>zaY T ty len ps H
    |none=>.no
  | .load ty a=>match ev1 t a with
    |some p=>lift (zae T ty H p) H
    |none=>.no
  | .store ty a x=>match ev1 t a,ev1 t x with
    | some p,some v=>match zbO T ty H p v with
      |some H'=>.val .un H'
      |none=>.no
    |_,_=>.no
  | .nilCheck x=>match ev1 t x with
    |some (.ptr n off)=>.val (.ptr n off) H
    |some (.gp g off)=>.val (.gp g off) H
    |some (.ipt sz l i off)=>.val (.ipt sz l i off) H
    |some (.fn g cap)=>.val (.fn g cap) H
    |_=>.no
  | .binOp op xT x y _=>match ev1 t x,ev1 t y with
    |some p,some q=>lift (zdy T op xT y p q) H
    |_,_=>.no
  | .unOp op _ x=>match ev1 t x with
    |some p=>lift (zsb op p) H
    |none=>.no
  | .convert src dst x=>match ev1 t x with
    |some p=>zaW T src dst p H
    |none=>.no
  | .makeInterface ty x=>match T.und ty,ev1 t x with
    |some (.interface _),_=>.no
    |some _,some v=>.val (.ifc ty v) H
    |_,_=>.no
  | .makeFunc (.func g) first captured=>match first.toList,evs t captured.toList with
    | [],some cs=>.val (.fn g cs) H
    | x::r,some []=>match evs t (x::r)with
      |some fs=>.val (.bfn g fs) H
      |none=>.no
    |_,_=>.no
  | .makeSlice ty len cap=>match ev1 t len,ev1 t cap with
    |some l,some c=>zbc T ty l c H
    |_,_=>.no
  | .slice ty x lo hi mx=>match ev1 t x with
    |some p=>lift (zcn T ty t p lo hi mx) H
    |none=>.no
  | .fieldAddr ty x f=>match ev1 t x with
    |some p=>lift (zb9 T ty p f) H
    |none=>.no
  | .field ty x f=>match ev1 t x with
    |some p=>lift (zfm T ty p f) H
    |none=>.no
  | .indexAddr ty x ix=>match ev1 t x,ev1 t ix with
    |some p,some q=>lift (zbb T ty p q) H
    |_,_=>.no
  | .index ty x ix=>match ev1 t x,ev1 t ix with
    |some p,some q=>lift (zes T ty p q) H
    |_,_=>.no
  | .extract x ix=>match ev1 t x with
    |some (.tup l)=>lift l[ix]? H
    |_=>.no
  | .makeMap ty r=>match r with
    |none=>zng (.mp H.length) H {ty,cells:=[],kind:=.map}
    | some o=>match T.und ty,ev1 t o with
      |some (.map _ _),some (.i _ _)=>zng (.mp H.length) H {ty,cells:=[],kind:=.map}
      |_,_=>.no
  | .mapUpdate ty m k v=>match ev1 t m,ev1 t k,ev1 t v with
    |some p,some q,some x=>zcR T ty p q x H
    |_,_,_=>.no
  | .insert ty m k v=>match ev1 t m,ev1 t k,ev1 t v with
    |some p,some q,some x=>zcR T ty p q x H
    |_,_,_=>.no
  | .lookup ty m k ok=>match ev1 t m,ev1 t k with
    |some p,some q=>lift (zbm T ty p q ok H) H
    |_,_=>.no
  | .call c=>zb0 T call c t H
  | .panic x=>match ev1 t x with
    |some (.ifc ty v)=>.pan (.ifc ty v) H
    |_=>.no
  | .typeAssert x _ ty ok=>match ev1 t x with
    |some p=>lift (zdg T ty ok p) H
    |none=>.no
  |_=>.no

def zaF (ops:Array Oper)(o:Oper)(t:Env):Option Bool:=
 match o.guard with
 |none=>some true
 |some (j,want)=>match(ops[j]?).bind (·.dst)with
  |none=>some false
  |some d=>match t d with
   | .b y=>some (y==want)
   | .tup []=>some false
   |_=>none
def zmp (op:Op) (v:V) {α:Type} (k:V→α):α:=
  match op with
  | .move (.tmp _)=>k v
  | .assign (.tmp _)=>k v
  | .pick .. =>k v
  | .extract .. =>k v
  | .nilCheck .. =>k v
  |_=>fV v k
theorem zbt (op:Op) (v:V) {α:Type} (k:V→α):zmp op v k=k v:=by
  unfold zmp
  split<;>first
    |rfl
    |exact zq5 v k

def zaI (step:Oper→Env→zaa→OR) (ops:Array Oper):List Oper→Tm→zaa→Out
  | [],t,H=>.norm t H
  | o :: r,t,H=>match zaF ops o t.get with
    | some true=>match step o t.get H with
      | .val v H'=>zmp o.op v fun v=>ztC t o.dst v .no fun t'=>zaI step ops r t' H'
      | .pan v H'=>.pan v t H'
      | .no=>.no
    |some false=>ztC t o.dst .un .no fun t'=>zaI step ops r t' H
    |none=>.no

def zbW (reg:Array Oper→Bool→Tm→zaa→Out) (loop:Code→Tm→zaa→Out):Code→Tm→zaa→Out
  | .skip,t,H=>.norm t H
  | .label _,t,H=>.norm t H
  | .region _ ops d,t,H=>reg ops d t H
  | .seq a c,t,H=>match zbW reg loop a t H with
    | .norm t' H'=>zbW reg loop c t' H'
    |o=>o
  | .cond c x y,t,H=>match ev1 t.get c with
    |some (.b true)=>zbW reg loop x t H
    |some (.b false)=>zbW reg loop y t H
    |_=>.no
  | .block id c,t,H=>match zbW reg loop c t H with
    | .exit j t' H'=>if j=id then .norm t' H' else .exit j t' H'
    |o=>o
  | .loop c,t,H=>match zbW reg loop c t H with
    | .norm t' H'=>loop c t' H'
    |o=>o
  | .exit id,t,H=>.exit id t H
  | .ret,t,H=>.ret t H
  |_,_,_=>.no

def zgQ (reg:Array Oper→Bool→Tm→zaa→Out):Nat→Code→Tm→zaa→Out
  |0,_,_,_=>.no
  |n+1,c,t,H=>zbW reg (zgQ reg n) (.loop c) t H

def zch (T:Tab)(t:Env)(H:zaa):ResultVar→Option V
 | .tmp k=>some (t k)
 | .cell a ty=>zae T ty H (t a)
def zbf (T:Tab)(t:Env)(H:zaa):List ResultVar→Option (List V)
 | []=>some []
 |r::rs=>match zch T t H r,zbf T t H rs with
  |some x,some l=>some (x::l)
  |_,_=>none
def zaR (T:Tab)(fn:Func)(t:Env)(H:zaa):OR:=
 match zbf T t H fn.results.toList with
 |some [x]=>.val x H
 |some l=>.val (.tup l) H
 |none=>.no
abbrev Gam:=FuncId→List V→zaa→Option OR
def zb1 (T:Tab) (reg:zad→Array Oper→Bool→Tm→zaa→Out) (G:Gam):Nat→zad
  |0,_,_,_=>.no
  | n + 1, f,args,H=>match G f args H with
    |some r=>r
    | none =>match T.func f with
      |none=>.no
      | some fn=>match fn.body with
        |none=>.no
        | some c=>bif Nat.ble args.length fn.ntmps then
          match zbW (reg (zb1 T reg G n)) (zgQ (reg (zb1 T reg G n)) n) c (Tm.init fn.ntmps args) H with
          | .norm t H'=>zaR T fn t.get H'
          | .ret t H'=>zaR T fn t.get H'
          | .pan v _ H'=>.pan v H'
          |_=>.no
        else .no

end
open Go

abbrev Mem:=Nat→Option Obj
def Mem.cell (M:Mem)(b o:Nat):Option Value:=
 match M b with
 |some (.cells cs _ _)=>cs[o]?
 |_=>none
abbrev Ren:=List (Nat×Nat)
mutual
def rel (M:Mem) (ρ:Ren):V→Value→Prop
  | .i k n,x=>x=.int k n
  | .b y,x=>x=.bool y
  | .s l,x=>x=.string ⟨l.toArray⟩
  | .agg l,x=>∃cs:List Value,x=.agg cs.toArray∧relL M ρ l cs
  | .tup l,x=>∃cs:List Value,x=.tuple cs.toArray∧relL M ρ l cs
  | .nilp,x=>x=.pointer none
  | .nils,x=>x=.slice none 0 0
  | .nilf,x=>x=.nilFunc
  | .nili,x=>x=.nilIface
  | .nilm,x=>x=.map none
  | .ptr n off,x=>∃b c,ρ[n]? = some (b,c)∧x=.pointer (some ⟨b,off,none⟩)
  | .sl n sz off len cap,x=>∃b c k,ρ[n]? = some (b,c)∧x=.slice (some ⟨b,off*sz,none⟩) len k∧len≤k∧(∀q,cap=some q→k=q)∧(cap=none→(off+k)*sz=c)
  | .emp,x=>∃a c,x=.slice (some a) 0 c
  | .fn g cap,x=>∃cs:List Value,x=.func (.func g) #[] cs.toArray∧relL M ρ cap cs
  | .ifc t v,x=>∃y,x=.iface t y∧rel M ρ v y
  | .isl sz l,x=>∃a k,x=.slice a l.length k∧l.length≤k∧(l≠[]→∃b o,a=some ⟨b,o,none⟩∧relRow M ρ sz l b o)
  | .ipt sz l i off,x=>∃b o,x=.pointer (some ⟨b,o+i*sz+off,none⟩)∧relRow M ρ sz l b o
  | .gp g off,x=>x=.pointer (some ⟨g,off,none⟩)
  | .mp n,x=>∃b c,ρ[n]? = some (b,c)∧x=.map (some b)
  | .yld l,x=>x=.func (.yield l) #[] #[]
  | .itr l,x=>x=.pointer (some ⟨l,0,none⟩)
  | .bfn g l,x=>∃cs:List Value,x=.func (.func g) cs.toArray #[]∧relL M ρ l cs
def relL (M:Mem) (ρ:Ren):List V→List Value→Prop
  | [],cs=>cs=[]
  |v::l,cs=>∃x r,cs=x::r∧rel M ρ v x∧relL M ρ l r
def relRow (M:Mem) (ρ:Ren) (sz:Nat):List V→Nat→Nat→Prop
  | [],_,_=>True
  |v::l,b,o=>(∃x:Value,rel M ρ v x∧x.cells.size=sz∧∀j c,x.cells[j]? = some c→M.cell b (o+j)=some c)∧relRow M ρ sz l b (o+sz)
end

def Mem.le (M M':Mem):Prop:=∀b o,M b=some o→M' b=some o
theorem Mem.le.refl (M:Mem):M.le M:=fun _ _ h=>h
theorem Mem.le.trans {A B C:Mem}(h:A.le B)(k:B.le C):A.le C:=fun b o e=>k b o (h b o e)
theorem Mem.le.cell {M M':Mem}(h:M.le M'){b o:Nat}{c:Value}(e:M.cell b o=some c):M'.cell b o=some c:=by
 unfold Mem.cell at *;cases hb:M b with
 |none=>simp[hb]at e
 |some ob=>rw[h b ob hb];rw[hb]at e;exact e
theorem zfy {ρ ρ':Ren}(h:ρ <+: ρ'){n:Nat}{x:Nat×Nat}(e:ρ[n]? = some x):ρ'[n]? = some x:=by
 obtain⟨t,rfl⟩:=h;have hn:n<ρ.length:=(List.getElem?_eq_some_iff.1 e).1;rw[List.getElem?_append_left hn];exact e
section
variable {M M':Mem}{ρ ρ':Ren}
mutual
theorem zbq (hM:M.le M') (hρ:ρ <+: ρ'):∀(v:V) (x:Value),rel M ρ v x→rel M' ρ' v x
  | .i ..,_,h=>by simpa[rel]using h
  | .b ..,_,h=>by simpa[rel]using h
  | .s ..,_,h=>by simpa[rel]using h
  | .nilp,_,h=>by simpa[rel]using h
  | .nils,_,h=>by simpa[rel]using h
  | .nilf,_,h=>by simpa[rel]using h
  | .nili,_,h=>by simpa[rel]using h
  | .nilm,_,h=>by simpa[rel]using h
  | .emp,_,h=>by simpa[rel]using h
  | .gp ..,_,h=>by simpa[rel]using h
  | .yld ..,_,h=>by simpa[rel]using h
  | .itr ..,_,h=>by simpa[rel]using h
  | .agg l,x,h=>by
    simp only[rel]at h ⊢
    obtain⟨cs,e,k⟩:=h
    exact⟨cs,e,relL_mono hM hρ l cs k⟩
  | .tup l,x,h=>by
    simp only[rel]at h ⊢
    obtain⟨cs,e,k⟩:=h
    exact⟨cs,e,relL_mono hM hρ l cs k⟩
  | .fn g l,x,h=>by
    simp only[rel]at h ⊢
    obtain⟨cs,e,k⟩:=h
    exact⟨cs,e,relL_mono hM hρ l cs k⟩
  | .bfn g l,x,h=>by
    simp only[rel]at h ⊢
    obtain⟨cs,e,k⟩:=h
    exact⟨cs,e,relL_mono hM hρ l cs k⟩
  | .ptr n off,x,h=>by
    simp only[rel]at h ⊢
    obtain⟨b,c,e,k⟩:=h
    exact⟨b,c,zfy hρ e,k⟩
  | .mp n,x,h=>by
    simp only[rel]at h ⊢
    obtain⟨b,c,e,k⟩:=h
    exact⟨b,c,zfy hρ e,k⟩
  | .sl n sz off len cap,x,h=>by
    simp only[rel]at h ⊢
    obtain⟨b,c,k,e,r⟩:=h
    exact⟨b,c,k,zfy hρ e,r⟩
  | .ifc t v,x,h=>by
    simp only[rel]at h ⊢
    obtain⟨y,e,k⟩:=h
    exact⟨y,e,zbq hM hρ v y k⟩
  | .isl sz l,x,h=>by
    simp only[rel]at h ⊢
    obtain⟨a,k,e,hk,hr⟩:=h
    refine⟨a,k,e,hk,fun hl=>?_⟩
    obtain⟨b,o,ha,hr⟩:=hr hl
    exact⟨b,o,ha,relRow_mono hM hρ sz l b o hr⟩
  | .ipt sz l i off,x,h=>by
    simp only[rel]at h ⊢
    obtain⟨b,o,ha,hr⟩:=h
    exact⟨b,o,ha,relRow_mono hM hρ sz l b o hr⟩
theorem relL_mono (hM:M.le M') (hρ:ρ <+: ρ'):∀(l:List V) (cs:List Value),relL M ρ l cs→relL M' ρ' l cs
  | [],_,h=>by simpa[relL]using h
  | v::l,cs,h=>by
    simp only[relL]at h ⊢
    obtain⟨x,r,e,hx,hr⟩:=h
    exact⟨x,r,e,zbq hM hρ v x hx,relL_mono hM hρ l r hr⟩
theorem relRow_mono (hM:M.le M') (hρ:ρ <+: ρ') (sz:Nat):∀(l:List V) (b o:Nat),relRow M ρ sz l b o→relRow M' ρ' sz l b o
  | [],_,_,_=>by simp[relRow]
  | v::l,b,o,h=>by
    simp only[relRow]at h ⊢
    obtain⟨⟨x,hx,hs,hc⟩,hr⟩:=h
    exact⟨⟨x,zbq hM hρ v x hx,hs,fun j c hj=>hM.cell (hc j c hj)⟩,relRow_mono hM hρ sz l b (o+sz) hr⟩
end

theorem zal:∀{l:List V}{cs:List Value},relL M ρ l cs→cs.length=l.length
 | [],cs,h=>by simp only[relL]at h;subst h;rfl
 |v::l,cs,h=>by
  simp only[relL]at h;obtain⟨x,r,rfl,_,hr⟩:=h;simp[zal hr]
theorem zds:relL M ρ [] []:=by simp[relL]
theorem zaz {v:V}{x:Value}{l:List V}{cs:List Value}(h:rel M ρ v x)(k:relL M ρ l cs):relL M ρ (v::l) (x::cs):=by
 simp only[relL];exact⟨x,cs,rfl,h,k⟩
theorem zaX:∀{l:List V}{cs:List Value}(_:relL M ρ l cs){i:Nat}{v:V},l[i]? = some v→∃x,cs[i]? = some x∧rel M ρ v x
 | [],_,_,i,v,e=>by simp at e
 |u::l,cs,h,i,v,e=>by
  simp only[relL]at h;obtain⟨x,r,rfl,hx,hr⟩:=h;cases i with
  |zero=>simp at e;subst e;exact⟨x,rfl,hx⟩
  |succ i=>simp at e ⊢;exact zaX hr e
theorem za3:∀{l l':List V}{cs cs':List Value},relL M ρ l cs→relL M ρ l' cs'→relL M ρ (l++l') (cs++cs')
 | [],_,cs,_,h,k=>by simp only[relL]at h;subst h;simpa using k
 |v::l,l',cs,cs',h,k=>by
  simp only[relL]at h;obtain⟨x,r,rfl,hx,hr⟩:=h;exact zaz hx (za3 hr k)
theorem zc8:∀(n:Nat){l:List V}{cs:List Value},relL M ρ l cs→relL M ρ (l.drop n) (cs.drop n)
 |0,_,_,h=>by simpa using h
 |n+1,[],cs,h=>by simp only[relL]at h;subst h;simp[relL]
 |n+1,v::l,cs,h=>by
  simp only[relL]at h;obtain⟨x,r,rfl,hx,hr⟩:=h;simpa using zc8 n hr
theorem zc9:∀(n:Nat){l:List V}{cs:List Value},relL M ρ l cs→relL M ρ (l.take n) (cs.take n)
 |0,_,_,h=>by simp[relL]
 |n+1,[],cs,h=>by simp only[relL]at h;subst h;simp[relL]
 |n+1,v::l,cs,h=>by
  simp only[relL]at h;obtain⟨x,r,rfl,hx,hr⟩:=h;simpa using zaz hx (zc9 n hr)
theorem zmt:∀(n:Nat){l:List V}{cs:List Value}{v:V}{x:Value},relL M ρ l cs→rel M ρ v x→relL M ρ (l.set n v) (cs.set n x)
 |_,[],cs,v,x,h,_=>by simp only[relL]at h;subst h;simp[relL]
 |0,u::l,cs,v,x,h,hv=>by
  simp only[relL]at h;obtain⟨y,r,rfl,hy,hr⟩:=h;exact zaz hv hr
 |n+1,u::l,cs,v,x,h,hv=>by
  simp only[relL]at h;obtain⟨y,r,rfl,hy,hr⟩:=h;exact zaz hy (zmt n hr hv)
theorem zhj {l x:List V}{cs ys:List Value}(off:Nat)(h:relL M ρ l cs)(k:relL M ρ x ys):relL M ρ (splice l off x) (cs.take off++ys++cs.drop (off+ys.length)):=by
 unfold splice;rw[zal k];exact za3 (za3 (zc9 off h) k) (zc8 _ h)
theorem za4:rel M ρ .un undef:=by simp only[rel];exact⟨[],rfl,zds⟩
theorem zd9 {v:Value}{x:V}(h:zsm v=some x):rel M ρ x v:=by
 unfold zsm at h;split at h<;>first|(cases h;simp[rel,relL])|cases h
theorem zkp:∀{l:List Value}{xs:List V},zlq l=some xs→relL M ρ xs l
 | [],xs,h=>by simp only[zlq,Option.some.injEq]at h;subst h;simp[relL]
 |v::r,xs,h=>by
  simp only[zlq]at h;split at h
  ·rename_i x l hx hl;cases h;exact zaz (zd9 hx) (zkp hl)
  ·cases h
theorem zb4 {v:Value}{x:V}(h:zkq v=some x):rel M ρ x v:=by
 unfold zkq at h;split at h
 ·rename_i cs;cases hc:zlq cs.toList with
  |none=>simp[hc]at h
  |some l=>
   simp[hc]at h;subst h;simp only[rel];exact⟨cs.toList,by simp,zkp hc⟩
 ·exact zd9 h
def zig (M:Mem)(ρ:Ren)(t:Env)(tmps:Array Value):Prop:=∀k,rel M ρ (t k) (tmps.getD k undef)
theorem ze4 (hM:M.le M')(hρ:ρ <+: ρ'){t:Env}{tmps:Array Value}(h:zig M ρ t tmps):zig M' ρ' t tmps:=fun k=>zbq hM hρ _ _ (h k)
def zaK (M:Mem)(ρ:Ren)(t:Tm)(tmps:Array Value):Prop:=t.wid=tmps.size∧zig M ρ t.get tmps
theorem zaT (hM:M.le M')(hρ:ρ <+: ρ'){t:Tm}{tmps:Array Value}(h:zaK M ρ t tmps):zaK M' ρ' t tmps:=⟨h.1,ze4 hM hρ h.2⟩
theorem zat {t:Env}{a:Act}(h:zig M ρ t a.tmps){o:Operand}{v:V}(e:ev1 t o=some v):rel M ρ v (a.eval o):=by
 cases o with
 |tmp k=>
  simp only[ev1,Option.some.injEq]at e;subst e;exact h k
 |const v=>exact zb4 e
 |global g=>simp only[ev1,Option.some.injEq]at e;subst e;simp[rel,Act.eval]
 |func f=>simp only[ev1,Option.some.injEq]at e;subst e;simp[rel,Act.eval,relL]
theorem zeu {t:Env}{a:Act}(h:zig M ρ t a.tmps):∀{l:List Operand}{vs:List V},evs t l=some vs→relL M ρ vs (l.map a.eval)
 | [],vs,e=>by simp only[evs,Option.some.injEq]at e;subst e;simp[relL]
 |o::r,vs,e=>by
  simp only[evs]at e;split at e
  ·rename_i x l hx hl;cases e;exact zaz (zat h hx) (zeu h hl)
  ·cases e
theorem zea {t:Env}{a:Act}(h:zig M ρ t a.tmps){v:V}{x:Value}(hv:rel M ρ v x)(d:Option Tmp)(hd:∀e,d=some e→e<a.tmps.size):zig M ρ (put t d v) (a.put d x).tmps:=by
 cases d with
 |none=>exact h
 |some d=>
  intro k;have hd:=hd d rfl;simp only[put,Act.put,Array.getD_eq_getD_getElem?,Array.getElem?_setIfInBounds];by_cases e:k=d
  ·subst e;simpa[hd]using hv
  ·have e':¬d=k:=fun h=>e h.symm;simpa[e,e',Array.getD_eq_getD_getElem?]using h k
theorem zlh {t:Tm}{d:Option Tmp}(h:t.fits d=true):∀e,d=some e→e<t.wid:=by
 intro e he;subst he;simpa[Tm.fits,Nat.blt_eq]using h
theorem zbx {t:Tm}{a:Act}(h:zaK M ρ t a.tmps){v:V}{x:Value}(hv:rel M ρ v x)(d:Option Tmp)(hd:t.fits d=true):zaK M ρ (t.put d v) (a.put d x).tmps:=by
 refine⟨?_,?_⟩
 ·rw[Tm.wid_put,h.1];cases d<;>simp[Act.put]
 ·rw[Tm.get_put];exact zea h.2 hv d (by have:=zlh hd;rwa [h.1]at this)
theorem zbh {v:V}{x:Value}(h:rel M ρ v x):relL M ρ v.cells x.cells.toList:=by
 cases v with
 |agg l=>
  simp only[rel]at h;obtain⟨cs,rfl,h⟩:=h;simpa[V.cells,Value.cells]using h
 |_=>
  have:x.cells=#[x]:=by
   simp only[rel]at h;first
    |(subst h;rfl)
    |(obtain⟨_,rfl,_⟩:=h;rfl)
    |(obtain⟨_,_,_,rfl⟩:=h;rfl)
    |(obtain⟨_,_,_,_,rfl,_⟩:=h;rfl)
    |(obtain⟨_,_,rfl⟩:=h;rfl)
    |(obtain⟨_,_,rfl,_⟩:=h;rfl)
  rw[this];exact zaz h zds
theorem zq6 {v:V}{x:Value}(h:rel M ρ v x)(hf:zeF v=true):(∀cs,x≠.agg cs)∧∀cs,x≠.tuple cs:=by
 cases v<;>simp only[rel]at h<;>first
  |(simp[zeF]at hf;done)
  |(subst h;simp)
  |(obtain⟨_,rfl,_⟩:=h;simp)
  |(obtain⟨_,_,_,rfl⟩:=h;simp)
  |(obtain⟨_,_,_,_,rfl,_⟩:=h;simp)
  |(obtain⟨_,_,rfl⟩:=h;simp)
  |(obtain⟨_,_,rfl,_⟩:=h;simp)
end

def zeH (M:Mem)(ρ:Ren):List V→List MapEntry→Prop
 |k::v::l,es=>∃e r,es=e::r∧rel M ρ k e.key∧rel M ρ v e.val∧zeH M ρ l r
 | [_],_=>False
 | [],es=>es=[]
theorem zkv {M M':Mem}{ρ ρ':Ren}(hM:M.le M')(hρ:ρ <+: ρ'):∀(l:List V)(es:List MapEntry),zeH M ρ l es→zeH M' ρ' l es
 |k::v::l,es,h=>by
  simp only[zeH]at h ⊢;obtain⟨e,r,he,hk,hv,hr⟩:=h;exact⟨e,r,he,zbq hM hρ _ _ hk,zbq hM hρ _ _ hv,zkv hM hρ l r hr⟩
 | [_],_,h=>by simp only[zeH]at h
 | [],es,h=>by simpa[zeH]using h
def zdb (es:List MapEntry)(clock:Nat):Prop:=(∀e∈es,e.born<clock)∧(es.map (·.born)).Nodup
def zbS (M:Mem)(ρ:Ren)(ob:Option Obj)(blk:Blk)(c:Nat):Prop:=
 match blk.kind with
 | .map=>(∃(es:List MapEntry)(clock:Nat),ob=some (.map es.toArray clock)∧zeH M ρ blk.cells es∧(zgW blk.cells).isNone=true∧zdb es clock) ∨
  ∃(l:List V)(cs cs':List Value)(fr:Nat×Nat),zgW blk.cells=some l∧(cs++cs').length=c∧ob=some (.cells (cs++cs').toArray blk.ty fr)∧relL M ρ l cs
 |k=>∃cs cs':List Value,(cs++cs').length=c∧ob=some (.cells (cs++cs').toArray blk.ty (0,0))∧relL M ρ blk.cells cs∧(k=.all→cs'=[])
theorem zbS.mono {M M':Mem}{ρ ρ':Ren}(hM:M.le M')(hρ:ρ <+: ρ'){ob:Option Obj}{blk:Blk}{c:Nat}(h:zbS M ρ ob blk c):zbS M' ρ' ob blk c:=by
 unfold zbS at h ⊢;split at h
 ·rcases h with⟨es,clock,h1,h2,h5⟩|⟨l,cs,cs',fr,h1,h2,h3,h4⟩
  ·exact .inl ⟨es,clock,h1,zkv hM hρ _ _ h2,h5⟩
  ·exact .inr ⟨l,cs,cs',fr,h1,h2,h3,relL_mono hM hρ _ _ h4⟩
 ·obtain⟨cs,cs',h1,h2,h3,h4⟩:=h;exact⟨cs,cs',h1,h2,relL_mono hM hρ _ _ h3,h4⟩
theorem zbS.cells {M:Mem}{ρ:Ren}{ob:Option Obj}{blk:Blk}{c:Nat}(h:zbS M ρ ob blk c)(hk:blk.kind≠.map) :
 ∃cs cs':List Value,(cs++cs').length=c∧ob=some (.cells (cs++cs').toArray blk.ty (0,0))∧relL M ρ blk.cells cs∧(blk.kind=.all→cs'=[]):=by
 unfold zbS at h;split at h
 ·rename_i e;exact absurd e hk
 ·exact h
theorem zbS.of_cells {M:Mem}{ρ:Ren}{ob:Option Obj}{blk:Blk}{c:Nat}(hk:blk.kind≠.map)(h:∃cs cs':List Value,(cs++cs').length=c∧ob=some (.cells (cs++cs').toArray blk.ty (0,0))∧relL M ρ blk.cells cs∧(blk.kind=.all→cs'=[])):zbS M ρ ob blk c:=by
 unfold zbS;split
 ·rename_i e;exact absurd e hk
 ·exact h
structure SR (T:Tab) (M:Mem) (ρ:Ren) (H:zaa) (w:World):Prop where
  frozen:∀b o,M b=some o→w.heap[b]? = some o
  len:ρ.length=H.length
  blk:∀(n:Nat)(blk:Blk),H[n]? = some (some blk)→∃b c,ρ[n]? = some (b,c)∧M b=none∧b<w.heap.size∧zbS M ρ w.heap[b]? blk c
  inj:∀(n m:Nat)(x y:Blk)(b c c':Nat),H[n]? = some (some x)→H[m]? = some (some y)→ρ[n]? = some (b,c)→ρ[m]? = some (b,c')→n=m
  glob:∀g l,T.glob g=some l→∃(cs:List Value)(ty:TypeId)(fr:Nat×Nat),M g=some (.cells cs.toArray ty fr)∧relL M ρ l cs
  gint:∀g,T.gint g=true→∃(m:Int)(ty:TypeId)(fr:Nat×Nat),M g=some (.cells #[.int .i64 m] ty fr)
theorem zbk {H:zaa}{n:Nat}{blk:Blk}(h:zar H n=some blk):H[n]? = some (some blk)∧blk.kind≠.map:=by
 unfold zar at h;split at h
 ·rename_i b hb;split at h
  ·cases h
  ·rename_i hk;cases h;exact⟨hb,hk⟩
 ·cases h
theorem SR.cells {T:Tab}{M:Mem}{ρ:Ren}{H:zaa}{w:World}(h:SR T M ρ H w){n:Nat}{blk:Blk}(hb:zar H n=some blk):∃b c,∃cs cs':List Value,ρ[n]? = some (b,c)∧M b=none∧(cs++cs').length=c ∧
 w.heap[b]? = some (.cells (cs++cs').toArray blk.ty (0,0))∧relL M ρ blk.cells cs∧(blk.kind=.all→cs'=[]):=by
 obtain⟨h1,h2⟩:=zbk hb;obtain⟨b,c,hr,hM,_,hok⟩:=h.blk n blk h1;obtain⟨cs,cs',h3,h4,h5,h6⟩:=hok.cells h2;exact⟨b,c,cs,cs',hr,hM,h3,h4,h5,h6⟩
structure Ext (M:Mem) (ρ:Ren) (w:World) (M':Mem) (ρ':Ren) (w':World):Prop where
  os:w'.os=w.os
  tape:w'.tape=w.tape
  output:w'.output=w.output
  size:w.heap.size≤w'.heap.size
  mem:M.le M'
  pre:ρ <+: ρ'
  frame:∀b,b<w.heap.size→(∀c,(b,c)∉ρ)→w'.heap[b]? = w.heap[b]?
  newM:∀b,b<w.heap.size→(∀c,(b,c)∉ρ)→M' b=M b
  newR:∀b c,(b,c)∈ρ'→(∃c',(b,c')∈ρ)∨w.heap.size≤b

theorem Ext.refl (M:Mem)(ρ:Ren)(w:World):Ext M ρ w M ρ w:=
 ⟨rfl,rfl,rfl,Nat.le_refl _,Mem.le.refl _,List.prefix_refl _,fun _ _ _=>rfl,fun _ _ _=>rfl,fun _ c h=>.inl ⟨c,h⟩⟩
theorem Ext.trans {M M' M'':Mem} {ρ ρ' ρ'':Ren} {w w' w'':World} (h:Ext M ρ w M' ρ' w') (k:Ext M' ρ' w' M'' ρ'' w''):Ext M ρ w M'' ρ'' w'' where
  os:=k.os.trans h.os
  tape:=k.tape.trans h.tape
  output:=k.output.trans h.output
  size:=Nat.le_trans h.size k.size
  mem:=h.mem.trans k.mem
  pre:=h.pre.trans k.pre
  frame b hb hn:=(k.frame b (Nat.lt_of_lt_of_le hb h.size) (fun c hc=>by
    rcases h.newR b c hc with⟨c',h'⟩|h'
    · exact hn c' h'
    · omega)).trans (h.frame b hb hn)
  newM b hb hn:=(k.newM b (Nat.lt_of_lt_of_le hb h.size) (fun c hc=>by
    rcases h.newR b c hc with⟨c',h'⟩|h'
    · exact hn c' h'
    · omega)).trans (h.newM b hb hn)
  newR b c hc:=by
    rcases k.newR b c hc with⟨c',h'⟩|h'
    · exact h.newR b c' h'
    · exact .inr (Nat.le_trans h.size h')
theorem Ext.drew (M:Mem)(ρ:Ren)(w:World):Ext M ρ w M ρ {w with drawn:=w.drawn+1}:=
 ⟨rfl,rfl,rfl,Nat.le_refl _,Mem.le.refl _,List.prefix_refl _,fun _ _ _=>rfl,fun _ _ _=>rfl,fun _ c h=>.inl ⟨c,h⟩⟩
theorem SR.drew {T:Tab}{M:Mem}{ρ:Ren}{H:zaa}{w:World}(h:SR T M ρ H w):SR T M ρ H {w with drawn:=w.drawn+1}:=⟨h.frozen,h.len,h.blk,h.inj,h.glob,h.gint⟩
open Go

structure TOk (P:Program) (T:Tab):Prop where
  und:∀t d,T.und t=some d→P.underlying t=some d
  size:∀t n,T.size t=some n→∃i,P.info? t=some i∧i.size=n
  zero:∀t z,T.zero t=some z→∃i v,P.info? t=some i∧i.zero=some v∧zkq v=some z
  bytes:∀t n,T.bytes t=some n→∃i,P.info? t=some i∧i.bytes=n
  func:∀f fn c,T.func f=some fn→fn.body=some c→P.funcs[f]? = some fn∧Go.Proofs.Enters P f
  mixed:P.follows .mixedOrders=true
  ext:∀g F,T.ext g=some F→∀(M:Mem)(ρ:Ren)(vs:List V)(args:List Value)(v:V),relL M ρ vs args→F vs=some v→∃x,(∀w,(callFunc g args.toArray).run P w=.ok (.value x) w)∧rel M ρ v x
  lies:∀e n off u,T.lies e n off u=true→liesAt P P.depth e (n/P.cellsOf e) off u 1=true
  meth:∀t n g,T.meth t n=some g→∀(v:Value)(w:World),(method (P.types.size+Made.depth) t v n).run P w=.ok (g,v) w
  eqs:∀t,T.eqs t=true→P.stoodInHeld t=false∧P.eqGuardType P.depth t=false∧∀fs,P.underlying t=some (.struct fs)→∀f∈fs.toList,f.name≠ "_"

section
variable {P:Program}{T:Tab}{M:Mem}{ρ:Ren}{w:World}

theorem TOk.run_und (h:TOk P T){t:TypeId}{d:TypeDesc}(e:T.und t=some d)(w:World):(underlying t).run P w=.ok d w:=run_underlying (h.und t d e) w
theorem TOk.run_size (h:TOk P T){t:TypeId}{n:Nat}(e:T.size t=some n)(w:World):(sizeOf t).run P w=.ok n w:=by
 obtain⟨i,hi,rfl⟩:=h.size t n e;simp[sizeOf,typeInfo,hi]
theorem TOk.run_zero (h:TOk P T){t:TypeId}{z:V}(e:T.zero t=some z):∃v,zkq v=some z∧∀w,(zeroValue t).run P w=.ok v w:=by
 obtain⟨i,v,hi,hv,hz⟩:=h.zero t z e;exact⟨v,hz,fun w=>by simp[zeroValue,typeInfo,hi,hv]⟩
theorem TOk.run_info (h:TOk P T){t:TypeId}{n:Nat}(e:T.bytes t=some n):∃i,i.bytes=n∧∀w,(typeInfo t).run P w=.ok i w:=by
 obtain⟨i,hi,rfl⟩:=h.bytes t n e;exact⟨i,rfl,fun w=>by simp[typeInfo,hi]⟩
theorem TOk.run_isAgg (h:TOk P T){t:TypeId}{b:Bool}(e:zb3 (T.und t)=some b)(w:World):(isAgg t).run P w=.ok b w:=by
 cases hd:T.und t with
 |none=>simp[hd,zb3]at e
 |some d=>
  have hr:=h.run_und hd;rw[hd]at e;unfold isAgg;cases d<;>simp[zb3]at e<;>subst e<;>simp[hr]
def zhB (M:Mem)(ρ:Ren)(w:World)(b o:Nat)(l:List V):Prop:=∀(j:Nat)(u:V),l[j]? = some u→∃x,w.cell? ⟨b,o+j,none⟩=some x∧rel M ρ u x
theorem zbP (b o j:Nat):(⟨b,o,none⟩:Addr).add j=⟨b,o+j,none⟩:=by unfold Addr.add;split<;>simp_all
theorem zfU (b o:Nat):∀(n i:Nat) (acc:Array Value) (cs:List Value),cs.length=n→(∀j x,cs[j]? = some x→w.cell? ⟨b,o+(i+j),none⟩=some x) →
    (loadCellsFrom ⟨b,o,none⟩ i n acc).run P w=.ok (acc++cs.toArray) w
  | 0,i,acc,cs,hl,_=>by
    obtain rfl:=List.eq_nil_of_length_eq_zero hl
    simp[loadCellsFrom]
  |n+1,i,acc,[],hl,_=>by simp at hl
  | n+1,i,acc,x::cs,hl,h=>by
    have h0:=h 0 x rfl
    have ih:=zfU b o n (i+1) (acc.push x) cs (by simpa using hl) (fun j y hj=>by have:=h (j+1) y (by simpa using hj);rwa [show i+(j+1)=i+1+j from by omega]at this)
    simp only[Nat.add_zero]at h0
    simp only[loadCellsFrom,zbP,load]
    simp[Sem.run,h0,ih]
theorem zdt (b o n:Nat)(cs:List Value)(hl:cs.length=n)(h:∀(j:Nat)(x:Value),cs[j]? = some x→w.cell? ⟨b,o+j,none⟩=some x):(loadCells ⟨b,o,none⟩ n).run P w=.ok cs.toArray w:=by
 have:=zfU (P:=P) (w:=w) b o n 0 #[] cs hl (by simpa using h);simpa[loadCells]using this
theorem zhB.vals {b o:Nat}:∀{l:List V},zhB M ρ w b o l→∃cs,relL M ρ l cs∧∀(j:Nat)(x:Value),cs[j]? = some x→w.cell? ⟨b,o+j,none⟩=some x:=by
 intro l;induction l generalizing o with
 |nil=>exact fun _=>⟨[],zds,by simp⟩
 |cons v l ih=>
  intro h;obtain⟨x,hx,hr⟩:=h 0 v rfl;obtain⟨cs,hcs,hc⟩:=ih (o:=o+1) (fun j u hj=>by have:=h (j+1) u (by simpa using hj);rwa [show o+(j+1)=o+1+j from by omega]at this);refine⟨x::cs,zaz hr hcs,fun j y hj=>?_⟩;cases j with
  |zero=>simp at hj;subst hj;exact hx
  |succ j=>have:=hc j y (by simpa using hj);rwa [show o+(j+1)=o+1+j from by omega]
theorem zdd {l:List V}{off n:Nat}{r:List V}(h:cut l off n=some r):r=(l.drop off).take n∧off+n≤l.length:=by
 unfold cut at h;split at h
 ·cases h;exact⟨rfl,by assumption⟩
 ·cases h
theorem zkZ {l:List V}{off n:Nat}{r:List V}(h:cut l off n=some r){j:Nat}{u:V}(e:r[j]? = some u):l[off+j]? = some u:=by
 obtain⟨rfl,_⟩:=zdd h;have hj:j<n:=by
  have:=(List.getElem?_eq_some_iff.1 e).1;simp only[List.length_take]at this;omega
 rw[List.getElem?_take,if_pos hj,List.getElem?_drop]at e;exact e
theorem zc5 {l:List V}{off n:Nat}{r:List V}(h:cut l off n=some r):r.length=n:=by
 obtain⟨rfl,hl⟩:=zdd h;simp only[List.length_take,List.length_drop];omega
theorem zey (hT:TOk P T){t:TypeId}{cells:List V}{off:Nat}{v:V}(h:zby T t cells off=some v){b o:Nat}(hm:zhB M ρ w b o cells) :
 ∃x,(loadVar t ⟨b,o+off,none⟩).run P w=.ok x w∧rel M ρ v x:=by
 unfold zby at h;split at h
 ·rename_i hi;split at h
  ·rename_i n hn;cases hc:cut cells off n with
   |none=>simp[hc]at h
   |some r=>
    simp[hc]at h;subst h;obtain⟨cs,hcs,hcell⟩:=zhB.vals (M:=M) (ρ:=ρ) (w:=w) (b:=b) (o:=o+off) (l:=r) (fun j u hj=>by
     have:=hm (off+j) u (zkZ hc hj);rwa [show o+(off+j)=o+off+j from by omega]at this)
    have hl:cs.length=n:=by rw[zal hcs,zc5 hc]
    refine⟨.agg cs.toArray,?_,by simp only[rel];exact⟨cs,rfl,hcs⟩⟩;have h1:=zdt (P:=P) b (o+off) n cs hl hcell;simp[loadVar,hT.run_isAgg hi,hT.run_size hn,h1]
  ·cases h
 ·rename_i hi;obtain⟨x,hx,hr⟩:=hm off v h;refine⟨x,?_,hr⟩;simp[loadVar,hT.run_isAgg hi,load,Sem.run,hx]
 ·cases h
theorem zhb (hT:TOk P T){t:TypeId}{cells:List V}{off:Nat}{v:V}(h:zby T t cells off=some v){cs:List Value}(hm:relL M ρ cells cs) :
 ∃x,(∀w,(part t cs.toArray off).run P w=.ok x w)∧rel M ρ v x:=by
 unfold zby at h;split at h
 ·rename_i hi;split at h
  ·rename_i n hn;cases hc:cut cells off n with
   |none=>simp[hc]at h
   |some r=>
    simp[hc]at h;subst h;obtain⟨rfl,hle⟩:=zdd hc;refine⟨.agg ((cs.drop off).take n).toArray,fun w=>?_,by simp only[rel];exact⟨_,rfl,zc9 n (zc8 off hm)⟩⟩;simp[part,hT.run_isAgg hi,hT.run_size hn]
  ·cases h
 ·rename_i hi;obtain⟨x,hx,hr⟩:=zaX hm h;refine⟨x,fun w=>?_,hr⟩;simp[part,hT.run_isAgg hi,hx]
 ·cases h
theorem zci {w:World}{b:Nat}{cs:List Value}{ty:TypeId}{fr:Nat×Nat}(h:w.heap[b]? = some (.cells cs.toArray ty fr))(o:Nat):w.cell? ⟨b,o,none⟩=cs[o]?:=by
 simp[World.cell?,h]
theorem zif {sz:Nat}:∀{l:List V}{b o:Nat},relRow M ρ sz l b o→∀{i:Nat}{v:V},l[i]? = some v→∃x:Value,rel M ρ v x∧x.cells.size=sz∧∀j c,x.cells[j]? = some c→M.cell b (o+i*sz+j)=some c
 | [],_,_,_,_,_,e=>by simp at e
 |u::l,b,o,h,i,v,e=>by
  simp only[relRow]at h;cases i with
  |zero=>
   simp at e;subst e;obtain⟨x,hx,hs,hc⟩:=h.1;exact⟨x,hx,hs,fun j c hj=>by have:=hc j c hj;simpa using this⟩
  |succ i=>
   obtain⟨x,hx,hs,hc⟩:=zif h.2 (i:=i) (v:=v) (by simpa using e);refine⟨x,hx,hs,fun j c hj=>?_⟩;have:=hc j c hj;rwa [show o+(i+1)*sz+j=o+sz+i*sz+j from by rw[Nat.succ_mul];omega]
theorem zgV {T:Tab}{H:zaa}(hS:SR T M ρ H w){b o:Nat}{c:Value}(h:M.cell b o=some c):w.cell? ⟨b,o,none⟩=some c:=by
 unfold Mem.cell at h;split at h
 ·rename_i cs ty fr hb;have:=hS.frozen _ _ hb;simp[World.cell?,this,h]
 ·cases h
theorem zml (hT:TOk P T){H:zaa}(hS:SR T M ρ H w){t:TypeId}{p v:V}(h:zae T t H p=some v){x:Value}(hx:rel M ρ p x) :
 ∃y,(Instr.loadAt t x).run P w=.ok y w∧rel M ρ v y:=by
 unfold zae at h;split at h
 ·rename_i n off;split at h
  ·rename_i blk hb;simp only[rel]at hx;obtain⟨b,c,hr,rfl⟩:=hx;obtain⟨b',c',cs,cs',hr',_,_,hheap,hrel,_⟩:=hS.cells hb;rw[hr]at hr';cases hr';have hm:zhB M ρ w b 0 blk.cells:=fun j u hj=>by
    obtain⟨y,hy,hyr⟩:=zaX hrel hj;refine⟨y,?_,hyr⟩;rw[zci hheap,Nat.zero_add,List.getElem?_append_left (List.getElem?_eq_some_iff.1 hy).1];exact hy
   obtain⟨y,hy,hyr⟩:=zey hT h hm;exact⟨y,by simpa[Instr.loadAt,Instr.sureAddr]using hy,hyr⟩
  ·cases h
 ·rename_i sz l i off;split at h
  ·rename_i e he;simp only[rel]at hx;obtain⟨b,o,rfl,hrow⟩:=hx;obtain⟨y,hy,hsz,hc⟩:=zif hrow he;have hm:zhB M ρ w b (o+i*sz) e.cells:=fun j u hj=>by
    obtain⟨z,hz,hzr⟩:=zaX (zbh hy) hj;exact⟨z,zgV hS (hc j z (by simpa using hz)),hzr⟩
   obtain⟨y,hy,hyr⟩:=zey hT h hm;exact⟨y,by simpa[Instr.loadAt,Instr.sureAddr]using hy,hyr⟩
  ·cases h
 ·rename_i g off;split at h
  ·rename_i l hl;simp only[rel]at hx;subst hx;obtain⟨cs,ty,fr,hM,hrel⟩:=hS.glob g l hl;have hm:zhB M ρ w g 0 l:=fun j u hj=>by
    obtain⟨y,hy,hyr⟩:=zaX hrel hj;exact⟨y,by rw[zci (hS.frozen _ _ hM),Nat.zero_add];exact hy,hyr⟩
   obtain⟨y,hy,hyr⟩:=zey hT h hm;exact⟨y,by simpa[Instr.loadAt,Instr.sureAddr]using hy,hyr⟩
  ·cases h
 ·cases h
theorem zhK {w:World}{b:Nat}{o:Obj}(ob:Obj)(hb:w.heap[b]? = some o):(w.alloc ob).heap[b]? = some o:=by
 have hlt:=(Array.getElem?_eq_some_iff.1 hb).1;show(w.heap.push _)[b]? = _;rw[Array.getElem?_push,if_neg (by omega)];exact hb
theorem zi2 {w:World}{b:Nat}(ob:Obj)(hb:b<w.heap.size):(w.alloc ob).heap[b]? = w.heap[b]?:=by
 show(w.heap.push _)[b]? = _;rw[Array.getElem?_push,if_neg (by omega)]
theorem SR.allocB {T:Tab}{M:Mem}{ρ:Ren}{H:zaa}{w:World}(h:SR T M ρ H w)(hM:∀b o,M b=some o→b<w.heap.size)(ob:Obj)(blk:Blk)(c:Nat)(hok:zbS M ρ (some ob) blk c) :
 SR T M (ρ++[(w.heap.size,c)]) (H++[some blk]) (w.alloc ob):=by
 have hpre:ρ <+: ρ++[(w.heap.size,c)]:=List.prefix_append _ _;have hnew:(w.alloc ob).heap[w.heap.size]? = some ob:=by
  show(w.heap.push _)[w.heap.size]? = _;simp
 have hsz:(w.alloc ob).heap.size=w.heap.size+1:=by simp
 have hget:∀{n:Nat}{z:Blk},(H++[some blk])[n]? = some (some z)→(H[n]? = some (some z))∨(n=H.length∧z=blk):=by
  intro n z hn;rcases Nat.lt_trichotomy n H.length with hlt|heq|hgt
  ·rw[List.getElem?_append_left hlt]at hn;exact .inl hn
  ·subst heq;simp at hn;exact .inr ⟨rfl,hn.symm⟩
  ·rw[List.getElem?_eq_none (by simp;omega)]at hn;cases hn
 refine⟨fun b o hb=>zhK ob (h.frozen b o hb),by simp[h.len],?_,?_,?_,h.gint⟩
 ·intro n z hn;rcases hget hn with hn|⟨rfl,rfl⟩
  ·obtain⟨b,c',hr,hMb,hlt,hk⟩:=h.blk n z hn;exact⟨b,c',zfy hpre hr,hMb,by omega,by rw[zi2 ob hlt];exact hk.mono (Mem.le.refl _) hpre⟩
  ·refine⟨w.heap.size,c,by rw[←h.len];simp,?_,by omega,by rw[hnew];exact hok.mono (Mem.le.refl _) hpre⟩;cases hm:M w.heap.size with
   |none=>rfl
   |some o=>have:=hM _ _ hm;omega
 ·intro n m x y b c1 c2 hn hm hb hc;have hlt:∀{k:Nat} {z:Blk} {q:Nat},H[k]? = some (some z)→(ρ++[(w.heap.size,c)])[k]? = some (b,q)→ρ[k]? = some (b,q)∧b<w.heap.size:=by
   intro k z q hk hq;have hkl:k<ρ.length:=by rw[h.len];exact(List.getElem?_eq_some_iff.1 hk).1
   rw[List.getElem?_append_left hkl]at hq;obtain⟨b',c',hr,_,hl,_⟩:=h.blk k z hk;rw[hq]at hr;cases hr;exact⟨hq,hl⟩
  have hend:∀{q:Nat},(ρ++[(w.heap.size,c)])[H.length]? = some (b,q)→b=w.heap.size:=by
   intro q hq;rw[←h.len]at hq;simp at hq;exact hq.1.symm
  rcases hget hn with hn'|⟨en,zn⟩<;>rcases hget hm with hm'|⟨em,zm⟩
  ·exact h.inj n m x y b c1 c2 hn' hm' (hlt hn' hb).1 (hlt hm' hc).1
  ·subst em;have:=(hlt hn' hb).2;have:=hend hc;omega
  ·subst en;have:=(hlt hm' hc).2;have:=hend hb;omega
  ·rw[en,em]
 ·intro g l' hg;obtain⟨ds,ty',fr,hMg,hrel⟩:=h.glob g l' hg;exact⟨ds,ty',fr,hMg,relL_mono (Mem.le.refl _) hpre _ _ hrel⟩
theorem SR.alloc {T:Tab}{M:Mem}{ρ:Ren}{H:zaa}{w:World}(h:SR T M ρ H w)(hM:∀b o,M b=some o→b<w.heap.size)(ty:Nat)(kind:BK){l:List V}{cs cs':List Value}(hl:relL M ρ l cs)(hk:kind=.more∨(kind=.all∧cs'=[])) :
 SR T M (ρ++[(w.heap.size,(cs++cs').length)]) (H++[some {ty,cells:=l,kind}]) (w.alloc (.cells (cs++cs').toArray ty)):=
 h.allocB hM _ _ _ (zbS.of_cells (by rcases hk with rfl|⟨rfl,_⟩<;>simp) ⟨cs,cs',rfl,rfl,hl,fun e=>by
 rcases hk with rfl|⟨_,h⟩
 ·cases e
 ·exact h⟩)
theorem SR.lt {T:Tab}{H:zaa}(h:SR T M ρ H w):∀b o,M b=some o→b<w.heap.size:=fun b o hb=>(Array.getElem?_eq_some_iff.1 (h.frozen b o hb)).1
theorem Ext.alloc (M:Mem) (ρ:Ren) (w:World) (o:Obj) (c:Nat):Ext M ρ w M (ρ++[(w.heap.size,c)]) (w.alloc o) where
  os:=rfl
  tape:=rfl
  output:=rfl
  size:=by simp
  mem:=Mem.le.refl _
  pre:=List.prefix_append _ _
  frame b hb _:=RowKit.Below.heap_alloc w o b hb
  newM _ _ _:=rfl
  newR b c' h:=by
    simp only[List.mem_append,List.mem_singleton,Prod.mk.injEq]at h
    rcases h with h|⟨rfl,_⟩
    · exact .inl ⟨c',h⟩
    · exact .inr (Nat.le_refl _)
end
open Go
section
variable {P:Program}{T:Tab}{M:Mem}{ρ:Ren}{w:World}{H:zaa}

def World.putCells (w:World)(b:Nat):Nat→List Value→World
 |_,[]=>w
 |o,x::xs=>World.putCells (w.setCell ⟨b,o,none⟩ x) b (o+1) xs
theorem zfr {w:World}{b:Nat}{cs:List Value}{ty:TypeId}{fr:Nat×Nat}(h:w.heap[b]? = some (.cells cs.toArray ty fr))(o:Nat)(x:Value) :
 (w.setCell ⟨b,o,none⟩ x).heap[b]? = some (.cells (cs.set o x).toArray ty fr):=by
 simp only[World.setCell,Array.getElem?_modify,if_true,h,Option.map_some];simp
theorem zg0 {w:World}{b k:Nat}(h:k≠b)(o:Nat)(x:Value):(w.setCell ⟨b,o,none⟩ x).heap[k]? = w.heap[k]?:=RowKit.Below.heap_setCell w ⟨b,o,none⟩ x k h
theorem zcJ {b k:Nat}(h:k≠b):∀(xs:List Value)(o:Nat)(w:World),(World.putCells w b o xs).heap[k]? = w.heap[k]?
 | [],_,_=>rfl
 |x::xs,o,w=>by
  simp only[World.putCells];rw[zcJ h xs (o+1),zg0 h]
theorem zdr {b:Nat}:∀(xs:List Value)(o:Nat)(w:World),(World.putCells w b o xs).heap.size=w.heap.size∧(World.putCells w b o xs).os=w.os∧(World.putCells w b o xs).tape=w.tape∧(World.putCells w b o xs).output=w.output
 | [],_,_=>⟨rfl,rfl,rfl,rfl⟩
 |x::xs,o,w=>by
  simp only[World.putCells];obtain⟨h1,h2,h3,h4⟩:=zdr (b:=b) xs (o+1) (w.setCell ⟨b,o,none⟩ x);exact⟨by rw[h1];simp[World.setCell],by rw[h2];rfl,by rw[h3];rfl,by rw[h4];rfl⟩
theorem zht (cs:List Value)(o:Nat)(x:Value)(xs:List Value)(h:o<cs.length):(cs.set o x).take (o+1)++xs++(cs.set o x).drop (o+1+xs.length)=cs.take o++(x::xs)++cs.drop (o+(x::xs).length):=by
 have h1:(cs.set o x).take (o+1)=cs.take o++[x]:=by
  rw[List.take_succ_eq_append_getElem (by simpa using h),List.take_set_of_le (Nat.le_refl _)];simp
 have h2:(cs.set o x).drop (o+1+xs.length)=cs.drop (o+(xs.length+1)):=by
  rw[List.drop_set_of_lt (by omega),show o+1+xs.length=o+(xs.length+1)from by omega]
 rw[h1,h2];simp
theorem zc0 {b:Nat} {ty:TypeId}:∀(xs:List Value) (base o:Nat) (w:World) (cs:List Value),w.heap[b]? = some (.cells cs.toArray ty (0,0))→base+o+xs.length≤cs.length →
    (∀x∈xs,(∀c,x≠.agg c)∧∀c,x≠.tuple c) →
    (storeCells ⟨b,base,none⟩ xs o).run P w=.ok () (World.putCells w b (base+o) xs) ∧
      (World.putCells w b (base+o) xs).heap[b]? = some (.cells (cs.take (base+o)++xs++cs.drop (base+o+xs.length)).toArray ty (0,0))
  | [],base,o,w,cs,h,_,_=>by
    refine⟨by simp[storeCells,World.putCells],?_⟩
    simp[World.putCells,h]
  | x :: xs,base,o,w,cs,h,hl,hf=>by
    have hlt:base+o<cs.length:=by simp at hl;omega
    have hc:w.cell? ⟨b,base+o,none⟩=some cs[base+o]:=by rw[zci h];simp[hlt]
    have hfr:w.frozen? ⟨b,base+o,none⟩=false:=by simp[World.frozen?,h]
    obtain⟨i1,i2⟩:=zc0 xs base (o+1) (w.setCell ⟨b,base+o,none⟩ x) (cs.set (base+o) x) (zfr h _ _) (by simp at hl ⊢;omega) (fun y hy=>hf y (by simp[hy]))
    obtain⟨hx1,hx2⟩:=hf x (by simp)
    refine⟨?_,?_⟩
    · simp only[storeCells,zbP,store,World.putCells]
      rw[Sem.run_bind]
      have:(Sem.store Mode.plain ⟨b,base+o,none⟩ x (Sem.pure ())).run P w=.ok () (w.setCell ⟨b,base+o,none⟩ x):=by
        cases x<;>first|(exfalso;exact hx1 _ rfl)|(exfalso;exact hx2 _ rfl)|simp[Sem.run,hc,hfr]
      rw[this]
      simp only[Result.andThen]
      rw[show base+o+1=base+(o+1)from by omega]
      exact i1
    · simp only[World.putCells]
      rw[show base+o+1=base+(o+1)from by omega,i2]
      have:=zht cs (base+o) x xs hlt
      rw[show base+(o+1)=base+o+1 from by omega,this]

theorem zlW {l:List V}{xs:List Value}(h:relL M ρ l xs)(hf:l.all zeF=true):∀x∈xs,(∀c,x≠.agg c)∧∀c,x≠.tuple c:=by
 intro x hx;obtain⟨i,hi⟩:=List.getElem?_of_mem hx;have hlt:i<l.length:=by rw[←zal h];exact(List.getElem?_eq_some_iff.1 hi).1
 obtain⟨y,hy,hr⟩:=zaX h (List.getElem?_eq_getElem hlt);rw[hi]at hy;cases hy;exact zq6 hr (List.all_eq_true.1 hf _ (List.getElem_mem hlt))
theorem SR.upd (hS:SR T M ρ H w){n:Nat}{blk blk':Blk}(hb:H[n]? = some (some blk)){b c:Nat}(hr:ρ[n]? = some (b,c)){w':World}(hother:∀k,k≠b→w'.heap[k]? = w.heap[k]?)(hsz:w'.heap.size=w.heap.size)
 (hok:zbS M ρ w'.heap[b]? blk' c):SR T M ρ (H.set n (some blk')) w':=by
 have hset:∀{m:Nat}{z:Blk},(H.set n (some blk'))[m]? = some (some z)→(m=n∧z=blk')∨(m≠n∧H[m]? = some (some z)):=by
  intro m z hm;by_cases e:m=n
  ·subst e;have hlt:=(List.getElem?_eq_some_iff.1 hb).1;rw[List.getElem?_set_self hlt]at hm;simp at hm;exact .inl ⟨rfl,hm.symm⟩
  ·rw[List.getElem?_set_ne (fun h=>e h.symm)]at hm;exact .inr ⟨e,hm⟩
 have hlive:∀{m:Nat}{z:Blk},(H.set n (some blk'))[m]? = some (some z)→∃z',H[m]? = some (some z'):=by
  intro m z hm;rcases hset hm with⟨rfl,_⟩|⟨_,hm⟩
  ·exact⟨_,hb⟩
  ·exact⟨_,hm⟩
 obtain⟨b0,c0,hr0,hM0,hlt0,_⟩:=hS.blk n blk hb;rw[hr]at hr0;cases hr0;refine⟨fun k o hk=>?_,by simp[hS.len],?_,?_,hS.glob,hS.gint⟩
 ·rw[hother k (fun e=>by rw[e,hM0]at hk;cases hk)];exact hS.frozen k o hk
 ·intro m z hm;rcases hset hm with⟨rfl,rfl⟩|⟨hne,hm⟩
  ·exact⟨b,c,hr,hM0,by omega,hok⟩
  ·obtain⟨b2,c2,hr2,hM2,hlt2,hk2⟩:=hS.blk m z hm;refine⟨b2,c2,hr2,hM2,by omega,?_⟩;rw[hother b2 (fun e=>hne (hS.inj m n z blk b2 c2 c hm hb hr2 (e▸hr)))];exact hk2
 ·intro m k x y b2 c2 c3 hm hk h2 h3;obtain⟨x',hx'⟩:=hlive hm;obtain⟨y',hy'⟩:=hlive hk;exact hS.inj m k x' y' b2 c2 c3 hx' hy' h2 h3
theorem SR.splice (hS:SR T M ρ H w){n:Nat}{blk:Blk}(hb:zar H n=some blk){off:Nat}{l:List V}{xs:List Value}(hl:relL M ρ l xs)(hfit:off+l.length≤blk.cells.length)(hf:l.all zeF=true){b c:Nat}(hr:ρ[n]? = some (b,c)) :
 ∃w',(storeCells ⟨b,off,none⟩ xs).run P w=.ok () w'∧Ext M ρ w M ρ w'∧SR T M ρ (H.set n (some {blk with cells:=Ev.splice blk.cells off l})) w':=by
 obtain⟨hb0,hkind⟩:=zbk hb;obtain⟨b',c',cs,cs',hr',hMb,hc,hheap,hrel,hall⟩:=hS.cells hb;rw[hr]at hr';cases hr';have hxl:=zal hl;have hcl:=zal hrel;obtain⟨h1,h2⟩:=zc0 (P:=P) xs off 0 w (cs++cs') hheap (by simp;omega) (zlW hl hf);simp only[Nat.add_zero]at h1 h2;obtain⟨s1,s2,s3,s4⟩:=zdr (b:=b) xs off w;refine⟨_,h1,⟨s2,s3,s4,by omega,Mem.le.refl _,List.prefix_refl _,fun k hk hn=>zcJ (fun e=>hn c (by rw[e];exact List.mem_of_getElem? hr)) _ _ _,fun _ _ _=>rfl,fun _ q hq=>.inl ⟨q,hq⟩⟩,?_⟩;refine hS.upd hb0 hr (fun k hk=>zcJ hk _ _ _) s1 (zbS.of_cells hkind ⟨cs.take off++xs++cs.drop (off+xs.length),cs',?_,?_,zhj off hrel hl,hall⟩)
 ·simp only[List.length_append,List.length_take,List.length_drop]at hc ⊢;omega
 ·rw[h2];simp only[List.take_append_of_le_length (show off≤cs.length by omega),List.drop_append_of_le_length (show off+xs.length≤cs.length by omega),List.append_assoc]
theorem zqe (hT:TOk P T)(hS:SR T M ρ H w){t:TypeId}{p v:V}{H':zaa}(h:zbO T t H p v=some H'){x y:Value}(hx:rel M ρ p x)(hy:rel M ρ v y) :
 ∃w',(Instr.storeAt t x y).run P w=.ok () w'∧Ext M ρ w M ρ w'∧SR T M ρ H' w':=by
 unfold zbO at h;simp only[zfN,setK_eq]at h;split at h
 ·rename_i n off;split at h
  ·rename_i blk hb;split at h
   ·rename_i hc;obtain⟨hsz,hfit,hf⟩:=hc;cases h;simp only[rel]at hx;obtain⟨b,c,hr,rfl⟩:=hx;have hcells:=zbh hy;obtain⟨w',h1,h2,h3⟩:=hS.splice (P:=P) hb hcells hfit hf hr;refine⟨w',?_,h2,h3⟩;have hl:y.cells.size=v.cells.length:=by have:=zal hcells;simpa using this
    simp[Instr.storeAt,Instr.sureAddr,storeVar,hT.run_size hsz,hl,h1]
   ·cases h
  ·cases h
 ·cases h
end
open Go
section
variable {P:Program}{T:Tab}{M:Mem}{ρ:Ren}{w:World}{H:zaa}

def zjf (M:Mem)(ρ:Ren):List (Nat×V)→List (Nat×Value)→Prop
 | [],qs=>qs=[]
 |(i,v)::ps,qs=>∃x r,qs=(i,x)::r∧rel M ρ v x∧zjf M ρ ps r
theorem zet {t:Env}{a:Act}(h:zig M ρ t a.tmps):∀{l:List (Nat×Operand)}{ps:List (Nat×V)},zca t l=some ps→zjf M ρ ps (l.map fun(i,x)=>(i,a.eval x))
 | [],ps,e=>by simp only[zca,Option.some.injEq]at e;subst e;simp[zjf]
 |(i,o)::r,ps,e=>by
  simp only[zca]at e;split at e
  ·rename_i x l hx hl;cases e;simp only[zjf,List.map_cons];exact⟨_,_,rfl,zat h hx,zet h hl⟩
  ·cases e
theorem zj9 (off:Nat):∀(xs cs:List Value) (k:Nat),off+k+xs.length≤cs.length →
    (xs.zipIdx k).foldl (fun(c:Array Value)(p:Value×Nat)=>c.setIfInBounds (off+p.2) p.1) cs.toArray=(cs.take (off+k)++xs++cs.drop (off+k+xs.length)).toArray
  | [],cs,k,_=>by simp
  | x::xs,cs,k,h=>by
    have hlt:off+k<cs.length:=by simp at h;omega
    rw[List.zipIdx_cons,List.foldl_cons]
    simp only[List.setIfInBounds_toArray]
    rw[zj9 off xs (cs.set (off+k) x) (k+1) (by simp at h ⊢;omega)]
    have:=zht cs (off+k) x xs hlt
    rw[show off+(k+1)=off+k+1 from by omega,this]
theorem zlj (off:Nat)(xs:Array Value)(cs:List Value)(h:off+xs.size≤cs.length) :
 xs.zipIdx.foldl (fun(c:Array Value)(p:Value×Nat)=>c.setIfInBounds (off+p.2) p.1) cs.toArray=(cs.take off++xs.toList++cs.drop (off+xs.size)).toArray:=by
 have:=zj9 off xs.toList cs 0 (by simpa using h);rw[←Array.foldl_toList];simpa using this
theorem zgc {pl:Nat→Option (Nat×Nat)}:∀{ps:List (Nat×V)} {qs:List (Nat×Value)} {cells r:List V} {cs:List Value},zjf M ρ ps qs→relL M ρ cells cs→zfq pl cells ps=some r →
    ∃rs,Instr.fill pl cs.toArray qs=some rs.toArray∧relL M ρ r rs
  | [],qs,cells,r,cs,hp,hc,h=>by
    simp only[zjf]at hp
    subst hp
    simp only[zfq,Option.some.injEq]at h
    subst h
    exact⟨cs,rfl,hc⟩
  | (i, v)::ps,qs,cells,r,cs,hp,hc,h=>by
    simp only[zjf]at hp
    obtain⟨x,q,rfl,hv,hp⟩:=hp
    simp only[zfq]at h
    split at h
    · cases h
    · rename_i off size hpl
      split at h
      · rename_i hfit
        have hcells:=zbh hv
        have hxl:=zal hcells
        have hcl:=zal hc
        have hx1:x.cells.size=v.cells.length:=by simpa using hxl
        have hs:=zhj off hc hcells
        obtain⟨rs,h1,h2⟩:=zgc hp hs h
        refine⟨rs,?_,h2⟩
        unfold Instr.fill
        simp only[hpl]
        rw[if_neg (by simp;omega)]
        have:=zlj off x.cells cs (by omega)
        rw[this]
        simpa using h1
      · cases h

theorem zhc (hT:TOk P T):∀{fs:List Field}{pl:List (Nat×Nat)},zdq T fs=some pl→∀w,(fs.mapM (m:=Sem) fun f=>Prod.mk f.offset <$> sizeOf f.type).run P w=.ok pl w
 | [],pl,h,w=>by simp only[zdq,Option.some.injEq]at h;subst h;simp
 |f::r,pl,h,w=>by
  simp only[zdq]at h;split at h
  ·rename_i n l hn hl;cases h;have:=zhc hT hl w;simp[List.mapM_cons,hT.run_size hn,this]
  ·cases h
theorem zmA {α β:Type}(f:α→β)(s:Sem α){a:α}{w w':World}(h:s.run P w=.ok a w'):(f <$> s).run P w=.ok (f a) w':=by
 rw[←bind_pure_comp];simp[h]
theorem zm1 (hT:TOk P T){ty:TypeId}{ps:List (Nat×V)}{qs:List (Nat×Value)}{v:V}(hp:zjf M ρ ps qs)(h:zer T ty ps=some v) :
 ∃x,(∀w,(Instr.build ty qs.toArray).run P w=.ok x w)∧rel M ρ v x:=by
 unfold zer at h;split at h
 ·rename_i z fs hz hu;split at h
  ·rename_i pl hpl;obtain⟨zv,hzv,hzr⟩:=hT.run_zero hz;have hzc:=zbh (zb4 (M:=M) (ρ:=ρ) hzv);cases hf:zfq (fun i=>pl[i]?) z.cells ps with
   |none=>simp[hf]at h
   |some r=>
    simp[hf]at h;subst h;obtain⟨rs,h1,h2⟩:=zgc hp hzc hf;refine⟨.agg rs.toArray,fun w=>?_,by simp only[rel];exact⟨rs,rfl,h2⟩⟩;have hm:=zhc hT hpl w;simp only[Array.toArray_toList]at h1;simp[Instr.build,hzr,hT.run_und hu,Array.mapM_eq_mapM_toList,hm,h1]
  ·cases h
 ·rename_i z n e hz hu;split at h
  ·rename_i sz hsz;obtain⟨zv,hzv,hzr⟩:=hT.run_zero hz;have hzc:=zbh (zb4 (M:=M) (ρ:=ρ) hzv);cases hf:zfq (fun i=>some (i*sz,sz)) z.cells ps with
   |none=>simp[hf]at h
   |some r=>
    simp[hf]at h;subst h;obtain⟨rs,h1,h2⟩:=zgc hp hzc hf;refine⟨.agg rs.toArray,fun w=>?_,by simp only[rel];exact⟨rs,rfl,h2⟩⟩;simp only[Array.toArray_toList]at h1;simp[Instr.build,hzr,hT.run_und hu,hT.run_size hsz,h1]
  ·cases h
 ·cases h
theorem zii {α:Type}[Inhabited α](l:List α):∀n:Nat,(List.range (n*l.length)).map (fun i=>l[i%l.length]!)=zhP n l
 |0=>by simp[zhP]
 |n+1=>by
  rw[Nat.succ_mul,Nat.add_comm,List.range_add,List.map_append,zhP];congr 1
  ·apply List.ext_getElem
   ·simp
   ·intro i h1 h2;simp at h1;simp[Nat.mod_eq_of_lt h1,h1]
  ·rw[←zii l n];simp[List.map_map,Function.comp_def]
theorem zjg {l:List V}{cs:List Value}(h:relL M ρ l cs):∀n:Nat,relL M ρ (zhP n l) (zhP n cs)
 |0=>by simp[zhP,relL]
 |n+1=>by simp only[zhP];exact za3 h (zjg h n)
theorem zh9 (z:Array Value)(n:Nat):(Array.range (n*z.size)).map (fun i=>z[i%z.size]!)=(zhP n z.toList).toArray:=by
 have:=zii z.toList n;rw[Array.length_toList]at this;rw[←this];apply Array.ext';simp[Array.getElem!_eq_getD,Array.getD_eq_getD_getElem?]
def zjJ (P:Program)(T:Tab)(s:Sem Value)(M:Mem)(ρ:Ren)(w:World)(v:V)(H':zaa):Prop:=
 ∃x w' ρ',s.run P w=.ok x w'∧Ext M ρ w M ρ' w'∧rel M ρ' v x∧SR T M ρ' H' w'
theorem zjJ.pure {s:Sem Value}{x:Value}{v:V}(hS:SR T M ρ H w)(h:s.run P w=.ok x w)(hv:rel M ρ v x):zjJ P T s M ρ w v H:=⟨x,w,ρ,h,Ext.refl _ _ _,hv,hS⟩
theorem zf1 (hS:SR T M ρ H w)(e:TypeId){l:List V}{cs:List Value}(hl:relL M ρ l cs) :
 (newRow e cs.toArray).run P w=.ok ⟨w.heap.size,0,none⟩ (w.alloc (.cells cs.toArray e)) ∧
  SR T M (ρ++[(w.heap.size,cs.length)]) (H++[some {ty:=e,cells:=l,kind:=.all}]) (w.alloc (.cells cs.toArray e))∧Ext M ρ w M (ρ++[(w.heap.size,cs.length)]) (w.alloc (.cells cs.toArray e)):=by
 refine⟨by simp[newRow,newObj,Sem.run],?_,Ext.alloc _ _ _ _ _⟩;have:=hS.alloc hS.lt e .all (cs':=[]) hl (.inr ⟨rfl,rfl⟩);simpa using this
theorem zgM (hT:TOk P T)(hS:SR T M ρ H w){ty:TypeId}{len:Nat}{ps:List (Nat×V)}{qs:List (Nat×Value)}{v:V}{H':zaa}(hp:zjf M ρ ps qs)(h:zaY T ty len ps H=.val v H') :
 zjJ P T (Instr.buildSlice ty len qs.toArray) M ρ w v H':=by
 unfold zaY at h;simp only[za2]at h;split at h
 ·rename_i e hu;split at h
  ·rename_i n z hn hz;split at h
   ·rename_i hc;obtain⟨hzn,hpos,hle⟩:=hc;split at h
    ·rename_i cells hf;cases h;obtain⟨zv,hzv,hzr⟩:=hT.run_zero hz;have hzc:=zbh (zb4 (M:=M) (ρ:=ρ) hzv);have hzl:zv.cells.size=n:=by have:=zal hzc;simp at this;omega
     obtain⟨rs,h1,h2⟩:=zgc hp (zjg hzc len) hf;obtain⟨a1,a2,a3⟩:=zf1 (P:=P) hS e h2;refine⟨.slice (some ⟨w.heap.size,0,none⟩) len len,_,_,?_,a3,?_,a2⟩
     ·by_cases h0:len*n=0
      ·have hl0:len=0:=by rcases Nat.mul_eq_zero.1 h0 with h|h<;>omega
       have h1':Instr.fill (fun i=>some (i*n,n)) #[] qs=some rs.toArray:=by subst hl0;simpa[zhP]using h1
       simp[Instr.buildSlice,hT.run_und hu,hT.run_size hn,h0,show Array.range 0=#[]from rfl,h1',zmA _ _ a1]
      ·have hm:(Array.range (len*n)).map (fun i=>zv.cells[i%zv.cells.size]!)=(zhP len zv.cells.toList).toArray:=by
        rw[←hzl];exact zh9 _ _
       simp only[Instr.buildSlice,Sem.run_bind,hT.run_und hu,Result.andThen_ok,hT.run_size hn,if_neg (show ¬len*n>2^24 by omega),if_neg h0,hzr,Sem.run_pure,hm,h1,a1]
     ·simp only[rel];refine⟨w.heap.size,rs.length,len,by rw[←hS.len];simp,by simp,Nat.le_refl _,fun q hq=>by cases hq;rfl,fun hq=>by cases hq⟩
    ·cases h
   ·cases h
  ·cases h
 ·cases h
end
open Go
section
variable {P:Program}{T:Tab}{M:Mem}{ρ:Ren}{w:World}{H:zaa}

theorem zkO {n:Int}(h0:0≤n)(h1:n≤1099511627776):IntKind.i64.wrap n=n:=by
 have:=IntWalk.i64_in n;exact this (by omega)
theorem zhH (hT:TOk P T)(hS:SR T M ρ H w){ty:TypeId}{l c v:V}{H':zaa}{x y:Value}(hx:rel M ρ l x)(hy:rel M ρ c y)(h:zbc T ty l c H=.val v H') :
 zjJ P T (Instr.makeSlice ty x y) M ρ w v H':=by
 unfold zbc at h;simp only[za2]at h;split at h
 ·rename_i e kl l kc c hu;split at h
  ·rename_i n z bs hn hz hb;split at h
   ·rename_i hc;obtain⟨hzn,hpos,h0,hlc,hbs,hcs⟩:=hc;cases h;simp only[rel]at hx hy;subst hx hy;obtain⟨zv,hzv,hzr⟩:=hT.run_zero hz;have hzc:=zbh (zb4 (M:=M) (ρ:=ρ) hzv);have hzl:zv.cells.size=n:=by have:=zal hzc;simp at this;omega
    obtain⟨i,hi,hir⟩:=hT.run_info hb;have h2:=zjg hzc c.toNat
    obtain⟨a1,a2,a3⟩:=zf1 (P:=P) hS e h2;refine⟨.slice (some ⟨w.heap.size,0,none⟩) l.toNat c.toNat,_,_,?_,a3,?_,a2⟩
    ·have hwl:=zkO h0 (by omega);have hwc:=zkO (n:=c) (by omega) hcs;have hneg:¬c<0:=by omega
     have hneg2:¬l<0:=by omega
     have hlc2:¬c<l:=by omega
     by_cases h00:c.toNat*n=0
     ·have hc0:c.toNat=0:=by rcases Nat.mul_eq_zero.1 h00 with h|h<;>omega
      have hr:zhP c.toNat zv.cells.toList=[]:=by rw[hc0];rfl
      rw[hr]at a1 ⊢;simp[Instr.makeSlice,hT.run_und hu,asInt,asIntOf,hir,hi,hwl,hwc,hneg,hneg2,hlc2,askRoom,hT.run_size hn,h00,show Array.range 0=#[]from rfl];rw[if_neg (by rw[Int.mul_comm];omega),a1];rfl
     ·have hm:(Array.range (c.toNat*n)).map (fun i=>zv.cells[i%zv.cells.size]!)=(zhP c.toNat zv.cells.toList).toArray:=by
       rw[←hzl];exact zh9 _ _
      simp[Instr.makeSlice,hT.run_und hu,asInt,asIntOf,hir,hi,hwl,hwc,hneg,hneg2,hlc2,askRoom,hT.run_size hn,h00,hm,hzr];rw[if_neg (by rw[Int.mul_comm];omega),a1];rfl
    ·simp only[rel];refine⟨w.heap.size,(zhP c.toNat zv.cells.toList).length,c.toNat,by rw[←hS.len];simp,by simp,by omega,fun q hq=>by cases hq;rfl,fun hq=>by cases hq⟩
   ·cases h
  ·cases h
 ·cases h
theorem zf4 {t:Env}{a:Act}(ht:zig M ρ t a.tmps){most d k:Nat}{o:Operand}(h:zbJ t most d (some o)=some k)(code:BoundsCode) :
 k≤most∧∀w,(Instr.sliceBound (a.eval o) most code).run P w=.ok k w:=by
 simp only[zbJ]at h;split at h
 ·rename_i kk n he;split at h
  ·rename_i hn;cases h;have:=zat ht he;simp only[rel]at this;rw[this];exact⟨by omega,fun w=>by simp[Instr.sliceBound,asIntOf,hn]⟩
  ·cases h
 ·cases h
theorem zdK {t:Env}{a:Act}(ht:zig M ρ t a.tmps){isSlice:Bool}{len cap h l:Nat}{lo hi:Option Operand}(hlc:len≤cap)
 (hh:zbJ t cap len hi=some h)(hl:zbJ t h 0 lo=some l) :
 l≤h∧h≤cap∧∀w,(Instr.sliceBounds isSlice len cap (lo.map a.eval) (hi.map a.eval) none).run P w=.ok (l,h,cap) w:=by
 cases hi with
 |none=>
  simp only[zbJ,Option.some.injEq]at hh;subst hh;cases lo with
  |none=>
   simp only[zbJ,Option.some.injEq]at hl;subst hl;exact⟨by omega,hlc,fun w=>by simp[Instr.sliceBounds]⟩
  |some o=>
   obtain⟨h1,h2⟩:=zf4 (P:=P) ht hl .sliceB;exact⟨h1,hlc,fun w=>by simp[Instr.sliceBounds,h2]⟩
 |some oh=>
  obtain⟨h1,h2⟩:=zf4 (P:=P) ht hh (if isSlice then .sliceAcap else .sliceAlen);cases lo with
  |none=>
   simp only[zbJ,Option.some.injEq]at hl;subst hl;exact⟨by omega,h1,fun w=>by simp[Instr.sliceBounds,h2]⟩
  |some o=>
   obtain⟨h3,h4⟩:=zf4 (P:=P) ht hl .sliceB;exact⟨h3,h1,fun w=>by simp[Instr.sliceBounds,h2,h4]⟩
theorem zhk {sz:Nat}:∀(k:Nat){l:List V}{b o:Nat},relRow M ρ sz l b o→relRow M ρ sz (l.drop k) b (o+k*sz)
 |0,l,b,o,h=>by simpa using h
 |k+1,[],b,o,_=>by simp[relRow]
 |k+1,v::l,b,o,h=>by
  simp only[relRow]at h;have:=zhk k h.2;rw[show o+(k+1)*sz=o+sz+k*sz from by rw[Nat.succ_mul];omega];simpa using this
theorem zhl {sz:Nat}:∀(k:Nat){l:List V}{b o:Nat},relRow M ρ sz l b o→relRow M ρ sz (l.take k) b o
 |0,l,b,o,_=>by simp[relRow]
 |k+1,[],b,o,_=>by simp[relRow]
 |k+1,v::l,b,o,h=>by
  simp only[relRow,List.take_succ_cons]at h ⊢;exact⟨h.1,zhl k h.2⟩
theorem zm6 (hT:TOk P T){t:Env}{a:Act}(ht:zig M ρ t a.tmps){ty:TypeId}{p v:V}{lo hi mx:Option Operand}{x:Value}(hx:rel M ρ p x)(h:zcn T ty t p lo hi mx=some v) :
 ∃y,(∀w,(Instr.sliceAt ty x (lo.map a.eval) (hi.map a.eval) (mx.map a.eval)).run P w=.ok y w)∧rel M ρ v y:=by
 simp only[zcn,zlN]at h;split at h
 ·cases h
 split at h
 ·rename_i l;split at h
  ·rename_i hu;split at h
   ·rename_i hh hbh;split at h
    ·rename_i k hbl;cases h;simp only[rel]at hx;subst hx;obtain⟨b1,b2,b3⟩:=zdK (P:=P) ht (isSlice:=false) (len:=l.length) (Nat.le_refl _) hbh hbl;refine⟨.string ⟨((l.take hh).drop k).toArray⟩,fun w=>?_,by simp[rel]⟩;have hsz:(ByteArray.mk l.toArray).size=l.length:=by simp[ByteArray.size]
     have hex:(ByteArray.mk l.toArray).extract k hh=⟨((l.take hh).drop k).toArray⟩:=by
      rw[Lib.extract_eq,List.drop_take]
     simp[Instr.sliceAt,hT.run_und hu,Instr.slice,hsz,b3,hex]
    ·cases h
   ·cases h
  ·cases h
 ·rename_i sz l;split at h
  ·rename_i e hu;split at h
   ·rename_i hsz;split at h
    ·rename_i hh hbh;split at h
     ·rename_i k hbl;cases h;simp only[rel]at hx;obtain⟨ad,c,rfl,hlc,hrow⟩:=hx;have hbh':zbJ t c l.length hi=some hh:=by
       cases hi with
       |none=>exact hbh
       |some o=>
        simp only[zbJ]at hbh ⊢;split at hbh
        ·rename_i n hn;split at hbh
         ·rename_i hc;rw[if_pos (by omega)];exact hbh
         ·cases hbh
        ·cases hbh
      have hhl:hh≤l.length:=by
       cases hi with
       |none=>simp only[zbJ,Option.some.injEq]at hbh;omega
       |some o=>exact(zf4 (P:=P) ht hbh .sliceB).1
      obtain⟨b1,b2,b3⟩:=zdK (P:=P) ht (isSlice:=true) hlc hbh' hbl;have hll:((l.take hh).drop k).length=hh-k:=by simp;omega
      refine⟨.slice (if c=k then ad else ad.map (·.add (k*sz))) (hh-k) (c-k),fun w=>by simp[Instr.sliceAt,hT.run_und hu,Instr.slice,b3,hT.run_size hsz],?_⟩;simp only[rel];refine⟨_,_,by rw[hll],by rw[hll];omega,fun hne=>?_⟩;have hpos:0<hh-k:=by rw[←hll];exact List.length_pos_iff.2 hne
      obtain⟨b,o,rfl,hr⟩:=hrow (fun e0=>by subst e0;simp at hhl;omega);rw[if_neg (by omega)];exact⟨b,o+k*sz,by simp[zbP],zhk k (zhl hh hr)⟩
     ·cases h
    ·cases h
   ·cases h
  ·cases h
 ·split at h
  ·rename_i e hu;split at h
   ·rename_i n hsz hbh hbl;cases h;simp only[rel]at hx;subst hx;obtain⟨b1,b2,b3⟩:=zdK (P:=P) ht (isSlice:=true) (Nat.le_refl 0) hbh hbl;exact⟨.slice none 0 0,fun w=>by simp[Instr.sliceAt,hT.run_und hu,Instr.slice,b3,hT.run_size hsz],by simp[rel]⟩
   ·cases h
  ·cases h
 ·rename_i n sz off len cap;split at h
  ·rename_i e hu;split at h
   ·rename_i hsz;split at h
    ·rename_i hh hbh;split at h
     ·rename_i k hbl;simp only[rel]at hx;obtain⟨b,c,q,hr,rfl,hlq,hcap,hfull⟩:=hx;have hbh':zbJ t q len hi=some hh:=by
       cases hi with
       |none=>exact hbh
       |some o=>
        simp only[zbJ]at hbh ⊢;split at hbh
        ·rename_i kk nn hn;split at hbh
         ·rename_i hc;have:cap.getD len≤q:=by
           cases cap with
           |none=>exact hlq
           |some z=>have:=hcap z rfl;simp;omega
          rw[if_pos (by omega)];exact hbh
         ·cases hbh
        ·cases hbh
      obtain⟨b1,b2,b3⟩:=zdK (P:=P) ht (isSlice:=true) hlq hbh' hbl;have hrun:∀w,(Instr.sliceAt ty (.slice (some ⟨b,off*sz,none⟩) len q) (lo.map a.eval) (hi.map a.eval) none).run P w=.ok (.slice (if q=k then some ⟨b,off*sz,none⟩else some ⟨b,(off+k)*sz,none⟩) (hh-k) (q-k)) w:=fun w=>by
       simp[Instr.sliceAt,hT.run_und hu,Instr.slice,b3,hT.run_size hsz];split<;>simp[zbP,Nat.add_mul]
      refine⟨_,hrun,?_⟩;split at h
      ·rename_i z;have hz:=hcap z rfl;subst hz;split at h
       ·rename_i e0;cases h;rw[if_pos e0];simp only[rel];exact⟨b,c,q-k,hr,rfl,by omega,fun x hx=>by cases hx;omega,fun hx=>by cases hx⟩
       ·rename_i e0;cases h;rw[if_neg e0];simp only[rel];exact⟨b,c,q-k,hr,rfl,by omega,fun x hx=>by cases hx;omega,fun hx=>by cases hx⟩
      ·have hf:=hfull rfl;split at h
       ·rename_i e0;cases h;simp only[rel];have h00:hh-k=0:=by omega
        rw[h00];split
        ·exact⟨_,_,rfl⟩
        ·exact⟨_,_,rfl⟩
       ·rename_i e0;cases h;simp only[rel];by_cases hqk:q=k
        ·have hk0:k=0:=by
          rcases Nat.eq_zero_or_pos k with h|h
          ·exact h
          ·exact absurd ⟨by omega,h⟩ e0
         subst hk0;rw[if_pos hqk];exact⟨b,c,q-0,hr,by simp,by omega,fun x hx=>(by cases hx),fun _=>by simpa using hf⟩
        ·rw[if_neg hqk];exact⟨b,c,q-k,hr,rfl,by omega,fun x hx=>(by cases hx),fun _=>by rw[←hf];congr 1;omega⟩
     ·cases h
    ·cases h
   ·cases h
  ·cases h
 ·rename_i n off;split at h
  ·rename_i m e hu;split at h
   ·rename_i sz hsz;split at h
    ·rename_i hc;split at h
     ·rename_i hh hbh;split at h
      ·rename_i k hbl;split at h
       ·cases h
       ·rename_i hmk;cases h;simp only[rel]at hx;obtain⟨b,c,hr,rfl⟩:=hx;obtain⟨b1,b2,b3⟩:=zdK (P:=P) ht (isSlice:=false) (Nat.le_refl m) hbh hbl;have hoff:off=off/sz*sz:=by
         have:=Nat.div_add_mod off sz;rw[hc.2,Nat.add_zero,Nat.mul_comm]at this;exact this.symm
        refine⟨.slice (some ⟨b,(off/sz+k)*sz,none⟩) (hh-k) (m-k),fun w=>?_,?_⟩
        ·simp[Instr.sliceAt,hT.run_und hu,Instr.sureAddr,b3,hT.run_size hsz,hmk,zbP];rw[Nat.add_mul,←hoff]
        ·simp only[rel];exact⟨b,c,m-k,hr,rfl,by omega,fun x hx=>by cases hx;rfl,fun hx=>by cases hx⟩
      ·cases h
     ·cases h
    ·cases h
   ·cases h
  ·cases h
 ·cases h
end
end Go.Ev
