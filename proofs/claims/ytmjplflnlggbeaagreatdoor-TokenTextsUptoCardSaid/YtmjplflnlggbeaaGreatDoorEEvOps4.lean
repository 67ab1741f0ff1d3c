/- The evaluator: what the regions and functions of a program compute on values without places, as a plain function. The relation between the values of the evaluator and those of the machine, for every memory and every renaming of places. Each operation of the machine does on related values what the evaluator says, for every world in the relation. -/
import Derived.WalkKit
import Derived.Shelf.Abstract
import Derived.Lib.Strings
namespace Go.Ev
open Go Go.Proofs
set_option linter.unusedSimpArgs false
set_option linter.unusedVariables false
set_option linter.unnecessarySimpa false
open Go
set_option linter.defProp false
abbrev Bs:=List UInt8
abbrev tt:=true
abbrev ff:=false
def jAa:=@List.getElem?_cons_succ
def jBa:=@List.getElem?_cons_zero
def jCa:=@Int.toNat_natCast
def jDa:=@beq_eq_false_iff_ne
def jEa:=@List.cons_append
def jFa:=@List.nil_append
def jGa:=@List.getElem?_eq_some_iff
def jHa:=@Option.getD_some
def jIa:=@List.length_cons
def jJa:=@List.length_drop
def jKa:=@List.getElem?_eq_getElem
def jLa:=@List.length_append
def jMa:=@Bool.and_eq_true
def jNa:=@Option.some.injEq
def jOa:=@beq_iff_eq
def jPa:=@List.cons.injEq
def jQa:=@List.getElem?_append_left
def jRa:=@List.getElem?_set_ne
def jSa:=@Bool.false_eq_true
def jTa:=@decide_eq_true_eq
def jUa:=@bne_iff_ne
def jVa:=@List.length_nil
def jWa:=@Option.some.inj
def jXa:=@Option.map_some
def jYa:=@forall_eq
def jZa:=@Prod.mk.injEq
def jAb:=@List.drop_eq_getElem_cons
def jBb:=@List.all_eq_true
def jCb:=@Array.getD_eq_getD_getElem?
def jDb:=@Nat.le_refl
def jEb:=@List.append_assoc
def jFb:=@List.getElem?_set_self
def jGb:=@and_true
def jHb:=@List.prefix_refl
def jIb:=@List.mem_of_getElem?
def jJb:=@List.map_cons
def jKb:=@Nat.zero_add
def jLb:=@true_and
def jMb:=@List.prefix_append
def jNb:=@decide_eq_false
def jOb:=@List.mem_cons
def jPb:=@List.getElem?_append_right
def jQb:=@run_underlying
def jRb:=@List.eq_nil_of_length_eq_zero
def jSb:=@List.length_take
def jTb:=@List.take_of_length_le
def jUb:=@List.getElem?_map
def jVb:=@decide_eq_true
def jWb:=@List.append_nil
def jXb:=@Result.andThen_ok
def jYb:=@List.mem_cons_of_mem
def jZb:=@Bool.false_ne_true
def jAc:=@List.drop_eq_nil_of_le
def jBc:=@of_decide_eq_true
def jCc:=@List.mem_range
def jDc:=@List.filter_cons
def jEc:=@List.length_pos_iff
def jFc:=@List.drop_zero
def jGc:=@List.getElem?_eq_none
def jHc:=@Sem.run_bind
def jIc:=@List.mem_cons_self
def jJc:=@Nat.add_sub_cancel_left
def jKc:=@decide_eq_false_iff_not
def jLc:=@Bool.not_eq_true'
def jMc:=@List.getD_eq_getElem?_getD
def jNc:=@Bool.or_eq_true
def jOc:=@List.getElem?_drop
def jPc:=@List.prefix_of_prefix_length_le
def jQc:=@Nat.add_assoc
def jRc:=@List.getElem?_concat_length
def jSc:=@List.drop_take
def jTc:=@Nat.eq_of_beq_eq_true
def jUc:=@List.take_succ_cons
def jVc:=@cond_true
def jWc:=@Array.ext'
def jXc:=@Array.getElem?_replicate
def jYc:=@Bool.eq_iff_iff
def jZc:=@List.mem_map
def jAd:=@Int.ofNat_inj
def jBd:=@UInt8.toNat_inj
def jCd:=@decide_true
def jDd:=@List.drop_drop
def jEd:=@List.getElem?_toArray
def jFd:=@List.take_append_drop
def jGd:=@Sem.run_pure
def jHd:=@List.mem_map_of_mem
def jId:=@Nat.add_mul
def jJd:=@List.length_map
def jKd:=@List.mem_append
def jLd:=@Nat.not_lt_zero
def jMd:=@cond_false
def jNd:=@Nat.add_zero
def jOd:=@Sum.inr.injEq
def jPd:=@List.map_append
def jQd:=@List.mem_append_right
def jRd:=@List.take_length
def jSd:=@Bool.true_and
def jTd:=@Calls.mono
def jUd:=@UInt8.toNat.inj
def jVd:=@Bool.false_or
noncomputable section

inductive V where
  |i (k:IntKind) (n:Int)
  |b (x:Bool)
  |s (l:Bs)
  |agg (l:List V)
  |tup (l:List V)
  |nilp|nils|nilf|nili|nilm
  |ptr (n off:Nat)
  |sl (n sz off len:Nat) (cap:Option Nat)
  |emp
  |fn (g:Nat) (cap:List V)
  |ifc (t:Nat) (v:V)
  |isl (sz:Nat) (l:List V)
  |ipt (sz:Nat) (l:List V) (i off:Nat)
  |gp (g off:Nat)
  |mp (n:Nat)
  |yld (l:Nat)
  |itr (l:Nat)
  |bfn (g:Nat) (l:List V)
  deriving Inhabited

abbrev V.un:V:=.tup []
def V.cells:V→List V
 | .agg l=>l
 |v=>[v]
def V.isAgg:V→Bool
 | .agg _=>true
 |_=>false
inductive BK where
  |all|more|map
  deriving DecidableEq
structure Blk where
  ty:Nat
  cells:List V
  kind:BK

abbrev zaa:=List (Option Blk)
abbrev Env:=Nat→V
/-! Data laid open before it is handed on: for the kernel's reckoning. Each is the identity. -/
section
variable {α:Type}
noncomputable def fN (n:Nat)(k:Nat→α):α:=Nat.rec (k 0) (fun m _=>k (m+1)) n
noncomputable def fI (n:Int)(k:Int→α):α:=Int.rec (fun m=>fN m fun m=>k (.ofNat m)) (fun m=>fN m fun m=>k (.negSucc m)) n
noncomputable def fU (c:UInt8)(k:UInt8→α):α:=fN c.toNat fun m=>k (UInt8.ofNat m)
noncomputable def fUs (l:Bs):(Bs→α)→α:=
 List.rec (motive:=fun _=>(Bs→α)→α) (fun k=>k []) (fun c _ ih k=>fU c fun c=>ih fun l=>k (c::l)) l
noncomputable def fV (v:V):(V→α)→α:=
 V.rec (motive_1:=fun _=>(V→α)→α) (motive_2:=fun _=>(List V→α)→α)
  (fun j n k=>fI n fun n=>k (.i j n)) (fun x k=>Bool.rec (k (.b false)) (k (.b true)) x) (fun l k=>fUs l fun l=>k (.s l))
  (fun _ ih k=>ih fun l=>k (.agg l)) (fun _ ih k=>ih fun l=>k (.tup l)) (fun k=>k .nilp) (fun k=>k .nils) (fun k=>k .nilf) (fun k=>k .nili) (fun k=>k .nilm)
  (fun n o k=>fN n fun n=>fN o fun o=>k (.ptr n o))
  (fun n z o l c k=>fN n fun n=>fN o fun o=>fN l fun l=>Option.rec (k (.sl n z o l none)) (fun c=>fN c fun c=>k (.sl n z o l (some c))) c)
  (fun k=>k .emp) (fun g _ ih k=>ih fun l=>k (.fn g l)) (fun t _ ih k=>ih fun v=>k (.ifc t v)) (fun z _ ih k=>ih fun l=>k (.isl z l))
  (fun z _ j o ih k=>ih fun l=>fN j fun j=>fN o fun o=>k (.ipt z l j o)) (fun g o k=>fN o fun o=>k (.gp g o)) (fun n k=>fN n fun n=>k (.mp n)) (fun n k=>k (.yld n)) (fun n k=>k (.itr n)) (fun g _ ih k=>ih fun l=>k (.bfn g l))
  (fun k=>k []) (fun _ _ ih ihl k=>ih fun v=>ihl fun l=>k (v::l)) v
theorem zcp (n:Nat)(k:Nat→α):fN n k=k n:=by cases n<;>rfl
theorem zw3 (n:Int)(k:Int→α):fI n k=k n:=by
 cases n with
 |ofNat m=>show fN m (fun m=>k (.ofNat m))=_;rw[zcp]
 |negSucc m=>show fN m (fun m=>k (.negSucc m))=_;rw[zcp]
theorem zzS (c:UInt8)(k:UInt8→α):fU c k=k c:=by simp[fU,zcp]
theorem zpT:∀(l:Bs)(k:Bs→α),fUs l k=k l
 | [],_=>rfl
 |c::l,k=>by
  show fU c (fun c=>fUs l fun l=>k (c::l))=_;rw[zzS,zpT l]
mutual
theorem zsa:∀(v:V) (k:V→α),fV v k=k v
  | .i j n,k=>by show fI n (fun n=>k (.i j n))=_;rw[zw3]
  | .b x,k=>by cases x<;>rfl
  | .s l,k=>by show fUs l (fun l=>k (.s l))=_;rw[zpT]
  | .agg l,k=>fVs2_eq l (fun l=>k (.agg l))
  | .tup l,k=>fVs2_eq l (fun l=>k (.tup l))
  | .ptr n o,k=>by show fN n (fun n=>fN o fun o=>k (.ptr n o))=_;rw[zcp,zcp]
  | .sl n z o l c,k=>by
    show fN n (fun n=>fN o fun o=>fN l fun l=>Option.rec (motive:=fun _=>α) (k (.sl n z o l none)) (fun c=>fN c fun c=>k (.sl n z o l (some c))) c)=_
    rw[zcp,zcp,zcp]
    cases c with
    |none=>rfl
    |some c=>show fN c (fun c=>k (.sl n z o l (some c)))=_;rw[zcp]
  | .fn g l,k=>fVs2_eq l (fun l=>k (.fn g l))
  | .ifc t v,k=>zsa v (fun v=>k (.ifc t v))
  | .isl z l,k=>fVs2_eq l (fun l=>k (.isl z l))
  | .ipt z l j o,k=>(fVs2_eq l (fun l=>fN j fun j=>fN o fun o=>k (.ipt z l j o))).trans (by rw[zcp,zcp])
  | .gp g o,k=>by show fN o (fun o=>k (.gp g o))=_;rw[zcp]
  | .mp n,k=>by show fN n (fun n=>k (.mp n))=_;rw[zcp]
  | .yld n,k=>rfl
  | .itr n,k=>rfl
  | .bfn g l,k=>fVs2_eq l (fun l=>k (.bfn g l))
  | .nilp,k=>rfl
  | .nils,k=>rfl
  | .nilf,k=>rfl
  | .nili,k=>rfl
  | .nilm,k=>rfl
  | .emp,k=>rfl
theorem fVs2_eq:∀(l:List V) (k:List V→α),(V.rec_1 (motive_1:=fun _=>(V→α)→α) (motive_2:=fun _=>(List V→α)→α)
    (fun j n k=>fI n fun n=>k (.i j n)) (fun x k=>Bool.rec (k (.b false)) (k (.b true)) x) (fun l k=>fUs l fun l=>k (.s l))
    (fun _ ih k=>ih fun l=>k (.agg l)) (fun _ ih k=>ih fun l=>k (.tup l)) (fun k=>k .nilp) (fun k=>k .nils) (fun k=>k .nilf) (fun k=>k .nili) (fun k=>k .nilm)
    (fun n o k=>fN n fun n=>fN o fun o=>k (.ptr n o))
    (fun n z o l c k=>fN n fun n=>fN o fun o=>fN l fun l=>Option.rec (k (.sl n z o l none)) (fun c=>fN c fun c=>k (.sl n z o l (some c))) c)
    (fun k=>k .emp) (fun g _ ih k=>ih fun l=>k (.fn g l)) (fun t _ ih k=>ih fun v=>k (.ifc t v)) (fun z _ ih k=>ih fun l=>k (.isl z l))
    (fun z _ j o ih k=>ih fun l=>fN j fun j=>fN o fun o=>k (.ipt z l j o)) (fun g o k=>fN o fun o=>k (.gp g o)) (fun n k=>fN n fun n=>k (.mp n)) (fun n k=>k (.yld n)) (fun n k=>k (.itr n)) (fun g _ ih k=>ih fun l=>k (.bfn g l))
    (fun k=>k []) (fun _ _ ih ihl k=>ih fun v=>ihl fun l=>k (v::l)) l:(List V→α)→α) k=k l
  | [],_=>rfl
  |v::l,k=>(zsa v _).trans (fVs2_eq l (fun l=>k (v::l)))
end
def fSp {β:Type}(l:List β):(List β→α)→α:=List.rec (motive:=fun _=>(List β→α)→α) (fun k=>k []) (fun v _ ih k=>ih fun l=>k (v::l)) l
theorem zfT {β:Type}:∀(l:List β) (k:List β→α),fSp l k=k l
  | [],_=>rfl
  |v::l,k=>zfT l (fun l=>k (v::l))
def tlU {β:Type}(l:List β):List β:=List.rec [] (fun _ r _=>r) l
def zmv {β:Type}(l:List β):List β:=tlU<|tlU<|tlU<|tlU<|tlU<|tlU<|tlU<|tlU<|tlU<|tlU<|tlU<|tlU<|tlU<|tlU<|tlU<|tlU l
def zzF {β:Type}(q:Nat)(l:List β):List β:=Nat.rec l (fun _ ih=>zmv ih) q
def zuE {β:Type}(n:Nat)(l:List β):List β:=Nat.rec l (fun _ ih=>tlU ih) n
def zrY {β:Type}(n:Nat)(l:List β):List β:=zuE (n%16) (zzF (n/16) l)
def zwy {β:Type}(l:List β)(n:Nat):Option β:=List.rec none (fun x _ _=>some x) (zrY n l)
theorem zt1 {β:Type}(l:List β):tlU l=l.drop 1:=by cases l<;>rfl
theorem zpw {β:Type}(l:List β):zmv l=l.drop 16:=by simp only[zmv,zt1,jDd]
theorem zoR {β:Type}:∀(q:Nat)(l:List β),zzF q l=l.drop (16*q)
 |0,l=>rfl
 |q+1,l=>by
  show zmv (zzF q l)=_;rw[zpw,zoR q,jDd];congr 1
theorem zmw {β:Type}:∀(n:Nat)(l:List β),zuE n l=l.drop n
 |0,l=>rfl
 |n+1,l=>by
  show tlU (zuE n l)=_;rw[zt1,zmw n,jDd]
theorem zmx {β:Type}(n:Nat)(l:List β):zrY n l=l.drop n:=by
 rw[zrY,zmw,zoR,jDd];congr 1;omega
theorem zcf {β:Type}(l:List β)(n:Nat):zwy l n=l[n]?:=by
 rw[zwy,zmx,←List.head?_drop];cases l.drop n<;>rfl
def zv1 {β:Type}(l:List β):Nat→List β:=List.rec (motive:=fun _=>Nat→List β) (fun _=>[]) (fun x _ ih n=>Nat.rec [] (fun m _=>x::ih m) n) l
theorem zni {β:Type}:∀(l:List β)(n:Nat),zv1 l n=l.take n
 | [],n=>by cases n<;>rfl
 |x::l,0=>rfl
 |x::l,n+1=>by
  show x::zv1 l n=_;rw[zni l n];rfl
def zAb {β:Type}(l:List β)(k h:Nat):List β:=zv1 (zrY k l) (h-k)
theorem zl8 {β:Type}(l:List β)(k h:Nat):zAb l k h=(l.take h).drop k:=by
 rw[zAb,zni,zmx,jSc]
def eqU (a:Bs):Bs→Bool:=
 List.rec (motive:=fun _=>Bs→Bool) (fun b=>List.rec true (fun _ _ _=>false) b) (fun c _ ih b=>List.rec false (fun d r _=>Bool.rec false (ih r) (Nat.beq c.toNat d.toNat)) b) a
theorem zfQ:∀(a b:Bs),eqU a b=(a==b)
 | [],[]=>rfl
 | [],_::_=>rfl
 |_::_,[]=>rfl
 |c::a,d::b=>by
  show(Bool.rec false (eqU a b) (Nat.beq c.toNat d.toNat):Bool)=_;rw[zfQ a b,List.cons_beq_cons];cases h:Nat.beq c.toNat d.toNat
  ·have:¬c=d:=fun e=>by subst e;rw[Nat.beq_refl]at h;cases h
   have h2:(c==d)=false:=by simpa using this
   rw[h2];rfl
  ·have:c=d:=jBd.1 (jTc h);subst this;simp
noncomputable def setK {β:Type} (l:List β):Nat→β→(List β→α)→α:=
  List.rec (motive:=fun _=>Nat→β→(List β→α)→α) (fun _ _ k=>k []) (fun x r ih n v k=>Nat.rec (k (v::r)) (fun m _=>ih m v fun r=>k (x::r)) n) l
theorem setK_eq {β:Type}:∀(l:List β) (n:Nat) (v:β) (k:List β→α),setK l n v k=k (l.set n v)
  | [],_,_,_=>rfl
  |_::_,0,_,_=>rfl
  |x::r,n+1,v,k=>(setK_eq r n v fun r=>k (x::r)).trans (by simp)
noncomputable def zAr {β:Type} (l:List β) (v:β):(List β→α)→α:=
  List.rec (motive:=fun _=>(List β→α)→α) (fun k=>k [v]) (fun x _ ih k=>ih fun r=>k (x::r)) l
theorem zoL {β:Type}:∀(l:List β) (v:β) (k:List β→α),zAr l v k=k (l++[v])
  | [],_,_=>rfl
  |x::r,v,k=>(zoL r v fun r=>k (x::r)).trans (by simp)
end

structure Tab where
  und:TypeId→Option TypeDesc
  size:TypeId→Option Nat
  zero:TypeId→Option V
  bytes:TypeId→Option Nat
  glob:Nat→Option (List V)
  func:FuncId→Option Func
  ext:FuncId→Option (List V→Option V)
  lies:TypeId→Nat→Nat→TypeId→Bool
  eqs:TypeId→Bool:=fun _=>false
  gint:Nat→Bool:=fun _=>false
  meth:TypeId→String→Option FuncId:=fun _ _=>none

inductive OR where
  |val (v:V) (H:zaa)
  |pan (v:V) (H:zaa)
  |no
  deriving Inhabited

def zap (H:zaa)(n:Nat):Option Blk:=
 match H[n]? with
 |some (some blk)=>if blk.kind=.map then none else some blk
 |_=>none
def zn7 (v:V)(H:zaa)(blk:Blk):OR:=fSp blk.cells fun cs=>zAr H (some {blk with cells:=cs}) fun H'=>.val v H'
def setB (v:V)(H:zaa)(n:Nat)(blk:Blk):OR:=fSp blk.cells fun cs=>setK H n (some {blk with cells:=cs}) fun H'=>.val v H'
theorem zaX (v:V)(H:zaa)(blk:Blk):zn7 v H blk=.val v (H++[some blk]):=by simp[zn7,zfT,zoL]
theorem zcL (v:V)(H:zaa)(n:Nat)(blk:Blk):setB v H n blk=.val v (H.set n (some blk)):=by simp[setB,zfT,setK_eq]

def ztR:Value→Option V
 | .int k n=>some (.i k n)
 | .bool x=>some (.b x)
 | .string s=>some (.s s.data.toList)
 | .pointer none=>some .nilp
 | .slice none 0 0=>some .nils
 | .nilFunc=>some .nilf
 | .nilIface=>some .nili
 | .map none=>some .nilm
 | .func (.func f) ⟨[]⟩ ⟨[]⟩=>some (.fn f [])
 | .tuple ⟨[]⟩=>some .un
 |_=>none
def zlL:List Value→Option (List V)
 | []=>some []
 |v::r=>match ztR v,zlL r with
  |some x,some l=>some (x::l)
  |_,_=>none
def zkA (v:Value):Option V:=
 match v with
 | .agg cs=>(zlL cs.toList).map .agg
 |v=>ztR v
def ev1 (t:Env):Operand→Option V
 | .tmp k=>some (t k)
 | .const v=>zkA v
 | .global g=>some (.gp g 0)
 | .func f=>some (.fn f [])
def evs (t:Env):List Operand→Option (List V)
 | []=>some []
 |o::r=>match ev1 t o,evs t r with
  |some x,some l=>some (x::l)
  |_,_=>none
def put (t:Env)(dst:Option Tmp)(v:V):Env:=
 match dst with
 |some d=>fun k=>if k=d then v else t k
 |none=>t
inductive Tr where
  |leaf
  |node (v:V) (l r:Tr)
  deriving Inhabited
noncomputable def Tr.get (t:Tr):Nat→V:=
 Tr.rec (motive:=fun _=>Nat→V) (fun _=>.un) (fun v _ _ gl gr n=>Bool.rec (Bool.rec (gr ((n-1)/2)) (gl ((n-1)/2)) (Nat.beq (n%2) 1)) v (Nat.beq n 0)) t
theorem zgb {α:Type}(b:Bool)(x y:α):(Bool.rec x y b:α)=bif b then y else x:=by cases b<;>rfl
theorem Tr.get_leaf (n:Nat):Tr.leaf.get n=.un:=rfl
theorem Tr.get_node (v:V)(l r:Tr)(n:Nat):(Tr.node v l r).get n=bif Nat.beq n 0 then v else bif Nat.beq (n%2) 1 then l.get ((n-1)/2)else r.get ((n-1)/2):=by
 rw[←zgb,←zgb];rfl
def Tr.single (v:V):Nat→Nat→Tr
 |0,_=>.node v .leaf .leaf
 |f+1,n=>bif Nat.beq n 0 then .node v .leaf .leaf else bif Nat.beq (n%2) 1 then .node .un (single v f ((n-1)/2)) .leaf else .node .un .leaf (single v f ((n-1)/2))
noncomputable def Tr.setK {α:Type}(t:Tr):Nat→V→(Tr→α)→α:=
 Tr.rec (motive:=fun _=>Nat→V→(Tr→α)→α) (fun n v k=>k (.single v n n)) (fun w l r sl sr n v k=>Bool.rec (Bool.rec (sr ((n-1)/2) v fun r=>k (.node w l r)) (sl ((n-1)/2) v fun l=>k (.node w l r)) (Nat.beq (n%2) 1)) (k (.node v l r)) (Nat.beq n 0)) t
theorem Tr.setK_node {α:Type}(w:V)(l r:Tr)(n:Nat)(v:V)(k:Tr→α):(Tr.node w l r).setK n v k=bif Nat.beq n 0 then k (.node v l r)else bif Nat.beq (n%2) 1 then l.setK ((n-1)/2) v fun l=>k (.node w l r)else r.setK ((n-1)/2) v fun r=>k (.node w l r):=by
 rw[←zgb,←zgb];rfl
noncomputable def Tr.set (t:Tr)(n:Nat)(v:V):Tr:=t.setK n v id
theorem Tr.setK_eq {α:Type}:∀(t:Tr)(n:Nat)(v:V)(k:Tr→α),t.setK n v k=k (t.set n v)
 | .leaf,n,v,k=>rfl
 | .node w l r,n,v,k=>by
  simp only[Tr.set,Tr.setK_node];cases Nat.beq n 0
  ·cases Nat.beq (n%2) 1
   ·simp only[jMd];rw[Tr.setK_eq r,Tr.setK_eq r];rfl
   ·simp only[jVc,jMd];rw[Tr.setK_eq l,Tr.setK_eq l];rfl
  ·rfl
theorem zc0 (a b:Nat):Nat.beq a b=decide (a=b):=by
 cases h:Nat.beq a b
 ·exact(jNb (fun e=>by have:=Nat.ne_of_beq_eq_false h;exact this e)).symm
 ·exact(jVb (jTc h)).symm
theorem Tr.get_single (v:V):∀(f n k:Nat),n≤f→(Tr.single v f n).get k=if k=n then v else .un
 |0,n,k,h=>by
  have:n=0:=by omega
  subst this;simp only[Tr.single,Tr.get_node,Tr.get_leaf,zc0];by_cases hk:k=0<;>simp[hk]
 |f+1,n,k,h=>by
  simp only[Tr.single,zc0];by_cases hn:n=0
  ·subst hn;simp only[jCd,jVc,Tr.get_node,Tr.get_leaf,zc0];by_cases hk:k=0<;>simp[hk]
  ·have ih:=Tr.get_single v f ((n-1)/2) ((k-1)/2) (by omega);simp only[jNb hn,jMd];by_cases hm:n%2=1
   ·simp only[jVb hm,jVc,Tr.get_node,Tr.get_leaf,zc0];by_cases hk:k=0
    ·simp only[jVb hk,jVc];rw[if_neg (by omega)]
    ·simp only[jNb hk,jMd];by_cases hj:k%2=1
     ·simp only[jVb hj,jVc];rw[ih];by_cases e:k=n
      ·rw[if_pos e,if_pos (by omega)]
      ·rw[if_neg e,if_neg (by omega)]
     ·simp only[jNb hj,jMd];rw[if_neg (by omega)]
   ·simp only[jNb hm,jMd,Tr.get_node,Tr.get_leaf,zc0];by_cases hk:k=0
    ·simp only[jVb hk,jVc];rw[if_neg (by omega)]
    ·simp only[jNb hk,jMd];by_cases hj:k%2=1
     ·simp only[jVb hj,jVc];rw[if_neg (by omega)]
     ·simp only[jNb hj,jMd];rw[ih];by_cases e:k=n
      ·rw[if_pos e,if_pos (by omega)]
      ·rw[if_neg e,if_neg (by omega)]
theorem Tr.get_set (v:V):∀(t:Tr)(n k:Nat),(t.set n v).get k=if k=n then v else t.get k
 | .leaf,n,k=>by
  show(Tr.single v n n).get k=_;rw[Tr.get_single v n n k (jDb _)];rfl
 | .node w l r,n,k=>by
  simp only[Tr.set,Tr.setK_node,zc0];by_cases hn:n=0
  ·subst hn;simp only[jCd,jVc,id,Tr.get_node,zc0];by_cases hk:k=0<;>simp[hk]
  ·simp only[jNb hn,jMd];by_cases hm:n%2=1
   ·simp only[jVb hm,jVc];rw[Tr.setK_eq];simp only[id,Tr.get_node,zc0];by_cases hk:k=0
    ·simp only[jVb hk,jVc];rw[if_neg (by omega)]
    ·simp only[jNb hk,jMd];by_cases hj:k%2=1
     ·simp only[jVb hj,jVc];rw[Tr.get_set v l];by_cases e:k=n
      ·rw[if_pos e,if_pos (by omega)]
      ·rw[if_neg e,if_neg (by omega)]
     ·simp only[jNb hj,jMd];rw[if_neg (by omega)]
   ·simp only[jNb hm,jMd];rw[Tr.setK_eq];simp only[id,Tr.get_node,zc0];by_cases hk:k=0
    ·simp only[jVb hk,jVc];rw[if_neg (by omega)]
    ·simp only[jNb hk,jMd];by_cases hj:k%2=1
     ·simp only[jVb hj,jVc];rw[if_neg (by omega)]
     ·simp only[jNb hj,jMd];rw[Tr.get_set v r];by_cases e:k=n
      ·rw[if_pos e,if_pos (by omega)]
      ·rw[if_neg e,if_neg (by omega)]
structure Tm where
  wid:Nat
  tr:Tr
  deriving Inhabited
def Tm.get (t:Tm):Env:=t.tr.get
def Tm.put (t:Tm) (dst:Option Tmp) (v:V):Tm:=
  match dst with
  |some d=>⟨t.wid,t.tr.set d v⟩
  |none=>t
def Tm.fits (t:Tm)(dst:Option Tmp):Bool:=
 match dst with
 |some d=>Nat.blt d t.wid
 |none=>true
@[simp] theorem Tm.wid_put (t:Tm)(d:Option Tmp)(v:V):(t.put d v).wid=t.wid:=by cases d<;>rfl
theorem Tm.get_put (t:Tm)(d:Option Tmp)(v:V):(t.put d v).get=Ev.put t.get d v:=by
 cases d with
 |none=>rfl
 |some d=>funext k;exact Tr.get_set v t.tr d k
def zvn {α:Type} (t:Tm) (dst:Option Tmp) (v:V) (no:α) (k:Tm→α):α:=
  match dst with
  |some d=>bif Nat.blt d t.wid then t.tr.setK d v fun tr=>k ⟨t.wid,tr⟩else no
  |none=>k t
theorem zbJ {α:Type}(t:Tm)(dst:Option Tmp)(v:V)(no:α)(k:Tm→α):zvn t dst v no k=if t.fits dst=true then k (t.put dst v)else no:=by
 cases dst with
 |none=>rfl
 |some d=>
  rw[show zvn t (some d) v no k=cond (t.fits (some d)) (k (t.put (some d) v)) no from by simp only[zvn,Tr.setK_eq];rfl,Bool.cond_eq_ite]
def Tr.fill:List V→Nat→Tr→Tr
 | [],_,t=>t
 |v::l,n,t=>Tr.fill l (n+1) (t.set n v)
def Tm.init (n:Nat)(args:List V):Tm:=⟨n,Tr.fill args 0 .leaf⟩
theorem Tr.get_fill:∀(l:List V)(n:Nat)(t:Tr)(k:Nat),(Tr.fill l n t).get k=if n≤k then(l[k-n]?).getD (t.get k)else t.get k
 | [],n,t,k=>by simp[Tr.fill]
 |v::l,n,t,k=>by
  simp only[Tr.fill];rw[Tr.get_fill l (n+1),Tr.get_set];by_cases h:n+1≤k
  ·rw[if_pos h,if_pos (show n≤k from by omega),if_neg (show ¬k=n from by omega),show k-n=(k-(n+1))+1 from by omega,jAa]
  ·rw[if_neg h];by_cases e:k=n
   ·subst e;simp
   ·rw[if_neg e,if_neg (by omega)]
inductive Out where
  |norm (t:Tm) (H:zaa)
  |exit (id:Nat) (t:Tm) (H:zaa)
  |ret (t:Tm) (H:zaa)
  |pan (v:V) (t:Tm) (H:zaa)
  |no
  deriving Inhabited

def zbV:Option TypeDesc→Option Bool
 |some (.struct _)=>some true
 |some (.array _ _)=>some true
 |some _=>some false
 |none=>none
def cut (l:List V)(off n:Nat):Option (List V):=if off+n≤l.length then some ((l.drop off).take n)else none
def zbq (T:Tab)(t:TypeId)(cells:List V)(off:Nat):Option V:=
 match zbV (T.und t)with
 |some true=>match T.size t with
  |some n=>(cut cells off n).map .agg
  |none=>none
 |some false=>cells[off]?
 |none=>none
def splice (l:List V)(off:Nat)(x:List V):List V:=l.take off++x++l.drop (off+x.length)
def zah (T:Tab)(t:TypeId)(H:zaa):V→Option V
 | .ptr n off=>match zap H n with
  |some blk=>zbq T t blk.cells off
  |none=>none
 | .ipt _ l i off=>match l[i]? with
  |some e=>zbq T t e.cells off
  |none=>none
 | .gp g off=>match T.glob g with
  |some l=>zbq T t l off
  |none=>none
 |_=>none
def zeA:V→Bool
 | .agg _=>false
 | .tup _=>false
 |_=>true
def zbN (T:Tab)(t:TypeId)(H:zaa)(a x:V):Option zaa:=
 match a with
 | .ptr n off=>match zap H n with
  |some blk=>
   if T.size t=some x.cells.length∧off+x.cells.length≤blk.cells.length∧x.cells.all zeA=true then
    fSp (splice blk.cells off x.cells) fun cs=>setK H n (some {blk with cells:=cs}) some
   else none
  |none=>none
 |_=>none
def zgx (d:Nat):V→Option V
 | .ptr n off=>some (.ptr n (off+d))
 | .ipt sz l i off=>some (.ipt sz l i (off+d))
 | .gp g off=>some (.gp g (off+d))
 |_=>none
def zbj (op:BinOp)(k:IntKind)(a b:Int):Option V:=
 match op with
 | .add=>some (.i k (k.wrap (a+b)))
 | .sub=>some (.i k (k.wrap (a-b)))
 | .mul=>some (.i k (k.wrap (a*b)))
 | .eql=>some (.b (a==b))
 | .neq=>some (.b (a !=b))
 | .lss=>some (.b (decide (a<b)))
 | .leq=>some (.b (decide (a≤b)))
 | .gtr=>some (.b (decide (a>b)))
 | .geq=>some (.b (decide (a≥b)))
 | .quo | .rem=>if b=0 then none else match Op.intDiv op k a b with
  | .pure v=>ztR v
  |_=>none
 | .and | .or | .xor | .andNot=>match Op.intBits op k a b with
  | .pure v=>ztR v
  |_=>none
 |_=>none
def zbn (op:BinOp)(k:IntKind)(a:Int)(yk:IntKind)(b:Int):Option V:=
 match Op.shift op k a yk b with
 | .pure v=>ztR v
 |_=>none
def zc8 (op:BinOp) (a b:Bs):Option V:=
  match op with
  | .add=>if Nat.ble (a.length+b.length) 9223372036854775807=true then some (.s (a++b))else none
  | .eql=>some (.b (eqU a b))
  | .neq=>some (.b !(eqU a b))
  | .lss=>some (.b (Op.bytesLess a b))
  | .leq=>some (.b (Op.bytesLess a b||a==b))
  | .gtr=>some (.b !(Op.bytesLess a b||a==b))
  | .geq=>some (.b !(Op.bytesLess a b))
  |_=>none

def zwu (d:Option TypeDesc)(x y:V):Option Bool:=
 match d,x,y with
 |some .bool,.b p,.b q=>some (p==q)
 |some (.pointer _),.nilp,.nilp=>some true
 |some (.pointer _),.nilp,.ptr .. =>some false
 |some (.pointer _),.ptr ..,.nilp=>some false
 |some (.slice _),.nils,.nils=>some true
 |some (.slice _),.nils,.sl .. =>some false
 |some (.slice _),.sl ..,.nils=>some false
 |some (.slice _),.nils,.isl _ l=>if l.isEmpty=true then none else some false
 |some (.slice _),.isl _ l,.nils=>if l.isEmpty=true then none else some false
 |some (.slice _),.nils,.emp=>some false
 |some (.slice _),.emp,.nils=>some false
 |some (.pointer _),.nilp,.ipt .. =>some false
 |some (.pointer _),.ipt ..,.nilp=>some false
 |some (.func ..),.nilf,.nilf=>some true
 |some (.func ..),.nilf,.fn .. =>some false
 |some (.func ..),.fn ..,.nilf=>some false
 |some (.interface _),.nili,.ifc .. =>some false
 |some (.interface _),.ifc ..,.nili=>some false
 |_,_,_=>none
def eq1 (d:Option TypeDesc) (x y:Option V):Option Bool:=
  match d,x,y with
  |some .bool,some (.b p),some (.b q)=>some (p==q)
  |some (.int _),some (.i k a),some (.i k' b)=>if k=k' then some (a==b)else none
  |some .string,some (.s a),some (.s b)=>some (eqU a b)
  |_,_,_=>none
def zpC (T:Tab) (xs ys:List V):List Field→Option Bool
  | []=>some true
  | f::l=>match eq1 (T.und f.type) xs[f.offset]? ys[f.offset]? with
    |some true=>zpC T xs ys l
    |some false=>some false
    |none=>none

def zeq (T:Tab) (t:TypeId) (x y:V):Option Bool:=
  match x,y with
  | .agg xs,.agg ys=>match T.und t with
    |some (.struct fs)=>if T.eqs t=true then zpC T xs ys fs.toList else none
    |_=>none
  | .ptr n o,.ptr m q=>match T.und t with
    | some (.pointer e)=>match T.size e with
      |some s=>if s≠0∧n=m then some (o==q)else none
      |none=>none
    |_=>none
  |x,y=>zwu (T.und t) x y

def zep (T:Tab) (op:BinOp) (xT:TypeId) (x y:V):Option V:=
  match x,y with
  | .i k a,.i k' b=>match op with
    | .shl | .shr=>zbn op k a k' b
    |_=>if k=k' then zbj op k a b else none
  | .s a,.s b=>zc8 op a b
  | x,y=>match op with
    | .eql=>(zeq T xT x y).map .b
    | .neq=>(zeq T xT x y).map fun r=>.b !r
    |_=>none

def zdC (T:Tab) (op:BinOp) (xT:TypeId) (y:Operand) (p q:V):Option V:=
  match p,q,y with
  | .nili,.nili,.const _=>match T.und xT,op with
    |some (.interface _),.eql=>some (.b true)
    |some (.interface _),.neq=>some (.b false)
    |_,_=>none
  |p,q,_=>zep T op xT p q

def ztI (op:UnOp)(x:V):Option V:=
 match op,x with
 | .not,.b y=>some (.b !y)
 | .neg,.i k n=>some (.i k (k.wrap (0-n)))
 | .xor,.i k n=>zbj .xor k (if k.signed then -1 else k.max) n
 |_,_=>none
def zgO (T:Tab)(src dst:TypeId)(x:V):Option V:=
 match T.und src,T.und dst,x with
 |some _,some (.int k),.i _ n=>some (.i k (k.wrap n))
 |some _,some .string,.i _ n=>some (.s (Utf8.encode n).data.toList)
 |some _,some .string,.s l=>some (.s l)
 |_,_,_=>none
def zdn (T:Tab)(H:zaa)(src dst:TypeId)(x:V):Option V:=
 match T.und src,T.und dst,x with
 |some (.pointer e),some .unsafePointer,.ptr n off=>match zap H n,T.size e with
  |some blk,some s=>if s≠0∧off<blk.cells.length then some (.ptr n off)else none
  |_,_=>none
 |some .unsafePointer,some (.pointer u),.ptr n off=>match zap H n,T.size u with
  |some blk,some s=>if s≠0∧blk.kind=.all∧T.lies blk.ty blk.cells.length off u=true then some (.ptr n off)else none
  |_,_=>none
 |_,_,_=>zgO T src dst x
def ziq:List V→Option (List Int)
 | []=>some []
 | .i .i32 n::l=>match ziq l with
  |some r=>some (n::r)
  |none=>none
 |_=>none
def zb8 (l:Bs):List V:=(Conv.runesFrom ⟨l.toArray⟩ l.length 0 #[]).toList.map fun v=>match v with
 | .int k n=>.i k n
 |_=>.tup []
def zdG (ns:List Int):Bs:=(ns.foldl (fun r n=>r++Utf8.encode n) ByteArray.empty).data.toList
def zd2 (d:Option TypeDesc) (x y:V):Option Bool:=
  match d,x,y with
  |some .string,.s a,.s b=>some (eqU a b)
  |some (.int _),.i k a,.i k' b=>if k=k' then some (a==b)else none
  |some .bool,.b a,.b b=>some (a==b)
  |_,_,_=>none
def zcG (d:Option TypeDesc)(x:V):Bool:=
 match d,x with
 |some .string,.s _=>true
 |some (.int _),.i _ _=>true
 |some .bool,.b _=>true
 |_,_=>false
def zdE (d:Option TypeDesc) (k v:V):List V→Option (List V)
  | k' :: v'::l=>match zd2 d k k' with
    |some true=>some (k::v::l)
    | some false=>match zdE d k v l with
      |some r=>some (k'::v'::r)
      |none=>none
    |none=>none
  | [_]=>none
  | []=>some [k,v]
def zcX (d:Option TypeDesc) (k:V):List V→Option (Option V)
  | k'::v'::l=>match zd2 d k k' with
    |some true=>some (some v')
    |some false=>zcX d k l
    |none=>none
  | [_]=>none
  | []=>some none
def zgX:List V→Option (List V)
 | .tup []::l=>some l
 |_=>none
def zdL (H:zaa)(n:Nat):Option Blk:=
 match H[n]? with
 |some (some blk)=>if blk.kind=.map∧(zgX blk.cells).isNone=true then some blk else none
 |_=>none
def zi6 (H:zaa)(n:Nat):Option Blk:=
 match H[n]? with
 |some (some blk)=>if blk.kind=.map then(match zgX blk.cells with
  |some l=>some {blk with cells:=l}
  |none=>none)else none
 |_=>none
def zcV (T:Tab) (ty:TypeId) (m k v:V) (H:zaa):OR:=
  match T.und ty,m with
  | some (.map kt _),.mp n=>match zdL H n with
    | some blk=>if zcG (T.und kt) k then match zdE (T.und kt) k v blk.cells with
        |some l=>setB .un H n {blk with cells:=l}
        |none=>.no
      else .no
    |none=>.no
  |_,_=>.no
def zbm (T:Tab) (ty:TypeId) (m k:V) (ok:Bool) (H:zaa):Option V:=
  match T.und ty,m with
  | some (.map kt et),.mp n=>match zdL H n with
    | some blk=>if zcG (T.und kt) k then match zcX (T.und kt) k blk.cells with
        |some (some v)=>some (if ok then .tup [v,.b true]else v)
        | some none=>match T.zero et with
          |some z=>some (if ok then .tup [z,.b false]else z)
          |none=>none
        |none=>none
      else none
    |none=>none
  |_,_=>none

def zct:List V→Option (Bs)
 | []=>some []
 | .i .u8 n::l=>match zct l with
  |some r=>some (n.toNat.toUInt8::r)
  |none=>none
 |_::_=>none
def zaL (T:Tab) (pt:TypeId) (p len:V) (H:zaa):OR:=
  match p,len with
  | .nilp,.i _ 0=>.val (.s []) H
  | .ptr n off,.i _ m=>if m=0 then .val (.s []) H else if 0<m∧m≤1099511627776 then
      match T.und pt,zap H n with
      | some (.pointer e),some blk=>if blk.ty=e∧T.size e=some 1 then match cut blk.cells off m.toNat with
          | some l=>match zct l with
            |some r=>setK H n (some {ty:=blk.ty,cells:=.tup []::blk.cells,kind:=.map}) fun H'=>.val (.s r) H'
            |none=>.no
          |none=>.no
        else .no
      | some (.pointer e),none=>match zi6 H n with
        | some blk=>if blk.ty=e∧T.size e=some 1 then match cut blk.cells off m.toNat with
          | some l=>match zct l with
            |some r=>.val (.s r) H
            |none=>.no
          |none=>.no
          else .no
        |none=>.no
      |_,_=>.no
    else .no
  |_,_=>.no
def zdp (x:V):Option V:=
 match x with
 | .nils=>some .nilp
 | .sl n sz off len _=>if 0<len then some (.ptr n (off*sz))else none
 |_=>none
def zes (place:Nat→Option (Nat×Nat))(cells:List V):List (Nat×V)→Option (List V)
 | []=>some cells
 |(i,v)::rest=>match place i with
  |none=>none
  |some (off,size)=>
   if v.cells.length=size∧off+v.cells.length≤cells.length then zes place (splice cells off v.cells) rest else none
def zcc (t:Env):List (Nat×Operand)→Option (List (Nat×V))
 | []=>some []
 |(i,o)::r=>match ev1 t o,zcc t r with
  |some x,some l=>some ((i,x)::l)
  |_,_=>none
def zdw (T:Tab):List Field→Option (List (Nat×Nat))
 | []=>some []
 |f::r=>match T.size f.type,zdw T r with
  |some n,some l=>some ((f.offset,n)::l)
  |_,_=>none
def zeF (T:Tab)(ty:TypeId)(parts:List (Nat×V)):Option V:=
 match T.zero ty,T.und ty with
 |some z,some (.struct fs)=>match zdw T fs.toList with
  |some pl=>(zes (fun i=>pl[i]?) z.cells parts).map .agg
  |none=>none
 |some z,some (.array _ e)=>match T.size e with
  |some n=>(zes (fun i=>some (i*n,n)) z.cells parts).map .agg
  |none=>none
 |_,_=>none
def zgo {α:Type}(n:Nat)(l:List α):List α:=
 match n with
 |0=>[]
 |n+1=>l++zgo n l
def zaE (T:Tab)(ty:TypeId)(len:Nat)(parts:List (Nat×V))(H:zaa):OR:=
 match T.und ty with
 |some (.slice e)=>match T.size e,T.zero e with
  |some n,some z=>
   if n=z.cells.length∧0<n∧len*n≤16777216 then
    match zes (fun i=>some (i*n,n)) (zgo len z.cells) parts with
    |some cells=>zn7 (.sl H.length n 0 len (some len)) H {ty:=e,cells,kind:=.all}
    |none=>.no
   else .no
  |_,_=>.no
 |_=>.no
def zbf (T:Tab)(ty:TypeId)(len cap:V)(H:zaa):OR:=
 match T.und ty,len,cap with
 |some (.slice e),.i _ l,.i _ c=>match T.size e,T.zero e,T.bytes e with
  |some n,some z,some bs=>
   if n=z.cells.length∧0<n∧0≤l∧l≤c∧c*bs≤1099511627776∧c≤1099511627776 then
    zn7 (.sl H.length n 0 l.toNat (some c.toNat)) H {ty:=e,cells:=zgo c.toNat z.cells,kind:=.all}
   else .no
  |_,_,_=>.no
 |_,_,_=>.no
def zbK (t:Env)(most dflt:Nat):Option Operand→Option Nat
 |none=>some dflt
 |some o=>match ev1 t o with
  |some (.i _ n)=>if 0≤n∧n≤most then some n.toNat else none
  |_=>none
def zco (T : Tab) (ty:TypeId) (t:Env) (x:V) (lo hi mx:Option Operand):Option V:=
  match mx with
  |some _=>none
  | none => match x with
    | .s l =>match T.und ty with
      | some .string=>match zbK t l.length l.length hi with
        | some h=>match zbK t h 0 lo with
          |some k=>some (.s (zAb l k h))
          |none=>none
        |none=>none
      |_=>none
    | .isl sz l=>match T.und ty with
      | some (.slice e)=>if T.size e=some sz then match zbK t l.length l.length hi with
          | some h=>match zbK t h 0 lo with
            |some k=>some (.isl sz ((l.take h).drop k))
            |none=>none
          |none=>none
        else none
      |_=>none
    | .nils=>match T.und ty with
      | some (.slice e)=>match T.size e,zbK t 0 0 hi,zbK t 0 0 lo with
        |some _,some 0,some 0=>some .nils
        |_,_,_=>none
      |_=>none
    | .sl n sz off len cap=>match T.und ty with
      | some (.slice e)=>if T.size e=some sz then match zbK t (cap.getD len) len hi with
          | some h=>match zbK t h 0 lo with
            | some k=>match cap with
              |some c=>if c=k then some (.sl n sz off (h-k) (some 0))else some (.sl n sz (off+k) (h-k) (some (c-k)))
              |none=>if h=k∧0<k then some .emp else some (.sl n sz (off+k) (h-k) none)
            |none=>none
          |none=>none
        else none
      |_=>none
    | .ptr n off=>match T.und ty with
      | some (.array m e)=>match T.size e with
        | some sz=>if 0<sz∧off%sz=0 then match zbK t m m hi with
            | some h=>match zbK t h 0 lo with
              |some k=>if m=k then none else some (.sl n sz (off/sz+k) (h-k) (some (m-k)))
              |none=>none
            |none=>none
          else none
        |none=>none
      |_=>none
    |_=>none

def zcb (T:Tab)(ty:TypeId)(x:V)(f:Nat):Option V:=
 match T.und ty with
 |some (.struct fs)=>match fs[f]? with
  |some fd=>match T.size fd.type with
   |some n=>if n=0 then none else zgx fd.offset x
   |none=>none
  |none=>none
 |_=>none
def zft (T:Tab)(ty:TypeId)(x:V)(f:Nat):Option V:=
 match T.und ty,x with
 |some (.struct fs),.agg l=>match fs[f]? with
  |some fd=>zbq T fd.type l fd.offset
  |none=>none
 |_,_=>none
def zbe (T:Tab)(ty:TypeId)(x ix:V):Option V:=
 match T.und ty,x,ix with
 |some (.slice e),.sl n sz off len _,.i _ j=>if T.size e=some sz∧0≤j∧j<len then some (.ptr n ((off+j.toNat)*sz))else none
 |some (.slice e),.isl sz l,.i _ j=>if T.size e=some sz∧0≤j∧j<l.length then some (.ipt sz l j.toNat 0)else none
 |some (.array len e),x,.i _ j=>match T.size e with
  |some n=>if 0≤j∧j<len then zgx (j.toNat*n) x else none
  |none=>none
 |_,_,_=>none
def zeG (T:Tab) (ty:TypeId) (x ix:V):Option V:=
  match T.und ty,x,ix with
  | some (.array len e),.agg l,.i _ j=>match T.size e with
    |some n=>if 0≤j∧j<len then zbq T e l (j.toNat*n)else none
    |none=>none
  |some .string,.s l,.i _ j=>if 0≤j then(zwy l j.toNat).map fun c=>.i .u8 c.toNat else none
  |_,_,_=>none

def zf4 (T:Tab)(ty:TypeId)(x:V):Option V:=
 match T.und ty,x with
 |some .string,.s l=>some (.i .i64 l.length)
 |some (.array n _),_=>some (.i .i64 n)
 |some (.slice _),.sl _ _ _ len _=>some (.i .i64 len)
 |some (.slice _),.isl _ l=>some (.i .i64 l.length)
 |some (.slice _),.nils=>some (.i .i64 0)
 |some (.slice _),.emp=>some (.i .i64 0)
 |_,_=>none
def za7 (_:Tab) (_:TypeId) (sz:Nat) (H:zaa):V→Option (List V×Nat)
  | .sl n s off len _=>if s=sz then match zap H n with
      |some blk=>(cut blk.cells (off*sz) (len*sz)).map fun c=>(c,len)
      |none=>none
    else none
  | .isl s l=>if s=sz∧l.all (fun v=>v.cells.length=sz)=true then some (l.flatMap V.cells,l.length)else none
  | .nils=>some ([],0)
  | .emp=>some ([],0)
  | .s l=>if sz=1 then some (l.map fun c=>.i .u8 c.toNat,l.length)else none
  |_=>none

def zaN (T : Tab) (ty:TypeId) (s x:V) (H:zaa):OR:=
  match T.und ty with
  | some (.slice e) => match T.size e,T.bytes e,T.zero e with
    | some sz, some bs, some z=>match za7 T e sz H x with
      |some (new,k)=>
        if 0 < sz ∧ z.cells.length=sz∧bs≤1000000∧new.all zeA=true then
          match s with
          | .nils=>if k=0 then .val .nils H else if k*bs≤1099511627776∧k≤1099511627776 then zn7 (.sl H.length sz 0 k none) H {ty:=e,cells:=new,kind:=.more}else .no
          | .sl n y off len cap=>if y=sz∧(len+k)*bs≤1099511627776∧len+k≤1099511627776 then match zap H n with
              | some blk =>match cut blk.cells (off*sz) (len*sz)with
                | some old=>
                  if k=0 then .val s H
                  else match cap with
                  | some c=>if len+k≤c then
                        (if(off+len+k)*sz≤blk.cells.length then setB (.sl n sz off (len+k) cap) H n {blk with cells:=splice blk.cells ((off+len)*sz) new}else .no)
                      else zn7 (.sl H.length sz 0 (len+k) none) H {ty:=e,cells:=old++new,kind:=.more}
                  | none=>if off=0∧len*sz=blk.cells.length∧blk.ty=e then
                      setK H n none fun H'=>zn7 (.sl H.length sz 0 (len+k) none) H' {ty:=e,cells:=old++new,kind:=.more}else .no
                |none=>.no
              |none=>.no
            else .no
          |_=>.no
        else .no
      |none=>.no
    |_,_,_=>.no
  |_=>.no

def zjJ (H:zaa)(n:Nat):Option (List V):=match zap H n with
 |some b=>some b.cells
 |none=>(zi6 H n).map (·.cells)
def zdD (T:Tab)(ty:TypeId)(d s:V)(H:zaa):OR:=
 match T.und ty,d,s with
 |some (.slice e),.sl n sz off len _,.sl m sz2 off2 len2 _=>match zap H n,zjJ H m with
  |some blk,some cs=>match cut cs off2 (Nat.min len2 len)with
   |some new=>if sz=1∧sz2=1∧T.size e=some 1∧new.all zeA=true∧off+new.length≤blk.cells.length then setB (.i .i64 (new.length:Nat)) H n {blk with cells:=splice blk.cells off new}else .no
   |none=>.no
  |_,_=>.no
 |_,_,_=>.no
def zr7 (op:Builtin)(x y:V):Option V:=
 match op,x,y with
 | .max,.i k a,.i _ b=>some (.i k (if b>a then b else a))
 | .min,.i k a,.i _ b=>some (.i k (if b<a then b else a))
 |_,_,_=>none
def lift (x:Option V)(H:zaa):OR:=
 match x with
 |some v=>.val v H
 |none=>.no
abbrev zad:=FuncId→List V→zaa→OR
def zb0 (T:Tab)(call:zad)(c:Call)(t:Env)(H:zaa):OR:=
 match evs t c.args.toList with
 |none=>.no
 |some args=>match c.callee with
  | .value f=>match ev1 t f with
   |some (.fn g cap)=>match T.ext g with
    |some F=>lift (F (args++cap)) H
    |none=>call g (args++cap) H
   |some (.bfn g fs)=>match T.ext g with
    |some _=>.no
    |none=>call g (fs++args) H
   |_=>.no
  | .invoke x name=>match ev1 t x with
   |some (.ifc ty v)=>match T.meth ty name with
    |some g=>match T.ext g with
     |some _=>.no
     |none=>call g (v::args) H
    |none=>.no
   |_=>.no
  | .builtin .copy=>match c.argTypes[0]?,args with
   |some ty,[d,s]=>zdD T ty d s H
   |_,_=>.no
  | .builtin .unsafeSliceData=>match args with
   | [x]=>lift (zdp x) H
   |_=>.no
  | .builtin .unsafeString=>match c.argTypes[0]?,args with
   |some ty,[p,l]=>zaL T ty p l H
   |_,_=>.no
  | .builtin .len=>match c.argTypes[0]?,args with
   |some ty,[x]=>lift (zf4 T ty x) H
   |_,_=>.no
  | .builtin .append=>match c.argTypes[0]?,c.argTypes[1]?,args with
   |some ty,some ty2,[s,x]=>match T.und ty2 with
    |some (.slice _)=>zaN T ty s x H
    |some .string=>zaN T ty s x H
    |_=>.no
   |_,_,_=>.no
  | .builtin .max=>match args with
   | [x,y]=>lift (zr7 .max x y) H
   |_=>.no
  | .builtin .min=>match args with
   | [x,y]=>lift (zr7 .min x y) H
   |_=>.no
  |_=>.no
def zdm (T:Tab)(ty:TypeId)(ok:Bool)(p:V):Option V:=
 match T.und ty with
 |some (.interface _)=>none
 |none=>none
 |some _=>match p with
  | .ifc t v=>if t=ty then some (bif ok then .tup [v,.b true]else v)else bif ok then(T.zero ty).map fun z=>.tup [z,.b false]else none
  | .nili=>bif ok then(T.zero ty).map fun z=>.tup [z,.b false]else none
  |_=>none
def zaT (T:Tab) (src dst:TypeId) (p:V) (H:zaa):OR:=
  match T.und src,T.und dst,p with
  | some .string,some (.slice e),.s l=>match T.und e with
    |some (.int .u8)=>if Nat.beq src 9=true then zn7 (.sl H.length 1 0 l.length none) H {ty:=e,cells:=.tup []::l.map (fun c=>.i .u8 c.toNat),kind:=.map}else .no
    |some (.int .i32)=>if Nat.beq src 9=true∧l.length≤70368744177664 then zn7 (.sl H.length 1 0 (zb8 l).length none) H {ty:=e,cells:=zb8 l,kind:=.more}else .no
    |_=>.no
  | some (.slice e),some .string,.sl n sz off len _=>match T.und e,zap H n with
    | some (.int .i32),some blk=>if sz=1 then match cut blk.cells off len with
        | some cs=>match ziq cs with
          |some ns=>.val (.s (zdG ns)) H
          |none=>.no
        |none=>.no
      else .no
    | some (.int .u8),some blk=>if sz=1 then match cut blk.cells off len with
        | some cs=>match zct cs with
          |some r=>.val (.s r) H
          |none=>.no
        |none=>.no
      else .no
    |_,_=>.no
  |_,_,_=>lift (zdn T H src dst p) H

def zb7 (T:Tab) (call:zad) (o:Oper) (t:Env) (H:zaa):OR:=
  match o.op with
  | .move x=>lift (ev1 t x) H
  | .assign x=>lift (ev1 t x) H
  | .pick c a b=>match ev1 t c with
    |some (.b true)=>lift (ev1 t a) H
    |some (.b false)=>lift (ev1 t b) H
    |_=>.no
  | .alloc e=>match T.zero e with
    |some z=>zn7 (.ptr H.length 0) H {ty:=e,cells:=z.cells,kind:=.all}
    |none=>.no
  | .box e x=>match ev1 t x with
    |some v=>if v.cells.all zeA=true then zn7 (.ptr H.length 0) H {ty:=e,cells:=v.cells,kind:=.all}else .no
    |none=>.no
  | .build ty parts=>match zcc t parts.toList with
    |some ps=>lift (zeF T ty ps) H
    |none=>.no
  | .buildSlice ty len parts=>match zcc t parts.toList with
    |some ps=>zaE T ty len ps H
    |none=>.no
  | .load ty a=>match ev1 t a with
    |some p=>lift (zah T ty H p) H
    |none=>.no
  | .store ty a x=>match ev1 t a,ev1 t x with
    | some p,some v=>match zbN T ty H p v with
      |some H'=>.val .un H'
      |none=>.no
    |_,_=>.no
  | .nilCheck x=>match ev1 t x with
    |some (.ptr n off)=>.val (.ptr n off) H
    |some (.gp g off)=>.val (.gp g off) H
    |some (.ipt sz l i off)=>.val (.ipt sz l i off) H
    |some (.fn g cap)=>.val (.fn g cap) H
    |_=>.no
  | .binOp op xT x y _=>match ev1 t x,ev1 t y with
    |some p,some q=>lift (zdC T op xT y p q) H
    |_,_=>.no
  | .unOp op _ x=>match ev1 t x with
    |some p=>lift (ztI op p) H
    |none=>.no
  | .convert src dst x=>match ev1 t x with
    |some p=>zaT T src dst p H
    |none=>.no
  | .makeInterface ty x=>match T.und ty,ev1 t x with
    |some (.interface _),_=>.no
    |some _,some v=>.val (.ifc ty v) H
    |_,_=>.no
  | .makeFunc (.func g) first captured=>match first.toList,evs t captured.toList with
    | [],some cs=>.val (.fn g cs) H
    | x::r,some []=>match evs t (x::r)with
      |some fs=>.val (.bfn g fs) H
      |none=>.no
    |_,_=>.no
  | .makeSlice ty len cap=>match ev1 t len,ev1 t cap with
    |some l,some c=>zbf T ty l c H
    |_,_=>.no
  | .slice ty x lo hi mx=>match ev1 t x with
    |some p=>lift (zco T ty t p lo hi mx) H
    |none=>.no
  | .fieldAddr ty x f=>match ev1 t x with
    |some p=>lift (zcb T ty p f) H
    |none=>.no
  | .field ty x f=>match ev1 t x with
    |some p=>lift (zft T ty p f) H
    |none=>.no
  | .indexAddr ty x ix=>match ev1 t x,ev1 t ix with
    |some p,some q=>lift (zbe T ty p q) H
    |_,_=>.no
  | .index ty x ix=>match ev1 t x,ev1 t ix with
    |some p,some q=>lift (zeG T ty p q) H
    |_,_=>.no
  | .extract x ix=>match ev1 t x with
    |some (.tup l)=>lift l[ix]? H
    |_=>.no
  | .makeMap ty r=>match r with
    |none=>zn7 (.mp H.length) H {ty,cells:=[],kind:=.map}
    | some o=>match T.und ty,ev1 t o with
      |some (.map _ _),some (.i _ _)=>zn7 (.mp H.length) H {ty,cells:=[],kind:=.map}
      |_,_=>.no
  | .mapUpdate ty m k v=>match ev1 t m,ev1 t k,ev1 t v with
    |some p,some q,some x=>zcV T ty p q x H
    |_,_,_=>.no
  | .insert ty m k v=>match ev1 t m,ev1 t k,ev1 t v with
    |some p,some q,some x=>zcV T ty p q x H
    |_,_,_=>.no
  | .lookup ty m k ok=>match ev1 t m,ev1 t k with
    |some p,some q=>lift (zbm T ty p q ok H) H
    |_,_=>.no
  | .call c=>zb0 T call c t H
  | .panic x=>match ev1 t x with
    |some (.ifc ty v)=>.pan (.ifc ty v) H
    |_=>.no
  | .typeAssert x _ ty ok=>match ev1 t x with
    |some p=>lift (zdm T ty ok p) H
    |none=>.no
  |_=>.no

def zaD (ops:Array Oper)(o:Oper)(t:Env):Option Bool:=
 match o.guard with
 |none=>some true
 |some (j,want)=>match(ops[j]?).bind (·.dst)with
  |none=>some false
  |some d=>match t d with
   | .b y=>some (y==want)
   | .tup []=>some false
   |_=>none
def zmT (op:Op) (v:V) {α:Type} (k:V→α):α:=
  match op with
  | .move (.tmp _)=>k v
  | .assign (.tmp _)=>k v
  | .pick .. =>k v
  | .extract .. =>k v
  | .nilCheck .. =>k v
  |_=>fV v k
theorem zbp (op:Op) (v:V) {α:Type} (k:V→α):zmT op v k=k v:=by
  unfold zmT
  split<;>first
    |rfl
    |exact zsa v k

def zaK (step:Oper→Env→zaa→OR) (ops:Array Oper):List Oper→Tm→zaa→Out
  | [],t,H=>.norm t H
  | o :: r,t,H=>match zaD ops o t.get with
    | some true=>match step o t.get H with
      | .val v H'=>zmT o.op v fun v=>zvn t o.dst v .no fun t'=>zaK step ops r t' H'
      | .pan v H'=>.pan v t H'
      | .no=>.no
    |some false=>zvn t o.dst .un .no fun t'=>zaK step ops r t' H
    |none=>.no

def zbU (reg:Array Oper→Bool→Tm→zaa→Out) (loop:Code→Tm→zaa→Out):Code→Tm→zaa→Out
  | .skip,t,H=>.norm t H
  | .label _,t,H=>.norm t H
  | .region _ ops d,t,H=>reg ops d t H
  | .seq a c,t,H=>match zbU reg loop a t H with
    | .norm t' H'=>zbU reg loop c t' H'
    |o=>o
  | .cond c x y,t,H=>match ev1 t.get c with
    |some (.b true)=>zbU reg loop x t H
    |some (.b false)=>zbU reg loop y t H
    |_=>.no
  | .block id c,t,H=>match zbU reg loop c t H with
    | .exit j t' H'=>if j=id then .norm t' H' else .exit j t' H'
    |o=>o
  | .loop c,t,H=>match zbU reg loop c t H with
    | .norm t' H'=>loop c t' H'
    |o=>o
  | .exit id,t,H=>.exit id t H
  | .ret,t,H=>.ret t H
  |_,_,_=>.no

def zgR (reg:Array Oper→Bool→Tm→zaa→Out):Nat→Code→Tm→zaa→Out
  |0,_,_,_=>.no
  |n+1,c,t,H=>zbU reg (zgR reg n) (.loop c) t H

def zci (T:Tab)(t:Env)(H:zaa):ResultVar→Option V
 | .tmp k=>some (t k)
 | .cell a ty=>zah T ty H (t a)
def zbg (T:Tab)(t:Env)(H:zaa):List ResultVar→Option (List V)
 | []=>some []
 |r::rs=>match zci T t H r,zbg T t H rs with
  |some x,some l=>some (x::l)
  |_,_=>none
def zaZ (T:Tab)(fn:Func)(t:Env)(H:zaa):OR:=
 match zbg T t H fn.results.toList with
 |some [x]=>.val x H
 |some l=>.val (.tup l) H
 |none=>.no
abbrev Gam:=FuncId→List V→zaa→Option OR
def zb1 (T:Tab) (reg:zad→Array Oper→Bool→Tm→zaa→Out) (G:Gam):Nat→zad
  |0,_,_,_=>.no
  | n + 1, f,args,H=>match G f args H with
    |some r=>r
    | none =>match T.func f with
      |none=>.no
      | some fn=>match fn.body with
        |none=>.no
        | some c=>bif Nat.ble args.length fn.ntmps then
          match zbU (reg (zb1 T reg G n)) (zgR (reg (zb1 T reg G n)) n) c (Tm.init fn.ntmps args) H with
          | .norm t H'=>zaZ T fn t.get H'
          | .ret t H'=>zaZ T fn t.get H'
          | .pan v _ H'=>.pan v H'
          |_=>.no
        else .no

end
open Go

abbrev Mem:=Nat→Option Obj
def Mem.cell (M:Mem)(b o:Nat):Option Value:=
 match M b with
 |some (.cells cs _ _)=>cs[o]?
 |_=>none
abbrev Ren:=List (Nat×Nat)
mutual
def rel (M:Mem) (ρ:Ren):V→Value→Prop
  | .i k n,x=>x=.int k n
  | .b y,x=>x=.bool y
  | .s l,x=>x=.string ⟨l.toArray⟩
  | .agg l,x=>∃cs:List Value,x=.agg cs.toArray∧relL M ρ l cs
  | .tup l,x=>∃cs:List Value,x=.tuple cs.toArray∧relL M ρ l cs
  | .nilp,x=>x=.pointer none
  | .nils,x=>x=.slice none 0 0
  | .nilf,x=>x=.nilFunc
  | .nili,x=>x=.nilIface
  | .nilm,x=>x=.map none
  | .ptr n off,x=>∃b c,ρ[n]? = some (b,c)∧x=.pointer (some ⟨b,off,none⟩)
  | .sl n sz off len cap,x=>∃b c k,ρ[n]? = some (b,c)∧x=.slice (some ⟨b,off*sz,none⟩) len k∧len≤k∧(∀q,cap=some q→k=q)∧(cap=none→(off+k)*sz=c)
  | .emp,x=>∃a c,x=.slice (some a) 0 c
  | .fn g cap,x=>∃cs:List Value,x=.func (.func g) #[] cs.toArray∧relL M ρ cap cs
  | .ifc t v,x=>∃y,x=.iface t y∧rel M ρ v y
  | .isl sz l,x=>∃a k,x=.slice a l.length k∧l.length≤k∧(l≠[]→∃b o,a=some ⟨b,o,none⟩∧relRow M ρ sz l b o)
  | .ipt sz l i off,x=>∃b o,x=.pointer (some ⟨b,o+i*sz+off,none⟩)∧relRow M ρ sz l b o
  | .gp g off,x=>x=.pointer (some ⟨g,off,none⟩)
  | .mp n,x=>∃b c,ρ[n]? = some (b,c)∧x=.map (some b)
  | .yld l,x=>x=.func (.yield l) #[] #[]
  | .itr l,x=>x=.pointer (some ⟨l,0,none⟩)
  | .bfn g l,x=>∃cs:List Value,x=.func (.func g) cs.toArray #[]∧relL M ρ l cs
def relL (M:Mem) (ρ:Ren):List V→List Value→Prop
  | [],cs=>cs=[]
  |v::l,cs=>∃x r,cs=x::r∧rel M ρ v x∧relL M ρ l r
def relRow (M:Mem) (ρ:Ren) (sz:Nat):List V→Nat→Nat→Prop
  | [],_,_=>True
  |v::l,b,o=>(∃x:Value,rel M ρ v x∧x.cells.size=sz∧∀j c,x.cells[j]? = some c→M.cell b (o+j)=some c)∧relRow M ρ sz l b (o+sz)
end

def Mem.le (M M':Mem):Prop:=∀b o,M b=some o→M' b=some o
theorem Mem.le.refl (M:Mem):M.le M:=fun _ _ h=>h
theorem Mem.le.trans {A B C:Mem}(h:A.le B)(k:B.le C):A.le C:=fun b o e=>k b o (h b o e)
theorem Mem.le.cell {M M':Mem}(h:M.le M'){b o:Nat}{c:Value}(e:M.cell b o=some c):M'.cell b o=some c:=by
 unfold Mem.cell at *;cases hb:M b with
 |none=>simp[hb]at e
 |some ob=>rw[h b ob hb];rw[hb]at e;exact e
theorem zfD {ρ ρ':Ren}(h:ρ <+: ρ'){n:Nat}{x:Nat×Nat}(e:ρ[n]? = some x):ρ'[n]? = some x:=by
 obtain⟨t,rfl⟩:=h;have hn:n<ρ.length:=(jGa.1 e).1;rw[jQa hn];exact e
section
variable {M M':Mem}{ρ ρ':Ren}
mutual
theorem zbx (hM:M.le M') (hρ:ρ <+: ρ'):∀(v:V) (x:Value),rel M ρ v x→rel M' ρ' v x
  | .i ..,_,h=>by simpa[rel]using h
  | .b ..,_,h=>by simpa[rel]using h
  | .s ..,_,h=>by simpa[rel]using h
  | .nilp,_,h=>by simpa[rel]using h
  | .nils,_,h=>by simpa[rel]using h
  | .nilf,_,h=>by simpa[rel]using h
  | .nili,_,h=>by simpa[rel]using h
  | .nilm,_,h=>by simpa[rel]using h
  | .emp,_,h=>by simpa[rel]using h
  | .gp ..,_,h=>by simpa[rel]using h
  | .yld ..,_,h=>by simpa[rel]using h
  | .itr ..,_,h=>by simpa[rel]using h
  | .agg l,x,h=>by
    simp only[rel]at h ⊢
    obtain⟨cs,e,k⟩:=h
    exact⟨cs,e,relL_mono hM hρ l cs k⟩
  | .tup l,x,h=>by
    simp only[rel]at h ⊢
    obtain⟨cs,e,k⟩:=h
    exact⟨cs,e,relL_mono hM hρ l cs k⟩
  | .fn g l,x,h=>by
    simp only[rel]at h ⊢
    obtain⟨cs,e,k⟩:=h
    exact⟨cs,e,relL_mono hM hρ l cs k⟩
  | .bfn g l,x,h=>by
    simp only[rel]at h ⊢
    obtain⟨cs,e,k⟩:=h
    exact⟨cs,e,relL_mono hM hρ l cs k⟩
  | .ptr n off,x,h=>by
    simp only[rel]at h ⊢
    obtain⟨b,c,e,k⟩:=h
    exact⟨b,c,zfD hρ e,k⟩
  | .mp n,x,h=>by
    simp only[rel]at h ⊢
    obtain⟨b,c,e,k⟩:=h
    exact⟨b,c,zfD hρ e,k⟩
  | .sl n sz off len cap,x,h=>by
    simp only[rel]at h ⊢
    obtain⟨b,c,k,e,r⟩:=h
    exact⟨b,c,k,zfD hρ e,r⟩
  | .ifc t v,x,h=>by
    simp only[rel]at h ⊢
    obtain⟨y,e,k⟩:=h
    exact⟨y,e,zbx hM hρ v y k⟩
  | .isl sz l,x,h=>by
    simp only[rel]at h ⊢
    obtain⟨a,k,e,hk,hr⟩:=h
    refine⟨a,k,e,hk,fun hl=>?_⟩
    obtain⟨b,o,ha,hr⟩:=hr hl
    exact⟨b,o,ha,relRow_mono hM hρ sz l b o hr⟩
  | .ipt sz l i off,x,h=>by
    simp only[rel]at h ⊢
    obtain⟨b,o,ha,hr⟩:=h
    exact⟨b,o,ha,relRow_mono hM hρ sz l b o hr⟩
theorem relL_mono (hM:M.le M') (hρ:ρ <+: ρ'):∀(l:List V) (cs:List Value),relL M ρ l cs→relL M' ρ' l cs
  | [],_,h=>by simpa[relL]using h
  | v::l,cs,h=>by
    simp only[relL]at h ⊢
    obtain⟨x,r,e,hx,hr⟩:=h
    exact⟨x,r,e,zbx hM hρ v x hx,relL_mono hM hρ l r hr⟩
theorem relRow_mono (hM:M.le M') (hρ:ρ <+: ρ') (sz:Nat):∀(l:List V) (b o:Nat),relRow M ρ sz l b o→relRow M' ρ' sz l b o
  | [],_,_,_=>by simp[relRow]
  | v::l,b,o,h=>by
    simp only[relRow]at h ⊢
    obtain⟨⟨x,hx,hs,hc⟩,hr⟩:=h
    exact⟨⟨x,zbx hM hρ v x hx,hs,fun j c hj=>hM.cell (hc j c hj)⟩,relRow_mono hM hρ sz l b (o+sz) hr⟩
end

theorem zam:∀{l:List V}{cs:List Value},relL M ρ l cs→cs.length=l.length
 | [],cs,h=>by simp only[relL]at h;subst h;rfl
 |v::l,cs,h=>by
  simp only[relL]at h;obtain⟨x,r,rfl,_,hr⟩:=h;simp[zam hr]
theorem zdy:relL M ρ [] []:=by simp[relL]
theorem zaw {v:V}{x:Value}{l:List V}{cs:List Value}(h:rel M ρ v x)(k:relL M ρ l cs):relL M ρ (v::l) (x::cs):=by
 simp only[relL];exact⟨x,cs,rfl,h,k⟩
theorem za2:∀{l:List V}{cs:List Value}(_:relL M ρ l cs){i:Nat}{v:V},l[i]? = some v→∃x,cs[i]? = some x∧rel M ρ v x
 | [],_,_,i,v,e=>by simp at e
 |u::l,cs,h,i,v,e=>by
  simp only[relL]at h;obtain⟨x,r,rfl,hx,hr⟩:=h;cases i with
  |zero=>simp at e;subst e;exact⟨x,rfl,hx⟩
  |succ i=>simp at e ⊢;exact za2 hr e
theorem za5:∀{l l':List V}{cs cs':List Value},relL M ρ l cs→relL M ρ l' cs'→relL M ρ (l++l') (cs++cs')
 | [],_,cs,_,h,k=>by simp only[relL]at h;subst h;simpa using k
 |v::l,l',cs,cs',h,k=>by
  simp only[relL]at h;obtain⟨x,r,rfl,hx,hr⟩:=h;exact zaw hx (za5 hr k)
theorem zdc:∀(n:Nat){l:List V}{cs:List Value},relL M ρ l cs→relL M ρ (l.drop n) (cs.drop n)
 |0,_,_,h=>by simpa using h
 |n+1,[],cs,h=>by simp only[relL]at h;subst h;simp[relL]
 |n+1,v::l,cs,h=>by
  simp only[relL]at h;obtain⟨x,r,rfl,hx,hr⟩:=h;simpa using zdc n hr
theorem zdd:∀(n:Nat){l:List V}{cs:List Value},relL M ρ l cs→relL M ρ (l.take n) (cs.take n)
 |0,_,_,h=>by simp[relL]
 |n+1,[],cs,h=>by simp only[relL]at h;subst h;simp[relL]
 |n+1,v::l,cs,h=>by
  simp only[relL]at h;obtain⟨x,r,rfl,hx,hr⟩:=h;simpa using zaw hx (zdd n hr)
theorem zmX:∀(n:Nat){l:List V}{cs:List Value}{v:V}{x:Value},relL M ρ l cs→rel M ρ v x→relL M ρ (l.set n v) (cs.set n x)
 |_,[],cs,v,x,h,_=>by simp only[relL]at h;subst h;simp[relL]
 |0,u::l,cs,v,x,h,hv=>by
  simp only[relL]at h;obtain⟨y,r,rfl,hy,hr⟩:=h;exact zaw hv hr
 |n+1,u::l,cs,v,x,h,hv=>by
  simp only[relL]at h;obtain⟨y,r,rfl,hy,hr⟩:=h;exact zaw hy (zmX n hr hv)
theorem zhl {l x:List V}{cs ys:List Value}(off:Nat)(h:relL M ρ l cs)(k:relL M ρ x ys):relL M ρ (splice l off x) (cs.take off++ys++cs.drop (off+ys.length)):=by
 unfold splice;rw[zam k];exact za5 (za5 (zdd off h) k) (zdc _ h)
theorem za6:rel M ρ .un undef:=by simp only[rel];exact⟨[],rfl,zdy⟩
theorem zei {v:Value}{x:V}(h:ztR v=some x):rel M ρ x v:=by
 unfold ztR at h;split at h<;>first|(cases h;simp[rel,relL])|cases h
theorem zkz:∀{l:List Value}{xs:List V},zlL l=some xs→relL M ρ xs l
 | [],xs,h=>by simp only[zlL,jNa]at h;subst h;simp[relL]
 |v::r,xs,h=>by
  simp only[zlL]at h;split at h
  ·rename_i x l hx hl;cases h;exact zaw (zei hx) (zkz hl)
  ·cases h
theorem zb4 {v:Value}{x:V}(h:zkA v=some x):rel M ρ x v:=by
 unfold zkA at h;split at h
 ·rename_i cs;cases hc:zlL cs.toList with
  |none=>simp[hc]at h
  |some l=>
   simp[hc]at h;subst h;simp only[rel];exact⟨cs.toList,by simp,zkz hc⟩
 ·exact zei h
def zik (M:Mem)(ρ:Ren)(t:Env)(tmps:Array Value):Prop:=∀k,rel M ρ (t k) (tmps.getD k undef)
theorem zfd (hM:M.le M')(hρ:ρ <+: ρ'){t:Env}{tmps:Array Value}(h:zik M ρ t tmps):zik M' ρ' t tmps:=fun k=>zbx hM hρ _ _ (h k)
def zaS (M:Mem)(ρ:Ren)(t:Tm)(tmps:Array Value):Prop:=t.wid=tmps.size∧zik M ρ t.get tmps
theorem za0 (hM:M.le M')(hρ:ρ <+: ρ'){t:Tm}{tmps:Array Value}(h:zaS M ρ t tmps):zaS M' ρ' t tmps:=⟨h.1,zfd hM hρ h.2⟩
theorem zas {t:Env}{a:Act}(h:zik M ρ t a.tmps){o:Operand}{v:V}(e:ev1 t o=some v):rel M ρ v (a.eval o):=by
 cases o with
 |tmp k=>
  simp only[ev1,jNa]at e;subst e;exact h k
 |const v=>exact zb4 e
 |global g=>simp only[ev1,jNa]at e;subst e;simp[rel,Act.eval]
 |func f=>simp only[ev1,jNa]at e;subst e;simp[rel,Act.eval,relL]
theorem zeI {t:Env}{a:Act}(h:zik M ρ t a.tmps):∀{l:List Operand}{vs:List V},evs t l=some vs→relL M ρ vs (l.map a.eval)
 | [],vs,e=>by simp only[evs,jNa]at e;subst e;simp[relL]
 |o::r,vs,e=>by
  simp only[evs]at e;split at e
  ·rename_i x l hx hl;cases e;exact zaw (zas h hx) (zeI h hl)
  ·cases e
theorem zej {t:Env}{a:Act}(h:zik M ρ t a.tmps){v:V}{x:Value}(hv:rel M ρ v x)(d:Option Tmp)(hd:∀e,d=some e→e<a.tmps.size):zik M ρ (put t d v) (a.put d x).tmps:=by
 cases d with
 |none=>exact h
 |some d=>
  intro k;have hd:=hd d rfl;simp only[put,Act.put,jCb,Array.getElem?_setIfInBounds];by_cases e:k=d
  ·subst e;simpa[hd]using hv
  ·have e':¬d=k:=fun h=>e h.symm;simpa[e,e',jCb]using h k
theorem zlC {t:Tm}{d:Option Tmp}(h:t.fits d=true):∀e,d=some e→e<t.wid:=by
 intro e he;subst he;simpa[Tm.fits,Nat.blt_eq]using h
theorem zbu {t:Tm}{a:Act}(h:zaS M ρ t a.tmps){v:V}{x:Value}(hv:rel M ρ v x)(d:Option Tmp)(hd:t.fits d=true):zaS M ρ (t.put d v) (a.put d x).tmps:=by
 refine⟨?_,?_⟩
 ·rw[Tm.wid_put,h.1];cases d<;>simp[Act.put]
 ·rw[Tm.get_put];exact zej h.2 hv d (by have:=zlC hd;rwa [h.1]at this)
theorem zbi {v:V}{x:Value}(h:rel M ρ v x):relL M ρ v.cells x.cells.toList:=by
 cases v with
 |agg l=>
  simp only[rel]at h;obtain⟨cs,rfl,h⟩:=h;simpa[V.cells,Value.cells]using h
 |_=>
  have:x.cells=#[x]:=by
   simp only[rel]at h;first
    |(subst h;rfl)
    |(obtain⟨_,rfl,_⟩:=h;rfl)
    |(obtain⟨_,_,_,rfl⟩:=h;rfl)
    |(obtain⟨_,_,_,_,rfl,_⟩:=h;rfl)
    |(obtain⟨_,_,rfl⟩:=h;rfl)
    |(obtain⟨_,_,rfl,_⟩:=h;rfl)
  rw[this];exact zaw h zdy
theorem zsc {v:V}{x:Value}(h:rel M ρ v x)(hf:zeA v=true):(∀cs,x≠.agg cs)∧∀cs,x≠.tuple cs:=by
 cases v<;>simp only[rel]at h<;>first
  |(simp[zeA]at hf;done)
  |(subst h;simp)
  |(obtain⟨_,rfl,_⟩:=h;simp)
  |(obtain⟨_,_,_,rfl⟩:=h;simp)
  |(obtain⟨_,_,_,_,rfl,_⟩:=h;simp)
  |(obtain⟨_,_,rfl⟩:=h;simp)
  |(obtain⟨_,_,rfl,_⟩:=h;simp)
end

def zeS (M:Mem)(ρ:Ren):List V→List MapEntry→Prop
 |k::v::l,es=>∃e r,es=e::r∧rel M ρ k e.key∧rel M ρ v e.val∧zeS M ρ l r
 | [_],_=>False
 | [],es=>es=[]
theorem zkF {M M':Mem}{ρ ρ':Ren}(hM:M.le M')(hρ:ρ <+: ρ'):∀(l:List V)(es:List MapEntry),zeS M ρ l es→zeS M' ρ' l es
 |k::v::l,es,h=>by
  simp only[zeS]at h ⊢;obtain⟨e,r,he,hk,hv,hr⟩:=h;exact⟨e,r,he,zbx hM hρ _ _ hk,zbx hM hρ _ _ hv,zkF hM hρ l r hr⟩
 | [_],_,h=>by simp only[zeS]at h
 | [],es,h=>by simpa[zeS]using h
def zdh (es:List MapEntry)(clock:Nat):Prop:=(∀e∈es,e.born<clock)∧(es.map (·.born)).Nodup
def zbQ (M:Mem)(ρ:Ren)(ob:Option Obj)(blk:Blk)(c:Nat):Prop:=
 match blk.kind with
 | .map=>(∃(es:List MapEntry)(clock:Nat),ob=some (.map es.toArray clock)∧zeS M ρ blk.cells es∧(zgX blk.cells).isNone=true∧zdh es clock) ∨
  ∃(l:List V)(cs cs':List Value)(fr:Nat×Nat),zgX blk.cells=some l∧(cs++cs').length=c∧ob=some (.cells (cs++cs').toArray blk.ty fr)∧relL M ρ l cs
 |k=>∃cs cs':List Value,(cs++cs').length=c∧ob=some (.cells (cs++cs').toArray blk.ty (0,0))∧relL M ρ blk.cells cs∧(k=.all→cs'=[])
theorem zbQ.mono {M M':Mem}{ρ ρ':Ren}(hM:M.le M')(hρ:ρ <+: ρ'){ob:Option Obj}{blk:Blk}{c:Nat}(h:zbQ M ρ ob blk c):zbQ M' ρ' ob blk c:=by
 unfold zbQ at h ⊢;split at h
 ·rcases h with⟨es,clock,h1,h2,h5⟩|⟨l,cs,cs',fr,h1,h2,h3,h4⟩
  ·exact .inl ⟨es,clock,h1,zkF hM hρ _ _ h2,h5⟩
  ·exact .inr ⟨l,cs,cs',fr,h1,h2,h3,relL_mono hM hρ _ _ h4⟩
 ·obtain⟨cs,cs',h1,h2,h3,h4⟩:=h;exact⟨cs,cs',h1,h2,relL_mono hM hρ _ _ h3,h4⟩
theorem zbQ.cells {M:Mem}{ρ:Ren}{ob:Option Obj}{blk:Blk}{c:Nat}(h:zbQ M ρ ob blk c)(hk:blk.kind≠.map) :
 ∃cs cs':List Value,(cs++cs').length=c∧ob=some (.cells (cs++cs').toArray blk.ty (0,0))∧relL M ρ blk.cells cs∧(blk.kind=.all→cs'=[]):=by
 unfold zbQ at h;split at h
 ·rename_i e;exact absurd e hk
 ·exact h
theorem zbQ.of_cells {M:Mem}{ρ:Ren}{ob:Option Obj}{blk:Blk}{c:Nat}(hk:blk.kind≠.map)(h:∃cs cs':List Value,(cs++cs').length=c∧ob=some (.cells (cs++cs').toArray blk.ty (0,0))∧relL M ρ blk.cells cs∧(blk.kind=.all→cs'=[])):zbQ M ρ ob blk c:=by
 unfold zbQ;split
 ·rename_i e;exact absurd e hk
 ·exact h
structure SR (T:Tab) (M:Mem) (ρ:Ren) (H:zaa) (w:World):Prop where
  frozen:∀b o,M b=some o→w.heap[b]? = some o
  len:ρ.length=H.length
  blk:∀(n:Nat)(blk:Blk),H[n]? = some (some blk)→∃b c,ρ[n]? = some (b,c)∧M b=none∧b<w.heap.size∧zbQ M ρ w.heap[b]? blk c
  inj:∀(n m:Nat)(x y:Blk)(b c c':Nat),H[n]? = some (some x)→H[m]? = some (some y)→ρ[n]? = some (b,c)→ρ[m]? = some (b,c')→n=m
  glob:∀g l,T.glob g=some l→∃(cs:List Value)(ty:TypeId)(fr:Nat×Nat),M g=some (.cells cs.toArray ty fr)∧relL M ρ l cs
  gint:∀g,T.gint g=true→∃(m:Int)(ty:TypeId)(fr:Nat×Nat),M g=some (.cells #[.int .i64 m] ty fr)
theorem zbl {H:zaa}{n:Nat}{blk:Blk}(h:zap H n=some blk):H[n]? = some (some blk)∧blk.kind≠.map:=by
 unfold zap at h;split at h
 ·rename_i b hb;split at h
  ·cases h
  ·rename_i hk;cases h;exact⟨hb,hk⟩
 ·cases h
theorem SR.cells {T:Tab}{M:Mem}{ρ:Ren}{H:zaa}{w:World}(h:SR T M ρ H w){n:Nat}{blk:Blk}(hb:zap H n=some blk):∃b c,∃cs cs':List Value,ρ[n]? = some (b,c)∧M b=none∧(cs++cs').length=c ∧
 w.heap[b]? = some (.cells (cs++cs').toArray blk.ty (0,0))∧relL M ρ blk.cells cs∧(blk.kind=.all→cs'=[]):=by
 obtain⟨h1,h2⟩:=zbl hb;obtain⟨b,c,hr,hM,_,hok⟩:=h.blk n blk h1;obtain⟨cs,cs',h3,h4,h5,h6⟩:=hok.cells h2;exact⟨b,c,cs,cs',hr,hM,h3,h4,h5,h6⟩
structure Ext (M:Mem) (ρ:Ren) (w:World) (M':Mem) (ρ':Ren) (w':World):Prop where
  os:w'.os=w.os
  tape:w'.tape=w.tape
  output:w'.output=w.output
  size:w.heap.size≤w'.heap.size
  mem:M.le M'
  pre:ρ <+: ρ'
  frame:∀b,b<w.heap.size→(∀c,(b,c)∉ρ)→w'.heap[b]? = w.heap[b]?
  newM:∀b,b<w.heap.size→(∀c,(b,c)∉ρ)→M' b=M b
  newR:∀b c,(b,c)∈ρ'→(∃c',(b,c')∈ρ)∨w.heap.size≤b

theorem Ext.refl (M:Mem)(ρ:Ren)(w:World):Ext M ρ w M ρ w:=
 ⟨rfl,rfl,rfl,jDb _,Mem.le.refl _,jHb _,fun _ _ _=>rfl,fun _ _ _=>rfl,fun _ c h=>.inl ⟨c,h⟩⟩
theorem Ext.trans {M M' M'':Mem} {ρ ρ' ρ'':Ren} {w w' w'':World} (h:Ext M ρ w M' ρ' w') (k:Ext M' ρ' w' M'' ρ'' w''):Ext M ρ w M'' ρ'' w'' where
  os:=k.os.trans h.os
  tape:=k.tape.trans h.tape
  output:=k.output.trans h.output
  size:=Nat.le_trans h.size k.size
  mem:=h.mem.trans k.mem
  pre:=h.pre.trans k.pre
  frame b hb hn:=(k.frame b (Nat.lt_of_lt_of_le hb h.size) (fun c hc=>by
    rcases h.newR b c hc with⟨c',h'⟩|h'
    · exact hn c' h'
    · omega)).trans (h.frame b hb hn)
  newM b hb hn:=(k.newM b (Nat.lt_of_lt_of_le hb h.size) (fun c hc=>by
    rcases h.newR b c hc with⟨c',h'⟩|h'
    · exact hn c' h'
    · omega)).trans (h.newM b hb hn)
  newR b c hc:=by
    rcases k.newR b c hc with⟨c',h'⟩|h'
    · exact h.newR b c' h'
    · exact .inr (Nat.le_trans h.size h')
theorem Ext.drew (M:Mem)(ρ:Ren)(w:World):Ext M ρ w M ρ {w with drawn:=w.drawn+1}:=
 ⟨rfl,rfl,rfl,jDb _,Mem.le.refl _,jHb _,fun _ _ _=>rfl,fun _ _ _=>rfl,fun _ c h=>.inl ⟨c,h⟩⟩
theorem SR.drew {T:Tab}{M:Mem}{ρ:Ren}{H:zaa}{w:World}(h:SR T M ρ H w):SR T M ρ H {w with drawn:=w.drawn+1}:=⟨h.frozen,h.len,h.blk,h.inj,h.glob,h.gint⟩
open Go

structure TOk (P:Program) (T:Tab):Prop where
  und:∀t d,T.und t=some d→P.underlying t=some d
  size:∀t n,T.size t=some n→∃i,P.info? t=some i∧i.size=n
  zero:∀t z,T.zero t=some z→∃i v,P.info? t=some i∧i.zero=some v∧zkA v=some z
  bytes:∀t n,T.bytes t=some n→∃i,P.info? t=some i∧i.bytes=n
  func:∀f fn c,T.func f=some fn→fn.body=some c→P.funcs[f]? = some fn∧Go.Proofs.Enters P f
  mixed:P.follows .mixedOrders=true
  ext:∀g F,T.ext g=some F→∀(M:Mem)(ρ:Ren)(vs:List V)(args:List Value)(v:V),relL M ρ vs args→F vs=some v→∃x,(∀w,(callFunc g args.toArray).run P w=.ok (.value x) w)∧rel M ρ v x
  lies:∀e n off u,T.lies e n off u=true→liesAt P P.depth e (n/P.cellsOf e) off u 1=true
  meth:∀t n g,T.meth t n=some g→∀(v:Value)(w:World),(method (P.types.size+Made.depth) t v n).run P w=.ok (g,v) w
  eqs:∀t,T.eqs t=true→P.stoodInHeld t=false∧P.eqGuardType P.depth t=false∧∀fs,P.underlying t=some (.struct fs)→∀f∈fs.toList,f.name≠ "_"

section
variable {P:Program}{T:Tab}{M:Mem}{ρ:Ren}{w:World}

theorem TOk.run_und (h:TOk P T){t:TypeId}{d:TypeDesc}(e:T.und t=some d)(w:World):(underlying t).run P w=.ok d w:=jQb (h.und t d e) w
theorem TOk.run_size (h:TOk P T){t:TypeId}{n:Nat}(e:T.size t=some n)(w:World):(sizeOf t).run P w=.ok n w:=by
 obtain⟨i,hi,rfl⟩:=h.size t n e;simp[sizeOf,typeInfo,hi]
theorem TOk.run_zero (h:TOk P T){t:TypeId}{z:V}(e:T.zero t=some z):∃v,zkA v=some z∧∀w,(zeroValue t).run P w=.ok v w:=by
 obtain⟨i,v,hi,hv,hz⟩:=h.zero t z e;exact⟨v,hz,fun w=>by simp[zeroValue,typeInfo,hi,hv]⟩
theorem TOk.run_info (h:TOk P T){t:TypeId}{n:Nat}(e:T.bytes t=some n):∃i,i.bytes=n∧∀w,(typeInfo t).run P w=.ok i w:=by
 obtain⟨i,hi,rfl⟩:=h.bytes t n e;exact⟨i,rfl,fun w=>by simp[typeInfo,hi]⟩
theorem TOk.run_isAgg (h:TOk P T){t:TypeId}{b:Bool}(e:zbV (T.und t)=some b)(w:World):(isAgg t).run P w=.ok b w:=by
 cases hd:T.und t with
 |none=>simp[hd,zbV]at e
 |some d=>
  have hr:=h.run_und hd;rw[hd]at e;unfold isAgg;cases d<;>simp[zbV]at e<;>subst e<;>simp[hr]
def zhD (M:Mem)(ρ:Ren)(w:World)(b o:Nat)(l:List V):Prop:=∀(j:Nat)(u:V),l[j]? = some u→∃x,w.cell? ⟨b,o+j,none⟩=some x∧rel M ρ u x
theorem zbO (b o j:Nat):(⟨b,o,none⟩:Addr).add j=⟨b,o+j,none⟩:=by unfold Addr.add;split<;>simp_all
theorem zf1 (b o:Nat):∀(n i:Nat) (acc:Array Value) (cs:List Value),cs.length=n→(∀j x,cs[j]? = some x→w.cell? ⟨b,o+(i+j),none⟩=some x) →
    (loadCellsFrom ⟨b,o,none⟩ i n acc).run P w=.ok (acc++cs.toArray) w
  | 0,i,acc,cs,hl,_=>by
    obtain rfl:=jRb hl
    simp[loadCellsFrom]
  |n+1,i,acc,[],hl,_=>by simp at hl
  | n+1,i,acc,x::cs,hl,h=>by
    have h0:=h 0 x rfl
    have ih:=zf1 b o n (i+1) (acc.push x) cs (by simpa using hl) (fun j y hj=>by have:=h (j+1) y (by simpa using hj);rwa [show i+(j+1)=i+1+j from by omega]at this)
    simp only[jNd]at h0
    simp only[loadCellsFrom,zbO,load]
    simp[Sem.run,h0,ih]
theorem zdz (b o n:Nat)(cs:List Value)(hl:cs.length=n)(h:∀(j:Nat)(x:Value),cs[j]? = some x→w.cell? ⟨b,o+j,none⟩=some x):(loadCells ⟨b,o,none⟩ n).run P w=.ok cs.toArray w:=by
 have:=zf1 (P:=P) (w:=w) b o n 0 #[] cs hl (by simpa using h);simpa[loadCells]using this
theorem zhD.vals {b o:Nat}:∀{l:List V},zhD M ρ w b o l→∃cs,relL M ρ l cs∧∀(j:Nat)(x:Value),cs[j]? = some x→w.cell? ⟨b,o+j,none⟩=some x:=by
 intro l;induction l generalizing o with
 |nil=>exact fun _=>⟨[],zdy,by simp⟩
 |cons v l ih=>
  intro h;obtain⟨x,hx,hr⟩:=h 0 v rfl;obtain⟨cs,hcs,hc⟩:=ih (o:=o+1) (fun j u hj=>by have:=h (j+1) u (by simpa using hj);rwa [show o+(j+1)=o+1+j from by omega]at this);refine⟨x::cs,zaw hr hcs,fun j y hj=>?_⟩;cases j with
  |zero=>simp at hj;subst hj;exact hx
  |succ j=>have:=hc j y (by simpa using hj);rwa [show o+(j+1)=o+1+j from by omega]
theorem zdk {l:List V}{off n:Nat}{r:List V}(h:cut l off n=some r):r=(l.drop off).take n∧off+n≤l.length:=by
 unfold cut at h;split at h
 ·cases h;exact⟨rfl,by assumption⟩
 ·cases h
theorem zli {l:List V}{off n:Nat}{r:List V}(h:cut l off n=some r){j:Nat}{u:V}(e:r[j]? = some u):l[off+j]? = some u:=by
 obtain⟨rfl,_⟩:=zdk h;have hj:j<n:=by
  have:=(jGa.1 e).1;simp only[jSb]at this;omega
 rw[List.getElem?_take,if_pos hj,jOc]at e;exact e
theorem zc6 {l:List V}{off n:Nat}{r:List V}(h:cut l off n=some r):r.length=n:=by
 obtain⟨rfl,hl⟩:=zdk h;simp only[jSb,jJa];omega
theorem zeM (hT:TOk P T){t:TypeId}{cells:List V}{off:Nat}{v:V}(h:zbq T t cells off=some v){b o:Nat}(hm:zhD M ρ w b o cells) :
 ∃x,(loadVar t ⟨b,o+off,none⟩).run P w=.ok x w∧rel M ρ v x:=by
 unfold zbq at h;split at h
 ·rename_i hi;split at h
  ·rename_i n hn;cases hc:cut cells off n with
   |none=>simp[hc]at h
   |some r=>
    simp[hc]at h;subst h;obtain⟨cs,hcs,hcell⟩:=zhD.vals (M:=M) (ρ:=ρ) (w:=w) (b:=b) (o:=o+off) (l:=r) (fun j u hj=>by
     have:=hm (off+j) u (zli hc hj);rwa [show o+(off+j)=o+off+j from by omega]at this)
    have hl:cs.length=n:=by rw[zam hcs,zc6 hc]
    refine⟨.agg cs.toArray,?_,by simp only[rel];exact⟨cs,rfl,hcs⟩⟩;have h1:=zdz (P:=P) b (o+off) n cs hl hcell;simp[loadVar,hT.run_isAgg hi,hT.run_size hn,h1]
  ·cases h
 ·rename_i hi;obtain⟨x,hx,hr⟩:=hm off v h;refine⟨x,?_,hr⟩;simp[loadVar,hT.run_isAgg hi,load,Sem.run,hx]
 ·cases h
theorem zhf (hT:TOk P T){t:TypeId}{cells:List V}{off:Nat}{v:V}(h:zbq T t cells off=some v){cs:List Value}(hm:relL M ρ cells cs) :
 ∃x,(∀w,(part t cs.toArray off).run P w=.ok x w)∧rel M ρ v x:=by
 unfold zbq at h;split at h
 ·rename_i hi;split at h
  ·rename_i n hn;cases hc:cut cells off n with
   |none=>simp[hc]at h
   |some r=>
    simp[hc]at h;subst h;obtain⟨rfl,hle⟩:=zdk hc;refine⟨.agg ((cs.drop off).take n).toArray,fun w=>?_,by simp only[rel];exact⟨_,rfl,zdd n (zdc off hm)⟩⟩;simp[part,hT.run_isAgg hi,hT.run_size hn]
  ·cases h
 ·rename_i hi;obtain⟨x,hx,hr⟩:=za2 hm h;refine⟨x,fun w=>?_,hr⟩;simp[part,hT.run_isAgg hi,hx]
 ·cases h
theorem zck {w:World}{b:Nat}{cs:List Value}{ty:TypeId}{fr:Nat×Nat}(h:w.heap[b]? = some (.cells cs.toArray ty fr))(o:Nat):w.cell? ⟨b,o,none⟩=cs[o]?:=by
 simp[World.cell?,h]
theorem zij {sz:Nat}:∀{l:List V}{b o:Nat},relRow M ρ sz l b o→∀{i:Nat}{v:V},l[i]? = some v→∃x:Value,rel M ρ v x∧x.cells.size=sz∧∀j c,x.cells[j]? = some c→M.cell b (o+i*sz+j)=some c
 | [],_,_,_,_,_,e=>by simp at e
 |u::l,b,o,h,i,v,e=>by
  simp only[relRow]at h;cases i with
  |zero=>
   simp at e;subst e;obtain⟨x,hx,hs,hc⟩:=h.1;exact⟨x,hx,hs,fun j c hj=>by have:=hc j c hj;simpa using this⟩
  |succ i=>
   obtain⟨x,hx,hs,hc⟩:=zij h.2 (i:=i) (v:=v) (by simpa using e);refine⟨x,hx,hs,fun j c hj=>?_⟩;have:=hc j c hj;rwa [show o+(i+1)*sz+j=o+sz+i*sz+j from by rw[Nat.succ_mul];omega]
theorem zgW {T:Tab}{H:zaa}(hS:SR T M ρ H w){b o:Nat}{c:Value}(h:M.cell b o=some c):w.cell? ⟨b,o,none⟩=some c:=by
 unfold Mem.cell at h;split at h
 ·rename_i cs ty fr hb;have:=hS.frozen _ _ hb;simp[World.cell?,this,h]
 ·cases h
theorem zmM (hT:TOk P T){H:zaa}(hS:SR T M ρ H w){t:TypeId}{p v:V}(h:zah T t H p=some v){x:Value}(hx:rel M ρ p x) :
 ∃y,(Instr.loadAt t x).run P w=.ok y w∧rel M ρ v y:=by
 unfold zah at h;split at h
 ·rename_i n off;split at h
  ·rename_i blk hb;simp only[rel]at hx;obtain⟨b,c,hr,rfl⟩:=hx;obtain⟨b',c',cs,cs',hr',_,_,hheap,hrel,_⟩:=hS.cells hb;rw[hr]at hr';cases hr';have hm:zhD M ρ w b 0 blk.cells:=fun j u hj=>by
    obtain⟨y,hy,hyr⟩:=za2 hrel hj;refine⟨y,?_,hyr⟩;rw[zck hheap,jKb,jQa (jGa.1 hy).1];exact hy
   obtain⟨y,hy,hyr⟩:=zeM hT h hm;exact⟨y,by simpa[Instr.loadAt,Instr.sureAddr]using hy,hyr⟩
  ·cases h
 ·rename_i sz l i off;split at h
  ·rename_i e he;simp only[rel]at hx;obtain⟨b,o,rfl,hrow⟩:=hx;obtain⟨y,hy,hsz,hc⟩:=zij hrow he;have hm:zhD M ρ w b (o+i*sz) e.cells:=fun j u hj=>by
    obtain⟨z,hz,hzr⟩:=za2 (zbi hy) hj;exact⟨z,zgW hS (hc j z (by simpa using hz)),hzr⟩
   obtain⟨y,hy,hyr⟩:=zeM hT h hm;exact⟨y,by simpa[Instr.loadAt,Instr.sureAddr]using hy,hyr⟩
  ·cases h
 ·rename_i g off;split at h
  ·rename_i l hl;simp only[rel]at hx;subst hx;obtain⟨cs,ty,fr,hM,hrel⟩:=hS.glob g l hl;have hm:zhD M ρ w g 0 l:=fun j u hj=>by
    obtain⟨y,hy,hyr⟩:=za2 hrel hj;exact⟨y,by rw[zck (hS.frozen _ _ hM),jKb];exact hy,hyr⟩
   obtain⟨y,hy,hyr⟩:=zeM hT h hm;exact⟨y,by simpa[Instr.loadAt,Instr.sureAddr]using hy,hyr⟩
  ·cases h
 ·cases h
theorem zhK {w:World}{b:Nat}{o:Obj}(ob:Obj)(hb:w.heap[b]? = some o):(w.alloc ob).heap[b]? = some o:=by
 have hlt:=(Array.getElem?_eq_some_iff.1 hb).1;show(w.heap.push _)[b]? = _;rw[Array.getElem?_push,if_neg (by omega)];exact hb
theorem zi9 {w:World}{b:Nat}(ob:Obj)(hb:b<w.heap.size):(w.alloc ob).heap[b]? = w.heap[b]?:=by
 show(w.heap.push _)[b]? = _;rw[Array.getElem?_push,if_neg (by omega)]
theorem SR.allocB {T:Tab}{M:Mem}{ρ:Ren}{H:zaa}{w:World}(h:SR T M ρ H w)(hM:∀b o,M b=some o→b<w.heap.size)(ob:Obj)(blk:Blk)(c:Nat)(hok:zbQ M ρ (some ob) blk c) :
 SR T M (ρ++[(w.heap.size,c)]) (H++[some blk]) (w.alloc ob):=by
 have hpre:ρ <+: ρ++[(w.heap.size,c)]:=jMb _ _;have hnew:(w.alloc ob).heap[w.heap.size]? = some ob:=by
  show(w.heap.push _)[w.heap.size]? = _;simp
 have hsz:(w.alloc ob).heap.size=w.heap.size+1:=by simp
 have hget:∀{n:Nat}{z:Blk},(H++[some blk])[n]? = some (some z)→(H[n]? = some (some z))∨(n=H.length∧z=blk):=by
  intro n z hn;rcases Nat.lt_trichotomy n H.length with hlt|heq|hgt
  ·rw[jQa hlt]at hn;exact .inl hn
  ·subst heq;simp at hn;exact .inr ⟨rfl,hn.symm⟩
  ·rw[jGc (by simp;omega)]at hn;cases hn
 refine⟨fun b o hb=>zhK ob (h.frozen b o hb),by simp[h.len],?_,?_,?_,h.gint⟩
 ·intro n z hn;rcases hget hn with hn|⟨rfl,rfl⟩
  ·obtain⟨b,c',hr,hMb,hlt,hk⟩:=h.blk n z hn;exact⟨b,c',zfD hpre hr,hMb,by omega,by rw[zi9 ob hlt];exact hk.mono (Mem.le.refl _) hpre⟩
  ·refine⟨w.heap.size,c,by rw[←h.len];simp,?_,by omega,by rw[hnew];exact hok.mono (Mem.le.refl _) hpre⟩;cases hm:M w.heap.size with
   |none=>rfl
   |some o=>have:=hM _ _ hm;omega
 ·intro n m x y b c1 c2 hn hm hb hc;have hlt:∀{k:Nat} {z:Blk} {q:Nat},H[k]? = some (some z)→(ρ++[(w.heap.size,c)])[k]? = some (b,q)→ρ[k]? = some (b,q)∧b<w.heap.size:=by
   intro k z q hk hq;have hkl:k<ρ.length:=by rw[h.len];exact(jGa.1 hk).1
   rw[jQa hkl]at hq;obtain⟨b',c',hr,_,hl,_⟩:=h.blk k z hk;rw[hq]at hr;cases hr;exact⟨hq,hl⟩
  have hend:∀{q:Nat},(ρ++[(w.heap.size,c)])[H.length]? = some (b,q)→b=w.heap.size:=by
   intro q hq;rw[←h.len]at hq;simp at hq;exact hq.1.symm
  rcases hget hn with hn'|⟨en,zn⟩<;>rcases hget hm with hm'|⟨em,zm⟩
  ·exact h.inj n m x y b c1 c2 hn' hm' (hlt hn' hb).1 (hlt hm' hc).1
  ·subst em;have:=(hlt hn' hb).2;have:=hend hc;omega
  ·subst en;have:=(hlt hm' hc).2;have:=hend hb;omega
  ·rw[en,em]
 ·intro g l' hg;obtain⟨ds,ty',fr,hMg,hrel⟩:=h.glob g l' hg;exact⟨ds,ty',fr,hMg,relL_mono (Mem.le.refl _) hpre _ _ hrel⟩
theorem SR.alloc {T:Tab}{M:Mem}{ρ:Ren}{H:zaa}{w:World}(h:SR T M ρ H w)(hM:∀b o,M b=some o→b<w.heap.size)(ty:Nat)(kind:BK){l:List V}{cs cs':List Value}(hl:relL M ρ l cs)(hk:kind=.more∨(kind=.all∧cs'=[])) :
 SR T M (ρ++[(w.heap.size,(cs++cs').length)]) (H++[some {ty,cells:=l,kind}]) (w.alloc (.cells (cs++cs').toArray ty)):=
 h.allocB hM _ _ _ (zbQ.of_cells (by rcases hk with rfl|⟨rfl,_⟩<;>simp) ⟨cs,cs',rfl,rfl,hl,fun e=>by
 rcases hk with rfl|⟨_,h⟩
 ·cases e
 ·exact h⟩)
theorem SR.lt {T:Tab}{H:zaa}(h:SR T M ρ H w):∀b o,M b=some o→b<w.heap.size:=fun b o hb=>(Array.getElem?_eq_some_iff.1 (h.frozen b o hb)).1
theorem Ext.alloc (M:Mem) (ρ:Ren) (w:World) (o:Obj) (c:Nat):Ext M ρ w M (ρ++[(w.heap.size,c)]) (w.alloc o) where
  os:=rfl
  tape:=rfl
  output:=rfl
  size:=by simp
  mem:=Mem.le.refl _
  pre:=jMb _ _
  frame b hb _:=RowKit.Below.heap_alloc w o b hb
  newM _ _ _:=rfl
  newR b c' h:=by
    simp only[jKd,List.mem_singleton,jZa]at h
    rcases h with h|⟨rfl,_⟩
    · exact .inl ⟨c',h⟩
    · exact .inr (jDb _)
end
open Go
section
variable {P:Program}{T:Tab}{M:Mem}{ρ:Ren}{w:World}{H:zaa}

def World.putCells (w:World)(b:Nat):Nat→List Value→World
 |_,[]=>w
 |o,x::xs=>World.putCells (w.setCell ⟨b,o,none⟩ x) b (o+1) xs
theorem zfx {w:World}{b:Nat}{cs:List Value}{ty:TypeId}{fr:Nat×Nat}(h:w.heap[b]? = some (.cells cs.toArray ty fr))(o:Nat)(x:Value) :
 (w.setCell ⟨b,o,none⟩ x).heap[b]? = some (.cells (cs.set o x).toArray ty fr):=by
 simp only[World.setCell,Array.getElem?_modify,if_true,h,jXa];simp
theorem zg1 {w:World}{b k:Nat}(h:k≠b)(o:Nat)(x:Value):(w.setCell ⟨b,o,none⟩ x).heap[k]? = w.heap[k]?:=RowKit.Below.heap_setCell w ⟨b,o,none⟩ x k h
theorem zcJ {b k:Nat}(h:k≠b):∀(xs:List Value)(o:Nat)(w:World),(World.putCells w b o xs).heap[k]? = w.heap[k]?
 | [],_,_=>rfl
 |x::xs,o,w=>by
  simp only[World.putCells];rw[zcJ h xs (o+1),zg1 h]
theorem zdx {b:Nat}:∀(xs:List Value)(o:Nat)(w:World),(World.putCells w b o xs).heap.size=w.heap.size∧(World.putCells w b o xs).os=w.os∧(World.putCells w b o xs).tape=w.tape∧(World.putCells w b o xs).output=w.output
 | [],_,_=>⟨rfl,rfl,rfl,rfl⟩
 |x::xs,o,w=>by
  simp only[World.putCells];obtain⟨h1,h2,h3,h4⟩:=zdx (b:=b) xs (o+1) (w.setCell ⟨b,o,none⟩ x);exact⟨by rw[h1];simp[World.setCell],by rw[h2];rfl,by rw[h3];rfl,by rw[h4];rfl⟩
theorem zhu (cs:List Value)(o:Nat)(x:Value)(xs:List Value)(h:o<cs.length):(cs.set o x).take (o+1)++xs++(cs.set o x).drop (o+1+xs.length)=cs.take o++(x::xs)++cs.drop (o+(x::xs).length):=by
 have h1:(cs.set o x).take (o+1)=cs.take o++[x]:=by
  rw[List.take_succ_eq_append_getElem (by simpa using h),List.take_set_of_le (jDb _)];simp
 have h2:(cs.set o x).drop (o+1+xs.length)=cs.drop (o+(xs.length+1)):=by
  rw[List.drop_set_of_lt (by omega),show o+1+xs.length=o+(xs.length+1)from by omega]
 rw[h1,h2];simp
theorem zc1 {b:Nat} {ty:TypeId}:∀(xs:List Value) (base o:Nat) (w:World) (cs:List Value),w.heap[b]? = some (.cells cs.toArray ty (0,0))→base+o+xs.length≤cs.length →
    (∀x∈xs,(∀c,x≠.agg c)∧∀c,x≠.tuple c) →
    (storeCells ⟨b,base,none⟩ xs o).run P w=.ok () (World.putCells w b (base+o) xs) ∧
      (World.putCells w b (base+o) xs).heap[b]? = some (.cells (cs.take (base+o)++xs++cs.drop (base+o+xs.length)).toArray ty (0,0))
  | [],base,o,w,cs,h,_,_=>by
    refine⟨by simp[storeCells,World.putCells],?_⟩
    simp[World.putCells,h]
  | x :: xs,base,o,w,cs,h,hl,hf=>by
    have hlt:base+o<cs.length:=by simp at hl;omega
    have hc:w.cell? ⟨b,base+o,none⟩=some cs[base+o]:=by rw[zck h];simp[hlt]
    have hfr:w.frozen? ⟨b,base+o,none⟩=false:=by simp[World.frozen?,h]
    obtain⟨i1,i2⟩:=zc1 xs base (o+1) (w.setCell ⟨b,base+o,none⟩ x) (cs.set (base+o) x) (zfx h _ _) (by simp at hl ⊢;omega) (fun y hy=>hf y (by simp[hy]))
    obtain⟨hx1,hx2⟩:=hf x (by simp)
    refine⟨?_,?_⟩
    · simp only[storeCells,zbO,store,World.putCells]
      rw[jHc]
      have:(Sem.store Mode.plain ⟨b,base+o,none⟩ x (Sem.pure ())).run P w=.ok () (w.setCell ⟨b,base+o,none⟩ x):=by
        cases x<;>first|(exfalso;exact hx1 _ rfl)|(exfalso;exact hx2 _ rfl)|simp[Sem.run,hc,hfr]
      rw[this]
      simp only[Result.andThen]
      rw[show base+o+1=base+(o+1)from by omega]
      exact i1
    · simp only[World.putCells]
      rw[show base+o+1=base+(o+1)from by omega,i2]
      have:=zhu cs (base+o) x xs hlt
      rw[show base+(o+1)=base+o+1 from by omega,this]

theorem zmk {l:List V}{xs:List Value}(h:relL M ρ l xs)(hf:l.all zeA=true):∀x∈xs,(∀c,x≠.agg c)∧∀c,x≠.tuple c:=by
 intro x hx;obtain⟨i,hi⟩:=List.getElem?_of_mem hx;have hlt:i<l.length:=by rw[←zam h];exact(jGa.1 hi).1
 obtain⟨y,hy,hr⟩:=za2 h (jKa hlt);rw[hi]at hy;cases hy;exact zsc hr (jBb.1 hf _ (List.getElem_mem hlt))
theorem SR.upd (hS:SR T M ρ H w){n:Nat}{blk blk':Blk}(hb:H[n]? = some (some blk)){b c:Nat}(hr:ρ[n]? = some (b,c)){w':World}(hother:∀k,k≠b→w'.heap[k]? = w.heap[k]?)(hsz:w'.heap.size=w.heap.size)
 (hok:zbQ M ρ w'.heap[b]? blk' c):SR T M ρ (H.set n (some blk')) w':=by
 have hset:∀{m:Nat}{z:Blk},(H.set n (some blk'))[m]? = some (some z)→(m=n∧z=blk')∨(m≠n∧H[m]? = some (some z)):=by
  intro m z hm;by_cases e:m=n
  ·subst e;have hlt:=(jGa.1 hb).1;rw[jFb hlt]at hm;simp at hm;exact .inl ⟨rfl,hm.symm⟩
  ·rw[jRa (fun h=>e h.symm)]at hm;exact .inr ⟨e,hm⟩
 have hlive:∀{m:Nat}{z:Blk},(H.set n (some blk'))[m]? = some (some z)→∃z',H[m]? = some (some z'):=by
  intro m z hm;rcases hset hm with⟨rfl,_⟩|⟨_,hm⟩
  ·exact⟨_,hb⟩
  ·exact⟨_,hm⟩
 obtain⟨b0,c0,hr0,hM0,hlt0,_⟩:=hS.blk n blk hb;rw[hr]at hr0;cases hr0;refine⟨fun k o hk=>?_,by simp[hS.len],?_,?_,hS.glob,hS.gint⟩
 ·rw[hother k (fun e=>by rw[e,hM0]at hk;cases hk)];exact hS.frozen k o hk
 ·intro m z hm;rcases hset hm with⟨rfl,rfl⟩|⟨hne,hm⟩
  ·exact⟨b,c,hr,hM0,by omega,hok⟩
  ·obtain⟨b2,c2,hr2,hM2,hlt2,hk2⟩:=hS.blk m z hm;refine⟨b2,c2,hr2,hM2,by omega,?_⟩;rw[hother b2 (fun e=>hne (hS.inj m n z blk b2 c2 c hm hb hr2 (e▸hr)))];exact hk2
 ·intro m k x y b2 c2 c3 hm hk h2 h3;obtain⟨x',hx'⟩:=hlive hm;obtain⟨y',hy'⟩:=hlive hk;exact hS.inj m k x' y' b2 c2 c3 hx' hy' h2 h3
theorem SR.splice (hS:SR T M ρ H w){n:Nat}{blk:Blk}(hb:zap H n=some blk){off:Nat}{l:List V}{xs:List Value}(hl:relL M ρ l xs)(hfit:off+l.length≤blk.cells.length)(hf:l.all zeA=true){b c:Nat}(hr:ρ[n]? = some (b,c)) :
 ∃w',(storeCells ⟨b,off,none⟩ xs).run P w=.ok () w'∧Ext M ρ w M ρ w'∧SR T M ρ (H.set n (some {blk with cells:=Ev.splice blk.cells off l})) w':=by
 obtain⟨hb0,hkind⟩:=zbl hb;obtain⟨b',c',cs,cs',hr',hMb,hc,hheap,hrel,hall⟩:=hS.cells hb;rw[hr]at hr';cases hr';have hxl:=zam hl;have hcl:=zam hrel;obtain⟨h1,h2⟩:=zc1 (P:=P) xs off 0 w (cs++cs') hheap (by simp;omega) (zmk hl hf);simp only[jNd]at h1 h2;obtain⟨s1,s2,s3,s4⟩:=zdx (b:=b) xs off w;refine⟨_,h1,⟨s2,s3,s4,by omega,Mem.le.refl _,jHb _,fun k hk hn=>zcJ (fun e=>hn c (by rw[e];exact jIb hr)) _ _ _,fun _ _ _=>rfl,fun _ q hq=>.inl ⟨q,hq⟩⟩,?_⟩;refine hS.upd hb0 hr (fun k hk=>zcJ hk _ _ _) s1 (zbQ.of_cells hkind ⟨cs.take off++xs++cs.drop (off+xs.length),cs',?_,?_,zhl off hrel hl,hall⟩)
 ·simp only[jLa,jSb,jJa]at hc ⊢;omega
 ·rw[h2];simp only[List.take_append_of_le_length (show off≤cs.length by omega),List.drop_append_of_le_length (show off+xs.length≤cs.length by omega),jEb]
theorem zri (hT:TOk P T)(hS:SR T M ρ H w){t:TypeId}{p v:V}{H':zaa}(h:zbN T t H p v=some H'){x y:Value}(hx:rel M ρ p x)(hy:rel M ρ v y) :
 ∃w',(Instr.storeAt t x y).run P w=.ok () w'∧Ext M ρ w M ρ w'∧SR T M ρ H' w':=by
 unfold zbN at h;simp only[zfT,setK_eq]at h;split at h
 ·rename_i n off;split at h
  ·rename_i blk hb;split at h
   ·rename_i hc;obtain⟨hsz,hfit,hf⟩:=hc;cases h;simp only[rel]at hx;obtain⟨b,c,hr,rfl⟩:=hx;have hcells:=zbi hy;obtain⟨w',h1,h2,h3⟩:=hS.splice (P:=P) hb hcells hfit hf hr;refine⟨w',?_,h2,h3⟩;have hl:y.cells.size=v.cells.length:=by have:=zam hcells;simpa using this
    simp[Instr.storeAt,Instr.sureAddr,storeVar,hT.run_size hsz,hl,h1]
   ·cases h
  ·cases h
 ·cases h
end
open Go
section
variable {P:Program}{T:Tab}{M:Mem}{ρ:Ren}{w:World}{H:zaa}

def zjr (M:Mem)(ρ:Ren):List (Nat×V)→List (Nat×Value)→Prop
 | [],qs=>qs=[]
 |(i,v)::ps,qs=>∃x r,qs=(i,x)::r∧rel M ρ v x∧zjr M ρ ps r
theorem zeH {t:Env}{a:Act}(h:zik M ρ t a.tmps):∀{l:List (Nat×Operand)}{ps:List (Nat×V)},zcc t l=some ps→zjr M ρ ps (l.map fun(i,x)=>(i,a.eval x))
 | [],ps,e=>by simp only[zcc,jNa]at e;subst e;simp[zjr]
 |(i,o)::r,ps,e=>by
  simp only[zcc]at e;split at e
  ·rename_i x l hx hl;cases e;simp only[zjr,jJb];exact⟨_,_,rfl,zas h hx,zeH h hl⟩
  ·cases e
theorem zkl (off:Nat):∀(xs cs:List Value) (k:Nat),off+k+xs.length≤cs.length →
    (xs.zipIdx k).foldl (fun(c:Array Value)(p:Value×Nat)=>c.setIfInBounds (off+p.2) p.1) cs.toArray=(cs.take (off+k)++xs++cs.drop (off+k+xs.length)).toArray
  | [],cs,k,_=>by simp
  | x::xs,cs,k,h=>by
    have hlt:off+k<cs.length:=by simp at h;omega
    rw[List.zipIdx_cons,List.foldl_cons]
    simp only[List.setIfInBounds_toArray]
    rw[zkl off xs (cs.set (off+k) x) (k+1) (by simp at h ⊢;omega)]
    have:=zhu cs (off+k) x xs hlt
    rw[show off+(k+1)=off+k+1 from by omega,this]
theorem zlE (off:Nat)(xs:Array Value)(cs:List Value)(h:off+xs.size≤cs.length) :
 xs.zipIdx.foldl (fun(c:Array Value)(p:Value×Nat)=>c.setIfInBounds (off+p.2) p.1) cs.toArray=(cs.take off++xs.toList++cs.drop (off+xs.size)).toArray:=by
 have:=zkl off xs.toList cs 0 (by simpa using h);rw[←Array.foldl_toList];simpa using this
theorem zgi {pl:Nat→Option (Nat×Nat)}:∀{ps:List (Nat×V)} {qs:List (Nat×Value)} {cells r:List V} {cs:List Value},zjr M ρ ps qs→relL M ρ cells cs→zes pl cells ps=some r →
    ∃rs,Instr.fill pl cs.toArray qs=some rs.toArray∧relL M ρ r rs
  | [],qs,cells,r,cs,hp,hc,h=>by
    simp only[zjr]at hp
    subst hp
    simp only[zes,jNa]at h
    subst h
    exact⟨cs,rfl,hc⟩
  | (i, v)::ps,qs,cells,r,cs,hp,hc,h=>by
    simp only[zjr]at hp
    obtain⟨x,q,rfl,hv,hp⟩:=hp
    simp only[zes]at h
    split at h
    · cases h
    · rename_i off size hpl
      split at h
      · rename_i hfit
        have hcells:=zbi hv
        have hxl:=zam hcells
        have hcl:=zam hc
        have hx1:x.cells.size=v.cells.length:=by simpa using hxl
        have hs:=zhl off hc hcells
        obtain⟨rs,h1,h2⟩:=zgi hp hs h
        refine⟨rs,?_,h2⟩
        unfold Instr.fill
        simp only[hpl]
        rw[if_neg (by simp;omega)]
        have:=zlE off x.cells cs (by omega)
        rw[this]
        simpa using h1
      · cases h

theorem zhg (hT:TOk P T):∀{fs:List Field}{pl:List (Nat×Nat)},zdw T fs=some pl→∀w,(fs.mapM (m:=Sem) fun f=>Prod.mk f.offset <$> sizeOf f.type).run P w=.ok pl w
 | [],pl,h,w=>by simp only[zdw,jNa]at h;subst h;simp
 |f::r,pl,h,w=>by
  simp only[zdw]at h;split at h
  ·rename_i n l hn hl;cases h;have:=zhg hT hl w;simp[List.mapM_cons,hT.run_size hn,this]
  ·cases h
theorem zm3 {α β:Type}(f:α→β)(s:Sem α){a:α}{w w':World}(h:s.run P w=.ok a w'):(f <$> s).run P w=.ok (f a) w':=by
 rw[←bind_pure_comp];simp[h]
theorem znQ (hT:TOk P T){ty:TypeId}{ps:List (Nat×V)}{qs:List (Nat×Value)}{v:V}(hp:zjr M ρ ps qs)(h:zeF T ty ps=some v) :
 ∃x,(∀w,(Instr.build ty qs.toArray).run P w=.ok x w)∧rel M ρ v x:=by
 unfold zeF at h;split at h
 ·rename_i z fs hz hu;split at h
  ·rename_i pl hpl;obtain⟨zv,hzv,hzr⟩:=hT.run_zero hz;have hzc:=zbi (zb4 (M:=M) (ρ:=ρ) hzv);cases hf:zes (fun i=>pl[i]?) z.cells ps with
   |none=>simp[hf]at h
   |some r=>
    simp[hf]at h;subst h;obtain⟨rs,h1,h2⟩:=zgi hp hzc hf;refine⟨.agg rs.toArray,fun w=>?_,by simp only[rel];exact⟨rs,rfl,h2⟩⟩;have hm:=zhg hT hpl w;simp only[Array.toArray_toList]at h1;simp[Instr.build,hzr,hT.run_und hu,Array.mapM_eq_mapM_toList,hm,h1]
  ·cases h
 ·rename_i z n e hz hu;split at h
  ·rename_i sz hsz;obtain⟨zv,hzv,hzr⟩:=hT.run_zero hz;have hzc:=zbi (zb4 (M:=M) (ρ:=ρ) hzv);cases hf:zes (fun i=>some (i*sz,sz)) z.cells ps with
   |none=>simp[hf]at h
   |some r=>
    simp[hf]at h;subst h;obtain⟨rs,h1,h2⟩:=zgi hp hzc hf;refine⟨.agg rs.toArray,fun w=>?_,by simp only[rel];exact⟨rs,rfl,h2⟩⟩;simp only[Array.toArray_toList]at h1;simp[Instr.build,hzr,hT.run_und hu,hT.run_size hsz,h1]
  ·cases h
 ·cases h
theorem zim {α:Type}[Inhabited α](l:List α):∀n:Nat,(List.range (n*l.length)).map (fun i=>l[i%l.length]!)=zgo n l
 |0=>by simp[zgo]
 |n+1=>by
  rw[Nat.succ_mul,Nat.add_comm,List.range_add,jPd,zgo];congr 1
  ·apply List.ext_getElem
   ·simp
   ·intro i h1 h2;simp at h1;simp[Nat.mod_eq_of_lt h1,h1]
  ·rw[←zim l n];simp[List.map_map,Function.comp_def]
theorem zjs {l:List V}{cs:List Value}(h:relL M ρ l cs):∀n:Nat,relL M ρ (zgo n l) (zgo n cs)
 |0=>by simp[zgo,relL]
 |n+1=>by simp only[zgo];exact za5 h (zjs h n)
theorem zia (z:Array Value)(n:Nat):(Array.range (n*z.size)).map (fun i=>z[i%z.size]!)=(zgo n z.toList).toArray:=by
 have:=zim z.toList n;rw[Array.length_toList]at this;rw[←this];apply jWc;simp[Array.getElem!_eq_getD,jCb]
def zjV (P:Program)(T:Tab)(s:Sem Value)(M:Mem)(ρ:Ren)(w:World)(v:V)(H':zaa):Prop:=
 ∃x w' ρ',s.run P w=.ok x w'∧Ext M ρ w M ρ' w'∧rel M ρ' v x∧SR T M ρ' H' w'
theorem zjV.pure {s:Sem Value}{x:Value}{v:V}(hS:SR T M ρ H w)(h:s.run P w=.ok x w)(hv:rel M ρ v x):zjV P T s M ρ w v H:=⟨x,w,ρ,h,Ext.refl _ _ _,hv,hS⟩
theorem zf8 (hS:SR T M ρ H w)(e:TypeId){l:List V}{cs:List Value}(hl:relL M ρ l cs) :
 (newRow e cs.toArray).run P w=.ok ⟨w.heap.size,0,none⟩ (w.alloc (.cells cs.toArray e)) ∧
  SR T M (ρ++[(w.heap.size,cs.length)]) (H++[some {ty:=e,cells:=l,kind:=.all}]) (w.alloc (.cells cs.toArray e))∧Ext M ρ w M (ρ++[(w.heap.size,cs.length)]) (w.alloc (.cells cs.toArray e)):=by
 refine⟨by simp[newRow,newObj,Sem.run],?_,Ext.alloc _ _ _ _ _⟩;have:=hS.alloc hS.lt e .all (cs':=[]) hl (.inr ⟨rfl,rfl⟩);simpa using this
theorem zgN (hT:TOk P T)(hS:SR T M ρ H w){ty:TypeId}{len:Nat}{ps:List (Nat×V)}{qs:List (Nat×Value)}{v:V}{H':zaa}(hp:zjr M ρ ps qs)(h:zaE T ty len ps H=.val v H') :
 zjV P T (Instr.buildSlice ty len qs.toArray) M ρ w v H':=by
 unfold zaE at h;simp only[zaX]at h;split at h
 ·rename_i e hu;split at h
  ·rename_i n z hn hz;split at h
   ·rename_i hc;obtain⟨hzn,hpos,hle⟩:=hc;split at h
    ·rename_i cells hf;cases h;obtain⟨zv,hzv,hzr⟩:=hT.run_zero hz;have hzc:=zbi (zb4 (M:=M) (ρ:=ρ) hzv);have hzl:zv.cells.size=n:=by have:=zam hzc;simp at this;omega
     obtain⟨rs,h1,h2⟩:=zgi hp (zjs hzc len) hf;obtain⟨a1,a2,a3⟩:=zf8 (P:=P) hS e h2;refine⟨.slice (some ⟨w.heap.size,0,none⟩) len len,_,_,?_,a3,?_,a2⟩
     ·by_cases h0:len*n=0
      ·have hl0:len=0:=by rcases Nat.mul_eq_zero.1 h0 with h|h<;>omega
       have h1':Instr.fill (fun i=>some (i*n,n)) #[] qs=some rs.toArray:=by subst hl0;simpa[zgo]using h1
       simp[Instr.buildSlice,hT.run_und hu,hT.run_size hn,h0,show Array.range 0=#[]from rfl,h1',zm3 _ _ a1]
      ·have hm:(Array.range (len*n)).map (fun i=>zv.cells[i%zv.cells.size]!)=(zgo len zv.cells.toList).toArray:=by
        rw[←hzl];exact zia _ _
       simp only[Instr.buildSlice,jHc,hT.run_und hu,jXb,hT.run_size hn,if_neg (show ¬len*n>2^24 by omega),if_neg h0,hzr,jGd,hm,h1,a1]
     ·simp only[rel];refine⟨w.heap.size,rs.length,len,by rw[←hS.len];simp,by simp,jDb _,fun q hq=>by cases hq;rfl,fun hq=>by cases hq⟩
    ·cases h
   ·cases h
  ·cases h
 ·cases h
end
open Go
section
variable {P:Program}{T:Tab}{M:Mem}{ρ:Ren}{w:World}{H:zaa}

theorem zk1 {n:Int}(h0:0≤n)(h1:n≤1099511627776):IntKind.i64.wrap n=n:=by
 have:=IntWalk.i64_in n;exact this (by omega)
theorem zhI (hT:TOk P T)(hS:SR T M ρ H w){ty:TypeId}{l c v:V}{H':zaa}{x y:Value}(hx:rel M ρ l x)(hy:rel M ρ c y)(h:zbf T ty l c H=.val v H') :
 zjV P T (Instr.makeSlice ty x y) M ρ w v H':=by
 unfold zbf at h;simp only[zaX]at h;split at h
 ·rename_i e kl l kc c hu;split at h
  ·rename_i n z bs hn hz hb;split at h
   ·rename_i hc;obtain⟨hzn,hpos,h0,hlc,hbs,hcs⟩:=hc;cases h;simp only[rel]at hx hy;subst hx hy;obtain⟨zv,hzv,hzr⟩:=hT.run_zero hz;have hzc:=zbi (zb4 (M:=M) (ρ:=ρ) hzv);have hzl:zv.cells.size=n:=by have:=zam hzc;simp at this;omega
    obtain⟨i,hi,hir⟩:=hT.run_info hb;have h2:=zjs hzc c.toNat
    obtain⟨a1,a2,a3⟩:=zf8 (P:=P) hS e h2;refine⟨.slice (some ⟨w.heap.size,0,none⟩) l.toNat c.toNat,_,_,?_,a3,?_,a2⟩
    ·have hwl:=zk1 h0 (by omega);have hwc:=zk1 (n:=c) (by omega) hcs;have hneg:¬c<0:=by omega
     have hneg2:¬l<0:=by omega
     have hlc2:¬c<l:=by omega
     by_cases h00:c.toNat*n=0
     ·have hc0:c.toNat=0:=by rcases Nat.mul_eq_zero.1 h00 with h|h<;>omega
      have hr:zgo c.toNat zv.cells.toList=[]:=by rw[hc0];rfl
      rw[hr]at a1 ⊢;simp[Instr.makeSlice,hT.run_und hu,asInt,asIntOf,hir,hi,hwl,hwc,hneg,hneg2,hlc2,askRoom,hT.run_size hn,h00,show Array.range 0=#[]from rfl];rw[if_neg (by rw[Int.mul_comm];omega),a1];rfl
     ·have hm:(Array.range (c.toNat*n)).map (fun i=>zv.cells[i%zv.cells.size]!)=(zgo c.toNat zv.cells.toList).toArray:=by
       rw[←hzl];exact zia _ _
      simp[Instr.makeSlice,hT.run_und hu,asInt,asIntOf,hir,hi,hwl,hwc,hneg,hneg2,hlc2,askRoom,hT.run_size hn,h00,hm,hzr];rw[if_neg (by rw[Int.mul_comm];omega),a1];rfl
    ·simp only[rel];refine⟨w.heap.size,(zgo c.toNat zv.cells.toList).length,c.toNat,by rw[←hS.len];simp,by simp,by omega,fun q hq=>by cases hq;rfl,fun hq=>by cases hq⟩
   ·cases h
  ·cases h
 ·cases h
theorem zgc {t:Env}{a:Act}(ht:zik M ρ t a.tmps){most d k:Nat}{o:Operand}(h:zbK t most d (some o)=some k)(code:BoundsCode) :
 k≤most∧∀w,(Instr.sliceBound (a.eval o) most code).run P w=.ok k w:=by
 simp only[zbK]at h;split at h
 ·rename_i kk n he;split at h
  ·rename_i hn;cases h;have:=zas ht he;simp only[rel]at this;rw[this];exact⟨by omega,fun w=>by simp[Instr.sliceBound,asIntOf,hn]⟩
  ·cases h
 ·cases h
theorem zdQ {t:Env}{a:Act}(ht:zik M ρ t a.tmps){isSlice:Bool}{len cap h l:Nat}{lo hi:Option Operand}(hlc:len≤cap)
 (hh:zbK t cap len hi=some h)(hl:zbK t h 0 lo=some l) :
 l≤h∧h≤cap∧∀w,(Instr.sliceBounds isSlice len cap (lo.map a.eval) (hi.map a.eval) none).run P w=.ok (l,h,cap) w:=by
 cases hi with
 |none=>
  simp only[zbK,jNa]at hh;subst hh;cases lo with
  |none=>
   simp only[zbK,jNa]at hl;subst hl;exact⟨by omega,hlc,fun w=>by simp[Instr.sliceBounds]⟩
  |some o=>
   obtain⟨h1,h2⟩:=zgc (P:=P) ht hl .sliceB;exact⟨h1,hlc,fun w=>by simp[Instr.sliceBounds,h2]⟩
 |some oh=>
  obtain⟨h1,h2⟩:=zgc (P:=P) ht hh (if isSlice then .sliceAcap else .sliceAlen);cases lo with
  |none=>
   simp only[zbK,jNa]at hl;subst hl;exact⟨by omega,h1,fun w=>by simp[Instr.sliceBounds,h2]⟩
  |some o=>
   obtain⟨h3,h4⟩:=zgc (P:=P) ht hl .sliceB;exact⟨h3,h1,fun w=>by simp[Instr.sliceBounds,h2,h4]⟩
theorem zhm {sz:Nat}:∀(k:Nat){l:List V}{b o:Nat},relRow M ρ sz l b o→relRow M ρ sz (l.drop k) b (o+k*sz)
 |0,l,b,o,h=>by simpa using h
 |k+1,[],b,o,_=>by simp[relRow]
 |k+1,v::l,b,o,h=>by
  simp only[relRow]at h;have:=zhm k h.2;rw[show o+(k+1)*sz=o+sz+k*sz from by rw[Nat.succ_mul];omega];simpa using this
theorem zhn {sz:Nat}:∀(k:Nat){l:List V}{b o:Nat},relRow M ρ sz l b o→relRow M ρ sz (l.take k) b o
 |0,l,b,o,_=>by simp[relRow]
 |k+1,[],b,o,_=>by simp[relRow]
 |k+1,v::l,b,o,h=>by
  simp only[relRow,jUc]at h ⊢;exact⟨h.1,zhn k h.2⟩
theorem znV (hT:TOk P T){t:Env}{a:Act}(ht:zik M ρ t a.tmps){ty:TypeId}{p v:V}{lo hi mx:Option Operand}{x:Value}(hx:rel M ρ p x)(h:zco T ty t p lo hi mx=some v) :
 ∃y,(∀w,(Instr.sliceAt ty x (lo.map a.eval) (hi.map a.eval) (mx.map a.eval)).run P w=.ok y w)∧rel M ρ v y:=by
 simp only[zco,zl8]at h;split at h
 ·cases h
 split at h
 ·rename_i l;split at h
  ·rename_i hu;split at h
   ·rename_i hh hbh;split at h
    ·rename_i k hbl;cases h;simp only[rel]at hx;subst hx;obtain⟨b1,b2,b3⟩:=zdQ (P:=P) ht (isSlice:=false) (len:=l.length) (jDb _) hbh hbl;refine⟨.string ⟨((l.take hh).drop k).toArray⟩,fun w=>?_,by simp[rel]⟩;have hsz:(ByteArray.mk l.toArray).size=l.length:=by simp[ByteArray.size]
     have hex:(ByteArray.mk l.toArray).extract k hh=⟨((l.take hh).drop k).toArray⟩:=by
      rw[Lib.extract_eq,jSc]
     simp[Instr.sliceAt,hT.run_und hu,Instr.slice,hsz,b3,hex]
    ·cases h
   ·cases h
  ·cases h
 ·rename_i sz l;split at h
  ·rename_i e hu;split at h
   ·rename_i hsz;split at h
    ·rename_i hh hbh;split at h
     ·rename_i k hbl;cases h;simp only[rel]at hx;obtain⟨ad,c,rfl,hlc,hrow⟩:=hx;have hbh':zbK t c l.length hi=some hh:=by
       cases hi with
       |none=>exact hbh
       |some o=>
        simp only[zbK]at hbh ⊢;split at hbh
        ·rename_i n hn;split at hbh
         ·rename_i hc;rw[if_pos (by omega)];exact hbh
         ·cases hbh
        ·cases hbh
      have hhl:hh≤l.length:=by
       cases hi with
       |none=>simp only[zbK,jNa]at hbh;omega
       |some o=>exact(zgc (P:=P) ht hbh .sliceB).1
      obtain⟨b1,b2,b3⟩:=zdQ (P:=P) ht (isSlice:=true) hlc hbh' hbl;have hll:((l.take hh).drop k).length=hh-k:=by simp;omega
      refine⟨.slice (if c=k then ad else ad.map (·.add (k*sz))) (hh-k) (c-k),fun w=>by simp[Instr.sliceAt,hT.run_und hu,Instr.slice,b3,hT.run_size hsz],?_⟩;simp only[rel];refine⟨_,_,by rw[hll],by rw[hll];omega,fun hne=>?_⟩;have hpos:0<hh-k:=by rw[←hll];exact jEc.2 hne
      obtain⟨b,o,rfl,hr⟩:=hrow (fun e0=>by subst e0;simp at hhl;omega);rw[if_neg (by omega)];exact⟨b,o+k*sz,by simp[zbO],zhm k (zhn hh hr)⟩
     ·cases h
    ·cases h
   ·cases h
  ·cases h
 ·split at h
  ·rename_i e hu;split at h
   ·rename_i n hsz hbh hbl;cases h;simp only[rel]at hx;subst hx;obtain⟨b1,b2,b3⟩:=zdQ (P:=P) ht (isSlice:=true) (jDb 0) hbh hbl;exact⟨.slice none 0 0,fun w=>by simp[Instr.sliceAt,hT.run_und hu,Instr.slice,b3,hT.run_size hsz],by simp[rel]⟩
   ·cases h
  ·cases h
 ·rename_i n sz off len cap;split at h
  ·rename_i e hu;split at h
   ·rename_i hsz;split at h
    ·rename_i hh hbh;split at h
     ·rename_i k hbl;simp only[rel]at hx;obtain⟨b,c,q,hr,rfl,hlq,hcap,hfull⟩:=hx;have hbh':zbK t q len hi=some hh:=by
       cases hi with
       |none=>exact hbh
       |some o=>
        simp only[zbK]at hbh ⊢;split at hbh
        ·rename_i kk nn hn;split at hbh
         ·rename_i hc;have:cap.getD len≤q:=by
           cases cap with
           |none=>exact hlq
           |some z=>have:=hcap z rfl;simp;omega
          rw[if_pos (by omega)];exact hbh
         ·cases hbh
        ·cases hbh
      obtain⟨b1,b2,b3⟩:=zdQ (P:=P) ht (isSlice:=true) hlq hbh' hbl;have hrun:∀w,(Instr.sliceAt ty (.slice (some ⟨b,off*sz,none⟩) len q) (lo.map a.eval) (hi.map a.eval) none).run P w=.ok (.slice (if q=k then some ⟨b,off*sz,none⟩else some ⟨b,(off+k)*sz,none⟩) (hh-k) (q-k)) w:=fun w=>by
       simp[Instr.sliceAt,hT.run_und hu,Instr.slice,b3,hT.run_size hsz];split<;>simp[zbO,jId]
      refine⟨_,hrun,?_⟩;split at h
      ·rename_i z;have hz:=hcap z rfl;subst hz;split at h
       ·rename_i e0;cases h;rw[if_pos e0];simp only[rel];exact⟨b,c,q-k,hr,rfl,by omega,fun x hx=>by cases hx;omega,fun hx=>by cases hx⟩
       ·rename_i e0;cases h;rw[if_neg e0];simp only[rel];exact⟨b,c,q-k,hr,rfl,by omega,fun x hx=>by cases hx;omega,fun hx=>by cases hx⟩
      ·have hf:=hfull rfl;split at h
       ·rename_i e0;cases h;simp only[rel];have h00:hh-k=0:=by omega
        rw[h00];split
        ·exact⟨_,_,rfl⟩
        ·exact⟨_,_,rfl⟩
       ·rename_i e0;cases h;simp only[rel];by_cases hqk:q=k
        ·have hk0:k=0:=by
          rcases Nat.eq_zero_or_pos k with h|h
          ·exact h
          ·exact absurd ⟨by omega,h⟩ e0
         subst hk0;rw[if_pos hqk];exact⟨b,c,q-0,hr,by simp,by omega,fun x hx=>(by cases hx),fun _=>by simpa using hf⟩
        ·rw[if_neg hqk];exact⟨b,c,q-k,hr,rfl,by omega,fun x hx=>(by cases hx),fun _=>by rw[←hf];congr 1;omega⟩
     ·cases h
    ·cases h
   ·cases h
  ·cases h
 ·rename_i n off;split at h
  ·rename_i m e hu;split at h
   ·rename_i sz hsz;split at h
    ·rename_i hc;split at h
     ·rename_i hh hbh;split at h
      ·rename_i k hbl;split at h
       ·cases h
       ·rename_i hmk;cases h;simp only[rel]at hx;obtain⟨b,c,hr,rfl⟩:=hx;obtain⟨b1,b2,b3⟩:=zdQ (P:=P) ht (isSlice:=false) (jDb m) hbh hbl;have hoff:off=off/sz*sz:=by
         have:=Nat.div_add_mod off sz;rw[hc.2,jNd,Nat.mul_comm]at this;exact this.symm
        refine⟨.slice (some ⟨b,(off/sz+k)*sz,none⟩) (hh-k) (m-k),fun w=>?_,?_⟩
        ·simp[Instr.sliceAt,hT.run_und hu,Instr.sureAddr,b3,hT.run_size hsz,hmk,zbO];rw[jId,←hoff]
        ·simp only[rel];exact⟨b,c,m-k,hr,rfl,by omega,fun x hx=>by cases hx;rfl,fun hx=>by cases hx⟩
      ·cases h
     ·cases h
    ·cases h
   ·cases h
  ·cases h
 ·cases h
end
end Go.Ev
