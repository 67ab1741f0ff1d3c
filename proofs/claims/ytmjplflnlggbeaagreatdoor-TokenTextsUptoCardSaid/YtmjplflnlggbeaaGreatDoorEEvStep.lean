/- Each operation of the machine does on related values what the evaluator says, for every world in the relation. The same of maps: a look-up and a store do what the evaluator says. The same of the few operations on strings and slices that take an address of a cell. Lemmas. One statement of a region, a whole region, a whole function does what the evaluator says. -/
import Derived.Test.YtmjplflnlggbeaaGreatDoorEEvOps4
import Derived.Laws.Cover4
import Derived.Laws.IdiomStrings
import Derived.Laws.CopyRow
namespace Go.Ev
open Go Go.Proofs
set_option linter.unusedSimpArgs false
set_option linter.unusedVariables false
set_option linter.unnecessarySimpa false
open Go
section
variable {P:Program}{T:Tab}{M:Mem}{ρ:Ren}{w:World}{H:zaa}

theorem zjW {d:Nat}{p v:V}{x:Value}(hx:rel M ρ p x)(h:zgx d p=some v):∃b o,x=.pointer (some ⟨b,o,none⟩)∧rel M ρ v (.pointer (some ⟨b,o+d,none⟩)):=by
 unfold zgx at h;split at h
 ·cases h;simp only[rel]at hx ⊢;obtain⟨b,c,hr,rfl⟩:=hx;exact⟨b,_,rfl,b,c,hr,rfl⟩
 ·cases h;simp only[rel]at hx ⊢;obtain⟨b,o,rfl,hr⟩:=hx;exact⟨b,_,rfl,b,o,by rw[jQc _ _ d],hr⟩
 ·cases h;simp only[rel]at hx ⊢;subst hx;exact⟨_,_,rfl,rfl⟩
 ·cases h
theorem zhG (hT:TOk P T){ty:TypeId}{p v:V}{f:Nat}{x:Value}(hx:rel M ρ p x)(h:zcb T ty p f=some v) :
 ∃y,(∀w,(Instr.fieldAt ty x f).run P w=.ok y w)∧rel M ρ v y:=by
 unfold zcb at h;split at h
 ·rename_i fs hu;split at h
  ·rename_i fd hfd;split at h
   ·rename_i n hn;split at h
    ·cases h
    ·rename_i hn0;obtain⟨b,o,rfl,hr⟩:=zjW hx h;refine⟨_,fun w=>?_,hr⟩;simp[Instr.fieldAt,hT.run_und hu,hfd,Instr.sureAddr,fieldPlace,hT.run_size hn,hn0,zbO]
   ·cases h
  ·cases h
 ·cases h
theorem znT (hT:TOk P T){ty:TypeId}{p v:V}{f:Nat}{x:Value}(hx:rel M ρ p x)(h:zft T ty p f=some v) :
 ∃y,(∀w,(Instr.field ty x f).run P w=.ok y w)∧rel M ρ v y:=by
 unfold zft at h;split at h
 ·rename_i fs l hu;split at h
  ·rename_i fd hfd;simp only[rel]at hx;obtain⟨cs,rfl,hcs⟩:=hx;obtain⟨y,hy,hr⟩:=zhf hT h hcs;exact⟨y,fun w=>by simp[Instr.field,hT.run_und hu,hfd,asAgg,hy],hr⟩
  ·cases h
 ·cases h
theorem zhH (hT:TOk P T){ty:TypeId}{p q v:V}{x z:Value}(hx:rel M ρ p x)(hz:rel M ρ q z)(h:zbe T ty p q=some v) :
 ∃y,(∀w,(Instr.indexAt ty x z).run P w=.ok y w)∧rel M ρ v y:=by
 unfold zbe at h;split at h
 ·rename_i e n sz off len cap k j hu;split at h
  ·rename_i hc;cases h;simp only[rel]at hx hz;subst hz;obtain⟨b,c,q,hr,rfl,hlq,hcap,hfull⟩:=hx;refine⟨.pointer (some ⟨b,(off+j.toNat)*sz,none⟩),fun w=>?_,by simp only[rel];exact⟨b,c,hr,rfl⟩⟩;simp[Instr.indexAt,asIntOf,hT.run_und hu,hc.2.1,hc.2.2,hT.run_size hc.1,zbO,jId]
  ·cases h
 ·rename_i e sz l k j hu;split at h
  ·rename_i hc;cases h;simp only[rel]at hx hz;subst hz;obtain⟨ad,c,rfl,hlc,hrow⟩:=hx;obtain⟨b,o,rfl,hr⟩:=hrow (fun e0=>by subst e0;have:=hc.2;simp at this;omega);refine⟨.pointer (some ⟨b,o+j.toNat*sz+0,none⟩),fun w=>?_,by simp only[rel];exact⟨b,o,rfl,hr⟩⟩;simp[Instr.indexAt,asIntOf,hT.run_und hu,hc.2.1,hc.2.2,hT.run_size hc.1,zbO]
  ·cases h
 ·rename_i len e x' k j hu;split at h
  ·rename_i n hn;split at h
   ·rename_i hc;simp only[rel]at hz;subst hz;obtain⟨b,o,rfl,hr⟩:=zjW hx h;refine⟨_,fun w=>?_,hr⟩;simp[Instr.indexAt,asIntOf,hT.run_und hu,Instr.sureAddr,hc.1,hc.2,hT.run_size hn,zbO]
   ·cases h
  ·cases h
 ·cases h
theorem znU (hT:TOk P T){ty:TypeId}{p q v:V}{x z:Value}(hx:rel M ρ p x)(hz:rel M ρ q z)(h:zeG T ty p q=some v) :
 ∃y,(∀w,(Instr.index ty x z).run P w=.ok y w)∧rel M ρ v y:=by
 simp only[zeG,zcf]at h;split at h
 ·rename_i len e l k j hu;split at h
  ·rename_i n hn;split at h
   ·rename_i hc;simp only[rel]at hx hz;subst hz;obtain⟨cs,rfl,hcs⟩:=hx;obtain⟨y,hy,hr⟩:=zhf hT h hcs;exact⟨y,fun w=>by simp[Instr.index,asIntOf,hT.run_und hu,hc.1,hc.2,hT.run_size hn,hy],hr⟩
   ·cases h
  ·cases h
 ·rename_i l k j hu;split at h
  ·rename_i hc;simp only[rel]at hx hz;subst hx hz;cases hl:l[j.toNat]? with
   |none=>simp[hl]at h
   |some c=>
    simp[hl]at h;subst h;refine⟨.int .u8 c.toNat,fun w=>?_,by simp[rel]⟩;have:(ByteArray.mk l.toArray)[j.toNat]? = some c:=by
     have hlt:=(jGa.1 hl).1;have hsz:j.toNat<(ByteArray.mk l.toArray).size:=by simpa[ByteArray.size]using hlt
     rw[getElem?_pos (ByteArray.mk l.toArray) j.toNat hsz];have:=(jGa.1 hl).2;rw[←this];rfl
    simp[Instr.index,asIntOf,hT.run_und hu,hc,this]
  ·cases h
 ·cases h
theorem zr6 (hT:TOk P T){ty:TypeId}{p v:V}{x:Value}(hx:rel M ρ p x)(h:zf4 T ty p=some v)(tys:Array TypeId)(h0:tys[0]? = some ty)(rt:TypeId) :
 ∃y,(∀w,(Builtin.len_ tys rt #[x]).run P w=.ok y w)∧rel M ρ v y:=by
 unfold zf4 at h;split at h
 ·rename_i l hu;cases h;simp only[rel]at hx;subst hx;exact⟨.int .i64 l.length,fun w=>by simp[Builtin.len_,h0,hT.run_und hu,goInt];rfl,by simp[rel]⟩
 ·rename_i _ n _ hu;cases h;exact⟨.int .i64 n,fun w=>by simp[Builtin.len_,h0,hT.run_und hu,goInt],by simp[rel]⟩
 ·rename_i e n sz off len cap hu;cases h;simp only[rel]at hx;obtain⟨b,c,k,hr,rfl,_⟩:=hx;exact⟨.int .i64 len,fun w=>by simp[Builtin.len_,h0,hT.run_und hu,goInt],by simp[rel]⟩
 ·rename_i e sz l hu;cases h;simp only[rel]at hx;obtain⟨ad,k,rfl,_⟩:=hx;exact⟨.int .i64 l.length,fun w=>by simp[Builtin.len_,h0,hT.run_und hu,goInt],by simp[rel]⟩
 ·rename_i e hu;cases h;simp only[rel]at hx;subst hx;exact⟨.int .i64 0,fun w=>by simp[Builtin.len_,h0,hT.run_und hu,goInt],by simp[rel]⟩
 ·rename_i e hu;cases h;simp only[rel]at hx;obtain⟨a,c,rfl⟩:=hx;exact⟨.int .i64 0,fun w=>by simp[Builtin.len_,h0,hT.run_und hu,goInt],by simp[rel]⟩
 ·cases h
theorem zuN {op:UnOp}{p v:V}{x:Value}(hx:rel M ρ p x)(h:ztI op p=some v):∃y,(∀w,(Op.unary op x).run P w=.ok y w)∧rel M ρ v y:=by
 unfold ztI at h;split at h
 ·cases h;simp only[rel]at hx;subst hx;rename_i y;exact⟨.bool (!y),fun w=>by simp[Op.unary],by simp[rel]⟩
 ·cases h;simp only[rel]at hx;subst hx;rename_i k n;exact⟨.int k (k.wrap (0-n)),fun w=>by simp[Op.unary,Op.intArith],by simp[rel]⟩
 ·rename_i k n;simp only[rel]at hx;subst hx;simp only[zbj]at h;split at h
  ·rename_i u hu;exact⟨u,fun w=>by simp[Op.unary,hu],zei h⟩
  ·cases h
 ·cases h
theorem zpI (hT:TOk P T){src dst:TypeId}{p v:V}{x:Value}(hx:rel M ρ p x)(h:zgO T src dst p=some v):∃y,(∀w,(convert src dst x).run P w=.ok y w)∧rel M ρ v y:=by
 unfold zgO at h;split at h
 ·rename_i d k kk n hs hd;cases h;simp only[rel]at hx;subst hx;exact⟨.int k (k.wrap n),fun w=>by simp[convert,hT.run_und hs,hT.run_und hd,Conv.intToInt],by simp[rel]⟩
 ·rename_i d kk n hs hd;cases h;simp only[rel]at hx;subst hx;refine⟨.string (Utf8.encode n),fun w=>?_,by simp[rel]⟩;simp[convert,hT.run_und hs,hT.run_und hd,Conv.intToString]
 ·rename_i d l hs hd;cases h;simp only[rel]at hx;subst hx;refine⟨.string ⟨l.toArray⟩,fun w=>?_,by simp[rel]⟩;simp[convert,hT.run_und hs,hT.run_und hd]
 ·cases h
end
open Go
section
variable {P:Program}{T:Tab}{M:Mem}{ρ:Ren}{w:World}{H:zaa}

theorem zr5 {op:BinOp} {k:IntKind} {a b:Int} {v:V} (hop:op≠.shl∧op≠.shr) (h:zbj op k a b=some v) (xT:TypeId) :
    ∃y,(∀w,(binOp op xT (.int k a) (.int k b)).run P w=.ok y w)∧rel M ρ v y:=by
  unfold zbj at h
  split at h
  case h_1=>cases h;exact⟨.int k (k.wrap (a+b)),fun w=>by simp[binOp,Op.intArith],by simp[rel]⟩
  case h_2=>cases h;exact⟨.int k (k.wrap (a-b)),fun w=>by simp[binOp,Op.intArith],by simp[rel]⟩
  case h_3=>cases h;exact⟨.int k (k.wrap (a*b)),fun w=>by simp[binOp,Op.intArith],by simp[rel]⟩
  case h_4=>cases h;exact⟨.bool (a==b),fun w=>by simp[binOp,Op.intCmp],by simp[rel]⟩
  case h_5=>cases h;exact⟨.bool (a !=b),fun w=>by simp[binOp,Op.intCmp],by simp[rel]⟩
  case h_6=>cases h;exact⟨.bool (decide (a<b)),fun w=>by simp[binOp,Op.intCmp],by simp[rel]⟩
  case h_7=>cases h;exact⟨.bool (decide (a≤b)),fun w=>by simp[binOp,Op.intCmp],by simp[rel]⟩
  case h_8=>cases h;exact⟨.bool (decide (a>b)),fun w=>by simp[binOp,Op.intCmp],by simp[rel]⟩
  case h_9=>cases h;exact⟨.bool (decide (a≥b)),fun w=>by simp[binOp,Op.intCmp],by simp[rel]⟩
  case h_16=>cases h
  all_goals
    first
      | (split at h
         · cases h
         · split at h
           · rename_i u hu
             exact⟨u,fun w=>by simp[binOp,hu],zei h⟩
           · cases h)
      | (split at h
         · rename_i u hu
           exact⟨u,fun w=>by simp[binOp,hu],zei h⟩
         · cases h)

theorem zh0 {op:BinOp}{k k':IntKind}{a b:Int}{v:V}(hop:op=.shl∨op=.shr)(h:zbn op k a k' b=some v)(xT:TypeId) :
 ∃y,(∀w,(binOp op xT (.int k a) (.int k' b)).run P w=.ok y w)∧rel M ρ v y:=by
 unfold zbn at h;split at h
 ·rename_i u hu;refine⟨u,fun w=>?_,zei h⟩;rcases hop with rfl|rfl<;>simp[binOp,hu]
 ·cases h
theorem zr8 {op:BinOp}{a b:Bs}{v:V}(h:zc8 op a b=some v)(xT:TypeId) :
 ∃y,(∀w,(binOp op xT (.string ⟨a.toArray⟩) (.string ⟨b.toArray⟩)).run P w=.ok y w)∧rel M ρ v y:=by
 simp only[zc8,zfQ]at h;split at h
 ·split at h
  ·rename_i hc;have hc:=Nat.le_of_ble_eq_true hc;cases h;refine⟨.string ⟨(a++b).toArray⟩,fun w=>?_,by simp[rel]⟩;have h1:(ByteArray.mk a.toArray).size=a.length:=rfl;have h2:(ByteArray.mk b.toArray).size=b.length:=rfl;have h3:(ByteArray.mk a.toArray)++(ByteArray.mk b.toArray)=⟨(a++b).toArray⟩:=by
    apply ByteArray.ext;simp
   have h4:¬((a.length+b.length:Nat):Int)>IntKind.i64.max:=by
    rw[show IntKind.i64.max=9223372036854775807 from rfl];omega
   simp only[binOp,Op.stringOp,h1,h2,if_neg h4,h3,jGd]
  ·cases h
 all_goals first
  |(cases h;refine⟨.bool _,fun w=>?_,by simp only[rel];rfl⟩;simp[binOp,Op.stringOp];done)
  |cases h
theorem zeb {op:BinOp}{t:TypeId}{x y:Operand}{a b:Value}(h1:¬(a=.nilIface∧b=.nilIface))(h2:∀c d,¬(a=.agg c∧b=.agg d))(w:World):(eqGuard op t x y a b).run P w=.ok () w:=by
 have key:∀(X:Sem Unit)(Y:Array Value→Array Value→Sem Unit),(match a,b with | .nilIface,.nilIface=>X | .agg c,.agg d=>Y c d|_,_=>(Pure.pure ():Sem Unit)).run P w=.ok () w:=by
  intro X Y;split
  ·exact absurd ⟨rfl,rfl⟩ h1
  ·exact absurd ⟨rfl,rfl⟩ (h2 _ _)
  ·simp
 unfold eqGuard;split;all_goals first
  |(simp;done)
  |(simp only[Bool.not_true,jSa,if_false];exact key _ (fun _ _=>_))
theorem zuM {t:TypeId} {d:TypeDesc} (hd:P.underlying t=some d) {p q:V} {r:Bool} {x y:Value} (hx:rel M ρ p x) (hy:rel M ρ q y) (h:zwu (some d) p q=some r) :
    (∀w,(Op.equal t x y).run P w=.ok r w)∧¬(x=.nilIface∧y=.nilIface)∧(∀c d,¬(x=.agg c∧y=.agg d))∧(∀k n,x≠.int k n)∧(∀l,x≠.string l)∧(∀k n,x≠.float k n)∧(∀k n m,x≠.complex k n m):=by
  unfold zwu at h
  have run1:∀{a b:Value}{r:Bool},(∀d w,(Op.equalIn (d+1) t a b).run P w=.ok r w)→∀w,(Op.equal t a b).run P w=.ok r w:=fun hh w=>hh 9999 w
  split at h<;>first
    |(cases h;done)
    | (split at h
       · cases h
       · rename_i heq hne
         cases heq
         cases h
         simp only[rel]at hx hy
         first
           |(subst hx;obtain⟨_,_,rfl,_,h3⟩:=hy;obtain⟨_,_,rfl,_⟩:=h3 (by simpa using hne);exact⟨run1 fun d w=>by simp[Op.equalIn,jQb hd],by simp,by simp,by simp,by simp,by simp,by simp⟩)
           |(subst hy;obtain⟨_,_,rfl,_,h3⟩:=hx;obtain⟨_,_,rfl,_⟩:=h3 (by simpa using hne);exact⟨run1 fun d w=>by simp[Op.equalIn,jQb hd],by simp,by simp,by simp,by simp,by simp,by simp⟩))
    | (rename_i heq;cases heq;cases h
       simp only[rel]at hx hy
       first
         |(subst hx hy;exact⟨run1 fun d w=>by simp[Op.equalIn,jQb hd],by simp,by simp,by simp,by simp,by simp,by simp⟩)
         |(subst hx;obtain⟨_,_,rfl⟩:=hy;exact⟨run1 fun d w=>by simp[Op.equalIn,jQb hd],by simp,by simp,by simp,by simp,by simp,by simp⟩)
         |(subst hx;obtain⟨_,_,rfl,_⟩:=hy;exact⟨run1 fun d w=>by simp[Op.equalIn,jQb hd],by simp,by simp,by simp,by simp,by simp,by simp⟩)
         |(subst hy;obtain⟨_,_,rfl⟩:=hx;exact⟨run1 fun d w=>by simp[Op.equalIn,jQb hd],by simp,by simp,by simp,by simp,by simp,by simp⟩)
         |(subst hy;obtain⟨_,_,rfl,_⟩:=hx;exact⟨run1 fun d w=>by simp[Op.equalIn,jQb hd],by simp,by simp,by simp,by simp,by simp,by simp⟩)
         |(subst hx;obtain⟨_,_,_,rfl⟩:=hy;exact⟨run1 fun d w=>by simp[Op.equalIn,jQb hd],by simp,by simp,by simp,by simp,by simp,by simp⟩)
         |(subst hy;obtain⟨_,_,_,rfl⟩:=hx;exact⟨run1 fun d w=>by simp[Op.equalIn,jQb hd],by simp,by simp,by simp,by simp,by simp,by simp⟩)
         |(subst hx;obtain⟨_,_,_,_,rfl,_⟩:=hy;exact⟨run1 fun d w=>by simp[Op.equalIn,jQb hd],by simp,by simp,by simp,by simp,by simp,by simp⟩)
         |(subst hy;obtain⟨_,_,_,_,rfl,_⟩:=hx;exact⟨run1 fun d w=>by simp[Op.equalIn,jQb hd],by simp,by simp,by simp,by simp,by simp,by simp⟩)
         |(subst hx;obtain⟨_,rfl,_⟩:=hy;exact⟨run1 fun d w=>by simp[Op.equalIn,jQb hd],by simp,by simp,by simp,by simp,by simp,by simp⟩)
         |(subst hy;obtain⟨_,rfl,_⟩:=hx;exact⟨run1 fun d w=>by simp[Op.equalIn,jQb hd],by simp,by simp,by simp,by simp,by simp,by simp⟩))

theorem zpi (a b:Bs):((⟨a.toArray⟩:ByteArray)==⟨b.toArray⟩)=(a==b):=by
 show(a.toArray==b.toArray)=_;simp
theorem zw2 (hT : TOk P T) {t:TypeId} {d:TypeDesc} (hd:T.und t=some d) {xs ys:List V} {cs ds:List Value} (hx:relL M ρ xs cs) (hy:relL M ρ ys ds) {o:Nat} {r:Bool} (h:eq1 (some d) xs[o]? ys[o]? = some r) :
    ∃x y,(∀w,(part t cs.toArray o).run P w=.ok x w)∧(∀w,(part t ds.toArray o).run P w=.ok y w)∧∀n w,(Op.equalIn (n+1) t x y).run P w=.ok r w:=by
  cases hp:xs[o]? with
  |none=>rw[hp]at h;unfold eq1 at h;split at h<;>simp_all
  |some p=>
    cases hq:ys[o]? with
    |none=>rw[hq]at h;unfold eq1 at h;split at h<;>simp_all
    |some q=>
      obtain⟨x,hx1,hx2⟩:=za2 hx hp
      obtain⟨y,hy1,hy2⟩:=za2 hy hq
      rw[hp,hq]at h
      have hu:=jQb (hT.und _ _ hd)
      refine⟨x,y,?_,?_,?_⟩
      · intro w
        unfold eq1 at h
        split at h<;>first
          |(cases h;done)
          |(rename_i e1 _ _;cases e1;simp[part,isAgg,hu,hx1])
      · intro w
        unfold eq1 at h
        split at h<;>first
          |(cases h;done)
          |(rename_i e1 _ _;cases e1;simp[part,isAgg,hu,hy1])
      · intro n w
        unfold eq1 at h
        split at h <;> first
          |(cases h;done)
          | (rename_i e1 e2 e3
             cases e1;cases e2;cases e3
             simp only[rel]at hx2 hy2
             subst hx2 hy2
             first
               | (split at h
                  · rename_i hk;subst hk;cases h;simp[Op.equalIn,hu]
                  · cases h)
               |(cases h;simp[Op.equalIn,hu,zpi,zfQ]))
theorem zpD (hT:TOk P T) {xs ys:List V} {cs ds:List Value} (hx:relL M ρ xs cs) (hy:relL M ρ ys ds) (n:Nat) (w:World):∀(l:List Field) (r:Bool),(∀f∈l,f.name≠ "_")→zpC T xs ys l=some r →
    (forIn l ((none,()):Option Bool×Unit) (fun f _=>if f.name≠ "_" then(do
        if !(←Op.equalIn (n+1) f.type (←part f.type cs.toArray f.offset) (←part f.type ds.toArray f.offset))then pure (ForInStep.done (some false,()))else pure (ForInStep.yield (none,())))
      else pure (ForInStep.yield (none,()))):Sem (Option Bool×Unit)).run P w=.ok (if r=true then(none,())else(some false,())) w
  | [],r,_,h=>by
    simp only[zpC,jNa]at h
    subst h
    simp
  | f :: l,r,hn,h=>by
    simp only[zpC]at h
    cases hd:T.und f.type with
    |none=>rw[hd]at h;simp[eq1]at h
    | some d=>
      rw[hd]at h
      cases he:eq1 (some d) xs[f.offset]? ys[f.offset]? with
      |none=>rw[he]at h;cases h
      | some q=>
        obtain⟨x,y,h1,h2,h3⟩:=zw2 hT hd hx hy he
        have h0:=hn f (by simp)
        rw[he]at h
        cases q with
        | true=>
          have ih:=zpD hT hx hy n w l r (fun g hg=>hn g (by simp[hg])) h
          simp only[ne_eq,ite_not]at ih
          simp[h0,h1,h2,h3]at ih ⊢
          exact ih
        |false=>cases h;simp[h0,h1,h2,h3]
theorem zr3 (hT:TOk P T){t:TypeId}{fs:Array Field}(hu:T.und t=some (.struct fs))(hq:T.eqs t=true){xs ys:List V}{cs ds:List Value}{r:Bool}(hx:relL M ρ xs cs)(hy:relL M ρ ys ds)(h:zpC T xs ys fs.toList=some r) :
 (∀w,(Op.equal t (.agg cs.toArray) (.agg ds.toArray)).run P w=.ok r w)∧∀op ox oy w,(eqGuard op t ox oy (.agg cs.toArray) (.agg ds.toArray)).run P w=.ok () w:=by
 obtain⟨h1,h2,h3⟩:=hT.eqs t hq;have hun:=jQb (hT.und _ _ hu);constructor
 ·intro w;have:=zpD hT hx hy 9998 w fs.toList r (h3 fs (hT.und _ _ hu)) h;simp only[ne_eq,ite_not,jLc]at this;show(Op.equalIn (9999+1) t (.agg cs.toArray) (.agg ds.toArray)).run P w=_;rw[Op.equalIn];simp[hun,h1];rw[←Array.forIn_toList,this];cases r<;>simp
 ·intro op ox oy w;unfold eqGuard;simp[h2]
theorem zr4 (hT:TOk P T){t:TypeId}{p q:V}{r:Bool}{x y:Value}(hx:rel M ρ p x)(hy:rel M ρ q y)(h:zeq T t p q=some r) :
 (∀w,(Op.equal t x y).run P w=.ok r w)∧(∀op ox oy w,(eqGuard op t ox oy x y).run P w=.ok () w)∧(∀k n,x≠.int k n)∧(∀l,x≠.string l)∧(∀k n,x≠.float k n)∧(∀k n m,x≠.complex k n m):=by
 unfold zeq at h;split at h
 ·rename_i xs ys;split at h
  ·rename_i fs hu;split at h
   ·rename_i hq;simp only[rel]at hx hy;obtain⟨cs,rfl,hx⟩:=hx;obtain⟨ds,rfl,hy⟩:=hy;obtain⟨h1,h2⟩:=zr3 hT hu hq hx hy h;exact⟨h1,h2,by simp,by simp,by simp,by simp⟩
   ·cases h
  ·cases h
 ·rename_i n o m q;split at h
  ·rename_i e hu;split at h
   ·rename_i s hs;split at h
    ·rename_i hc;obtain⟨hs0,rfl⟩:=hc;cases h;simp only[rel]at hx hy;obtain⟨b,c,hr,rfl⟩:=hx;obtain⟨b',c',hr',rfl⟩:=hy;rw[hr]at hr';cases hr';refine⟨fun w=>?_,fun op ox oy w=>zeb (by simp) (by simp) w,by simp,by simp,by simp,by simp⟩;have:∀d w,(Op.equalIn (d+1) t (.pointer (some ⟨b,o,none⟩)) (.pointer (some ⟨b,q,none⟩))).run P w=.ok (o==q) w:=by
      intro d w;have he:((⟨b,o,none⟩:Addr)==⟨b,q,none⟩)=(o==q):=by
       rw[jYc];simp
      simp[Op.equalIn,jQb (hT.und _ _ hu),hT.run_size hs,hs0,sameAddr,he]
     exact this 9999 w
    ·cases h
   ·cases h
  ·cases h
 ·cases hd:T.und t with
  |none=>simp[hd,zwu]at h
  |some d=>
   rw[hd]at h;obtain⟨e1,e2,e3,e4⟩:=zuM (hT.und _ _ hd) hx hy h;exact⟨e1,fun op ox oy w=>zeb e2 e3 w,e4⟩
theorem zr2 (hT:TOk P T){op:BinOp}{xT:TypeId}{p q v:V}{x y:Value}(hx:rel M ρ p x)(hy:rel M ρ q y)(h:zep T op xT p q=some v)(ox oy:Operand) :
 ∃z,(∀w,(do eqGuard op xT ox oy x y;binOp op xT x y:Sem Value).run P w=.ok z w)∧rel M ρ v z:=by
 unfold zep at h;split at h
 ·rename_i k a k' b;simp only[rel]at hx hy;subst hx hy;have hg:=fun w=>zeb (P:=P) (op:=op) (t:=xT) (x:=ox) (y:=oy) (a:=.int k a) (b:=.int k' b) (by simp) (by simp) w;split at h
  ·obtain⟨z,hz,hr⟩:=zh0 (P:=P) (M:=M) (ρ:=ρ) (.inl rfl) h xT;exact⟨z,fun w=>by simp[hg,hz],hr⟩
  ·obtain⟨z,hz,hr⟩:=zh0 (P:=P) (M:=M) (ρ:=ρ) (.inr rfl) h xT;exact⟨z,fun w=>by simp[hg,hz],hr⟩
  ·rename_i h1 h2;split at h
   ·rename_i hk;subst hk;obtain⟨z,hz,hr⟩:=zr5 (P:=P) (M:=M) (ρ:=ρ) ⟨fun e=>h1 e,fun e=>h2 e⟩ h xT;exact⟨z,fun w=>by simp[hg,hz],hr⟩
   ·cases h
 ·rename_i a b;simp only[rel]at hx hy;subst hx hy;have hg:=fun w=>zeb (P:=P) (op:=op) (t:=xT) (x:=ox) (y:=oy) (a:=.string ⟨a.toArray⟩) (b:=.string ⟨b.toArray⟩) (by simp) (by simp) w;obtain⟨z,hz,hr⟩:=zr8 (P:=P) (M:=M) (ρ:=ρ) h xT;exact⟨z,fun w=>by simp[hg,hz],hr⟩
 ·have hb:∀{op':BinOp} {r:Bool},(op'=.eql∨op'=.neq)→zeq T xT p q=some r→(∀w,(Op.equal xT x y).run P w=.ok r w)∧(∀w,(eqGuard op' xT ox oy x y).run P w=.ok () w)∧(binOp .eql xT x y=do Pure.pure (.bool (←Op.equal xT x y)))∧(binOp .neq xT x y=do Pure.pure (.bool (!(←Op.equal xT x y)))):=by
   intro op' r hop he;obtain⟨e1,e2,e4,e5,e6,e7⟩:=zr4 hT hx hy he;refine⟨e1,fun w=>e2 op' ox oy w,?_,?_⟩
   ·unfold binOp;cases x<;>first|(exfalso;exact e4 _ _ rfl)|(exfalso;exact e5 _ rfl)|(exfalso;exact e6 _ _ rfl)|(exfalso;exact e7 _ _ _ rfl)|rfl
   ·unfold binOp;cases x<;>first|(exfalso;exact e4 _ _ rfl)|(exfalso;exact e5 _ rfl)|(exfalso;exact e6 _ _ rfl)|(exfalso;exact e7 _ _ _ rfl)|rfl
  split at h
  ·cases he:zeq T xT p q with
   |none=>simp[he]at h
   |some r=>
    simp[he]at h;subst h;obtain⟨e1,e2,e3,_⟩:=hb (.inl rfl) he;exact⟨.bool r,fun w=>by rw[e3];simp[e1,e2],by simp[rel]⟩
  ·cases he:zeq T xT p q with
   |none=>simp[he]at h
   |some r=>
    simp[he]at h;subst h;obtain⟨e1,e2,_,e4⟩:=hb (.inr rfl) he;exact⟨.bool (!r),fun w=>by rw[e4];simp[e1,e2],by simp[rel]⟩
  ·cases h
theorem zpG (hT:TOk P T){op:BinOp}{xT:TypeId}{p q v:V}{x y:Value}(ox oy:Operand)(hx:rel M ρ p x)(hy:rel M ρ q y)(h:zdC T op xT oy p q=some v) :
 ∃z,(∀w,(do eqGuard op xT ox oy x y;binOp op xT x y:Sem Value).run P w=.ok z w)∧rel M ρ v z:=by
 unfold zdC at h;split at h
 ·rename_i c;simp only[rel]at hx hy;subst hx hy;split at h
  ·rename_i l hu;cases h;refine⟨.bool true,fun w=>?_,by simp[rel]⟩;have:=jQb (hT.und _ _ hu);have e:∀d w,(Op.equalIn (d+1) xT .nilIface .nilIface).run P w=.ok true w:=fun d w=>by simp[Op.equalIn,this]
   have e2:(Op.equal xT .nilIface .nilIface).run P w=.ok true w:=e 9999 w;simp[eqGuard,binOp,e2]
  ·rename_i l hu;cases h;refine⟨.bool false,fun w=>?_,by simp[rel]⟩;have:=jQb (hT.und _ _ hu);have e:∀d w,(Op.equalIn (d+1) xT .nilIface .nilIface).run P w=.ok true w:=fun d w=>by simp[Op.equalIn,this]
   have e2:(Op.equal xT .nilIface .nilIface).run P w=.ok true w:=e 9999 w;simp[eqGuard,binOp,e2]
  ·cases h
 ·exact zr2 hT hx hy h ox oy
end
open Go
section
variable {P:Program}{T:Tab}{M:Mem}{ρ:Ren}{w:World}{H:zaa}

theorem zdq (hS:SR T M ρ H w){e:TypeId}{sz:Nat}{q:V}{x:Value}(hx:rel M ρ q x){new:List V}{k:Nat}(h:za7 T e sz H q=some (new,k)) :
 ∃cs,(Builtin.firstCells sz k x).run P w=.ok cs.toArray w∧(Builtin.lenOf x).run P w=.ok k w∧relL M ρ new cs∧new.length=k*sz:=by
 unfold za7 at h;split at h
 ·rename_i n s off len cap;split at h
  ·rename_i hs;subst hs;split at h
   ·rename_i blk hb;cases hc:cut blk.cells (off*s) (len*s)with
    |none=>simp[hc]at h
    |some c=>
     simp[hc]at h;obtain⟨rfl,rfl⟩:=h;simp only[rel]at hx;obtain⟨b,c',q,hr,rfl,_⟩:=hx;obtain⟨b',c'',cs,cs',hr',_,_,hheap,hrel,_⟩:=hS.cells hb;rw[hr]at hr';cases hr';have hm:zhD M ρ w b (off*s) c:=fun j u hj=>by
      obtain⟨y,hy,hyr⟩:=za2 hrel (zli hc hj);refine⟨y,?_,hyr⟩;rw[zck hheap,jQa (jGa.1 hy).1];exact hy
     obtain⟨ds,hds,hcell⟩:=hm.vals;have hl:=zc6 hc;exact⟨ds,by simpa[Builtin.firstCells]using zdz (P:=P) b (off*s) (len*s) ds (by rw[zam hds,hl]) hcell,by simp[Builtin.lenOf],hds,hl⟩
   ·cases h
  ·cases h
 ·rename_i s l;split at h
  ·rename_i hc;obtain⟨rfl,hall⟩:=hc;cases h;simp only[rel]at hx;obtain⟨a,k,rfl,hlk,hrow⟩:=hx;by_cases hl:l=[]
   ·subst hl;refine⟨[],?_,by simp[Builtin.lenOf],by simp[relL],by simp⟩;cases a<;>simp[Builtin.firstCells,loadCells,loadCellsFrom]
   ·obtain ⟨b,o,rfl,hr⟩:=hrow hl;have hlen:∀l:List V,l.all (fun v=>v.cells.length=s)=true→(l.flatMap V.cells).length=l.length*s:=by
     intro l;induction l with
     |nil=>simp
     |cons v l ih=>
      intro h;simp only[List.all_cons,jMa,jTa]at h;simp only[List.flatMap_cons,jLa,h.1,ih h.2,jIa];rw[Nat.succ_mul];omega
    have hin:∀(l:List V)(o:Nat),l.all (fun v=>v.cells.length=s)=true→relRow M ρ s l b o→zhD M ρ w b o (l.flatMap V.cells):=by
     intro l;induction l with
     |nil=>intro o _ _ j u hj;simp at hj
     |cons v l ih=>
      intro o hall hrow j u hj;simp only[List.all_cons,jMa,jTa]at hall;simp only[relRow]at hrow;obtain⟨⟨x,hx,hsz,hcell⟩,hrest⟩:=hrow;simp only[List.flatMap_cons]at hj;by_cases hlt:j<v.cells.length
      ·rw[jQa hlt]at hj;obtain⟨z,hz,hzr⟩:=za2 (zbi hx) hj;exact⟨z,zgW hS (hcell j z (by simpa using hz)),hzr⟩
      ·rw[jPb (by omega)]at hj;obtain⟨z,hz,hzr⟩:=ih (o+s) hall.2 hrest (j-v.cells.length) u hj;refine⟨z,?_,hzr⟩;rw[←hz];congr 2;omega
    obtain⟨ds,hds,hcell⟩:=(hin l o hall hr).vals;have hl2:=hlen l hall;exact⟨ds,by simpa[Builtin.firstCells]using zdz (P:=P) b o (l.length*s) ds (by rw[zam hds,hl2]) hcell,by simp[Builtin.lenOf],hds,hl2⟩
  ·cases h
 ·cases h;simp only[rel]at hx;subst hx;exact⟨[],by simp[Builtin.firstCells],by simp[Builtin.lenOf],by simp[relL],by simp⟩
 ·cases h;simp only[rel]at hx;obtain⟨a,c,rfl⟩:=hx;exact⟨[],by simp[Builtin.firstCells,loadCells,loadCellsFrom],by simp[Builtin.lenOf],by simp[relL],by simp⟩
 ·rename_i l;split at h
  ·rename_i hsz;cases h;subst hsz;simp only[rel]at hx;subst hx;refine⟨l.map fun c=>.int .u8 c.toNat,?_,by simp[Builtin.lenOf,ByteArray.size],?_,by simp⟩
   ·have:(ByteArray.mk l.toArray).extract 0 l.length=⟨l.toArray⟩:=by rw[Lib.extract_eq];simp
    simp[Builtin.firstCells,this]
   ·have:∀l:Bs,relL M ρ (l.map fun c=>V.i .u8 c.toNat) (l.map fun c=>Value.int .u8 c.toNat):=by
     intro l;induction l with
     |nil=>simp[relL]
     |cons c l ih=>exact zaw (by simp[rel]) ih
    exact this l
  ·cases h
 ·cases h
theorem zn8 (need cap:Nat)(h:cap<need):Builtin.nextslicecap need cap≤2*need+2000:=by
 unfold Builtin.nextslicecap;split
 ·omega
 ·split
  ·omega
  ·have : ∀(n c:Nat),c≤need→Builtin.growBy need n c≤2*need+2000:=by
    intro n;induction n with
    |zero=>intro c hc;simp only[Builtin.growBy];omega
    |succ n ih=>
     intro c hc;simp only[Builtin.growBy];split
     ·omega
     ·by_cases hle:c+(c+768)/4≤need
      ·exact ih _ hle
      ·cases n with
       |zero=>simp only[Builtin.growBy];omega
       |succ n=>
        simp only[Builtin.growBy];rw[if_pos (by omega)];omega
   exact this 4 cap (by omega)
theorem zjw (hT:TOk P T){ty e:TypeId}{sz bs:Nat}{z:V}(hu:T.und ty=some (.slice e))(hs:T.size e=some sz)(hb:T.bytes e=some bs)(hz:T.zero e=some z)(hzl:z.cells.length=sz)(hbs1:bs≤1000000)
 (tys:Array TypeId)(h0:tys[0]? = some ty){t1:TypeId}{d1:TypeDesc}(h1:tys[1]? = some t1)(hd1:P.underlying t1=some d1)(hd2:(∃e',d1=.slice e')∨d1=.string)(rt:TypeId)
 {base:Option Addr}{len c k:Nat}{x:Value}{old new:List Value}(hx:(Builtin.lenOf x).run P w=.ok k w)(hgt:c<len+k)(hbs:(len+k)*bs≤1099511627776)(hle:len+k≤1099511627776)
 (hold:(Builtin.firstCells sz len (.slice base len c)).run P w.drew=.ok old.toArray w.drew)(hnew:(Builtin.firstCells sz k x).run P w.drew=.ok new.toArray w.drew) :
 ∃(cap:Nat)(rest:List Value),len+k≤cap∧rest.length=(cap-(len+k))*sz ∧
  (Builtin.append_ tys rt #[.slice base len c,x]).run P w=.ok (.slice (some ⟨w.heap.size,0,none⟩) (len+k) cap) (w.drew.alloc (.cells (old++new++rest).toArray e)):=by
 obtain⟨zv,hzv,hzr⟩:=hT.run_zero hz;obtain⟨i,hi,hir⟩:=hT.run_info hb;have hzsz:zv.cells.size=sz:=by
  have:=zam (zbi (zb4 (M:=fun _=>none) (ρ:=[]) hzv));simp at this;omega
 have hn:=zn8 (len+k) c hgt;have hcap:¬Builtin.nextslicecap (len+k) c*i.bytes>2^48:=by
  rw[hi];have:Builtin.nextslicecap (len+k) c*bs≤(2*(len+k)+2000)*bs:=Nat.mul_le_mul_right _ hn;have h2:(2*(len+k)+2000)*bs=2*((len+k)*bs)+2000*bs:=by rw[jId,Nat.mul_assoc]
  omega
 have hnc:¬len+k≤c:=by omega
 have hmax:¬(((len+k:Nat):Int)>IntKind.i64.max):=by
  rw[show IntKind.i64.max=9223372036854775807 from rfl];omega
 let cap:=(Question.appendCap (len+k) c e).cut (w.tape w.drawn (.appendCap (len+k) c e));have hc1:len+k≤cap:=by show len+k≤len+k+_;omega
 refine⟨cap,(Builtin.zeroCells zv.cells (cap-(len+k))).toList,hc1,by simp[Builtin.zeroCells,hzsz],?_⟩;have hroom:∀n w,(askRoom n).run P w=.ok () w:=by
  intro n w;unfold askRoom;split<;>simp[mark,Sem.run]
 have hch:(choose (.appendCap (len+k) c e)).run P w=.ok cap w.drew:=by simp[choose,Sem.run,Question.forced];rfl
 have hi0:¬(((len+k:Nat):Int)>IntKind.i64.max∧(False∨i.bytes=0)):=fun h=>hmax h.1;obtain⟨a1,_,_⟩:(newRow e (old++new++(Builtin.zeroCells zv.cells (cap-(len+k))).toList).toArray).run P w.drew=.ok ⟨w.heap.size,0,none⟩ (w.drew.alloc (.cells (old++new++(Builtin.zeroCells zv.cells (cap-(len+k))).toList).toArray e))∧True∧True:=⟨by simp[newRow,newObj,Sem.run];rfl,trivial,trivial⟩;have hsum:old.toArray++new.toArray++Builtin.zeroCells zv.cells (cap-(len+k))=(old++new++(Builtin.zeroCells zv.cells (cap-(len+k))).toList).toArray:=by simp
 rcases hd2 with⟨e',rfl⟩|rfl <;>
  simp only[Builtin.append_,h0,h1,jEd,jBa,jAa,jHc,hT.run_und hu,jXb,hT.run_size hs,jQb hd1,jGd,hx,jSa,if_false,if_neg hnc,hir,if_neg hi0,if_neg hcap,hch,hroom,hold,Bool.not_false,if_true,hnew,hzr,hsum,a1]
theorem zel (hT:TOk P T){ty e:TypeId}{sz:Nat}(hu:T.und ty=some (.slice e))(hs:T.size e=some sz)
 (tys:Array TypeId)(h0:tys[0]? = some ty){t1:TypeId}{d1:TypeDesc}(h1:tys[1]? = some t1)(hd1:P.underlying t1=some d1)(hd2:(∃e',d1=.slice e')∨d1=.string)(rt:TypeId)
 {base:Option Addr}{len c k:Nat}{x:Value}{new:List Value}(hx:(Builtin.lenOf x).run P w=.ok k w)(hle:len+k≤c)
 (hnew:(Builtin.firstCells sz k x).run P w=.ok new.toArray w){w':World}(hst:∀a,base=some a→(storeCells (a.add (len*sz)) new).run P w=.ok () w')(hn:base=none→w'=w) :
 (Builtin.append_ tys rt #[.slice base len c,x]).run P w=.ok (.slice base (len+k) c) w':=by
 rcases hd2 with⟨e',rfl⟩|rfl;all_goals
  simp only[Builtin.append_,h0,h1,jEd,jBa,jAa,jHc,hT.run_und hu,jXb,hT.run_size hs,jQb hd1,jGd,hx,jSa,if_false,if_pos hle,Bool.not_false,if_true,hnew];cases base with
  |none=>simp[hn rfl]
  |some a=>simp[hst a rfl]
theorem SR.kill (hS:SR T M ρ H w)(n:Nat):SR T M ρ (H.set n none) w:=by
 have hget:∀{m:Nat}{z:Blk},(H.set n none)[m]? = some (some z)→H[m]? = some (some z):=by
  intro m z hm;by_cases e:m=n
  ·subst e;rw[List.getElem?_set]at hm;split at hm
   ·split at hm
    ·cases hm
    ·cases hm
   ·rename_i h;exact absurd rfl h
  ·rw[jRa (fun h=>e h.symm)]at hm;exact hm
 exact⟨hS.frozen,by simp[hS.len],fun m z hm=>hS.blk m z (hget hm),fun m k x y b c c' hm hk=>hS.inj m k x y b c c' (hget hm) (hget hk),hS.glob,hS.gint⟩
theorem SR.rename (hS:SR T M ρ H w){n:Nat}{blk:Blk}(hb:H[n]? = some (some blk)){b c:Nat}(hr:ρ[n]? = some (b,c)):SR T M (ρ++[(b,c)]) (H.set n none++[some blk]) w:=by
 have hpre:ρ <+: ρ++[(b,c)]:=jMb _ _;obtain⟨b',c',hr',hMb,hlt,hok⟩:=hS.blk n blk hb;rw[hr]at hr';cases hr';have hK:=hS.kill n;have hget:∀{m:Nat}{z:Blk},(H.set n none++[some blk])[m]? = some (some z)→((H.set n none)[m]? = some (some z)∧m<H.length)∨(m=H.length∧z=blk):=by
  intro m z hm;rcases Nat.lt_trichotomy m H.length with hlt|heq|hgt
  ·rw[jQa (by simpa using hlt)]at hm;exact .inl ⟨hm,hlt⟩
  ·subst heq;rw[jPb (by simp)]at hm;simp at hm;exact .inr ⟨rfl,hm.symm⟩
  ·rw[jGc (by simp;omega)]at hm;cases hm
 have hne:∀{m:Nat}{z:Blk},(H.set n none)[m]? = some (some z)→m≠n∧H[m]? = some (some z):=by
  intro m z hm;by_cases e:m=n
  ·subst e;have hlt:=(jGa.1 hb).1;rw[jFb hlt]at hm;cases hm
  ·rw[jRa (fun h=>e h.symm)]at hm;exact⟨e,hm⟩
 refine⟨hS.frozen,by simp[hS.len],?_,?_,?_,hS.gint⟩
 ·intro m z hm;rcases hget hm with⟨hm,_⟩|⟨rfl,rfl⟩
  ·obtain⟨b2,c2,h1,h2,h3,h4⟩:=hK.blk m z hm;exact⟨b2,c2,zfD hpre h1,h2,h3,h4.mono (Mem.le.refl _) hpre⟩
  ·exact⟨b,c,by rw[←hS.len];simp,hMb,hlt,hok.mono (Mem.le.refl _) hpre⟩
 ·intro m k x y b2 c2 c3 hm hk h2 h3;have hold:∀{j:Nat} {q:Nat},j<H.length→(ρ++[(b,c)])[j]? = some (b2,q)→ρ[j]? = some (b2,q):=by
   intro j q hj hq;rw[jQa (by rw[hS.len];exact hj)]at hq;exact hq
  have hend:∀{q:Nat},(ρ++[(b,c)])[H.length]? = some (b2,q)→b2=b:=by
   intro q hq;rw[←hS.len]at hq;simp at hq;exact hq.1.symm
  rcases hget hm with⟨hm',hml⟩|⟨em,zm⟩<;>rcases hget hk with⟨hk',hkl⟩|⟨ek,zk⟩
  ·exact hK.inj m k x y b2 c2 c3 hm' hk' (hold hml h2) (hold hkl h3)
  ·obtain⟨g1,g2⟩:=hne hm';subst ek;have:=hend h3;subst this;exact absurd (hS.inj m n x blk b2 c2 c g2 hb (hold hml h2) hr) g1
  ·obtain⟨g1,g2⟩:=hne hk';subst em;have:=hend h2;subst this;exact absurd (hS.inj k n y blk b2 c3 c g2 hb (hold hkl h3) hr) g1
  ·rw[em,ek]
 ·intro g l hg;obtain⟨ds,ty',fr,hMg,hrel⟩:=hS.glob g l hg;exact⟨ds,ty',fr,hMg,relL_mono (Mem.le.refl _) hpre _ _ hrel⟩
theorem Ext.rename {b c:Nat}(h:∃c',(b,c')∈ρ):Ext M ρ w M (ρ++[(b,c)]) w:=
 ⟨rfl,rfl,rfl,jDb _,Mem.le.refl _,jMb _ _,fun _ _ _=>rfl,fun _ _ _=>rfl,fun b' c' h'=>by
 simp only[jKd,List.mem_singleton,jZa]at h';rcases h' with h'|⟨rfl,_⟩
 ·exact .inl ⟨c',h'⟩
 ·exact .inl h⟩
theorem SR.extend (hS:SR T M ρ H w){n:Nat}{blk:Blk}(hb:zap H n=some blk){l:List V}{xs:List Value}(hl:relL M ρ l xs){b c:Nat}(hr:ρ[n]? = some (b,c))(hfit:blk.cells.length+l.length≤c)(hf:l.all zeA=true) :
 ∃w',(storeCells ⟨b,blk.cells.length,none⟩ xs).run P w=.ok () w'∧Ext M ρ w M ρ w'∧SR T M ρ (H.set n (some {blk with cells:=blk.cells++l,kind:=.more})) w':=by
 obtain⟨hb0,hkind⟩:=zbl hb;obtain⟨b',c',cs,cs',hr',hMb,hc,hheap,hrel,hall⟩:=hS.cells hb;rw[hr]at hr';cases hr';have hxl:=zam hl;have hcl:=zam hrel;obtain⟨h1,h2⟩:=zc1 (P:=P) xs blk.cells.length 0 w (cs++cs') hheap (by omega) (zmk hl hf);simp only[jNd]at h1 h2;obtain⟨s1,s2,s3,s4⟩:=zdx (b:=b) xs blk.cells.length w;refine⟨_,h1,⟨s2,s3,s4,by omega,Mem.le.refl _,jHb _,fun k hk hn=>zcJ (fun e=>hn c (by rw[e];exact jIb hr)) _ _ _,fun _ _ _=>rfl,fun _ q hq=>.inl ⟨q,hq⟩⟩,?_⟩;refine hS.upd hb0 hr (fun k hk=>zcJ hk _ _ _) s1 (zbQ.of_cells (by simp) ⟨cs++xs,cs'.drop xs.length,?_,?_,za5 hrel hl,fun e=>by cases e⟩)
 ·simp only[jLa,jJa]at hc ⊢;omega
 ·rw[h2];have e1:(cs++cs').take blk.cells.length=cs:=by rw[←hcl];simp
  have e2:(cs++cs').drop (blk.cells.length+xs.length)=cs'.drop xs.length:=by rw[←hcl];simp[List.drop_append]
  rw[e1,e2]
end
open Go
section
variable {P:Program}{T:Tab}{M:Mem}{ρ:Ren}{w:World}{H:zaa}

theorem zcq (hS:SR T M ρ H w){n sz off len:Nat}{cap:Option Nat}{x:Value}(hx:rel M ρ (.sl n sz off len cap) x){blk:Blk}(hb:zap H n=some blk){old:List V}(hc:cut blk.cells (off*sz) (len*sz)=some old) :
 ∃cs,(Builtin.firstCells sz len x).run P w=.ok cs.toArray w∧relL M ρ old cs:=by
 obtain⟨cs,h1,_,h2,_⟩:=zdq (P:=P) (T:=T) hS (e:=0) (sz:=sz) hx (new:=old) (k:=len) (by simp[za7,hb,hc]);exact⟨cs,h1,h2⟩
theorem zlt (hT:TOk P T)(hS:SR T M ρ H w){ty:TypeId}{s q v:V}{H':zaa}{x y:Value}(hx:rel M ρ s x)(hy:rel M ρ q y)(h:zaN T ty s q H=.val v H')
 (tys:Array TypeId)(h0:tys[0]? = some ty){t1:TypeId}{d1:TypeDesc}(h1:tys[1]? = some t1)(hd1:P.underlying t1=some d1)(hd2:(∃e',d1=.slice e')∨d1=.string)(rt:TypeId) :
 zjV P T (Builtin.append_ tys rt #[x,y]) M ρ w v H':=by
 unfold zaN at h;simp only[zaX,zcL,setK_eq]at h;split at h;case h_2=>cases h
 rename_i e hu;split at h;case h_2=>cases h
 rename_i sz bs z hs hb hz;split at h;case h_2=>cases h
 rename_i new k hap;split at h;case isFalse=>cases h
 rename_i hc;obtain⟨hpos,hzl,hbs1,hnf⟩:=hc;obtain⟨cs,f1,f2,f3,f4⟩:=zdq (P:=P) hS hy hap;have hSd:SR T M ρ H w.drew:=hS.drew;obtain⟨csd,g1,_,g3,_⟩:=zdq (P:=P) hSd hy hap;split at h
 ·simp only[rel]at hx;subst hx;split at h
  ·rename_i hk;cases h;subst hk;have hnil:cs=[]:=by
    have:=zam f3;rw[f4]at this;exact jRb (by simpa using this)
   subst hnil;have hr:=zel hT hu hs tys h0 h1 hd1 hd2 rt (base:=none) (len:=0) (c:=0) f2 (jDb _) f1 (w':=w) (fun a ha=>by cases ha) (fun _=>rfl);exact zjV.pure hS hr (by simp[rel])
  ·split at h
   ·rename_i hk hbd;cases h;obtain⟨cap,rest,c1,c2,c3⟩:=zjw (w:=w) hT hu hs hb hz hzl hbs1 tys h0 h1 hd1 hd2 rt (base:=none) (len:=0) (c:=0) (old:=[]) f2 (by omega) (by simpa using hbd.1) (by simpa using hbd.2) (by simp[Builtin.firstCells]) g1;have ha:=hSd.alloc hSd.lt e .more (cs:=csd) (cs':=rest) g3 (.inl rfl);have hcl:=zam g3;simp only[jFa,jKb]at c3 c1 c2;refine⟨_,_,_,c3,(Ext.drew M ρ w).trans (Ext.alloc M ρ w.drew _ (csd++rest).length),?_,ha⟩;simp only[rel];refine⟨w.heap.size,(csd++rest).length,cap,by rw[←hS.len,jRc];rfl,by simp,c1,fun q hq=>(by cases hq),fun _=>?_⟩;rw[jLa,hcl,f4,c2,jKb,←jId];congr 1;omega
   ·cases h
 ·rename_i n z' off len cap;split at h;case isFalse=>cases h
  rename_i hbd;obtain⟨rfl,hb1,hb2⟩:=hbd;split at h;case h_2=>cases h
  rename_i blk hblk;split at h;case h_2=>cases h
  rename_i old hold;obtain⟨os,o1,o2⟩:=zcq (P:=P) hSd hx hblk hold;have hx0:=hx;simp only[rel]at hx;obtain⟨b,c,q,hr,rfl,hlq,hcap,hfull⟩:=hx;have hol:=zam o2;have hol2:=zc6 hold;split at h
  ·rename_i hk;cases h;subst hk;have hnil:cs=[]:=by
    have:=zam f3;rw[f4]at this;exact jRb (by simpa using this)
   subst hnil;have hrun:=zel (w':=w) hT hu hs tys h0 h1 hd1 hd2 rt (base:=some ⟨b,off*z',none⟩) (len:=len) (c:=q) f2 (by omega) f1 (fun a ha=>by simp[storeCells]) (fun ha=>by cases ha);exact zjV.pure hS hrun hx0
  ·rename_i hk;split at h
   ·rename_i cc;have hqc:=hcap cc rfl;subst hqc;split at h
    ·rename_i hle;split at h
     ·rename_i hfit;cases h;have hfit':(off+len)*z'+new.length≤blk.cells.length:=by rw[f4,←jId];exact hfit
      obtain⟨w',s1,s2,s3⟩:=hS.splice (P:=P) hblk f3 hfit' hnf hr;have hrun:=zel (w':=w') hT hu hs tys h0 h1 hd1 hd2 rt (base:=some ⟨b,off*z',none⟩) (len:=len) (c:=q) f2 hle f1 (fun a ha=>by cases ha;rw[zbO,←jId];exact s1) (fun ha=>by cases ha);refine⟨_,w',ρ,hrun,s2,?_,s3⟩;simp only[rel];exact⟨b,c,q,hr,rfl,hle,hcap,hfull⟩
     ·cases h
    ·rename_i hle;cases h;obtain⟨cap,rest,c1,c2,c3⟩:=zjw (w:=w) hT hu hs hb hz hzl hbs1 tys h0 h1 hd1 hd2 rt f2 (by omega) hb1 hb2 o1 g1;have ha:=hSd.alloc hSd.lt e .more (cs:=os++csd) (cs':=rest) (za5 o2 g3) (.inl rfl);have hcl:=zam g3;refine⟨_,_,_,c3,(Ext.drew M ρ w).trans (Ext.alloc M ρ w.drew _ (os++csd++rest).length),?_,ha⟩;simp only[rel];refine⟨w.heap.size,(os++csd++rest).length,cap,by rw[←hS.len,jRc];rfl,by simp,c1,fun q hq=>(by cases hq),fun _=>?_⟩;rw[jLa,jLa,hcl,hol,hol2,f4,c2,jKb,←jId,←jId];congr 1;omega
   ·split at h
    ·rename_i hcond;obtain⟨rfl,hwhole,hty⟩:=hcond;cases h;have hfq:=hfull rfl;have hcold:old=blk.cells:=by
      obtain⟨rfl,_⟩:=zdk hold;rw[hwhole];simp
     by_cases hle:len+k≤q
     ·obtain⟨w',s1,s2,s3⟩:=hS.extend (P:=P) hblk f3 hr (by rw[←hwhole,f4,←jId,←hfq,jKb];exact Nat.mul_le_mul_right _ hle) hnf;have hrun:=zel (w':=w') hT hu hs tys h0 h1 hd1 hd2 rt (base:=some ⟨b,0*z',none⟩) (len:=len) (c:=q) f2 hle f1 (fun a ha=>by cases ha;rw[zbO,hwhole,Nat.zero_mul,jKb];exact s1) (fun ha=>by cases ha);have hlt:n<H.length:=(jGa.1 (zbl hblk).1).1;have s4:=s3.rename (n:=n) (blk:={blk with cells:=blk.cells++new,kind:=.more}) (by rw[jFb hlt]) hr;rw[List.set_set]at s4;refine⟨_,w',ρ++[(b,c)],hrun,s2.trans (Ext.rename (b:=b) (c:=c) ⟨c,jIb hr⟩),?_,?_⟩
      ·simp only[rel];exact⟨b,c,q,by rw[←hS.len];simp,rfl,hle,fun x hx=>(by cases hx),fun _=>hfq⟩
      ·rw[hcold,←hty];exact s4
     ·obtain⟨cap,rest,c1,c2,c3⟩:=zjw (w:=w) hT hu hs hb hz hzl hbs1 tys h0 h1 hd1 hd2 rt f2 (by omega) hb1 hb2 o1 g1;have hSk:=hSd.kill n;have ha:=hSk.alloc hSk.lt e .more (cs:=os++csd) (cs':=rest) (za5 o2 g3) (.inl rfl);have hcl:=zam g3;refine⟨_,_,_,c3,(Ext.drew M ρ w).trans (Ext.alloc M ρ w.drew _ (os++csd++rest).length),?_,ha⟩;simp only[rel];refine⟨w.heap.size,(os++csd++rest).length,cap,by rw[←hS.len,jRc];rfl,by simp,c1,fun q hq=>(by cases hq),fun _=>?_⟩;rw[jLa,jLa,hcl,hol,hol2,f4,c2,jKb,←jId,←jId];congr 1;omega
    ·cases h
 ·cases h
end
open Go
section
variable {P:Program}{T:Tab}{M:Mem}{ρ:Ren}{w:World}{H:zaa}

theorem zeh {n:Nat}{blk:Blk}(h:zdL H n=some blk):H[n]? = some (some blk)∧blk.kind=.map:=by
 unfold zdL at h;split at h
 ·rename_i b hb;split at h
  ·rename_i hk;cases h;exact⟨hb,hk.1⟩
  ·cases h
 ·cases h
theorem zkw {n:Nat}{blk:Blk}(h:zdL H n=some blk):(zgX blk.cells).isNone=true:=by
 unfold zdL at h;split at h
 ·rename_i b hb;split at h
  ·rename_i hk;cases h;exact hk.2
  ·cases h
 ·cases h
theorem zn5 {d:Option TypeDesc}{k v:V}(hk:zcG d k=true):∀{l r:List V},(zgX l).isNone=true→zdE d k v l=some r→(zgX r).isNone=true:=by
 have hkk:∀r,(zgX (k::r)).isNone=true:=fun r=>by
  unfold zcG at hk;split at hk<;>first|rfl|cases hk
 intro l r h0 h;unfold zdE at h;split at h
 ·rename_i k' v' l';split at h
  ·cases h;exact hkk _
  ·split at h
   ·cases h;unfold zgX at h0 ⊢;cases k' with
    |tup q=>cases q<;>first|exact h0|rfl
    |_=>rfl
   ·cases h
  ·cases h
 ·cases h
 ·cases h;exact hkk _
theorem SR.map (hS:SR T M ρ H w){n:Nat}{blk:Blk}(hb:zdL H n=some blk):∃b c,∃(es:List MapEntry)(clock:Nat),ρ[n]? = some (b,c)∧M b=none∧w.heap[b]? = some (.map es.toArray clock)∧zeS M ρ blk.cells es∧zdh es clock:=by
 obtain⟨h1,h2⟩:=zeh hb;obtain⟨b,c,hr,hM,_,hok⟩:=hS.blk n blk h1;unfold zbQ at hok;rw[h2]at hok;rcases hok with⟨es,clock,h3,h4,_,h5⟩|⟨l,cs,cs',fr,h3,_⟩
 ·exact⟨b,c,es,clock,hr,hM,h3,h4,h5⟩
 ·have:=zkw hb;rw[h3]at this;cases this
theorem ze7 {kt:TypeId}{k:V}{x:Value}{d:TypeDesc}(hd:P.underlying kt=some d)(hx:rel M ρ k x)(h:zcG (some d) k=true)(e:Bool)(w:World):(Instr.checkKey e 10000 kt x).run P w=.ok () w:=by
 have key:∀n,(Instr.checkKey e (n+1) kt x).run P w=.ok () w:=by
  intro n;unfold zcG at h;split at h
  ·rename_i heq;cases heq;simp only[rel]at hx;subst hx;simp[Instr.checkKey,jQb hd]
  ·rename_i heq;cases heq;simp only[rel]at hx;subst hx;simp[Instr.checkKey,jQb hd]
  ·rename_i heq;cases heq;simp only[rel]at hx;subst hx;simp[Instr.checkKey,jQb hd]
  ·cases h
 exact key 9999
theorem zmq (a b:Bs):((⟨a.toArray⟩:ByteArray)==⟨b.toArray⟩)=(a==b):=by
 show(a.toArray==b.toArray)=(a==b);simp
theorem zem {d:TypeDesc}{k k':V}{x y:Value}{r:Bool}(hx:rel M ρ k x)(hy:rel M ρ k' y)(h:zd2 (some d) k k'=some r):Instr.sameNow d x y=some r∧(r=true→∀n,Instr.sameBits n y x=true):=by
 simp only[zd2,zfQ]at h;split at h
 ·rename_i heq;cases heq;cases h;simp only[rel]at hx hy;subst hx hy;refine⟨by simp[Instr.sameNow,zmq],fun he n=>?_⟩;simp at he;subst he;cases n<;>simp[Instr.sameBits,zmq]
 ·rename_i heq;cases heq;split at h
  ·rename_i hk;cases h;subst hk;simp only[rel]at hx hy;subst hx hy;refine⟨by simp[Instr.sameNow],fun he n=>?_⟩;simp at he;subst he;cases n<;>simp[Instr.sameBits]
  ·cases h
 ·rename_i heq;cases heq;cases h;simp only[rel]at hx hy;subst hx hy;refine⟨by simp[Instr.sameNow],fun he n=>?_⟩;simp at he;subst he;cases n<;>simp[Instr.sameBits]
 ·cases h
theorem zha {d:TypeDesc} {k:V} {x:Value} (hx:rel M ρ k x):∀{l:List V} {es:List MapEntry} {i:Nat} {r:Option V},zeS M ρ l es→zcX (some d) k l=some r →
    match r with
    |some v=>∃j y,Instr.findNow d x es i=some (some (j,y))∧rel M ρ v y
    |none=>Instr.findNow d x es i=some none
  | k' :: v'::l,es,i,r,hm,h=>by
    simp only[zeS]at hm
    obtain⟨e,q,rfl,hk,hv,hr⟩:=hm
    simp only[zcX]at h
    split at h
    · rename_i hs
      cases h
      obtain⟨h1,_⟩:=zem hx hk hs
      exact⟨i,e.val,by simp[Instr.findNow,h1],hv⟩
    · rename_i hs
      obtain⟨h1,_⟩:=zem hx hk hs
      have ih:=zha hx (i:=i+1) hr h
      cases r with
      |none=>simp only at ih ⊢;simp[Instr.findNow,h1,ih]
      | some v=>
        simp only at ih ⊢
        obtain⟨j,y,h2,h3⟩:=ih
        exact⟨j,y,by simp[Instr.findNow,h1,h2],h3⟩
    · cases h
  | [_],_,_,_,_,h=>by simp[zcX]at h
  | [],es,i,r,hm,h=>by
    simp only[zeS]at hm
    subst hm
    simp only[zcX,jNa]at h
    subst h
    simp[Instr.findNow]

theorem zkx {d:TypeDesc} {k v:V} {x y:Value} (hx:rel M ρ k x) (hy:rel M ρ v y):∀{l:List V} {es:List MapEntry} (i:Nat) {r:List V},zeS M ρ l es→zdE (some d) k v l=some r →
    (∃ j z,∃e0:MapEntry,Instr.findNow d x es i=some (some (i+j,z))∧es[j]? = some e0∧(∀n,Instr.sameBits n e0.key x=true)∧zeS M ρ r (es.modify j fun e=>{e with key:=x,val:=y})) ∨
      (Instr.findNow d x es i=some none∧∀b,zeS M ρ r (es++[{key:=x,val:=y,born:=b}]))
  | k' :: v' :: l,es,i,r,hm,h=>by
    simp only[zeS]at hm
    obtain⟨e,q,rfl,hk,hv,hr⟩:=hm
    simp only[zdE]at h
    split at h
    · rename_i hs
      cases h
      obtain⟨h1,h2⟩:=zem hx hk hs
      refine .inl ⟨0,e.val,e,by simp[Instr.findNow,h1],rfl,h2 rfl,?_⟩
      simp only[List.modify_zero_cons,zeS]
      exact⟨_,q,rfl,hx,hy,hr⟩
    · rename_i hs
      obtain⟨h1,_⟩:=zem hx hk hs
      split at h
      · rename_i r' hr'
        cases h
        rcases zkx hx hy (i+1) hr hr' with⟨j,z,e0,h2,h3,h4,h5⟩|⟨h2,h3⟩
        · refine .inl ⟨j+1,z,e0,?_,by simpa using h3,h4,?_⟩
          · simp only[Instr.findNow,h1,h2]
            congr 3
            omega
          · simp only[List.modify_succ_cons,zeS]
            exact⟨e,_,rfl,hk,hv,h5⟩
        · refine .inr ⟨by simp[Instr.findNow,h1,h2],fun b=>?_⟩
          simp only[jEa,zeS]
          exact⟨e,_,rfl,hk,hv,h3 b⟩
      · cases h
    · cases h
  | [_],_,_,_,_,h=>by simp[zdE]at h
  | [],es,i,r,hm,h=>by
    simp only[zeS]at hm
    subst hm
    simp only[zdE,jNa]at h
    subst h
    refine .inr ⟨by simp[Instr.findNow],fun b=>?_⟩
    simp only[jFa,zeS]
    exact⟨_,[],rfl,hx,hy,rfl⟩

theorem zeB (w:World)(b:Nat)(o:Obj)(k:Nat)(h:k≠b):({w with heap:=w.heap.setIfInBounds b o}:World).heap[k]? = w.heap[k]?:=by
 show(w.heap.setIfInBounds b o)[k]? = _;rw[Array.getElem?_setIfInBounds,if_neg (fun e=>h e.symm)]
theorem zja (w:World)(b:Nat)(o:Obj)(h:b<w.heap.size):({w with heap:=w.heap.setIfInBounds b o}:World).heap[b]? = some o:=by
 show(w.heap.setIfInBounds b o)[b]? = _;simp[h]
theorem zrg {es:List MapEntry}{clock:Nat}(h:zdh es clock)(j:Nat)(x y:Value):zdh (es.modify j fun e=>{e with key:=x,val:=y}) clock:=by
 have e:(es.modify j fun e=>{e with key:=x,val:=y}).map (·.born)=es.map (·.born):=by
  apply List.ext_getElem?;intro i;simp only[jUb,List.getElem?_modify];cases es[i]? with
  |none=>rfl
  |some e=>by_cases hj:j=i<;>simp[hj]
 refine⟨fun e' he'=>?_,by rw[e];exact h.2⟩;have:e'.born∈es.map (·.born):=by rw[←e];exact jHd he'
 obtain⟨e0,h1,h2⟩:=jZc.1 this;rw[←h2];exact h.1 e0 h1
theorem zos {es:List MapEntry}{clock:Nat}(h:zdh es clock)(x y:Value):zdh (es++[{key:=x,val:=y,born:=clock}]) (clock+1):=by
 refine⟨fun e he=>?_,?_⟩
 ·rcases jKd.1 he with he|he
  ·have:=h.1 e he;omega
  ·simp at he;subst he;show clock<clock+1;omega
 ·rw[jPd,List.nodup_append];refine⟨h.2,by simp,fun a ha b hb=>?_⟩;obtain⟨e0,h1,rfl⟩:=jZc.1 ha;simp at hb;subst hb;have:=h.1 e0 h1;omega
theorem zgS (hT:TOk P T)(hS:SR T M ρ H w){ty:TypeId}{m k v u:V}{H':zaa}{xm x y:Value}(hm:rel M ρ m xm)(hx:rel M ρ k x)(hy:rel M ρ v y)(h:zcV T ty m k v H=.val u H') :
 u=.un∧∃w',(Instr.mapUpdate ty xm x y).run P w=.ok () w'∧Ext M ρ w M ρ w'∧SR T M ρ H' w':=by
 unfold zcV at h;simp only[zcL]at h;split at h;case h_2=>cases h
 rename_i kt et n hu;split at h;case h_2=>cases h
 rename_i blk hblk;split at h;case isFalse=>cases h
 rename_i hgood;split at h;case h_2=>cases h
 rename_i l hl;cases h;refine⟨rfl,?_⟩;obtain⟨b,c,es,clock,hr,hMb,hheap,hrel,hst⟩:=hS.map hblk;simp only[rel]at hm;obtain⟨b',c',hr',rfl⟩:=hm;rw[hr]at hr';cases hr';have hlt:b<w.heap.size:=(Array.getElem?_eq_some_iff.1 hheap).1;cases hd:T.und kt with
 |none=>simp[hd,zcG]at hgood
 |some d=>
  rw[hd]at hgood hl;have hdP:=hT.und _ _ hd;have hck:=fun e w=>ze7 (P:=P) hdP hx hgood e w;have hget:(getObj b).run P w=.ok (.map es.toArray clock) w:=by simp[getObj,Sem.run,hheap]
  have hset:∀o,(setObj b o).run P w=.ok () {w with heap:=w.heap.setIfInBounds b o}:=fun o=>by simp[setObj,Sem.run,hheap]
  have hblk0:=(zeh hblk).1;have hstate:∀(es':List MapEntry)(clock':Nat),zeS M ρ l es'→zdh es' clock'→Ext M ρ w M ρ {w with heap:=w.heap.setIfInBounds b (.map es'.toArray clock')}∧SR T M ρ (H.set n (some {blk with cells:=l})) {w with heap:=w.heap.setIfInBounds b (.map es'.toArray clock')}:=by
   intro es' clock' hl' hst';refine⟨⟨rfl,rfl,rfl,by simp,Mem.le.refl _,jHb _,fun k _ hn=>zeB w b _ k (fun e=>hn c (by rw[e];exact jIb hr)),fun _ _ _=>rfl,fun _ q hq=>.inl ⟨q,hq⟩⟩,?_⟩;refine hS.upd hblk0 hr (fun k hk=>zeB w b _ k hk) (by simp) ?_;rw[zja w b _ hlt];unfold zbQ;simp only[(zeh hblk).2];exact .inl ⟨es',clock',rfl,hl',zn5 hgood (zkw hblk) hl,hst'⟩
  rcases zkx hx hy 0 hrel hl with⟨j,z,e0,h1,h2,h3,h4⟩|⟨h1,h2⟩
  ·obtain⟨s1,s2⟩:=hstate _ clock h4 (zrg hst j x y);refine⟨_,?_,s1,s2⟩;have hf:(Instr.findKey kt x es).run P w=.ok (some (0+j,z)) w:=by simp[Instr.findKey,jQb hdP,h1]
   have hk:(Instr.keyThatStays (((es.toArray[0+j]?).map (·.key)).getD x) x).run P w=.ok x w:=by
    have:es.toArray[0+j]? = some e0:=by simpa using h2
    rw[this];simp[Instr.keyThatStays,h3 10000]
   have hmod:es.toArray.modify (0+j) (fun e=>{e with key:=x,val:=y})=(es.modify j fun e=>{e with key:=x,val:=y}).toArray:=by simp
   simp only[Instr.mapUpdate,jHc,hT.run_und hu,jXb,hget,hck,hf,hk,hmod,hset]
  ·obtain⟨s1,s2⟩:=hstate _ (clock+1) (h2 clock) (zos hst x y);refine⟨_,?_,s1,s2⟩;have hf:(Instr.findKey kt x es).run P w=.ok none w:=by simp[Instr.findKey,jQb hdP,h1]
   have hpush:es.toArray.push ({key:=x,val:=y,born:=clock}:MapEntry)=(es++[({key:=x,val:=y,born:=clock}:MapEntry)]).toArray:=by simp
   simp only[Instr.mapUpdate,jHc,hT.run_und hu,jXb,hget,hck,hf,hpush,hset]
theorem zlv (hT:TOk P T)(hS:SR T M ρ H w){ty:TypeId}{m k v:V}{ok:Bool}{xm x:Value}(hm:rel M ρ m xm)(hx:rel M ρ k x)(h:zbm T ty m k ok H=some v) :
 ∃y,(Instr.lookup ty xm x ok).run P w=.ok y w∧rel M ρ v y:=by
 unfold zbm at h;split at h;case h_2=>cases h
 rename_i kt et n hu;split at h;case h_2=>cases h
 rename_i blk hblk;split at h;case isFalse=>cases h
 rename_i hgood;obtain⟨b,c,es,clock,hr,hMb,hheap,hrel,hst⟩:=hS.map hblk;simp only[rel]at hm;obtain⟨b',c',hr',rfl⟩:=hm;rw[hr]at hr';cases hr';have htup:∀{u:V}{y:Value}(q:Bool),rel M ρ u y→rel M ρ (if ok then .tup [u,.b q]else u) (if ok then .tuple #[y,.bool q]else y):=by
  intro u y q hy;cases ok with
  |false=>exact hy
  |true=>
   simp only[if_true,rel];exact⟨[y,.bool q],rfl,zaw hy (zaw (by simp[rel]) zdy)⟩
 cases hd:T.und kt with
 |none=>simp[hd,zcG]at hgood
 |some d=>
  rw[hd]at hgood h;have hdP:=hT.und _ _ hd;have hck:=fun e w=>ze7 (P:=P) hdP hx hgood e w;have hget:(getObj b).run P w=.ok (.map es.toArray clock) w:=by simp[getObj,Sem.run,hheap]
  split at h
  ·rename_i u hu2;cases h;obtain⟨j,y,h1,h2⟩:=zha hx (i:=0) hrel hu2;have hf:(Instr.findKey kt x es.toArray.toList).run P w=.ok (some (j,y)) w:=by simp[Instr.findKey,jQb hdP,h1]
   refine⟨_,?_,htup true h2⟩;simp only[Instr.lookup,jHc,hT.run_und hu,jXb,hget,jGd,hck,hf]
  ·rename_i hu2;have h1:Instr.findNow d x es 0=some none:=zha hx (i:=0) hrel hu2;have hf:(Instr.findKey kt x es.toArray.toList).run P w=.ok none w:=by simp[Instr.findKey,jQb hdP,h1]
   split at h
   ·rename_i z hz;cases h;obtain⟨zv,hzv,hzr⟩:=hT.run_zero hz;refine⟨_,?_,htup false (zb4 hzv)⟩;simp only[Instr.lookup,jHc,hT.run_und hu,jXb,hget,jGd,hck,hf,hzr]
   ·cases h
  ·cases h
end
open Go
section
variable {P:Program}{T:Tab}{M:Mem}{ρ:Ren}{w:World}{H:zaa}

theorem zgp {b:Nat}{cs:Array Value}{ty:TypeId}{fr:Nat×Nat}(h:w.heap[b]? = some (.cells cs ty fr)):(shape b).run P w=.ok (some (ty,cs.size)) w:=by
 simp[shape,Sem.run,World.shape?,h]
theorem zkQ {b o:Nat}{cs:Array Value}{ty:TypeId}{fr:Nat×Nat}(h:w.heap[b]? = some (.cells cs ty fr)):(Conv.seenAt ⟨b,o,none⟩).run P w=.ok ⟨b,o,none⟩ w:=by
 have hs:=zgp (P:=P) h;have hv:(viewAt b).run P w=.ok none w:=by simp[viewAt,hs]
 simp[Conv.seenAt,hv]
theorem znR (hT:TOk P T)(hS:SR T M ρ H w){src dst:TypeId}{p v:V}{x:Value}(hx:rel M ρ p x)(h:zdn T H src dst p=some v):∃y,(convert src dst x).run P w=.ok y w∧rel M ρ v y:=by
 unfold zdn at h;split at h
 ·rename_i e n off hs hd;split at h
  ·rename_i blk s hb hsz;split at h
   ·rename_i hc;cases h;have hx0:=hx;simp only[rel]at hx;obtain⟨b,c,hr,rfl⟩:=hx;obtain⟨b',c',cs,cs',hr',_,_,hheap,hrel,_⟩:=hS.cells hb;rw[hr]at hr';cases hr';refine⟨_,?_,hx0⟩;have hsh:=zgp (P:=P) hheap;have hin:(cellsIn b).run P w=.ok (some (cs++cs').toArray.size) w:=by simp[cellsIn,hsh]
    have hlt:¬((cs++cs').toArray.size≤off):=by
     have:=zam hrel;simp only[List.size_toArray,jLa];omega
    simp only[List.size_toArray,jLa]at hin hlt;simp[convert,hT.run_und hs,hT.run_und hd,Conv.unsafePointer,zkQ (P:=P) hheap,hin,hlt,hT.run_size hsz,hc.1]
   ·cases h
  ·cases h
 ·rename_i u n off hs hd;split at h
  ·rename_i blk s hb hsz;split at h
   ·rename_i hc;obtain⟨hs0,hall,hl⟩:=hc;cases h;have hx0:=hx;simp only[rel]at hx;obtain⟨b,c,hr,rfl⟩:=hx;obtain⟨b',c',cs,cs',hr',_,_,hheap,hrel,hk⟩:=hS.cells hb;rw[hr]at hr';cases hr';obtain rfl:=hk hall;rw[jWb]at hheap;refine⟨_,?_,hx0⟩;have hsh:=zgp (P:=P) hheap;have hlies:=hT.lies _ _ _ _ hl;rw[←zam hrel]at hlies;have hva:(variablesAt ⟨b,off,none⟩ u 1).run P w=.ok true w:=by
     have hp:program.run P w=.ok P w:=by simp[program,Sem.run]
     have hlies':liesAt P P.depth blk.ty (cs.toArray.size/P.cellsOf blk.ty) off u 1=true:=by simpa using hlies
     simp only[variablesAt,jHc,hp,jXb,hsh,jGd,hlies']
    simp[convert,hT.run_und hs,hT.run_und hd,Conv.unsafePointer,zkQ (P:=P) hheap,hva,hT.run_size hsz]
   ·cases h
  ·cases h
 ·obtain⟨y,hy,hr⟩:=zpI hT hx h;exact⟨y,hy w,hr⟩
theorem zhJ {p v:V}{x:Value}(hx:rel M ρ p x)(h:zdp p=some v)(tys:Array TypeId)(rt:TypeId):∃y,(∀w,(Builtin.unsafeSliceData_ tys rt #[x]).run P w=.ok y w)∧rel M ρ v y:=by
 unfold zdp at h;split at h
 ·cases h;simp only[rel]at hx;subst hx;exact⟨.pointer none,fun w=>rfl,by simp[rel]⟩
 ·rename_i n sz off len cap;split at h
  ·rename_i hl;cases h;simp only[rel]at hx;obtain⟨b,c,k,hr,rfl,hlk,_⟩:=hx;have:¬k=0:=by omega
   refine⟨.pointer (some ⟨b,off*sz,none⟩),fun w=>?_,by simp only[rel];exact⟨b,c,hr,rfl⟩⟩;show(if k≠0 then(Pure.pure (.pointer (some ⟨b,off*sz,none⟩)):Sem Value)else _).run P w=_;rw[if_pos this];rfl
  ·cases h
 ·cases h
theorem zfi {b:Nat}:∀(r:Bs) (o:Nat) (acc:ByteArray) (cs:List Value),cs.length=r.length→(∀(j:Nat) (x:Value),cs[j]? = some x→w.cell? ⟨b,o+j,none⟩=some x∧∃n:Int,x=.int .u8 n∧r[j]? = some n.toNat.toUInt8) →
    (loadBytes ⟨b,o,none⟩ acc r.length).run P w=.ok ⟨acc.data++r.toArray⟩ w
  | [],o,acc,cs,_,_=>by simp[loadBytes]
  |c::r,o,acc,[],hl,_=>by simp at hl
  | c :: r,o,acc,x::cs,hl,h=>by
    obtain⟨h1,n,rfl,h2⟩:=h 0 _ rfl
    simp only[jNd]at h1
    simp at h2
    have ih:=zfi r (o+1) (acc.push c) cs (by simpa using hl) (fun j y hj=>by
      have:=h (j+1) y (by simpa using hj)
      rw[show o+(j+1)=o+1+j from by omega]at this
      simpa using this)
    simp only[loadBytes,jIa,zbO,load]
    simp only[jHc]
    have hl1:(Sem.load Mode.plain ⟨b,o,none⟩ Sem.pure).run P w=.ok (.int .u8 n) w:=by simp[Sem.run,h1]
    rw[hl1]
    simp only[jXb]
    rw[show n.toNat.toUInt8=c from h2.symm,ih]
    congr 2
    simp[ByteArray.push]

theorem zj2:∀{l:List V}{r:Bs}{cs:List Value},zct l=some r→relL M ρ l cs→cs.length=r.length∧∀(j:Nat)(x:Value),cs[j]? = some x→∃n:Int,x=.int .u8 n∧r[j]? = some n.toNat.toUInt8
 | [],r,cs,h,hr=>by
  simp only[zct,jNa]at h;subst h;simp only[relL]at hr;subst hr;simp
 |v::l,r,cs,h,hr=>by
  unfold zct at h;split at h
  ·rename_i heq;cases heq
  ·rename_i n l' heq;cases heq;split at h
   ·rename_i r' hr';cases h;simp only[relL]at hr;obtain⟨x,q,rfl,hx,hq⟩:=hr;simp only[rel]at hx;subst hx;obtain⟨h1,h2⟩:=zj2 hr' hq;refine⟨by simp[h1],fun j x hj=>?_⟩;cases j with
    |zero=>simp at hj;subst hj;exact⟨n,rfl,rfl⟩
    |succ j=>exact h2 j x (by simpa using hj)
   ·cases h
  ·cases h
theorem zdH (hT:TOk P T){pt e:TypeId}(hpt:T.und pt=some (.pointer e))(hsz:T.size e=some 1){b off:Nat}{cs cs':List Value}{ty:TypeId}{fr:Nat×Nat}(hheap:w.heap[b]? = some (.cells (cs++cs').toArray ty fr))(hty:ty=e){l l0:List V}(hrel:relL M ρ l0 cs)
 {m:Int}{k:IntKind}(hm:0<m∧m≤1099511627776)(hl:cut l0 off m.toNat=some l){r:Bs}(hbytes:zct l=some r)(tys:Array TypeId)(h0:tys[0]? = some pt)(rt:TypeId) :
 (Builtin.unsafeString_ tys rt #[.pointer (some ⟨b,off,none⟩),.int k m]).run P w=.ok (.string ⟨r.toArray⟩) (w.freeze ⟨b,off,none⟩ m.toNat):=by
 have hm0:¬m=0:=by omega
 have hm':zhD M ρ w b off l:=fun j u hj=>by
  obtain⟨z,hz,hzr⟩:=za2 hrel (zli hl hj);refine⟨z,?_,hzr⟩;rw[zck hheap,jQa (jGa.1 hz).1];exact hz
 obtain⟨ds,hds,hcell⟩:=hm'.vals;obtain⟨q1,q2⟩:=zj2 hbytes hds;have hll:=zc6 hl;have hrl:r.length=m.toNat:=by rw[←q1,zam hds,hll]
 have hload:=zfi (P:=P) (w:=w) (b:=b) r off .empty ds q1 (fun j x hj=>⟨hcell j x hj,q2 j x hj⟩);rw[hrl]at hload;have hsh:=zgp (P:=P) hheap;have hcells:P.cellsOf e=1:=by
  obtain⟨i,hi,h1⟩:=hT.size _ _ hsz;simp[Program.cellsOf,hi,h1]
 have hlen:off+m.toNat≤(cs++cs').length:=by
  have:=(zdk hl).2;have h2:=zam hrel;simp only[jLa];omega
 have hlen':=hlen;simp only[jLa]at hlen';have hlies:liesAt P P.depth e ((cs++cs').length/1) off e m.toNat=true:=by
  have hrow:∀(fits:TypeId→Bool),fits e=true→rowAt P fits P.depth e ((cs++cs').length/1) off m.toNat=true:=by
   intro fits hf;show rowAt P fits ((2*(P.types.size+Made.depth)+1)+1) e _ off _=true;simp only[rowAt,hcells,Nat.div_one,Nat.mod_one,hf];simp;omega
  show liesAt P ((2*(P.types.size+Made.depth)+1)+1) e _ off e _=true;simp only[liesAt];rw[hrow (fun t=>sameLayout P P.depth t e) (by show sameLayout P ((2*(P.types.size+Made.depth)+1)+1) e e=true;simp[sameLayout])];simp
 have hva:(variablesAt ⟨b,off,none⟩ e m.toNat).run P w=.ok true w:=by
  have hp:program.run P w=.ok P w:=by simp[program,Sem.run]
  have hl4:liesAt P P.depth ty ((cs++cs').toArray.size/P.cellsOf ty) off e m.toNat=true:=by rw[hty,hcells];simpa using hlies
  simp only[variablesAt,jHc,hp,jXb,hsh,jGd,hl4]
 have hel:(elemOf pt).run P w=.ok e w:=by simp[elemOf,hT.run_und hpt]
 have h1:¬m<0:=by omega
 have h2:¬9223372036854775807<m:=by omega
 have h3:(⟨ByteArray.empty.data++r.toArray⟩:ByteArray)=⟨r.toArray⟩:=by
  congr 1;show #[]++r.toArray=r.toArray;simp
 rw[h3]at hload;change (asInt (.int k m) >>= _:Sem Value).run P w=_;simp[asInt,asIntOf,h0,h1,h2,hm0,hel,hva,hload,freeze,Sem.run]
theorem zkn (hS:SR T M ρ H w){n:Nat}{blk blk':Blk}(hb:H[n]? = some (some blk)){b c off:Nat}(hr:ρ[n]? = some (b,c)){cs cs':List Value}{fr:Nat×Nat}(hlen:(cs++cs').length=c)(hheap:w.heap[b]? = some (.cells (cs++cs').toArray blk'.ty fr)){l0:List V}(hrel:relL M ρ l0 cs)(hk:blk'.kind=.map)(hf:zgX blk'.cells=some l0){m:Nat}(hm:m≠0) :
 Ext M ρ w M ρ (w.freeze ⟨b,off,none⟩ m)∧SR T M ρ (H.set n (some blk')) (w.freeze ⟨b,off,none⟩ m):=by
 have hother:∀k,k≠b→(w.freeze ⟨b,off,none⟩ m).heap[k]? = w.heap[k]?:=by
  intro k hk;simp only[World.freeze,if_neg hm];rw[Array.getElem?_modify,if_neg (fun e=>hk e.symm)]
 refine⟨?_,?_⟩
 ·refine⟨?_,?_,?_,?_,Mem.le.refl _,jHb _,fun k hk hn=>hother k (fun e=>hn c (by rw[e];exact jIb hr)),fun _ _ _=>rfl,fun _ q hq=>.inl ⟨q,hq⟩⟩<;>simp only[World.freeze,if_neg hm];simp
 ·have hsz2:(w.freeze ⟨b,off,none⟩ m).heap.size=w.heap.size:=by simp only[World.freeze,if_neg hm];simp
  refine hS.upd hb hr hother hsz2 ?_;unfold zbQ;rw[hk];obtain⟨fr',hfr⟩:∃fr',(w.freeze ⟨b,off,none⟩ m).heap[b]? = some (.cells (cs++cs').toArray blk'.ty fr'):=by
   simp only[World.freeze,if_neg hm];rw[Array.getElem?_modify,if_pos rfl,hheap];exact⟨_,rfl⟩
  exact .inr ⟨l0,cs,cs',fr',hf,hlen,hfr,hrel⟩
theorem zh3 {n:Nat}{blk:Blk}(h:zi6 H n=some blk):∃blk0:Blk,H[n]? = some (some blk0)∧blk0.kind=.map∧zgX blk0.cells=some blk.cells∧blk.ty=blk0.ty:=by
 unfold zi6 at h;split at h
 ·rename_i b hb;split at h
  ·rename_i hk;split at h
   ·rename_i l hl;cases h;exact⟨b,hb,hk,hl,rfl⟩
   ·cases h
  ·cases h
 ·cases h
theorem zfw (hT:TOk P T)(hS:SR T M ρ H w){pt:TypeId}{p len v:V}{H':zaa}{x y:Value}(hx:rel M ρ p x)(hy:rel M ρ len y)(h:zaL T pt p len H=.val v H')(tys:Array TypeId)(h0:tys[0]? = some pt)(rt:TypeId) :
 zjV P T (Builtin.unsafeString_ tys rt #[x,y]) M ρ w v H':=by
 unfold zaL at h;simp only[setK_eq]at h;split at h
 ·cases h;simp only[rel]at hx hy;subst hx hy;refine zjV.pure hS (x:=.string ⟨#[]⟩) ?_ (by simp[rel]);change (asInt _ >>= _:Sem Value).run P w=_;simp[asInt,asIntOf,h0];rfl
 ·rename_i n off k m;simp only[rel]at hx hy;subst hy;obtain⟨b,c,hr,rfl⟩:=hx;split at h
  ·rename_i hm;cases h;subst hm;refine zjV.pure hS (x:=.string ⟨#[]⟩) ?_ (by simp[rel]);change (asInt _ >>= _:Sem Value).run P w=_;simp[asInt,asIntOf,h0];rfl
  ·rename_i hm0;split at h;case isFalse=>cases h
   rename_i hm;have hn0:m.toNat≠0:=by omega
   split at h
   ·rename_i e blk hpt hb;split at h;case isFalse=>cases h
    rename_i hc;obtain⟨hty,hsz⟩:=hc;split at h;case h_2=>cases h
    rename_i l hl;split at h;case h_2=>cases h
    rename_i r hbytes;cases h;obtain⟨b',c',cs,cs',hr',hMb,hlen,hheap,hrel,_⟩:=hS.cells hb;rw[hr]at hr';cases hr';obtain⟨k1,k2⟩:=zkn (off:=off) (blk':={ty:=blk.ty,cells:=.tup []::blk.cells,kind:=.map}) hS (zbl hb).1 hr hlen hheap hrel rfl rfl hn0;exact⟨.string ⟨r.toArray⟩,_,ρ,zdH hT hpt hsz hheap hty hrel hm hl hbytes tys h0 rt,k1,by simp[rel],k2⟩
   ·rename_i e hpt hb;split at h;case h_2=>cases h
    rename_i blk hfz;split at h;case isFalse=>cases h
    rename_i hc;obtain⟨hty,hsz⟩:=hc;split at h;case h_2=>cases h
    rename_i l hl;split at h;case h_2=>cases h
    rename_i r hbytes;cases h;obtain⟨blk0,g1,g2,g3,g4⟩:=zh3 hfz;obtain⟨b',c',hr',hMb,_,hok⟩:=hS.blk n blk0 g1;rw[hr]at hr';cases hr';unfold zbQ at hok;rw[g2]at hok;have hnm:∃(cs cs':List Value)(fr:Nat×Nat),(cs++cs').length=c∧w.heap[b]? = some (.cells (cs++cs').toArray blk0.ty fr)∧relL M ρ blk.cells cs:=by
     rcases hok with⟨es,clock,_,_,hrm,_⟩|⟨l',cs,cs',fr,h1,h2,h3,h4⟩
     ·rw[g3]at hrm;cases hrm
     ·rw[g3]at h1;cases h1;exact⟨cs,cs',fr,h2,h3,h4⟩
    obtain⟨cs,cs',fr,hlen,hheap,hrel⟩:=hnm;obtain⟨k1,k2⟩:=zkn (off:=off) (blk':=blk0) hS g1 hr hlen hheap hrel g2 g3 hn0;rw[show H.set n (some blk0)=H from by
     obtain⟨q1,q2⟩:=jGa.1 g1;rw[←q2,List.set_getElem_self]]at k2
    exact⟨.string ⟨r.toArray⟩,_,ρ,zdH hT hpt hsz hheap (g4.symm.trans hty) hrel hm hl hbytes tys h0 rt,k1,by simp[rel],k2⟩
   ·cases h
 ·cases h
theorem zdA (s:ByteArray):∀(zbK i:Nat)(acc:Array Value),(∀v∈acc.toList,∃n,v=.int .i32 n)→∀v∈(Conv.runesFrom s zbK i acc).toList,∃n,v=.int .i32 n
 |0,_,acc,h=>by simpa[Conv.runesFrom]using h
 |zbK+1,i,acc,h=>by
  unfold Conv.runesFrom;split
  ·refine zdA s zbK _ _ fun v hv=>?_;simp only[Array.toList_push,jKd,List.mem_singleton]at hv;rcases hv with hv|rfl
   ·exact h v hv
   ·exact⟨_,rfl⟩
  ·exact h
theorem zii {M:Mem}{ρ:Ren}:∀{l:List Value},(∀v∈l,∃n,v=.int .i32 n)→relL M ρ (l.map fun v=>match v with
 | .int k n=>.i k n
 |_=>.tup []) l
 | [],_=>rfl
 |v::l,h=>by
  obtain⟨n,rfl⟩:=h v (by simp);exact⟨_,l,rfl,rfl,zii fun v hv=>h v (by simp[hv])⟩
theorem zoh {M:Mem}{ρ:Ren}(l:Bs):relL M ρ (zb8 l) (Conv.runesFrom ⟨l.toArray⟩ l.length 0 #[]).toList:=
 zii (zdA _ _ _ _ (by simp))
theorem zir {M:Mem}{ρ:Ren}:∀{l:List V}{ns:List Int}{cs:List Value},ziq l=some ns→relL M ρ l cs→cs=ns.map (Value.int .i32)
 | [],ns,cs,h,hr=>by
  simp only[ziq,jNa]at h;subst h;simpa[relL]using hr
 |v::l,ns,cs,h,hr=>by
  unfold ziq at h;split at h
  ·contradiction
  ·rename_i n l' he;cases he;split at h
   ·rename_i r hr';cases h;obtain⟨x,r',rfl,hx,hl⟩:=hr;simp only[rel]at hx;subst hx;rw[zir hr' hl];rfl
   ·cases h
  ·cases h
theorem zgA {M:Mem}{ρ:Ren}:∀{l:List V}{r:Bs}{cs:List Value},zct l=some r→relL M ρ l cs→∃ns:List Int,cs=ns.map (Value.int .u8)∧r=ns.map fun n=>UInt8.ofNat n.toNat
 | [],r,cs,h,hr=>by
  simp only[zct,jNa]at h;subst h;simp only[relL]at hr;subst hr;exact⟨[],rfl,rfl⟩
 |v::l,r,cs,h,hr=>by
  unfold zct at h;split at h
  ·contradiction
  ·rename_i n l' he;cases he;split at h
   ·rename_i r' hr';cases h;obtain⟨x,q,rfl,hx,hl⟩:=hr;simp only[rel]at hx;subst hx;obtain⟨ns,rfl,rfl⟩:=zgA hr' hl;exact⟨n::ns,rfl,rfl⟩
   ·cases h
  ·cases h
theorem zkB:∀(ns:List Int)(b:ByteArray),ns.foldl (fun r n=>r.push (UInt8.ofNat n.toNat)) b=⟨b.data++(ns.map fun n=>UInt8.ofNat n.toNat).toArray⟩
 | [],b=>by simp
 |n::ns,b=>by
  rw[List.foldl_cons,zkB ns];apply ByteArray.ext;simp[ByteArray.push]
theorem zsx {r:Option V}{H H':zaa}{v:V}(h:lift r H=.val v H'):r=some v∧H'=H:=by
 cases r with
 |none=>cases h
 |some u=>cases h;exact⟨rfl,rfl⟩
theorem zlI {r:Option V}{H H':zaa}{v:V}(h:lift r H=.pan v H'):False:=by
 cases r<;>cases h
theorem zhS {M:Mem}{ρ:Ren}:∀l:Bs,relL M ρ (l.map (fun c=>V.i .u8 c.toNat)) (l.map fun c=>Value.int .u8 c.toNat)
 | []=>by simp only[List.map_nil,relL]
 |c::l=>by
  simp only[jJb];exact zaw (by simp only[rel]) (zhS l)
theorem znS (hT:TOk P T)(hS:SR T M ρ H w){src dst:TypeId}{p v:V}{x:Value}{H':zaa}(hx:rel M ρ p x)(h:zaT T src dst p H=.val v H'):zjV P T (convert src dst x) M ρ w v H':=by
 unfold zaT at h;split at h
 ·rename_i e l hs hd;split at h
  ·rename_i he;split at h
   ·rename_i hc;rw[zaX]at h;cases h;simp only[rel]at hx;subst hx;have hrun:=run_bytes_of_string w src dst e ⟨l.toArray⟩ (hT.und _ _ hs) (hT.und _ _ hd) (hT.und _ _ he);have hbs:(⟨l.toArray⟩:ByteArray).size=l.length:=by simp[ByteArray.size]
    rw[hbs]at hrun;have hge:=grownCap_ge w l.length 0 e;have hSd:SR T M ρ H w.drew:=hS.drew;have hrl:relL M ρ (l.map (fun c=>V.i .u8 c.toNat)) (l.map fun c=>Value.int .u8 c.toNat):=zhS l;have ha:=hSd.allocB hSd.lt (.cells (bytesRow ⟨l.toArray⟩ (grownCap w l.length 0 e)) e ((bytesRow ⟨l.toArray⟩ (grownCap w l.length 0 e)).size,(bytesRow ⟨l.toArray⟩ (grownCap w l.length 0 e)).size+1)) {ty:=e,cells:=.tup []::l.map (fun c=>.i .u8 c.toNat),kind:=.map} (grownCap w l.length 0 e) (by
     unfold zbQ;simp only;refine .inr ⟨l.map (fun c=>.i .u8 c.toNat),l.map (fun c=>Value.int .u8 c.toNat),List.replicate (grownCap w l.length 0 e-l.length) (.int .u8 0),((bytesRow ⟨l.toArray⟩ (grownCap w l.length 0 e)).size,(bytesRow ⟨l.toArray⟩ (grownCap w l.length 0 e)).size+1),rfl,by simp;omega,?_,hrl⟩;congr 2;unfold bytesRow;apply jWc;simp[hbs])
    refine⟨_,_,_,hrun,(Ext.drew M ρ w).trans (Ext.alloc M ρ w.drew _ _),?_,ha⟩;simp only[rel];exact⟨w.heap.size,_,grownCap w l.length 0 e,by rw[←hS.len,jRc];rfl,by simp,hge,fun q hq=>(by cases hq),fun _=>by simp⟩
   ·cases h
  ·rename_i he;split at h
   ·rename_i hc;rw[zaX]at h;cases h;simp only[rel]at hx;subst hx;have hsz:=size_runesFrom ⟨l.toArray⟩ l.length 0 #[];simp only[List.size_toArray,jVa,jKb]at hsz;have hrun:=run_runes_of_string w src dst e ⟨l.toArray⟩ (hT.und _ _ hs) (hT.und _ _ hd) (hT.und _ _ he) (by
     have:(⟨l.toArray⟩:ByteArray).size=l.length:=by simp[ByteArray.size]
     rw[this];have h0:(#[]:Array Value).size=0:=rfl;omega)
    have hbs:(⟨l.toArray⟩:ByteArray).size=l.length:=by simp[ByteArray.size]
    rw[hbs]at hrun;generalize hel:Conv.runesFrom ⟨l.toArray⟩ l.length 0 #[]=els at hrun;have hrl:relL M ρ (zb8 l) els.toList:=by rw[←hel];exact zoh l
    have hge:=grownCap_ge w els.size 0 e;have hSd:SR T M ρ H w.drew:=hS.drew;have ha:=hSd.alloc hSd.lt e .more (cs':=List.replicate (grownCap w els.size 0 e-els.size) (.int .i32 0)) hrl (.inl rfl);have hcells:(els.toList++List.replicate (grownCap w els.size 0 e-els.size) (Value.int .i32 0)).toArray=els++Array.replicate (grownCap w els.size 0 e-els.size) (.int .i32 0):=by
     apply jWc;simp
    rw[hcells]at ha;refine⟨_,_,_,hrun,(Ext.drew M ρ w).trans (Ext.alloc M ρ w.drew _ _),?_,ha⟩;have hrl2:=zam hrl;simp only[rel];have hlen:(zb8 l).length=els.size:=by rw[←hrl2];simp
    refine⟨w.heap.size,_,grownCap w els.size 0 e,by rw[←hS.len,jRc];rfl,by rw[hlen],by rw[hlen];exact hge,fun q hq=>(by cases hq),fun _=>?_⟩;simp;omega
   ·cases h
  ·cases h
 ·rename_i e n sz off len cap hs hd;split at h
  ·rename_i blk he hblk;split at h
   ·rename_i hsz;subst hsz;split at h
    ·rename_i cs hcut;split at h
     ·rename_i ns hns;cases h;obtain⟨ds,f1,f2⟩:=zcq (P:=P) hS (sz:=1) hx hblk (by simpa using hcut);have hm:=zir hns f2;subst hm;simp only[rel]at hx;obtain⟨b,c,k,hr,rfl,_⟩:=hx;have hload:(loadCells ⟨b,off*1,none⟩ len).run P w=.ok (ns.map (Value.int .i32)).toArray w:=by
       simpa[Builtin.firstCells]using f1
      refine zjV.pure hS (x:=.string (runesBytes ns)) ?_ (by simp[rel,zdG,runesBytes]);rw[run_convert_runes_string w src dst e _ _ _ (hT.und _ _ hs) (hT.und _ _ he) (hT.und _ _ hd)];exact run_runesToString w _ _ _ ns hload
     ·cases h
    ·cases h
   ·cases h
  ·rename_i blk he hblk;split at h
   ·rename_i hsz;subst hsz;split at h
    ·rename_i cs hcut;split at h
     ·rename_i r hr;cases h;obtain⟨ds,f1,f2⟩:=zcq (P:=P) hS (sz:=1) hx hblk (by simpa using hcut);obtain⟨ns,hm,hrb⟩:=zgA hr f2;subst hm;simp only[rel]at hx;obtain⟨b,c,k,hr,rfl,_⟩:=hx;have hload:(loadCells ⟨b,off*1,none⟩ len).run P w=.ok (ns.map (Value.int .u8)).toArray w:=by
       simpa[Builtin.firstCells]using f1
      refine zjV.pure hS (x:=.string (ns.foldl (fun r n=>r.push (UInt8.ofNat n.toNat)) ByteArray.empty)) ?_ ?_
      ·rw[run_convert_bytes_string w src dst e _ _ _ (hT.und _ _ hs) (hT.und _ _ he) (hT.und _ _ hd)];exact run_bytesToString w _ _ _ ns hload
      ·simp only[rel];rw[zkB,hrb];congr 2;show #[]++_=_;simp
     ·cases h
    ·cases h
   ·cases h
  ·cases h
 ·obtain⟨h1,rfl⟩:=zsx h;obtain⟨y,hy,hr⟩:=znR hT hS hx h1;exact zjV.pure hS hy hr
theorem zhF {src dst:TypeId}{p v:V}{H':zaa}:zaT T src dst p H≠.pan v H':=by
 intro h;unfold zaT at h;simp only[zaX]at h;repeat' (split at h)
 all_goals first
  |cases h
  |exact zlI h
end
open Go
section
variable {P:Program}{T:Tab}{M:Mem}{ρ:Ren}{H:zaa}{w:World}
theorem zre (hS:SR T M ρ H w){m:Nat}{cs:List V}(h:zjJ H m=some cs){b c:Nat}(hr:ρ[m]? = some (b,c)) :
 ∃(ds rest:List Value)(ty:TypeId)(fr:Nat×Nat),w.heap[b]? = some (.cells (ds++rest).toArray ty fr)∧relL M ρ cs ds:=by
 unfold zjJ at h;split at h
 ·rename_i blk hb;cases h;obtain⟨b',c',ds,rest,hr',_,_,hheap,hrel,_⟩:=hS.cells hb;rw[hr]at hr';cases hr';exact⟨ds,rest,_,_,hheap,hrel⟩
 ·rw[Option.map_eq_some_iff]at h;obtain⟨blk,hfz,rfl⟩:=h;obtain⟨blk0,g1,g2,g3,g4⟩:=zh3 hfz;obtain⟨b',c',hr',hMb,_,hok⟩:=hS.blk m blk0 g1;rw[hr]at hr';cases hr';unfold zbQ at hok;rw[g2]at hok;rcases hok with⟨es,clock,_,_,hrm,_⟩|⟨l',ds,rest,fr,h1,h2,h3,h4⟩
  ·rw[g3]at hrm;cases hrm
  ·rw[g3]at h1;cases h1;exact⟨ds,rest,_,_,h3,h4⟩
theorem zi0 {ty:TypeId}{d s v:V}{H':zaa}:zdD T ty d s H≠.pan v H':=by
 intro h;unfold zdD at h;simp only[zcL]at h;repeat' (split at h)
 all_goals cases h
theorem zpJ (hT:TOk P T)(hS:SR T M ρ H w){ty:TypeId}{d s v:V}{H':zaa}{x y:Value}(hx:rel M ρ d x)(hy:rel M ρ s y)(h:zdD T ty d s H=.val v H')(tys:Array TypeId)(h0:tys[0]? = some ty)(rt:TypeId) :
 zjV P T (Builtin.copy_ tys rt #[x,y]) M ρ w v H':=by
 unfold zdD at h;simp only[zcL]at h;split at h;case h_2=>cases h
 rename_i e n sz off len cap m sz2 off2 len2 cap2 hu;split at h;case h_2=>cases h
 rename_i blk cs hblk hsrc;split at h;case h_2=>cases h
 rename_i new hcut;split at h;case isFalse=>cases h
 rename_i hc;obtain⟨rfl,rfl,hsz,hnf,hfit⟩:=hc;cases h;have hx0:=hx;simp only[rel]at hx hy;obtain⟨b,c,k,hr,rfl,hlk,_⟩:=hx;obtain⟨b2,c2,k2,hr2,rfl,hlk2,_⟩:=hy;obtain⟨ds,rest,ty2,fr,hheap,hrel⟩:=zre hS hsrc hr2;have hcl:=zc6 hcut;obtain⟨hce,hcb⟩:=zdk hcut;have hdl:=zam hrel;have hnew:relL M ρ new ((ds.drop off2).take (Nat.min len2 len)):=by
  rw[hce];exact zdd _ (zdc _ hrel)
 have hnl:=zam hnew;have hload:(loadCells ⟨b2,off2*1,none⟩ (Nat.min len2 len)).run P w=.ok ((ds.drop off2).take (Nat.min len2 len)).toArray w:=by
  have:=run_loadCells_list (P:=P) w ⟨b2,off2*1,none⟩ ((ds.drop off2).take (Nat.min len2 len)) (fun j v hj=>by
   have hj2:j<Nat.min len2 len:=by
    have:=(jGa.1 hj).1;rw[jSb]at this;exact Nat.lt_of_lt_of_le this (Nat.min_le_left _ _)
   rw[List.getElem?_take_of_lt hj2,jOc]at hj;have ha:(⟨b2,off2*1,none⟩:Addr).add j=⟨b2,off2+j,none⟩:=by
    unfold Addr.add;split
    ·rename_i h;subst h;simp
    ·simp
   rw[ha];have hlt:off2+j<ds.length:=(jGa.1 hj).1;simp[World.cell?,hheap,jQa hlt,hj])
  rw[hnl,hcl]at this;exact this
 obtain⟨w',s1,s2,s3⟩:=hS.splice (P:=P) hblk hnew hfit hnf hr;have hi:∃i,P.info? e=some i∧i.size=1:=hT.size e 1 hsz;obtain⟨i,hi,hi1⟩:=hi;refine⟨goInt (Nat.min len2 len),w',ρ,?_,s2,by rw[hcl];simp[rel,goInt],s3⟩;have s1':(storeCells ⟨b,off*1,none⟩ ((ds.drop off2).take (Nat.min len2 len))).run P w=.ok () w':=by rw[Nat.mul_one];exact s1
 simp only[Builtin.copy_,h0];simp[jQb (hT.und _ _ hu),Builtin.lenOf,Builtin.firstCells,sizeOf,typeInfo,hi,hi1];simp only[Nat.mul_one]at hload s1';rw[hload];simp only[jXb];rw[s1'];rfl
end
open Go
section
variable {P:Program}{T:Tab}{M:Mem}{ρ:Ren}{w:World}{H:zaa}

def zaR (P:Program)(T:Tab)(f:FuncId)(args:Array Value)(M:Mem)(ρ:Ren)(w:World):OR→Prop
 | .val v H'=>Calls P f args w fun e w'=>∃x M' ρ',e=.returned x∧Ext M ρ w M' ρ' w'∧rel M' ρ' v x∧SR T M' ρ' H' w'
 | .pan v H'=>Calls P f args w fun e w'=>∃x M' ρ',e=.panicked [{v:=x,recovered:=false}]∧Ext M ρ w M' ρ' w'∧rel M' ρ' v x∧SR T M' ρ' H' w'
 | .no=>True
def zoG (P:Program)(T:Tab)(f:FuncId)(vs:List V)(H:zaa)(r:OR):Prop:=
 ∃v H',r=.val v H'∧∀(M:Mem)(ρ:Ren)(w:World)(args:List Value),SR T M ρ H w→relL M ρ vs args→∃x M' ρ' w',(callFunc f args.toArray).run P w=.ok (.value x) w'∧Ext M ρ w M' ρ' w'∧rel M' ρ' v x∧SR T M' ρ' H' w'
def zad.Sound (P:Program)(T:Tab)(call:zad):Prop:=
 ∀f vs H r,call f vs H=r→r≠.no→(Go.Proofs.Enters P f∧∀M ρ w args,SR T M ρ H w→relL M ρ vs args→zaR P T f args.toArray M ρ w r)∨zoG P T f vs H r
def zfJ (P:Program)(T:Tab)(o:Oper)(a:Act)(M:Mem)(ρ:Ren)(w:World)(Q:Exit→Act→World→Prop)(K:Act→World→Prop):OR→Prop
 | .val v H'=>(∀x M' ρ' w',Ext M ρ w M' ρ' w'→rel M' ρ' v x→SR T M' ρ' H' w'→K (a.put o.dst x) w')→o.wp P a w K Q
 | .pan v H'=>(∀x M' ρ' w',Ext M ρ w M' ρ' w'→rel M' ρ' v x→SR T M' ρ' H' w'→Q (.panic [{v:=x,recovered:=false}]) a w')→o.wp P a w K Q
 | .no=>True
variable {Q:Exit→Act→World→Prop}{K:Act→World→Prop}{o:Oper}{a:Act}

theorem zbs {s:Sem Value}(hexec:execOp a.eval o=(do Pure.pure (.value (←s)))){v:V}{H':zaa}(h:zjV P T s M ρ w v H'):zfJ P T o a M ρ w Q K (.val v H'):=by
 intro hK;obtain⟨x,w',ρ',hr,he,hv,hS⟩:=h;unfold Oper.wp;rw[hexec];simp only[jHc,hr,jXb,jGd,Oper.upon];exact hK x M ρ' w' he hv hS
theorem zcn {s:Sem Value}(hexec:execOp a.eval o=(do Pure.pure (.value (←s))))(hS:SR T M ρ H w){v:V}{x:Value}(hr:s.run P w=.ok x w)(hv:rel M ρ v x):zfJ P T o a M ρ w Q K (.val v H):=
 zbs hexec (zjV.pure hS hr hv)
theorem zaP {s:Sem Value}(hexec:execOp a.eval o=(do Pure.pure (.value (←s))))(hS:SR T M ρ H w){r:Option V}(h:∀v,r=some v→∃x,s.run P w=.ok x w∧rel M ρ v x):zfJ P T o a M ρ w Q K (lift r H):=by
 cases r with
 |none=>trivial
 |some v=>
  obtain⟨x,hx,hv⟩:=h v rfl;exact zcn hexec hS hx hv
theorem zgB {call:zad}(hcall:call.Sound P T)(hS:SR T M ρ H w){g:FuncId}{vs:List V}{xs:List Value}{r:OR}(h:call g vs H=r)(hr:relL M ρ vs xs)(hexec:(execOp a.eval o).run P w=(callFunc g xs.toArray).run P w):zfJ P T o a M ρ w Q K r:=by
 by_cases hno:r=.no
 ·subst hno;trivial
 rcases hcall g vs H r h hno with⟨hent,hok⟩|⟨v,H',rfl,hok⟩;case inr=>
  obtain⟨x,M',ρ',w',hx,he,hv,hS'⟩:=hok M ρ w xs hS hr;intro hK;unfold Oper.wp;rw[hexec,hx];exact hK x M' ρ' w' he hv hS'
 have:=hok M ρ w xs hS hr;have hexec:(execOp a.eval o).run P w=.ok (.enter g xs.toArray) w:=hexec.trans (hent _ w);cases r with
 |no=>trivial
 |val v H'=>
  intro hK;unfold Oper.wp;rw[hexec];refine jTd this ?_;rintro e w' ⟨x,M',ρ',rfl,he,hv,hS'⟩;exact hK x M' ρ' w' he hv hS'
 |pan v H'=>
  intro hK;unfold Oper.wp;rw[hexec];refine jTd this ?_;rintro e w' ⟨x,M',ρ',rfl,he,hv,hS'⟩;exact hK x M' ρ' w' he hv hS'
theorem zpH (hT:TOk P T){call:zad}(hcall:call.Sound P T)(hS:SR T M ρ H w){t:Env}(ht:zik M ρ t a.tmps){c:Call}(ho:o.op=.call c){r:OR}(h:zb0 T call c t H=r):zfJ P T o a M ρ w Q K r:=by
 unfold zb0 at h;split at h
 ·subst h;trivial
 rename_i args hargs;have hrel:=zeI ht hargs;split at h
 ·rename_i f hf;split at h
  ·rename_i g cap hg;have hgv:=zas ht hg;simp only[rel]at hgv;obtain⟨cs,hval,hcs⟩:=hgv;split at h
   ·rename_i F hF;subst h;cases hv:F (args++cap)with
    |none=>trivial
    |some v=>
     obtain⟨x,hx,hxr⟩:=hT.ext g F hF M ρ _ _ v (za5 hrel hcs) hv;intro hK;have hexec:(execOp a.eval o).run P w=.ok (.value x) w:=by
      have:(callFunc g (c.args.map a.eval++cs.toArray)).run P w=.ok (.value x) w:=by
       have h2:=hx w;have e:(c.args.toList.map a.eval++cs).toArray=c.args.map a.eval++cs.toArray:=by apply jWc;simp
       rwa [e]at h2
      simp[execOp,ho,resolve,hf,hval,Deferred.ofValue,invoke,this]
     unfold Oper.wp;rw[hexec];exact hK x M ρ w (Ext.refl _ _ _) hxr hS
   refine zgB hcall hS h (za5 hrel hcs) ?_;have e:(c.args.toList.map a.eval++cs).toArray=c.args.map a.eval++cs.toArray:=by apply jWc;simp
   rw[e];simp[execOp,ho,resolve,hf,hval,Deferred.ofValue,invoke]
  ·rename_i g fs hg;have hgv:=zas ht hg;simp only[rel]at hgv;obtain⟨cs,hval,hcs⟩:=hgv;split at h
   ·subst h;trivial
   refine zgB hcall hS h (za5 hcs hrel) ?_;have e:(cs++c.args.toList.map a.eval).toArray=cs.toArray++c.args.map a.eval:=by apply jWc;simp
   rw[e];simp[execOp,ho,resolve,hf,hval,Deferred.ofValue,invoke]
  ·subst h;trivial
 ·rename_i x name hf;split at h
  ·rename_i ty v hx;have hxv:=zas ht hx;simp only[rel]at hxv;obtain⟨y,hval,hy⟩:=hxv;split at h
   ·rename_i g hg;split at h
    ·subst h;trivial
    refine zgB hcall hS h (zaw hy hrel) ?_;have hm:=hT.meth _ _ _ hg y;have e:(y::c.args.toList.map a.eval).toArray=#[y]++c.args.map a.eval:=by apply jWc;simp
    rw[e];have e1:(#[Value.iface ty y]++c.args.map a.eval)[0]? = some (.iface ty y):=by rw[Array.getElem?_append_left (by simp)];rfl
    have e2:(#[Value.iface ty y]++c.args.map a.eval).extract 1 (#[Value.iface ty y]++c.args.map a.eval).size=c.args.map a.eval:=by
     apply jWc;simp;exact jTb (by simp)
    simp only[execOp,ho,resolve,hf,hval,jHc,jGd,jXb,invoke,e1,e2,callMethod];simp[hm]
   ·subst h;trivial
  ·subst h;trivial
 ·rename_i hf;split at h
  ·rename_i ty d q hty;obtain⟨x,r1,hxs,hx,hr1⟩:∃x r,c.args.toList.map a.eval=x::r∧rel M ρ d x∧relL M ρ [q] r:=by simpa only[relL]using hrel
   obtain⟨y,r2,rfl,hy,rfl⟩:∃y r,r1=y::r∧rel M ρ q y∧r=[]:=by simpa only[relL]using hr1
   cases r with
   |no=>trivial
   |pan v H'=>exact absurd h zi0
   |val v H'=>
    refine zbs (s:=Builtin.copy_ c.argTypes o.type #[x,y]) ?_ (zpJ hT hS hx hy h c.argTypes hty o.type);have e:c.args.map a.eval=#[x,y]:=by apply jWc;simpa using hxs
    simp[execOp,ho,resolve,hf,invoke,builtin,e]
  ·subst h;trivial
 ·rename_i hf;split at h
  ·rename_i x;subst h;simp only[relL]at hrel;obtain⟨y,r',hy,hyr,hr'⟩:=hrel;subst hr';have hmap:c.args.map a.eval=#[y]:=by apply jWc;simpa using hy
   have hexec:execOp a.eval o=(do Pure.pure (.value (←Builtin.unsafeSliceData_ c.argTypes o.type #[y]))):=by
    simp[execOp,ho,resolve,hf,invoke,builtin,hmap]
   exact zaP hexec hS fun v hv=>by
    obtain⟨z,hz,hzr⟩:=zhJ (P:=P) hyr hv c.argTypes o.type;exact⟨z,hz w,hzr⟩
  ·subst h;trivial
 ·rename_i hf;split at h
  ·rename_i ty p l h0;simp only[relL]at hrel;obtain⟨y,r',hy,hyr,z,r2,rfl,hzr,rfl⟩:=hrel;have hmap:c.args.map a.eval=#[y,z]:=by apply jWc;simpa using hy
   have hexec:execOp a.eval o=(do Pure.pure (.value (←Builtin.unsafeString_ c.argTypes o.type #[y,z]))):=by
    simp[execOp,ho,resolve,hf,invoke,builtin,hmap]
   cases r with
   |no=>trivial
   |val v H'=>exact zbs hexec (zfw hT hS hyr hzr h c.argTypes h0 o.type)
   |pan v H'=>
    exfalso;unfold zaL at h;simp only[setK_eq]at h;repeat' (split at h)
    all_goals cases h
  ·subst h;trivial
 ·rename_i hf;split at h
  ·rename_i ty x h0;subst h;simp only[relL]at hrel;obtain⟨y,r',hy,hyr,hr'⟩:=hrel;subst hr';have hmap:c.args.map a.eval=#[y]:=by apply jWc;simpa using hy
   have hexec:execOp a.eval o=(do Pure.pure (.value (←Builtin.len_ c.argTypes o.type #[y]))):=by
    simp[execOp,ho,resolve,hf,invoke,builtin,hmap]
   exact zaP hexec hS fun v hv=>by
    obtain⟨z,hz,hzr⟩:=zr6 hT hyr hv c.argTypes h0 o.type;exact⟨z,hz w,hzr⟩
  ·subst h;trivial
 ·rename_i hf;split at h
  ·rename_i ty ty2 s x h0 h1;simp only[relL]at hrel;obtain⟨y,r',hy,hyr,z,r2,rfl,hzr,rfl⟩:=hrel;have hmap:c.args.map a.eval=#[y,z]:=by apply jWc;simpa using hy
   have hexec:execOp a.eval o=(do Pure.pure (.value (←Builtin.append_ c.argTypes o.type #[y,z]))):=by
    simp[execOp,ho,resolve,hf,invoke,builtin,hmap]
   have key:∀d1,P.underlying ty2=some d1→((∃e',d1=TypeDesc.slice e')∨d1=.string)→zaN T ty s x H=r→zfJ P T o a M ρ w Q K r:=by
    intro d1 hd1 hd2 hr;cases hr2:r with
    |no=>trivial
    |val v H'=>exact zbs hexec (zlt hT hS hyr hzr (hr.trans hr2) c.argTypes h0 h1 hd1 hd2 o.type)
    |pan v H'=>
     exfalso;rw[hr2]at hr;unfold zaN at hr;simp only[zaX,zcL,setK_eq]at hr;repeat' (split at hr)
     all_goals cases hr
   split at h
   ·rename_i e' hu;exact key _ (hT.und _ _ hu) (.inl ⟨_,rfl⟩) h
   ·rename_i hu;exact key _ (hT.und _ _ hu) (.inr rfl) h
   ·subst h;trivial
  ·subst h;trivial
 ·rename_i hf;split at h
  ·rename_i x y;subst h;simp only[relL]at hrel;obtain⟨y',r',hy,hyr,z,r2,rfl,hzr,rfl⟩:=hrel;have hmap:c.args.map a.eval=#[y',z]:=by apply jWc;simpa using hy
   have hexec:execOp a.eval o=(do Pure.pure (.value (←Builtin.max_ c.argTypes o.type #[y',z]))):=by
    simp[execOp,ho,resolve,hf,invoke,builtin,hmap]
   exact zaP hexec hS fun v hv=>by
    unfold zr7 at hv;split at hv
    ·cases hv;simp only[rel]at hyr hzr;subst hyr hzr;rename_i k a' k' b' _;exact⟨.int k (if b'>a' then b' else a'),by simp[Builtin.max_,Builtin.max2],by simp[rel]⟩
    ·rename_i heq;cases heq
    ·cases hv
  ·subst h;trivial
 ·rename_i hf;split at h
  ·rename_i x y;subst h;simp only[relL]at hrel;obtain⟨y',r',hy,hyr,z,r2,rfl,hzr,rfl⟩:=hrel;have hmap:c.args.map a.eval=#[y',z]:=by apply jWc;simpa using hy
   have hexec:execOp a.eval o=(do Pure.pure (.value (←Builtin.min_ c.argTypes o.type #[y',z]))):=by
    simp[execOp,ho,resolve,hf,invoke,builtin,hmap]
   exact zaP hexec hS fun v hv=>by
    unfold zr7 at hv;split at hv
    ·rename_i heq;cases heq
    ·cases hv;simp only[rel]at hyr hzr;subst hyr hzr;rename_i k a' k' b' _;exact⟨.int k (if b'<a' then b' else a'),by simp[Builtin.min_,Builtin.min2],by simp[rel]⟩
    ·cases hv
  ·subst h;trivial
 ·subst h;trivial
end
end Go.Ev
