/- Each operation on terms, and that it is sound. Trees of what is left to show; calls by their shape. Regions on terms, in order and drawn. -/
import Derived.Test.YtmjplflnlggbeaaGreatDoorESy3
namespace Go.Ev
open Go Go.Proofs
set_option linter.unusedSimpArgs false
set_option linter.unusedVariables false
set_option linter.unnecessarySimpa false
open Go
section
variable {T:Tab}{call:zad}{σ:List U}{H:zaa}{tm:List (Nat×E)}{t:Env}{h:SH}
abbrev dv (σ:List U)(es:List E):List V:=es.map fun e=>(e.den σ).val
/-! Cells. -/
noncomputable def zlD:E→Bool
 | .f1 (.vi _) _=>true
 | .f1 .vb _=>true
 | .f1 .vs _=>true
 | .f1 (.ptr _) _=>true
 | .f1 .mp _=>true
 | .f1 (.isl _) _=>true
 | .f1 (.ifc _) _=>true
 | .f1 (.fn _) _=>true
 | .f3 (.ipt _ _) _ _ _=>true
 | .f1 (.slc _ _) _=>true
 | .f2 (.sl _) _ _=>true
 | .f2 (.ptrI _) _ _=>true
 | .cv v=>zeA v
 |_=>false
theorem zi5 {e:E}(h:zlD e=true):zeA (e.den σ).val=true:=by
 unfold zlD at h;split at h;all_goals first
  |rfl
  |exact h
  |(cases h;done)
theorem znX {v:V}(h:zeA v=true):v.cells=[v]:=by cases v<;>first|rfl|cases h
noncomputable def zj4 (v:E):Option (List E):=match v with
 | .f1 .agg l=>match l.items with
  |some es=>bif es.all zlD then some es else none
  |none=>none
 |v=>bif zlD v then some [v]else none
theorem zgD {v:E}{cs:List E}(h:zj4 v=some cs):(v.den σ).val.cells=dv σ cs∧(dv σ cs).all zeA=true:=by
 unfold zj4 at h;split at h
 ·split at h
  ·rename_i es he;cases ha:es.all zlD
   ·rw[ha]at h;cases h
   ·rw[ha]at h;cases h;refine⟨by simp only[E.den,O1.den,U.val_uv,V.cells];exact E.items_den σ _ _ he,?_⟩;rw[List.all_map];refine jBb.2 fun e hm=>?_;exact zi5 (jBb.1 ha e hm)
  ·cases h
 ·cases ha:zlD v
  ·rw[ha]at h;cases h
  ·rw[ha]at h;cases h;have:=zi5 (σ:=σ) ha;exact⟨znX this,by simp[dv,this]⟩
noncomputable def zqq (T:Tab)(ty:TypeId)(es:List E)(off:Nat):Option E:=match zbV (T.und ty)with
 |some true=>match T.size ty with
  |some n=>bif Nat.ble (off+n) es.length then some (.f1 .agg (toE ((es.drop off).take n)))else none
  |none=>none
 |some false=>zwy es off
 |none=>none
theorem zjo {ty:TypeId}{es:List E}{off:Nat}{e:E}(h:zqq T ty es off=some e):zbq T ty (dv σ es) off=some (e.den σ).val:=by
 unfold zqq at h;unfold zbq;cases ha:zbV (T.und ty)with
 |none=>rw[ha]at h;cases h
 |some b=>
  rw[ha]at h;cases b with
  |true=>
   simp only at h ⊢;cases hn:T.size ty with
   |none=>rw[hn]at h;cases h
   |some n=>
    rw[hn]at h;simp only at h ⊢;cases hl:Nat.ble (off+n) es.length
    ·rw[hl]at h;cases h
    ·rw[hl]at h;cases h;have hl:=Nat.le_of_ble_eq_true hl;simp only[cut,dv,jJd,if_pos hl,jXa,E.den,O1.den,U.val_uv,zbS,List.map_take,List.map_drop]
  |false=>
   simp only at h ⊢;rw[zcf]at h;simp[h]
noncomputable def zjH (l:List E)(off:Nat)(x:List E):List E:=l.take off++x++l.drop (off+x.length)
theorem ziw (l:List E)(off:Nat)(x:List E):dv σ (zjH l off x)=splice (dv σ l) off (dv σ x):=by
 simp[zjH,splice,dv,List.map_take,List.map_drop]
noncomputable def zqO (T:Tab)(ty:TypeId)(h:SH)(p:E):SRes:=match p with
 | .f1 (.ptr off) n=>match h.look n with
  |some b=>match b.kind,b.cells.items with
   | .map,_=>.no
   |_,some es=>(match zqq T ty es off with
    |some e=>.val e
    |none=>.no)
   |_,none=>.ask (.load ty p)
  |none=>.ask (.load ty p)
 | .cv (.gp g off)=>match zah T ty [] (.gp g off)with
  |some v=>.val (ofV v)
  |none=>.no
 |p=>.ask (.load ty p)
theorem za4 {K:zaa}{n:Nat}{b:Blk}(e:K[n]? = some (some b))(hk:b.kind≠.map):zap K n=some b:=by simp[zap,e,hk]
theorem zm5 (hw:h.WF σ)(ty:TypeId)(p:E):SRes.Ok T call σ (h.den σ) (zqO T ty h p) (lift (zah T ty (h.den σ) (p.den σ).val) (h.den σ)):=by
 unfold zqO;split
 ·rename_i off n;split
  ·rename_i b hb;have hb:=SH.look_den hw hb;split
   ·trivial
   ·rename_i es he hk;split
    ·rename_i e hp;have hp:=zjo (σ:=σ) hp;have hk:(b.den σ).kind≠.map:=fun e=>hk e;have hc:(b.den σ).cells=dv σ es:=E.items_den σ _ _ he;simp only[SRes.Ok,E.den,O1.den,U.val_uv,zah,za4 hb hk,hc,hp,lift]
    ·trivial
   ·rfl
  ·rfl
 ·rename_i g off;split
  ·rename_i v hv;have e:zah T ty (h.den σ) (.gp g off)=some v:=hv;simp only[SRes.Ok,E.den,U.val_uv,e,lift,zlm]
  ·trivial
 ·rfl
noncomputable def zqT (T:Tab)(ty:TypeId)(h:SH)(a x:E):SRes:=match a with
 | .f1 (.ptr off) n=>match h.look n with
  |some b=>match b.kind,b.cells.items,zj4 x with
   | .map,_,_=>.no
   |_,some es,some xs=>if T.size ty=some xs.length∧off+xs.length≤es.length then(match h.put n (some {b with cells:=toE (zjH es off xs)})with
    |some h'=>.eff (.cv .un) h'
    |none=>.no)else .no
   |_,_,_=>.no
  |none=>.no
 |_=>.no
theorem zqU (hw:h.WF σ)(ty:TypeId)(a x:E):SRes.Ok T call σ (h.den σ) (zqT T ty h a x) (match zbN T ty (h.den σ) (a.den σ).val (x.den σ).val with|some H'=>.val .un H'|none=>.no):=by
 unfold zqT;split
 ·rename_i off n;split
  ·rename_i b hb;have hb:=SH.look_den hw hb;split
   ·trivial
   ·rename_i es xs he hx hk;split
    ·rename_i hc;split
     ·rename_i h' hp;obtain⟨h1,h2⟩:=SH.put_den hw hp;have hk:(b.den σ).kind≠.map:=fun e=>hk e;have hcs:(b.den σ).cells=dv σ es:=E.items_den σ _ _ he;obtain⟨hx1,hx2⟩:=zgD (σ:=σ) hx;refine⟨?_,h1⟩;simp only[E.den,O1.den,U.val_uv,zbN,za4 hb hk,hx1,hx2,hcs];rw[if_pos ⟨by simpa using hc.1,by simpa using hc.2,trivial⟩];simp only[zfT,setK_eq,h2,bD,SB.den,zbS];rw[←ziw]
     ·trivial
    ·trivial
   ·trivial
  ·trivial
 ·trivial
noncomputable def zfG (T:Tab)(ty:TypeId)(x:E)(f:Nat):SRes:=match T.und ty with
 |some (.struct fs)=>match fs[f]? with
  |some fd=>match T.size fd.type with
   |some n=>if n=0 then .no else(match x with
    | .f1 (.ptr off) n=>.val (.f1 (.ptr (off+fd.offset)) n)
    | .cv (.gp g off)=>.val (.cv (.gp g (off+fd.offset)))
    | .f3 (.ipt sz off) l j k=>.val (.f3 (.ipt sz (off+fd.offset)) l j k)
    |_=>.no)
   |none=>.no
  |none=>.no
 |_=>.no
theorem zjz (ty:TypeId)(x:E)(f:Nat):SRes.Ok T call σ H (zfG T ty x f) (lift (zcb T ty (x.den σ).val f) H):=by
 unfold zfG zcb;split
 ·rename_i fs hfs;split
  ·rename_i fd hfd;split
   ·rename_i n hn;split
    ·trivial
    ·rename_i h0;split<;>simp_all[SRes.Ok,zgx,lift]
   ·trivial
  ·trivial
 ·trivial
noncomputable def zqK (T:Tab)(ty:TypeId)(x:E)(f:Nat):SRes:=match T.und ty,x with
 |some (.struct fs),.f1 .agg l=>match fs[f]?,l.items with
  |some fd,some es=>match zqq T fd.type es fd.offset with
   |some e=>.val e
   |none=>.no
  |_,_=>.no
 |_,_=>.no
theorem zqL (ty:TypeId)(x:E)(f:Nat):SRes.Ok T call σ H (zqK T ty x f) (lift (zft T ty (x.den σ).val f) H):=by
 unfold zqK;split
 ·rename_i fs l hfs;split
  ·rename_i fd es hfd he;split
   ·rename_i e hp;have hp:=zjo (σ:=σ) hp;have hl:(l.den σ).lst=dv σ es:=E.items_den σ _ _ he;simp only[SRes.Ok,E.den,O1.den,U.val_uv,zft,hfs,hfd,hl,hp,lift]
   ·trivial
  ·trivial
 ·trivial
noncomputable def zqM (T:Tab)(ty:TypeId)(x ix:E):SRes:=match T.und ty,x,ix with
 |some .string,.f1 .vs s,.f1 (.vi _) i=>.need (zaG .leI (.ci 0) i) (.need (zaG .ltI i (zjg s)) (.val (.f1 (.vi .u8) (.f2 .at s i))))
 |some (.array len e),.f1 .agg l,.f1 (.vi _) (.ci j)=>match T.size e,l.items with
  |some n,some es=>if 0≤j∧j<len then(match zqq T e es (j.toNat*n)with
   |some e=>.val e
   |none=>.no)else .no
  |_,_=>.no
 |_,_,_=>.no
theorem zqN (ty:TypeId)(x ix:E):SRes.Ok T call σ H (zqM T ty x ix) (lift (zeG T ty (x.den σ).val (ix.den σ).val) H):=by
 unfold zqM;split
 ·rename_i s k i hu;intro h1 h2;have h1:0≤(i.den σ).int:=leE h1;have h2:=ltE h2;rw[zcy]at h2;have h2:(i.den σ).int<(s.den σ).str.length:=h2;simp only[E.den,O1.den,O2.den,U.val_uv,U.int_ui,U.str_us,zeG,hu,zcf,SRes.Ok,atS];have:(i.den σ).int.toNat<(s.den σ).str.length:=by omega
  rw[jKa this,if_pos h1];rfl
 ·rename_i len e l k j hu;split
  ·rename_i n es hn he;split
   ·rename_i hj;split
    ·rename_i r hp;have hp:=zjo (σ:=σ) hp;have hl:(l.den σ).lst=dv σ es:=E.items_den σ _ _ he;simp only[SRes.Ok,E.den,O1.den,U.val_uv,U.int_ui,zeG,hu,hn,if_pos hj,hl,hp,lift]
    ·trivial
   ·trivial
  ·trivial
 ·trivial
noncomputable def zfH (T:Tab)(ty:TypeId)(x ix:E):SRes:=match T.und ty,x,ix with
 |some (.slice e),.f1 (.isl sz) l,.f1 (.vi _) i=>if T.size e=some sz then .need (zaG .leI (.ci 0) i) (.need (zaG .ltI i (.f1 .lenL l)) (.val (.f3 (.ipt sz 0) l i .nil)))else .no
 |some (.array len e),.f1 (.ptr off) n,.f1 (.vi _) (.ci j)=>match T.size e with
  |some z=>if 0≤j∧j<len then .val (.f1 (.ptr (off+j.toNat*z)) n)else .no
  |none=>.no
 |_,_,_=>.no
theorem zjA (ty:TypeId)(x ix:E):SRes.Ok T call σ H (zfH T ty x ix) (lift (zbe T ty (x.den σ).val (ix.den σ).val) H):=by
 unfold zfH;split
 ·rename_i e sz l k i hu;split
  ·rename_i hz;intro h1 h2;have h1:0≤(i.den σ).int:=leE h1;have h2:(i.den σ).int<(l.den σ).lst.length:=ltE h2;simp only[E.den,O1.den,O3.den,U.val_uv,U.int_ui,U.lst_ul,zbe,hu,if_pos (And.intro hz (And.intro h1 h2)),lift,SRes.Ok]
  ·trivial
 ·rename_i len e off n k j hu;split
  ·rename_i z hz;split
   ·rename_i hj;simp only[SRes.Ok,E.den,O1.den,U.val_uv,U.int_ui,zbe,hu,hz,if_pos hj,zgx,lift]
   ·trivial
  ·trivial
 ·trivial
noncomputable def zit (tm:List (Nat×E))(dflt:E):Option Operand→Option E
 |none=>some dflt
 |some o=>match sv tm o with
  |some (.f1 (.vi _) i)=>some i
  |_=>none
noncomputable def zqR (T:Tab)(ty:TypeId)(tm:List (Nat×E))(x:E)(lo hi mx:Option Operand):SRes:=match mx,x with
 |none,.f1 .vs s=>match T.und ty,zit tm (zjg s) hi,zit tm (.ci 0) lo with
  |some .string,some j,some i=>.need (zaG .leI (.ci 0) i) (.need (zaG .leI i j) (.need (match hi with|none=>.cb true|some _=>zaG .leI j (zjg s)) (.val (.f1 .vs (.f3 .sub s i j)))))
  |_,_,_=>.no
 |none,.f1 (.isl sz) l=>match T.und ty,zit tm (.f1 .lenL l) hi,zit tm (.ci 0) lo with
  |some (.slice e),some j,some i=>if T.size e=some sz then .need (zaG .leI (.ci 0) i) (.need (zaG .leI i j) (.need (match hi with|none=>.cb true|some _=>zaG .leI j (.f1 .lenL l)) (.val (.f1 (.isl sz) (.f3 .subL l i j)))))else .no
  |_,_,_=>.no
 |_,_=>.no
theorem zfj (hs:zrG σ tm t){most:Nat}{dflt:Nat}{de e:E}{x:Option Operand}(h:zit tm de x=some e)(hd:x=none→(de.den σ).int=dflt∧dflt≤most)(h0:0≤(e.den σ).int)(h1:(e.den σ).int≤most):zbK t most dflt x=some (e.den σ).int.toNat:=by
 cases x with
 |none=>
  cases h;obtain⟨h2,_⟩:=hd rfl;rw[h2];rfl
 |some o=>
  simp only[zit]at h;split at h
  ·rename_i k i hi;cases h;simp only[zbK,zbD hs hi,E.den,O1.den,U.val_uv];rw[if_pos ⟨h0,h1⟩]
  ·cases h
theorem zqS (hs:zrG σ tm t)(ty:TypeId)(x:E)(lo hi mx:Option Operand):SRes.Ok T call σ H (zqR T ty tm x lo hi mx) (lift (zco T ty t (x.den σ).val lo hi mx) H):=by
 unfold zqR;split
 ·rename_i s;split
  ·rename_i j i hu ej ei;intro h1 h2 h3;have h1:0≤(i.den σ).int:=leE h1;have h2:=leE h2;have h4:(j.den σ).int≤(s.den σ).str.length:=by
    cases hi with
    |none=>
     cases ej;rw[zcy];exact Int.le_refl _
    |some o=>
     have h3:=leE h3;rw[zcy]at h3;exact h3
   have e1:=zfj hs (most:=(s.den σ).str.length) (dflt:=(s.den σ).str.length) ej (fun _=>⟨by rw[zcy];rfl,jDb _⟩) (by omega) h4;have e2:=zfj hs (most:=(j.den σ).int.toNat) (dflt:=0) ei (fun _=>⟨rfl,Nat.zero_le _⟩) h1 (by omega);simp only[E.den,O1.den,O3.den,U.val_uv,U.str_us,zco,hu,e1,e2,lift,SRes.Ok,zl8,U.int_ui]
  ·trivial
 ·rename_i sz l;split
  ·rename_i e j i hu ej ei;split
   ·rename_i hz;intro h1 h2 h3;have h1:0≤(i.den σ).int:=leE h1;have h2:=leE h2;have h4:(j.den σ).int≤(l.den σ).lst.length:=by
     cases hi with
     |none=>
      cases ej;exact Int.le_refl _
     |some o=>exact leE h3
    have e1:=zfj hs (most:=(l.den σ).lst.length) (dflt:=(l.den σ).lst.length) ej (fun _=>⟨rfl,jDb _⟩) (by omega) h4;have e2:=zfj hs (most:=(j.den σ).int.toNat) (dflt:=0) ei (fun _=>⟨rfl,Nat.zero_le _⟩) h1 (by omega);simp only[E.den,O1.den,O3.den,U.val_uv,U.lst_ul,zco,hu,hz,if_true,e1,e2,lift,SRes.Ok,U.int_ui]
   ·trivial
  ·trivial
 ·trivial
noncomputable def nnE (e:E):E:=match e with
 | .f1 .lenS s=>.f1 .lenS s
 | .f1 .lenL l=>.f1 .lenL l
 |e=>.f1 .nn e
theorem zqh (e:E):(nnE e).den σ=.ui ((e.den σ).int.toNat:Nat):=by
 unfold nnE;split<;>simp
noncomputable def zz4 (T:Tab)(ty:TypeId)(x:E):SRes:=match T.und ty,x with
 |some .string,.f1 .vs s=>.val (.f1 (.vi .i64) (zjg s))
 |some (.array n _),_=>.val (.f1 (.vi .i64) (.ci n))
 |some (.slice _),.f1 (.isl _) l=>.val (.f1 (.vi .i64) (.f1 .lenL l))
 |some (.slice _),.cv .nils=>.val (.f1 (.vi .i64) (.ci 0))
 |some (.slice _),.cv .emp=>.val (.f1 (.vi .i64) (.ci 0))
 |some (.slice _),.f1 (.slc _ n) _=>.val (.f1 (.vi .i64) (.ci n))
 |some (.slice _),.f2 (.sl _) _ n=>.val (.f1 (.vi .i64) (nnE n))
 |_,_=>.no
theorem zvF (ty:TypeId)(x:E):SRes.Ok T call σ H (zz4 T ty x) (lift (zf4 T ty (x.den σ).val) H):=by
 unfold zz4;split<;>simp_all[SRes.Ok,zf4,lift,zcy,zqh]
/-! Slices of blocks. -/
theorem zoq (l:List V)(i:Nat)(x:V)(h:i<l.length):splice l i [x]=l.set i x:=by
 rw[List.set_eq_take_append_cons_drop,if_pos h];simp[splice]
def zb9 (s:Bs):List V:=s.map fun c=>.i .u8 c.toNat
theorem zj0 (s:Bs):(zb9 s).all zeA=true:=by simp[zb9,zeA]
theorem zj1 (s:Bs)(n:Int)(h0:0≤n)(h1:n<256):zb9 (s++[UInt8.ofNat n.toNat])=zb9 s++[.i .u8 n]:=by
 simp only[zb9,jPd,jJb,List.map_nil];congr 3;have:(UInt8.ofNat n.toNat).toNat=n.toNat:=by rw[UInt8.toNat_ofNat'];omega
 rw[this];omega
theorem zrR (s:Bs)(i:Nat)(n:Int)(h0:0≤n)(h1:n<256):zb9 (s.set i (UInt8.ofNat n.toNat))=(zb9 s).set i (.i .u8 n):=by
 simp only[zb9,List.map_set];congr 2;have:(UInt8.ofNat n.toNat).toNat=n.toNat:=by rw[UInt8.toNat_ofNat'];omega
 rw[this];omega
theorem zd8:∀s:Bs,zct (zb9 s)=some s
 | []=>rfl
 |c::s=>by
  show(match zct (zb9 s)with|some r=>some ((c.toNat:Int).toNat.toUInt8::r)|none=>none)=_;rw[zd8 s];simp
noncomputable def zqE (T:Tab)(ty:TypeId)(x ix:E):SRes:=match T.und ty,x,ix with
 |some (.slice e),.f2 (.sl sz) n len,.f1 (.vi _) i=>if T.size e=some sz then .need (zaG .leI (.ci 0) i) (.need (zaG .ltI i (nnE len)) (.val (.f2 (.ptrI sz) n i)))else .no
 |some (.slice e),.f1 (.slc sz len) n,.f1 (.vi _) (.ci j)=>if T.size e=some sz∧0≤j∧j<len then .val (.f1 (.ptr (j.toNat*sz)) n)else .no
 |_,_,_=>zfH T ty x ix
theorem zqF (ty:TypeId)(x ix:E):SRes.Ok T call σ H (zqE T ty x ix) (lift (zbe T ty (x.den σ).val (ix.den σ).val) H):=by
 unfold zqE;split
 ·rename_i e sz n len k i hu;split
  ·rename_i hz;intro h1 h2;have h1:0≤(i.den σ).int:=leE h1;have h2:=ltE h2;rw[zqh]at h2;have h2:(i.den σ).int<(len.den σ).int.toNat:=h2;simp only[E.den,O1.den,O2.den,U.val_uv,U.int_ui,zbe,hu,if_pos (And.intro hz (And.intro h1 h2)),lift,SRes.Ok,jKb]
  ·trivial
 ·rename_i e sz len n k j hu;split
  ·rename_i hz;simp only[E.den,O1.den,U.val_uv,U.int_ui,zbe,hu,if_pos hz,lift,SRes.Ok,jKb]
  ·trivial
 ·exact zjA ty _ _
noncomputable def zqP (T:Tab)(ty:TypeId)(h:SH)(p:E):SRes:=match p with
 | .f2 (.ptrI 1) n i=>match h.look n,T.und ty with
  |some ⟨_,.f1 .bys s,.all⟩,some (.int .u8)=>.need (zaG .leI (.ci 0) i) (.need (zaG .ltI i (zjg s)) (.val (.f1 (.vi .u8) (.f2 .at s i))))
  |some ⟨_,.f1 .bys s,.more⟩,some (.int .u8)=>.need (zaG .leI (.ci 0) i) (.need (zaG .ltI i (zjg s)) (.val (.f1 (.vi .u8) (.f2 .at s i))))
  |_,_=>.ask (.load ty p)
 |p=>zqO T ty h p
theorem zu8 {ty:TypeId}(hu:T.und ty=some (.int .u8)){K:zaa}{n:Nat}{b:Blk}{s:Bs}(hb:K[n]? = some (some b))(hk:b.kind≠.map)(hc:b.cells=zb9 s){i:Int}(h1:0≤i)(h2:i<s.length):zah T ty K (.ptr n (i.toNat*1))=some (.i .u8 (atS s i)):=by
 simp only[zah,za4 hb hk,hc,zbq,hu,zbV,Nat.mul_one,zb9,jUb,atS];have:i.toNat<s.length:=by omega
 rw[jKa this];rfl
theorem zqQ (hw:h.WF σ)(ty:TypeId)(p:E):SRes.Ok T call σ (h.den σ) (zqP T ty h p) (lift (zah T ty (h.den σ) (p.den σ).val) (h.den σ)):=by
 unfold zqP;split
 ·rename_i n i;have key:∀(t:Nat) (s:E) (kd:BK),kd≠.map→h.look n=some ⟨t,.f1 .bys s,kd⟩→T.und ty=some (.int .u8)→SRes.Ok T call σ (h.den σ) (.need (zaG .leI (.ci 0) i) (.need (zaG .ltI i (zjg s)) (.val (.f1 (.vi .u8) (.f2 .at s i))))) (lift (zah T ty (h.den σ) ((E.f2 (.ptrI 1) n i).den σ).val) (h.den σ)):=fun t s kd hk hb hu h1 h2=>by
   have h1:0≤(i.den σ).int:=leE h1;have h2:=ltE h2;rw[zcy]at h2;have h2:(i.den σ).int<(s.den σ).str.length:=h2;have hb:=SH.look_den hw hb;simp only[SRes.Ok,E.den,O1.den,O2.den,U.val_uv,U.int_ui];rw[zu8 hu hb hk rfl h1 h2];rfl
  split
  ·rename_i hb hu;exact key _ _ _ (by simp) hb hu
  ·rename_i hb hu;exact key _ _ _ (by simp) hb hu
  ·rfl
 ·exact zm5 hw ty p
theorem ztm {ty:TypeId}(hz:T.size ty=some 1){K:zaa}{n:Nat}{b:Blk}{s:Bs}(hb:K[n]? = some (some b))(hk:b.kind≠.map)(hc:b.cells=zb9 s){i c:Int}(h1:0≤i)(h2:i<s.length)(h3:0≤c)(h4:c<256) :
 zbN T ty K (.ptr n (i.toNat*1)) (.i .u8 c)=some (K.set n (some {b with cells:=zb9 (s.set i.toNat (UInt8.ofNat c.toNat))})):=by
 have hlt:i.toNat<(zb9 s).length:=by simp only[zb9,jJd];omega
 simp only[zbN,za4 hb hk,hc,Nat.mul_one,V.cells];have:T.size ty=some [V.i .u8 c].length∧i.toNat+[V.i .u8 c].length≤(zb9 s).length∧[V.i .u8 c].all zeA=true:=⟨hz,by simp only[jIa,jVa];omega,rfl⟩;rw[if_pos this];simp only[zfT,setK_eq];rw[zoq _ _ _ hlt,←zrR _ _ _ h3 h4]
noncomputable def zlZ (h:SH)(n i s c:E)(t:Nat)(kd:BK):SRes:=.need (zaG .leI (.ci 0) i) (.need (zaG .ltI i (zjg s)) (.need (zaG .leI (.ci 0) c) (.need (zaG .ltI c (.ci 256)) (match h.put n (some ⟨t,.f1 .bys (.f3 .setB s i c),kd⟩)with
 |some h'=>.eff (.cv .un) h'
 |none=>.no))))
noncomputable def zl0 (T:Tab)(ty:TypeId)(h:SH)(a x:E):SRes:=match a,x with
 | .f2 (.ptrI 1) n i,.f1 (.vi .u8) c=>if T.size ty=some 1 then(match h.look n with
  |some ⟨t,.f1 .bys s,.all⟩=>zlZ h n i s c t .all
  |some ⟨t,.f1 .bys s,.more⟩=>zlZ h n i s c t .more
  |_=>.no)else .no
 |a,x=>zqT T ty h a x
theorem zoj (hw:h.WF σ)(ty:TypeId)(a x:E):SRes.Ok T call σ (h.den σ) (zl0 T ty h a x) (match zbN T ty (h.den σ) (a.den σ).val (x.den σ).val with|some H'=>.val .un H'|none=>.no):=by
 unfold zl0;split
 ·rename_i n i c;split
  ·rename_i hz;have key:∀(t:Nat) (s:E) (kd:BK),kd≠.map→h.look n=some ⟨t,.f1 .bys s,kd⟩→SRes.Ok T call σ (h.den σ) (zlZ h n i s c t kd) (match zbN T ty (h.den σ) ((E.f2 (.ptrI 1) n i).den σ).val ((E.f1 (.vi .u8) c).den σ).val with|some H'=>.val .un H'|none=>.no):=fun t s kd hk hb h1 h2 h3 h4=>by
    have h1:0≤(i.den σ).int:=leE h1;have h2:=ltE h2;rw[zcy]at h2;have h2:(i.den σ).int<(s.den σ).str.length:=h2;have h3:0≤(c.den σ).int:=leE h3;have h4:(c.den σ).int<256:=ltE h4;have hb:=SH.look_den hw hb;split
    ·rename_i h' hp;obtain⟨k1,k2⟩:=SH.put_den hw hp;refine⟨?_,k1⟩;have e1:=ztm (ty:=ty) hz hb hk (s:=(s.den σ).str) rfl h1 h2 h3 h4;simp only[E.den,O1.den,O2.den,U.val_uv,U.int_ui];rw[e1,k2];rfl
    ·trivial
   split
   ·rename_i hb;exact key _ _ _ (by simp) hb
   ·rename_i hb;exact key _ _ _ (by simp) hb
   ·trivial
  ·trivial
 ·exact zqU hw ty _ _
noncomputable def zqI (T:Tab)(src dst:TypeId)(h:SH)(x:E):SRes:=match x with
 | .f2 (.sl 1) n len=>match T.und src,T.und dst,h.look n with
  |some (.slice e),some .string,some ⟨_,.f1 .bys s,kd⟩=>match T.und e,kd with
   |some (.int .u8),.all=>bif len.same (.f1 .lenS s)then .val (.f1 .vs s)else .no
   |some (.int .u8),.more=>bif len.same (.f1 .lenS s)then .val (.f1 .vs s)else .no
   |_,_=>.no
  |_,_,_=>.no
 | .f1 (.ptr off) n=>match T.und src,T.und dst,h.look n with
  |some (.pointer e),some .unsafePointer,some ⟨_,cs,.all⟩=>(match cs.items,T.size e with
   |some es,some z=>if z≠0∧off<es.length then .val (.f1 (.ptr off) n)else .no
   |_,_=>.no)
  |some .unsafePointer,some (.pointer u),some ⟨t,cs,.all⟩=>(match cs.items,T.size u with
   |some es,some z=>if z≠0∧T.lies t es.length off u=true then .val (.f1 (.ptr off) n)else .no
   |_,_=>.no)
  |_,_,_=>.no
 |x=>zvC T src dst x
theorem zqJ (hw:h.WF σ)(src dst:TypeId)(x:E):SRes.Ok T call σ (h.den σ) (zqI T src dst h x) (zaT T src dst (x.den σ).val (h.den σ)):=by
 unfold zqI;split
 ·rename_i n len;split
  ·rename_i e t s kd hs hd hb;have key:kd≠.map→T.und e=some (.int .u8)→SRes.Ok T call σ (h.den σ) (bif len.same (.f1 .lenS s)then .val (.f1 .vs s)else .no) (zaT T src dst ((E.f2 (.sl 1) n len).den σ).val (h.den σ)):=fun hk he=>by
    cases hl:len.same (.f1 .lenS s)
    ·trivial
    ·have:=E.same_eq _ _ hl;subst this;have hb:=SH.look_den hw hb;simp only[jVc,SRes.Ok,E.den,O1.den,O2.den,U.val_uv,U.int_ui,zaT,hs,hd,he,za4 hb hk,SB.den,U.lst_ul,jCa,if_true];have:cut (zb9 (s.den σ).str) 0 (s.den σ).str.length=some (zb9 (s.den σ).str):=by
      have hl:(zb9 (s.den σ).str).length=(s.den σ).str.length:=by simp[zb9]
      unfold cut;rw[if_pos (by omega),jFc,jTb (by omega)]
     rw[show((s.den σ).str.map fun c=>V.i .u8 c.toNat)=zb9 (s.den σ).str from rfl,this];simp only[zd8]
   split
   ·rename_i he;exact key (by simp) he
   ·rename_i he;exact key (by simp) he
   ·trivial
  ·trivial
 ·rename_i off n;split
  ·rename_i e t cs hs hd hb;have hb:=SH.look_den hw hb;split
   ·rename_i es z he hz;have he:(cs.den σ).lst=dv σ es:=E.items_den σ _ _ he;split
    ·rename_i hc;have hk:(SB.den σ ⟨t,cs,.all⟩).kind≠.map:=by simp
     simp only[SRes.Ok,E.den,O1.den,U.val_uv,zaT,zdn,hs,hd,za4 hb hk,hz,SB.den,he,dv,jJd];rw[if_pos hc];rfl
    ·trivial
   ·trivial
  ·rename_i u t cs hs hd hb;have hb:=SH.look_den hw hb;split
   ·rename_i es z he hz;have he:(cs.den σ).lst=dv σ es:=E.items_den σ _ _ he;split
    ·rename_i hc;have hk:(SB.den σ ⟨t,cs,.all⟩).kind≠.map:=by simp
     simp only[SRes.Ok,E.den,O1.den,U.val_uv,zaT,zdn,hs,hd,za4 hb hk,hz,SB.den,he,dv,jJd];rw[if_pos ⟨hc.1,trivial,hc.2⟩];rfl
    ·trivial
   ·trivial
  ·trivial
 ·exact zs9 src dst _
theorem ze0 {ty e:TypeId}{sz bs k:Nat}{z x:V}{new:List V}{K:zaa}(hu:T.und ty=some (.slice e))(hz:T.size e=some sz)(hbs:T.bytes e=some bs)(hzr:T.zero e=some z)(hc:0<sz∧z.cells.length=sz∧bs≤1000000)
 (ha:za7 T e sz K x=some (new,k))(hf:new.all zeA=true)(hk:0<k)(h1:k*bs≤1099511627776)(h2:k≤1099511627776):zaN T ty .nils x K=.val (.sl K.length sz 0 k none) (K++[some ⟨e,new,.more⟩]):=by
 simp only[zaN,hu,hz,hbs,hzr,ha];rw[if_pos ⟨hc.1,hc.2.1,hc.2.2,hf⟩,if_neg (by omega),if_pos ⟨h1,h2⟩,zaX]
theorem zeE {ty e:TypeId}{sz bs k n len:Nat}{z x:V}{new:List V}{K:zaa}{b:Blk}(hu:T.und ty=some (.slice e))(hz:T.size e=some sz)(hbs:T.bytes e=some bs)(hzr:T.zero e=some z)(hc:0<sz∧z.cells.length=sz∧bs≤1000000)
 (ha:za7 T e sz K x=some (new,k))(hf:new.all zeA=true)(hk:0<k)(h1:(len+k)*bs≤1099511627776)(h2:len+k≤1099511627776)(hb:K[n]? = some (some b))(hm:b.kind≠.map)(hl:len*sz=b.cells.length)(hty:b.ty=e) :
 zaN T ty (.sl n sz 0 len none) x K=.val (.sl K.length sz 0 (len+k) none) (K.set n none++[some ⟨e,b.cells++new,.more⟩]):=by
 have hcut:cut b.cells (0*sz) (len*sz)=some b.cells:=by
  unfold cut;rw[if_pos (by omega),Nat.zero_mul,jFc,jTb (by omega)]
 simp only[zaN,hu,hz,hbs,hzr,ha];rw[if_pos ⟨hc.1,hc.2.1,hc.2.2,hf⟩,if_pos ⟨trivial,h1,h2⟩];simp only[za4 hb hm,hcut];rw[if_neg (by omega),if_pos ⟨trivial,hl,hty⟩];simp only[setK_eq,zaX]
theorem ziY {ty e:TypeId}{sz bs:Nat}{z x:V}{K:zaa}(hu:T.und ty=some (.slice e))(hz:T.size e=some sz)(hbs:T.bytes e=some bs)(hzr:T.zero e=some z)(hc:0<sz∧z.cells.length=sz∧bs≤1000000)
 (ha:za7 T e sz K x=some ([],0)):zaN T ty .nils x K=.val .nils K:=by
 simp only[zaN,hu,hz,hbs,hzr,ha];rw[if_pos ⟨hc.1,hc.2.1,hc.2.2,rfl⟩,if_pos trivial]
theorem zke {ty e:TypeId}{sz bs n len:Nat}{z x:V}{K:zaa}{b:Blk}(hu:T.und ty=some (.slice e))(hz:T.size e=some sz)(hbs:T.bytes e=some bs)(hzr:T.zero e=some z)(hc:0<sz∧z.cells.length=sz∧bs≤1000000)
 (ha:za7 T e sz K x=some ([],0))(h1:len*bs≤1099511627776)(h2:len≤1099511627776)(hb:K[n]? = some (some b))(hm:b.kind≠.map)(hl:len*sz=b.cells.length):zaN T ty (.sl n sz 0 len none) x K=.val (.sl n sz 0 len none) K:=by
 have hcut:cut b.cells (0*sz) (len*sz)=some b.cells:=by
  unfold cut;rw[if_pos (by omega),Nat.zero_mul,jFc,jTb (by omega)]
 simp only[zaN,hu,hz,hbs,hzr,ha];rw[if_pos ⟨hc.1,hc.2.1,hc.2.2,rfl⟩,if_pos ⟨trivial,h1,h2⟩];simp only[za4 hb hm,hcut,if_true]
noncomputable def zzA (e sz bs k:Nat)(h:SH)(s:E)(es:List E):SRes:=match s with
 | .cv .nils=>if k*bs≤1099511627776∧k≤1099511627776 then(match sz,es with
  |1,[.f1 (.vi .u8) c]=>.need (zaG .leI (.ci 0) c) (.need (zaG .ltI c (.ci 256)) (.eff (.f2 (.sl 1) h.fresh (.f1 .lenS (.f2 .pushB (.cs []) c))) (h.add (some ⟨e,.f1 .bys (.f2 .pushB (.cs []) c),.more⟩))))
  |sz,es=>.eff (.f2 (.sl sz) h.fresh (.ci k)) (h.add (some ⟨e,toE es,.more⟩)))else .no
 | .f2 (.sl s3) n len=>if s3=sz then(match h.look n,h.put n none with
  |some ⟨t,cs,.more⟩,some h1=>if t=e then(match cs,es,len.same (match cs with | .f1 .bys u=>.f1 .lenS u|_=>.nil),sz with
   | .f1 .bys u,[.f1 (.vi .u8) c],true,1=>.need (zaG .leI (.ci 0) c) (.need (zaG .ltI c (.ci 256)) (.need (zaG .leI (zaG .mul (zaG .add len (.ci 1)) (.ci bs)) (.ci 1099511627776)) (.need (zaG .leI (zaG .add len (.ci 1)) (.ci 1099511627776)) (.eff (.f2 (.sl 1) h1.fresh (.f1 .lenS (.f2 .pushB u c))) (h1.add (some ⟨e,.f1 .bys (.f2 .pushB u c),.more⟩))))))
   |cs,es,_,sz=>.need (zaG .leI (.ci 0) len) (.need (zaG .eqI (zaG .mul len (.ci sz)) (.f1 .lenL cs)) (.need (zaG .leI (zaG .mul (zaG .add len (.ci k)) (.ci bs)) (.ci 1099511627776)) (.need (zaG .leI (zaG .add len (.ci k)) (.ci 1099511627776)) (.eff (.f2 (.sl sz) h1.fresh (.f2 .add len (.ci k))) (h1.add (some ⟨e,.f2 .cat cs (toE es),.more⟩)))))) )else .no
  |_,_=>.no)else .no
 |_=>.no
noncomputable def zzB (e bs:Nat)(h:SH)(s t:E):SRes:=match s with
 | .cv .nils=>.ite (zaG .eqI (zjg t) (.ci 0)) (.val (.cv .nils)) (.need (zaG .leI (zaG .mul (zjg t) (.ci bs)) (.ci 1099511627776)) (.need (zaG .leI (zjg t) (.ci 1099511627776)) (.eff (.f2 (.sl 1) h.fresh (.f1 .lenS t)) (h.add (some ⟨e,.f1 .bys t,.more⟩)))))
 | .f2 (.sl 1) n len=>(match h.look n,h.put n none with
  |some ⟨t2,.f1 .bys u,.more⟩,some h1=>if t2=e then(bif len.same (.f1 .lenS u)then
   .need (zaG .leI (zaG .mul (zaG .add len (zjg t)) (.ci bs)) (.ci 1099511627776)) (.need (zaG .leI (zaG .add len (zjg t)) (.ci 1099511627776)) (.ite (zaG .eqI (zjg t) (.ci 0)) (.val (.f2 (.sl 1) n len)) (.eff (.f2 (.sl 1) h1.fresh (.f1 .lenS (.f2 .app u t))) (h1.add (some ⟨e,.f1 .bys (.f2 .app u t),.more⟩)))))else .no)else .no
  |_,_=>.no)
 |_=>.no
noncomputable def zjx (T:Tab)(ty:TypeId)(h:SH)(s x:E):SRes:=match T.und ty with
 |some (.slice e)=>(match T.size e,T.bytes e,T.zero e with
  |some sz,some bs,some z=>if 0<sz∧z.cells.length=sz∧bs≤1000000 then(match x with
   | .f1 (.slc s2 k) m=>(match h.look m with
    |some ⟨_,cm,.all⟩=>(match cm.items with
     |some es=>if s2=sz∧0<k∧es.length=k*sz∧es.all zlD=true then zzA e sz bs k h s es else .no
     |none=>.no)
    |_=>.no)
   | .f1 .vs t=>if sz=1 then zzB e bs h s t else .no
   |_=>.no)else .no
  |_,_,_=>.no)
 |_=>.no
theorem eqE {a c:E}(h:((zaG .eqI a c).den σ).boo=true):(a.den σ).int=(c.den σ).int:=by
 rw[zbo]at h;exact eq_of_beq h
theorem neE {a c:E}(h:((zaG .eqI a c).den σ).boo=false):(a.den σ).int≠(c.den σ).int:=by
 rw[zbo]at h;have h:((a.den σ).int==(c.den σ).int)=false:=h;simpa using h
theorem zdW {o:O2}{a c:E}:((zaG o a c).den σ).int=((E.f2 o a c).den σ).int:=by rw[zbo]
theorem zhi (hw:h.WF σ){n:E}{h1:SH}{b:SB}(hp:h.put n none=some h1):(h1.add (some b)).WF σ∧(h1.add (some b)).den σ=(h.den σ).set (n.den σ).nat none++[some (b.den σ)]∧(h1.fresh.den σ).nat=(h.den σ).length:=by
 obtain⟨k1,k2⟩:=SH.put_den hw hp;obtain⟨a1,a2,a3⟩:=SH.add_den (b:=some b) k1;refine⟨a1,by rw[a2,k2];rfl,?_⟩;rw[a3,k2,List.length_set]
theorem zuh (hw:h.WF σ){ty e:TypeId}{sz bs k:Nat}{z x:V}{s:E}{es:List E}(hu:T.und ty=some (.slice e))(hz:T.size e=some sz)(hbs:T.bytes e=some bs)(hzr:T.zero e=some z)(hc:0<sz∧z.cells.length=sz∧bs≤1000000)
 (ha:za7 T e sz (h.den σ) x=some (dv σ es,k))(hf:(dv σ es).all zeA=true)(hk:0<k)(hl:es.length=k*sz):SRes.Ok T call σ (h.den σ) (zzA e sz bs k h s es) (zaN T ty (s.den σ).val x (h.den σ)):=by
 unfold zzA;split
 ·split
  ·rename_i hb;have e1:=ze0 hu hz hbs hzr hc ha hf hk hb.1 hb.2;split
   ·rename_i c;intro h1 h2;have h1:0≤(c.den σ).int:=leE h1;have h2:(c.den σ).int<256:=ltE h2;have hk1:k=1:=by simp at hl;omega
    subst hk1;obtain⟨a1,a2,a3⟩:=SH.add_den (b:=some ⟨e,.f1 .bys (.f2 .pushB (.cs []) c),.more⟩) hw;refine⟨?_,a1⟩;simp only[E.den,U.val_uv];rw[e1,a2];simp only[E.den,O1.den,O2.den,U.val_uv,U.int_ui,U.str_us,a3,bD,SB.den,U.lst_ul,jFa,jIa,jVa,jKb,jCa];have:=zj1 [] (c.den σ).int h1 h2;simp only[jFa]at this;rw[show(List.map (fun c=>V.i .u8 c.toNat) [UInt8.ofNat (c.den σ).int.toNat])=zb9 [UInt8.ofNat (c.den σ).int.toNat]from rfl,this];rfl
   ·obtain⟨a1,a2,a3⟩:=SH.add_den (b:=some ⟨e,toE es,.more⟩) hw;refine⟨?_,a1⟩;simp only[E.den,U.val_uv];rw[e1,a2];simp only[E.den,O2.den,U.val_uv,U.int_ui,a3,bD,SB.den,zbS,jCa,dv]
  ·trivial
 ·rename_i s3 n len;split
  ·rename_i hs3;subst hs3;split
   ·rename_i t cs h1 hb hp;have hb:=SH.look_den hw hb;split
    ·rename_i ht;subst ht;split
     ·rename_i u c hb2 hlen;intro n1 n2 n3 n4;have n1:0≤(c.den σ).int:=leE n1;have n2:(c.den σ).int<256:=ltE n2;have hlen:=E.same_eq _ _ hlen;subst hlen;have n3:=leE n3;have n4:=leE n4;simp only[zdW,zbo,E.den,O1.den,O2.den,U.int_ui]at n3 n4;have hk1:k=1:=by simp at hl;omega
      subst hk1;have n5:((u.den σ).str.length+1)*bs≤1099511627776:=Int.ofNat_le.1 (by rw[Int.natCast_mul,Int.natCast_add];exact n3);have e1:=zeE (len:=(u.den σ).str.length) hu hz hbs hzr hc ha hf hk n5 (by omega) hb (by simp) (by simp) rfl;obtain⟨a1,a2,a3⟩:=zhi (b:=⟨t,.f1 .bys (.f2 .pushB u c),.more⟩) hw hp;refine⟨?_,a1⟩;simp only[E.den,O1.den,O2.den,U.val_uv,U.int_ui,jCa];rw[e1,a2];simp only[a3,SB.den,E.den,O1.den,O2.den,U.lst_ul,U.str_us,U.int_ui,jLa,jIa,jVa,jKb];have:=zj1 (u.den σ).str (c.den σ).int n1 n2;simp only[zb9]at this;rw[this];rfl
     ·rename_i hsm;intro n1 n2 n3 n4;have n1:0≤(len.den σ).int:=leE n1;have n2:=eqE n2;have n3:=leE n3;have n4:=leE n4;simp only[zdW,zbo,E.den,O1.den,O2.den,U.int_ui]at n2 n3 n4;obtain⟨m,hm⟩:=Int.eq_ofNat_of_zero_le n1;rw[hm]at n2 n3 n4;have e1:=zeE (len:=m) hu hz hbs hzr hc ha hf hk (Int.ofNat_le.1 (by rw[Int.natCast_mul,Int.natCast_add];exact n3)) (by omega) hb (by simp) (jAd.1 (by rw[Int.natCast_mul];exact n2)) rfl;refine⟨?_,(zhi hw hp).1⟩;obtain⟨-,a2,a3⟩:=zhi (b:=⟨t,.f2 .cat _ (toE _),.more⟩) hw hp;simp only[E.den,O1.den,O2.den,U.val_uv,U.int_ui,hm,jCa];rw[e1,a2];simp only[a3,SB.den,E.den,O2.den,U.lst_ul,U.int_ui,zbS,dv];rw[show((m:Int)+(k:Int)).toNat=m+k from by omega]
    ·trivial
   ·trivial
  ·trivial
 ·trivial
theorem zui (hw:h.WF σ){ty e:TypeId}{bs:Nat}{z:V}{s t:E}(hu:T.und ty=some (.slice e))(hz:T.size e=some 1)(hbs:T.bytes e=some bs)(hzr:T.zero e=some z)(hc:0<1∧z.cells.length=1∧bs≤1000000) :
 SRes.Ok T call σ (h.den σ) (zzB e bs h s t) (zaN T ty (s.den σ).val (.s (t.den σ).str) (h.den σ)):=by
 have ha:za7 T e 1 (h.den σ) (.s (t.den σ).str)=some (zb9 (t.den σ).str,(t.den σ).str.length):=by simp[za7,zb9]
 have hl:((zjg t).den σ).int=((t.den σ).str.length:Nat):=by rw[zcy];rfl
 unfold zzB;split
 ·refine⟨fun h0=>?_,fun h0=>?_⟩
  ·have h0:=eqE h0;rw[hl]at h0;have h0:((t.den σ).str.length:Int)=0:=h0;have h0:(t.den σ).str=[]:=jRb (by omega);rw[h0]at ha;simp only[SRes.Ok,E.den,U.val_uv];rw[ziY hu hz hbs hzr hc (by rw[h0];exact ha)]
  ·have h0:=neE h0;rw[hl]at h0;have h0:((t.den σ).str.length:Int)≠0:=h0;intro n1 n2;have n1:=leE n1;have n2:=leE n2;rw[zdW]at n1;simp only[E.den,O2.den,U.int_ui,hl]at n1 n2;have n5:(t.den σ).str.length*bs≤1099511627776:=Int.ofNat_le.1 (by rw[Int.natCast_mul];exact n1);have e1:=ze0 hu hz hbs hzr hc ha (zj0 _) (by omega) n5 (by omega);obtain⟨a1,a2,a3⟩:=SH.add_den (b:=some ⟨e,.f1 .bys t,.more⟩) hw;refine⟨?_,a1⟩;simp only[E.den,U.val_uv];rw[e1,a2];simp only[E.den,O1.den,O2.den,U.val_uv,U.int_ui,a3,bD,SB.den,U.lst_ul,jCa];rfl
 ·rename_i n len;split
  ·rename_i t2 u h1 hb hp;have hb:=SH.look_den hw hb;split
   ·rename_i ht;subst ht;cases hsm:len.same (.f1 .lenS u)
    ·trivial
    ·have hsm:=E.same_eq _ _ hsm;subst hsm;intro n1 n2;have n1:=leE n1;have n2:=leE n2;rw[zdW]at n1 n2;simp only[zdW,zbo,E.den,O2.den,O1.den,U.int_ui,hl]at n1 n2;have n5:((u.den σ).str.length+(t.den σ).str.length)*bs≤1099511627776:=Int.ofNat_le.1 (by rw[Int.natCast_mul,Int.natCast_add];exact n1);refine⟨fun h0=>?_,fun h0=>?_⟩
     ·have h0:=eqE h0;rw[hl]at h0;have h0:((t.den σ).str.length:Int)=0:=h0;have h0:(t.den σ).str=[]:=jRb (by omega);rw[h0]at ha n5;simp only[SRes.Ok,E.den,O1.den,O2.den,U.val_uv,U.int_ui,jCa];rw[zke hu hz hbs hzr hc (by rw[h0];exact ha) (by simpa using n5) (by omega) hb (by simp) (by simp)]
     ·have h0:=neE h0;rw[hl]at h0;have h0:((t.den σ).str.length:Int)≠0:=h0;have e1:=zeE (len:=(u.den σ).str.length) hu hz hbs hzr hc ha (zj0 _) (by omega) n5 (by omega) hb (by simp) (by simp) rfl;refine⟨?_,(zhi hw hp).1⟩;obtain⟨-,a2,a3⟩:=zhi (b:=⟨t2,.f1 .bys (.f2 .app u t),.more⟩) hw hp;simp only[E.den,O1.den,O2.den,U.val_uv,U.int_ui,jCa];rw[e1,a2];simp only[a3,SB.den,E.den,O1.den,O2.den,U.lst_ul,U.str_us,U.int_ui,jLa,zb9,jPd]
   ·trivial
  ·trivial
 ·trivial
theorem zis (hw:h.WF σ)(ty:TypeId)(s x:E):SRes.Ok T call σ (h.den σ) (zjx T ty h s x) (zaN T ty (s.den σ).val (x.den σ).val (h.den σ)):=by
 unfold zjx;split
 ·rename_i e hu;split
  ·rename_i sz bs z hz hbs hzr;split
   ·rename_i hc;split
    ·rename_i s2 k m;split
     ·rename_i t2 cm hb;have hb:=SH.look_den hw hb;split
      ·rename_i es he;split
       ·rename_i hk;obtain⟨rfl,h1,h2,h3⟩:=hk;have hcs:(cm.den σ).lst=dv σ es:=E.items_den σ _ _ he;have hf:(dv σ es).all zeA=true:=by
         rw[dv,List.all_map];exact jBb.2 fun e hm=>zi5 (jBb.1 h3 e hm)
        have ha:za7 T e s2 (h.den σ) ((E.f1 (.slc s2 k) m).den σ).val=some (dv σ es,k):=by
         simp only[E.den,O1.den,U.val_uv,za7,if_true,za4 hb (show(SB.den σ ⟨t2,cm,.all⟩).kind≠.map by simp),SB.den,hcs,cut,Nat.zero_mul,jKb,jFc];rw[if_pos (by simp[dv];omega),jTb (by simp[dv];omega)];rfl
        exact zuh hw hu hz hbs hzr hc ha hf h1 h2
       ·trivial
      ·trivial
     ·trivial
    ·split
     ·rename_i h1;subst h1;exact zui hw hu hz hbs hzr hc
     ·trivial
    ·trivial
   ·trivial
  ·trivial
 ·trivial
def zsZ:Nat→List E→List E
 |0,_=>[]
 |n+1,l=>l++zsZ n l
theorem zmZ:∀(n:Nat)(l:List E),dv σ (zsZ n l)=zgo n (dv σ l)
 |0,_=>rfl
 |n+1,l=>by
  have:=zmZ n l;simp only[dv,zsZ,jPd,zgo]at this ⊢;rw[this]
theorem zpr (s:Bs):cut (zb9 s) 0 s.length=some (zb9 s):=by
 have hl:(zb9 s).length=s.length:=by simp[zb9]
 unfold cut;rw[if_pos (by omega),jFc,jTb (by omega)]
theorem zrr {ty e:TypeId}(hu:T.und ty=some (.pointer e))(hz:T.size e=some 1){K:zaa}{n:Nat}{b:Blk}{s:Bs}(hb:K[n]? = some (some b))(hk:b.kind≠.map)(hc:b.cells=zb9 s)(hty:b.ty=e){k:IntKind}(m:Int)(hm:m=s.length)(h0:0<m)(h1:m≤1099511627776) :
 zaL T ty (.ptr n 0) (.i k m) K=.val (.s s) (K.set n (some ⟨e,.tup []::zb9 s,.map⟩)):=by
 have hne:¬m=0:=by omega
 have hmn:m.toNat=s.length:=by omega
 simp only[zaL,if_neg hne,if_pos (And.intro h0 h1),hu,za4 hb hk,hty,hz,if_true,and_self,hc,hmn,zpr,zd8,setK_eq]
theorem zrs {ty e:TypeId}(hu:T.und ty=some (.pointer e))(hz:T.size e=some 1){K:zaa}{n:Nat}{s:Bs}(hb:K[n]? = some (some ⟨e,.tup []::zb9 s,.map⟩)){k:IntKind}(m:Int)(hm:m=s.length)(h0:0<m)(h1:m≤1099511627776) :
 zaL T ty (.ptr n 0) (.i k m) K=.val (.s s) K:=by
 have hne:¬m=0:=by omega
 have hmn:m.toNat=s.length:=by omega
 have e1:zap K n=none:=by simp[zap,hb]
 have e2:zi6 K n=some ⟨e,zb9 s,.map⟩:=by simp[zi6,hb,zgX]
 simp only[zaL,if_neg hne,if_pos (And.intro h0 h1),hu,e1,e2,hz,if_true,and_self,hmn,zpr,zd8]
noncomputable def zl1 (T:Tab)(ty:TypeId)(h:SH)(n len:E):SRes:=match T.und ty,h.look n with
 |some (.pointer e),some ⟨t,.f1 .bys s,.more⟩=>if t=e∧T.size e=some 1∧len.same (.f1 .lenS s)=true then
  .need (zaG .ltI (.ci 0) len) (.need (zaG .leI len (.ci 1099511627776)) (match h.put n (some ⟨e,.f2 .cons (.cv (.tup [])) (.f1 .bys s),.map⟩)with|some h1=>.eff (.f1 .vs s) h1|none=>.no))else .no
 |some (.pointer e),some ⟨t,.f2 .cons (.cv (.tup [])) (.f1 .bys s),.map⟩=>if t=e∧T.size e=some 1∧len.same (.f1 .lenS s)=true then
  .need (zaG .ltI (.ci 0) len) (.need (zaG .leI len (.ci 1099511627776)) (.val (.f1 .vs s)))else .no
 |_,_=>.no
theorem zok (hw:h.WF σ)(ty:TypeId)(n len:E)(k:IntKind):SRes.Ok T call σ (h.den σ) (zl1 T ty h n len) (zaL T ty (.ptr (n.den σ).nat 0) (.i k (len.den σ).int) (h.den σ)):=by
 unfold zl1;split
 ·rename_i e t s hu hb;have hb:=SH.look_den hw hb;split
  ·rename_i hc;obtain⟨rfl,h3,h4⟩:=hc;have h4:=E.same_eq _ _ h4;subst h4;intro n1 n2;have n1:=ltE n1;have n2:=leE n2;simp only[E.den,O1.den,U.int_ui]at n1 n2;split
   ·rename_i h1 hp;obtain⟨k1,k2⟩:=SH.put_den hw hp;refine⟨?_,k1⟩;have hk:(SB.den σ ⟨t,.f1 .bys s,.more⟩).kind≠.map:=by simp
    show zaL T ty (.ptr (n.den σ).nat 0) (.i k ((s.den σ).str.length:Nat)) (h.den σ)=.val (.s (s.den σ).str) (h1.den σ);rw[zrr hu h3 hb hk rfl rfl _ rfl n1 n2,k2];rfl
   ·trivial
  ·trivial
 ·rename_i e t s hu hb;have hb:=SH.look_den hw hb;split
  ·rename_i hc;obtain⟨rfl,h3,h4⟩:=hc;have h4:=E.same_eq _ _ h4;subst h4;intro n1 n2;have n1:=ltE n1;have n2:=leE n2;simp only[E.den,O1.den,U.int_ui]at n1 n2;show zaL T ty (.ptr (n.den σ).nat 0) (.i k ((s.den σ).str.length:Nat)) (h.den σ)=.val (.s (s.den σ).str) (h.den σ);exact zrs hu h3 hb _ rfl n1 n2
  ·trivial
 ·trivial
noncomputable def zvB (T:Tab)(c:Call)(tm:List (Nat×E))(h:SH):SRes:=match svs tm c.args.toList with
 |none=>.no
 |some av=>match c.callee with
  | .value f=>(match sv tm f with
   |some (.f1 (.fn g) cap)=>(match cap.items with
    |some cs=>(match T.ext g with
     |some _=>.ask (.ext g (toE (av++cs)))
     |none=>.ask (.call g (toE (av++cs))))
    |none=>.no)
   |_=>.no)
  | .builtin .len=>(match c.argTypes[0]?,av with
   |some ty,[x]=>zz4 T ty x
   |_,_=>.no)
  | .builtin .append=>(match c.argTypes[0]?,c.argTypes[1]?,av with
   |some ty,some ty2,[s,x]=>(match T.und ty2 with
    |some (.slice _)=>zjx T ty h s x
    |some .string=>zjx T ty h s x
    |_=>.no)
   |_,_,_=>.no)
  | .builtin .unsafeSliceData=>(match av with
   | [.cv .nils]=>.val (.cv .nilp)
   | [.f2 (.sl _) n len]=>.need (zaG .ltI (.ci 0) len) (.val (.f1 (.ptr 0) n))
   |_=>.no)
  | .builtin .unsafeString=>(match c.argTypes[0]?,av with
   |some _,[.cv .nilp,.f1 (.vi _) (.ci 0)]=>.val (.f1 .vs (.cs []))
   |some ty,[.f1 (.ptr 0) n,.f1 (.vi _) len]=>zl1 T ty h n len
   |_,_=>.no)
  |_=>.no
theorem zs8 (hs:zrG σ tm t)(hw:h.WF σ)(c:Call):SRes.Ok T call σ (h.den σ) (zvB T c tm h) (zb0 T call c t (h.den σ)):=by
 unfold zvB;split
 ·trivial
 ·rename_i av has;have has:=zrk hs has;split
  ·rename_i f hf;split
   ·rename_i g cap hg;have hg:=zbD hs hg;split
    ·rename_i cs hcs;have hcs:(cap.den σ).lst=dv σ cs:=E.items_den σ _ _ hcs;split
     ·rename_i F hF;simp only[SRes.Ok,Ask.den,hF,zbS,zb0,has,hf,hg,E.den,O1.den,U.val_uv,hcs,dv,jPd]
     ·rename_i hF;simp only[SRes.Ok,Ask.den,zbS,zb0,has,hf,hg,E.den,O1.den,U.val_uv,hcs,dv,jPd,hF]
    ·trivial
   ·trivial
  ·rename_i hf;split
   ·simp only[zb0,has,hf,jJb,List.map_nil, *];exact zvF _ _
   ·trivial
  ·rename_i hf;split
   ·rename_i ty ty2 s x h1 h2;split
    ·rename_i hu;simp only[zb0,has,hf,jJb,List.map_nil, *];exact zis hw _ _ _
    ·rename_i hu;simp only[zb0,has,hf,jJb,List.map_nil, *];exact zis hw _ _ _
    ·trivial
   ·trivial
  ·rename_i hf;split
   ·simp only[zb0,has,hf,jJb,List.map_nil];rfl
   ·intro h1;have h1:=ltE h1;simp only[zb0,has,hf,jJb,List.map_nil,E.den,O2.den,U.val_uv,zdp];simp only[E.den,U.int_ui]at h1;rw[if_pos (by omega)];simp[SRes.Ok,lift]
   ·trivial
  ·rename_i hf;split
   ·simp only[zb0,has,hf,jJb,List.map_nil, *];rfl
   ·simp only[zb0,has,hf,jJb,List.map_nil, *];exact zok hw _ _ _ _
   ·trivial
  ·trivial
noncomputable def znW (place:Nat→Option (Nat×Nat))(cells:List E):List (Nat×E)→Option (List E)
 | []=>some cells
 |(i,v)::rest=>match place i,zj4 v with
  |some (off,size),some cs=>if cs.length=size∧off+cs.length≤cells.length then znW place (zjH cells off cs) rest else none
  |_,_=>none
theorem zgh {place:Nat→Option (Nat×Nat)}:∀{ps:List (Nat×E)}{cells r:List E},znW place cells ps=some r→zes place (dv σ cells) (ps.map fun p=>(p.1,(p.2.den σ).val))=some (dv σ r)
 | [],cells,r,h=>by cases h;rfl
 |(i,v)::rest,cells,r,h=>by
  simp only[znW]at h;split at h
  ·rename_i off size cs hp hc;split at h
   ·rename_i hl;have hc:=(zgD (σ:=σ) hc).1;have ih:=zgh h;rw[ziw]at ih;simp only[jJb,zes,hp,hc];rw[if_pos (by simpa[dv]using hl)];exact ih
   ·cases h
  ·cases h
noncomputable def zhw (tm:List (Nat×E)):List (Nat×Operand)→Option (List (Nat×E))
 | []=>some []
 |(i,o)::r=>match sv tm o,zhw tm r with
  |some x,some l=>some ((i,x)::l)
  |_,_=>none
theorem zfI (h:zrG σ tm t):∀{l:List (Nat×Operand)}{es:List (Nat×E)},zhw tm l=some es→zcc t l=some (es.map fun p=>(p.1,(p.2.den σ).val))
 | [],_,e=>by cases e;rfl
 |(i,o)::r,es,e=>by
  simp only[zhw]at e;split at e
  ·rename_i x l hx hl;cases e;simp only[zcc,zbD h hx,zfI h hl,jJb]
  ·cases e
theorem ziW (l:List V):dv σ (l.map zry)=l:=by
 induction l with
 |nil=>rfl
 |cons v l ih=>simp only[dv,jJb,zmu]at ih ⊢;rw[ih]
noncomputable def zqG (T:Tab)(ty:TypeId)(ps:List (Nat×E)):SRes:=match T.zero ty,T.und ty with
 |some z,some (.struct fs)=>(match zdw T fs.toList with
  |some pl=>(match znW (fun i=>pl[i]?) (z.cells.map zry) ps with
   |some cs=>.val (.f1 .agg (toE cs))
   |none=>.no)
  |none=>.no)
 |some z,some (.array _ e)=>(match T.size e with
  |some n=>(match znW (fun i=>some (i*n,n)) (z.cells.map zry) ps with
   |some cs=>.val (.f1 .agg (toE cs))
   |none=>.no)
  |none=>.no)
 |_,_=>.no
theorem zqH (ty:TypeId)(ps:List (Nat×E)):SRes.Ok T call σ H (zqG T ty ps) (lift (zeF T ty (ps.map fun p=>(p.1,(p.2.den σ).val))) H):=by
 unfold zqG;split
 ·rename_i z fs hz hu;split
  ·rename_i pl hpl;split
   ·rename_i cs hcs;have:=zgh (σ:=σ) hcs;rw[ziW]at this;simp only[SRes.Ok,zeF,hz,hu,hpl,this,jXa,lift,E.den,O1.den,U.val_uv,zbS]
   ·trivial
  ·trivial
 ·rename_i z m e hz hu;split
  ·rename_i n hn;split
   ·rename_i cs hcs;have:=zgh (σ:=σ) hcs;rw[ziW]at this;simp only[SRes.Ok,zeF,hz,hu,hn,this,jXa,lift,E.den,O1.den,U.val_uv,zbS]
   ·trivial
  ·trivial
 ·trivial
noncomputable def zeP (T:Tab)(ty:TypeId)(len:Nat)(ps:List (Nat×E))(h:SH):SRes:=match T.und ty with
 |some (.slice e)=>(match T.size e,T.zero e with
  |some n,some z=>if n=z.cells.length∧0<n∧len*n≤16777216 then(match znW (fun i=>some (i*n,n)) (zsZ len (z.cells.map zry)) ps with
   |some cs=>.eff (.f1 (.slc n len) h.fresh) (h.add (some ⟨e,toE cs,.all⟩))
   |none=>.no)else .no
  |_,_=>.no)
 |_=>.no
theorem zhQ (hw:h.WF σ)(ty:TypeId)(len:Nat)(ps:List (Nat×E)):SRes.Ok T call σ (h.den σ) (zeP T ty len ps h) (zaE T ty len (ps.map fun p=>(p.1,(p.2.den σ).val)) (h.den σ)):=by
 unfold zeP;split
 ·rename_i e hu;split
  ·rename_i n z hn hz;split
   ·rename_i hc;split
    ·rename_i cs hcs;have k1:=zgh (σ:=σ) hcs;rw[zmZ,ziW]at k1;obtain⟨a1,a2,a3⟩:=SH.add_den (b:=some ⟨e,toE cs,.all⟩) hw;refine⟨?_,a1⟩;simp only[zaE,hu,hn,hz,if_pos hc,k1];rw[zaX,a2];simp only[E.den,O1.den,U.val_uv,a3,bD,SB.den,zbS]
    ·trivial
   ·trivial
  ·trivial
 ·trivial
/-! Maps whose keys are known. -/
noncomputable def zgE:E→Option V
 | .f1 (.vi k) (.ci n)=>some (.i k n)
 | .f1 .vs (.cs l)=>some (.s l)
 | .f1 .vb (.cb c)=>some (.b c)
 |_=>none
theorem zfq {e:E}{v:V}(h:zgE e=some v):(e.den σ).val=v:=by
 unfold zgE at h;split at h<;>cases h<;>rfl
noncomputable def zfA (d:Option TypeDesc)(kv:V)(k v:E):List E→Option (List E)
 |k'::v'::l=>match zgE k' with
  |some c=>(match zd2 d kv c with
   |some true=>some (k::v::l)
   |some false=>(match zfA d kv k v l with
    |some r=>some (k'::v'::r)
    |none=>none)
   |none=>none)
  |none=>none
 | [_]=>none
 | []=>some [k,v]
theorem zib {d:Option TypeDesc}{kv:V}{k v:E}(hk:(k.den σ).val=kv):∀{l r:List E},zfA d kv k v l=some r→zdE d kv (v.den σ).val (dv σ l)=some (dv σ r)
 | [],r,h=>by cases h;simp[dv,zdE,hk]
 | [_],r,h=>by cases h
 |k'::v'::l,r,h=>by
  simp only[zfA]at h;split at h
  ·rename_i c hc;have hc:=zfq (σ:=σ) hc;split at h
   ·rename_i hs;cases h;simp only[dv,jJb,zdE,hc,hs,hk]
   ·rename_i hs;split at h
    ·rename_i r' hr;cases h;have ih:=zib hk hr;simp only[dv,jJb,zdE,hc,hs]at ih ⊢;rw[ih]
    ·cases h
   ·cases h
  ·cases h
theorem zlJ {d:Option TypeDesc}{kv:V}{k v:E}:∀{l r:List E},zfA d kv k v l=some r→(zgX (dv σ l)).isNone=true
 | [],_,_=>rfl
 | [_],r,h=>by cases h
 |k'::v'::l,r,h=>by
  simp only[zfA]at h;split at h
  ·rename_i c hc;have hd:=zfq (σ:=σ) hc;unfold zgE at hc;simp only[dv,jJb,hd];split at hc<;>first|(cases hc;rfl)|cases hc
  ·cases h
noncomputable def zjB (T:Tab)(ty:TypeId)(m k v:E)(h:SH):SRes:=match T.und ty,m with
 |some (.map kt _),.f1 .mp n=>(match h.look n with
  |some ⟨t,cs,.map⟩=>(match cs.items,zgE k with
   |some es,some kv=>if zcG (T.und kt) kv=true then(match zfA (T.und kt) kv k v es with
    |some r=>(match h.put n (some ⟨t,toE r,.map⟩)with
     |some h'=>.eff (.cv .un) h'
     |none=>.no)
    |none=>.no)else .no
   |_,_=>.no)
  |_=>.no)
 |_,_=>.no
theorem ziu (hw:h.WF σ)(ty:TypeId)(m k v:E):SRes.Ok T call σ (h.den σ) (zjB T ty m k v h) (zcV T ty (m.den σ).val (k.den σ).val (v.den σ).val (h.den σ)):=by
 unfold zjB;split
 ·rename_i kt et n hu;split
  ·rename_i t cs hb;have hb:=SH.look_den hw hb;split
   ·rename_i es kv he hk;have hk:=zfq (σ:=σ) hk;have he:(cs.den σ).lst=dv σ es:=E.items_den σ _ _ he;split
    ·rename_i hg;split
     ·rename_i r hr;have hfz:=zlJ (σ:=σ) hr;have hr:=zib hk hr;split
      ·rename_i h' hp;obtain⟨k1,k2⟩:=SH.put_den hw hp;refine⟨?_,k1⟩;simp only[E.den,O1.den,U.val_uv,zcV,hu,zdL,hb,SB.den,he,hfz,and_self,if_true,hk,hg,hr,zcL,k2,bD,zbS,dv]
      ·trivial
     ·trivial
    ·trivial
   ·trivial
  ·trivial
 ·trivial
noncomputable def zfF (T:Tab)(ty:TypeId)(ok:Bool)(x:E):SRes:=match T.und ty with
 |some (.interface _)=>.no
 |none=>.no
 |some _=>match x with
  | .f1 (.ifc j) v=>if j=ty then .val (bif ok then .f1 .tup (.f2 .cons v (.f2 .cons (.f1 .vb (.cb true)) .nil))else v)else bif ok then(match T.zero ty with
   |some z=>.val (.f1 .tup (.f2 .cons (ofV z) (.f2 .cons (.f1 .vb (.cb false)) .nil)))
   |none=>.no)else .no
  |_=>.no
theorem zoi (ty:TypeId) (ok:Bool) (x:E):SRes.Ok T call σ H (zfF T ty ok x) (lift (zdm T ty ok (x.den σ).val) H):=by
  cases hd:T.und ty with
  |none=>simp only[zfF,hd];trivial
  |some d=>
    have key:(∃m,d=.interface m)∨(zfF T ty ok x=(match x with
    | .f1 (.ifc j) v=>if j=ty then .val (bif ok then .f1 .tup (.f2 .cons v (.f2 .cons (.f1 .vb (.cb true)) .nil))else v)else bif ok then(match T.zero ty with
      |some z=>.val (.f1 .tup (.f2 .cons (ofV z) (.f2 .cons (.f1 .vb (.cb false)) .nil)))
      |none=>.no)else .no
    |_=>.no)∧∀p,zdm T ty ok p=match p with
    | .ifc t v=>if t=ty then some (bif ok then .tup [v,.b true]else v)else bif ok then(T.zero ty).map fun z=>.tup [z,.b false]else none
    | .nili=>bif ok then(T.zero ty).map fun z=>.tup [z,.b false]else none
    | _=>none):=by
      cases d<;>first|exact .inl ⟨_,rfl⟩|exact .inr ⟨by simp only[zfF,hd],fun p=>by simp only[zdm,hd];cases p<;>rfl⟩
    rcases key with⟨m,rfl⟩|⟨k1,k2⟩
    · simp only[zfF,hd];trivial
    · rw [k1, k2]
      split
      · rename_i j v
        simp only[E.den,O1.den,U.val_uv]
        split
        · cases ok<;>simp[SRes.Ok,lift]
        · cases ok with
          |false=>trivial
          | true=>
            simp only[jVc]
            split
            · rename_i z hz
              simp[SRes.Ok,lift,hz,zlm]
            · trivial
      · trivial
noncomputable def ofO:Option E→SRes
 |some e=>.val e
 |none=>.no
theorem zqm (hs:zrG σ tm t)(x:Operand):SRes.Ok T call σ H (ofO (sv tm x)) (lift (ev1 t x) H):=by
 cases hx:sv tm x with
 |none=>trivial
 |some e=>simp only[ofO,SRes.Ok,zbD hs hx,lift]
noncomputable def zl9 (T:Tab)(op:Op)(tm:List (Nat×E))(h:SH):SRes:=match op with
 | .move x=>ofO (sv tm x)
 | .assign x=>ofO (sv tm x)
 | .pick c a b=>(match sv tm c with
  |some (.f1 .vb c)=>.ite c (ofO (sv tm a)) (ofO (sv tm b))
  |_=>.no)
 | .alloc e=>(match T.zero e with
  |some z=>.eff (.f1 (.ptr 0) h.fresh) (h.add (some ⟨e,toE (z.cells.map zry),.all⟩))
  |none=>.no)
 | .box e x=>(match sv tm x with
  |some v=>(match zj4 v with
   |some cs=>.eff (.f1 (.ptr 0) h.fresh) (h.add (some ⟨e,toE cs,.all⟩))
   |none=>.no)
  |none=>.no)
 | .build ty parts=>(match zhw tm parts.toList with
  |some ps=>zqG T ty ps
  |none=>.no)
 | .buildSlice ty len parts=>(match zhw tm parts.toList with
  |some ps=>zeP T ty len ps h
  |none=>.no)
 | .makeMap ty r=>(match r with
  |none=>.eff (.f1 .mp h.fresh) (h.add (some ⟨ty,.nil,.map⟩))
  |some _=>.no)
 | .mapUpdate ty m k v=>(match sv tm m,sv tm k,sv tm v with
  |some p,some q,some x=>zjB T ty p q x h
  |_,_,_=>.no)
 | .insert ty m k v=>(match sv tm m,sv tm k,sv tm v with
  |some p,some q,some x=>zjB T ty p q x h
  |_,_,_=>.no)
 | .load ty a=>(match sv tm a with
  |some p=>zqP T ty h p
  |none=>.no)
 | .store ty a x=>(match sv tm a,sv tm x with
  |some p,some v=>zl0 T ty h p v
  |_,_=>.no)
 | .nilCheck x=>(match sv tm x with
  |some (.f1 (.ptr off) n)=>.val (.f1 (.ptr off) n)
  |some (.cv (.gp g off))=>.val (.cv (.gp g off))
  |some (.f3 (.ipt z o) l j k)=>.val (.f3 (.ipt z o) l j k)
  |some (.f1 (.fn g) c)=>.val (.f1 (.fn g) c)
  |_=>.no)
 | .binOp op xT x y _=>(match sv tm x,sv tm y with
  |some p,some q=>zz2 T op xT y p q
  |_,_=>.no)
 | .unOp op _ x=>(match sv tm x with
  |some p=>sUn op p
  |none=>.no)
 | .convert src dst x=>(match sv tm x with
  |some p=>zqI T src dst h p
  |none=>.no)
 | .makeInterface ty x=>(match T.und ty,sv tm x with
  |some (.interface _),_=>.no
  |some _,some v=>.val (.f1 (.ifc ty) v)
  |_,_=>.no)
 | .makeFunc (.func g) first captured=>(match first.toList,svs tm captured.toList with
  | [],some cs=>.val (.f1 (.fn g) (toE cs))
  |_,_=>.no)
 | .slice ty x lo hi mx=>(match sv tm x with
  |some p=>zqR T ty tm p lo hi mx
  |none=>.no)
 | .fieldAddr ty x f=>(match sv tm x with
  |some p=>zfG T ty p f
  |none=>.no)
 | .field ty x f=>(match sv tm x with
  |some p=>zqK T ty p f
  |none=>.no)
 | .indexAddr ty x ix=>(match sv tm x,sv tm ix with
  |some p,some q=>zqE T ty p q
  |_,_=>.no)
 | .index ty x ix=>(match sv tm x,sv tm ix with
  |some p,some q=>zqM T ty p q
  |_,_=>.no)
 | .extract x ix=>(match sv tm x with
  |some (.f1 .tup l)=>(match l.items with
   |some es=>ofO (zwy es ix)
   |none=>.no)
  |_=>.no)
 | .lookup ty m k ok=>(match sv tm m,sv tm k with
  |some p,some q=>.ask (.lookup ty p q ok)
  |_,_=>.no)
 | .call c=>zvB T c tm h
 | .panic x=>(match sv tm x with
  |some (.f1 (.ifc ty) v)=>.pan (.f1 (.ifc ty) v)
  |_=>.no)
 | .typeAssert x _ ty ok=>(match sv tm x with
  |some p=>zfF T ty ok p
  |none=>.no)
 |_=>.no
theorem zto (hs:zrG σ tm t)(hw:h.WF σ)(o:Oper):SRes.Ok T call σ (h.den σ) (zl9 T o.op tm h) (zb7 T call o t (h.den σ)):=by
 unfold zl9 zb7;cases ho:o.op;all_goals try dsimp only
 all_goals first
  |trivial
  |exact zqm hs _
  |exact zs8 hs hw _
  |skip
 case pick c a b=>
  split
  ·rename_i e hc;have hc:=zbD hs hc;simp only[E.den,O1.den,U.val_uv]at hc;simp only[hc];refine⟨fun h1=>?_,fun h1=>?_⟩
   ·rw[h1];exact zqm hs _
   ·rw[h1];exact zqm hs _
  ·trivial
 case alloc e=>
  split
  ·rename_i z hz;obtain⟨h1,h2,h3⟩:=SH.add_den (b:=some ⟨e,toE (z.cells.map zry),.all⟩) hw;refine⟨?_,h1⟩;simp only[hz];rw[zaX,h2];simp only[E.den,O1.den,U.val_uv,h3,bD,SB.den,zbS];have:=ziW (σ:=σ) z.cells;simp only[dv]at this;rw[this]
  ·trivial
 case box e x=>
  split
  ·rename_i v hv;have hv:=zbD hs hv;split
   ·rename_i cs hcs;obtain⟨c1,c2⟩:=zgD (σ:=σ) hcs;obtain⟨h1,h2,h3⟩:=SH.add_den (b:=some ⟨e,toE cs,.all⟩) hw;refine⟨?_,h1⟩;simp only[hv,c1,c2,if_true];rw[zaX,h2];simp only[E.den,O1.den,U.val_uv,h3,bD,SB.den,zbS,dv]
   ·trivial
  ·trivial
 case build ty parts=>
  split
  ·rename_i ps hp;rw[zfI hs hp];exact zqH ty ps
  ·trivial
 case buildSlice ty len parts=>
  split
  ·rename_i ps hp;rw[zfI hs hp];exact zhQ hw ty len ps
  ·trivial
 case makeMap ty r=>
  split
  ·obtain⟨a1,a2,a3⟩:=SH.add_den (b:=some ⟨ty,.nil,.map⟩) hw;refine⟨?_,a1⟩;rw[zaX,a2];simp only[E.den,O1.den,U.val_uv,a3,bD,SB.den,U.lst_ul]
  ·trivial
 case mapUpdate ty m k v=>
  split
  ·rename_i p q x hp hq hx;rw[zbD hs hp,zbD hs hq,zbD hs hx];exact ziu hw ty p q x
  ·trivial
 case insert ty m k v=>
  split
  ·rename_i p q x hp hq hx;rw[zbD hs hp,zbD hs hq,zbD hs hx];exact ziu hw ty p q x
  ·trivial
 case load ty a=>
  split
  ·rename_i p hp;rw[zbD hs hp];exact zqQ hw ty p
  ·trivial
 case store ty a x=>
  split
  ·rename_i p v hp hv;rw[zbD hs hp,zbD hs hv];exact zoj hw ty p v
  ·trivial
 case nilCheck x=>
  split;all_goals first
   |trivial
   |(rename_i hx;rw[zbD hs hx];rfl)
 case binOp op xT x y yT=>
  split
  ·rename_i p q hp hq;rw[zbD hs hp,zbD hs hq];exact zvA op xT y p q
  ·trivial
 case unOp op xT x=>
  split
  ·rename_i p hp;rw[zbD hs hp];exact zxK op p
  ·trivial
 case convert src dst x=>
  split
  ·rename_i p hp;rw[zbD hs hp];exact zqJ hw src dst p
  ·trivial
 case makeInterface ty x=>
  cases hd:T.und ty with
  |none=>trivial
  |some d=>
   cases hv:sv tm x with
   |none=>cases d<;>trivial
   |some v=>
    have hv:=zbD hs hv;cases d<;>first|trivial|(simp only[hv,SRes.Ok,E.den,O1.den,U.val_uv];done)
 case makeFunc fn first captured=>
  cases fn with
  |func g=>
   simp only;split
   ·rename_i cs hf hc;simp only[hf,zrk hs hc,SRes.Ok,E.den,O1.den,U.val_uv,zbS]
   ·trivial
  |_=>trivial
 case slice ty x lo hi mx=>
  split
  ·rename_i p hp;rw[zbD hs hp];exact zqS hs ty p lo hi mx
  ·trivial
 case fieldAddr ty x f=>
  split
  ·rename_i p hp;rw[zbD hs hp];exact zjz ty p f
  ·trivial
 case field ty x f=>
  split
  ·rename_i p hp;rw[zbD hs hp];exact zqL ty p f
  ·trivial
 case indexAddr ty x ix=>
  split
  ·rename_i p q hp hq;rw[zbD hs hp,zbD hs hq];exact zqF ty p q
  ·trivial
 case index ty x ix=>
  split
  ·rename_i p q hp hq;rw[zbD hs hp,zbD hs hq];exact zqN ty p q
  ·trivial
 case extract x ix=>
  split
  ·rename_i l hx;have hx:=zbD hs hx;split
   ·rename_i es he;have he:(l.den σ).lst=dv σ es:=E.items_den σ _ _ he;simp only[hx,E.den,O1.den,U.val_uv,he];rw[zcf];cases hn:es[ix]? with
    |none=>trivial
    |some e=>simp[ofO,SRes.Ok,hn,lift]
   ·trivial
  ·trivial
 case lookup ty m k ok=>
  split
  ·rename_i p q hp hq;simp only[zbD hs hp,zbD hs hq,SRes.Ok,Ask.den]
  ·trivial
 case panic x=>
  split
  ·rename_i ty v hx;simp only[zbD hs hx,E.den,O1.den,U.val_uv,SRes.Ok]
  ·trivial
 case typeAssert x xT ty ok=>
  split
  ·rename_i p hp;rw[zbD hs hp];exact zoi ty ok p
  ·trivial
end
open Go
inductive Srt where
  |i|b|s|v|n|l|h
@[simp] def exU:List Srt→(List U→Prop)→Prop
 | [],p=>p []
 | .i::r,p=>∃x:Int,exU r fun us=>p (.ui x::us)
 | .b::r,p=>∃x:Bool,exU r fun us=>p (.ub x::us)
 | .s::r,p=>∃x:Bs,exU r fun us=>p (.us x::us)
 | .v::r,p=>∃x:V,exU r fun us=>p (.uv x::us)
 | .n::r,p=>∃x:Nat,exU r fun us=>p (.un x::us)
 | .l::r,p=>∃x:List V,exU r fun us=>p (.ul x::us)
 | .h::r,p=>∃x:zaa,exU r fun us=>p (.uh x::us)
theorem zb3:∀{l:List Srt}{p:List U→Prop},exU l p→∃us,us.length=l.length∧p us
 | [],p,h=>⟨[],rfl,h⟩
 | .i::r,p,⟨x,h⟩=>by obtain⟨us,h1,h2⟩:=zb3 h;exact⟨_,by simp[h1],h2⟩
 | .b::r,p,⟨x,h⟩=>by obtain⟨us,h1,h2⟩:=zb3 h;exact⟨_,by simp[h1],h2⟩
 | .s::r,p,⟨x,h⟩=>by obtain⟨us,h1,h2⟩:=zb3 h;exact⟨_,by simp[h1],h2⟩
 | .v::r,p,⟨x,h⟩=>by obtain⟨us,h1,h2⟩:=zb3 h;exact⟨_,by simp[h1],h2⟩
 | .n::r,p,⟨x,h⟩=>by obtain⟨us,h1,h2⟩:=zb3 h;exact⟨_,by simp[h1],h2⟩
 | .l::r,p,⟨x,h⟩=>by obtain⟨us,h1,h2⟩:=zb3 h;exact⟨_,by simp[h1],h2⟩
 | .h::r,p,⟨x,h⟩=>by obtain⟨us,h1,h2⟩:=zb3 h;exact⟨_,by simp[h1],h2⟩
inductive SK where
  |pure|reads|turns
  |keeps (u:List (Nat×Option E))
structure Shape where
  so:List Srt
  res:E
  kind:SK
  pan:Bool
inductive LO where
  |norm|exit (id:Nat)|ret|pan (x:E)|stop (p:List Bool)|again (p:List Bool)
inductive Tree where
  |leaf (o:LO) (keep:List (Nat×E)) (h:SH)
  |ite (e:E) (a c:Tree)
  |need (e:E) (a:Tree)
  |ask (q:Ask) (h:SH) (so:List Srt) (r:E) (eff:Bool) (k kp:Tree)
  |asks (q:Ask) (so:List Srt) (r:E) (k kp:Tree)
  |askk (q:Ask) (h:SH) (so:List Srt) (r:E) (l:List (E×SB)) (k kp:Tree)
  |leti (e:E) (k:Tree)
  |lets (e:E) (k:Tree)
  |fin (x:E) (h:SH)
  |pnc (x:E) (h:SH)
  |stuck (n:Nat)
@[simp] def zai (σ:List U)(t:Tm)(p:Prop):List (Nat×E)→Prop
 | []=>p
 |(k,e)::r=>t.get k=(e.den σ).val→zai σ t p r
@[simp] def VC (T:Tab)(call:zad)(w:Nat)(L:LO→List U→Tm→zaa→Prop)(R:OR→Prop):List U→Tree→Prop
 |σ,.leaf o keep h=>∀t:Tm,t.wid=w→zai σ t (L o σ t (h.den σ)) keep
 |σ,.ite e a c=>((e.den σ).boo=true→VC T call w L R σ a)∧((e.den σ).boo=false→VC T call w L R σ c)
 |σ,.need e a=>(e.den σ).boo=true∧VC T call w L R σ a
 |σ,.ask q h so r eff k kp=>(exU so fun us=>if eff=true then ∃H',q.den T call σ (h.den σ)=.val (r.den (σ++.uh H'::us)).val H'∧VC T call w L R (σ++.uh H'::us) k else q.den T call σ (h.den σ)=.val (r.den (σ++us)).val (h.den σ)∧VC T call w L R (σ++us) k) ∨
  ∃v H',q.den T call σ (h.den σ)=.pan v H'∧VC T call w L R (σ++[.uv v,.uh H']) kp
 |σ,.asks q so r k kp=>(exU so fun us=>(∀K,q.den T call σ K=.val (r.den (σ++us)).val K)∧VC T call w L R (σ++us) k)∨∃v,(∀K,q.den T call σ K=.pan v K)∧VC T call w L R (σ++[.uv v]) kp
 |σ,.askk q h so r l k kp=>(exU so fun us=>∃H',q.den T call σ (h.den σ)=.val (r.den (σ++.uh H'::us)).val H'∧zbB (σ++.uh H'::us) H' l∧VC T call w L R (σ++.uh H'::us) k) ∨
  ∃v H',q.den T call σ (h.den σ)=.pan v H'∧VC T call w L R (σ++[.uv v,.uh H']) kp
 |σ,.leti e k=>∀x:Int,x=(e.den σ).int→VC T call w L R (σ++[.ui x]) k
 |σ,.lets e k=>∀x:Bs,x=(e.den σ).str→VC T call w L R (σ++[.us x]) k
 |σ,.fin x h=>R (.val (x.den σ).val (h.den σ))
 |σ,.pnc x h=>R (.pan (x.den σ).val (h.den σ))
 |_,.stuck _=>False
section
variable {α:Type}
noncomputable def fBK (b:BK)(k:BK→α):α:=BK.rec (k .all) (k .more) (k .map) b
theorem ztJ (b:BK)(k:BK→α):fBK b k=k b:=by cases b<;>rfl
noncomputable def fSB (b:Option SB)(k:Option SB→α):α:=match b with
 |some ⟨ty,cs,kd⟩=>fN ty fun ty=>fE cs fun cs=>fBK kd fun kd=>k (some ⟨ty,cs,kd⟩)
 |none=>k none
theorem ztL (b:Option SB)(k:Option SB→α):fSB b k=k b:=by
 cases b with
 |none=>rfl
 |some b=>simp only[fSB,zcp,zer,ztJ]
noncomputable def zuQ (l:List (E×Option SB)):(List (E×Option SB)→α)→α:=List.rec (motive:=fun _=>(List (E×Option SB)→α)→α) (fun k=>k []) (fun p _ r k=>fE p.1 fun e=>fSB p.2 fun b=>r fun l=>k ((e,b)::l)) l
theorem zmz:∀(l:List (E×Option SB))(k:List (E×Option SB)→α),zuQ l k=k l
 | [],_=>rfl
 |p::r,k=>by
  show fE p.1 (fun e=>fSB p.2 fun b=>zuQ r fun l=>k ((e,b)::l))=_;rw[zer,ztL,zmz r]
noncomputable def zzR (l:List (Option SB)):(List (Option SB)→α)→α:=List.rec (motive:=fun _=>(List (Option SB)→α)→α) (fun k=>k []) (fun p _ r k=>fSB p fun b=>r fun l=>k (b::l)) l
theorem zpR:∀(l:List (Option SB))(k:List (Option SB)→α),zzR l k=k l
 | [],_=>rfl
 |p::r,k=>by
  show fSB p (fun b=>zzR r fun l=>k (b::l))=_;rw[ztL,zpR r]
noncomputable def fSH (h:SH)(k:SH→α):α:=SH.rec (fun b s n=>fE b fun b=>zuQ s fun s=>zzR n fun n=>k ⟨b,s,n⟩) h
theorem zw7 (h:SH)(k:SH→α):fSH h k=k h:=by
 cases h;simp only[fSH,zer,zmz,zpR]
end

/-! A condition. -/
noncomputable def zzj (st:St)(a:E)(k:St→Bool→Tree):Tree:=match a with
 | .cb y=>k st y
 |a=>match zss st.kn a with
  |some y=>k st y
  |none=>bif a.scop st.nv then .ite a (match st with|⟨tm,h,nv,kn⟩=>k ⟨tm,h,nv,(a,true)::kn⟩ true) (match st with|⟨tm,h,nv,kn⟩=>k ⟨tm,h,nv,(a,false)::kn⟩ false)else .stuck 1
noncomputable def zwV (st:St)(c:E)(k:St→Bool→Tree):Tree:=fE c fun c=>match c with
 | .f1 .not a=>zzj st a fun st y=>k st !y
 |a=>zzj st a k
section
variable {T:Tab}{call:zad}{w:Nat}{L:LO→List U→Tm→zaa→Prop}{R:OR→Prop}{σ:List U}{H:zaa}{t:Tm}{st:St}
theorem Holds.know (hh:Holds w σ st t H) {a:E} {y:Bool} (hs:a.scop st.nv=true) (ha:(a.den σ).boo=y):Holds w σ ⟨st.tm,st.h,st.nv,(a,y)::st.kn⟩ t H where
  wid:=hh.wid
  tm:=hh.tm
  heap:=hh.heap
  wf:=hh.wf
  nv:=hh.nv
  kn p hp:=by
    rcases jOb.1 hp with rfl|hp
    · exact ha
    · exact hh.kn p hp
  sc:=hh.sc
  sh:=hh.sh
  sk p hp:=by
    rcases jOb.1 hp with rfl|hp
    · exact hs
    · exact hh.sk p hp
def zzh (st st':St):Prop:=st'.tm=st.tm∧st'.h=st.h∧st'.nv=st.nv
theorem zps {a:E}{k:St→Bool→Tree}(hv:VC T call w L R σ (zzj st a k))(hh:Holds w σ st t H):∃st',zzh st st'∧Holds w σ st' t H∧VC T call w L R σ (k st' (a.den σ).boo):=by
 unfold zzj at hv;split at hv
 ·exact⟨st,⟨rfl,rfl,rfl⟩,hh,hv⟩
 ·split at hv
  ·rename_i y hy;have:=hh.kn _ (zg7 hy);exact⟨st,⟨rfl,rfl,rfl⟩,hh,by rw[this];exact hv⟩
  ·cases hs:a.scop st.nv
   ·rw[hs]at hv;exact hv.elim
   ·rw[hs]at hv;cases ha:(a.den σ).boo with
    |true=>exact⟨⟨st.tm,st.h,st.nv,(a,true)::st.kn⟩,⟨rfl,rfl,rfl⟩,hh.know hs ha,hv.1 ha⟩
    |false=>exact⟨⟨st.tm,st.h,st.nv,(a,false)::st.kn⟩,⟨rfl,rfl,rfl⟩,hh.know hs ha,hv.2 ha⟩
theorem zlk {c:E}{k:St→Bool→Tree}(hv:VC T call w L R σ (zwV st c k))(hh:Holds w σ st t H):∃st',zzh st st'∧Holds w σ st' t H∧VC T call w L R σ (k st' (c.den σ).boo):=by
 unfold zwV at hv;rw[zer]at hv;split at hv
 ·obtain⟨st',h1,h2,h3⟩:=zps hv hh;exact⟨st',h1,h2,h3⟩
 ·exact zps hv hh
noncomputable def zvf (st:St)(a:E)(k:St→Tree):Tree:=fE a fun a=>match a with
 | .cb true=>k st
 |a=>match zss st.kn a with
  |some true=>k st
  |_=>bif a.scop st.nv then .need a (match st with|⟨tm,h,nv,kn⟩=>k ⟨tm,h,nv,(a,true)::kn⟩)else .stuck 1
theorem zsK {a:E}{k:St→Tree}(hv:VC T call w L R σ (zvf st a k))(hh:Holds w σ st t H):∃st',zzh st st'∧Holds w σ st' t H∧(a.den σ).boo=true∧VC T call w L R σ (k st'):=by
 unfold zvf at hv;rw[zer]at hv;split at hv
 ·exact⟨st,⟨rfl,rfl,rfl⟩,hh,rfl,hv⟩
 ·split at hv
  ·rename_i hy;exact⟨st,⟨rfl,rfl,rfl⟩,hh,hh.kn _ (zg7 hy),hv⟩
  ·cases hs:a.scop st.nv
   ·rw[hs]at hv;exact hv.elim
   ·rw[hs]at hv;exact⟨⟨st.tm,st.h,st.nv,(a,true)::st.kn⟩,⟨rfl,rfl,rfl⟩,hh.know hs hv.1,hv.1,hv.2⟩
noncomputable def zvK (T:Tab)(b:Nat)(fs:List Field):Option (List Srt×List E):=List.rec (motive:=fun _=>Nat→Option (List Srt×List E)) (fun _=>some ([],[])) (fun f _ r b=>match T.und f.type,r (b+1)with
 |some (.int k),some (so,es)=>some (.i::so,.f1 (.vi k) (.va b)::es)
 |some .bool,some (so,es)=>some (.b::so,.f1 .vb (.va b)::es)
 |some .string,some (so,es)=>some (.s::so,.f1 .vs (.va b)::es)
 |some (.slice _),some (so,es)=>some (.v::so,.va b::es)
 |some (.pointer _),some (so,es)=>some (.v::so,.va b::es)
 |some (.map _ _),some (so,es)=>some (.v::so,.va b::es)
 |some (.interface _),some (so,es)=>some (.v::so,.va b::es)
 |_,_=>none) fs b
noncomputable def shT (T:Tab)(ty:Nat)(b:Nat):List Srt×E:=match T.und ty with
 |some (.int k)=>([.i],.f1 (.vi k) (.va b))
 |some .bool=>([.b],.f1 .vb (.va b))
 |some .string=>([.s],.f1 .vs (.va b))
 |some (.struct fs)=>(match zvK T b fs.toList with
  |some (so,es)=>(so,.f1 .agg (toE es))
  |none=>([.v],.va b))
 |_=>([.v],.va b)
noncomputable def zxM (T:Tab)(sh:Nat→Option Shape)(q:Ask):Option Shape:=match q with
 | .call f _=>sh f
 | .ext f _=>sh f
 | .lookup ty _ _ ok=>(match T.und ty with
  |some (.map _ et)=>(match shT T et 0 with
   |(so,e)=>some ⟨bif ok then so++[.b]else so,bif ok then .f1 .tup (.f2 .cons e (.f2 .cons (.f1 .vb (.va so.length)) .nil))else e,.reads,false⟩)
  |_=>none)
 | .load ty _=>match shT T ty 0 with
  |(so,e)=>some ⟨so,e,.reads,false⟩
noncomputable def zzQ {α:Type}(q:Ask)(k:Ask→α):α:=match q with
 | .call f a=>fN f fun f=>fE a fun a=>k (.call f a)
 | .ext f a=>fN f fun f=>fE a fun a=>k (.ext f a)
 | .lookup ty m j ok=>fE m fun m=>fE j fun j=>k (.lookup ty m j ok)
 | .load ty p=>fE p fun p=>k (.load ty p)
theorem zuP {α:Type}(q:Ask)(k:Ask→α):zzQ q k=k q:=by cases q<;>simp[zzQ,zer,zcp]
def opq (n:Nat):SH:=⟨.va n,[],[]⟩
theorem zqn (σ τ:List U)(H:zaa):(opq σ.length).den (σ++.uh H::τ)=H∧(opq σ.length).WF (σ++.uh H::τ):=by
 refine⟨?_,⟨by simp[opq],by simp[opq]⟩⟩;simp[opq]
noncomputable def E.inst (as_:List E)(n:Nat)(e:E):E:=
 E.rec (fun k=>bif Nat.blt k 1000 then .va (n+k)else(as_[k-1000]?).getD .nil) (fun n=>.ci n) (fun n=>.cn n) (fun c=>.cb c) (fun l=>.cs l) (fun x=>.cv x) .nil (fun o _ r=>.f1 o r) (fun o _ _ r q=>.f2 o r q) (fun o _ _ _ r q p=>.f3 o r q p) e
noncomputable def zml:Ask→List E
 | .call _ a=>a.items.getD []
 | .ext _ a=>a.items.getD []
 |_=>[]
def zAH:Ask→Option E
 | .call _ (.f2 .cons (.f1 (.ptr 0) n) _)=>some n
 |_=>none
noncomputable def zsS (self:E)(m:Nat)(es:List E):List (Nat×Option E)→List E
 | []=>es
 |(i,some e)::u=>zsS self m (es.set i (e.up m)) u
 |(i,none)::u=>zsS self m (es.set i (.f1 (.ptr 0) self)) u
noncomputable def zsR (n:E)(m:Nat)(u:List (Nat×Option E))(l:List (E×SB)):List (E×SB):=List.rec [] (fun p _ r=>(bif p.1.same n then(p.1,match p.2.cells.items with|some es=>⟨p.2.ty,toE (zsS n m es u),p.2.kind⟩|none=>p.2)else p)::r) l
theorem zhh (n:E)(m:Nat)(u:List (Nat×Option E)):∀l:List (E×SB),(zsR n m u l).map (·.1)=l.map (·.1)
 | []=>rfl
 |p::r=>by
  show((bif p.1.same n then(p.1,match p.2.cells.items with|some es=>⟨p.2.ty,toE (zsS n m es u),p.2.kind⟩|none=>p.2)else p):E×SB).1::(zsR n m u r).map (·.1)=_;rw[zhh n m u r];cases p.1.same n<;>rfl
noncomputable def fPs {α:Type}(l:List (E×SB)):(List (E×SB)→α)→α:=List.rec (motive:=fun _=>(List (E×SB)→α)→α) (fun k=>k []) (fun p _ r k=>fE p.1 fun e=>(match p.2 with|⟨ty,cs,kd⟩=>fN ty fun ty=>fE cs fun cs=>fBK kd fun kd=>r fun l=>k ((e,⟨ty,cs,kd⟩)::l))) l
theorem ztK {α:Type}:∀(l:List (E×SB))(k:List (E×SB)→α),fPs l k=k l
 | [],_=>rfl
 |(e,⟨ty,cs,kd⟩)::r,k=>by
  show fE e (fun e=>fN ty fun ty=>fE cs fun cs=>fBK kd fun kd=>fPs r fun l=>k ((e,⟨ty,cs,kd⟩)::l))=_;rw[zer,zcp,zer,ztJ,ztK r]
noncomputable def zrA (T:Tab)(sh:Nat→Option Shape)(kv:St→E→Tree)(ke:St→E→Tree)(kp:St→E→Tree):SRes→St→Tree
 | .val e,st=>kv st e
 | .eff e h,st=>fSH h fun h=>bif h.scop st.nv then(match st with|⟨tm,_,nv,kn⟩=>ke ⟨tm,h,nv,kn⟩ e)else .stuck 6
 | .need e r,st=>zvf st e fun st=>zrA T sh kv ke kp r st
 | .ite e a b,st=>zwV st e fun st y=>bif y then zrA T sh kv ke kp a st else zrA T sh kv ke kp b st
 | .ask q,st=>zzQ q fun q=>(match zxM T sh q with
  |some ⟨so,r,kd,pan⟩=>fN so.length fun n'=>(match st with
   |⟨tm,h,nv,kn⟩=>(match kd with
    | .pure=>fE (r.inst (zml q) nv) fun r=>.asks q so r (fN (nv+n') fun m=>kv ⟨tm,h,m,kn⟩ r) (bif pan then fN (nv+1) fun m=>kp ⟨tm,h,m,kn⟩ (.va nv)else .stuck 0)
    | .reads=>fE (r.inst (zml q) nv) fun r=>.ask q h so r false (fN (nv+n') fun m=>kv ⟨tm,h,m,kn⟩ r) (bif pan then fN (nv+1) fun m=>fN (m+1) fun m'=>kp ⟨tm,opq m,m',kn⟩ (.va nv)else .stuck 0)
    | .keeps u=>(match zAH q with
     |some n=>fN (nv+1) fun m=>fN (m+n') fun m'=>fE (r.inst (zml q) m) fun r=>fPs (zsR n m u h.live) fun l=>bif (zjQ nv l).scop m' then .askk q h so r l (ke ⟨tm,zjQ nv l,m',kn⟩ r) (bif pan then fN (nv+1) fun m=>fN (m+1) fun m'=>kp ⟨tm,opq m,m',kn⟩ (.va nv)else .stuck 0)else .stuck 23
     |none=>.stuck 22)
    | .turns=>fN (nv+1) fun m=>fN (m+n') fun m'=>fE (r.inst (zml q) m) fun r=>.ask q h so r true (ke ⟨tm,opq nv,m',kn⟩ r) (bif pan then fN (nv+1) fun m=>fN (m+1) fun m'=>kp ⟨tm,opq m,m',kn⟩ (.va nv)else .stuck 0)))
  |none=>.stuck 8)
 | .pan e,st=>kp st e
 | .no,_=>.stuck 9
inductive Went (T:Tab) (call:zad) (w:Nat) (L:LO→List U→Tm→zaa→Prop) (R:OR→Prop) (σ:List U) (t:Tm) (H:zaa) (kv ke kp:St→E→Tree) (x:OR):Prop
  |val (σ':List U) (st':St) (e:E) (hs:σ <+: σ') (hh:Holds w σ' st' t H) (hv:VC T call w L R σ' (kv st' e)) (hx:x=.val (e.den σ').val H)
  |eff (σ':List U) (st':St) (e:E) (H':zaa) (hs:σ <+: σ') (hh:Holds w σ' st' t H') (hv:VC T call w L R σ' (ke st' e)) (hx:x=.val (e.den σ').val H')
  |pan (σ':List U) (st':St) (e:E) (H':zaa) (hs:σ <+: σ') (hh:Holds w σ' st' t H') (hv:VC T call w L R σ' (kp st' e)) (hx:x=.pan (e.den σ').val H')
theorem Holds.heapTo {h:SH}{H':zaa}(hh:Holds w σ st t H)(e:H'=h.den σ)(hw:h.WF σ)(hs:h.scop st.nv=true):Holds w σ ⟨st.tm,h,st.nv,st.kn⟩ t H':=
 ⟨hh.wid,hh.tm,e,hw,hh.nv,hh.kn,hh.sc,hs,hh.sk⟩
theorem zeO {sh:Nat→Option Shape}{kv ke kp:St→E→Tree}:∀(r:SRes)(st:St)(x:OR),VC T call w L R σ (zrA T sh kv ke kp r st)→Holds w σ st t H→SRes.Ok T call σ H r x→Went T call w L R σ t H kv ke kp x
 | .val e,st,x,hv,hh,ho=>.val σ st e (jHb _) hh hv ho
 | .eff e h,st,x,hv,hh,ho=>by
  simp only[zrA,zw7]at hv;cases hs:h.scop st.nv
  ·rw[hs]at hv;exact hv.elim
  ·rw[hs]at hv;exact .eff σ _ e _ (jHb _) (hh.heapTo rfl ho.2 hs) hv ho.1
 | .need e r,st,x,hv,hh,ho=>by
  obtain⟨st',⟨h1,h2,h3⟩,h4,h5,h6⟩:=zsK hv hh;exact zeO r st' x h6 h4 (ho h5)
 | .ite e a b,st,x,hv,hh,ho=>by
  obtain⟨st',⟨h1,h2,h3⟩,h4,h5⟩:=zlk hv hh;cases hb:(e.den σ).boo with
  |true=>rw[hb]at h5;exact zeO a st' x h5 h4 (ho.1 hb)
  |false=>rw[hb]at h5;exact zeO b st' x h5 h4 (ho.2 hb)
 | .ask q,st,x,hv,hh,ho=>by
  simp only[zrA,zuP]at hv;split at hv
  ·rename_i so r kd pan hq;obtain⟨tm,h,nv,kn⟩:=st;simp only[zcp,zer]at hv;have hH:H=h.den σ:=hh.heap;have hnv:σ.length=nv:=hh.nv;simp only[SRes.Ok]at ho;have val:∀(r:E) (us:List U),us.length=so.length→x=.val (r.den (σ++us)).val H→VC T call w L R (σ++us) (kv ⟨tm,h,nv+so.length,kn⟩ r)→Went T call w L R σ t H kv ke kp x:=fun r us hl h1 h2=>by
    have k:=hh.more us;exact .val (σ++us) ⟨tm,h,nv+so.length,kn⟩ r (jMb ..) (by simpa[hl]using k) h2 h1
   have panic:∀(v:V)(H':zaa),x=.pan v H'→VC T call w L R (σ++[.uv v,.uh H']) (bif pan then kp ⟨tm,opq (nv+1),nv+1+1,kn⟩ (.va nv)else .stuck 0)→Went T call w L R σ t H kv ke kp x:=fun v H' h1 h2=>by
    cases pan with
    |false=>exact h2.elim
    |true=>
     have k:=hh.more [.uv v,.uh H'];have e1:=zqn (σ++[.uv v]) [] H';have hlen:(σ++[U.uv v]).length=nv+1:=by simp[hnv]
     rw[hlen]at e1;simp only[jEb,jEa,jFa]at e1;refine .pan (σ++[.uv v,.uh H']) ⟨tm,opq (nv+1),nv+1+1,kn⟩ (.va nv) H' (jMb ..) ?_ h2 ?_
     ·have k:=k.heapTo (h:=opq (nv+1)) (H':=H') e1.1.symm e1.2 (by simp[opq,SH.scop,E.scop]);simpa using k
     ·rw[h1];simp[←hnv]
   cases kd with
   |pure=>
    simp only[VC]at hv;rcases hv with hv|⟨v,h1,h2⟩
    ·obtain⟨us,hl,h1,h2⟩:=zb3 hv;exact val _ us hl (by rw[ho,h1 H]) h2
    ·cases pan with
     |false=>exact h2.elim
     |true=>
      have k:=hh.more [.uv v];refine .pan (σ++[.uv v]) ⟨tm,h,nv+1,kn⟩ (.va nv) H (jMb ..) (by simpa using k) h2 ?_;rw[ho,h1 H];simp[←hnv]
   |reads=>
    simp only[VC,jSa,if_false]at hv;rcases hv with hv|⟨v,H',h1,h2⟩
    ·obtain⟨us,hl,h1,h2⟩:=zb3 hv;rw[←hH,←ho]at h1;exact val _ us hl h1 h2
    ·rw[←hH,←ho]at h1;exact panic v H' h1 h2
   |keeps u=>
    simp only at hv;split at hv
    ·rename_i n hn;rw[ztK]at hv;generalize hl:zsR n (nv+1) u h.live=l at hv;cases hsc:(zjQ nv l).scop (nv+1+so.length)with
     |false=>rw[hsc]at hv;exact hv.elim
     |true=>
      rw[hsc]at hv;simp only[jVc,VC]at hv;rcases hv with hv|⟨v,H',h1,h2⟩
      ·obtain⟨us,hlen,H',h1,h2,h3⟩:=zb3 hv;rw[←hH,←ho]at h1;have k:=hh.more (.uh H'::us);have e0:(E.va nv).den (σ++.uh H'::us)=.uh H':=by simp[←hnv]
       have e1:H'=(zjQ nv l).den (σ++.uh H'::us):=by
        simp only[zjQ,SH.den,za9,e0,U.heap_uh];exact(zhs h2).symm
       have e2:(zjQ nv l).WF (σ++.uh H'::us):=by
        refine⟨fun p hp=>?_,?_⟩
        ·obtain⟨q,hq,rfl⟩:=jZc.1 hp;simp only[zjQ,e0,U.heap_uh];exact(jGa.1 (zg6 h2 q hq)).1
        ·simp only[zjQ,List.pairwise_map];have k1:=SH.live_ne k.wf;have k2:(h.live.map (·.1)).Pairwise fun a c:E=>(a.den (σ++.uh H'::us)).nat≠(c.den (σ++.uh H'::us)).nat:=by
          rw[List.pairwise_map];exact k1
         rw[←zhh n (nv+1) u,hl,List.pairwise_map]at k2;exact k2
       refine .eff (σ++.uh H'::us) ⟨tm,zjQ nv l,nv+1+so.length,kn⟩ _ H' (jMb ..) ?_ h3 h1
       ·simp only[jIa,hlen,show nv+(so.length+1)=nv+1+so.length from by omega]at k;exact k.heapTo e1 e2 hsc
      ·rw[←hH,←ho]at h1;exact panic v H' h1 h2
    ·exact hv.elim
   |turns=>
    simp only[VC,if_true]at hv;rcases hv with hv|⟨v,H',h1,h2⟩
    ·obtain⟨us,hl,H',h1,h2⟩:=zb3 hv;rw[←hH,←ho]at h1;have k:=hh.more (.uh H'::us);have e1:=zqn σ us H';rw[hnv]at e1;refine .eff (σ++.uh H'::us) ⟨tm,opq nv,nv+1+so.length,kn⟩ _ H' (jMb ..) ?_ h2 h1
     ·have k:=k.heapTo (h:=opq nv) (H':=H') e1.1.symm e1.2 (by simp[opq,SH.scop,E.scop]);simp only[jIa,hl,show nv+(so.length+1)=nv+1+so.length from by omega]at k;exact k
    ·rw[←hH,←ho]at h1;exact panic v H' h1 h2
  ·exact hv.elim
 | .pan e,st,x,hv,hh,ho=>.pan σ st e H (jHb _) hh hv ho
 | .no,st,x,hv,hh,ho=>hv.elim
end
section
abbrev x0:E:=.nil
abbrev x1 (a:E):E:=.f2 .cons a .nil
abbrev x2 (a b:E):E:=.f2 .cons a (x1 b)
abbrev x3 (a b c:E):E:=.f2 .cons a (x2 b c)
abbrev x4 (a b c d:E):E:=.f2 .cons a (x3 b c d)
abbrev xc (n:Int):E:=.ci n
abbrev xk (n:Nat)(c:E):Option SB:=some ⟨n,c,.all⟩
abbrev xR (n:Nat)(c:E):SB:=⟨n,c,.all⟩
abbrev xs (a:E):E:=.f1 .vs a
abbrev xb (a:E):E:=.f1 .vb a
abbrev xm (a:E):E:=.f1 .mp a
abbrev xl (a:E):E:=.f1 .lenS a
abbrev xg (a:E):E:=.f1 .agg a
abbrev xt (a:E):E:=.f1 .tup a
abbrev xn (a:E):E:=.f1 .lenL a
abbrev xy (a:E):E:=.f1 .bys a
abbrev xh (a:E):E:=.f1 .hlen a
abbrev xo (a:E):E:=.f1 .not a
abbrev xi (a:E):E:=.f1 (.vi .i64) a
abbrev xu (a:E):E:=.f1 (.vi .u8) a
abbrev xv (a:E):E:=.f1 (.vi .u64) a
abbrev xj (a:E):E:=.f1 (.vi .i32) a
abbrev xw (a:E):E:=.f1 (.wrap .i64) a
abbrev xz (a:E):E:=.f1 (.wrap .u64) a
abbrev xx (a:E):E:=.f1 (.wrap .u8) a
abbrev xp (a:E):E:=.f1 (.ptr 0) a
abbrev xa (a b:E):E:=.f2 .add a b
abbrev xe (a b:E):E:=.f2 .eqI a b
abbrev xL (a b:E):E:=.f2 .ltI a b
abbrev xE (a b:E):E:=.f2 .leI a b
abbrev xA (a b:E):E:=.f2 .at a b
abbrev xG (a b:E):E:=.f2 .gtI a b
abbrev xH (a b:E):E:=.f2 .geI a b
abbrev xS (a b:E):E:=.f2 .sub a b
abbrev xP (a b:E):E:=.f2 .app a b
abbrev xN (a b:E):E:=.f2 .addn a b
abbrev xB (a b:E):E:=.f2 .pushB a b
abbrev xM (a b:E):E:=.f2 .neI a b
abbrev xQ (a b:E):E:=.f2 .eqS a b
abbrev v0:E:=.va 0
abbrev v1:E:=.va 1
abbrev v2:E:=.va 2
abbrev v3:E:=.va 3
abbrev v4:E:=.va 4
abbrev v5:E:=.va 5
abbrev v6:E:=.va 6
abbrev v7:E:=.va 7
abbrev v8:E:=.va 8
abbrev v9:E:=.va 9
abbrev v10:E:=.va 10
abbrev v11:E:=.va 11
abbrev v12:E:=.va 12
abbrev v13:E:=.va 13
abbrev v14:E:=.va 14
abbrev v15:E:=.va 15
abbrev v16:E:=.va 16
abbrev v17:E:=.va 17
abbrev v18:E:=.va 18
abbrev v19:E:=.va 19
abbrev v20:E:=.va 20
abbrev v21:E:=.va 21
abbrev v22:E:=.va 22
abbrev v23:E:=.va 23
abbrev v24:E:=.va 24
abbrev v25:E:=.va 25
abbrev v26:E:=.va 26
abbrev v27:E:=.va 27
abbrev v28:E:=.va 28
abbrev v29:E:=.va 29
abbrev c0:E:=.ci 0
abbrev c1:E:=.ci 1
abbrev c2:E:=.ci 2
abbrev c3:E:=.ci 3
abbrev c10:E:=.ci 10
end
open Go
section
variable {T:Tab}{call:zad}{w:Nat}{L:LO→List U→Tm→zaa→Prop}{R:OR→Prop}{σ:List U}{H:zaa}{t:Tm}{st:St}
noncomputable def E.size (e:E):Nat:=E.rec (fun _=>0) (fun _=>0) (fun _=>0) (fun _=>0) (fun _=>0) (fun _=>0) 0 (fun _ _ r=>r+1) (fun _ _ _ r q=>r+q+1) (fun _ _ _ _ r q p=>r+q+p+1) e
noncomputable def zmV (w:Nat)(d:Option Tmp)(e:E)(st:St)(k:St→Tree):Tree:=match d with
 |none=>k st
 |some d=>bif Nat.blt d w then(fE e fun e=>bif e.scop st.nv then(match st with|⟨tm,h,nv,kn⟩=>(match e with
  | .f1 (.vi j) a=>bif Nat.blt 7 a.size then .leti a (fN (nv+1) fun m=>k ⟨(d,.f1 (.vi j) (.va nv))::tm,h,m,kn⟩)else k ⟨(d,.f1 (.vi j) a)::tm,h,nv,kn⟩
  | .f1 .vs a=>bif Nat.blt 7 a.size then .lets a (fN (nv+1) fun m=>k ⟨(d,.f1 .vs (.va nv))::tm,h,m,kn⟩)else k ⟨(d,.f1 .vs a)::tm,h,nv,kn⟩
  |e=>k ⟨(d,e)::tm,h,nv,kn⟩))else .stuck 3)else .stuck 4
theorem Holds.set (hh:Holds w σ st t H){d:Nat}{e:E}{v:V}(hs:e.scop st.nv=true)(hv:v=(e.den σ).val):Holds w σ ⟨(d,e)::st.tm,st.h,st.nv,st.kn⟩ (t.put (some d) v) H:=by
 subst hv;refine⟨by rw[Tm.wid_put];exact hh.wid,?_,hh.heap,hh.wf,hh.nv,hh.kn,?_,hh.sh,hh.sk⟩
 ·intro k' e' he;rw[get_put];rcases zpY he with⟨h1,h2⟩|⟨h1,h2⟩
  ·rw[if_pos h1.symm,h2]
  ·rw[if_neg (fun e=>h1 e.symm)];exact hh.tm k' e' h2
 ·intro p hp;rcases jOb.1 hp with rfl|hp
  ·exact hs
  ·exact hh.sc p hp
theorem zcr {d:Option Tmp}{e:E}{k:St→Tree}(hv:VC T call w L R σ (zmV w d e st k))(hh:Holds w σ st t H):t.fits d=true∧∃σ' st',Holds w σ' st' (t.put d (e.den σ).val) H∧VC T call w L R σ' (k st')∧σ <+: σ':=by
 cases d with
 |none=>exact⟨rfl,σ,st,hh,hv,jHb _⟩
 |some d=>
  unfold zmV at hv;cases hd:Nat.blt d w
  ·simp only[hd]at hv;exact hv.elim
  ·simp only[hd,jVc,zer]at hv;refine⟨by rw[zbh,hh.wid,hd],?_⟩;cases hs:e.scop st.nv
   ·rw[hs]at hv;exact hv.elim
   ·rw [hs]at hv;simp only[jVc]at hv;have plain:∀e',e'=e→VC T call w L R σ (k ⟨(d,e')::st.tm,st.h,st.nv,st.kn⟩)→∃σ' st',Holds w σ' st' (t.put (some d) (e.den σ).val) H∧VC T call w L R σ' (k st')∧σ <+: σ':=by
     rintro e' rfl hv;exact⟨σ,_,hh.set hs rfl,hv,jHb _⟩
    have more:∀(u:U)(e':E),VC T call w L R (σ++[u]) (k ⟨(d,e')::st.tm,st.h,st.nv+1,st.kn⟩)→e'.scop (st.nv+1)=true→(e.den σ).val=(e'.den (σ++[u])).val→∃σ' st',Holds w σ' st' (t.put (some d) (e.den σ).val) H∧VC T call w L R σ' (k st')∧σ <+: σ':=fun u e' hv hs' he=>
     ⟨σ++[u],_,(hh.more [u]).set hs' he,hv,jMb ..⟩
    split at hv
    ·rename_i j a;simp only[zcp]at hv;cases hb:Nat.blt 7 a.size
     ·rw[hb]at hv;exact plain _ rfl hv
     ·rw[hb]at hv;refine more (.ui (a.den σ).int) (.f1 (.vi j) (.va st.nv)) (hv _ rfl) (by simp[E.scop]) ?_;simp[←hh.nv]
    ·rename_i a;simp only[zcp]at hv;cases hb:Nat.blt 7 a.size
     ·rw[hb]at hv;exact plain _ rfl hv
     ·rw[hb]at hv;refine more (.us (a.den σ).str) (.f1 .vs (.va st.nv)) (hv _ rfl) (by simp[E.scop]) ?_;simp[←hh.nv]
    ·exact plain _ rfl hv
noncomputable def zow (ops:Array Oper)(o:Oper)(st:St)(k:St→Bool→Tree):Tree:=match o.guard with
 |none=>k st true
 |some (j,want)=>match(ops[j]?).bind (·.dst)with
  |none=>k st false
  |some d=>match zjS st.tm d with
   |some (.f1 .vb c)=>zwV st c fun st y=>k st (y==want)
   |some (.cv (.tup []))=>k st false
   |_=>.stuck 2
theorem zgt {ops:Array Oper}{o:Oper}{k:St→Bool→Tree}(hv:VC T call w L R σ (zow ops o st k))(hh:Holds w σ st t H):∃st' b,zaD ops o t.get=some b∧zzh st st'∧Holds w σ st' t H∧VC T call w L R σ (k st' b):=by
 unfold zow at hv;unfold zaD;split at hv
 ·rename_i hg;exact⟨st,true,by rw[hg],⟨rfl,rfl,rfl⟩,hh,hv⟩
 ·rename_i j want hg;rw[hg];simp only;split at hv
  ·rename_i hd;rw[hd];exact⟨st,false,rfl,⟨rfl,rfl,rfl⟩,hh,hv⟩
  ·rename_i d hd;rw[hd];simp only;split at hv
   ·rename_i c hc;rw[hh.tm _ _ hc];obtain⟨st',h1,h2,h3⟩:=zlk hv hh;exact⟨st',_,rfl,h1,h2,h3⟩
   ·rename_i hc;rw[hh.tm _ _ hc];exact⟨st,false,rfl,⟨rfl,rfl,rfl⟩,hh,hv⟩
   ·exact hv.elim
/-! A region in its order. -/
noncomputable def zwC (T:Tab) (sh:Nat→Option Shape) (w:Nat) (ops:Array Oper) (kp:St→E→Tree):List Oper→St→(St→Tree)→Tree
  | [],st,k=>k st
  | o :: r,st,k=>zow ops o st fun st on=>bif on then
      (match st with|⟨tm,h,nv,kn⟩=>zrA T sh (fun st e=>zmV w o.dst e st fun st=>zwC T sh w ops kp r st k) (fun st e=>zmV w o.dst e st fun st=>zwC T sh w ops kp r st k) kp (zl9 T o.op tm h) ⟨tm,h,nv,kn⟩)
    else zmV w o.dst (.cv .un) st fun st=>zwC T sh w ops kp r st k
def zAE (T:Tab)(call:zad)(w:Nat)(L:LO→List U→Tm→zaa→Prop)(R:OR→Prop)(k:St→Tree)(kp:St→E→Tree):Out→Prop
 | .norm t H=>∃σ st,Holds w σ st t H∧VC T call w L R σ (k st)
 | .pan v t H=>∃σ st e,Holds w σ st t H∧v=(e.den σ).val∧VC T call w L R σ (kp st e)
 |_=>False
theorem Holds.sees (hh:Holds w σ st t H):zrG σ st.tm t.get:=hh.tm
theorem zgr (hh:Holds w σ st t H)(o:Oper):SRes.Ok T call σ H (zl9 T o.op st.tm st.h) (zb7 T call o t.get H):=by
 rw[hh.heap];exact zto hh.sees hh.wf o
theorem zjD {sh:Nat→Option Shape}{ops:Array Oper}{kp:St→E→Tree}{k:St→Tree}:∀(l:List Oper)(σ:List U)(st:St)(t:Tm)(H:zaa),VC T call w L R σ (zwC T sh w ops kp l st k)→Holds w σ st t H→zAE T call w L R k kp (zaK (zb7 T call) ops l t H)
 | [],σ,st,t,H,hv,hh=>⟨σ,st,hh,hv⟩
 |o::r,σ,st,t,H,hv,hh=>by
  simp only[zwC]at hv;obtain⟨st1,b,hw,_,hh1,hv⟩:=zgt hv hh;simp only[zaK,hw];cases b with
  |false=>
   simp only[jMd]at hv;obtain⟨hf,σ2,st2,hh2,hv,hp2⟩:=zcr hv hh1;simp only[zbJ,hf,if_true];exact zjD r σ2 st2 _ H hv hh2
  |true=>
   simp only[jVc]at hv;rcases zeO _ _ _ hv hh1 (zgr hh1 o)with⟨σ',st',e,hs',hh',hv',hx⟩|⟨σ',st',e,H',hs',hh',hv',hx⟩|⟨σ',st',e,H',hs',hh',hv',hx⟩
   ·obtain⟨hf,σ2,st2,hh2,hv2,hp2⟩:=zcr hv' hh';simp only[hx,zbp,zbJ,hf,if_true];exact zjD r σ2 st2 _ H hv2 hh2
   ·obtain⟨hf,σ2,st2,hh2,hv2,hp2⟩:=zcr hv' hh';simp only[hx,zbp,zbJ,hf,if_true];exact zjD r σ2 st2 _ H' hv2 hh2
   ·simp only[hx];exact⟨σ',st',e,hh',rfl,hv'⟩
/-! A region that draws its order and turns nothing; an operation in it may panic. -/
def zzk (ops:Array Oper):List Nat:=ops.toList.filterMap (·.dst)
noncomputable def zwA (ms:List Nat)(w:Nat)(ops:Array Oper)(T:Tab)(sh:Nat→Option Shape)(q:Nat):Nat→List Oper→St→(St→Tree)→Tree
 |_,[],st,k=>k st
 |i,o::r,st,k=>bif (ms.getD i 0).testBit q then zmV w o.dst (.cv .un) st fun st=>zwA ms w ops T sh q (i+1) r st k else
  zow ops o st fun st on=>bif on then
   (match st with|⟨tm,h,nv,kn⟩=>zrA T sh (fun st e=>zmV w o.dst e st fun st=>zwA ms w ops T sh q (i+1) r st k) (fun _ _=>.stuck 10) (fun _ _=>.stuck 11) (zl9 T o.op tm h) ⟨tm,h,nv,kn⟩)
  else zmV w o.dst (.cv .un) st fun st=>zwA ms w ops T sh q (i+1) r st k
def zlM (ms:List Nat)(q:Nat):Nat→List Oper→List Bool
 |_,[]=>[]
 |i,_::r=>(ms.getD i 0).testBit q::zlM ms q (i+1) r
theorem zjl {ms:List Nat} {sh:Nat→Option Shape} {ops:Array Oper} {q:Nat} {v:V} {J:zaa} {k:St→Tree}:∀(l:List Oper) (i:Nat) (σ:List U) (st:St) (t:Tm) (H:zaa),q<i→VC T call w L R σ (zwA ms w ops T sh q i l st k)→Holds w σ st t H →
    QP (zb7 T call) ops H q v J i l (zlM ms q i l) t∧∃σ' st' t',Holds w σ' st' t' H∧VC T call w L R σ' (k st')∧σ <+: σ'
  | [],i,σ,st,t,H,hq,hv,hh=>⟨.nil,σ,st,t,hh,hv,jHb _⟩
  | o :: r,i,σ,st,t,H,hq,hv,hh=>by
    have hne:(i==q)=false:=by simp;omega
    simp only[zwA]at hv
    simp only[zlM]
    cases hb:(ms.getD i 0).testBit q with
    | true=>
      simp only[hb,jVc]at hv
      obtain⟨hf,σ2,st2,hh2,hv2,hp2⟩:=zcr hv hh
      obtain⟨h1,σ',st',t',h2,h3,h4⟩:=zjl (v:=v) (J:=J) r (i+1) σ2 st2 _ H (by omega) hv2 hh2
      exact⟨.skip hne hf h1,σ',st',t',h2,h3,hp2.trans h4⟩
    | false=>
      simp only[hb,jMd]at hv
      obtain⟨st1,b,hw,_,hh1,hv⟩:=zgt hv hh
      cases b with
      | false=>
        simp only[jMd]at hv
        obtain⟨hf,σ2,st2,hh2,hv2,hp2⟩:=zcr hv hh1
        obtain⟨h1,σ',st',t',h2,h3,h4⟩:=zjl (v:=v) (J:=J) r (i+1) σ2 st2 _ H (by omega) hv2 hh2
        exact⟨.off hw hf h1,σ',st',t',h2,h3,hp2.trans h4⟩
      | true=>
        simp only[jVc]at hv
        rcases zeO _ _ _ hv hh1 (zgr hh1 o)with⟨σ',st',e,hs',hh',hv',hx⟩|⟨σ',st',e,H',hs',hh',hv',hx⟩|⟨σ',st',e,H',hs',hh',hv',hx⟩
        · obtain⟨hf,σ2,st2,hh2,hv2,hp2⟩:=zcr hv' hh'
          obtain⟨h1,σ3,st',t',h2,h3,h4⟩:=zjl (v:=v) (J:=J) r (i+1) σ2 st2 _ H (by omega) hv2 hh2
          exact⟨.val hw rfl hx hf h1,σ3,st',t',h2,h3,(hs'.trans hp2).trans h4⟩
        · exact hv'.elim
        · exact hv'.elim
theorem Holds.mix {σ':List U}{st':St}{t':Tm}{H':zaa}(hh:Holds w σ st t H)(hh':Holds w σ' st' t' H')(hp:σ <+: σ'):Holds w σ' ⟨st.tm,st.h,st'.nv,st'.kn⟩ t H:=by
 obtain⟨τ,rfl⟩:=hp;have k:=hh.more τ;have e:st.nv+τ.length=st'.nv:=by rw[←hh'.nv,←hh.nv,jLa]
 exact⟨k.wid,k.tm,k.heap,k.wf,hh'.nv,hh'.kn,by rw[←e];exact k.sc,by rw[←e];exact k.sh,hh'.sk⟩
noncomputable def zhX (ds:List Nat)(l:List (Nat×E)):List (Nat×E):=l.filter fun p=>!(ds.contains p.1)
theorem zgY {ds:List Nat}{k:Nat}{e:E}:∀{l:List (Nat×E)},zjS (zhX ds l) k=some e→k∉ds∧zjS l k=some e
 | [],h=>by cases h
 |p::r,h=>by
  unfold zhX at h;rw[jDc]at h;cases hc:ds.contains p.1 with
  |true=>
   rw[hc]at h;obtain⟨h1,h2⟩:=zgY (l:=r) h;refine⟨h1,?_⟩;show(bif Nat.beq p.1 k then some p.2 else zjS r k)=_;have:Nat.beq p.1 k=false:=by
    cases hb:Nat.beq p.1 k with
    |false=>rfl
    |true=>
     have:=jTc hb;subst this;exact absurd (by simpa using hc) h1
   rw[this];exact h2
  |false=>
   rw[hc]at h;have h:(bif Nat.beq p.1 k then some p.2 else zjS (zhX ds r) k)=some e:=h;show k∉ds∧(bif Nat.beq p.1 k then some p.2 else zjS r k)=_;cases hb:Nat.beq p.1 k with
   |true=>
    rw[hb]at h;have:=jTc hb;subst this;exact⟨by simpa using hc,h⟩
   |false=>
    rw[hb]at h;exact zgY h
theorem zh2:∀(l:List Nat)(t:Tm),(Ev.forget t l).wid=t.wid
 | [],_=>rfl
 |d::l,t=>by simp only[Ev.forget];rw[zh2 l,Tm.wid_put]
theorem Holds.forget (hh:Holds w σ st t H) (ds:List Nat):Holds w σ ⟨zhX ds st.tm,st.h,st.nv,st.kn⟩ (forget t ds) H where
  wid:=(zh2 ds t).trans hh.wid
  tm k e he:=by
    obtain⟨h1,h2⟩:=zgY he
    rw[zcA,if_neg h1]
    exact hh.tm k e h2
  heap:=hh.heap
  wf:=hh.wf
  nv:=hh.nv
  kn:=hh.kn
  sc p hp:=hh.sc p (List.mem_filter.1 hp).1
  sh:=hh.sh
  sk:=hh.sk
noncomputable def zxz (ms:List Nat) (w:Nat) (ops:Array Oper) (T:Tab) (sh:Nat→Option Shape) (tm0:List (Nat×E)) (kp:St→E→Tree):Nat→List Oper→St→(St→Tree)→Tree
  |_,[],st,k=>k st
  | i, o::r,st,k=>zow ops o st fun st on=>bif on then
      (match st with|⟨tm,h,nv,kn⟩=>zrA T sh (fun st e=>zmV w o.dst e st fun st=>zxz ms w ops T sh tm0 kp (i+1) r st k) (fun _ _=>.stuck 12)  (fun st' e=>(match st' with|⟨_,h',nv',kn'⟩=>cond (bif e.scop nv' then zuw ms i (List.replicate i false++true::zlM ms i (i+1) r)else false)  (zmV w o.dst (.cv .un) ⟨tm,h,nv',kn'⟩ fun st=>zwA ms w ops T sh i (i+1) r st fun st2=>(match st2 with|⟨_,_,nv2,kn2⟩=>kp ⟨zhX (zzk ops) tm0,h',nv2,kn2⟩ e)) (.stuck 14)))  (zl9 T o.op tm h) ⟨tm,h,nv,kn⟩)
    else zmV w o.dst (.cv .un) st fun st=>zxz ms w ops T sh tm0 kp (i+1) r st k
theorem zlP {ms:List Nat} {sh:Nat→Option Shape} {ops:Array Oper} {kp:St→E→Tree} {k:St→Tree} {σ0:List U} {st0:St} {t0:Tm} {H0:zaa} (hh0:Holds w σ0 st0 t0 H0):∀(l:List Oper) (i:Nat) (σ:List U) (st:St) (t:Tm) (H:zaa),σ0 <+: σ→VC T call w L R σ (zxz ms w ops T sh st0.tm kp i l st k)→Holds w σ st t H →
    (∃t' σ' st',QR (zb7 T call) ops H l t t'∧Holds w σ' st' t' H∧VC T call w L R σ' (k st')) ∨
    (∃q H' σ' st' e fl,QP (zb7 T call) ops H q (e.den σ').val H' i l fl t∧zuw ms q (List.replicate i false++fl)=true∧Holds w σ' st' (Ev.forget t0 (zzk ops)) H'∧VC T call w L R σ' (kp st' e))
  | [],i,σ,st,t,H,hp,hv,hh=>.inl ⟨t,σ,st,.nil,hh,hv⟩
  | o :: r, i,σ,st,t,H,hp,hv,hh=>by
    simp only[zxz]at hv
    obtain⟨st1,b,hw,_,hh1,hv⟩:=zgt hv hh
    have more:∀fl,List.replicate (i+1) false++fl=List.replicate i false++false::fl:=fun fl=>by
      rw[List.replicate_succ',jEb];rfl
    cases b with
    | false=>
      simp only[jMd]at hv
      obtain⟨hf,σ2,st2,hh2,hv2,hp2⟩:=zcr hv hh1
      rcases zlP hh0 r (i+1) σ2 st2 _ H (hp.trans hp2) hv2 hh2 with⟨t',σ',st',h1,h2,h3⟩|⟨q,H',σ',st',e,fl,h1,h2,h3,h4⟩
      · exact .inl ⟨t',σ',st',.off hw hf h1,h2,h3⟩
      · exact .inr ⟨q,H',σ',st',e,false::fl,.off hw hf h1,by rw[←more];exact h2,h3,h4⟩
    | true =>
      simp only[jVc]at hv
      rcases zeO _ _ _ hv hh1 (zgr hh1 o)with⟨σ',st',e,hs',hh',hv',hx⟩|⟨σ',st',e,H',hs',hh',hv',hx⟩|⟨σ',st',e,H',hs',hh',hv',hx⟩
      · obtain⟨hf,σ2,st2,hh2,hv2,hp2⟩:=zcr hv' hh'
        rcases zlP hh0 r (i+1) σ2 st2 _ H ((hp.trans hs').trans hp2) hv2 hh2 with⟨t',σ3,st',h1,h2,h3⟩|⟨q,H',σ3,st',e,fl,h1,h2,h3,h4⟩
        · exact .inl ⟨t',σ3,st',.val hw rfl hx hf h1,h2,h3⟩
        · exact .inr ⟨q,H',σ3,st',e,false::fl,.val hw rfl hx hf h1,by rw[←more];exact h2,h3,h4⟩
      · exact hv'.elim
      · obtain⟨tm',h',nv',kn'⟩:=st'
        simp only at hv'
        cases hc:(bif e.scop nv' then zuw ms i (List.replicate i false++true::zlM ms i (i+1) r)else false)
        · rw[hc]at hv';exact hv'.elim
        · rw [hc]at hv'
          simp only[jVc]at hv'
          have hsc:e.scop nv'=true∧zuw ms i (List.replicate i false++true::zlM ms i (i+1) r)=true:=by
            cases h1:e.scop nv'
            · rw[h1]at hc;cases hc
            · rw[h1]at hc;exact⟨rfl,hc⟩
          have hm:=hh1.mix hh' hs'
          obtain⟨hf,σ3,st2,hh2,hv2,hp2⟩:=zcr hv' hm
          obtain⟨h1,σ2,⟨tm2,h2',nv2,kn2⟩,t2,h2,h3,h4⟩:=zjl (v:=(e.den σ').val) (J:=H') r (i+1) σ3 st2 _ H (Nat.lt_succ_self _) hv2 hh2
          have h4:=hp2.trans h4
          have he:e.den σ2=e.den σ':=by
            obtain⟨τ,rfl⟩:=h4
            exact E.scop_den σ' τ e (by rw[hh'.nv];exact hsc.1)
          have hf1:=(hh0.forget (zzk ops)).mix h2 ((hp.trans hs').trans h4)
          have hf2:=hh'.mix h2 h4
          refine .inr ⟨i,H',σ2,⟨zhX (zzk ops) st0.tm,h',nv2,kn2⟩,e,true::zlM ms i (i+1) r,?_,hsc.2,?_,h3⟩
          · rw[he]
            exact .stop (by simp) hw rfl hx hf h1
          · exact⟨hf1.wid,hf1.tm,hf2.heap,hf2.wf,hf1.nv,hf1.kn,hf1.sc,hf2.sh,hf1.sk⟩

/-! A region that draws its order and turns the heap. -/
noncomputable def zwt (T:Tab) (sh:Nat→Option Shape) (w:Nat) (ops:Array Oper):List Oper→List DK→St→(List DK→St→Tree)→Tree
  | [],acc,st,k=>k acc st
  | o :: r,acc,st,k=>zow ops o st fun st on=>bif on then
      (match st with|⟨tm,h,nv,kn⟩=>zrA T sh (fun st e=>zmV w o.dst e st fun st=>zwt T sh w ops r (cond (looks o.op) .f .q::acc) st k)  (fun st e=>cond (ze9 o.op) (zmV w o.dst e st fun st=>zwt T sh w ops r (.e::acc) st k) (.stuck 15)) (fun _ _=>.stuck 16) (zl9 T o.op tm h) ⟨tm,h,nv,kn⟩)
    else zmV w o.dst (.cv .un) st fun st=>zwt T sh w ops r (.q::acc) st k
theorem ziV {sh:Nat→Option Shape} {ops:Array Oper} {k:List DK→St→Tree}:∀(l:List Oper) (acc:List DK) (σ:List U) (st:St) (t:Tm) (H:zaa),VC T call w L R σ (zwt T sh w ops l acc st k)→Holds w σ st t H →
    ∃ks t' H' σ' st',DR (zb7 T call) ops (fun _=>True) l ks t H t' H'∧Holds w σ' st' t' H'∧VC T call w L R σ' (k (ks.reverse++acc) st')
  | [],acc,σ,st,t,H,hv,hh=>⟨[],t,H,σ,st,.nil,hh,hv⟩
  | o :: r,acc,σ,st,t,H,hv,hh=>by
    simp only[zwt]at hv
    obtain⟨st1,b,hw,_,hh1,hv⟩:=zgt hv hh
    cases b with
    | false=>
      simp only[jMd]at hv
      obtain⟨hf,σ2,st2,hh2,hv2,hp2⟩:=zcr hv hh1
      obtain⟨ks,t',H',σ',st',h1,h2,h3⟩:=ziV r (.q::acc) σ2 st2 _ H hv2 hh2
      exact⟨.q::ks,t',H',σ',st',.off hw hf h1,h2,by simpa using h3⟩
    | true =>
      simp only[jVc]at hv
      rcases zeO _ _ _ hv hh1 (zgr hh1 o)with⟨σ',st',e,hs',hh',hv',hx⟩|⟨σ',st',e,H',hs',hh',hv',hx⟩|⟨σ',st',e,H',hs',hh',hv',hx⟩
      · obtain ⟨hf,σ2,st2,hh2,hv2,hp2⟩:=zcr hv' hh'
        obtain⟨ks,t',H',σ2,st',h1,h2,h3⟩:=ziV r _ σ2 st2 _ H hv2 hh2
        cases hl:looks o.op with
        | true=>
          rw[hl]at h3
          exact⟨.f::ks,t',H',σ2,st',.fix hw rfl hx hf h1,h2,by simpa using h3⟩
        | false=>
          rw[hl]at h3
          exact⟨.q::ks,t',H',σ2,st',.blind hl hw rfl hx hf h1,h2,by simpa using h3⟩
      · cases he:ze9 o.op with
        |false=>rw[he]at hv';exact hv'.elim
        | true=>
          rw[he]at hv'
          simp only[jVc]at hv'
          obtain⟨hf,σ2,st2,hh2,hv2,hp2⟩:=zcr hv' hh'
          obtain⟨ks,t',H2,σ2,st',h1,h2,h3⟩:=ziV r _ σ2 st2 _ H' hv2 hh2
          exact⟨.e::ks,t',H2,σ2,st',.eff he hw rfl hx hf trivial h1,h2,by simpa using h3⟩
      · exact hv'.elim
end
end Go.Ev
