/- Walks: TokenStrings. TokenStrings returns true. Keywords; slices.Equal on the lists of the keywords and of the symbols. Blanks, comments and tokens of the program are those of the reference. A token in another surrounding: names and numbers. A token in another surrounding: strings and symbols. TokenScans: lists of tokens compared. Walks of the laws without a reference. Lemmas. Tokens without places and lines. Kinds and texts compared. Texts of integers and floats, and their tokens. Blanks and comments in another surrounding. The tokens of a text, of a text that is cut. TokenPlaces returns true. -/
import Derived.Test.YtmjplflnlggbeaaGreatDoorBBD
import Derived.Test.YtmjplflnlggbeaaGreatDoorBT15
import Derived.Test.YtmjplflnlggbeaaGreatDoorBZI
import Derived.Test.YtmjplflnlggbeaaGreatDoorBEvPart2
import Derived.Test.YtmjplflnlggbeaaGreatDoorBYC
namespace Go.Ev
open Go Go.Proofs
set_option linter.unusedSimpArgs false
set_option linter.unusedVariables false
set_option linter.unnecessarySimpa false
open Tryz List
set_option maxRecDepth 1000000
/-! Blanks, comments and tokens of the program are those of the reference. -/
theorem zo1:∀L:List UInt8,(if Lib.indexByte L 10<0 then L.length else(Lib.indexByte L 10).toNat)=lnL L
 | []=>rfl
 |b::L=>by
  have ih:=zo1 L;have hge:=Lib.indexByte_ge L 10;unfold Lib.indexByte lnL;by_cases hb:(b==10)=true
  ·rw[if_pos hb,if_pos hb];rfl
  ·rw[if_neg hb,if_neg hb,←ih];by_cases h:Lib.indexByte L 10= -1
   ·rw[h];rfl
   ·have h1:¬(Lib.indexByte L 10 == -1)=true:=by rw[beq_iff_eq];exact h
    rw[if_neg h1,if_neg (by omega),if_neg (by omega)];omega
theorem zur {s:List UInt8}{i:Nat}{a b:UInt8}(h:za5 (s.drop i) [a,b]=true):(s.take (i+2)).drop i=[a,b]∧i+2≤s.length:=by
 have hl:=zb5 h;rw[length_drop]at hl;simp only[length_cons,length_nil]at hl;simp only[za5,Bool.and_eq_true,beq_iff_eq]at h;rw[drop_take,show i+2-i=2 from by omega];exact⟨h.2,by omega⟩
theorem zt8 {x:List UInt8}{e:Nat}(h:zcM kw zcm x=.inl e):e≠0:=by
 unfold zcM at h;split at h
 ·cases h
 split at h
 ·split at h
  ·cases h
  ·cases h;decide
 split at h
 ·split at h
  ·cases h
  ·cases h;decide
 split at h
 ·split at h
  ·cases h
  ·cases h;decide
 split at h
 ·cases h
 ·cases h;decide
/-! A token hangs on its own bytes and on what stands behind it, as far as that goes on in the same way, or ends, or a blank comes. -/
def zkk (c:UInt8):Bool:=c==32||c==9||c==13||c==10
def BlH (y:List UInt8):Prop:=∀c r,y=c::r→zkk c=true
def zbr (b z:List UInt8):Prop:=∃k y,BlH y∧z=b.take k++y
theorem zcA {c:UInt8}(h:zkk c=true):c=32∨c=9∨c=13∨c=10:=by
 unfold zkk at h;simp only[Bool.or_eq_true,beq_iff_eq]at h;rcases h with((h|h)|h)|h
 ·exact .inl h
 ·exact .inr (.inl h)
 ·exact .inr (.inr (.inl h))
 ·exact .inr (.inr (.inr h))
theorem zbr.head {b z:List UInt8}(h:zbr b z):BlH z∨∃c b' z',b=c::b'∧z=c::z'∧zbr b' z':=by
 obtain⟨k,y,hy,rfl⟩:=h;cases k with
 |zero=>exact .inl (by rw[take_zero,nil_append];exact hy)
 |succ k=>
  cases b with
  |nil=>exact .inl (by rw[take_nil,nil_append];exact hy)
  |cons c b'=>exact .inr ⟨c,b',b'.take k++y,rfl,by rw[take_succ_cons];rfl,k,y,hy,rfl⟩
theorem zbr.no {b z:List UInt8}(h:zbr b z)(p:UInt8→Bool)(hp:p 32=false∧p 9=false∧p 13=false∧p 10=false)(hb:∀c r,b=c::r→p c=false):∀c r,z=c::r→p c=false:=by
 rintro c r rfl;rcases h.head with h|⟨c',b',z',rfl,e,_⟩
 ·rcases zcA (h c r rfl)with rfl|rfl|rfl|rfl
  ·exact hp.1
  ·exact hp.2.1
  ·exact hp.2.2.1
  ·exact hp.2.2.2
 ·rw[(List.cons.inj e).1];exact hb _ _ rfl
theorem zl0 (a z:List UInt8):atR (a++z) a.length=atR z 0:=by
 unfold atR;rw[List.getElem?_append_right (Nat.le_refl _),Nat.sub_self]
theorem zjN (a:List UInt8){i:Nat}(b z:List UInt8)(h:i<a.length):atR (a++z) i=atR (a++b) i:=by
 unfold atR;rw[List.getElem?_append_left h,List.getElem?_append_left h]
theorem zbU (a z:List UInt8){i:Nat}(h:i≤a.length):(a++z).drop i=a.drop i++z:=drop_append_of_le_length h
theorem zee (a z:List UInt8):(a++z).take a.length=a:=take_left
theorem zqr {b z:List UInt8}(g:zbr b z)(h:zeE (atR b 0)=false):zeE (atR z 0)=false:=by
 cases z with
 |nil=>decide
 |cons c r=>
  rw[zcg];refine g.no (fun c=>zeE c.toNat) (by decide) (fun c r e=>?_) c r rfl;rw[e,zcg]at h;exact h
theorem zpA {b z:List UInt8}(hz:zdH b=0→zdH z=0):∀a:List UInt8,zdH (a++b)≤a.length→zdH (a++z)=zdH (a++b)
 | [],h=>by
  have:zdH b=0:=Nat.le_zero.1 h;rw[nil_append,nil_append,hz this,this]
 |c::a,h=>by
  simp only[cons_append,zdH,length_cons]at h ⊢;by_cases hc:zeE c.toNat=true
  ·rw[if_pos hc]at h ⊢;rw[if_pos hc,zpA hz a (by omega)]
  ·rw[if_neg hc,if_neg hc]
theorem zpz {b z:List UInt8}(hz:zhQ b=0→zhQ z=0):∀a:List UInt8,zhQ (a++b)≤a.length→zhQ (a++z)=zhQ (a++b)
 | [],h=>by
  have:zhQ b=0:=Nat.le_zero.1 h;rw[nil_append,nil_append,hz this,this]
 |c::a,h=>by
  simp only[cons_append,zhQ,length_cons]at h ⊢;by_cases hc:(c==39)=true
  ·rw[if_pos hc]at h ⊢;rw[if_pos hc,zpz hz a (by omega)]
  ·rw[if_neg hc,if_neg hc]
theorem zvJ {b z:List UInt8}(g:zbr b z)(h:zdH b=0):zdH z=0:=by
 cases z with
 |nil=>rfl
 |cons c r=>
  have:=g.no (fun c=>zeE c.toNat) (by decide) (fun c r e=>by
   rw[e]at h;simp only[zdH]at h;cases hw:zeE c.toNat with
   |false=>rfl
   |true=>rw[if_pos hw]at h;omega) c r rfl
  simp only[zdH];rw[if_neg (by rw[this];decide)]
theorem zvI {b z:List UInt8}(g:zbr b z)(h:zhQ b=0):zhQ z=0:=by
 cases z with
 |nil=>rfl
 |cons c r=>
  have:=g.no (fun c=>c==39) (by decide) (fun c r e=>by
   rw[e]at h;simp only[zhQ]at h;cases hw:(c==39)with
   |false=>rfl
   |true=>rw[if_pos hw]at h;omega) c r rfl
  simp only[zhQ];rw[if_neg (by rw[this];decide)]
theorem zsh {a b z:List UInt8}(ha:a≠[])(g:zbr b z)(h:idR (a++b) 0=a.length):idR (a++z) 0=a.length:=by
 have hl:=length_pos_iff.2 ha;unfold idR at h ⊢;rw[zjN a b z hl];split
 ·rename_i hc;rw[if_pos hc]at h;exact h
 ·rename_i hc;rw[if_neg hc]at h;simp only[drop_zero,Nat.zero_add]at h ⊢;have h1:=zpA (zvJ g) a (by omega);rw[h1];rw[zbU a b (by omega)]at h;rw[zbU a z (by omega)];have h2:=zpz (zvI g) (a.drop (zdH (a++b))) (by rw[length_drop];omega);rw[h2];exact h
theorem zrh {a b z:List UInt8}(ha:a≠[])(h:¬0<idR (a++b) 0):¬0<idR (a++z) 0:=by
 have hl:=length_pos_iff.2 ha;unfold idR at h ⊢;rw[zjN a b z hl];split
 ·exact Nat.lt_irrefl 0
 ·rename_i hc;rw[if_neg hc]at h;exfalso;apply h;obtain⟨c,a',rfl⟩:∃c a',a=c::a':=by cases a with|nil=>exact absurd rfl ha|cons c a'=>exact⟨c,a',rfl⟩
  simp only[drop_zero,Nat.zero_add,cons_append,zdH];rw[cons_append,zcg]at hc;have hw:zeE c.toNat=true:=by
   unfold zeE;cases h1:zhy c.toNat with
   |true=>rfl
   |false=>
    rw[h1]at hc;simp only[Bool.not_false,Bool.true_and,bne_iff_ne,ne_eq,Classical.not_not]at hc;rw[hc];decide
  rw[if_pos hw];omega
theorem zuX {c:UInt8}(h:zkk c=true){base:Int}(hb:base≤16):¬zbz c.toNat<base∧c.toNat≠95:=by
 have e:zbz c.toNat=99∧c.toNat≠95:=by rcases zcA h with rfl|rfl|rfl|rfl<;>decide
 exact⟨by omega,e.2⟩
theorem zbi (base:Int) (c:UInt8) (r:List UInt8) (n:Nat):zbD base (c::r) n=if zbz c.toNat<base then zbD base r (n+1)else if c.toNat≠95∨n=0 then some n else match r with
    |d::_=>if zbz d.toNat<base then zbD base r (n+1)else none
    | []=>none:=by
  rw[zbD.eq_def]
  rfl
theorem ztK {base:Int}(hb:base≤16){b z:List UInt8}(g:zbr b z)(n:Nat)(h:zbD base b n=some n):zbD base z n=some n:=by
 rcases g.head with hz|⟨c,b',z',rfl,rfl,_⟩
 ·cases z with
  |nil=>rfl
  |cons c r=>
   obtain⟨h1,h2⟩:=zuX (hz c r rfl) hb;rw[zbi,if_neg h1,if_pos (.inl h2)]
 ·by_cases hv:zbz c.toNat<base
  ·rw[zbi,if_pos hv]at h;have:=zeB base _ _ _ h;omega
  ·by_cases hu:c.toNat≠95∨n=0
   ·rw[zbi,if_neg hv,if_pos hu]
   ·rw[zbi,if_neg hv,if_neg hu]at h;cases b' with
    |nil=>cases h
    |cons d r=>
     simp only at h;split at h
     ·have:=zeB base _ _ _ h;omega
     ·cases h
theorem zfA {base:Int}(hb:base≤16){b z:List UInt8}(g:zbr b z):∀(a:List UInt8)(n m:Nat),zbD base (a++b) n=some m→m≤n+a.length→zbD base (a++z) n=some m
 | [],n,m,h,hm=>by
  have:=zeB base _ _ _ h;have e:m=n:=by simp only[length_nil]at hm;omega
  subst e;exact ztK hb g m h
 |c::a,n,m,h,hm=>by
  simp only[length_cons]at hm;rw[cons_append]at h ⊢;by_cases hv:zbz c.toNat<base
  ·rw[zbi,if_pos hv]at h ⊢;exact zfA hb g a (n+1) m h (by omega)
  ·by_cases hu:c.toNat≠95∨n=0
   ·rw[zbi,if_neg hv,if_pos hu]at h ⊢;exact h
   ·rw[zbi,if_neg hv,if_neg hu]at h ⊢;cases a with
    |nil=>
     exfalso;rw[nil_append]at h;cases b with
     |nil=>cases h
     |cons d r=>
      simp only at h;split at h
      ·rename_i hd;rw[zbi,if_pos hd]at h;have:=zeB base _ _ _ h;simp only[length_nil]at hm;omega
      ·cases h
    |cons d a'=>
     simp only[cons_append]at h ⊢;split at h
     ·rename_i hd;rw[if_pos hd];exact zfA hb g (d::a') (n+1) m h (by omega)
     ·cases h
theorem zcx {s p:List UInt8}:za5 s p=true↔p <+: s:=by
 simp only[za5,Bool.and_eq_true,decide_eq_true_eq,beq_iff_eq];constructor
 ·rintro⟨_,h⟩;rw[←h];exact take_prefix _ _
 ·intro h;exact⟨h.length_le,(prefix_iff_eq_take.1 h).symm⟩
theorem zhf {a b z p:List UInt8}(hp:∀c∈p,zkk c=false)(g:zbr b z)(h:za5 (a++z) p=true):za5 (a++b) p=true:=by
 obtain⟨k,y,hy,rfl⟩:=g;rw[zcx]at h ⊢;rw[←append_assoc]at h;by_cases hl:p.length≤(a++b.take k).length
 ·exact(prefix_of_prefix_length_le h (prefix_append _ _) hl).trans ((prefix_append_right_inj a).2 (take_prefix k b))
 ·exfalso;have h2:=prefix_of_prefix_length_le (prefix_append (a++b.take k) y) h (by omega);obtain⟨t,rfl⟩:=h2;have h3:=(prefix_append_right_inj _).1 h;cases t with
  |nil=>simp at hl
  |cons c t=>
   obtain⟨u,rfl⟩:=h3;have h4:=hy c (t++u) rfl;rw[hp c (by simp)]at h4;cases h4
theorem zkr {a b z p:List UInt8}(hl:p.length≤a.length)(h:za5 (a++b) p=true):za5 (a++z) p=true:=by
 rw[zcx]at h ⊢;exact(prefix_of_prefix_length_le h (prefix_append a b) hl).trans (prefix_append a z)
theorem zor {a b z:List UInt8}(g:zbr b z)(h:zj0 (a++b) a.length=true):zj0 (a++z) a.length=true:=by
 rw[zs4 (by simp),zl0]at h ⊢;rw[Bool.not_eq_true']at h ⊢;exact zqr g h
theorem zpj {a b z t:List UInt8}{base:Nat}{K:Int}(hb:base≤16)(g:zbr b z)(h:zhN (a++b) base=some (K,t,a.length)):zhN (a++z) base=some (K,t,a.length):=by
 unfold zhN at h ⊢;cases hr:zbD base ((a++b).drop 2) 0 with
 |none=>rw[hr]at h;cases h
 |some n=>
  rw[hr]at h;simp only at h;split at h
  ·rename_i hn;cases hw:zdw base (((a++b).take (2+n)).drop 2) 0 with
   |none=>rw[hw]at h;cases h
   |some v=>
    rw[hw]at h;simp only at h;split at h
    ·rename_i he;simp only[Option.some.injEq,Prod.mk.injEq]at h;obtain⟨h1,h2,h3⟩:=h;rw[zbU a b (by omega)]at hr;rw[zbU a z (by omega),zfA (by omega) g _ _ _ hr (by rw[length_drop];omega)];rw[h3,zee]at hw;rw[h3]at he;simp only[h3,zee];rw[if_pos hn,hw];simp only;rw[if_pos (zor g he),h1,h2]
    ·cases h
  ·cases h
theorem zoC {b z:List UInt8}(g:zbr b z):∀(a:List UInt8),zem (a++b)=some a.length→zem (a++z)=some a.length
 | [],h=>by
  rw[nil_append]at h ⊢;cases z with
  |nil=>rfl
  |cons c r=>
   have:=g.no (fun c=>c==101||c==69) (by decide) (fun c r e=>by
    subst e;simp only[zem]at h;cases hc:(c==101||c==69)with
    |false=>rfl
    |true=>
     exfalso;simp only[Bool.or_eq_true,beq_iff_eq]at hc;rw[if_pos hc]at h;split at h
     ·simp at h
     ·cases h) c r rfl
   simp only[Bool.or_eq_false_iff,beq_eq_false_iff_ne]at this;simp only[zem];rw[if_neg (by rintro(h|h);exact this.1 h;exact this.2 h)];rfl
 | [c],h=>by
  exfalso;simp only[cons_append,nil_append,zem,length_cons,length_nil,Nat.zero_add]at h;split at h
  ·have hs:1≤zhz b:=by unfold zhz;split<;>(try split)<;>omega
   split at h
   ·simp only[Option.some.injEq]at h;omega
   ·cases h
  ·cases h
 |c::d::a,h=>by
  simp only[cons_append,zem,length_cons]at h ⊢;split at h
  ·rename_i hc;rw[if_pos hc];have e1:zhz (d::(a++z))=zhz (d::(a++b)):=rfl;rw[e1];have hs:zhz (d::(a++b))≤2:=by unfold zhz;split<;>(try split)<;>omega
   generalize hq:zhz (d::(a++b))=q at h hs ⊢;have e2:∀x:List UInt8,(c::d::(a++x)).drop q=(c::d::a).drop q++x:=fun x=>zbU (c::d::a) x (by simp only[length_cons];omega);rw[e2]at h ⊢;cases hr:zbD 10 ((c::d::a).drop q++b) 0 with
   |none=>rw[hr]at h;cases h
   |some j=>
    rw[hr]at h;cases j with
    |zero=>cases h
    |succ j=>
     simp only[Option.some.injEq]at h;rw[zfA (by decide) g _ _ _ hr (by rw[length_drop];simp only[length_cons];omega)];simp only[Option.some.injEq];exact h
  ·simp at h
theorem zmL {a b z:List UInt8}{m:Nat}{r r':Bool}(g:zbr b z)(hm:m≤a.length)(h:zb7 (a++b) m r=some (a.length,r')):zb7 (a++z) m r=some (a.length,r'):=by
 unfold zb7 at h ⊢;rw[zbU a b hm]at h;rw[zbU a z hm];cases he:zem (a.drop m++b)with
 |none=>rw[he]at h;cases h
 |some k=>
  rw[he]at h;simp only at h;split at h
  ·rename_i hk;split at h
   ·rename_i hq;simp only[Option.some.injEq,Prod.mk.injEq]at h;have hl:k=(a.drop m).length:=by rw[length_drop];omega
    rw[hl]at he;rw[zoC g _ he];simp only;rw[if_pos (by omega),←hl,h.1];rw[h.1]at hq;rw[if_pos (zor g hq),h.2]
   ·cases h
  ·rename_i hk;split at h
   ·rename_i hq;simp only[Option.some.injEq,Prod.mk.injEq]at h;have hl:k=(a.drop m).length:=by rw[length_drop];omega
    rw[hl]at he;rw[zoC g _ he];simp only;rw[if_neg (by omega),h.1];rw[h.1]at hq;rw[if_pos (zor g hq),h.2]
   ·cases h
theorem zrW {s:List UInt8}{m e:Nat}{r r':Bool}(h:zb7 s m r=some (e,r')):m≤e:=by
 unfold zb7 at h;split at h
 ·cases h
 ·split at h
  ·split at h
   ·simp only[Option.some.injEq,Prod.mk.injEq]at h;omega
   ·cases h
  ·split at h
   ·simp only[Option.some.injEq,Prod.mk.injEq]at h;omega
   ·cases h
theorem zsa {b z:List UInt8}(g:zbr b z)(h:0≤zdP (atR z 0) 10):0≤zdP (atR b 0) 10:=by
 rw[zjY]at h ⊢;rcases g.head with hz|⟨c,b',z',rfl,rfl,_⟩
 ·cases z with
  |nil=>rw[znQ]at h;omega
  |cons c r=>
   rw[zcg]at h;rcases zcA (hz c r rfl)with rfl|rfl|rfl|rfl<;>exact absurd h (by decide)
 ·rw[zcg]at h ⊢;exact h
theorem zxs {a b z:List UInt8}{n:Nat}(g:zbr b z)(hn:n≤a.length)(h:((atR (a++z) n==46)&&decide (0≤zdP (atR (a++z) (n+1)) 10))=true):((atR (a++b) n==46)&&decide (0≤zdP (atR (a++b) (n+1)) 10))=true:=by
 simp only[Bool.and_eq_true,beq_iff_eq,decide_eq_true_eq]at h ⊢;rcases Nat.lt_or_ge n a.length with h1|h1
 ·rw[zjN a b z h1]at h;refine⟨h.1,?_⟩;rcases Nat.lt_or_ge (n+1) a.length with h2|h2
  ·rw[zjN a b z h2]at h;exact h.2
  ·have e:n+1=a.length:=by omega
   rw[e,zl0]at h ⊢;exact zsa g h.2
 ·have e:n=a.length:=by omega
  subst e;have e1:∀x:List UInt8,atR (a++x) (a.length+1)=atR x 1:=fun x=>by
   unfold atR;rw[List.getElem?_append_right (by omega),show a.length+1-a.length=1 from by omega]
  rw[zl0,e1]at h ⊢;rcases g.head with hz|⟨c,b',z',rfl,rfl,g'⟩
  ·exfalso;cases z with
   |nil=>rw[znQ]at h;omega
   |cons c r=>
    rw[zcg]at h;rcases zcA (hz c r rfl)with rfl|rfl|rfl|rfl<;>exact absurd h.1 (by decide)
  ·rw[zcg,ziE]at h ⊢;exact⟨h.1,zsa g' h.2⟩
theorem zs0 {a b z:List UInt8}{r:Bool}(g:zbr b z)(h:zdO (a++b)=some (a.length,r)):zdO (a++z)=some (a.length,r):=by
 have hok:=zol h;unfold zdO at h ⊢;cases hr:zbD 10 (a++b) 0 with
 |none=>rw[hr]at h;cases h
 |some n=>
  rw[hr]at h;have hn:=hok.2 n hr;simp only at hn;rw[zfA (by decide) g a 0 n hr (by omega)];simp only at h ⊢;split at h
  ·rename_i hc;cases hr2:zbD 10 ((a++b).drop (n+1)) 0 with
   |none=>rw[hr2]at h;cases h
   |some k=>
    rw[hr2]at h;simp only at h;have hge:=zrW h;have hd:0<k:=zmz (x:=(a++b).drop (n+1)) (by
     rw[show atS ((a++b).drop (n+1)) 0=atS (a++b) (n+1:Nat)from by rw[zgw,←Nat.add_zero (n+1),zlZ];rfl];exact hc.2.2) hr2
    have hcz:n+1<(a++z).length∧atS (a++z) n=46∧(decide (48≤atS (a++z) (n+1:Nat))&&decide (atS (a++z) (n+1:Nat)≤57))=true:=by
     refine⟨by rw[length_append];omega,?_⟩;have h2:=hc.2;rw[zgw,zgw]at h2 ⊢;rw[zjN a b z (by omega),zjN a b z (by omega)];exact h2
    rw[if_pos hcz,zbU a z (by omega)];rw[zbU a b (by omega)]at hr2;rw[zfA (by decide) g _ _ _ hr2 (by rw[length_drop];omega)];exact zmL g (by omega) h
  ·rename_i hc;rw[if_neg (fun hz=>hc ((zsf _ _).1 (zxs g hn ((zsf _ _).2 hz))))];exact zmL g hn h
theorem ztw {a b z t:List UInt8}{K:Int}(g:zbr b z)(h:zcm (a++b)=some (K,t,a.length)):zcm (a++z)=some (K,t,a.length):=by
 have nb:∀x:UInt8,zkk x=false→∀c∈[48,x],zkk c=false:=fun x hx c hc=>by
  rcases mem_cons.1 hc with rfl|hc
  ·decide
  ·rw[mem_singleton.1 hc];exact hx
 rw[zg9]at h ⊢;split at h
 ·rename_i hx;have h2:2≤a.length:=by
   unfold zhN at h;split at h
   ·cases h
   ·split at h
    ·split at h
     ·cases h
     ·split at h
      ·simp only[Option.some.injEq,Prod.mk.injEq]at h;omega
      ·cases h
    ·cases h
  rw[if_pos (zkr (p:=[48,120]) h2 hx)];exact zpj (by decide) g h
 ·rename_i hx;rw[if_neg (fun e=>hx (zhf (nb 120 (by decide)) g e))];split at h
  ·rename_i hb;have h2:2≤a.length:=by
    unfold zhN at h;split at h
    ·cases h
    ·split at h
     ·split at h
      ·cases h
      ·split at h
       ·simp only[Option.some.injEq,Prod.mk.injEq]at h;omega
       ·cases h
     ·cases h
   rw[if_pos (zkr (p:=[48,98]) h2 hb)];exact zpj (by decide) g h
  ·rename_i hb;rw[if_neg (fun e=>hb (zhf (nb 98 (by decide)) g e))];cases hd:zdO (a++b)with
   |none=>rw[hd]at h;cases h
   |some p=>
    obtain⟨m,r⟩:=p;rw[hd]at h;have hm:m=a.length:=by
     cases r with
     |true=>
      simp only[zkR,Option.some.injEq,Prod.mk.injEq]at h;exact h.2.2
     |false=>
      simp only[zkR]at h;split at h
      ·cases h
      ·simp only[Option.some.injEq,Prod.mk.injEq]at h;exact h.2.2
    subst hm;rw[zs0 g hd];cases r with
    |true=>
     simp only[zkR,zee]at h ⊢;exact h
    |false=>
     simp only[zkR,zee]at h ⊢;exact h
theorem znR (a:List UInt8){i:Nat}(b z:List UInt8)(h:i<a.length):atS (a++z) (i:Nat)=atS (a++b) (i:Nat):=zjN a b z h
theorem zoT (a b z:List UInt8):∀n j c:Nat,j+n≤a.length→zke (a++z) n j c=zke (a++b) n j c
 |0,j,c,h=>rfl
 |n+1,j,c,h=>by
  simp only[zke];rw[znR a b z (by omega)];split
  ·exact zoT a b z n (j+1) _ (by omega)
  ·rfl
theorem zmc {l c:Nat}{p:List UInt8×Nat}(h:zqv l c=some p):p.2=1+l:=by
 unfold zqv at h;split at h
 ·exact(congrArg Prod.snd (Option.some.inj h)).symm
 ·cases h
theorem zs5 {a b:List UInt8}{p:List UInt8×Nat}(z:List UInt8)(h:zfK (a++b)=some p)(hp:p.2≤a.length):zfK (a++z)=some p:=by
 have ha:0<p.2:=by
  unfold zfK at h;split at h
  ·cases h
  ·split at h
   ·cases h;exact Nat.one_pos
   ·split at h
    ·split at h
     ·rw[zmc h];exact Nat.lt_add_right _ Nat.one_pos
     ·cases h
    ·cases h
 obtain⟨c,a',rfl⟩:∃c a',a=c::a':=by
  cases a with
  |nil=>simp only[length_nil]at hp;omega
  |cons c a'=>exact⟨c,a',rfl⟩
 unfold zfK at h ⊢;rw[if_neg (by simp)]at h ⊢;have e0:atS (c::a'++z) 0=atS (c::a'++b) 0:=rfl;rw[e0];generalize atS (c::a'++b) 0=w at h ⊢;cases hpl:plT w with
 |some x=>rw[hpl]at h;exact h
 |none=>
  rw[hpl]at h;simp only at h ⊢;split at h
  ·rename_i hl;cases hx:zke (c::a'++b) (loT w) 1 0 with
   |none=>rw[hx]at h;cases h
   |some v=>
    rw[hx]at h;simp only at h;have hp2:p.2=1+loT w:=zmc h;rw[if_pos ⟨hl.1,by rw[length_append];omega⟩,zoT (c::a') b z _ _ _ (by omega),hx];exact h
  ·cases h
theorem zlu {s:List UInt8}{mk:Int}{n i:Nat}{out:List UInt8}{p:List UInt8×Nat}(h:zeG s mk n i out=some p):i<p.2∧p.2≤s.length:=by
 induction n generalizing i out with
 |zero=>cases h
 |succ n ih=>
  simp only[zeG]at h;split at h
  ·cases h
  ·split at h
   ·cases h
   ·split at h
    ·split at h
     ·cases h;simp only;omega
     ·cases h
    ·split at h
     ·split at h
      ·have:=ih h;omega
      ·cases h
     ·have:=ih h;omega
theorem zlw {a b:List UInt8}(z:List UInt8){mk:Int}{t:List UInt8}:∀(n n' i:Nat)(out:List UInt8),zeG (a++b) mk n i out=some (t,a.length)→a.length≤n'+i→zeG (a++z) mk n' i out=some (t,a.length)
 |0,n',i,out,h,hn=>by cases h
 |n+1,0,i,out,h,hn=>by
  have:=(zlu h).1;omega
 |n+1,n'+1,i,out,h,hn=>by
  have hi:=(zlu h).1;simp only at hi;simp only[zeG]at h ⊢;rw[znR a b z hi];split at h
  ·cases h
  ·rw[if_neg (by rw[length_append];omega)];split at h
   ·cases h
   ·rename_i h10;rw[if_neg h10];split at h
    ·rename_i hm;rw[if_pos hm];exact h
    ·rename_i hm;rw[if_neg hm];split at h
     ·rename_i h92;rw[if_pos h92];rw[zbU a b (by omega)]at h;rw[zbU a z (by omega)];cases he:zfK (a.drop (i+1)++b)with
      |none=>rw[he]at h;cases h
      |some p=>
       rw[he]at h;simp only at h;have h2:=(zlu h).1;simp only at h2;rw[zs5 z he (by rw[length_drop];omega)];exact zlw z n n' _ _ h (by omega)
     ·rename_i h92;rw[if_neg h92];exact zlw z n n' _ _ h (by omega)
theorem zkt {a b:List UInt8}(z:List UInt8){mk:Int}{t:List UInt8}(h:zcu (a++b) mk=some (t,a.length)):zcu (a++z) mk=some (t,a.length):=
 zlw z _ _ 1 [] h (by rw[length_append];omega)
theorem zsV {a b:List UInt8}(z:List UInt8){t:List UInt8}(h:ziK (a++b)=some (t,a.length)):ziK (a++z)=some (t,a.length):=by
 unfold ziK at h ⊢;cases hq:zcu (a++b) 39 with
 |none=>rw[hq]at h;cases h
 |some p=>
  obtain⟨u,e⟩:=p;rw[hq]at h;simp only at h;split at h
  ·rename_i hc;simp only[Option.some.injEq,Prod.mk.injEq]at h;obtain⟨h1,rfl⟩:=h;rw[zkt z hq];simp only;rw[if_pos hc,h1]
  ·cases h
theorem zsl {a b z p:List UInt8}{i:Nat}(h:i+p.length≤a.length):Lib.occAt (a++z) p i=Lib.occAt (a++b) p i:=by
 unfold Lib.occAt;rw[Bool.eq_iff_iff,isPrefixOf_iff_prefix,isPrefixOf_iff_prefix,zbU a z (by omega),zbU a b (by omega)];constructor
 ·intro h2;exact(prefix_of_prefix_length_le h2 (prefix_append _ _) (by rw[length_drop];omega)).trans (prefix_append _ _)
 ·intro h2;exact(prefix_of_prefix_length_le h2 (prefix_append _ _) (by rw[length_drop];omega)).trans (prefix_append _ _)
theorem zri {a b:List UInt8}(z:List UInt8){p:List UInt8}{i:Nat}(h:Lib.index (a++b) p=i)(hi:i+p.length≤a.length):Lib.index (a++z) p=i:=by
 rcases Lib.index_spec (a++b) p with⟨h1,_⟩|⟨j,h1,h2,h3,h4⟩
 ·omega
 ·have e:j=i:=by omega
  subst e;refine Lib.index_first (by rw[length_append];omega) (by rw[zsl hi];exact h3) fun k hk=>?_;rw[zsl (b:=b) (by omega)];exact h4 k hk
theorem zus {a b z t:List UInt8}(g:zbr b z)(h:zhw (a++b)=some (t,a.length)):zhw (a++z)=some (t,a.length):=by
 unfold zhw at h ⊢;split at h
 ·rename_i hp;split at h
  ·rename_i hc;obtain⟨i,hi⟩:∃i:Nat,Lib.index ((a++b).drop 3) [34,34,34]=i:=⟨_,(Int.toNat_of_nonneg hc.1).symm⟩;rw[hi]at h hc;simp only[Int.toNat_natCast]at h hc;simp only[Option.some.injEq,Prod.mk.injEq]at h;rw[if_pos (zkr (by simp only[length_cons,length_nil];omega) hp)];rw[zbU a b (by omega)]at hi h hc;rw[zbU a z (by omega),zri z hi (by rw[length_drop];simp only[length_cons,length_nil];omega)];simp only[Int.toNat_natCast];rw[take_append_of_le_length (by rw[length_drop];omega)]at h hc ⊢;rw[if_pos hc,h.1,h.2]
  ·cases h
 ·rename_i hp;rw[if_neg (fun e=>hp (zhf (by intro c hc;simp only[mem_cons,not_mem_nil,or_false,or_self]at hc;rw[hc];decide) g e))];exact zkt z h
def alw (s x:List UInt8):Bool:=za5 s x && !((zhy (zft x)||(zft x==95))&&(decide (x.length<s.length)&&zeE (atR s x.length)))
theorem zpf (s best x:List UInt8):okP s best x=(decide (best.length<x.length)&&alw s x):=rfl
theorem zed (s:List UInt8):∀(L:List (List UInt8))(best:List UInt8),(sgF s L best=best∨(sgF s L best∈L∧alw s (sgF s L best)=true))∧best.length≤(sgF s L best).length∧∀x∈L,alw s x=true→x.length≤(sgF s L best).length
 | [],best=>⟨.inl rfl,Nat.le_refl _,fun x hx=>absurd hx (by simp)⟩
 |y::L,best=>by
  simp only[sgF];by_cases hy:okP s best y=true
  ·rw[if_pos hy];obtain⟨h1,h2,h3⟩:=zed s L y;rw[zpf,Bool.and_eq_true,decide_eq_true_eq]at hy;refine⟨.inr ?_,by omega,fun x hx ha=>?_⟩
   ·rcases h1 with h1|h1
    ·rw[h1];exact⟨by simp,hy.2⟩
    ·exact⟨by simp[h1.1],h1.2⟩
   ·rcases mem_cons.1 hx with rfl|hx
    ·exact h2
    ·exact h3 x hx ha
  ·rw[if_neg hy];obtain⟨h1,h2,h3⟩:=zed s L best;refine⟨?_,h2,fun x hx ha=>?_⟩
   ·rcases h1 with h1|h1
    ·exact .inl h1
    ·exact .inr ⟨by simp[h1.1],h1.2⟩
   ·rcases mem_cons.1 hx with rfl|hx
    ·rw[zpf,ha,Bool.and_true,decide_eq_true_eq]at hy;omega
    ·exact h3 x hx ha
theorem znw {s x:List UInt8}{L:List (List UInt8)}(hx:x∈L)(hne:x≠[])(ha:alw s x=true)(hm:∀y∈L,alw s y=true→y.length≤x.length):sgF s L []=x:=by
 obtain⟨h1,h2,h3⟩:=zed s L [];have h4:=h3 x hx ha;have hl:=length_pos_iff.2 hne;rcases h1 with h1|⟨h5,h6⟩
 ·rw[h1]at h4;simp only[length_nil]at h4;omega
 ·have h7:=hm _ h5 h6;have p1:za5 s x=true:=by unfold alw at ha;rw[Bool.and_eq_true]at ha;exact ha.1
  have p2:za5 s (sgF s L [])=true:=by unfold alw at h6;rw[Bool.and_eq_true]at h6;exact h6.1
  rw[zcx]at p1 p2;exact(prefix_of_prefix_length_le p2 p1 h7).eq_of_length (by omega)
theorem zxI:∀x∈sgnL,∀c∈x,zkk c=false:=by decide
theorem zvN:∀x∈sgnL,∀y∈sgnL,(zhy (zft x)||(zft x==95))=true→y.isPrefixOf x=true→y=x:=by decide
theorem zvM {a b z:List UInt8}(ha:a≠[])(g:zbr b z)(h:sgF (a++b) sgnL []=a):sgF (a++z) sgnL []=a:=by
 obtain⟨h1,h2,h3⟩:=zed (a++b) sgnL [];rw[h]at h1 h2 h3;have⟨hmem,halw⟩:a∈sgnL∧alw (a++b) a=true:=by
  rcases h1 with h1|h1
  ·exact absurd h1 ha
  ·exact h1
 refine znw hmem ha ?_ fun y hy hyz=>?_
 ·unfold alw at halw ⊢;rw[Bool.and_eq_true]at halw ⊢;refine⟨zcx.2 (prefix_append a z),?_⟩;have h5:=halw.2;rw[zl0]at h5 ⊢;rw[Bool.not_eq_true',Bool.and_eq_false_iff,Bool.and_eq_false_iff]at h5 ⊢;rcases h5 with h5|h5|h5
  ·exact .inl h5
  ·refine .inr (.inr ?_);rw[decide_eq_false_iff_not]at h5;have:b=[]:=by
    rw[length_append]at h5;exact length_eq_zero_iff.1 (by omega)
   exact zqr g (by rw[this];decide)
  ·exact .inr (.inr (zqr g h5))
 ·have p2:za5 (a++z) y=true:=by unfold alw at hyz;rw[Bool.and_eq_true]at hyz;exact hyz.1
  have p3:=zhf (zxI y hy) g p2;by_cases hb:alw (a++b) y=true
  ·exact h3 y hy hb
  ·have hl:(zhy (zft y)||(zft y==95))=true:=by
    unfold alw at hb;rw[p3,Bool.true_and]at hb;cases hq:(zhy (zft y)||(zft y==95))with
    |true=>rfl
    |false=>rw[hq]at hb;exact absurd rfl hb
   rcases Nat.lt_or_ge a.length y.length with hlt|hge
   ·have hpre:a <+: y:=prefix_of_prefix_length_le (prefix_append a b) (zcx.1 p3) (by omega);rw[zvN y hy a hmem hl (isPrefixOf_iff_prefix.2 hpre)];exact Nat.le_refl _
   ·exact hge
theorem zjB {a b z t:List UInt8}{K:Int}(ha:a≠[])(g:zbr b z)(h:zcM kw zcm (a++b)=.inr (K,t,a.length)):zcM kw zcm (a++z)=.inr (K,t,a.length):=by
 have hl:=length_pos_iff.2 ha;have e0:atS (a++z) 0=atS (a++b) 0:=znR a b z hl;unfold zcM at h ⊢;split at h
 ·rename_i h1;simp only[Sum.inr.injEq,Prod.mk.injEq]at h;obtain⟨h2,h3,h4⟩:=h;have:=zsh ha g h4;rw[this,if_pos hl,zee];rw[h4,zee]at h2 h3;rw[h2,h3]
 ·rename_i h1;rw[if_neg (zrh ha h1),e0];split at h
  ·rename_i h2;rw[if_pos h2];cases hn:zcm (a++b)with
   |none=>rw[hn]at h;cases h
   |some r=>
    rw[hn]at h;simp only[Sum.inr.injEq]at h;subst h;rw[ztw g hn]
  ·rename_i h2;rw[if_neg h2];split at h
   ·rename_i h3;rw[if_pos h3];cases hn:ziK (a++b)with
    |none=>rw[hn]at h;cases h
    |some r=>
     rw[hn]at h;simp only[Sum.inr.injEq,Prod.mk.injEq]at h;obtain⟨h4,h5,h6⟩:=h;have e:r=(t,a.length):=Prod.ext h5 h6;rw[e]at hn;rw[zsV z hn,h4]
   ·rename_i h3;rw[if_neg h3];split at h
    ·rename_i h4;rw[if_pos h4];cases hn:zhw (a++b)with
     |none=>rw[hn]at h;cases h
     |some r=>
      rw[hn]at h;simp only[Sum.inr.injEq,Prod.mk.injEq]at h;obtain⟨h4,h5,h6⟩:=h;have e:r=(t,a.length):=Prod.ext h5 h6;rw[e]at hn;rw[zus g hn,h4]
    ·rename_i h4;rw[if_neg h4];split at h
     ·rename_i h5;simp only[Sum.inr.injEq,Prod.mk.injEq]at h;obtain⟨h6,h7,h8⟩:=h;have hsg:sgF (a++b) sgnL []=a:=by
       obtain⟨k1,k2,k3⟩:=zed (a++b) sgnL [];rcases k1 with k1|⟨k1,k4⟩
       ·rw[k1]at h5;exact absurd h5 (Nat.lt_irrefl 0)
       ·unfold alw at k4;rw[Bool.and_eq_true]at k4;exact(prefix_of_prefix_length_le (zcx.1 k4.1) (prefix_append a b) (by omega)).eq_of_length h8
      rw[zvM ha g hsg,if_pos hl,←h6,←h7,hsg]
     ·cases h
abbrev zux:E:=.f1 .vb (.va 0)
abbrev zyc:E:=.f1 .tup (.f2 .cons (.va 0) (.f2 .cons (.f1 (.vi .i64) (.va 1)) (.f2 .cons (.f1 (.vi .i64) (.va 2)) .nil)))
def shq:Nat→Option Shape:=fun f=>
 if f=10 then some ⟨[.b],zux,.pure,false⟩else
 if f=11 then some ⟨[.v,.i,.i],zyc,.pure,false⟩else
 if f=12 then some ⟨[.v,.i,.i],zyc,.pure,false⟩else
 if f=13 then some ⟨[.b],zux,.pure,false⟩else
 if f=14 then some ⟨[.b],zux,.pure,false⟩else
 if f=34 then some ⟨[.v],.va 0,.pure,false⟩else
 shp f
def zaG (l:List Tk):List V:=l.map fun x=>.agg (tkL x)
theorem zoZ {ty:TypeId}(ha:zb3 (TT.und ty)=some true)(hs:TT.size ty=some 4){l:List Tk}{i:Nat}{x:Tk}(h:l[i]? = some x)(H:zaa):zae TT ty H (.ipt 4 (zaG l) i 0)=some (.agg (tkL x)):=by
 simp only[zae,zaG,List.getElem?_map,h,Option.map_some,zby,ha,hs];rfl
abbrev zx5:E:=.f1 (.isl 4) (.va 0)
def shr:Nat→Option Shape:=fun f=>
 if f=11 then some ⟨[.l,.i,.i],.f1 .tup (.f2 .cons zx5 (.f2 .cons (.f1 (.vi .i64) (.va 1)) (.f2 .cons (.f1 (.vi .i64) (.va 2)) .nil))),.pure,false⟩else
 if f=34 then some ⟨[.l],zx5,.pure,false⟩else
 shq f
theorem zwD:zaS TT shr f14.ntmps [] (zah f14) [] ⟨[(0,.f1 (.isl 4) (.va 0)),(1,.f1 (.isl 4) (.va 1))],⟨.va 2,[],[]⟩,3,[]⟩ (KF TT f14 [5,6,18,19])=.asks (.call 34 (x1 (.f1 (.isl 4) v0))) [.l] (.f1 (.isl 4) v3) (.asks (.call 34 (x1 (.f1 (.isl 4) v1))) [.l] (.f1 (.isl 4) v4) (.ite (xM (xn v3) (xn v4)) (.fin (xb (.cb false)) ⟨v2,[],[]⟩) (.leaf (.stop [true,true,true,false,true,false]) [(5,.f1 (.isl 4) v3),(6,.f1 (.isl 4) v4),(18,xi (xn v3)),(19,xi c0)] ⟨v2,[],[]⟩)) (.stuck 0)) (.stuck 0):=by kernel_rfl
theorem zwE:goT TT shr f14.ntmps [] [true,true,true,false,true,false,false] (zah f14) [] ⟨[(5,.f1 (.isl 4) (.va 0)),(6,.f1 (.isl 4) (.va 1)),(18,.f1 (.vi .i64) (.f1 .lenL (.va 0))),(19,.f1 (.vi .i64) (.va 3))],⟨.va 2,[],[]⟩,4,[]⟩ (KF TT f14 [5,6,18,19])=let qa:SH:=⟨v2,[],[]⟩;.ite (xL v3 (xn v0)) (.need (xE c0 v3) (.ask (.load 34 (.f3 (.ipt 4 0) v0 v3 .nil)) qa [.i,.s,.i,.b] (xg (x4 (xi v4) (xs v5) (xi v6) (xb v7))) false (.need (xL v3 (xn v1)) (.ask (.load 34 (.f3 (.ipt 4 0) v1 v3 .nil)) qa [.i,.s,.i,.b] (xg (x4 (xi v8) (xs v9) (xi v10) (xb v11))) false (.ite (.f2 .andB (xe v4 v8) (.f2 .andB (xQ v5 v9) (.f2 .andB (xe v6 v10) (.f2 .andB (.f2 .eqB v7 v11) (.cb true))))) (.leaf (.again [true,true,true,false,true,false,false]) [(5,.f1 (.isl 4) v0),(6,.f1 (.isl 4) v1),(18,xi (xn v0)),(19,xi (xw (xa v3 c1)))] qa) (.fin (xb (.cb false)) qa)) (.stuck 0))) (.stuck 0))) (.fin (xb (.cb true)) qa):=by kernel_rfl
def shx:Nat→Option Shape:=fun f=>
 if f=40 then some ⟨[.b],zux,.pure,false⟩else
 if f=44 then some ⟨[.b],zux,.pure,false⟩else
 if f=16 then some ⟨[.s,.i],two (.f1 .vs (.va 0)) (.f1 (.vi .i64) (.va 1)),.pure,false⟩else
 if f=37 then some ⟨[],.cv .nili,.keeps [],false⟩else
 if f=38 then some ⟨[.i],two (.f1 (.vi .i64) (.va 0)) (.cv .nili),.keeps [],false⟩else
 if f=45 then some ⟨[.i],.f1 (.vi .i64) (.va 0),.reads,false⟩else
 shr f
abbrev zyP:E:=.f1 .agg (.f2 .cons (.f1 (.vi .i64) (.va 0)) (.f2 .cons (.f1 .vs (.va 1)) (.f2 .cons (.f1 (.vi .i64) (.va 2)) (.f2 .cons (.f1 .vb (.va 3)) .nil))))
theorem zww:zaS TT shx f44.ntmps [5,8] (zah f44) [] ⟨[(0,zyP)],⟨.va 4,[],[]⟩,5,[]⟩ (KF TT f44 [1,73,74])=let qa:SH:=⟨v4,[],[xk 34 (x4 (xi v0) (xs v1) (xi v2) (xb v3))]⟩;let qc:E:=xp (xN (xh v4) (.cn 0));let qb:Tree:=.leaf (.stop [true,false,true,false,true,true,true,true,true,false,false,false]) [(1,qc)] qa;.ite (xe v0 c1) (.asks (.call 40 (x1 (xs v1))) [.b] (xb v5) (.fin (xb v5) qa) (.stuck 0)) (.ite (xe v0 c2) (.leaf (.stop [true,false,true,false,true,true,true,false,false]) [(1,qc)] qa) (.ite (xe v0 c3) qb (.ite (xe v0 (xc 4)) qb (.ite (xe v0 (xc 5)) (.asks (.call 36 (x1 (xs v1))) [.b] (xb v5) (.fin (xb v5) qa) (.stuck 0)) (.ite (xe v0 (xc 6)) (.leaf (.stop [true,false,true,false,true,true,true,true,true,true,true,true,true,false,true,false]) [(1,qc),(73,xg (.f2 .cons (xs (.cs [60,60])) (.f2 .cons (xs (.cs [62,62])) (.f2 .cons (xs (.cs [61,61])) (.f2 .cons (xs (.cs [33,61])) (.f2 .cons (xs (.cs [60,61])) (.f2 .cons (xs (.cs [62,61])) (.f2 .cons (xs (.cs [61,62])) (.f2 .cons (xs (.cs [45,62])) (.f2 .cons (xs (.cs [46,62])) (.f2 .cons (xs (.cs [43,63])) (.f2 .cons (xs (.cs [45,63])) (.f2 .cons (xs (.cs [42,63])) (.f2 .cons (xs (.cs [47,63])) (.f2 .cons (xs (.cs [37,63])) (.f2 .cons (xs (.cs [35,114,101,97,100])) (.f2 .cons (xs (.cs [35,115,101,110,100])) (.f2 .cons (xs (.cs [35,115,104,97,114,101])) (.f2 .cons (xs (.cs [35,97,108,105,97,115])) (.f2 .cons (xs (.cs [35,97,110,121])) (.f2 .cons (xs (.cs [40])) (.f2 .cons (xs (.cs [41])) (.f2 .cons (xs (.cs [91])) (.f2 .cons (xs (.cs [93])) (.f2 .cons (xs (.cs [123])) (.f2 .cons (xs (.cs [125])) (.f2 .cons (xs (.cs [44])) (.f2 .cons (xs (.cs [46])) (.f2 .cons (xs (.cs [58])) (.f2 .cons (xs (.cs [59])) (.f2 .cons (xs (.cs [63])) (.f2 .cons (xs (.cs [61])) (.f2 .cons (xs (.cs [60])) (.f2 .cons (xs (.cs [62])) (.f2 .cons (xs (.cs [43])) (.f2 .cons (xs (.cs [45])) (.f2 .cons (xs (.cs [42])) (.f2 .cons (xs (.cs [47])) (.f2 .cons (xs (.cs [37])) (.f2 .cons (xs (.cs [124])) (x4 (xs (.cs [38])) (xs (.cs [94])) (xs (.cs [33])) (xs (.cs [126]))))))))))))))))))))))))))))))))))))))))))),(74,xi c0)] qa) (.fin (xb (.cb false)) qa)))))):=by kernel_rfl
theorem zug:goT TT shx f44.ntmps [] [true,false,true,false,true,true,true,true,true,false,false,false] (zah f44) [] ⟨[(1,.f1 (.ptr 0) (.va 0))],⟨.va 1,[(.va 0,some ⟨34,.f2 .cons (.f1 (.vi .i64) (.va 2)) (.f2 .cons (.f1 .vs (.va 3)) (.f2 .cons (.f1 (.vi .i64) (.va 4)) (.f2 .cons (.f1 .vb (.va 5)) .nil))),.all⟩)],[]⟩,6,[]⟩ (KF TT f44 [1])=let qa:SH:=⟨v1,[(v0,xk 34 (x4 (xi v2) (xs v3) (xi v4) (xb v5)))],[]⟩;let qb:Tree:=.fin (xb (.cb false)) qa;let qc:Tree:=.stuck 0;.ite (xQ v3 (.cs [])) qb (.need (xL c0 (xl v3)) (.asks (.call 50 (x1 (xu (xA v3 c0)))) [.b] (xb v6) (.ite v6 (.asks (.call 11 (x1 (xs v3))) [.l,.i,.i] (xt (x3 (.f1 (.isl 4) v7) (xi v8) (xi v9))) (.ite (xe v9 c0) (.ite (xe (xn v7) c1) (.need (xL c0 (xn v7)) (.ask (.load 3 (.f3 (.ipt 4 0) v7 c0 .nil)) qa [.i] (xi v10) false (.ite (xe v10 v2) (.ask (.load 9 (.f3 (.ipt 4 1) v7 c0 .nil)) qa [.s] (xs v11) false (.fin (xb (xQ v11 v3)) qa) qc) qb) qc)) qb) qb) qc) qb) qc)):=by kernel_rfl
theorem zuh:goT TT shx f44.ntmps [17] [true,false,true,false,true,true,true,true,true,true,true,true,true,false,true,false,false] (zah f44) [] ⟨[(1,.f1 (.ptr 0) (.va 0)),(73,.va 6),(74,.f1 (.vi .i64) (.va 7))],⟨.va 1,[(.va 0,some ⟨34,.f2 .cons (.f1 (.vi .i64) (.va 2)) (.f2 .cons (.f1 .vs (.va 3)) (.f2 .cons (.f1 (.vi .i64) (.va 4)) (.f2 .cons (.f1 .vb (.va 5)) .nil))),.all⟩)],[]⟩,8,[]⟩ (KF TT f44 [1,73,74])=let qa:SH:=⟨v1,[(v0,xk 34 (x4 (xi v2) (xs v3) (xi v4) (xb v5)))],[]⟩;.ite (xL v7 (xc 43)) (.leaf (.stop [true,false,true,false,true,true,true,true,true,true,true,true,true,false,true,false,false,true,true,false,false,false]) [(1,xp v0),(73,v6),(74,xi v7)] qa) (.fin (xb (.cb false)) qa):=by kernel_rfl
theorem zui:goT TT shx f44.ntmps [] [true,false,true,false,true,true,true,true,true,true,true,true,true,false,true,false,false,true,true,false,false,true] (zah f44) [] ⟨[(1,.f1 (.ptr 0) (.va 0)),(7,.f1 .vs (.va 8)),(73,.va 6),(74,.f1 (.vi .i64) (.va 7))],⟨.va 1,[(.va 0,some ⟨34,.f2 .cons (.f1 (.vi .i64) (.va 2)) (.f2 .cons (.f1 .vs (.va 3)) (.f2 .cons (.f1 (.vi .i64) (.va 4)) (.f2 .cons (.f1 .vb (.va 5)) .nil))),.all⟩)],[]⟩,9,[]⟩ (KF TT f44 [1,73,74])=let qa:SH:=⟨v1,[(v0,xk 34 (x4 (xi v2) (xs v3) (xi v4) (xb v5)))],[]⟩;.ite (xQ v8 v3) (.fin (xb (.cb true)) qa) (.leaf (.again [true,false,true,false,true,true,true,true,true,true,true,true,true,false,true,false,false]) [(1,xp v0),(73,v6),(74,xi (xw (xa v7 c1)))] qa):=by kernel_rfl
theorem zuj:zaS TT shx f45.ntmps [] (zah f45) [] ⟨[(0,.f1 (.ptr 0) (.va 0))],⟨.va 1,[(.va 0,some ⟨66,.f2 .cons (.va 2) (.f2 .cons (.cv .nils) .nil),.all⟩)],[]⟩,3,[]⟩ (KF TT f45 [])=.fin (xi c0) ⟨v1,[(v0,xk 66 (x2 v2 (.cv .nils)))],[]⟩:=by kernel_rfl
theorem zuk:zaS TT shx f45.ntmps [] (zah f45) [] ⟨[(0,.f1 (.ptr 0) (.va 0))],⟨.va 1,[(.va 0,some ⟨66,.f2 .cons (.va 2) (.f2 .cons (.f2 (.sl 1) (.va 3) (.f1 .lenS (.va 4))) .nil),.all⟩)],[]⟩,5,[]⟩ (KF TT f45 [])=.fin (xi (xl v4)) ⟨v1,[(v0,xk 66 (x2 v2 (.f2 (.sl 1) v3 (xl v4))))],[]⟩:=by kernel_rfl
theorem zxN:zaS TT shx f25.ntmps [] (zah f25) [] ⟨[(0,.f1 (.isl 4) (.va 0))],⟨.va 1,[],[]⟩,2,[]⟩ (KF TT f25 [4,8,9,10])=.leaf (.stop [true,true,false,true,false]) [(4,xp (xN (xh v1) (.cn 0))),(8,.f1 (.isl 4) v0),(9,xi (xn v0)),(10,xi c0)] ⟨v1,[],[xk 66 (x2 (.cv .nilp) (.cv .nils))]⟩:=by kernel_rfl
theorem zwl:goT TT shx f25.ntmps [11] [true,true,false,true,false,false] (zah f25) [] ⟨[(4,.f1 (.ptr 0) (.va 1)),(8,.f1 (.isl 4) (.va 0)),(9,.f1 (.vi .i64) (.f1 .lenL (.va 0))),(10,.f1 (.vi .i64) (.va 2))],⟨.va 3,[],[]⟩,4,[]⟩ (KF TT f25 [4,6,8,9,10])=let qa:E:=x4 (xi v4) (xs v5) (xi v6) (xb v7);let qg:E:=xp v1;let qd:E:=xN (xh v3) (.cn 0);let qc:SH:=⟨v3,[],[xk 34 qa]⟩;let qe:Tree:=.fin (xt (x2 (xs (.cs [])) (xi c2))) qc;let qb:Tree:=.leaf (.stop [true,true,false,true,false,false,true,true,false,false,true,true,true,false]) [(4,qg),(6,xp qd),(8,.f1 (.isl 4) v0),(9,xi (xn v0)),(10,xi v2)] ⟨v9,[(qd,xk 34 qa)],[]⟩;let qf:Tree:=.stuck 0;.ite (xL v2 (xn v0)) (.need (xE c0 v2) (.ask (.load 34 (.f3 (.ipt 4 0) v0 v2 .nil)) ⟨v3,[],[]⟩ [.i,.s,.i,.b] (xg qa) false (.asks (.call 44 (x1 (xg qa))) [.b] (xb v8) (.ite v8 (.ite (xe v2 c0) (.ite v7 (.leaf (.stop [true,true,false,true,false,false,true,true,false,false,true,true,true,false]) [(4,qg),(6,xp qd),(8,.f1 (.isl 4) v0),(9,xi (xn v0)),(10,xi v2)] qc) qe) (.ite v7 (.askk (.call 37 (x2 qg (xu c10))) qc [] (.cv .nili) [(qd,xR 34 qa)] qb qf) (.askk (.call 37 (x2 qg (xu (xc 32)))) qc [] (.cv .nili) [(qd,xR 34 qa)] qb qf))) qe) qf) qf)) (.ask (.call 39 (x1 qg)) ⟨v3,[],[]⟩ [.s] (xs v5) true (.fin (xt (x2 (xs v5) (xi c0))) ⟨v4,[],[]⟩) qf):=by kernel_rfl
theorem zwm:goT TT shx f25.ntmps [] [true,true,false,true,false,false,true,true,false,false,true,true,true,false] (zah f25) [] ⟨[(4,.f1 (.ptr 0) (.va 1)),(6,.f1 (.ptr 0) (.va 3)),(8,.f1 (.isl 4) (.va 0)),(9,.f1 (.vi .i64) (.f1 .lenL (.va 0))),(10,.f1 (.vi .i64) (.va 2))],⟨.va 4,[(.va 3,some ⟨34,.f2 .cons (.f1 (.vi .i64) (.va 5)) (.f2 .cons (.f1 .vs (.va 6)) (.f2 .cons (.f1 (.vi .i64) (.va 7)) (.f2 .cons (.f1 .vb (.va 8)) .nil))),.all⟩)],[]⟩,9,[]⟩ (KF TT f25 [4,8,9,10])=let qg:E:=xp v1;let qa:E:=x4 (xi v5) (xs v6) (xi v7) (xb v8);let qb:=xk 34 qa;let qh:SH:=⟨v4,[(v3,qb)],[]⟩;let qc:SH:=⟨v11,[(v3,qb)],[]⟩;let qe:E:=xt (x2 (xs (.cs [])) (xi (xc 16)));let qi:E:=xi (xw (xa v2 c1));let qf:Tree:=.stuck 0;let qd:SH:=⟨v9,[(v3,qb)],[]⟩;.ite (xe v5 (xc 5)) (.asks (.call 16 (x1 (xs v6))) [.s,.i] (xt (x2 (xs v9) (xi v10))) (.askk (.call 38 (x2 qg (xs v9))) qh [.i] (xt (x2 (xi v12) (.cv .nili))) [(v3,xR 34 qa)] (.ask (.call 45 (x1 qg)) qc [.i] (xi v13) false (.ite (xG v13 (xc 20000)) (.fin qe qc) (.leaf (.again [true,true,false,true,false,false]) [(4,qg),(8,.f1 (.isl 4) v0),(9,xi (xn v0)),(10,qi)] qc)) qf) qf) qf) (.askk (.call 38 (x2 qg (xs v6))) qh [.i] (xt (x2 (xi v10) (.cv .nili))) [(v3,xR 34 qa)] (.ask (.call 45 (x1 qg)) qd [.i] (xi v11) false (.ite (xG v11 (xc 20000)) (.fin qe qd) (.leaf (.again [true,true,false,true,false,false]) [(4,qg),(8,.f1 (.isl 4) v0),(9,xi (xn v0)),(10,qi)] qd)) qf) qf):=by kernel_rfl
noncomputable def ch {F:FuncId}{φ:zhC→Prop}(h:∃g,zao prog TT F g∧φ g):zhC:=h.choose
theorem zeo {F:FuncId}{φ:zhC→Prop}(h:∃g,zao prog TT F g∧φ g):zao prog TT F (ch h):=h.choose_spec.1
theorem zc2 {F:FuncId}{φ:zhC→Prop}(h:∃g,zao prog TT F g∧φ g):φ (ch h):=h.choose_spec.2
theorem zxL:∃g,zao prog TT 29 g∧∀H:zaa,∃B,g [] H=.val (.mp H.length) B∧(∀j,j<H.length→B[j]? = H[j]?)∧B[H.length]? = za7[0]?:=by
 obtain⟨g,k,s⟩:=zbZ.spec (P:=prog) (F:=29) zaf (D:=fun vs H=>vs=[]) (R:=fun vs H r=>∃B,r=.val (.mp H.length) B∧(∀j,j<H.length→B[j]? = H[j]?)∧B[H.length]? = za7[0]?) (by
  rintro vs H rfl;have hx:zbZ prog TT 29 [] [] fun r=>r=.val (.mp 0) za7:=⟨_,rfl,by simp,zga zaf Con.none_sound 3000 29 [] [] _ zfS (by simp)⟩;have n0:∀k,¬k<([]:zaa).length:=fun k=>Nat.not_lt_zero k;have hp:=zbZ.part (H:=H) (g:=fun _=>0) zaw (fun k h=>absurd h (n0 k)) (fun k j h=>absurd h (n0 k)) (fun k h=>absurd h (n0 k)) (by rfl) (by kernel_rfl) (by simp) (by rfl) (by kernel_rfl) hx;have hB:=zgg (H:=H) (H0:=[]) (H1:=za7) (g:=fun _=>0) (fun k h=>absurd h (n0 k)) (fun k j h=>absurd h (n0 k)) (by simp);refine hp.mono fun r hr=>⟨_,?_,fun j hj=>hB.rest j hj fun k hk=>absurd hk (n0 k),?_⟩
  ·rw[hr];rfl
  ·exact(hB.new 0 (by simp) (by decide)).trans (by kernel_rfl))
 refine⟨g,k,fun H=>?_⟩;obtain⟨r,⟨B,rfl,hB⟩,hr⟩:=s [] H rfl;exact⟨B,hr,hB⟩
theorem zp3:∃g,zao prog TT 45 g∧∀(p:Nat×List UInt8)(H:zaa),Bld H p.1 p.2→g [.ptr p.1 0] H=.val (.i .i64 p.2.length) H:=by
 refine zc1 zaf 45 (fun p:Nat×List UInt8=>[.ptr p.1 0]) (fun p H=>Bld H p.1 p.2) (fun p H r=>r=.val (.i .i64 p.2.length) H) ?_ ?_
 ·rintro⟨n,l⟩ ⟨n',l'⟩ H r h1 h2 he hr;simp only[List.cons.injEq,V.ptr.injEq,and_true]at he;subst he;rw[←h1.inj h2];exact hr
 ·rintro⟨n,l⟩ H hb;obtain⟨a,_,⟨h1,h2⟩|⟨m,hm,hne,h1,h2⟩⟩:=hb
  ·simp only at h1 h2 ⊢;subst h2;refine zaH.sym zaf n0 (fn:=f45) rfl rfl (by simp[f45]) zuj (by kernel_rfl) [.un n,.uh H,.uv a] rfl ⟨by rw[zag];rfl,trivial⟩ (zaa.set_self h1) ⟨by simp;exact zaa.lt h1,by simp⟩ ?_;simp -implicitDefEqProofs only[VC,isR,exU,Ask.den,forall_eq,E.den,O1.den,O2.den,O3.den,U.int_ui,U.boo_ub,U.val_uv,U.lst_ul,U.str_us,U.nat_un,U.heap_uh,SH.den,zaB,zbX,bD,SB.den,zaq,LQ,cons_append,nil_append,List.getElem?_cons_zero,List.getElem?_cons_succ,Option.getD_some,zam,zai,zan,zaj,beq_iff_eq,bne_iff_ne,beq_eq_false_iff_ne,Int.toNat_natCast,←zaa.set_self h1];rfl
  ·simp only at h1 h2 ⊢;refine zaH.sym zaf n0 (fn:=f45) rfl rfl (by simp[f45]) zuk (by kernel_rfl) [.un n,.uh H,.uv a,.un m,.us l] rfl ⟨by rw[zag];rfl,trivial⟩ (zaa.set_self h1) ⟨by simp;exact zaa.lt h1,by simp⟩ ?_;simp -implicitDefEqProofs only[VC,isR,exU,Ask.den,forall_eq,E.den,O1.den,O2.den,O3.den,U.int_ui,U.boo_ub,U.val_uv,U.lst_ul,U.str_us,U.nat_un,U.heap_uh,SH.den,zaB,zbX,bD,SB.den,zaq,LQ,cons_append,nil_append,List.getElem?_cons_zero,List.getElem?_cons_succ,Option.getD_some,zam,zai,zan,zaj,beq_iff_eq,bne_iff_ne,beq_eq_false_iff_ne,Int.toNat_natCast,←zaa.set_self h1]
def zuO (H:zaa)(v:V)(l:List Tk):Prop:=(v=.nils∧l=[])∨∃n,v=.sl n 4 0 l.length none∧H[n]? = some (some {ty:=34,cells:=tkC l,kind:=.more})
theorem zym {H:zaa}{v:V}{l:List Tk}(h:zuO H v l)(hl:l.length<100000000)(x:Tk){b:Nat}(hb:H[b]? = some (some {ty:=34,cells:=tkL x,kind:=.all})) :
 ∃v2 H2,zaM TT 23 v (.sl b 4 0 1 (some 1)) H=.val v2 H2∧zuO H2 v2 (l++[x]):=by
 have e1:TT.und 23=some (.slice 34):=rfl;have e2:TT.size 34=some 4:=rfl;have e3:TT.zero 34=some (.agg [.i .i64 0,.s [],.i .i64 0,.b false]):=rfl;have e4:TT.bytes 34=some 40:=rfl;have c1:zar H b=some {ty:=34,cells:=tkL x,kind:=.all}:=by simp[zar,hb]
 have c3:cut (tkL x) (0*4) (1*4)=some (tkL x):=by simp[cut,tkL]
 have f1:(tkL x).all zeF=true:=by simp[tkL,zeF]
 have f2:(V.agg [.i .i64 0,.s [],.i .i64 0,.b false]).cells.length=4:=rfl;rcases h with⟨rfl,rfl⟩|⟨n,rfl,hn⟩
 ·simp only[zaM,e1,e2,e3,e4,za9,c1,c3,Option.map_some,if_true];rw[if_pos ⟨by decide,f2,by decide,f1⟩];simp only[za2];rw[if_neg (by decide),if_pos ⟨by omega,by omega⟩];exact⟨_,_,rfl,.inr ⟨H.length,rfl,by simp[tkC]⟩⟩
 ·have c2:zar H n=some {ty:=34,cells:=tkC l,kind:=.more}:=by simp[zar,hn]
  have c4:cut (tkC l) (0*4) (l.length*4)=some (tkC l):=by simp[cut,←zcB]
  have hlen:=zcB l;simp only[zaM,e1,e2,e3,e4,za9,c1,c2,c3,c4,Option.map_some,if_true];rw[if_pos ⟨by decide,f2,by decide,f1⟩,if_pos ⟨trivial,by omega,by omega⟩];simp only[za2,setK_eq];rw[if_neg (by decide),if_pos ⟨trivial,by omega,trivial⟩];refine⟨_,_,rfl,.inr ⟨H.length,by simp,?_⟩⟩;rw[zmN];simp
def zhD (x:Tk):Tk:=(x.1,x.2.1,0,false)
theorem zo2 {call:zad} (hC:call.Sound prog TT) (l:List Tk) (hl:l.length<1100000) {Q:Out→Prop} :
    ∀ (r p:List Tk) (v:V) (t:Tm) (H:zaa),l=p++r→t.wid=22→t.get 3=v→t.get 6=.isl 4 (zaG l)→t.get 7=.i .i64 (l.length:Nat)→t.get 8=.i .i64 (p.length:Nat)→zuO H v (p.map zhD) →
      (∀(t':Tm)(H':zaa)(v:V),t'.wid=22→t'.get 3=v→zuO H' v (l.map zhD)→Q (.exit 0 t' H')) →
      zbe prog TT (sub [true,true,false,true,false,false] (zah f34)) t H Q:=by
 intro r
 induction r with
 | nil=>
   intro p v t H e hw t3 t6 t7 t8 hO hQ
   have e1:p.length=l.length:=by rw[e];simp
   have hlt:¬((p.length:Nat):Int)<(l.length:Nat):=by omega
   have hF:=ai @t3 (ai @t6 (ai @t7 (ai @t8 @hlt)))
   refine zbe.round' ?_
   apply rS hC
   · refine zab rfl (by simp[hF]<;>rfl) (by rfl) (by simp[hw]) ?_
     rfl
   apply sQ
   refine Tri.condG (o:=?o1) (b:=?b1) ?g1 ?r1 ?y1 ?n1
   case g1=>simp[hF]<;>rfl
   case r1=>rfl
   case y1=>intro h;simp[hF]at h
   case n1=>
    intro _
    refine Tri.exit ?_
    refine za8 ?_
    refine zbo ?_
    refine hQ _ _ v (by simp[hw]) (by simp[t3]) ?_
    rw[e,append_nil]
    exact hO
 | cons x r ih=>
   intro p v t H e hw t3 t6 t7 t8 hO hQ
   have hlen:l.length=p.length+(r.length+1):=by rw[e];simp
   have hlt:((p.length:Nat):Int)<(l.length:Nat):=by omega
   have hx:l[p.length]? = some x:=by rw[e];simp
   have h0:(0:Int)≤(p.length:Nat):=by omega
   have hrl:(zaG l).length=l.length:=by simp[zaG]
   have hix:p.length<(zaG l).length:=by omega
   have hld:∀h,(zaG l)[p.length]'h=.agg (tkL x):=fun h=>by
    have:p.length<l.length:=by omega
    rw[List.getElem?_eq_getElem this]at hx
    simp only[zaG,getElem_map,Option.some.inj hx]
   have hw1:IntKind.i64.wrap ((p.length:Int)+1)=((p++[x]).length:Nat):=by
    rw[w64 (by omega) (by omega)];simp
   have hF:=ai @t3 (ai @t6 (ai @t7 (ai @t8 (ai @hlt (ai @hix (ai @hld @hw1))))))
   refine zbe.round' ?_
   apply rS hC
   · refine zab rfl (by simp[hF]<;>rfl) (by rfl) (by simp[hw]) ?_
     rfl
   apply sQ
   refine Tri.condG (o:=?ok1) (b:=?bk1) ?gk1 ?rk1 ?yk1 ?nk1
   case gk1=>simp[hF]<;>rfl
   case rk1=>rfl
   case nk1=>intro h;simp[hF]at h
   case yk1=>
    intro _
    apply Tri.skip
    apply sN
    apply sQ
    apply bK
    apply sQ
    refine Tri.regN (t':=?tk2) (H':=?Hk2) zaf hC ?ek2 ?qk2
    case ek2=>
     refine zas ?_
     iterate 4 refine zab rfl (by simp[hF,tkL]<;>rfl) (by rfl) (by simp[hw]) ?_
     exact zak
    apply sN
    have hb3:∀K:zaa,zaY TT 23 1 [(0,.agg [.i .i64 x.1,.s x.2.1,.i .i64 0,.b false])] K=.val (.sl K.length 4 0 1 (some 1)) (K++[some {ty:=34,cells:=tkL (zhD x),kind:=.all}]):=fun K=>zr5 (zhD x) K
    obtain⟨v2,H2,ha,hO2⟩:=zym (H:=(H++[some ⟨34,tkL x,.all⟩])++[some ⟨34,tkL (zhD x),.all⟩]) (v:=v) (l:=p.map zhD) (by
     rcases hO with h|⟨n,h1,h2⟩
     · exact .inl h
     · refine .inr ⟨n,h1,?_⟩
       have:=zaa.lt h2
       rw[List.getElem?_append_left (by simp;omega),List.getElem?_append_left this]
       exact h2) (by rw[length_map];omega) (zhD x) (b:=H.length+1) (by simp)
    simp only[append_assoc,cons_append,nil_append,tkL,zhD]at ha
    refine Tri.regN (t':=?tk3) (H':=?Hk3) zaf hC ?ek3 ?qk3
    case ek3=>
     refine zas ?_
     iterate 6 refine zab rfl (by simp[t3,tkL]<;>rfl) (by rfl) (by simp[hw]) ?_
     refine zab rfl (by simp[hb3,tkL,zhD]<;>rfl) (by rfl) (by simp[hw]) ?_
     refine zab rfl (by simp[ha]<;>rfl) (by rfl) (by simp[hw]) ?_
     refine zab rfl (by simp<;>rfl) (by rfl) (by simp[hw]) ?_
     exact zak
    apply bN
    apply sN
    refine Tri.regN (t':=?tk4) (H':=?Hk4) zaf hC ?ek4 ?qk4
    case ek4=>
     refine zas ?_
     iterate 2 refine zab rfl (by simp[t8,hw1]<;>rfl) (by rfl) (by simp[hw]) ?_
     exact zak
    refine zav ?_
    exact ih (p++[x]) v2 _ _ (by rw[e];simp) (by simp[hw]) (by simp) (by simp[t6]) (by simp[t7]) (by simp[t8,hw1]) (by rw[map_append];exact hO2) hQ
def zuK (l:List Tk)(r:OR):Prop:=∃v J,r=.val v J∧zuO J v (l.map zhD)
theorem zqK {l:List Tk}{r:OR}(h:zuK l r):∃v J k v' u,r=.val v J∧fz J k v=some v'∧zjK v' u∧u=.isl 4 (zaG (l.map zhD)):=by
 obtain⟨v,J,rfl,ho⟩:=h;generalize l.map zhD=m at ho;rcases ho with⟨rfl,rfl⟩|⟨n,rfl,hn⟩
 ·exact⟨_,J,5,_,_,rfl,by simp[fz]<;>rfl,zkN 4,rfl⟩
 ·have hc:zar J n=some {ty:=34,cells:=tkC m,kind:=.more}:=by simp[zar,hn]
  have hlen:=zcB m;have hcut:cut (tkC m) (0*4) (m.length*4)=some (tkC m):=by
   simp only[cut];rw[if_pos (by omega),Nat.zero_mul,drop_zero,take_of_length_le (by omega)]
  have hf:=zoN (H:=J) m (4*m.length+7) (by omega);exact⟨_,J,4*m.length+8,_,_,rfl,by simp only[fz,hc,hcut,hf,zhn,Option.map_some];rfl,zjK.refl _,rfl⟩
theorem zji (l:List Tk):nl (.isl 4 (zaG l))=true:=by
 show nlL (zaG l)=true;unfold zaG;induction l with
 |nil=>rfl
 |cons x l ih=>
  show(nl (V.agg (tkL x))&&nlL (l.map fun x=>V.agg (tkL x)))=true;rw[ih];rfl
theorem zgh {l r:List Tk}(h:zaG l=zaG r):l=r:=by
 refine(map_inj_right (f:=fun x:Tk=>V.agg (tkL x)) fun x y e=>?_).1 h;simp only[V.agg.injEq,tkL,List.cons.injEq,V.i.injEq,V.s.injEq,V.b.injEq,true_and,and_true]at e;exact Prod.ext e.1 (Prod.ext e.2.1 (Prod.ext e.2.2.1 e.2.2.2))
theorem zvT:∃g,zao prog TT 34 g∧∀l:List Tk,l.length<1100000→∀H,g [.isl 4 (zaG l)] H=.val (.isl 4 (zaG (l.map zhD))) H:=by
 refine zkH zaf zaw 34 (fun l:List Tk=>[.isl 4 (zaG l)]) (fun l=>l.length<1100000) (fun l=>.isl 4 (zaG (l.map zhD))) (fun l _=>?_) (fun a b _ _ h=>?_)
  fun l hl=>(zaH.fact zaf (R:=zuK l) ?_).mono fun r hr=>zqK hr
 ·show(nl (.isl 4 (zaG l))&&true)=true;rw[zji];rfl
 ·simp only[List.cons.injEq,V.isl.injEq,true_and,and_true]at h;rw[zgh h]
 ·refine⟨f34,_,rfl,rfl,by simp[f34],?_⟩;have h0:(Tm.init f34.ntmps [.isl 4 (zaG l)]).get 0=.isl 4 (zaG l):=by rw[zag];rfl
  have hw:(Tm.init f34.ntmps [.isl 4 (zaG l)]).wid=22:=rfl;have hrl:(zaG l).length=l.length:=by simp[zaG]
  generalize Tm.init f34.ntmps [.isl 4 (zaG l)]=t at *;apply sQ;refine Tri.regN (t':=?t1) (H':=?H1) zaf n0 ?e1 ?q1;case e1=>
   refine zas ?_;refine zab rfl (by simp<;>rfl) (by rfl) (by simp[hw]) ?_;exact zak
  apply sN;apply sQ;refine Tri.regN (t':=?t2) (H':=?H2) zaf n0 ?e2 ?q2;case e2=>
   refine zas ?_;refine zab rfl (by simp<;>rfl) (by rfl) (by simp[hw]) ?_;exact zak
  apply sN;iterate 2 apply sQ
  refine Tri.regN (t':=?t3) (H':=?H3) zaf n0 ?e3 ?q3;case e3=>
   refine zas ?_;iterate 3 refine zab rfl (by simp[h0,hrl]<;>rfl) (by rfl) (by simp[hw]) ?_
   exact zak
  apply sN;apply bK;refine Tri.loop ?_;refine zo2 n0 l hl l [] .nils _ _ rfl (by simp[hw]) (by simp) (by simp[h0]) (by simp[hrl]) (by simp) (.inl ⟨rfl,rfl⟩) ?_;intro t' H' v hw' f3 hO;refine zaO ?_;apply sN;apply sQ;refine Tri.regN (t':=?t4) (H':=?H4) zaf n0 ?e4 ?q4;case e4=>
   refine zas ?_;iterate 2 refine zab rfl (by simp[f3]<;>rfl) (by rfl) (by simp[hw']) ?_
   exact zak
  apply sN;apply Tri.ret;exact⟨v,⟨v,H',rfl,hO⟩,by simp[f34,f3]<;>rfl⟩
theorem zbR (l:List Tk):(zaG l).length=l.length:=by simp[zaG]
theorem zth {call:zad}(hC:call.Sound prog TT)(l r:List Tk)(hl:l.length<1100000)(he:l.length=r.length) :
 ∀(n i:Nat)(t:Tm)(H:zaa),l.length<n+i→i≤l.length→t.wid=f14.ntmps→t.get 5=.isl 4 (zaG l)→t.get 6=.isl 4 (zaG r)→t.get 18=.i .i64 l.length→t.get 19=.i .i64 (i:Nat) →
 ctx prog TT [true,true,true,false,true,false,false] (zah f14) (zaV TT f14 (isR (.val (.b (decide (l.drop i=r.drop i)))))) (.norm t H):=by
 intro n;induction n with
 |zero=>intro i t H h1 h2;omega
 |succ n ih=>
  intro i t H hn hi hw t5 t6 t18 t19;have hlr:=zbR l;have hrr:=zbR r;refine zbe.symIn (p:=[true,true,true,false,true,false]) zaf hC rfl zwE (by kernel_rfl) [.ul (zaG l),.ul (zaG r),.uh H,.ui (i:Nat)] rfl hw ⟨t5,t6,by rw[t18,←hlr];rfl,t19,trivial⟩ rfl (zbd _ _) ?_;clear t5 t6 t18 t19 hw;simp -implicitDefEqProofs only[VC,isR,exU,Ask.den,forall_eq,E.den,O1.den,O2.den,O3.den,U.int_ui,U.boo_ub,U.val_uv,U.lst_ul,U.str_us,U.nat_un,U.heap_uh,SH.den,zaB,zbX,bD,SB.den,zaq,LQ,cons_append,nil_append,List.getElem?_cons_zero,List.getElem?_cons_succ,Option.getD_some,zam,zai,zan,zaj,beq_iff_eq,bne_iff_ne,beq_eq_false_iff_ne,Int.toNat_natCast,Bool.false_eq_true,if_false,if_true];have w1:IntKind.i64.wrap ((i:Int)+1)=((i+1:Nat):Int):=by rw[w64 (by omega) (by omega)];omega
  simp only[w1,Int.toNat_natCast];refine⟨fun h=>⟨by omega,.inl ?_⟩,fun h=>?_⟩
  ·have h1:i<l.length:=by omega
   have h2:i<r.length:=by omega
   refine⟨l[i].1,l[i].2.1,l[i].2.2.1,l[i].2.2.2,?_,by omega,.inl ⟨r[i].1,r[i].2.1,r[i].2.2.1,r[i].2.2.2,?_,?_,?_⟩⟩
   ·rw[zoZ rfl rfl (List.getElem?_eq_getElem h1)];rfl
   ·rw[zoZ rfl rfl (List.getElem?_eq_getElem h2)];rfl
   ·intro hq t' hw' f5 f6 f18 f19;simp only[Bool.and_eq_true,beq_iff_eq]at hq;have hx:l[i]=r[i]:=Prod.ext hq.1 (Prod.ext hq.2.1 (Prod.ext hq.2.2.1 hq.2.2.2.1));have e:decide (l.drop i=r.drop i)=decide (l.drop (i+1)=r.drop (i+1)):=by
     have e1:l.drop i=r[i]::l.drop (i+1):=by rw[←hx];exact drop_eq_getElem_cons h1
     have e2:r.drop i=r[i]::r.drop (i+1):=drop_eq_getElem_cons h2;rw[e1,e2,decide_eq_decide];exact⟨fun h=>(List.cons.inj h).2,fun h=>by rw[h]⟩
    rw[e];exact ih (i+1) t' _ (by omega) (by omega) hw' f5 f6 (by rw[f18,hlr]) f19
   ·intro hq;have hx:l.drop i≠r.drop i:=fun e=>by
     rw[drop_eq_getElem_cons h1,drop_eq_getElem_cons h2]at e;rw[(List.cons.inj e).1]at hq;simp at hq
    rw[decide_eq_false hx]
  ·rw[drop_eq_nil_of_le (by omega),drop_eq_nil_of_le (by omega)];rfl
def znu (l r:List Tk):Bool:=decide (l.map zhD=r.map zhD)
theorem zp0:∃g,zao prog TT 14 g∧∀p:List Tk×List Tk,(p.1.length<1100000∧p.2.length<1100000)→∀H,g [.isl 4 (zaG p.1),.isl 4 (zaG p.2)] H=(Res.val (.b (znu p.1 p.2))).at H:=by
 obtain⟨g1,k1,s1⟩:=zvT;have hC:=ws n0 k1;have c1:∀l:List Tk,l.length<1100000→∀H,(zad.none.with 34 g1) 34 [.isl 4 (zaG l)] H=.val (.isl 4 (zaG (l.map zhD))) H:=fun l h H=>by rw[zap];exact s1 l h H
 generalize zad.none.with 34 g1=call at hC c1;refine zbV zaf zaw 14 (fun p:List Tk×List Tk=>[.isl 4 (zaG p.1),.isl 4 (zaG p.2)]) _ (fun p=>.val (.b (znu p.1 p.2))) (fun p _=>⟨?_,rfl⟩) (fun a b _ _ h=>?_) fun p hp=>?_
 ·show(nl (.isl 4 (zaG p.1))&&(nl (.isl 4 (zaG p.2))&&true))=true;rw[zji,zji];rfl
 ·simp only[List.cons.injEq,V.isl.injEq,true_and,and_true]at h;rw[zgh h.1,zgh h.2]
 ·obtain⟨l,r⟩:=p;simp only at hp ⊢;refine zaH.sym zaf hC (fn:=f14) rfl rfl (by simp[f14]) zwD (by kernel_rfl) [.ul (zaG l),.ul (zaG r),.uh []] rfl ⟨by rw[zag];rfl,by rw[zag];rfl,trivial⟩ rfl (zbd _ _) ?_;simp -implicitDefEqProofs only[VC,isR,exU,Ask.den,forall_eq,E.den,O1.den,O2.den,O3.den,U.int_ui,U.boo_ub,U.val_uv,U.lst_ul,U.str_us,U.nat_un,U.heap_uh,SH.den,zaB,zbX,bD,SB.den,zaq,LQ,cons_append,nil_append,List.getElem?_cons_zero,List.getElem?_cons_succ,Option.getD_some,zam,zai,zan,zaj,beq_iff_eq,bne_iff_ne,beq_eq_false_iff_ne,Int.toNat_natCast];refine .inl ⟨_,c1 l hp.1,.inl ⟨_,c1 r hp.2,fun h=>?_,fun h t hw t5 t6 t18 t19=>?_⟩⟩
  ·unfold znu;rw[decide_eq_false (fun e=>by
    rw[e]at h;simp at h)]
  ·rw[zbR,zbR,length_map,length_map]at h;have he:l.length=r.length:=Int.ofNat.inj (by simpa using h);have:=zth n0 (l.map zhD) (r.map zhD) (by rw[length_map];exact hp.1) (by rw[length_map,length_map];exact he) ((l.map zhD).length+1) 0 t [] (by omega) (by omega) hw t5 t6 (by rw[t18,zbR]) t19;rw[drop_zero,drop_zero]at this;exact Tri.symLoop rfl this
def zuG (k:Int)(x:List UInt8)(p:List Tk×Nat×Nat):Bool:=p.2.2==0&&match p.1 with
 | [y]=>y.1==k&&y.2.1==x
 |_=>false
def zfZ (k:Int)(x:List UInt8):Bool:=
 if k=1 then(!x.isEmpty)&&(((idR x 0:Nat):Int)==x.length) && !kw x
 else if k=2 then kw x
 else if k=3∨k=4 then(x !=[])&&((decide (48≤atS x 0)&&decide (atS x 0≤57))&&zuG k x (zf0 x))
 else if k=5 then Lib.validD x
 else if k=6 then sgnL.contains x else false
noncomputable def cfA:zad:=((((zad.none.with 40 (ch ztY)).with 29 (ch zxL)).with 50 (ch znx)).with 11 (ch zfV)).with 36 (ch zlK)
theorem zhV:cfA.Sound prog TT:=ws (ws (ws (ws (ws n0 (zeo ztY)) (zeo zxL)) (zeo znx)) (zeo zfV)) (zeo zlK)
abbrev tkB (k:Int)(x:List UInt8)(a:Int)(l:Bool):Blk:={ty:=34,cells:=[.i .i64 k,.s x,.i .i64 a,.b l],kind:=.all}
theorem ztF (k:Int)(x:List UInt8)(a:Int)(l:Bool)(t:Tm)(hw:t.wid=82)(t1:t.get 1=.ptr 0 0){Q:Out→Prop}(h:∀t' H',t'.get 2=.b (kw x)→Q (.norm t' H')):Tri prog TT (sub [true,false,true,false,true,true,true,false,false] (zah f44)) t [some (tkB k x a l)] Q:=by
 obtain⟨B,c1,c2,c3⟩:=zc2 zxL [some (tkB k x a l)];have c1:cfA 29 [] [some (tkB k x a l)]=.val (.mp 1) B:=c1;have b0:B[0]? = some (some (tkB k x a l)):=c2 0 (by simp);have hl:zbm TT 52 (.mp 1) (.s x) false B=some (.b (kw x)):=zoV c3 x;have ex:TT.ext 29=none:=rfl;show Tri prog TT (.region _ _ true) t _ Q;refine Tri.regN (t':=?t1) (H':=?H1) zaf zhV ?e1 ?q1;case e1=>
  refine zbG (t':=?t1) (H':=?H1) (ks:=[.e,.q,.a,.f,.q]) (fun K=>K[0]? = some (some (tkB k x a l))) (by kernel_rfl) rfl ?_ ?r1;refine DR.eff rfl rfl (by simp[c1,ex]<;>rfl) (by rfl) (by simp[hw]) b0 ?_;refine DR.blind rfl rfl (by simp[t1]<;>rfl) (by rfl) (by simp[hw]) ?_;refine DR.any rfl (by simp[b0]<;>rfl) (by rfl) (by simp[hw]) (by intro K hK;simp[hK]<;>rfl) ?_;refine DR.fix rfl (by simp[hl]<;>rfl) (by rfl) (by simp[hw]) ?_;refine DR.blind rfl rfl (by simp<;>rfl) (by rfl) (by simp[hw]) ?_;exact DR.nil;case r1=>exact rfl
 exact h _ _ (by simp)
theorem ztz {k:Int}{x:List UInt8}{p:List Tk×Nat×Nat}(h:p.2.2=0):zuG k x p=match p.1 with
 | [y]=>y.1==k&&y.2.1==x
 |_=>false:=by simp[zuG,h]
theorem ztl {l:List Tk}{i:Nat}{x:Tk}(h:l[i]? = some x)(H:zaa):zae TT 3 H (.ipt 4 (zaG l) i 0)=some (.i .i64 x.1):=by
 have e:zb3 (TT.und 3)=some false:=rfl;simp only[zae,zaG,List.getElem?_map,h,Option.map_some,zby,e];rfl
theorem ztm {l:List Tk}{i:Nat}{x:Tk}(h:l[i]? = some x)(H:zaa):zae TT 9 H (.ipt 4 (zaG l) i 1)=some (.s x.2.1):=by
 have e:zb3 (TT.und 9)=some false:=rfl;simp only[zae,zaG,List.getElem?_map,h,Option.map_some,zby,e];rfl
theorem zpc (k:Int)(x:List UInt8)(a:Int)(l:Bool)(t:Tm)(hw:t.wid=f44.ntmps)(t1:t.get 1=.ptr 0 0) :
 Tri prog TT (sub [true,false,true,false,true,true,true,true,true,false,false,false] (zah f44)) t [some (tkB k x a l)] (ctx prog TT [true,false,true,false,true,true,true,true,true,false,false,false] (zah f44) (zaV TT f44 (isR (.val (.b ((x !=[])&&((decide (48≤atS x 0)&&decide (atS x 0≤57))&&zuG k x (zf0 x)))))))):=by
 refine Tri.symIn zaf zhV zug (by kernel_rfl) [.un 0,.uh [some (tkB k x a l)],.ui k,.us x,.ui a,.ub l] rfl hw ⟨t1,trivial⟩ rfl ⟨by simp,by simp⟩ ?_;simp -implicitDefEqProofs only[VC,isR,exU,Ask.den,forall_eq,E.den,O1.den,O2.den,O3.den,U.int_ui,U.boo_ub,U.val_uv,U.lst_ul,U.str_us,U.nat_un,U.heap_uh,SH.den,zaB,zbX,bD,SB.den,zaq,LQ,cons_append,nil_append,List.getElem?_cons_zero,List.getElem?_cons_succ,Option.getD_some,zam,zai,zan,zaj,beq_iff_eq,bne_iff_ne,beq_eq_false_iff_ne,Int.toNat_natCast,Bool.false_eq_true,if_false,if_true];refine⟨fun h=>?_,fun h=>?_⟩
 ·subst h;rfl
 ·have hx:(x !=[])=true:=by simpa using h
  have hl:0<x.length:=length_pos_iff.2 (by simpa using h);obtain⟨y,hy⟩:=zeL x 0 hl;have hy:atS x 0=y.toNat:=hy;rw[hx,Bool.true_and,hy];refine⟨by omega,.inl ⟨_,fun K=>zc2 znx _ trivial K,fun hd=>?_,fun hd=>by rw[hd];rfl⟩⟩;rw[hd,Bool.true_and];obtain⟨p,ps⟩:∃p,p=zf0 x:=⟨_,rfl⟩;refine .inl ⟨zaG p.1,(p.2.1:Nat),(p.2.2:Nat),fun K=>by rw[ps];exact zc2 zfV x K,?_,?_⟩
  ·intro he;have he:p.2.2=0:=by omega
   rw[←ps,ztz he,zbR];refine⟨fun h1=>?_,fun h1=>?_⟩
   ·have h1:p.1.length=1:=by omega
    obtain⟨z,hz⟩:=length_eq_one_iff.1 h1;rw[hz];refine⟨by simp,.inl ⟨z.1,?_,?_⟩⟩
    ·exact congrArg (fun o=>lift o _) (ztl (i:=0) rfl _)
    ·refine⟨fun h2=>.inl ⟨z.2.1,congrArg (fun o=>lift o _) (ztm (i:=0) rfl _),?_⟩,fun h2=>?_⟩
     ·simp[h2]
     ·simp[h2]
   ·have h1:p.1.length≠1:=by omega
    rcases hpl:p.1 with _|⟨z,_|⟨z2,r⟩⟩
    ·rfl
    ·exact absurd (by rw[hpl];rfl) h1
    ·rfl
  ·intro he;have he:p.2.2≠0:=by omega
   rw[←ps];simp[zuG,he]
theorem zrP (k:Int)(x:List UInt8)(a:Int)(l:Bool):∀(n i:Nat)(t:Tm),43<n+i→i≤43→t.wid=f44.ntmps→t.get 1=.ptr 0 0→t.get 73=.agg (sgnL.map .s)→t.get 74=.i .i64 (i:Nat) →
 ctx prog TT [true,false,true,false,true,true,true,true,true,true,true,true,true,false,true,false,false] (zah f44) (zaV TT f44 (isR (.val (.b ((sgnL.drop i).contains x))))) (.norm t [some (tkB k x a l)]):=by
 intro n;induction n with
 |zero=>intro i t h1 h2;omega
 |succ n ih=>
  intro i t hn hi hw t1 t73 t74;refine zbe.symIn (p:=[true,false,true,false,true,true,true,true,true,true,true,true,true,false,true,false]) zaf zhV rfl zuh (by kernel_rfl) [.un 0,.uh [some (tkB k x a l)],.ui k,.us x,.ui a,.ub l,.uv (.agg (sgnL.map .s)),.ui (i:Nat)] rfl hw ⟨t1,t73,t74,trivial⟩ rfl ⟨by simp,by simp⟩ ?_;clear t1 t73 t74 hw;simp -implicitDefEqProofs only[VC,isR,exU,Ask.den,forall_eq,E.den,O1.den,O2.den,O3.den,U.int_ui,U.boo_ub,U.val_uv,U.lst_ul,U.str_us,U.nat_un,U.heap_uh,SH.den,zaB,zbX,bD,SB.den,zaq,LQ,cons_append,nil_append,List.getElem?_cons_zero,List.getElem?_cons_succ,Option.getD_some,zam,zai,zan,zaj,beq_iff_eq,bne_iff_ne,beq_eq_false_iff_ne,Int.toNat_natCast,Bool.false_eq_true,if_false,if_true];refine⟨fun h t hw t1 t73 t74=>?_,fun h=>?_⟩
  ·have hlt:i<sgnL.length:=by show i<43;omega
   have hx:sgnL[i]? = some sgnL[i]:=List.getElem?_eq_getElem hlt;have hd:sgnL.drop i=sgnL[i]::sgnL.drop (i+1):=drop_eq_getElem_cons hlt;have hw1:t.wid=82:=hw;generalize sgnL[i]=y at hd hx;refine Tri.regN (t':=?t1) (H':=?H1) zaf zhV ?e1 ?q1;case e1=>
    refine zas ?_;refine zab rfl (by simp[t73,t74,hx,h]<;>rfl) (by rfl) (by simp[hw1]) ?_;refine zab rfl (by simp<;>rfl) (by rfl) (by simp[hw1]) ?_;exact zak
   show ctx prog TT [true,false,true,false,true,true,true,true,true,true,true,true,true,false,true,false,false,true,true,false,false,false] (zah f44) _ _;apply sN;refine Tri.symIn zaf zhV zui (by kernel_rfl) [.un 0,.uh [some (tkB k x a l)],.ui k,.us x,.ui a,.ub l,.uv (.agg (sgnL.map .s)),.ui (i:Nat),.us y] rfl ?_ ⟨by simp[t1],by simp,by simp[t73],by simp[t74],trivial⟩ rfl ⟨by simp,by simp⟩ ?_
   ·simp[hw1]
   simp -implicitDefEqProofs only[VC,isR,exU,Ask.den,forall_eq,E.den,O1.den,O2.den,O3.den,U.int_ui,U.boo_ub,U.val_uv,U.lst_ul,U.str_us,U.nat_un,U.heap_uh,SH.den,zaB,zbX,bD,SB.den,zaq,LQ,cons_append,nil_append,List.getElem?_cons_zero,List.getElem?_cons_succ,Option.getD_some,zam,zai,zan,zaj,beq_iff_eq,bne_iff_ne,beq_eq_false_iff_ne,Int.toNat_natCast,Bool.false_eq_true,if_false,if_true];have w1:IntKind.i64.wrap ((i:Int)+1)=((i+1:Nat):Int):=by rw[w64 (by omega) (by omega)];omega
   rw[hd];refine⟨fun e=>?_,fun e t' hw' f1 f73 f74=>?_⟩
   ·subst e;simp
   ·have e2:(y::sgnL.drop (i+1)).contains x=(sgnL.drop (i+1)).contains x:=by
     rw[contains_cons];have:(x==y)=false:=by simp;exact fun h=>e h.symm
     rw[this,Bool.false_or]
    rw[e2];exact ih (i+1) t' (by omega) (by omega) hw' f1 f73 (by rw[f74,w1])
  ·have:i=43:=by omega
   subst this;rfl
theorem zp2:∃g,zao prog TT 44 g∧∀p:Int×List UInt8×Int×Bool,p.2.1.length<1000000→∀H,g [.agg [.i .i64 p.1,.s p.2.1,.i .i64 p.2.2.1,.b p.2.2.2]] H=(Res.val (.b (zfZ p.1 p.2.1))).at H:=by
 refine zbV zaf zaw 44 (fun p:Int×List UInt8×Int×Bool=>[.agg [.i .i64 p.1,.s p.2.1,.i .i64 p.2.2.1,.b p.2.2.2]]) _ (fun p=>.val (.b (zfZ p.1 p.2.1))) (fun _ _=>⟨rfl,rfl⟩) (fun a b _ _ h=>?_) fun p hp=>?_
 ·simp only[List.cons.injEq,V.agg.injEq,V.i.injEq,V.s.injEq,true_and,and_true]at h;rw[h.1,h.2.1]
 obtain⟨k,x,a,l⟩:=p;simp only at hp ⊢;refine zaH.sym zaf zhV (fn:=f44) rfl rfl (by simp[f44]) zww (by kernel_rfl) [.ui k,.us x,.ui a,.ub l,.uh []] rfl ⟨by rw[zag];rfl,trivial⟩ rfl (zbd _ _) ?_;simp -implicitDefEqProofs only[VC,isR,exU,Ask.den,forall_eq,E.den,O1.den,O2.den,O3.den,U.int_ui,U.boo_ub,U.val_uv,U.lst_ul,U.str_us,U.nat_un,U.heap_uh,SH.den,zaB,zbX,bD,SB.den,zaq,LQ,cons_append,nil_append,List.getElem?_cons_zero,List.getElem?_cons_succ,Option.getD_some,zam,zai,zan,zaj,beq_iff_eq,bne_iff_ne,beq_eq_false_iff_ne,Int.toNat_natCast];unfold zfZ;refine⟨fun h1=>.inl ⟨_,fun K=>zc2 ztY x (by show x.length<1090000;omega) K,by rw[if_pos h1]⟩,fun h1=>⟨fun h2 t hw t1=>?_,fun h2=>⟨fun h3 t hw t1=>?_,fun h3=>⟨fun h4 t hw t1=>?_,fun h4=>⟨fun h5=>.inl ⟨_,fun K=>zc2 zlK x (by omega) K,?_⟩,fun h5=>⟨fun h6 t hw t1 t73 t74=>?_,fun h6=>?_⟩⟩⟩⟩⟩⟩
 ·rw[if_neg h1,if_pos h2];exact ztF k x a l t hw t1 fun t' H' f2=>Tri.ret (show zaV TT f44 _ (.ret t' H')from⟨_,rfl,by simp[f2,f44]⟩)
 ·rw[if_neg h1,if_neg h2,if_pos (.inl h3)];exact zpc k x a l t hw t1
 ·rw[if_neg h1,if_neg h2,if_pos (.inr h4)];exact zpc k x a l t hw t1
 ·rw[if_neg h1,if_neg h2,if_neg (by omega),if_pos h5]
 ·rw[if_neg h1,if_neg h2,if_neg (by omega),if_neg h5,if_pos h6];exact Tri.symLoop rfl (zrP k x a l 44 0 t (by omega) (by omega) hw t1 t73 t74)
 ·rw[if_neg h1,if_neg h2,if_neg (by omega),if_neg h5,if_neg h6]
def wrQ (x:Tk):List UInt8:=if x.1=5 then qtL x.2.1 else x.2.1
def zgn (fit:Tk→Bool):List Tk→Bool→List UInt8→List UInt8×Nat
  | [],_,out=>(out,0)
  | x :: r,b,out=>if fit x=true∧(b=true→x.2.2.2=true)then
      (if 20000<(out++(if b=true then[]else if x.2.2.2=true then[10]else[32])++wrQ x).length then([],16)else zgn fit r false (out++(if b=true then[]else if x.2.2.2=true then[10]else[32])++wrQ x))
    else([],2)
def zr2 (p:List UInt8×Nat):V:=.tup [.s p.1,.i .i64 (p.2:Nat)]
noncomputable def cfB:zad:=(((((zad.none.with 44 (ch zp2)).with 16 (ch zxK)).with 37 (ch zwg)).with 38 (ch zwe)).with 39 (ch zwd)).with 45 (ch zp3)
theorem zoc:cfB.Sound prog TT:=ws (ws (ws (ws (ws (ws n0 (zeo zp2)) (zeo zxK)) (zeo zwg)) (zeo zwe)) (zeo zwd)) (zeo zp3)
theorem zvk {l:List Tk}{i:Nat}{x:Tk}(h:l[i]? = some x)(H:zaa):lift (zae TT 34 H (.ipt 4 (zaG l) i 0)) H=.val (.agg [.i .i64 x.1,.s x.2.1,.i .i64 x.2.2.1,.b x.2.2.2]) H:=by
 rw[zoZ rfl rfl h];rfl
theorem zvz (x:List UInt8):(qtL x).length≤4*x.length+2:=by
 have:=zso x;simp[qtL];omega
theorem zwN (x:Tk):(wrQ x).length≤4*x.2.1.length+2:=by
 unfold wrQ;split
 ·exact zvz _
 ·omega
theorem zmy (l:List Tk) (q i p:Nat) (x:Tk) (out:List UInt8) (t:Tm) (H:zaa) (hx:x.2.1.length<1000000) (hf:zfZ x.1 x.2.1=true) (ho:out.length≤20001) (hw:t.wid=f25.ntmps)
    (t4:t.get 4=.ptr q 0)(t6:t.get 6=.ptr p 0)(t8:t.get 8=.isl 4 (zaG l))(t9:t.get 9=.i .i64 (l.length:Nat))(t10:t.get 10=.i .i64 (i:Nat))(hb:Bld H q out)(hp:H[p]? = some (some (tkB x.1 x.2.1 x.2.2.1 x.2.2.2)))(hap:Apt H q p)(hi:i<1000000){fit:Tk→Bool}{r:List Tk}
    (ih:∀t' H',t'.wid=f25.ntmps→t'.get 4=.ptr q 0→t'.get 8=.isl 4 (zaG l)→t'.get 9=.i .i64 (l.length:Nat)→t'.get 10=.i .i64 ((i+1:Nat):Int)→(out++wrQ x).length≤20000→Bld H' q (out++wrQ x) →
      ctx prog TT [true,true,false,true,false,false] (zah f25) (zaV TT f25 (isR (.val (zr2 (zgn fit r false (out++wrQ x)))))) (.norm t' H')) :
    Tri prog TT (sub [true,true,false,true,false,false,true,true,false,false,true,true,true,false] (zah f25)) t H (ctx prog TT [true,true,false,true,false,false,true,true,false,false,true,true,true,false] (zah f25)
      (zaV TT f25 (isR (.val (zr2 (if 20000<(out++wrQ x).length then([],16)else zgn fit r false (out++wrQ x))))))):=by
  have hlr:=zbR l
  have hpl:=zaa.lt hp
  refine Tri.symIn zaf zoc zwm (by kernel_rfl) [.ul (zaG l),.un q,.ui (i:Nat),.un p,.uh H,.ui x.1,.us x.2.1,.ui x.2.2.1,.ub x.2.2.2] rfl hw ⟨t4,t6,t8,by rw[t9,←hlr];rfl,t10,trivial⟩ (zaa.set_self hp) ⟨by simp;exact hpl,by simp⟩ ?_
  clear t4 t6 t8 t9 t10 hw
  have hset:H.set p (some ⟨34,[.i .i64 x.1,.s x.2.1,.i .i64 x.2.2.1,.b x.2.2.2],.all⟩)=H:=(zaa.set_self hp).symm
  simp -implicitDefEqProofs only[VC,isR,exU,Ask.den,forall_eq,E.den,O1.den,O2.den,O3.den,U.int_ui,U.boo_ub,U.val_uv,U.lst_ul,U.str_us,U.nat_un,U.heap_uh,SH.den,zaB,zbX,bD,SB.den,zaq,LQ,cons_append,nil_append,List.getElem?_cons_zero,List.getElem?_cons_succ,Option.getD_some,zam,zai,zan,zaj,beq_iff_eq,bne_iff_ne,beq_eq_false_iff_ne,Int.toNat_natCast,zbC,hset,Bool.false_eq_true,if_false,if_true]
  have w1:IntKind.i64.wrap ((i:Int)+1)=((i+1:Nat):Int):=by rw[w64 (by omega) (by omega)];omega
  have hwl:=zwN x
  have go:∃H',cfB 38 [.ptr q 0,.s (wrQ x)] H=.val (.tup [.i .i64 (wrQ x).length,.nili]) H'∧Bld H' q (out++wrQ x)∧H'[p]? = some (some (tkB x.1 x.2.1 x.2.2.1 x.2.2.2)):=by
    obtain⟨H',h1,h2,h3⟩:=zc2 zwe (q,out,wrQ x) H ⟨hb,by simp only;omega⟩
    exact⟨H',h1,h2,(h3 p hap).1.trans hp⟩
  obtain⟨H',h1,h2,h3⟩:=go
  have hl:cfB 45 [.ptr q 0] H'=.val (.i .i64 (out++wrQ x).length) H':=zc2 zp3 (q,out++wrQ x) H' h2
  have hset':H'.set p (some ⟨34,[.i .i64 x.1,.s x.2.1,.i .i64 x.2.2.1,.b x.2.2.2],.all⟩)=H':=(zaa.set_self h3).symm
  have fin:(((20000:Int)<(out++wrQ x).length→Res.val (zr2 (if 20000<(out++wrQ x).length then([],16)else zgn fit r false (out++wrQ x)))=Res.val (V.tup [V.s [],V.i IntKind.i64 16])) ∧
      (¬ (20000:Int)<(out++wrQ x).length→∀t':Tm,t'.wid=f25.ntmps→t'.get 4=.ptr q 0→t'.get 8=.isl 4 (zaG l)→t'.get 9=.i .i64 ((zaG l).length:Nat)→t'.get 10=.i .i64 (IntKind.i64.wrap ((i:Int)+1)) →
        ctx prog TT [true,true,false,true,false,false] (zah f25) (zaV TT f25 (isR (.val (zr2 (if 20000<(out++wrQ x).length then([],16)else zgn fit r false (out++wrQ x)))))) (.norm t' H'))):=by
    refine⟨fun h=>?_,fun h t' hw' f4 f8 f9 f10=>?_⟩
    · rw[if_pos (by omega)];rfl
    · rw[if_neg (by omega)]
      exact ih t' H' hw' f4 f8 (by rw[f9,hlr]) (by rw[f10,w1]) (by omega) h2
  generalize zr2 (if 20000<(out++wrQ x).length then([],16)else zgn fit r false (out++wrQ x))=R at fin ⊢
  by_cases hk:x.1=5
  · have e:wrQ x=qtL x.2.1:=if_pos hk
    have hq:∀K,cfB 16 [.s x.2.1] K=.val (.tup [.s (wrQ x),.i .i64 0]) K:=fun K=>by
      have hv:Lib.validD x.2.1=true:=by
        have:=hf
        unfold zfZ at this
        rw[if_neg (by omega),if_neg (by omega),if_neg (by omega),if_pos hk]at this
        exact this
      have:=zc2 zxK x.2.1 (by omega) K
      rw[zxy _ hv,←e]at this
      exact this
    refine⟨fun _=>.inl ⟨wrQ x,0,hq,.inl ⟨_,H',h1,⟨h3,trivial⟩,?_⟩⟩,fun h=>absurd hk h⟩
    rw[hset']
    exact .inl ⟨_,hl,fin⟩
  · have e:wrQ x=x.2.1:=if_neg hk
    refine⟨fun h=>absurd h hk,fun _=>.inl ⟨_,H',by rw[e]at h1;exact h1,⟨h3,trivial⟩,?_⟩⟩
    rw[hset']
    exact .inl ⟨_,hl,fin⟩
theorem zre (l:List Tk) (hl:l.length<1000000) (hx:∀x∈l,x.2.1.length<1000000) (q:Nat):∀(n i:Nat) (out:List UInt8) (t:Tm) (H:zaa),l.length<n+i→i≤l.length→out.length≤20000→(i=0→out=[])→t.wid=f25.ntmps →
    t.get 4=.ptr q 0→t.get 8=.isl 4 (zaG l)→t.get 9=.i .i64 (l.length:Nat)→t.get 10=.i .i64 (i:Nat)→Bld H q out →
    ctx prog TT [true,true,false,true,false,false] (zah f25) (zaV TT f25 (isR (.val (zr2 (zgn (fun x=>zfZ x.1 x.2.1) (l.drop i) (i==0) out))))) (.norm t H):=by
  intro n
  induction n with
  |zero=>intro i out t H h1 h2;omega
  |succ n ih=>
    intro i out t H hn hi ho h0 hw t4 t8 t9 t10 hb
    have hlr:=zbR l
    refine zbe.symIn (p:=[true,true,false,true,false]) zaf zoc rfl zwl (by kernel_rfl) [.ul (zaG l),.un q,.ui (i:Nat),.uh H] rfl hw ⟨t4,t8,by rw[t9,←hlr];rfl,t10,trivial⟩ rfl (zbd _ _) ?_
    clear t4 t8 t9 t10 hw
    simp -implicitDefEqProofs only[VC,isR,exU,Ask.den,forall_eq,E.den,O1.den,O2.den,O3.den,U.int_ui,U.boo_ub,U.val_uv,U.lst_ul,U.str_us,U.nat_un,U.heap_uh,SH.den,zaB,zbX,bD,SB.den,zaq,LQ,cons_append,nil_append,List.getElem?_cons_zero,List.getElem?_cons_succ,Option.getD_some,zam,zai,zan,zaj,beq_iff_eq,bne_iff_ne,beq_eq_false_iff_ne,Int.toNat_natCast,zbC,Bool.false_eq_true,if_false,if_true]
    rw[hlr]
    refine⟨fun h=>⟨by omega,?_⟩,fun h=>?_⟩
    · have h1 : i<l.length:=by omega
      have hd:l.drop i=l[i]::l.drop (i+1):=drop_eq_getElem_cons h1
      have hg:l[i]? = some l[i]:=List.getElem?_eq_getElem h1
      have hxl:=hx _ (getElem_mem h1)
      rw[hd]
      generalize l[i]=x at hd hg hxl
      refine .inl ⟨x.1,x.2.1,x.2.2.1,x.2.2.2,zvk hg H,.inl ⟨_,fun K=>zc2 zp2 x hxl K,fun hf=>?_,fun hf=>?_⟩⟩
      · have hql : q≠H.length+0∧q<H.length:=by
          have:q<H.length:=by
            obtain⟨a,_,⟨h1,_⟩|⟨m,_,_,h1,_⟩⟩:=hb<;>exact zaa.lt h1
          exact⟨by omega,this⟩
        have hH1:Bld (H++[some (tkB x.1 x.2.1 x.2.2.1 x.2.2.2)]) q out∧Apt (H++[some (tkB x.1 x.2.1 x.2.2.1 x.2.2.2)]) q H.length:=by
          obtain⟨a,ha,⟨h1,h2⟩|⟨m,hm,hne,h1,h2⟩⟩:=hb
          · have e1:=(List.getElem?_append_left (l₂:=[some (tkB x.1 x.2.1 x.2.2.1 x.2.2.2)]) hql.2).trans h1
            refine⟨⟨a,ha,.inl ⟨e1,h2⟩⟩,by omega,by simp,fun a' m k e=>?_⟩
            rw[e1]at e;simp at e
          · have e1:=(List.getElem?_append_left (l₂:=[some (tkB x.1 x.2.1 x.2.2.1 x.2.2.2)]) hql.2).trans h1
            have hml:=zaa.lt h2
            refine⟨⟨a,ha,.inr ⟨m,hm,hne,e1,(List.getElem?_append_left hml).trans h2⟩⟩,by omega,by simp,fun a' m' k e=>?_⟩
            rw[e1]at e
            simp only[Option.some.injEq,Blk.mk.injEq,List.cons.injEq,V.sl.injEq,true_and,and_true]at e
            omega
        have hpn:(H++[some (tkB x.1 x.2.1 x.2.2.1 x.2.2.2)])[H.length]? = some (some (tkB x.1 x.2.1 x.2.2.1 x.2.2.2)):=by simp
        have blank:∀(c:UInt8),i≠0→(if x.2.2.2=true then[10]else[32])=[c]→∃H',cfB 37 [.ptr q 0,.i .u8 c.toNat] (H++[some (tkB x.1 x.2.1 x.2.2.1 x.2.2.2)])=.val .nili H'∧H'[H.length]? = some (some (tkB x.1 x.2.1 x.2.2.1 x.2.2.2)) ∧
            ∀ t : Tm,t.wid=f25.ntmps→t.get 4=.ptr q 0→t.get 6=.ptr H.length 0→t.get 8=.isl 4 (zaG l)→t.get 9=.i .i64 (l.length:Nat)→t.get 10=.i .i64 (i:Nat) →
              Tri prog TT (sub [true,true,false,true,false,false,true,true,false,false,true,true,true,false] (zah f25)) t H' (ctx prog TT [true,true,false,true,false,false,true,true,false,false,true,true,true,false] (zah f25)
                (zaV TT f25 (isR (.val (zr2 (zgn (fun x=>zfZ x.1 x.2.1) (x::l.drop (i+1)) (i==0) out)))))):=by
          intro c hi0 hc
          obtain⟨H',k1,k2,k3⟩:=zc2 zwg (q,out,c) _ ⟨hH1.1,by simp only;omega⟩
          refine⟨H',k1,(k3 _ hH1.2).1.trans hpn,fun t hw t4 t6 t8 t9 t10=>?_⟩
          have e0:(i==0)=false:=by simpa using hi0
          have e:zgn (fun x=>zfZ x.1 x.2.1) (x::l.drop (i+1)) (i==0) out=if 20000<((out++[c])++wrQ x).length then([],16)else zgn (fun x=>zfZ x.1 x.2.1) (l.drop (i+1)) false ((out++[c])++wrQ x):=by
            rw[zgn,if_pos ⟨hf,fun h=>by rw[e0]at h;cases h⟩,e0]
            simp only[Bool.false_eq_true,if_false,hc]
          rw[e]
          exact zmy l q i H.length x (out++[c]) t H' hxl hf (by simp;omega) hw t4 t6 t8 t9 t10 k2 ((k3 _ hH1.2).1.trans hpn) (k3 _ hH1.2).2 (by omega) fun t' H' k1 k2 k3 k4 k5 k6 k7=>ih (i+1) _ t' H' (by omega) (by omega) k6 (by omega) k1 k2 k3 k4 k5 k7
        refine⟨fun hi0=>⟨fun hl1 t hw t4 t6 t8 t9 t10=>?_,fun hl1=>?_⟩,fun hi0=>⟨fun hl1=>?_,fun hl1=>?_⟩⟩
        · have hi0:i=0:=by omega
          subst hi0
          have:=h0 rfl
          subst this
          have e:zgn (fun x=>zfZ x.1 x.2.1) (x::l.drop (0+1)) (0==0) []=if 20000<([]++wrQ x).length then([],16)else zgn (fun x=>zfZ x.1 x.2.1) (l.drop (0+1)) false ([]++wrQ x):=by
            rw[zgn,if_pos ⟨hf,fun _=>hl1⟩];rfl
          rw[e]
          exact zmy l q 0 H.length x [] t _ hxl hf (by simp) hw t4 t6 t8 (by rw[t9]) t10 hH1.1 hpn hH1.2 (by omega) fun t' H' k1 k2 k3 k4 k5 k6 k7=>ih 1 _ t' H' (by omega) (by omega) k6 (by omega) k1 k2 k3 k4 k5 k7
        · have hi0:i=0:=by omega
          subst hi0
          rw[zgn,if_neg (fun h=>by have:=h.2 rfl;rw[hl1]at this;cases this)]
          rfl
        · obtain⟨H',k1,k2,k3⟩:=blank 10 (by omega) (if_pos hl1)
          refine .inl ⟨H',k1,⟨k2,trivial⟩,fun t hw t4 t6 t8 t9 t10=>?_⟩
          rw[show List.set H' (H.length+0) _=H' from(zaa.set_self k2).symm]
          exact k3 t hw t4 t6 t8 t9 t10
        · obtain⟨H',k1,k2,k3⟩:=blank 32 (by omega) (if_neg (by rw[hl1];exact Bool.false_ne_true))
          refine .inl ⟨H',k1,⟨k2,trivial⟩,fun t hw t4 t6 t8 t9 t10=>?_⟩
          rw[show List.set H' (H.length+0) _=H' from(zaa.set_self k2).symm]
          exact k3 t hw t4 t6 t8 t9 t10
      · rw[zgn,if_neg (fun h=>by rw[hf]at h;exact absurd h.1 (by simp))]
        rfl
    · rw[drop_eq_nil_of_le (by omega),zgn]
      obtain⟨H',k1,k2⟩:=zc2 zwd (q,out) H ⟨hb.read,by simp only;omega⟩
      exact .inl ⟨out,H',k1,rfl⟩
theorem zmF:∃g,zao prog TT 25 g∧∀l:List Tk,(l.length<1000000∧∀x∈l,x.2.1.length<1000000)→∀H,g [.isl 4 (zaG l)] H=(Res.val (zr2 (zgn (fun x=>zfZ x.1 x.2.1) l true []))).at H:=by
 refine zbV zaf zaw 25 (fun l:List Tk=>[.isl 4 (zaG l)]) _ (fun l=>.val (zr2 (zgn (fun x=>zfZ x.1 x.2.1) l true []))) (fun l _=>⟨?_,rfl⟩) (fun a b _ _ h=>?_) fun l hl=>?_
 ·show(nl (.isl 4 (zaG l))&&true)=true;rw[zji];rfl
 ·simp only[List.cons.injEq,V.isl.injEq,true_and,and_true]at h;rw[zgh h]
 ·refine zaH.sym zaf zoc (fn:=f25) rfl rfl (by simp[f25]) zxN (by kernel_rfl) [.ul (zaG l),.uh []] rfl ⟨by rw[zag];rfl,trivial⟩ rfl (zbd _ _) ?_;simp -implicitDefEqProofs only[VC,isR,exU,Ask.den,forall_eq,E.den,O1.den,O2.den,O3.den,U.int_ui,U.boo_ub,U.val_uv,U.lst_ul,U.str_us,U.nat_un,U.heap_uh,SH.den,zaB,zbX,bD,SB.den,zaq,LQ,cons_append,nil_append,List.getElem?_cons_zero,List.getElem?_cons_succ,Option.getD_some,zam,zai,zan,zaj,beq_iff_eq,bne_iff_ne,beq_eq_false_iff_ne,Int.toNat_natCast];intro t hw t4 t8 t9 t10;have hb:Bld ([]++[some ⟨66,[.nilp,.nils],.all⟩]) 0 []:=⟨_,.inl rfl,.inl ⟨rfl,rfl⟩⟩;exact Tri.symLoop rfl (zre l hl.1 hl.2 0 (l.length+1) 0 [] t _ (by omega) (by omega) (by simp) (fun _=>rfl) hw t4 t8 (by rw[t9,zbR]) t10 hb)
def zxW (u:List UInt8):Prop:=u=[]∨∃m,zsz m∧u=46::m
def Sgn (g:List UInt8):Prop:=g=[]∨g=[43]∨g=[45]
def zuv (x:List UInt8):Prop:=x=[]∨∃g m,Sgn g∧zsz m∧x=101::(g++m)
def znI (s:List UInt8):Prop:=∃d f x,zsz d∧zxW f∧zuv x∧(f≠[]∨x≠[])∧s=d++(f++x)
theorem zmI {x:List UInt8}(h:zuv x):Stop x:=by
 rintro b hb;rcases h with rfl|⟨g,m,_,_,rfl⟩
 ·cases hb
 ·simp at hb;subst hb;exact⟨by unfold zcL;decide,by decide⟩
theorem zqd {f x:List UInt8}(hf:zxW f)(hx:zuv x):Stop (f++x):=by
 rcases hf with rfl|⟨m,_,rfl⟩
 ·exact zmI hx
 ·rintro b hb;simp at hb;subst hb;exact⟨by unfold zcL;decide,by decide⟩
theorem zmJ:Stop []:=fun b h=>by cases h
theorem zmn:∀(l:List UInt8)(v:Nat),(∀b∈l,zcL b)→zni 10 l v=v*10^l.length+zdv l
 | [],v,_=>by simp[zni,zdv]
 |b::l,v,h=>by
  have hb:=h b (by simp);rw[zni,zmn l _ fun x hx=>h x (by simp[hx])];have e:(zdP (b.toNat:Int) ((10:Nat):Int)).toNat=b.toNat-48:=by
   unfold zcL at hb;show(zdP (b.toNat:Int) 10).toNat=_;unfold zdP;rcases zhW b.toNat with⟨h1,h2,h3⟩|⟨h1,h2⟩
   ·rw[h3,if_neg (by omega)];omega
   ·exact absurd ⟨by omega,by omega⟩ h1
  rw[e];simp only[zdv,length_cons,Nat.pow_succ];rw[Nat.add_mul,Nat.mul_assoc,Nat.mul_comm 10];omega
/-! Blanks and comments, in another surrounding. -/
theorem zsj {b z:List UInt8}:∀a:List UInt8,lnL (a++b)<a.length→lnL (a++z)=lnL (a++b)
 | [],h=>absurd h (Nat.not_lt_zero _)
 |c::a,h=>by
  simp only[cons_append,lnL,length_cons]at h ⊢;by_cases hc:(c==10)=true
  ·rw[if_pos hc,if_pos hc]
  ·rw[if_neg hc]at h ⊢;rw[if_neg hc,zsj (b:=b) (z:=z) a (by omega)]
theorem zgG {s:List UInt8}:∀(n i d e:Nat),zdM s n i d=some e→i+2≤e
 |0,i,d,e,h=>by cases h
 |n+1,i,d,e,h=>by
  simp only[zdM]at h;split at h
  ·have:=zgG n _ _ _ h;omega
  ·split at h
   ·split at h
    ·cases h;omega
    ·have:=zgG n _ _ _ h;omega
   ·split at h
    ·have:=zgG n _ _ _ h;omega
    ·cases h
section
variable {s y:List UInt8}{c:Nat}
theorem zbl (hc:c<s.length):(s.take c).length=c:=by rw[length_take];omega
theorem zf7 {i:Nat}(hc:c<s.length)(hi:i≤c):s.drop i=(s.take c).drop i++s.drop c:=by
 have:=drop_append_of_le_length (l₁:=s.take c) (l₂:=s.drop c) (i:=i) (by rw[zbl hc];exact hi);rw[take_append_drop]at this;exact this
theorem zf6 {i:Nat}(hc:c<s.length)(hi:i≤c):(s.take c++y).drop i=(s.take c).drop i++y:=
 drop_append_of_le_length (by rw[zbl hc];exact hi)
theorem znS {i:Nat}(hc:c<s.length)(hi:i<c):atS (s.take c++y) (i:Nat)=atS s (i:Nat):=by
 have:=zjN (s.take c) (s.drop c) y (i:=i) (by rw[zbl hc];exact hi);rw[take_append_drop]at this;exact this
theorem zok {i e:Nat}(hc:c<s.length)(he:e≤c):((s.take c++y).take e).drop i=(s.take e).drop i:=by
 rw[take_append_of_le_length (by rw[zbl hc];exact he),take_take,Nat.min_eq_left he]
theorem zhe {i:Nat}{p:List UInt8}(hc:c<s.length)(hi:i+p.length≤c):za5 ((s.take c++y).drop i) p=za5 (s.drop i) p:=by
 rw[zf6 hc (by omega),zf7 hc (by omega),Bool.eq_iff_iff];have hl:p.length≤((s.take c).drop i).length:=by rw[length_drop,zbl hc];omega
 exact⟨zkr hl,zkr hl⟩
theorem ziM (hc:c<s.length):∀(n N i d e:Nat),zdM s n i d=some e→e≤c→(s.take c++y).length<N+i→zdM (s.take c++y) N i d=some e
 |0,N,i,d,e,h,he,hN=>by cases h
 |n+1,N,i,d,e,h,he,hN=>by
  have hge:=zgG _ _ _ _ h;obtain⟨N,rfl⟩:∃M,N=M+1:=⟨N-1,by rw[length_append,zbl hc]at hN;omega⟩;have p1:za5 ((s.take c++y).drop i) [47,42]=za5 (s.drop i) [47,42]:=zhe hc (by simp only[length_cons,length_nil];omega);have p2:za5 ((s.take c++y).drop i) [42,47]=za5 (s.drop i) [42,47]:=zhe hc (by simp only[length_cons,length_nil];omega);simp only[zdM]at h ⊢;rw[p1,p2];split at h
  ·rename_i h1;rw[if_pos h1];exact ziM hc n N _ _ _ h he (by omega)
  ·rename_i h1;rw[if_neg h1];split at h
   ·rename_i h2;rw[if_pos h2];split at h
    ·rename_i h3;rw[if_pos h3];exact h
    ·rename_i h3;rw[if_neg h3];exact ziM hc n N _ _ _ h he (by omega)
   ·rename_i h2;rw[if_neg h2];split at h
    ·rw[if_pos (by rw[length_append,zbl hc];omega)];exact ziM hc n N _ _ _ h he (by omega)
    ·cases h
theorem zpX {n i j:Nat}{b l':Bool}(hi:i<s.length)(hb:atS s (i:Nat)=10)(hn:s.length<n+i)(h:skF s n i b=.inr (j,l')):i+1≤j:=by
 obtain⟨n,rfl⟩:∃m,n=m+1:=⟨n-1,by omega⟩;simp only[skF,if_pos hi,hb]at h;rw[if_pos (by simp)]at h;exact(zfb s _ _ _ _ _ (by omega) h).1
theorem zsY (hc:c<s.length){i n j:Nat}{b l':Bool}{p:Nat×Bool}(hi:i<s.length)(hn:s.length<n+p.1)(h:zel s i b=some (some p))(hs:skF s n p.1 p.2=.inr (j,l'))(hj:j≤c):zel (s.take c++y) i b=some (some p):=by
 have hpj:=(zfb s _ _ _ _ _ (zfi (by omega) h).2 hs).1;unfold zel at h ⊢;split at h
 ·rename_i h1;have he:(if Lib.indexByte (s.drop i) 10<0 then s.length else i+(Lib.indexByte (s.drop i) 10).toNat)=i+lnL (s.drop i):=by
   rw[←zo1,length_drop];split<;>omega
  rw[he]at h;have hpe:p.1=i+lnL (s.drop i):=by
   simp only[zfY]at h;split at h
   ·simp only[Option.some.injEq]at h;rw[←h]
   ·cases h
  have hlt:i+lnL (s.drop i)<s.length:=by omega
  have h10:atS s ((i+lnL (s.drop i):Nat):Int)=10:=by
   rw[zgw,zlZ];have key:∀L:List UInt8,lnL L<L.length→atR L (lnL L)=10:=fun L=>by
    induction L with
    |nil=>intro h;exact absurd h (Nat.not_lt_zero _)
    |cons a L ih=>
     intro h;simp only[lnL,length_cons]at h ⊢;by_cases ha:(a==10)=true
     ·rw[if_pos ha,zcg];rw[beq_iff_eq]at ha;rw[ha];rfl
     ·rw[if_neg ha]at h ⊢;rw[ziE];exact ih (by omega)
   exact key _ (by rw[length_drop];omega)
  have h2:=zpX (s:=s) (i:=p.1) (by omega) (by rw[hpe];exact h10) hn hs;have hb1:i+2≤c:=by
   have:=zur h1;have:=ztn (s:=s) (i:=i) (by rw[zqM s i _ (by omega)];exact h1);have h3:lnL (s.drop i)≠1:=fun e=>by
    have:atS s ((i+1:Nat):Int)=10:=by rw[←e];exact h10
    rw[zgw,zlZ]at this;have h4:=zcx.1 h1;obtain⟨u,hu⟩:=h4;rw[←hu]at this;exact absurd this (by rw[cons_append,ziE,cons_append,zcg];decide)
   omega
  rw[if_pos (by rw[zhe hc (by simp only[length_cons,length_nil];omega)];exact h1)];have he2:(if Lib.indexByte ((s.take c++y).drop i) 10<0 then(s.take c++y).length else i+(Lib.indexByte ((s.take c++y).drop i) 10).toNat)=i+lnL (s.drop i):=by
   have e1:lnL ((s.take c++y).drop i)=lnL (s.drop i):=by
    rw[zf6 hc (by omega),zf7 hc (by omega)];refine zsj _ ?_;rw[←zf7 hc (by omega),length_drop,zbl hc];omega
   rw[←e1,←zo1,length_drop];have:i≤(s.take c++y).length:=by rw[length_append,zbl hc];omega
   split<;>omega
  rw[he2];simp only[zfY]at h ⊢;rw[zok hc (by omega)];exact h
 ·rename_i h1;split at h
  ·rename_i h2;cases hf:zdM s (s.length+1) i 0 with
   |none=>rw[hf]at h;simp[zfY]at h
   |some e=>
    rw[hf]at h;simp only[zfY]at h;have hpe:p.1=e:=by
     split at h
     ·simp only[Option.some.injEq]at h;rw[←h]
     ·cases h
    have hge:=zgG _ _ _ _ hf;rw[if_neg (by rw[zhe hc (by simp only[length_cons,length_nil];omega)];exact h1),if_pos (by rw[zhe hc (by simp only[length_cons,length_nil];omega)];exact h2),
     ziM hc _ _ _ _ _ hf (by omega) (by omega)]
    simp only[zfY];rw[zok hc (by omega)];exact h
  ·cases h
theorem zoi (hy:BlH y)(hc:c<s.length){i:Nat}{b:Bool}(hi:i<c)(h:zel s i b=none):zel (s.take c++y) i b=none:=by
 have g:zbr (s.drop c) y:=⟨0,y,hy,by rw[take_zero,nil_append]⟩;unfold zel at h ⊢;split at h
 ·cases h
 ·rename_i h1;split at h
  ·cases h
  ·rename_i h2;rw[zf7 hc (by omega)]at h1 h2;rw[zf6 hc (by omega),if_neg (fun e=>h1 (zhf (by decide) g e)),if_neg (fun e=>h2 (zhf (by decide) g e))]
theorem zkF (hy:BlH y) (hc:c<s.length):∀(n N i:Nat) (b:Bool) (j:Nat) (l':Bool),s.length<n+i→i≤s.length→skF s n i b=.inr (j,l')→j≤c→(s.take c++y).length<N+i →
    ∃M,(s.take c++y).length<M+j∧skF (s.take c++y) N i b=skF (s.take c++y) M j l'∧(j<c→skF (s.take c++y) N i b=.inr (j,l'))
  |0,N,i,b,j,l',hn,hi,h,hj,hN=>by omega
  | n + 1, N,i,b,j,l',hn,hi,h,hj,hN=>by
    have hij:=(zfb s _ _ _ _ _ hi h).1
    simp only[skF]at h
    rw[if_pos (show i<s.length by omega)]at h
    split at h
    · rename_i hb
      have hij2:=(zfb s _ _ _ _ _ (by omega) h).1
      obtain⟨N,rfl⟩:∃M,N=M+1:=⟨N-1,by rw[length_append,zbl hc]at hN;omega⟩
      obtain⟨M,h1,h2,h3⟩:=zkF hy hc n N (i+1) _ j l' (by omega) (by omega) h hj (by omega)
      have e:skF (s.take c++y) (N+1) i b=skF (s.take c++y) N (i+1) (b||decide (atS s (i:Nat)=10)):=by
        simp only[skF]
        rw[if_pos (by rw[length_append,zbl hc];omega),znS hc (by omega),if_pos hb]
      exact⟨M,h1,e.trans h2,fun hlt=>e.trans (h3 hlt)⟩
    · rename_i hb
      cases hcq:zel s i b with
      | none=>
        rw[hcq]at h
        simp only[Sum.inr.injEq,Prod.mk.injEq]at h
        obtain⟨rfl,rfl⟩:=h
        refine⟨N,hN,rfl,fun hlt=>?_⟩
        obtain⟨N,rfl⟩:∃M,N=M+1:=⟨N-1,by rw[length_append,zbl hc]at hN;omega⟩
        simp only[skF]
        rw[if_pos (by rw[length_append,zbl hc];omega),znS hc hlt,if_neg hb,zoi hy hc hlt hcq]
      | some o=>
        cases o with
        |none=>rw[hcq]at h;cases h
        | some p=>
          rw[hcq]at h
          simp only at h
          have hok:=zfi hi hcq
          have hij2:=(zfb s _ _ _ _ _ hok.2 h).1
          obtain⟨N,rfl⟩:∃M,N=M+1:=⟨N-1,by rw[length_append,zbl hc]at hN;omega⟩
          obtain⟨M,h1,h2,h3⟩:=zkF hy hc n N p.1 p.2 j l' (by omega) hok.2 h hj (by omega)
          have e:skF (s.take c++y) (N+1) i b=skF (s.take c++y) N p.1 p.2:=by
            simp only[skF]
            rw[if_pos (by rw[length_append,zbl hc];omega),znS hc (by omega),if_neg hb,zsY hc (by omega) (by omega) hcq h hj]
          exact⟨M,h1,e.trans h2,fun hlt=>e.trans (h3 hlt)⟩
end
inductive Toks (s:List UInt8):Nat→Bool→List Tk→Prop
  |done {i:Nat} {b l':Bool} (h:skQ s i b=.inr (s.length,l')):Toks s i b []
  |step {i j m:Nat} {b l':Bool} {k:Int} {t:List UInt8} {L:List Tk} (h:skQ s i b=.inr (j,l')) (hj:j<s.length) (ht:zcM kw zcm (s.drop j)=.inr (k,t,m)) (hr:Toks s (j+m) false L):Toks s i b ((k,t,(j:Int),l')::L)
theorem zkC {s:List UInt8}:∀(n i:Nat)(b:Bool)(acc L:List Tk),i≤s.length→s.length<n+i→zjI s n i b acc=.inl L→∃M,L=acc++M∧Toks s i b M
 |0,i,b,acc,L,hi,hn,h=>by omega
 |n+1,i,b,acc,L,hi,hn,h=>by
  simp only[zjI]at h;split at h
  ·cases h
  ·rename_i j l' hs;have hk:=zfc hi hs;split at h
   ·rename_i he;cases h;exact⟨[],by simp,.done (by rw[hs,he])⟩
   ·rename_i he;split at h
    ·cases h
    ·rename_i k t m ht;have hm:=zcr ht;rw[length_drop]at hm;simp only at hm;obtain⟨M,h1,h2⟩:=zkC n _ _ _ _ (by omega) (by omega) h;exact⟨_::M,by rw[h1,append_assoc];rfl,.step hs (by omega) ht h2⟩
theorem zqk {s:List UInt8}{i:Nat}{b:Bool}{M:List Tk}(h:Toks s i b M):∀(n:Nat)(acc:List Tk),i≤s.length→s.length<n+i→zjI s n i b acc=.inl (acc++M):=by
 induction h with
 | @done i b l' h=>
  intro n acc hi hn;obtain⟨n,rfl⟩:∃m,n=m+1:=⟨n-1,by omega⟩;simp only[zjI,h,if_true,append_nil]
 | @step i j m b l' k t L h hj ht hr ih=>
  intro n acc hi hn;obtain⟨n,rfl⟩:∃m,n=m+1:=⟨n-1,by omega⟩;have hk:=zfc hi h;have hm:=zcr ht;rw[length_drop]at hm;simp only at hm;simp only[zjI,h,ht];rw[if_neg (by omega),ih n _ (by omega) (by omega),append_assoc];rfl
theorem zkD {s:List UInt8}{l:List Tk}{a:Nat}(hs:s.length≤20000)(h:zf0 s=(l,a,0)):Toks s 0 true l:=by
 unfold zf0 at h;rw[if_neg (by omega)]at h;cases hf:zjI s (s.length+1) 0 true []with
 |inl L=>
  rw[hf]at h;simp only[Prod.mk.injEq]at h;obtain⟨M,h1,h2⟩:=zkC _ _ _ _ _ (by omega) (by omega) hf;rw[←h.1,h1];exact h2
 |inr p=>
  exfalso;rw[hf]at h;simp only[Prod.mk.injEq]at h;have key:∀(n i:Nat)(b:Bool)(acc:List Tk),zjI s n i b acc=.inr p→p.2≠0:=fun n=>by
   induction n with
   |zero=>intro i b acc h;cases h
   |succ n ih=>
    intro i b acc h;simp only[zjI]at h;split at h
    ·cases h;exact(by decide:(32:Nat)≠0)
    ·split at h
     ·cases h
     ·split at h
      ·rename_i e he;cases h;exact zt8 he
      ·exact ih _ _ _ h
  exact key _ _ _ _ hf h.2.2
theorem zhv {s:List UInt8}{l:List Tk}(hs:s.length≤20000)(h:Toks s 0 true l):zf0 s=(l,0,0):=by
 unfold zf0;rw[if_neg (by omega),zqk h _ [] (by omega) (by omega)];rfl
theorem Toks.at {s:List UInt8}{i:Nat}{b:Bool}{M:List Tk}(h:Toks s i b M):i≤s.length→∀x∈M,(i:Int)≤x.2.2.1∧x.2.2.1<s.length:=by
 induction h with
 |done h=>intro _ x hx;cases hx
 | @step i j m b l' k t L h hj ht hr ih=>
  intro hi x hx;have hk:=zfc hi h;have hm:=zcr ht;rw[length_drop]at hm;simp only at hm;rcases mem_cons.1 hx with rfl|hx
  ·simp only;omega
  ·have:=ih (by omega) x hx;omega
theorem Toks.asc {s:List UInt8}{i:Nat}{b:Bool}{M:List Tk}(h:Toks s i b M):i≤s.length→∀(n:Nat)(x y:Tk),M[n]? = some x→M[n+1]? = some y→x.2.2.1<y.2.2.1:=by
 induction h with
 |done h=>intro _ n x y hx;simp at hx
 | @step i j m b l' k t L h hj ht hr ih=>
  intro hi n x y hx hy;have hk:=zfc hi h;have hm:=zcr ht;rw[length_drop]at hm;simp only at hm;cases n with
  |succ n=>
   rw[List.getElem?_cons_succ]at hx hy;exact ih (by omega) n x y hx hy
  |zero=>
   rw[List.getElem?_cons_zero]at hx;rw[List.getElem?_cons_succ]at hy;have:=hr.at (by omega) y (mem_of_getElem? hy);cases hx;simp only;omega
theorem zqi {s y:List UInt8}{c j m:Nat}{k:Int}{t:List UInt8}(hy:BlH y)(hc:c<s.length)(ht:zcM kw zcm (s.drop j)=.inr (k,t,m))(hjm:j+m≤c):zcM kw zcm ((s.take c++y).drop j)=.inr (k,t,m):=by
 have hm:=zcr ht;simp only at hm;have hl:((s.drop j).take m).length=m:=by rw[length_take];omega
 have e1:s.drop j=(s.drop j).take m++(s.drop j).drop m:=(take_append_drop m _).symm;have e2:(s.take c++y).drop j=(s.drop j).take m++(((s.drop j).drop m).take (c-j-m)++y):=by
  rw[zf6 hc (by omega),drop_take,←append_assoc,←take_add];congr 2;omega
 rw[e2];have ht':zcM kw zcm ((s.drop j).take m++(s.drop j).drop m)=.inr (k,t,((s.drop j).take m).length):=by rw[←e1,hl];exact ht
 have:=zjB (fun e=>by rw[e]at hl;simp at hl;omega) ⟨c-j-m,y,hy,rfl⟩ ht';rw[hl]at this;exact this
theorem zpZ {s y:List UInt8}{c i j:Nat}{b l':Bool}(hy:BlH y)(hc:c<s.length)(hi:i≤s.length)(h:skQ s i b=.inr (j,l'))(hj:j<c):skQ (s.take c++y) i b=.inr (j,l'):=by
 obtain⟨M,_,_,h3⟩:=zkF hy hc _ ((s.take c++y).length+1) i b j l' (by omega) hi h (by omega) (by omega);exact h3 hj
theorem Toks.cut {s:List UInt8}{i:Nat}{b:Bool}{M:List Tk}(h:Toks s i b M):i≤s.length→∀(k c:Nat)(x:Tk),M[k]? = some x→x.2.2.1=(c:Int)→Toks (s.take c++[]) i b (M.take k):=by
 induction h with
 |done h=>intro _ k c x hx;simp at hx
 | @step i j m b l' kd t L h hj ht hr ih=>
  intro hi k c x hx hxc;have hk:=zfc hi h;have hm:=zcr ht;rw[length_drop]at hm;simp only at hm;have hy:BlH []:=fun c r e=>by cases e
  cases k with
  |zero=>
   rw[List.getElem?_cons_zero]at hx;cases hx;simp only at hxc;have e:j=c:=by omega
   subst e;obtain⟨M,h1,h2,_⟩:=zkF (y:=[]) hy hj _ ((s.take j++[]).length+1) i b j l' (by omega) hi h (by omega) (by omega);rw[take_zero];refine .done (l':=l') ?_;unfold skQ;rw[h2];have hl:(s.take j++[]).length=j:=by rw[append_nil,zbl hj]
   rw[hl]at h1 ⊢;cases M with
   |zero=>rfl
   |succ M=>
    simp only[skF];rw[if_neg (by rw[hl];omega)]
  |succ k=>
   rw[List.getElem?_cons_succ]at hx;have ha:=hr.at (by omega) x (mem_of_getElem? hx);have hcs:c<s.length:=by omega
   rw[take_succ_cons];refine .step (zpZ hy hcs hi h (by omega)) (by rw[append_nil,zbl hcs];omega) (zqi hy hcs ht (by omega)) (ih (by omega) k c x hx hxc)
structure PlT (s:List UInt8) (l:List Tk):Prop where
  len:l.length<1100000
  at':∀x∈l,0≤x.2.2.1∧x.2.2.1<(s.length:Int)
  asc:∀(n:Nat)(x y:Tk),l[n]? = some x→l[n+1]? = some y→x.2.2.1<y.2.2.1
  cut:∀(k c:Nat)(x:Tk),l[k]? = some x→x.2.2.1=(c:Int)→zf0 (s.take c)=(l.take k,0,0)
theorem PlT.of {s:List UInt8} {l:List Tk} (hs:s.length≤20000) (h:Toks s 0 true l) (hl:l.length<1100000):PlT s l where
  len:=hl
  at' x hx:=by have:=h.at (by omega) x hx;omega
  asc:=h.asc (by omega)
  cut k c x hx hc:=by
    have:=h.cut (by omega) k c x hx hc
    rw[append_nil]at this
    exact zhv (by rw[length_take];omega) this
theorem zmO {s:List UInt8}{i:Nat}{b:Bool}{l:List Tk}(h:Toks s i b l):i≤s.length→l.length+i≤s.length:=by
 induction h with
 |done h=>intro hi;simpa using hi
 | @step i j m b l' k t L h hj ht hr ih=>
  intro hi;have hk:=zfc hi h;have hm:=zcr ht;rw[length_drop]at hm;simp only at hm;have:=ih (by omega);simp only[length_cons];omega
end Go.Ev
