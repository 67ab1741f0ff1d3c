/- A value with places may be read as a value without places, where nothing is written any more. The rounds of a range over a function: the body is called by yield, the triples go over. Weakest preconditions for frames of existing functions. Triples for loops over functions, facts of functions on heaps, regions that draw their order and turn the heap. -/
import Derived.Test.YtmjplflnlggbeaaGreatDoorEEvFact
import Derived.RangeFuncNested
import Derived.RangeFuncLeaves
import Derived.TacticsIn
import Derived.LoopNIn
namespace Go.Ev
open Go
def zcY (sz:Nat):Nat→List V→Option (List V)
 |0,_=>some []
 |k+1,l=>if l.length<sz∨sz=0 then none else
  match zcY sz k (l.drop sz)with
  |some r=>some ((match sz,l with
   |1,v::_=>if V.isAgg v then .agg [v]else v
   |_,_=>.agg (l.take sz))::r)
  |none=>none
mutual
/-- A value whose blocks are frozen. -/
def fz (H : zaa):Nat→V→Option V
  |0,_=>none
  | n + 1, v=>match v with
    | .ptr b off=>match zap H b with
      | some blk=>match fzL H n blk.cells with
        |some l=>some (.ipt l.length [.agg l] 0 off)
        |none=>none
      |none=>none
    | .sl b sz off len _=>match zap H b with
      | some blk=>match cut blk.cells (off*sz) (len*sz)with
        | some c=>match fzL H n c with
          |some l=>(zcY sz len l).map (.isl sz ·)
          |none=>none
        |none=>none
      |none=>none
    | .mp _=>none
    | .agg l=>(fzL H n l).map .agg
    | .tup l=>(fzL H n l).map .tup
    | .fn g l=>(fzL H n l).map (.fn g ·)
    | .bfn g l=>(fzL H n l).map (.bfn g ·)
    | .ifc t v=>(fz H n v).map (.ifc t ·)
    | .isl .. =>if nl v then some v else none
    | .ipt .. =>if nl v then some v else none
    |v=>some v
def fzL (H:zaa):Nat→List V→Option (List V)
  |_,[]=>some []
  |0,_=>none
  | n+1,v::l=>match fz H n v,fzL H n l with
    |some x,some r=>some (x::r)
    |_,_=>none
end
end Go.Ev
namespace Go.Ev
open Go
section
variable {T:Tab}{M:Mem}{ρ:Ren}{H:zaa}{w:World}
open Classical in
noncomputable def frz (M:Mem)(ρ:Ren)(H:zaa)(w:World):Mem:=fun b=>match M b with
 |some o=>some o
 |none=>if ∃(n:Nat)(blk:Blk)(c:Nat),H[n]? = some (some blk)∧ρ[n]? = some (b,c)then w.heap[b]? else none
theorem zdY:M.le (frz M ρ H w):=fun b o h=>by simp[frz,h]
theorem zko {n:Nat}{blk:Blk}{b c:Nat}(hM:M b=none)(h:H[n]? = some (some blk))(hr:ρ[n]? = some (b,c)):frz M ρ H w b=w.heap[b]?:=by
 simp only[frz,hM];rw[if_pos ⟨n,blk,c,h,hr⟩]
theorem zfg:∀{sz k:Nat}{l r:List V},zcY sz k l=some r→r.length=k
 |sz,0,l,r,h=>by simp[zcY]at h;subst h;rfl
 |sz,k+1,l,r,h=>by
  simp only[zcY]at h;split at h
  ·cases h
  ·split at h
   ·rename_i r' hr;cases h;simp[zfg hr]
   ·cases h
theorem zio:∀{sz k:Nat}{l r:List V}{ds:List Value}{b o:Nat},zcY sz k l=some r→relL M ρ l ds→(∀j c,ds[j]? = some c→M.cell b (o+j)=some c)→relRow M ρ sz r b o
 |sz,0,l,r,ds,b,o,h,_,_=>by simp[zcY]at h;subst h;simp[relRow]
 |sz,k+1,l,r,ds,b,o,h,hl,hm=>by
  simp only[zcY]at h;split at h
  ·cases h
  rename_i hsz;split at h;case h_2=>cases h
  rename_i r' hr;cases h;simp only[relRow];refine⟨?_,zio hr (zdc sz hl) fun j c hj=>?_⟩
  ·have hlen:=zam hl;have big:∃x:Value,rel M ρ (.agg (l.take sz)) x∧x.cells.size=sz∧∀j c,x.cells[j]? = some c→M.cell b (o+j)=some c:=by
    refine⟨.agg (ds.take sz).toArray,by simp only[rel];exact⟨_,rfl,zdd sz hl⟩,by simp[Value.cells];omega,fun j c hj=>hm j c ?_⟩;simp only[Value.cells,jEd,List.getElem?_take]at hj;split at hj
    ·exact hj
    ·cases hj
   split
   ·rename_i v l';simp only[relL]at hl;obtain⟨x,r2,rfl,hx,_⟩:=hl;split
    ·simpa using big
    ·rename_i hna;refine⟨x,hx,?_,fun j c hj=>?_⟩
     ·have:=zam (zbi hx);cases v<;>simp_all[V.cells,V.isAgg]
     ·have h1:=zbi hx;have hc:x.cells.toList=[x]:=by
       cases v<;>simp only[rel]at hx<;>first
        |(simp[V.isAgg]at hna;done)
        |(subst hx;rfl)
        |(obtain⟨_,rfl,_⟩:=hx;rfl)
        |(obtain⟨_,_,_,rfl⟩:=hx;rfl)
        |(obtain⟨_,_,_,_,rfl,_⟩:=hx;rfl)
        |(obtain⟨_,_,rfl⟩:=hx;rfl)
        |(obtain⟨_,_,rfl,_⟩:=hx;rfl)
      have:x.cells=#[x]:=by apply jWc;simpa using hc
      rw[this]at hj;cases j with
      |zero=>simp at hj;subst hj;exact hm 0 _ rfl
      |succ j=>simp at hj
   ·exact big
  ·rw[jOc]at hj;have:=hm (sz+j) c hj;rwa [←jQc]at this
end
end Go.Ev
namespace Go.Ev
open Go
section
variable {T:Tab}{M:Mem}{ρ:Ren}{H:zaa}{w:World}
theorem zkI:∀{sz k:Nat}{l r:List V},zcY sz k l=some r→nlL l=true→nlL r=true
 |sz,0,l,r,h,_=>by simp[zcY]at h;subst h;rfl
 |sz,k+1,l,r,h,hn=>by
  have hd:∀(n:Nat)(l:List V),nlL l=true→nlL (l.drop n)=true:=by
   intro n;induction n with
   |zero=>intro l h;simpa using h
   |succ n ih=>intro l h;cases l with
    |nil=>simpa using h
    |cons v l=>simp only[nlL,jMa]at h;simpa using ih l h.2
  have ht:∀(l:List V)(n:Nat),nlL l=true→nlL (l.take n)=true:=by
   intro l;induction l with
   |nil=>intro n h;simpa using h
   |cons v l ih=>intro n h;cases n with
    |zero=>rfl
    |succ n=>simp only[nlL,jMa]at h;simp[nlL,h.1,ih n h.2]
  simp only[zcY]at h;split at h
  ·cases h
  split at h;case h_2=>cases h
  rename_i r' hr;cases h;simp only[nlL,jMa];refine⟨?_,zkI hr (hd sz l hn)⟩;split
  ·rename_i v l';simp only[nlL,jMa]at hn;split
   ·simp[nl,nlL,hn.1]
   ·exact hn.1
  ·simpa[nl]using ht l sz hn
mutual
theorem zpX (hS:SR T M ρ H w):∀(n:Nat) (v v':V) (x:Value),fz H n v=some v'→rel M ρ v x→rel (frz M ρ H w) ρ v' x∧nl v'=true
  |0,_,_,_,h,_=>by simp[fz]at h
  | n + 1, v,v',x,h,hr=>by
    have keep:nl v=true→some v=some v'→rel (frz M ρ H w) ρ v' x∧nl v'=true:=fun hn e=>by
      cases e
      exact⟨zbx zdY (jHb _) _ _ hr,hn⟩
    simp only[fz]at h
    split at h
    · rename_i b off
      split at h
      case h_2=>cases h
      rename_i blk hb
      split at h
      case h_2=>cases h
      rename_i l hl
      cases h
      simp only[rel]at hr
      obtain⟨b',c,h1,rfl⟩:=hr
      obtain⟨b2,c2,cs,cs',h2,hM,hlen,hheap,hrel,_⟩:=hS.cells hb
      rw[h1]at h2
      cases h2
      obtain⟨h3,h4⟩:=fzL_rel hS n _ _ _ hl hrel
      refine⟨?_,by simp[nl,nlL,h4]⟩
      simp only[rel]
      refine⟨b',0,by simp,?_⟩
      simp only[relRow,jGb]
      refine⟨.agg cs.toArray,by simp only[rel];exact⟨cs,rfl,h3⟩,by simp[Value.cells,zam h3],fun j q hj=>?_⟩
      simp only[Mem.cell,zko hM (zbl hb).1 h1,hheap]
      simp only[Value.cells,jEd]at hj
      rw[jEd,jKb,jQa (jGa.1 hj).1]
      exact hj
    · rename_i b sz off len cap
      split at h
      case h_2=>cases h
      rename_i blk hb
      split at h
      case h_2=>cases h
      rename_i c hc
      split at h
      case h_2=>cases h
      rename_i l hl
      cases hro:zcY sz len l with
      |none=>rw[hro]at h;cases h
      | some r=>
        rw[hro]at h
        cases h
        simp only[rel]at hr
        obtain⟨b',c',k,h1,rfl,hk,_,_⟩:=hr
        obtain⟨b2,c2,cs,cs',h2,hM,hlen,hheap,hrel,_⟩:=hS.cells hb
        rw[h1]at h2
        cases h2
        obtain⟨rfl,hfit⟩:=zdk hc
        have hcut:=zdd (len*sz) (zdc (off*sz) hrel)
        obtain⟨h3,h4⟩:=fzL_rel hS n _ _ _ hl hcut
        refine⟨?_,by simpa[nl]using zkI hro h4⟩
        simp only[rel]
        have hrl:=zfg hro
        refine⟨_,k,by rw[hrl],by omega,fun _=>⟨b',off*sz,rfl,zio hro h3 fun j q hj=>?_⟩⟩
        simp only[Mem.cell,zko hM (zbl hb).1 h1,hheap]
        rw[List.getElem?_take]at hj
        split at hj
        · rw[jOc]at hj
          rw[jEd,jQa (jGa.1 hj).1]
          exact hj
        · cases hj
    · cases h
    · rename_i l
      cases hl:fzL H n l with
      |none=>rw[hl]at h;cases h
      | some l'=>
        rw[hl]at h
        cases h
        simp only[rel]at hr ⊢
        obtain⟨cs,e,k⟩:=hr
        obtain⟨h3,h4⟩:=fzL_rel hS n _ _ _ hl k
        exact⟨⟨cs,e,h3⟩,by simpa[nl]using h4⟩
    · rename_i l
      cases hl:fzL H n l with
      |none=>rw[hl]at h;cases h
      | some l'=>
        rw[hl]at h
        cases h
        simp only[rel]at hr ⊢
        obtain⟨cs,e,k⟩:=hr
        obtain⟨h3,h4⟩:=fzL_rel hS n _ _ _ hl k
        exact⟨⟨cs,e,h3⟩,by simpa[nl]using h4⟩
    · rename_i g l
      cases hl:fzL H n l with
      |none=>rw[hl]at h;cases h
      | some l'=>
        rw[hl]at h
        cases h
        simp only[rel]at hr ⊢
        obtain⟨cs,e,k⟩:=hr
        obtain⟨h3,h4⟩:=fzL_rel hS n _ _ _ hl k
        exact⟨⟨cs,e,h3⟩,by simpa[nl]using h4⟩
    · rename_i g l
      cases hl:fzL H n l with
      |none=>rw[hl]at h;cases h
      | some l'=>
        rw[hl]at h
        cases h
        simp only[rel]at hr ⊢
        obtain⟨cs,e,k⟩:=hr
        obtain⟨h3,h4⟩:=fzL_rel hS n _ _ _ hl k
        exact⟨⟨cs,e,h3⟩,by simpa[nl]using h4⟩
    · rename_i t u
      cases hl:fz H n u with
      |none=>rw[hl]at h;cases h
      | some u'=>
        rw[hl]at h
        cases h
        simp only[rel]at hr ⊢
        obtain⟨y,e,k⟩:=hr
        obtain⟨h3,h4⟩:=zpX hS n _ _ _ hl k
        exact⟨⟨y,e,h3⟩,by simpa[nl]using h4⟩
    · split at h
      · rename_i hn;exact keep hn h
      · cases h
    · split at h
      · rename_i hn;exact keep hn h
      · cases h
    · rename_i h1 h2 h3 h4 h5 h6 h7 h8 h9 h10
      refine keep ?_ h
      cases v<;>first
        |rfl
        |(exfalso;first|exact h1 _ _ rfl|exact h2 _ _ _ _ _ rfl|exact h3 _ rfl|exact h4 _ rfl|exact h5 _ rfl|exact h6 _ _ rfl|exact h7 _ _ rfl|exact h8 _ _ rfl|exact h9 _ _ rfl|exact h10 _ _ _ _ rfl)
theorem fzL_rel (hS:SR T M ρ H w):∀(n:Nat) (l l':List V) (cs:List Value),fzL H n l=some l'→relL M ρ l cs→relL (frz M ρ H w) ρ l' cs∧nlL l'=true
  | n,[],l',cs,h,hr=>by
    have:l'=[]:=by cases n<;>simp[fzL]at h<;>exact h
    subst this
    exact⟨by simpa[relL]using hr,rfl⟩
  |0,_::_,_,_,h,_=>by simp[fzL]at h
  | n + 1,v::l,l',cs,h,hr=>by
    simp only[fzL]at h
    split at h
    · rename_i u r hu hrr
      cases h
      simp only[relL]at hr
      obtain⟨x,q,rfl,hx,hq⟩:=hr
      obtain⟨h1,h2⟩:=zpX hS n _ _ _ hu hx
      obtain⟨h3,h4⟩:=fzL_rel hS n _ _ _ hrr hq
      exact⟨zaw h1 h3,by simp[nlL,h2,h4]⟩
    · cases h
end
theorem SR.freeze (hp:T.Plain) (hS:SR T M ρ H w):SR T (frz M ρ H w) [] [] w where
  frozen b o hb:=by
    cases hM:M b with
    |some q=>simp[frz,hM]at hb;subst hb;exact hS.frozen b _ hM
    | none=>
      simp only[frz,hM]at hb
      split at hb
      · exact hb
      · cases hb
  len:=rfl
  blk n b hn:=by simp at hn
  inj n m x y b c c' hn:=by simp at hn
  glob g l hl:=by
    obtain⟨cs,ty,fr,hM,hr⟩:=hS.glob g l hl
    exact⟨cs,ty,fr,zdY _ _ hM,nlL_rel l cs (hp g l hl) (relL_mono zdY (jHb _) _ _ hr)⟩
  gint g hg:=by
    obtain⟨m,ty,fr,hM⟩:=hS.gint g hg
    exact⟨m,ty,fr,zdY _ _ hM⟩
end
end Go.Ev
namespace Go.Ev
open Go
section
variable {P:Program}{T:Tab}{M:Mem}{ρ:Ren}{H:zaa}{w:World}
theorem zaR.frame_fz {f:FuncId} {args:Array Value} {v v':V} {J:zaa} {k:Nat} (hp:T.Plain) (hS:SR T M ρ H w) (h:zaR P T f args M [] w (.val v J)) (hf:fz J k v=some v'):zaR P T f args M ρ w (.val v' H):=by
  refine jTd h ?_
  rintro e w' ⟨x,M',σ,rfl,he,hx,hk⟩
  obtain⟨h1,h2⟩:=zpX hk k v v' x hf hx
  have hk2:=hk.freeze hp
  have he2:Ext M [] w (frz M' σ J w') [] w':={
    os:=he.os,tape:=he.tape,output:=he.output,size:=he.size
    mem:=he.mem.trans zdY
    pre:=jHb _
    frame:=he.frame
    newM:=fun b hb hn=>by
      have h3:=he.newM b hb hn
      simp only[frz]
      cases hM:M' b with
      |some o=>rw[←h3,hM]
      | none=>
        rw[←h3,hM]
        simp only
        rw[if_neg]
        rintro⟨n,blk,c,_,hr⟩
        rcases he.newR b c (jIb hr)with⟨c',h'⟩|h'
        · simp at h'
        · omega
    newR:=fun b c hc=>by simp at hc}
  exact⟨x,_,ρ,rfl,he2.recall,zdF v' x h2 h1,hS.recall hk2 he2⟩
theorem zfM (hT:TOk P T)(hp:T.Plain){C:Con}(hC:C.Sound P T){f:FuncId}{vs:List V}{v v':V}{J:zaa}{n k:Nat}(h:zcw T (zeu C) n f vs []=.val v J)(hf:fz J k v=some v')(h1:nlL vs=true) :
 Go.Proofs.Enters P f∧∀(H:zaa)(M:Mem)(ρ:Ren)(w:World)(args:List Value),SR T M ρ H w→relL M ρ vs args→zaR P T f args.toArray M ρ w (.val v' H):=by
 obtain⟨he,hok⟩:=ze1 hT hC n f vs [] _ h (by simp);exact⟨he,fun H M ρ w args hS hr=>zaR.frame_fz hp hS (hok M [] w args (hS.forget hp) (nlL_rel vs args h1 hr)) hf⟩
end
end Go.Ev
namespace Go.Ev
open Go
section
variable {P:Program}{T:Tab}{M:Mem}{ρ:Ren}{H:zaa}{w:World}
end
end Go.Ev
namespace Go.Ev
open Go Go.RowKit
section
variable {P:Program}{T:Tab}{M:Mem}{ρ:Ren}{w:World}{H:zaa}
abbrev FR (r:Option Nat):Fence:={Fence.wide with round:=r}
theorem ziA {r:Option Nat}{n:Nat}{o:Oper}{a:Act}{K:Act→World→Prop}{Q:Exit→Act→World→Prop}(hnd:∀c,o.op≠.defer c)(h:o.wp P a w K Q):o.wpIn (FR r) n P a w K Q:=by
 refine⟨fun f _=>trivial,?_⟩;rw[Oper.semAt_eq _ _ _ hnd];unfold Oper.wp at h;generalize(execOp a.eval o).run P w=res at h;have hd:(FR r).depth.isSome=true→1≤n:=fun e=>by cases e
 cases res with
 |ok v w'=>
  cases v with
  |enter f args=>
   refine⟨hd,?_⟩;have:=(callsIn_wide (n:=n-1)).2 h;exact this
  |round=>exact h.elim
  |row row args=>exact⟨hd,fun c cs _=>let⟨v,w',r,s⟩:=h c cs;⟨v,w',r,stepsIn_wide.2 s⟩⟩
  |_=>exact h
 |halt hh w'=>
  cases hh with
  |panic v=>exact h
  |_=>exact h
theorem zcd (hT:TOk P T) {call:zad} (hcall:call.Sound P T) (ops:Array Oper) {r:Option Nat} {n:Nat} {Q:Exit→Act→World→Prop} (rest:List Oper):∀(l:List Oper) (t:Tm) (H:zaa) (a:Act) (w:World) (M:Mem) (ρ:Ren) (t':Tm) (H':zaa),SR T M ρ H w→zaS M ρ t a.tmps →
    (∀o∈l,∀c,o.op≠.defer c)→zaK (zb7 T call) ops l t H=.norm t' H' →
    (∀a' w' M' ρ',Ext M ρ w M' ρ' w'→zaS M' ρ' t' a'.tmps→SR T M' ρ' H' w'→a'.defers=a.defers→wpListIn (FR r) n P ops Q rest a' w')→wpListIn (FR r) n P ops Q (l++rest) a w
  | [],t,H,a,w,M,ρ,t',H',hS,ht,_,h,k=>by
    simp only[zaK]at h
    cases h
    exact k a w M ρ (Ext.refl _ _ _) ht hS rfl
  | o :: l,t,H,a,w,M,ρ,t',H',hS,ht,hnd,h,k=>by
    simp only[zaK,zbJ,zbp]at h
    rw[jEa]
    unfold wpListIn
    split at h
    · rename_i hw
      rw[za8 ht.2 hw]
      simp only[if_true]
      split at h
      · rename_i v H2 hv
        split at h
        · rename_i hfit
          refine ziA (hnd o (by simp)) (zcE hT hcall hS ht.2 (r:=.val v H2) hv ?_)
          intro x M' ρ' w' he hx hS'
          refine zcd hT hcall ops rest l _ H2 _ w' M' ρ' t' H' hS' (zbu (za0 he.mem he.pre ht) hx o.dst hfit) (fun o' ho=>hnd o' (by simp[ho])) h ?_
          intro a' w2 M2 ρ2 he2 ht2 hS2 hd
          rw[zau]at hd
          exact k a' w2 M2 ρ2 (he.trans he2) ht2 hS2 hd
        · cases h
      · cases h
      · cases h
    · rename_i hw
      rw[za8 ht.2 hw]
      simp only[jSa,if_false]
      split at h
      · rename_i hfit
        refine⟨fun f _=>trivial,zcd hT hcall ops rest l _ H _ w M ρ t' H' hS (zbu ht za6 o.dst hfit) (fun o' ho=>hnd o' (by simp[ho])) h ?_⟩
        intro a' w2 M2 ρ2 he2 ht2 hS2 hd
        rw[zau]at hd
        exact k a' w2 M2 ρ2 he2 ht2 hS2 hd
      · cases h
    · cases h
theorem zsY (hT:TOk P T){call:zad}(hcall:call.Sound P T){ops:Array Oper}{r:Option Nat}{n id:Nat}{Q:Exit→Act→World→Prop}{t t':Tm}{H':zaa}{a:Act}(hS:SR T M ρ H w)(ht:zaS M ρ t a.tmps)(hnd:∀o∈ops.toList,∀c,o.op≠.defer c)
 (h:zc7 T call ops false t H=.norm t' H')(k:∀a' w' M' ρ',Ext M ρ w M' ρ' w'→zaS M' ρ' t' a'.tmps→SR T M' ρ' H' w'→a'.defers=a.defers→Q .normal a' w'):(Code.region id ops false).wpIn (FR r) n P Q a w:=by
 refine wpIn_region_list ?_;have:=zcd hT hcall ops (r:=r) (n:=n) (Q:=Q) [] ops.toList t H a w M ρ t' H' hS ht hnd h (fun a' w' M' ρ' he ht' hS' hd=>k a' w' M' ρ' he ht' hS' hd);rwa [jWb]at this
structure Hid (l:Nat) (o:Obj) (M:Mem) (ρ:Ren) (w:World):Prop where
  at_:w.heap[l]? = some o
  free:M l=none
  un:∀c,(l,c)∉ρ
theorem Hid.lt {l:Nat}{o:Obj}(h:Hid l o M ρ w):l<w.heap.size:=(Array.getElem?_eq_some_iff.1 h.at_).1
theorem Hid.ext {l:Nat} {o:Obj} {M':Mem} {ρ':Ren} {w':World} (h:Hid l o M ρ w) (he:Ext M ρ w M' ρ' w'):Hid l o M' ρ' w' where
  at_:=by rw[he.frame l h.lt h.un];exact h.at_
  free:=by rw[he.newM l h.lt h.un];exact h.free
  un c hc:=by
    rcases he.newR l c hc with⟨c',h'⟩|h'
    · exact h.un c' h'
    · exact absurd h.lt (by omega)
theorem zrd {l:Nat} {o o':Obj} (hS:SR T M ρ H w) (h:Hid l o M ρ w):SR T M ρ H (w.putObj l o') where
  frozen b ob hb:=by
    have:b≠l:=fun e=>by subst e;rw[h.free]at hb;cases hb
    rw[World.putObj_heap_other this]
    exact hS.frozen b ob hb
  len:=hS.len
  blk n b hn:=by
    obtain⟨c,q,hr,hM,hlt,hok⟩:=hS.blk n b hn
    have:c≠l:=fun e=>by subst e;exact h.un q (jIb hr)
    refine⟨c,q,hr,hM,by simpa using hlt,?_⟩
    rw[World.putObj_heap_other this]
    exact hok
  inj:=hS.inj
  glob:=hS.glob
  gint:=hS.gint
theorem Hid.put {l:Nat}{o:Obj}(o':Obj)(h:Hid l o M ρ w):Hid l o' M ρ (w.putObj l o'):=⟨World.putObj_heap_same h.lt,h.free,h.un⟩
theorem Hid.other {l k:Nat}{o o':Obj}(h:Hid k o M ρ w)(hne:k≠l):Hid k o M ρ (w.putObj l o'):=⟨by rw[World.putObj_heap_other hne];exact h.at_,h.free,h.un⟩
theorem zlz {M0:Mem}{ρ0:Ren}{w0:World}{l:Nat}{o':Obj}(he:Ext M0 ρ0 w0 M ρ w)(hl:w0.heap.size≤l):Ext M0 ρ0 w0 M ρ (w.putObj l o') where
 os:=he.os
 tape:=he.tape
 output:=he.output
 size:=by simpa using he.size
 mem:=he.mem
 pre:=he.pre
 frame b hb hn:=by rw[World.putObj_heap_other (by omega)];exact he.frame b hb hn
 newM:=he.newM
 newR:=he.newR
theorem zjI (hS:SR T M ρ H w) (o:Obj):SR T M ρ H (w.alloc o) where
  frozen b ob hb:=by
    have:=hS.frozen b ob hb
    rw[RowKit.Below.heap_alloc w o b (Array.getElem?_eq_some_iff.1 this).1]
    exact this
  len:=hS.len
  blk n b hn:=by
    obtain⟨c,q,hr,hM,hlt,hok⟩:=hS.blk n b hn
    refine⟨c,q,hr,hM,by simp;omega,?_⟩
    rw[RowKit.Below.heap_alloc w o c hlt]
    exact hok
  inj:=hS.inj
  glob:=hS.glob
  gint:=hS.gint
theorem zgU (o:Obj):Ext M ρ w M ρ (w.alloc o) where
 os:=rfl
 tape:=rfl
 output:=rfl
 size:=by simp
 mem:=Mem.le.refl _
 pre:=jHb _
 frame b hb _:=RowKit.Below.heap_alloc w o b hb
 newM _ _ _:=rfl
 newR _ c h:=.inl ⟨c,h⟩
theorem ztA {r:Option Nat}{n l k:Nat}{o:Oper}{a:Act}{K:Act→World→Prop}{Q:Exit→Act→World→Prop}{c:Call}{t:Tm}{vs:List V}{rec:Loop}(ht:zaS M ρ t a.tmps)
 (ho:o.op=.call c)(hc:c.callee=.value (.tmp k))(hk:t.get k=.yld l)(hvs:evs t.get c.args.toList=some vs)(hl:w.heap[l]? = some (.loop rec))(hlen:vs.length=rec.params.size)
 (h:∀args:List Value,relL M ρ vs args→RoundIn (FR r) (n-1) P l rec.fn ((rec.params.zip args.toArray).foldl (fun tmps (t,a)=>tmps.setIfInBounds t a) rec.tmps) rec.assign rec.body w fun e w'=>match e with | .returned v=>K (a.put o.dst v) w'|_=>False):o.wpIn (FR r) n P a w K Q:=by
 have hv:=ht.2 k;rw[hk]at hv;simp only[rel]at hv;have hrel:=zeI ht.2 hvs;have hsz:(c.args.map a.eval).size=rec.params.size:=by
  have:=zam hrel;simp at this;simp[this,←hlen]
 refine⟨fun f _=>trivial,?_⟩;rw[Oper.semAt_eq _ _ _ (fun c' e=>by rw[ho]at e;cases e)];have hy:=run_yield (P:=P) (args:=c.args.map a.eval) hl hsz;have hexec:(execOp a.eval o).run P w=.ok (.round l rec.fn ((rec.params.zip (c.args.map a.eval)).foldl (fun tmps (t,a)=>tmps.setIfInBounds t a) rec.tmps) rec.assign rec.body) w:=by
  have h1:a.eval (.tmp k)=.func (.yield l) #[] #[]:=hv;simp[execOp,ho,resolve,hc,h1,Deferred.ofValue,invoke,hy]
 rw[hexec,Oper.uponIn_round];refine⟨fun e=>(by cases e),?_⟩;have:=h (c.args.toList.map a.eval) hrel;have e2:(c.args.toList.map a.eval).toArray=c.args.map a.eval:=by apply jWc;simp
 rw[e2]at this;refine this.mono fun e w' he=>?_;cases e with
 |returned v=>exact he
 |panicked chain=>exact he.elim
 |outgrown=>exact he.elim
end
end Go.Ev
namespace Go.Ev
open Go Go.RowKit
def zhb (ops:Array Oper):Bool:=ops.toList.all fun o=>match o.op with
 | .defer _=>false
 |_=>true
theorem zcB {ops:Array Oper}(h:zhb ops=true):∀o∈ops.toList,∀c,o.op≠.defer c:=fun o ho c e=>by
 have:=jBb.1 h o ho;rw[e]at this;cases this
def ziL (o:Oper):Option (Nat×List Operand):=match o.op with
 | .call ⟨.value (.tmp j),args,_⟩=>some (j,args.toList)
 |_=>none
theorem zhT {o:Oper}{j:Nat}{ops2:List Operand}(h:ziL o=some (j,ops2)):∃c:Call,o.op=.call c∧c.callee=.value (.tmp j)∧c.args.toList=ops2:=by
 unfold ziL at h;split at h
 ·rename_i j' args tys e;cases h;exact⟨_,e,rfl,rfl⟩
 ·cases h
section
variable {P:Program}{T:Tab}{M:Mem}{ρ:Ren}{w:World}{H:zaa}
end
end Go.Ev
namespace Go.Ev
open Go Go.Proofs
set_option linter.unusedSimpArgs false
set_option linter.unusedVariables false
set_option linter.unnecessarySimpa false
open Go Go.RowKit
def mark (D:Nat):Deferred:={target:=.collected D,args:=#[]}
def WP (r:Option Nat)(P:Program)(c:Code)(Q:Exit→Act→World→Prop)(a:Act)(w:World):Prop:=
 ∀(b:Frame)(k:List Item)(cs:List Frame),b.roundOf=r→(∃fn,P.funcs[b.fn]? = some fn)→∃e a' w',Q e a' w'∧ArrivesIn (Machine.fenced P Fence.wide) P (lone (b.atR a (.code c::k)) cs w) b k cs e a' w'
section
variable {r:Option Nat}{P:Program}{Q Q':Exit→Act→World→Prop}{a:Act}{w:World}{c x y:Code}{id:Nat}
theorem ziM {m:Machine}:m.fenced P Fence.wide:=fenced_wide P m
theorem WP.of (n:Nat)(h:c.wpIn (FR r) n P Q a w):WP r P c Q a w:=fun b k cs hr _=>by
 obtain⟨e,a',w',q,harr⟩:=h b k cs hr trivial (room_wide _);exact⟨e,a',w',q,harr⟩
theorem WP.mono (h:WP r P c Q a w)(hq:∀e a w,Q e a w→Q' e a w):WP r P c Q' a w:=
 fun b k cs hr hb=>let⟨e,a',w',q,s⟩:=h b k cs hr hb;⟨e,a',w',hq _ _ _ q,s⟩
theorem WP.seq (h:WP r P x (Exit.then (WP r P y Q) Q) a w):WP r P (.seq x y) Q a w:=by
 intro b k cs hr hb;obtain⟨e,a1,w1,hq,harr⟩:=h b (.code y::k) cs hr hb;have h0:∀{m:Machine},m.fenced P Fence.wide:=ziM;by_cases hn:e=.normal
 ·subst hn;obtain⟨e2,a2,w2,hq2,harr2⟩:=hq b k cs hr hb;exact⟨e2,a2,w2,hq2,.of_steps (.head h0 stepR_seq harr) harr2⟩
 ·refine⟨e,a1,w1,?_,.of_steps (.one h0 stepR_seq) (.pass (x:=.code y) rfl (fun _ _=>.inl hn) harr)⟩;cases e<;>first|exact hq|exact absurd rfl hn
theorem WP.cond {g:Operand}{t:Bool}(hc:a.eval g=.bool t)(h:WP r P (if t then x else y) Q a w):WP r P (.cond g x y) Q a w:=
 fun b k cs hr hb=>let⟨e,a',w',q,s⟩:=h b k cs hr hb;⟨e,a',w',q,.of_steps (.one ziM (stepR_cond hc)) s⟩
theorem WP.block (h:WP r P c (Exit.inBlock id Q) a w):WP r P (.block id c) Q a w:=by
 intro b k cs hr hb;have h0:∀{m:Machine},m.fenced P Fence.wide:=ziM;obtain⟨e,a1,w1,hq,harr⟩:=h b (.inBlock id::k) cs hr hb;cases e with
 |normal=>exact⟨.normal,a1,w1,hq,.head h0 stepR_block (StepsIn.trans harr (.one h0 stepR_inBlock))⟩
 |exit j=>
  by_cases hj:j=id
  ·simp only[Exit.inBlock,hj,if_true]at hq;exact⟨.normal,a1,w1,hq,.head h0 stepR_block (harr.1 k (by simp[exitTo,hj]))⟩
  ·simp only[Exit.inBlock,hj,if_false]at hq;have e1:(id==j)=false:=by simpa using fun q=>hj (Eq.symm q)
   have e2:exitTo j (.inBlock id::k)=exitTo j k:=by simp[exitTo,e1]
   refine⟨.exit j,a1,w1,hq,fun k' hk=>.head h0 stepR_block (harr.1 k' (e2.trans hk)),fun hr' hk=>?_⟩;obtain⟨k1,h1,h2⟩:=harr.2 hr' (e2.trans hk);exact⟨k1,h1,.head h0 stepR_block h2⟩
 |goto l=>
  have e2:gotoIn l (.inBlock id::k)=gotoIn l k:=by simp[gotoIn]
  refine⟨_,a1,w1,hq,fun k' hk=>.head h0 stepR_block (harr.1 k' (e2.trans hk)),fun hr' hk=>?_⟩;obtain⟨k1,h1,h2⟩:=harr.2 hr' (e2.trans hk);exact⟨k1,h1,.head h0 stepR_block h2⟩
 |ret=>exact⟨_,a1,w1,hq,.of_steps (.one h0 stepR_block) harr⟩
 |panic ch=>exact⟨_,a1,w1,hq,.of_steps (.one h0 stepR_block) harr⟩
 |outgrown=>exact⟨_,a1,w1,hq,.of_steps (.one h0 stepR_block) harr⟩
def zch (r:Option Nat)(P:Program)(c:Code)(Q:Exit→Act→World→Prop):Nat→Act→World→Prop
 |0,_,_=>False
 |m+1,a,w=>WP r P c (Exit.then (zch r P c Q m) Q) a w
theorem zch.mono (hq:∀e a w,Q e a w→Q' e a w):∀(m:Nat)(a:Act)(w:World),zch r P c Q m a w→zch r P c Q' m a w
 |0,_,_,h=>h
 |m+1,a,w,h=>by
  refine WP.mono (show WP r P c (Exit.then (zch r P c Q m) Q) a w from h) ?_;intro e a' w' hp;cases e with
  |normal=>exact zch.mono hq m a' w' hp
  |_=>exact hq _ _ _ hp
theorem WP.loop (m:Nat)(h:zch r P c Q m a w):WP r P (.loop c) Q a w:=by
 intro b k cs hr hb;have h0:∀{m:Machine},m.fenced P Fence.wide:=ziM;have key:∀m a w,zch r P c Q m a w→∃e a' w',Q e a' w'∧ArrivesIn (Machine.fenced P Fence.wide) P (lone (b.atR a (.code c::.inLoop c::k)) cs w) b k cs e a' w':=by
  intro m;induction m with
  |zero=>intro a w h;exact h.elim
  |succ m ih=>
   intro a w h;obtain⟨e,a1,w1,hq,harr⟩:=h b (.inLoop c::k) cs hr hb;by_cases hn:e=.normal
   ·subst hn;obtain⟨e2,a2,w2,hq2,harr2⟩:=ih a1 w1 hq;exact⟨e2,a2,w2,hq2,.of_steps (StepsIn.trans harr (.one h0 stepR_inLoop)) harr2⟩
   ·refine⟨e,a1,w1,?_,.pass (x:=.inLoop c) rfl (fun _ _=>.inl hn) harr⟩;cases e<;>first|exact hq|exact absurd rfl hn
 obtain⟨e,a',w',hq,harr⟩:=key m a w h;exact⟨e,a',w',hq,.of_steps (.one h0 stepR_loop) harr⟩
theorem zhk {ch:List PanicEntry} {R:Ending→World→Prop}:∀(ds:List Deferred) (w:World) (fr:Frame) (cs:List Frame) (c:Frame) {fn:Func} {tmps:Array Value},fr.mode=.panicking ch→fr.defers=ds→P.funcs[fr.fn]? = some fn→(∀d∈ds,∃D,d=mark D) →
    LeavesInM Fence.wide 0 P fn tmps R ds (.panicking ch) w→∃w',R (.panicked ch) w'∧StepsIn (Machine.fenced P Fence.wide) P (lone fr (c::cs) w) (lone (c.raise ch) cs w')
  | [],w,fr,cs,c,fn,tmps,hm,hd,hf,_,h=>by
    refine⟨w,h,.one ziM (step_leave_panicked ⟨hm,hd,fn,hf⟩)⟩
  | d :: ds,w,fr,cs,c,fn,tmps,hm,hd,hf,hk,h=>by
    obtain⟨hrun,h⟩:=h
    obtain⟨D,rfl⟩:=hk d (by simp)
    rcases h with⟨D',w',htar,htake,hrest⟩|⟨_,fv,cap,f,args,htar,_⟩
    · have h1:=step_collected (cs:=c::cs) (fr:=fr) (by rw[hm];simp) hd htar htake
      obtain⟨w2,hR,hs⟩:=zhk ds w' {fr with defers:=[]++ds} cs c hm rfl hf (fun d hd=>hk d (by simp[hd])) hrest
      exact⟨w2,hR,.head ziM h1 hs⟩
    · cases htar
def zxH (P:Program)(l:Nat)(R:Ending→World→Prop):Exit→Act→World→Prop
 | .normal,_,w=>∃v w',(Instr.endRound l none).run P w=.ok v w'∧R (.returned v) w'
 | .ret,_,w=>∃v w',(Instr.endRound l (some .ret)).run P w=.ok v w'∧R (.returned v) w'
 | .exit id,_,w=>∃v w',(Instr.endRound l (some (.exit id))).run P w=.ok v w'∧R (.returned v) w'
 | .panic ch,a,w=>(∀d∈a.defers,∃D,d=mark D)∧∀fn,LeavesInM Fence.wide 0 P fn a.tmps R a.defers (.panicking ch) w
 |_,_,_=>False
theorem WP.round {n l:Nat}{f:FuncId}{tmps:Array Value}{assign body:Code}{R:Ending→World→Prop}(hf:∃fn,P.funcs[f]? = some fn)
 (h:WP (some l) P assign (Exit.then (fun a1 w1=>∃w2,(Instr.beginRound l).run P w1=.ok () w2∧WP (some l) P body (zxH P l R) a1 w2) (fun _ _ _=>False)) {tmps:=tmps,defers:=[]} w) :
 RoundIn (FR r) n P l f tmps assign body w R:=by
 refine⟨trivial,fun c cs _=>?_⟩;have h0:∀{m:Machine},m.fenced P Fence.wide:=ziM;obtain⟨b,hbe⟩:∃b:Frame,b={(default:Frame)with fn:=f,kind:=.normal,roundOf:=some l}:=⟨_,rfl⟩;have hb0:Frame.round l f tmps assign body .normal=b.atR {tmps:=tmps,defers:=[]} [.code assign,.beginRound,.code body]:=by
  subst hbe;simp[Frame.round,Frame.atR]
 have hro:b.roundOf=some l:=by subst hbe;rfl
 have hki:b.kind=.normal:=by subst hbe;rfl
 have hfn:b.fn=f:=by subst hbe;rfl
 have hgo:∃fn,P.funcs[b.fn]? = some fn:=by rw[hfn];exact hf
 obtain⟨e,a1,w1,hq,harr⟩:=h b [.beginRound,.code body] (c::cs) hro hgo;rw[←hb0]at harr;have hn:e=.normal:=by cases e<;>first|rfl|exact hq.elim
 subst hn;obtain⟨w2,hbr,hbody⟩:=hq;have s1:StepsIn (Machine.fenced P Fence.wide) P (lone (b.atR a1 [.beginRound,.code body]) (c::cs) w1) (lone (b.atR a1 [.code body]) (c::cs) w2):=.one h0 (stepR_beginRound hro hbr);have s2:=StepsIn.trans harr s1;obtain⟨e2,a2,w3,hq2,harr2⟩:=hbody b [] (c::cs) hro hgo;have rs:b.roundOf.isSome=true:=by rw[hro];rfl
 cases e2 with
 |normal=>
  obtain⟨v,w4,hend,hR⟩:=hq2;exact⟨.returned v,w4,hR,s2.trans (StepsIn.trans harr2 (.one h0 (stepR_round_end hro hki hend)))⟩
 |ret=>
  obtain⟨v,w4,hend,hR⟩:=hq2;obtain⟨k1,hs⟩:=harr2.2 rs;exact⟨.returned v,w4,hR,s2.trans (StepsIn.trans hs (.one h0 (stepR_round_ret hro hki hend)))⟩
 |exit id=>
  obtain⟨v,w4,hend,hR⟩:=hq2;obtain⟨k1,hk,hs⟩:=harr2.2 rs rfl;exact⟨.returned v,w4,hR,s2.trans (StepsIn.trans hs (.one h0 (stepR_round_exit hro hki hk hend)))⟩
 |panic ch=>
  obtain⟨todo,hs⟩:=harr2;obtain⟨fn,hfn'⟩:=hgo;obtain⟨w4,hR,hs2⟩:=zhk a2.defers w3 {b.atR a2 todo with mode:=.panicking ch} cs c rfl rfl hfn' hq2.1 (hq2.2 fn);exact⟨.panicked ch,w4,hR,s2.trans (StepsIn.trans hs hs2)⟩
 |goto t=>exact hq2.elim
 |outgrown=>exact hq2.elim
def zxC (r:Option Nat)(P:Program)(l:Nat)(Q:Exit→Act→World→Prop)(a':Act):Ending→World→Prop
 | .returned _,w3=>∃jump w4,(Instr.endLoop l).run P w3=.ok jump w4∧(match jump with|none=>Q .normal a' w4|some c=>WP r P c Q a' w4)
 | .panicked ch,w3=>Q (.panic ch) a' w3
 | .outgrown,_=>False
theorem WP.range {g:Operand}{ps:Array Tmp}{assign body:Code}
 (h:∀fn,(∃f,P.funcs[fn]? = some f)→∃(l:Nat)(mark:List Deferred)(w1:World)(d:Deferred)(w1':World)(f:FuncId)(args:Array Value)(w2:World),
  (Instr.enterLoop fn a.tmps ps assign body r).run P w=.ok (l,mark) w1∧(resolve a.eval (rangeCall g l) 0).run P w1=.ok d w1'∧(invoke d.target d.args).run P w1'=.ok (.enter f args) w2 ∧
  CallsIn Fence.wide 0 P f args w2 (zxC r P l Q {a with defers:=mark++a.defers})):WP r P (.rangeFunc g ps assign body) Q a w:=by
 intro b k cs hr hb;have h0:∀{m:Machine},m.fenced P Fence.wide:=ziM;obtain⟨l,mark,w1,d,w1',f,args,w2,he,hres,hinv,hF,hcall⟩:=h b.fn hb;rw[←hr]at he;have henter:=stepR_rangeFunc (P:=P) (b:=b) (a:=a) (k:=k) (cs:=cs) (w:=w) he hres hinv;obtain⟨e,w3,fr,hR,hsteps,hfn,hleave⟩:=hcall (b.atR {a with defers:=mark++a.defers} (.inRangeFunc l::k)::cs) (room_wide _);cases e with
 |outgrown=>exact hR.elim
 |returned v=>
  obtain⟨jump,w4,hend,hj⟩:=hR;have h1:step P (lone fr (b.atR {a with defers:=mark++a.defers} (.inRangeFunc l::k)::cs) w3)=.next (lone (b.atR {a with defers:=mark++a.defers} (.endRangeFunc l::k)) cs w3):=by
   rw[←finish_atR_inRangeFunc l v];exact step_leave_returned hleave
  have sback:StepsIn (Machine.fenced P Fence.wide) P (lone (b.atR a (.code (.rangeFunc g ps assign body)::k)) cs w) (lone (b.atR {a with defers:=mark++a.defers} ((jump.map Item.code).toList++k)) cs w4):=
   .head h0 henter (StepsIn.trans hsteps (.head h0 h1 (.one h0 (stepR_endRangeFunc hend))))
  cases jump with
  |none=>exact⟨.normal,_,w4,hj,sback⟩
  |some c=>
   obtain⟨e',a'',w5,hq,harr⟩:=hj b k cs hr hb;exact⟨e',a'',w5,hq,.of_steps sback harr⟩
 |panicked ch=>
  refine⟨.panic ch,_,w3,hR,.inRangeFunc l::k,.head h0 henter (StepsIn.trans hsteps (.one h0 ?_))⟩;rw[←Frame.raise_atR];exact step_leave_panicked hleave
theorem zgC {f:FuncId}{fn:Func}{args:Array Value}{R:Ending→World→Prop}(hf:P.funcs[f]? = some fn)(hb:fn.body=some c)
 (h:WP none P c (bodyPostM Fence.wide 0 P fn R) {tmps:=args++Array.replicate (fn.ntmps-args.size) undef,defers:=[]} w):CallsIn Fence.wide 0 P f args w R:=by
 refine⟨trivial,fun cs hr=>?_⟩;have h0:∀{m:Machine},m.fenced P Fence.wide:=ziM;obtain⟨b,hbe⟩:∃b:Frame,b={(default:Frame)with fn:=f,kind:=.normal,roundOf:=none}:=⟨_,rfl⟩;have hfn:b.fn=f:=by subst hbe;rfl
 have hki:b.kind=.normal:=by subst hbe;rfl
 have hro:b.roundOf=none:=by subst hbe;rfl
 have henter:Frame.enter P f args .normal=b.atR {tmps:=args++Array.replicate (fn.ntmps-args.size) undef,defers:=[]} [.code c]:=by
  subst hbe;simp[Frame.enter,Frame.atR,hf,hb]
 have hbf:P.funcs[b.fn]? = some fn:=by rw[hfn];exact hf
 obtain⟨e,a',w',hq,harr⟩:=h b [] cs hro ⟨fn,hbf⟩;rw[←henter]at harr;cases e with
 |normal=>
  obtain⟨e',w'',fr',hR,hs,hfn',hl⟩:=leaves_stepsInM a'.defers .returning w' {b.atR a' []with mode:=.returning} cs rfl rfl rfl hbf hki trivial hr hq;exact⟨e',w'',fr',hR,ComesIn.of_steps (StepsIn.trans harr (.one h0 (stepR_end hro))) hs,hfn'.trans hfn,hl⟩
 |ret=>
  obtain⟨todo,hs0⟩:=harr.1 hro;obtain⟨e',w'',fr',hR,hs,hfn',hl⟩:=leaves_stepsInM a'.defers .returning w' {b.atR a' todo with mode:=.returning} cs rfl rfl rfl hbf hki trivial hr hq;exact⟨e',w'',fr',hR,ComesIn.of_steps hs0 hs,hfn'.trans hfn,hl⟩
 |panic ch=>
  obtain⟨todo,hs0⟩:=harr;obtain⟨e',w'',fr',hR,hs,hfn',hl⟩:=leaves_stepsInM a'.defers (.panicking ch) w' {b.atR a' todo with mode:=.panicking ch} cs rfl rfl rfl hbf hki trivial hr hq;exact⟨e',w'',fr',hR,ComesIn.of_steps hs0 hs,hfn'.trans hfn,hl⟩
 |exit id=>exact hq.elim
 |goto l=>exact hq.elim
 |outgrown=>exact⟨.outgrown,w',b,hq,harr.resolve_left (by rw[hki];simp),hfn,trivial⟩
end
open Go Go.RowKit
structure HE where
  l:Nat
  o:Obj
  t:Tm
  ts:Array Value
section
variable {P:Program}{T:Tab}
structure StX (T:Tab) (M0:Mem) (ρ0:Ren) (w0:World) (M:Mem) (ρ:Ren) (ms:List Nat) (t:Tm) (H:zaa) (hs:List HE) (a:Act) (w:World):Prop where
  ext:Ext M0 ρ0 w0 M ρ w
  sr:SR T M ρ H w
  tm:zaS M ρ t a.tmps
  hid:∀e∈hs,w0.heap.size≤e.l∧Hid e.l e.o M ρ w∧zaS M ρ e.t e.ts
  defs:a.defers=ms.map mark
  marks:∀D∈ms,w0.heap.size≤D∧Hid D (.deferred (some [])) M ρ w
  nd:(ms++hs.map HE.l).Nodup
variable {M0 M M':Mem}{ρ0 ρ ρ':Ren}{w0 w w':World}{ms:List Nat}{t t':Tm}{H H':zaa}{hs hs' xs:List HE}{a a':Act}{r:Option Nat}{c x y:Code}{id:Nat}
theorem StX.step (h:StX T M0 ρ0 w0 M ρ ms t H hs a w)(he:Ext M ρ w M' ρ' w')(ht:zaS M' ρ' t' a'.tmps)(hS:SR T M' ρ' H' w')(hd:a'.defers=a.defers):StX T M0 ρ0 w0 M' ρ' ms t' H' hs a' w':=
 ⟨h.ext.trans he,hS,ht,fun e hm=>⟨(h.hid e hm).1,(h.hid e hm).2.1.ext he,za0 he.mem he.pre (h.hid e hm).2.2⟩,hd.trans h.defs,fun D hD=>⟨(h.marks D hD).1,(h.marks D hD).2.ext he⟩,h.nd⟩
theorem zde:zaS M ρ (Tm.init 0 []) #[]:=by
 have:=zbr (M:=M) (ρ:=ρ) (vs:=[]) (args:=[]) (by simp only[relL]) (n:=0) (by simp);simpa using this
theorem StX.bare (h:StX T M0 ρ0 w0 M ρ ms t H hs a w):StX T M0 ρ0 w0 M ρ ms (Tm.init 0 []) H hs {tmps:=#[],defers:=a.defers} w:=
 ⟨h.ext,h.sr,zde,h.hid,h.defs,h.marks,h.nd⟩
def zdN (T:Tab)(M0:Mem)(ρ0:Ren)(w0:World)(M:Mem)(ρ:Ren)(t:Tm)(H:zaa)(hs:List HE)(a':Act)(w':World):Prop:=
 ∃M' ρ' ms,M.le M'∧ρ <+: ρ'∧StX T M0 ρ0 w0 M' ρ' ms t H hs a' w'
def zgu (T:Tab)(M0:Mem)(ρ0:Ren)(w0:World)(M:Mem)(ρ:Ren)(v:V)(H:zaa)(hs:List HE)(ch:List PanicEntry)(a':Act)(w':World):Prop:=
 ∃x M' ρ' ms,ch=[{v:=x,recovered:=false}]∧M.le M'∧ρ <+: ρ'∧rel M' ρ' v x∧StX T M0 ρ0 w0 M' ρ' ms (Tm.init 0 []) H hs {tmps:=#[],defers:=a'.defers} w'
def ziH (T:Tab)(M0:Mem)(ρ0:Ren)(w0:World)(M:Mem)(ρ:Ren)(xs:List HE)(o:Out)(hs:List HE)(e:Exit)(a':Act)(w':World):Prop:=
 match o,e with
 | .norm t H,.normal=>zdN T M0 ρ0 w0 M ρ t H (hs++xs) a' w'
 | .exit id t H,.exit j=>j=id∧zdN T M0 ρ0 w0 M ρ t H (hs++xs) a' w'
 | .ret t H,.ret=>zdN T M0 ρ0 w0 M ρ t H (hs++xs) a' w'
 | .pan v t H,.panic ch=>zgu T M0 ρ0 w0 M ρ v H (hs++xs) ch a' w'
 |_,_=>False
theorem zdN.later (h1:M.le M')(h2:ρ <+: ρ')(h:zdN T M0 ρ0 w0 M' ρ' t H hs a' w'):zdN T M0 ρ0 w0 M ρ t H hs a' w':=by
 obtain⟨M2,ρ2,ms,k1,k2,k3⟩:=h;exact⟨M2,ρ2,ms,h1.trans k1,h2.trans k2,k3⟩
theorem zgu.later {v:V}{ch:List PanicEntry}(h1:M.le M')(h2:ρ <+: ρ')(h:zgu T M0 ρ0 w0 M' ρ' v H hs ch a' w'):zgu T M0 ρ0 w0 M ρ v H hs ch a' w':=by
 obtain⟨x,M2,ρ2,ms,e,k1,k2,k3,k4⟩:=h;exact⟨x,M2,ρ2,ms,e,h1.trans k1,h2.trans k2,k3,k4⟩
theorem ziH.later {o:Out}{e:Exit}(h1:M.le M')(h2:ρ <+: ρ')(h:ziH T M0 ρ0 w0 M' ρ' xs o hs e a' w'):ziH T M0 ρ0 w0 M ρ xs o hs e a' w':=by
 cases o<;>cases e<;>first
  |exact zdN.later h1 h2 h
  |exact zgu.later h1 h2 h
  |exact⟨h.1,zdN.later h1 h2 h.2⟩
  |exact h
def zug (P:Program)(T:Tab)(r:Option Nat)(hs:List HE)(c:Code)(t:Tm)(H:zaa)(o:Out)(hs':List HE):Prop:=
 ∀(M0:Mem)(ρ0:Ren)(w0:World)(M:Mem)(ρ:Ren)(ms:List Nat)(xs:List HE)(a:Act)(w:World),StX T M0 ρ0 w0 M ρ ms t H (hs++xs) a w→WP r P c (ziH T M0 ρ0 w0 M ρ xs o hs') a w
def zwG (P:Program)(T:Tab)(r:Option Nat)(hs:List HE)(c:Code)(t:Tm)(H:zaa)(o:Out)(hs':List HE):Prop:=
 ∃m,∀(M0:Mem)(ρ0:Ren)(w0:World)(M:Mem)(ρ:Ren)(ms:List Nat)(xs:List HE)(a:Act)(w:World),StX T M0 ρ0 w0 M ρ ms t H (hs++xs) a w→zch r P c (ziH T M0 ρ0 w0 M ρ xs o hs') m a w
def zba (P:Program)(T:Tab)(r:Option Nat)(hs:List HE)(c:Code)(t:Tm)(H:zaa)(Q:Out→List HE→Prop):Prop:=∃o hs',Q o hs'∧zug P T r hs c t H o hs'
def zjU (P:Program)(T:Tab)(r:Option Nat)(hs:List HE)(c:Code)(t:Tm)(H:zaa)(Q:Out→List HE→Prop):Prop:=∃o hs',Q o hs'∧zwG P T r hs c t H o hs'
variable {Q Q':Out→List HE→Prop}
theorem StX.behind (h:StX T M0 ρ0 w0 M ρ ms t H hs a w):zdN T M0 ρ0 w0 M ρ t H hs a w:=⟨M,ρ,ms,Mem.le.refl _,jHb _,h⟩
theorem zba.skip (h:Q (.norm t H) hs):zba P T r hs .skip t H Q:=⟨_,_,h,fun M0 ρ0 w0 M ρ ms xs a w k=>WP.of 0 (wpIn_skip k.behind)⟩
theorem zba.exit (h:Q (.exit id t H) hs):zba P T r hs (.exit id) t H Q:=⟨_,_,h,fun M0 ρ0 w0 M ρ ms xs a w k=>WP.of 0 (wpIn_exit ⟨rfl,k.behind⟩)⟩
theorem zba.ret (h:Q (.ret t H) hs):zba P T r hs .ret t H Q:=⟨_,_,h,fun M0 ρ0 w0 M ρ ms xs a w k=>WP.of 0 (wpIn_ret k.behind)⟩
theorem zba.reg (hT:TOk P T){call:zad}(hC:call.Sound P T){ops:Array Oper}(hnd:zhb ops=true)(he:zc7 T call ops false t H=.norm t' H')(h:Q (.norm t' H') hs):zba P T r hs (.region id ops false) t H Q:=
 ⟨_,_,h,fun M0 ρ0 w0 M ρ ms xs a w k=>WP.of 0 (zsY hT hC k.sr k.tm (zcB hnd) he fun a' w' M' ρ' e1 ht hS hd=>⟨M',ρ',ms,e1.mem,e1.pre,k.step e1 ht hS hd⟩)⟩
theorem zba.regP (hT:TOk P T){call:zad}(hC:call.Sound P T){ops:Array Oper}(q:Nat){t1:Tm}{H1:zaa}{o:Oper}{v:V}(hnd:zhb ops=true)(hops:ops.toList=ops.toList.take q++o::ops.toList.drop (q+1)) 
 (he:zaK (zb7 T call) ops (ops.toList.take q) t H=.norm t1 H1)(hg:zaD ops o t1.get=some true)(ho:zb7 T call o t1.get H1=.pan v H')(h:Q (.pan v t1 H') hs):zba P T r hs (.region id ops false) t H Q:=by
 refine⟨_,_,h,fun M0 ρ0 w0 M ρ ms xs a w k=>WP.of 0 (wpIn_region_list ?_)⟩;rw[hops];refine zcd hT hC ops (o::ops.toList.drop (q+1)) (ops.toList.take q) t H a w M ρ _ _ k.sr k.tm (fun o' ho'=>zcB hnd o' (List.mem_of_mem_take ho')) he ?_;intro a1 w1 M1 ρ1 e1 ht1 hS1 hd1;unfold wpListIn;rw[za8 ht1.2 hg];simp only[if_true];refine ziA (zcB hnd o (by rw[hops];simp)) (zcE hT hC hS1 ht1.2 (r:=.pan v H') ho ?_);intro x M' ρ' w' he' hx hS';exact⟨x,M',ρ',ms,rfl,e1.mem.trans he'.mem,e1.pre.trans he'.pre,hx,((k.step e1 ht1 hS1 hd1).step he' (za0 he'.mem he'.pre ht1) hS' (a':=a1) rfl).bare⟩
def Out.good:Out→Prop
 | .no=>False
 |_=>True
theorem zba.lift {Q2:Out→Prop}(h:Tri P T c t H Q2)(hq:∀o,Q2 o→o.good∧Q o hs):zba P T none hs c t H Q:=by
 obtain⟨o,h1,h2⟩:=h;refine⟨o,hs,(hq o h1).2,fun M0 ρ0 w0 M ρ ms xs a w k=>?_⟩;refine WP.of 0 ?_;show c.wpIn (FR none) 0 P _ a w;refine wpIn_wide.2 (h2 a w M ρ _ k.sr k.tm ?_);have hp:=(hq o h1).1;cases o with
 |norm t' H'=>exact fun a' w' M' ρ' e1 ht hS hd=>⟨M',ρ',ms,e1.mem,e1.pre,k.step e1 ht hS hd⟩
 |exit id t' H'=>exact fun a' w' M' ρ' e1 ht hS hd=>⟨rfl,M',ρ',ms,e1.mem,e1.pre,k.step e1 ht hS hd⟩
 |ret t' H'=>exact fun a' w' M' ρ' e1 ht hS hd=>⟨M',ρ',ms,e1.mem,e1.pre,k.step e1 ht hS hd⟩
 |pan v t' H'=>exact fun a' w' M' ρ' x e1 ht hx hS hd=>⟨x,M',ρ',ms,rfl,e1.mem,e1.pre,hx,(k.step e1 (za0 e1.mem e1.pre k.tm) hS (a':={a with defers:=a'.defers}) hd).bare⟩
 |no=>exact hp.elim
def ztO (P:Program)(T:Tab)(r:Option Nat)(y:Code)(Q:Out→List HE→Prop):Out→List HE→Prop
 | .norm t H,hs=>zba P T r hs y t H Q
 |o,hs=>Q o hs
def zks (id:Nat)(Q:Out→List HE→Prop):Out→List HE→Prop
 | .exit j t H,hs=>if j=id then Q (.norm t H) hs else Q (.exit j t H) hs
 |o,hs=>Q o hs
def zlG (P:Program)(T:Tab)(r:Option Nat)(c:Code)(Q:Out→List HE→Prop):Out→List HE→Prop
 | .norm t H,hs=>zjU P T r hs c t H Q
 |o,hs=>Q o hs
theorem zba.seq (h:zba P T r hs x t H (ztO P T r y Q)):zba P T r hs (.seq x y) t H Q:=by
 obtain⟨o,k,h1,h2⟩:=h;cases o with
 |norm t1 H1=>
  obtain⟨o2,k2,h3,h4⟩:=h1;refine⟨o2,k2,h3,fun M0 ρ0 w0 M ρ ms xs a w s=>WP.seq (WP.mono (h2 M0 ρ0 w0 M ρ ms xs a w s) ?_)⟩;intro e a' w' hp;cases e with
  |normal=>
   obtain⟨M',ρ',ms',q1,q2,s'⟩:=hp;exact WP.mono (h4 M0 ρ0 w0 M' ρ' ms' xs a' w' s') fun e2 a2 w2 hp2=>hp2.later q1 q2
  |_=>exact hp.elim
 |exit j t1 H1=>
  refine⟨_,k,h1,fun M0 ρ0 w0 M ρ ms xs a w s=>WP.seq (WP.mono (h2 M0 ρ0 w0 M ρ ms xs a w s) ?_)⟩;intro e a' w' hp;cases e<;>first
   |exact hp.elim
   |exact hp
 |ret t1 H1=>
  refine⟨_,k,h1,fun M0 ρ0 w0 M ρ ms xs a w s=>WP.seq (WP.mono (h2 M0 ρ0 w0 M ρ ms xs a w s) ?_)⟩;intro e a' w' hp;cases e<;>first
   |exact hp.elim
   |exact hp
 |pan v t1 H1=>
  refine⟨_,k,h1,fun M0 ρ0 w0 M ρ ms xs a w s=>WP.seq (WP.mono (h2 M0 ρ0 w0 M ρ ms xs a w s) ?_)⟩;intro e a' w' hp;cases e<;>first
   |exact hp.elim
   |exact hp
 |no=>
  refine⟨_,k,h1,fun M0 ρ0 w0 M ρ ms xs a w s=>WP.seq (WP.mono (h2 M0 ρ0 w0 M ρ ms xs a w s) ?_)⟩;intro e a' w' hp;cases e<;>first
   |exact hp.elim
   |exact hp
theorem zba.block (h:zba P T r hs x t H (zks id Q)):zba P T r hs (.block id x) t H Q:=by
  obtain⟨o,k,h1,h2⟩:=h
  have key:∀o2,(∀(M0:Mem) (ρ0:Ren) (w0:World) (M:Mem) (ρ:Ren) (xs:List HE) e a' w',ziH T M0 ρ0 w0 M ρ xs o k e a' w'→Exit.inBlock id (ziH T M0 ρ0 w0 M ρ xs o2 k) e a' w')→Q o2 k→zba P T r hs (.block id x) t H Q:=
    fun o2 hq hQ=>⟨o2,k,hQ,fun M0 ρ0 w0 M ρ ms xs a w s=>WP.block (WP.mono (h2 M0 ρ0 w0 M ρ ms xs a w s) (hq M0 ρ0 w0 M ρ xs))⟩
  cases o with
  | exit j t1 H1=>
    simp only[zks]at h1
    by_cases e:j=id
    · rw [if_pos e]at h1
      refine key _ ?_ h1
      intro M0 ρ0 w0 M ρ xs ex a' w' hp
      cases ex<;>first
        |exact hp.elim
        | (obtain⟨e2,hp⟩:=hp
           simp only[Exit.inBlock]
           rw[if_pos (e2.trans e)]
           exact hp)
    · rw [if_neg e]at h1
      refine key _ ?_ h1
      intro M0 ρ0 w0 M ρ xs ex a' w' hp
      cases ex<;>first
        |exact hp.elim
        | (simp only[Exit.inBlock]
           rw[if_neg (fun q=>e (hp.1.symm.trans q))]
           exact hp)
  | norm t1 H1=>
    refine key _ ?_ h1
    intro M0 ρ0 w0 M ρ xs ex a' w' hp
    cases ex<;>first
      |exact hp.elim
      |exact hp
  | ret t1 H1=>
    refine key _ ?_ h1
    intro M0 ρ0 w0 M ρ xs ex a' w' hp
    cases ex<;>first
      |exact hp.elim
      |exact hp
  | pan v t1 H1=>
    refine key _ ?_ h1
    intro M0 ρ0 w0 M ρ xs ex a' w' hp
    cases ex<;>first
      |exact hp.elim
      |exact hp
  | no =>
    refine key _ ?_ h1
    intro M0 ρ0 w0 M ρ xs ex a' w' hp
    cases ex<;>first
      |exact hp.elim
      |exact hp
theorem zba.cond {g:Operand}{b:Bool}{o:Option V}(hg:ev1 t.get g=o)(ho:o=some (.b b))(h1:b=true→zba P T r hs x t H Q)(h2:b=false→zba P T r hs y t H Q):zba P T r hs (.cond g x y) t H Q:=by
 subst ho;have hv:∀{M:Mem}{ρ:Ren}{a:Act},zaS M ρ t a.tmps→a.eval g=.bool b:=fun ht=>by
  have:=zas ht.2 hg;simpa only[rel]using this
 cases b with
 |true=>
  obtain⟨o,k,ho,hx⟩:=h1 rfl;exact⟨o,k,ho,fun M0 ρ0 w0 M ρ ms xs a w s=>WP.cond (hv s.tm) (by simpa using hx M0 ρ0 w0 M ρ ms xs a w s)⟩
 |false=>
  obtain⟨o,k,ho,hx⟩:=h2 rfl;exact⟨o,k,ho,fun M0 ρ0 w0 M ρ ms xs a w s=>WP.cond (hv s.tm) (by simpa using hx M0 ρ0 w0 M ρ ms xs a w s)⟩
theorem zjU.round (h:zba P T r hs c t H (zlG P T r c Q)):zjU P T r hs c t H Q:=by
 obtain⟨o,k,h1,h2⟩:=h;cases o with
 |norm t1 H1=>
  obtain⟨o2,k2,h3,m,h4⟩:=h1;refine⟨o2,k2,h3,m+1,fun M0 ρ0 w0 M ρ ms xs a w s=>?_⟩;refine WP.mono (h2 M0 ρ0 w0 M ρ ms xs a w s) ?_;intro e a' w' hp;cases e with
  |normal=>
   obtain⟨M',ρ',ms',q1,q2,s'⟩:=hp;have:=h4 M0 ρ0 w0 M' ρ' ms' xs a' w' s';exact zch.mono (fun e2 a2 w2 hp2=>hp2.later q1 q2) m a' w' this
  |_=>exact hp.elim
 |exit j t1 H1=>
  refine⟨_,k,h1,1,fun M0 ρ0 w0 M ρ ms xs a w s=>WP.mono (h2 M0 ρ0 w0 M ρ ms xs a w s) ?_⟩;intro e a' w' hp;cases e<;>first
   |exact hp.elim
   |exact hp
 |ret t1 H1=>
  refine⟨_,k,h1,1,fun M0 ρ0 w0 M ρ ms xs a w s=>WP.mono (h2 M0 ρ0 w0 M ρ ms xs a w s) ?_⟩;intro e a' w' hp;cases e<;>first
   |exact hp.elim
   |exact hp
 |pan v t1 H1=>
  refine⟨_,k,h1,1,fun M0 ρ0 w0 M ρ ms xs a w s=>WP.mono (h2 M0 ρ0 w0 M ρ ms xs a w s) ?_⟩;intro e a' w' hp;cases e<;>first
   |exact hp.elim
   |exact hp
 |no=>
  refine⟨_,k,h1,1,fun M0 ρ0 w0 M ρ ms xs a w s=>WP.mono (h2 M0 ρ0 w0 M ρ ms xs a w s) ?_⟩;intro e a' w' hp;cases e<;>first
   |exact hp.elim
   |exact hp
theorem zba.loop (h:zjU P T r hs c t H Q):zba P T r hs (.loop c) t H Q:=by
 obtain⟨o,k,h1,m,h2⟩:=h;exact⟨o,k,h1,fun M0 ρ0 w0 M ρ ms xs a w s=>WP.loop m (h2 M0 ρ0 w0 M ρ ms xs a w s)⟩
end
open Go Go.RowKit
noncomputable def zhN (t:Tm):List Nat→List V→Tm
 |p::ps,v::vs=>zhN (t.put (some p) v) ps vs
 |_,_=>t
section
variable {P:Program}{T:Tab}{M0 M M':Mem}{ρ0 ρ ρ':Ren}{w0 w w':World}{ms:List Nat}{t t':Tm}{H H':zaa}{hs hs' xs:List HE}{a a':Act}{r:Option Nat}{c x y:Code}{id:Nat}{Q:Out→List HE→Prop}
theorem zeN:∀(ps:List Nat) (vs:List V) (args:List Value) (t:Tm) (ts:Array Value),zaS M ρ t ts→relL M ρ vs args→(∀p∈ps,p<t.wid) →
    zaS M ρ (zhN t ps vs) ((ps.zip args).foldl (fun(tmps:Array Value)(x:Nat×Value)=>tmps.setIfInBounds x.1 x.2) ts)
  | [],vs,args,t,ts,h,_,_=>by simpa[zhN]using h
  | p::ps,[],args,t,ts,h,hr,_=>by
    simp only[relL]at hr
    subst hr
    simpa[zhN]using h
  | p::ps,v::vs,args,t,ts,h,hr,hp=>by
    simp only[relL]at hr
    obtain⟨x,r,rfl,hx,hr⟩:=hr
    simp only[zhN,List.zip_cons_cons,List.foldl_cons]
    refine zeN ps vs r _ _ (zbu (a:={tmps:=ts,defers:=[]}) h hx (some p) ?_) hr (fun q hq=>by rw[Tm.wid_put];exact hp q (jYb _ hq))
    have:=hp p (by simp)
    simp only[Tm.fits]
    rw[Nat.blt_eq];exact this
theorem zkm (params:Array Nat)(args:List Value)(ts:Array Value):(params.zip args.toArray).foldl (fun tmps (x:Nat×Value)=>match x with|(t,a)=>tmps.setIfInBounds t a) ts=(params.toList.zip args).foldl (fun(tmps:Array Value)(x:Nat×Value)=>tmps.setIfInBounds x.1 x.2) ts:=by
 rw[←Array.foldl_toList,Array.toList_zip]
theorem StX.turn {e:HE}(o':Obj)(h:StX T M0 ρ0 w0 M ρ ms t H (e::hs) a w):StX T M0 ρ0 w0 M ρ ms t H ({e with o:=o'}::hs) a (w.putObj e.l o'):=by
 obtain⟨h1,h2,h3⟩:=h.hid e (by simp);have hnd:=h.nd;rw[jJb,List.nodup_append]at hnd;obtain⟨n1,n2,n3⟩:=hnd;rw[List.nodup_cons]at n2;refine⟨zlz h.ext h1,zrd h.sr h2,h.tm,?_,h.defs,?_,?_⟩
 ·intro f hf;rcases jOb.1 hf with rfl|hf
  ·exact⟨h1,h2.put o',h3⟩
  ·obtain⟨k1,k2,k3⟩:=h.hid f (by simp[hf]);refine⟨k1,k2.other ?_,k3⟩;intro e2;exact n2.1 (e2▸jHd hf)
 ·intro D hD;obtain⟨k1,k2⟩:=h.marks D hD;exact⟨k1,k2.other (n3 D hD e.l (by simp))⟩
 ·simpa using h.nd
noncomputable def mE (D:Nat):HE:=⟨D,.deferred (some []),Tm.init 0 [],#[]⟩
theorem zcC:zaS M ρ (Tm.init 0 []) #[]:=zde
theorem zAw (ms:List Nat):(ms.map mE).map HE.l=ms:=by
 induction ms with
 |nil=>rfl
 |cons D ms ih=>simp[mE,ih]
theorem StX.down (h:StX T M0 ρ0 w0 M ρ ms t H hs a w)(ht:zaS M ρ t' a'.tmps)(hd:a'.defers=[]):StX T M0 ρ0 w0 M ρ [] t' H (hs++ms.map mE) a' w:=by
 refine⟨h.ext,h.sr,ht,?_,by simpa using hd,by simp,?_⟩
 ·intro e he;rcases jKd.1 he with he|he
  ·exact h.hid e he
  ·obtain⟨D,hD,rfl⟩:=jZc.1 he;exact⟨(h.marks D hD).1,(h.marks D hD).2,zcC⟩
 ·rw[jFa,jPd,zAw];exact(List.perm_append_comm.nodup_iff).1 h.nd
theorem StX.up {ms2:List Nat}(h:StX T M0 ρ0 w0 M ρ ms2 t H (hs++ms.map mE) a w)(ht:zaS M ρ t' a'.tmps)(hd:a'.defers=ms.map mark):StX T M0 ρ0 w0 M ρ ms t' H hs a' w:=by
 refine⟨h.ext,h.sr,ht,fun e he=>h.hid e (List.mem_append_left _ he),hd,fun D hD=>?_,?_⟩
 ·obtain⟨k1,k2,_⟩:=h.hid (mE D) (jQd _ (jHd hD));exact⟨k1,k2⟩
 ·have:=h.nd;rw[jPd,zAw,List.nodup_append]at this;exact(List.perm_append_comm.nodup_iff).1 this.2.1
theorem StX.sub {k:List HE}(h:StX T M0 ρ0 w0 M ρ ms t H (k++hs) a w):StX T M0 ρ0 w0 M ρ ms t H hs a w:=by
 refine⟨h.ext,h.sr,h.tm,fun e he=>h.hid e (jQd _ he),h.defs,h.marks,?_⟩;have:=h.nd;rw[jPd]at this;rw[List.nodup_append]at this ⊢;obtain⟨n1,n2,n3⟩:=this;rw[List.nodup_append]at n2;exact⟨n1,n2.2.1,fun a ha b hb=>n3 a ha b (jQd _ hb)⟩
theorem zkj (hT:TOk P T){call:zad}(hcall:call.Sound P T)(ops:Array Oper){r:Option Nat}{n:Nat}{Q:Exit→Act→World→Prop}{l:List Oper}{t:Tm}{H:zaa}{a:Act}{w:World}{M:Mem}{ρ:Ren}{t':Tm}{H':zaa}(hS:SR T M ρ H w)(ht:zaS M ρ t a.tmps)
 (hnd:∀o∈l,∀c,o.op≠.defer c)(h:zaK (zb7 T call) ops l t H=.norm t' H')
 (k:∀a' w' M' ρ',Ext M ρ w M' ρ' w'→zaS M' ρ' t' a'.tmps→SR T M' ρ' H' w'→a'.defers=a.defers→Q .normal a' w'):wpListIn (FR r) n P ops Q l a w:=by
 have:=zcd hT hcall ops (r:=r) (n:=n) (Q:=Q) [] l t H a w M ρ t' H' hS ht hnd h k;rwa [jWb]at this
noncomputable def zzw (T:Tab)(call:zad)(ops:Array Oper)(q:Nat)(o:Oper)(t1:Tm)(l:Nat)(rec:Loop)(t0:Tm)(Q:Out→List HE→Prop):Out→List HE→Prop:=fun o2 hs4=>
 ∃hs5,hs4=⟨l,.loop {rec with state:=.busy},t0,rec.tmps⟩::hs5∧∃(j:Option Code)(HB:zaa),(match o2 with
  | .norm _ H=>j=none∧HB=H
  | .ret _ H=>j=some .ret∧HB=H
  | .exit id _ H=>j=some (.exit id)∧HB=H
  |_=>False)∧∃t2 H2,zaK (zb7 T call) ops (ops.toList.drop (q+1)) (t1.put o.dst (.b j.isNone)) HB=.norm t2 H2∧Q (.norm t2 H2) (⟨l,.loop {rec with state:=if j.isNone then .ready else .done,pending:=j},t0,rec.tmps⟩::hs5)
theorem zrv {r:Option Nat}{n l k:Nat}{o:Oper}{K:Act→World→Prop}{Q:Exit→Act→World→Prop}{c:Call}{t:Tm}{vs:List V}{rec:Loop}(ht:zaS M ρ t a.tmps)
 (ho:o.op=.call c)(hc:c.callee=.value (.tmp k))(hk:t.get k=.yld l)(hvs:evs t.get c.args.toList=some vs)(hl:w.heap[l]? = some (.loop rec))(hlen:vs.length=rec.params.size)
 (h:∀args:List Value,relL M ρ vs args→RoundIn (FR r) (n-1) P l rec.fn ((rec.params.zip args.toArray).foldl (fun tmps (t,a)=>tmps.setIfInBounds t a) rec.tmps) rec.assign rec.body w fun e w'=>match e with | .panicked ch=>Q (.panic ch) a w'|_=>False):o.wpIn (FR r) n P a w K Q:=by
 have hv:=ht.2 k;rw[hk]at hv;simp only[rel]at hv;have hrel:=zeI ht.2 hvs;have hsz:(c.args.map a.eval).size=rec.params.size:=by
  have:=zam hrel;simp at this;simp[this,←hlen]
 refine⟨fun f _=>trivial,?_⟩;rw[Oper.semAt_eq _ _ _ (fun c' e=>by rw[ho]at e;cases e)];have hy:=run_yield (P:=P) (args:=c.args.map a.eval) hl hsz;have hexec:(execOp a.eval o).run P w=.ok (.round l rec.fn ((rec.params.zip (c.args.map a.eval)).foldl (fun tmps (t,a)=>tmps.setIfInBounds t a) rec.tmps) rec.assign rec.body) w:=by
  have h1:a.eval (.tmp k)=.func (.yield l) #[] #[]:=hv;simp[execOp,ho,resolve,hc,h1,Deferred.ofValue,invoke,hy]
 rw[hexec,Oper.uponIn_round];refine⟨fun e=>(by cases e),?_⟩;have:=h (c.args.toList.map a.eval) hrel;have e2:(c.args.toList.map a.eval).toArray=c.args.map a.eval:=by apply jWc;simp
 rw[e2]at this;refine this.mono fun e w' he=>?_;cases e with
 |returned v=>exact he.elim
 |panicked chain=>exact he
 |outgrown=>exact he.elim
theorem StX.take {D:Nat}(h:StX T M0 ρ0 w0 M ρ (D::ms) t H hs a w)(hd:a'.defers=ms.map mark)(ht:a'.tmps=a.tmps):StX T M0 ρ0 w0 M ρ ms t H hs a' (w.putObj D (.deferred none)):=by
 obtain⟨k1,k2⟩:=h.marks D (by simp);have hnd:=h.nd;rw[jEa,List.nodup_cons]at hnd;refine⟨zlz h.ext k1,zrd h.sr k2,ht▸h.tm,?_,hd,?_,hnd.2⟩
 ·intro e he;obtain⟨j1,j2,j3⟩:=h.hid e he;refine⟨j1,j2.other ?_,j3⟩;intro e2;exact hnd.1 (jQd _ (e2▸jHd he))
 ·intro D' hD';obtain⟨j1,j2⟩:=h.marks D' (by simp[hD']);refine⟨j1,j2.other ?_⟩;intro e2;exact hnd.1 (List.mem_append_left _ (e2▸hD'))
theorem zeK {n:Nat} {fn:Func} {ts:Array Value} {ch:List PanicEntry} {R:Ending→World→Prop} {hs:List HE}:∀(ms:List Nat) (a:Act) (w:World),StX T M0 ρ0 w0 M ρ ms (Tm.init 0 []) H hs a w →
    (∀a' w',StX T M0 ρ0 w0 M ρ [] (Tm.init 0 []) H hs a' w'→R (.panicked ch) w')→LeavesInM Fence.wide n P fn ts R a.defers (.panicking ch) w
  | [],a,w,s,k=>by
    rw[s.defs]
    exact k _ _ s
  | D::ms,a,w,s,k=>by
    have kD:=s.marks D (by simp)
    have ih:=zeK (n:=n) (fn:=fn) (ts:=ts) (ch:=ch) (R:=R) ms {a with defers:=ms.map mark} _ (s.take rfl rfl) k
    rw[s.defs]
    exact⟨by simp,.inl ⟨D,_,rfl,run_takeDeferred kD.2.at_,ih⟩⟩
theorem zba.yield (hT:TOk P T) {call:zad} (hC:call.Sound P T) {ops:Array Oper} (hnd:zhb ops=true) (q:Nat) {j l:Nat} {ops2:List Operand} {vs:List V} {o:Oper} {rec:Loop} {t0 t1:Tm} {H1:zaa} {hs1:List HE} {ps:Array Nat} {asg body:Code} (hP:rec.params=ps) (hA:rec.assign=asg) (hB:rec.body=body)
    (hops:ops.toList=ops.toList.take q++o::ops.toList.drop (q+1))(h1:zaK (zb7 T call) ops (ops.toList.take q) t H=.norm t1 H1)(hg:zaD ops o t1.get=some true)(ho:ziL o=some (j,ops2))(hj:t1.get j=.yld l)(hvs:evs t1.get ops2=some vs)
    (hfn:∃f,P.funcs[rec.fn]? = some f)(hlen:vs.length=ps.size)(hst:rec.state=.ready)(hfit:t1.fits o.dst=true)(hps:∀p∈ps.toList,p<t0.wid)
    (hround:zba P T (some l) (⟨l,.loop rec,t0,rec.tmps⟩::hs1) asg (zhN t0 ps.toList vs) H1 fun o1 hs2=>∃tA HA hs3,o1=.norm tA HA∧hs2=⟨l,.loop rec,t0,rec.tmps⟩::hs3 ∧
      zba P T (some l) (⟨l,.loop {rec with state:=.busy},t0,rec.tmps⟩::hs3) body tA HA (zzw T call ops q o t1 l rec t0 Q)) :
    zba P T r (⟨l,.loop rec,t0,rec.tmps⟩::hs1) (.region id ops false) t H Q:=by
  subst hP hA hB
  obtain⟨o1,hs2,⟨tA,HA,hs3,rfl,rfl,o2,hs4,⟨hs5,rfl,jm,HB,hm,t2,H2,he2,hQ⟩,hbody⟩,hasg⟩:=hround
  refine⟨_,_,hQ,fun M0 ρ0 w0 M ρ ms xs a w s=>WP.of 0 (wpIn_region_list ?_)⟩
  rw[hops]
  refine zcd hT hC ops (o::ops.toList.drop (q+1)) (ops.toList.take q) t H a w M ρ _ _ s.sr s.tm (fun o' ho'=>zcB hnd o' (List.mem_of_mem_take ho')) h1 ?_
  intro a1 w1 M1 ρ1 e1 ht1 hS1 hd1
  have s1:=s.step e1 ht1 hS1 hd1
  obtain⟨c,k1,k2,k3⟩:=zhT ho
  unfold wpListIn
  rw[za8 ht1.2 hg]
  simp only[if_true]
  have hE:=s1.hid ⟨l,.loop rec,t0,rec.tmps⟩ (by simp)
  refine ztA ht1 k1 k2 hj (by rw[k3];exact hvs) hE.2.1.at_ hlen ?_
  intro args hargs
  refine WP.round hfn ?_
  have hfold:zaS M1 ρ1 (zhN t0 rec.params.toList vs) ((rec.params.zip args.toArray).foldl (fun tmps (x:Nat×Value)=>match x with|(t,a)=>tmps.setIfInBounds t a) rec.tmps):=by
    rw[zkm]
    exact zeN _ _ _ _ _ hE.2.2 hargs hps
  have sA:=s1.down (t':=zhN t0 rec.params.toList vs) (a':={tmps:=(rec.params.zip args.toArray).foldl (fun tmps (x:Nat×Value)=>match x with|(t,a)=>tmps.setIfInBounds t a) rec.tmps,defers:=[]}) hfold rfl
  rw[jEb]at sA
  refine WP.mono (hasg M0 ρ0 w0 M1 ρ1 [] (xs++ms.map mE) _ w1 sA) ?_
  intro e a2 w2 hp
  cases e with
  | normal=>
    obtain⟨M2,ρ2,ms2,q1,q2,sB⟩:=hp
    rw[jEa]at sB
    have hE2:=sB.hid ⟨l,.loop rec,t0,rec.tmps⟩ (by simp)
    refine⟨_,run_beginRound hE2.2.1.at_ hst,?_⟩
    have sC:=sB.turn (.loop {rec with state:=.busy})
    refine WP.mono (hbody M0 ρ0 w0 M2 ρ2 ms2 (xs++ms.map mE) a2 _ (by rw[jEa];exact sC)) ?_
    intro e3 a3 w3 hp3
    have fin:∀(jm':Option Code) (tB:Tm),jm'=jm→zdN T M0 ρ0 w0 M2 ρ2 tB HB (⟨l,.loop {rec with state:=.busy},t0,rec.tmps⟩::hs5++(xs++ms.map mE)) a3 w3 →
        ∃v w',(Instr.endRound l jm').run P w3=.ok v w'∧(match(Ending.returned v:Ending)with | .returned v=>wpListIn (FR r) 0 P ops (ziH T M0 ρ0 w0 M ρ xs (.norm t2 H2) (⟨l,.loop {rec with state:=if jm.isNone then .ready else .done,pending:=jm},t0,rec.tmps⟩::hs5)) (ops.toList.drop (q+1)) (a1.put o.dst v) w'|_=>False):=by
      intro jm' tB ej hb
      subst ej
      obtain⟨M3,ρ3,ms3,q3,q4,sD⟩:=hb
      rw[jEa]at sD
      have hE3:=sD.hid ⟨l,.loop {rec with state:=.busy},t0,rec.tmps⟩ (by simp)
      refine⟨_,_,run_endRound jm' hE3.2.1.at_,?_⟩
      have sE:=sD.turn (.loop {rec with state:=if jm'.isNone then .ready else .done,pending:=jm'})
      rw[←jEa,←jEb]at sE
      have hmem:=(q1.trans q3)
      have hpre:=(q2.trans q4)
      have htm:zaS M3 ρ3 (t1.put o.dst (.b jm'.isNone)) (a1.put o.dst (.bool jm'.isNone)).tmps:=zbu (za0 hmem hpre ht1) (by simp only[rel]) o.dst hfit
      have sF:=sE.up (a':=a1.put o.dst (.bool jm'.isNone)) htm (by rw[zau];exact s1.defs)
      refine zkj hT hC ops sF.sr sF.tm (fun o' ho'=>zcB hnd o' (List.mem_of_mem_drop ho')) he2 ?_
      intro a4 w4 M4 ρ4 e4 ht4 hS4 hd4
      exact⟨M4,ρ4,ms,(e1.mem.trans hmem).trans e4.mem,(e1.pre.trans hpre).trans e4.pre,sF.step e4 ht4 hS4 hd4⟩
    cases o2<;>cases e3<;>first
      |exact hp3.elim
      |exact hm.elim
      | (obtain⟨rfl,rfl⟩:=hm
         exact fin _ _ rfl hp3)
      | (obtain⟨rfl,rfl⟩:=hm
         obtain⟨rfl,hp3⟩:=hp3
         exact fin _ _ rfl hp3)
  |_=>exact hp.elim
theorem zba.yieldP (hT:TOk P T){call:zad}(hC:call.Sound P T){ops:Array Oper}(hnd:zhb ops=true)(q:Nat){j l:Nat}{ops2:List Operand}{vs:List V}{o:Oper}{rec:Loop}{t0 t1:Tm}{H1:zaa}{hs1:List HE}{ps:Array Nat}{asg body:Code}(hP:rec.params=ps)(hA:rec.assign=asg)(hB:rec.body=body)
 (hops:ops.toList=ops.toList.take q++o::ops.toList.drop (q+1))(h1:zaK (zb7 T call) ops (ops.toList.take q) t H=.norm t1 H1)(hg:zaD ops o t1.get=some true)(ho:ziL o=some (j,ops2))(hj:t1.get j=.yld l)(hvs:evs t1.get ops2=some vs)
 (hfn:∃f,P.funcs[rec.fn]? = some f)(hlen:vs.length=ps.size)(hst:rec.state=.ready)(hps:∀p∈ps.toList,p<t0.wid)
 (hround:zba P T (some l) (⟨l,.loop rec,t0,rec.tmps⟩::hs1) asg (zhN t0 ps.toList vs) H1 fun o1 hs2=>∃tA HA hs3,o1=.norm tA HA∧hs2=⟨l,.loop rec,t0,rec.tmps⟩::hs3 ∧
  zba P T (some l) (⟨l,.loop {rec with state:=.busy},t0,rec.tmps⟩::hs3) body tA HA fun o2 hs4=>∃(v:V)(tB:Tm)(HB:zaa)(hs5:List HE),o2=.pan v tB HB∧hs4=⟨l,.loop {rec with state:=.busy},t0,rec.tmps⟩::hs5∧Q (.pan v t1 HB) (⟨l,.loop {rec with state:=.busy},t0,rec.tmps⟩::hs5)) :
 zba P T r (⟨l,.loop rec,t0,rec.tmps⟩::hs1) (.region id ops false) t H Q:=by
 subst hP hA hB;obtain⟨o1,hs2,⟨tA,HA,hs3,rfl,rfl,o2,hs4,⟨v,tB,HB,hs5,rfl,rfl,hQ⟩,hbody⟩,hasg⟩:=hround;refine⟨_,_,hQ,fun M0 ρ0 w0 M ρ ms xs a w s=>WP.of 0 (wpIn_region_list ?_)⟩;rw[hops];refine zcd hT hC ops (o::ops.toList.drop (q+1)) (ops.toList.take q) t H a w M ρ _ _ s.sr s.tm (fun o' ho'=>zcB hnd o' (List.mem_of_mem_take ho')) h1 ?_;intro a1 w1 M1 ρ1 e1 ht1 hS1 hd1;have s1:=s.step e1 ht1 hS1 hd1;obtain⟨c,k1,k2,k3⟩:=zhT ho;unfold wpListIn;rw[za8 ht1.2 hg];simp only[if_true];have hE:=s1.hid ⟨l,.loop rec,t0,rec.tmps⟩ (by simp);refine zrv ht1 k1 k2 hj (by rw[k3];exact hvs) hE.2.1.at_ hlen ?_;intro args hargs;refine WP.round hfn ?_;have hfold:zaS M1 ρ1 (zhN t0 rec.params.toList vs) ((rec.params.zip args.toArray).foldl (fun tmps (x:Nat×Value)=>match x with|(t,a)=>tmps.setIfInBounds t a) rec.tmps):=by
  rw[zkm];exact zeN _ _ _ _ _ hE.2.2 hargs hps
 have sA:=s1.down (t':=zhN t0 rec.params.toList vs) (a':={tmps:=(rec.params.zip args.toArray).foldl (fun tmps (x:Nat×Value)=>match x with|(t,a)=>tmps.setIfInBounds t a) rec.tmps,defers:=[]}) hfold rfl;rw[jEb]at sA;refine WP.mono (hasg M0 ρ0 w0 M1 ρ1 [] (xs++ms.map mE) _ w1 sA) ?_;intro e a2 w2 hp;cases e with
 |normal=>
  obtain⟨M2,ρ2,ms2,q1,q2,sB⟩:=hp;rw[jEa]at sB;have hE2:=sB.hid ⟨l,.loop rec,t0,rec.tmps⟩ (by simp);refine⟨_,run_beginRound hE2.2.1.at_ hst,?_⟩;have sC:=sB.turn (.loop {rec with state:=.busy});refine WP.mono (hbody M0 ρ0 w0 M2 ρ2 ms2 (xs++ms.map mE) a2 _ (by rw[jEa];exact sC)) ?_;intro e3 a3 w3 hp3;have hp4:ziH T M0 ρ0 w0 M2 ρ2 (xs++ms.map mE) (.pan v tB HB) (⟨l,.loop {rec with state:=.busy},t0,rec.tmps⟩::hs5) e3 a3 w3:=hp3;cases e3 with
  |panic ch=>
   obtain⟨x,M3,ρ3,ms3,rfl,q3,q4,hx,sD⟩:=hp4;have sE:StX T M0 ρ0 w0 M3 ρ3 ms3 (Tm.init 0 []) HB (((⟨l,.loop {rec with state:=.busy},t0,rec.tmps⟩::hs5)++xs)++ms.map mE) {tmps:=#[],defers:=a3.defers} w3:=by rw[jEb];exact sD
   have hd3:a3.defers=ms3.map mark:=sD.defs;refine⟨fun d hd=>?_,fun fn=>?_⟩
   ·rw[hd3]at hd;obtain⟨D,_,rfl⟩:=jZc.1 hd;exact⟨D,rfl⟩
   ·show LeavesInM Fence.wide 0 P fn a3.tmps _ ({tmps:=#[],defers:=a3.defers}:Act).defers _ w3;refine zeK ms3 _ w3 sE fun a' w' s'=>?_;have hmem:=q1.trans q3;have hpre:=q2.trans q4;exact⟨x,M3,ρ3,ms,rfl,e1.mem.trans hmem,e1.pre.trans hpre,hx,s'.up zde s1.defs⟩
  |_=>exact hp4.elim
 |_=>exact hp.elim
end
open Go Go.RowKit
section
variable {P:Program}{T:Tab}{M0 M M':Mem}{ρ0 ρ ρ':Ren}{w0 w w':World}{ms:List Nat}{t t':Tm}{H H':zaa}{hs hs' xs:List HE}{a a':Act}{r:Option Nat}{c x y:Code}{id:Nat}{Q:Out→List HE→Prop}
def zue (T:Tab)(M0:Mem)(ρ0:Ren)(w0:World)(M:Mem)(ρ:Ren)(v:V)(H:zaa)(hs:List HE)(e:Ending)(w':World):Prop:=
 ∃x M' ρ',e=.returned x∧M.le M'∧ρ <+: ρ'∧rel M' ρ' v x∧StX T M0 ρ0 w0 M' ρ' [] (Tm.init 0 []) H hs {tmps:=#[],defers:=[]} w'
theorem zfZ (hT:TOk P T) {fn:Func} {v:V} (hf:zaZ T fn t.get H=.val v H) (h1:M.le M') (h2:ρ <+: ρ'):∀(ms:List Nat) (a:Act) (w:World),StX T M0 ρ0 w0 M' ρ' ms t H hs a w →
    LeavesInM Fence.wide 0 P fn a.tmps (zue T M0 ρ0 w0 M ρ v H hs) a.defers .returning w
  | [],a,w,s=>by
    rw[s.defs]
    obtain⟨_,x,hx,hr⟩:=za3 hT s.sr s.tm.2 hf
    exact⟨x,hx,x,M',ρ',rfl,h1,h2,hr,⟨s.ext,s.sr,zcC,s.hid,rfl,by simp,s.nd⟩⟩
  | D::ms,a,w,s=>by
    have k:=s.marks D (by simp)
    have ih:=zfZ hT hf h1 h2 ms {a with defers:=ms.map mark} _ (s.take rfl rfl)
    rw[s.defs]
    exact⟨by simp,.inl ⟨D,_,rfl,run_takeDeferred k.2.at_,ih⟩⟩
theorem zey (hT:TOk P T){f:FuncId}{fn:Func}{vs:List V}{args:List Value}{o:Out}{v:V}(hf:P.funcs[f]? = some fn)(hb:fn.body=some c)(hle:vs.length≤fn.ntmps)
 (h:zug P T none hs c (Tm.init fn.ntmps vs) H o hs')(ho:(∃tI,(o=.norm tI H'∨o=.ret tI H')∧zaZ T fn tI.get H'=.val v H'))(hr:relL M ρ vs args)
 (s:StX T M0 ρ0 w0 M ρ [] t H (hs++xs) a w):CallsIn Fence.wide 0 P f args.toArray w (zue T M0 ρ0 w0 M ρ v H' (hs'++xs)):=by
 obtain⟨tI,ho,hfin⟩:=ho;refine zgC hf hb ?_;have ht0:=zbr (M:=M) (ρ:=ρ) hr hle;refine WP.mono (h M0 ρ0 w0 M ρ [] xs _ w ⟨s.ext,s.sr,ht0,s.hid,rfl,by simp,s.nd⟩) ?_;intro e a' w' hp;have key:zdN T M0 ρ0 w0 M ρ tI H' (hs'++xs) a' w'→LeavesInM Fence.wide 0 P fn a'.tmps (zue T M0 ρ0 w0 M ρ v H' (hs'++xs)) a'.defers .returning w':=by
  rintro⟨M',ρ',ms,h1,h2,s'⟩;exact zfZ hT hfin h1 h2 ms a' w' s'
 rcases ho with rfl|rfl
 ·cases e<;>first
   |exact hp.elim
   |exact key hp
 ·cases e<;>first
   |exact hp.elim
   |exact key hp
def zwI (T:Tab)(M0:Mem)(ρ0:Ren)(w0:World)(M:Mem)(ρ:Ren)(v:V)(H:zaa)(hs:List HE)(e:Ending)(w':World):Prop:=
 ∃x M' ρ',e=.panicked [{v:=x,recovered:=false}]∧M.le M'∧ρ <+: ρ'∧rel M' ρ' v x∧StX T M0 ρ0 w0 M' ρ' [] (Tm.init 0 []) H hs {tmps:=#[],defers:=[]} w'
theorem zex {f:FuncId}{fn:Func}{vs:List V}{args:List Value}{tI:Tm}{v:V}(hf:P.funcs[f]? = some fn)(hb:fn.body=some c)(hle:vs.length≤fn.ntmps)
 (h:zug P T none hs c (Tm.init fn.ntmps vs) H (.pan v tI H') hs')(hr:relL M ρ vs args)(s:StX T M0 ρ0 w0 M ρ [] t H (hs++xs) a w):CallsIn Fence.wide 0 P f args.toArray w (zwI T M0 ρ0 w0 M ρ v H' (hs'++xs)):=by
 refine zgC hf hb ?_;have ht0:=zbr (M:=M) (ρ:=ρ) hr hle;refine WP.mono (h M0 ρ0 w0 M ρ [] xs _ w ⟨s.ext,s.sr,ht0,s.hid,rfl,by simp,s.nd⟩) ?_;intro e a' w' hp;cases e with
 |panic ch=>
  obtain⟨x,M',ρ',ms,rfl,h1,h2,hx,s'⟩:=hp;show LeavesInM Fence.wide 0 P fn a'.tmps _ ({tmps:=#[],defers:=a'.defers}:Act).defers _ w';refine zeK ms _ w' s' fun a2 w2 s2=>?_;exact⟨x,M',ρ',rfl,h1,h2,hx,⟨s2.ext,s2.sr,zde,s2.hid,rfl,by simp,by simpa using s2.nd⟩⟩
 |_=>exact hp.elim
def HLe (H2 H:zaa):Prop:=H2.length=H.length∧∀(i:Nat)(b:Blk),H2[i]? = some (some b)→H[i]? = some (some b)
theorem HLe.refl (H:zaa):HLe H H:=⟨rfl,fun _ _ h=>h⟩
theorem SR.less {H2:zaa}(h:HLe H2 H)(hS:SR T M ρ H w):SR T M ρ H2 w where
 frozen:=hS.frozen
 len:=hS.len.trans h.1.symm
 blk n b hn:=hS.blk n b (h.2 n b hn)
 inj n m x y b c c' h1 h2:=hS.inj n m x y b c c' (h.2 n x h1) (h.2 m y h2)
 glob:=hS.glob
 gint:=hS.gint
theorem StX.less {H2:zaa}(h:HLe H2 H)(s:StX T M0 ρ0 w0 M ρ ms t H hs a w):StX T M0 ρ0 w0 M ρ ms t H2 hs a w:=⟨s.ext,SR.less h s.sr,s.tm,s.hid,s.defs,s.marks,s.nd⟩
def zwJ (T:Tab)(fn:Func)(l:Nat)(ts:Array Value)(t:Tm)(oz:Out)(hsz:List HE):Out→List HE→Prop:=fun o hs'=>
 ∃(rec:Loop)(HI H2:zaa)(v:V),HLe H2 HI∧(∃tI,(o=.norm tI HI∨o=.ret tI HI)∧zaZ T fn tI.get HI=.val v HI)∧hs'=⟨l,.loop rec,t,ts⟩::hsz∧rec.state≠.busy ∧
  ((rec.pending=none∧oz=.norm t H2)∨(rec.pending=some .ret∧oz=.ret t H2)∨∃id,rec.pending=some (.exit id)∧oz=.exit id t H2)
def zoI (T:Tab)(fn:Func)(l:Nat)(ts:Array Value)(t:Tm)(oz:Out)(hsz:List HE):Out→List HE→Prop:=fun o hs'=>
 zwJ T fn l ts t oz hsz o hs'∨∃(rec:Loop)(v:V)(tI:Tm)(HI H2:zaa),HLe H2 HI∧o=.pan v tI HI∧hs'=⟨l,.loop rec,t,ts⟩::hsz∧oz=.pan v t H2
theorem zt8 (hS:SR T M ρ H w)(hH:H.all Option.isSome=true):∀k,w.heap.size≤k→M k=none∧∀c,(k,c)∉ρ:=by
 intro k hk;refine⟨?_,fun c hc=>?_⟩
 ·cases h:M k with
  |none=>rfl
  |some o=>
   have:=hS.frozen k o h;rw[Array.getElem?_eq_none hk]at this;cases this
 ·obtain⟨i,hi⟩:=List.mem_iff_getElem?.1 hc;have hil:i<H.length:=by rw[←hS.len];exact(jGa.1 hi).1
  have h2:=jBb.1 hH _ (List.getElem_mem hil);obtain⟨blk,hb⟩:=Option.isSome_iff_exists.1 h2;obtain⟨b,c',h3,_,h4,_⟩:=hS.blk i blk (by rw[jKa hil,hb]);rw[hi]at h3;cases h3;omega
theorem zba.range (hT:TOk P T){g:Operand}{ps:Array Nat}{assign body cf:Code}{f:FuncId}{caps:List V}{fnf:Func}{gv:Option V}(hg:ev1 t.get g=gv)(hgv:gv=some (.fn f caps))(hf:P.funcs[f]? = some fnf)(hb:fnf.body=some cf)(hent:Go.Proofs.Enters P f)
 (hle:caps.length+1≤fnf.ntmps)(hH:H.all Option.isSome=true){oz:Out}{hsz:List HE}(hQ:Q oz hsz)
 (h:∀(l:Nat)(rec:Loop),(∃f,P.funcs[rec.fn]? = some f)→rec.state=.ready→rec.pending=none→rec.params=ps→rec.assign=assign→rec.body=body→zba P T none (⟨l,.loop rec,t,rec.tmps⟩::hs) cf (Tm.init fnf.ntmps (.yld l::caps)) H (zoI T fnf l rec.tmps t oz hsz)) :
 zba P T none hs (.rangeFunc g ps assign body) t H Q:=by
 subst hgv;refine⟨oz,hsz,hQ,fun M0 ρ0 w0 M ρ ms xs a w s=>WP.range fun fn hfn=>?_⟩;have hv:=zas s.tm.2 hg;simp only[rel]at hv;obtain⟨cs,hcv,hcs⟩:=hv;obtain⟨rec,hrec⟩:∃rec:Loop,rec={state:=.ready,pending:=none,fn,tmps:=a.tmps,params:=ps,assign,body,defers:=w.heap.size}:=⟨_,rfl⟩;obtain⟨l,hl⟩:∃l,w.heap.size+1=l:=⟨_,rfl⟩;obtain⟨W1,hW1⟩:∃W1,(w.alloc (.deferred (some []))).alloc (.loop rec)=W1:=⟨_,rfl⟩;have nun:=zt8 s.sr hH;have hS1:SR T M ρ H W1:=by rw[←hW1];exact zjI (zjI s.sr _) _
 have E1:Ext M ρ w M ρ W1:=by rw[←hW1];exact(zgU _).trans (zgU _)
 have hL:Hid l (.loop rec) M ρ W1:=⟨by
  rw[←hW1,←hl];have:=World.alloc_heap_new (w.alloc (.deferred (some []))) (.loop rec);rwa [World.size_alloc]at this,(nun l (by omega)).1,(nun l (by omega)).2⟩
 have hK:Hid w.heap.size (.deferred (some [])) M ρ W1:=⟨by
  rw[←hW1];exact(Below.heap_alloc _ _ _ (by simp)).trans (World.alloc_heap_new w _),(nun _ (jDb _)).1,(nun _ (jDb _)).2⟩
 have hw0:w0.heap.size≤w.heap.size:=s.ext.size;have s1:StX T M0 ρ0 w0 M ρ [] (Tm.init 0 []) H ((⟨l,.loop rec,t,rec.tmps⟩::hs)++(xs++(w.heap.size::ms).map mE)) {tmps:=#[],defers:=[]} W1:=by
  have s0:=(s.step E1 (za0 E1.mem E1.pre s.tm) hS1 (a':=a) rfl).down (t':=Tm.init 0 []) (a':={tmps:=#[],defers:=[]}) zcC rfl;have old:∀k∈((hs++xs)++ms.map mE).map HE.l,k<w.heap.size:=by
   intro k hk;rw[jZc]at hk;obtain⟨e,he,rfl⟩:=hk;rcases jKd.1 he with he|he
   ·exact(s.hid e he).2.1.lt
   ·obtain⟨D,hD,rfl⟩:=jZc.1 he;exact(s.marks D hD).2.lt
  refine⟨s0.ext,s0.sr,s0.tm,?_,rfl,by simp,?_⟩
  ·intro e he;simp only[jEa,jOb,jKd,jJb]at he;rcases he with rfl|he|he|rfl|he
   ·exact⟨by show w0.heap.size≤l;omega,hL,by rw[hrec];exact s.tm⟩
   ·exact s0.hid e (by simp[he])
   ·exact s0.hid e (by simp[he])
   ·exact⟨hw0,hK,zcC⟩
   ·exact s0.hid e (jQd _ he)
  ·have hn:=s0.nd;simp only[jFa]at hn ⊢;have p1:(((⟨l,.loop rec,t,rec.tmps⟩::hs)++(xs++(w.heap.size::ms).map mE)).map HE.l).Perm (l::w.heap.size::((hs++xs)++ms.map mE).map HE.l):=by
    simp only[jEa,jJb,jPd,mE];refine List.Perm.cons _ ?_;rw[←jEb];exact List.perm_middle
   rw[p1.nodup_iff,List.nodup_cons,List.nodup_cons];refine⟨?_,?_,hn⟩
   ·intro hm;rcases jOb.1 hm with e|hm
    ·omega
    ·have:=old _ hm;omega
   ·intro hm;have:=old _ hm;omega
 refine⟨l,[{target:=.collected w.heap.size,args:=#[]}],W1,{target:=.fn (.func f) cs.toArray,args:=#[.func (.yield l) #[] #[]]},W1,f,
  #[.func (.yield l) #[] #[]]++cs.toArray,W1,?_,?_,?_,?_⟩
 ·rw[←hW1,hrec,←hl];exact run_enterLoop_outer _ _ _ _ _
 ·have hev:a.eval g=.func (.func f) #[] cs.toArray:=hcv;simp[resolve,hev,Deferred.ofValue];rfl
 ·have:=hent (#[.func (.yield l) #[] #[]]++cs.toArray) W1;simpa[invoke]using this
 ·obtain⟨o,hs',hq,hbody⟩:=h l rec (by rw[hrec];exact hfn) (by rw[hrec]) (by rw[hrec]) (by rw[hrec]) (by rw[hrec]) (by rw[hrec]);have hrelI:relL M ρ (.yld l::caps) (.func (.yield l) #[] #[]::cs):=zaw (by simp only[rel]) hcs;have hargs:(#[.func (.yield l) #[] #[]]++cs.toArray:Array Value)=(.func (.yield l) #[] #[]::cs).toArray:=by apply jWc;simp
  rw[hargs];rcases hq with⟨rec',HI,H2,v,hless,hfin,rfl,hbusy,hpend⟩|⟨rec',v,tI,HI,H2,hless,rfl,rfl,rfl⟩;case inr=>
   refine CallsIn.mono (zex hf hb (by simpa using hle) hbody hrelI s1) ?_;rintro e w3 ⟨x,M',ρ',rfl,h1,h2,hx,s3⟩;have s5:StX T M0 ρ0 w0 M' ρ' [] (Tm.init 0 []) HI ((hsz++xs)++(w.heap.size::ms).map mE) {tmps:=#[],defers:=[]} w3:=by
    rw[jEb];exact StX.sub (k:=[_]) s3
   have s6:=s5.up (t':=Tm.init 0 []) (a':={tmps:=#[],defers:={target:=.collected w.heap.size,args:=#[]}::a.defers}) zde (by
    show mark w.heap.size::a.defers=_;rw[s.defs];rfl)
   exact⟨x,M',ρ',_,rfl,h1,h2,hx,s6.less hless⟩
  refine CallsIn.mono (zey hT hf hb (by simpa using hle) hbody hfin hrelI s1) ?_;rintro e w3 ⟨x,M',ρ',rfl,h1,h2,_,s3⟩;rw[jEa]at s3;have hE:=s3.hid ⟨l,.loop rec',t,rec.tmps⟩ (by simp);refine⟨rec'.pending,_,run_endLoop hE.2.1.at_ hbusy,?_⟩;have s4:=s3.turn (.loop {rec' with state:=.exhausted});have s5:StX T M0 ρ0 w0 M' ρ' [] (Tm.init 0 []) HI ((hsz++xs)++(w.heap.size::ms).map mE) {tmps:=#[],defers:=[]} (w3.putObj l (.loop {rec' with state:=.exhausted})):=by
   rw[jEb];exact StX.sub (k:=[_]) s4
  have s6:=s5.up (t':=t) (a':={a with defers:={target:=.collected w.heap.size,args:=#[]}::a.defers}) (za0 h1 h2 s.tm) (by
   show mark w.heap.size::a.defers=_;rw[s.defs];rfl)
  replace s6:=s6.less hless;obtain⟨W4,hW4⟩:∃W4,w3.putObj l (.loop {rec' with state:=.exhausted})=W4:=⟨_,rfl⟩;rw[hW4]at s6;show match rec'.pending with|none=>_|some c=>_
  rw[hW4];rcases hpend with⟨e,rfl⟩|⟨e,rfl⟩|⟨id,e,rfl⟩
  ·rw[e];exact⟨M',ρ',_,h1,h2,s6⟩
  ·rw[e];exact WP.of 0 (wpIn_ret ⟨M',ρ',_,h1,h2,s6⟩)
  ·rw[e];exact WP.of 0 (wpIn_exit ⟨rfl,M',ρ',_,h1,h2,s6⟩)
end
open Go Go.RowKit
section
variable {P:Program}{T:Tab}{F:FuncId}
def ziE (P:Program)(T:Tab)(F:FuncId)(vs:List V)(H:zaa)(R:V→zaa→Prop):Prop:=
 ∃v H',R v H'∧Go.Proofs.Enters P F∧∀(M:Mem)(ρ:Ren)(w:World)(args:List Value),SR T M ρ H w→relL M ρ vs args→zaR P T F args.toArray M ρ w (.val v H')
theorem ziE.mono {vs:List V}{H:zaa}{R R':V→zaa→Prop}(h:ziE P T F vs H R)(hr:∀v H',R v H'→R' v H'):ziE P T F vs H R':=by
 obtain⟨v,H',h1,h2⟩:=h;exact⟨v,H',hr v H' h1,h2⟩
theorem ziD.fact (hT:TOk P T){vs:List V}{H:zaa}{R:V→zaa→Prop}(h:ziD P T F vs H R):ziE P T F vs H R:=znY hT h
theorem zrb (hT:TOk P T) (F:FuncId) (D:Nat→List V→zaa→Prop) (R:List V→zaa→V→zaa→Prop)
    (h:∀k vs H,D k vs H→∀g,zak P T F g→(∀j,j<k→∀us J,D j us J→∃v J',R us J v J'∧g us J=.val v J')→ziE P T F vs H (R vs H))(K:Nat) :
    ∃g,zak P T F g∧∀j,j<K→∀vs H,D j vs H→∃v H',R vs H v H'∧g vs H=.val v H':=by
  classical
  induction K with
  |zero=>exact⟨fun _ _=>.no,fun _ _ _ e hr=>absurd e.symm hr,fun j hj=>absurd hj (jLd j)⟩
  | succ K ih=>
    obtain⟨g,hg,hgs⟩:=ih
    have hx:∀vs H,D K vs H→∃p:V×zaa,R vs H p.1 p.2∧Go.Proofs.Enters P F∧∀(M:Mem) (ρ:Ren) (w:World) (args:List Value),SR T M ρ H w→relL M ρ vs args→zaR P T F args.toArray M ρ w (.val p.1 p.2):=fun vs H hd=>by
      obtain⟨v,H',h1,h2⟩:=h K vs H hd g hg hgs
      exact⟨(v,H'),h1,h2⟩
    refine⟨fun vs H=>if hd:D K vs H then .val (hx vs H hd).choose.1 (hx vs H hd).choose.2 else g vs H,?_,?_⟩
    · intro vs H r hr hne
      simp only at hr
      split at hr
      · rename_i hd
        obtain⟨_,h2⟩:=(hx vs H hd).choose_spec
        subst hr
        exact h2
      · exact hg vs H r hr hne
    · intro j hj vs H hd
      by_cases hk:D K vs H
      · exact⟨_,_,(hx vs H hk).choose_spec.1,dif_pos hk⟩
      · have:j<K:=by
          rcases Nat.lt_succ_iff_lt_or_eq.1 hj with h1|h1
          · exact h1
          · subst h1;exact absurd hd hk
        obtain⟨v,H',h1,h2⟩:=hgs j this vs H hd
        exact⟨v,H',h1,(dif_neg hk).trans h2⟩
theorem ztk (hp:T.Plain) {g:zhA} (hg:zak P T F g) (D:List V→Prop) (R:List V→V→Prop)
    (h:∀vs,D vs→nlL vs=true∧∃v J k v',g vs []=.val v J∧fz J k v=some v'∧R vs v'):∃g',zak P T F g'∧∀vs,D vs→∃v',R vs v'∧∀H,g' vs H=.val v' H:=by
  classical
  have hx:∀vs,D vs→∃v',(∃v J k,g vs []=.val v J∧fz J k v=some v')∧R vs v':=fun vs hd=>by
    obtain⟨_,v,J,k,v',h1,h2,h3⟩:=h vs hd
    exact⟨v',⟨v,J,k,h1,h2⟩,h3⟩
  refine⟨fun vs H=>if hd:D vs then .val (hx vs hd).choose H else .no,?_,?_⟩
  · intro vs H r hr hne
    simp only at hr
    split at hr
    · rename_i hd
      obtain⟨⟨v,J,k,h1,h2⟩,_⟩:=(hx vs hd).choose_spec
      obtain⟨k1,k2⟩:=hg vs [] _ h1 (by simp)
      subst hr
      exact⟨k1,fun M ρ w args hS hr=>zaR.frame_fz hp hS (k2 M [] w args (hS.forget hp) (nlL_rel vs args (h vs hd).1 hr)) h2⟩
    · exact absurd hr.symm hne
  · intro vs hd
    exact⟨_,(hx vs hd).choose_spec.2,fun H=>dif_pos hd⟩
theorem ziE.spec (hT:TOk P T){D:List V→zaa→Prop}{R:List V→zaa→V→zaa→Prop}(h:∀vs H,D vs H→ziE P T F vs H (R vs H)):∃g,zak P T F g∧∀vs H,D vs H→∃v H',R vs H v H'∧g vs H=.val v H':=by
 obtain⟨g,h1,h2⟩:=zrb (P:=P) (T:=T) hT F (fun _=>D) R (fun _ vs H hd _ _ _=>h vs H hd) 1;exact⟨g,h1,h2 0 (by omega)⟩
end
open Go
section
variable {step:Oper→Env→zaa→OR}{ops:Array Oper}{H H1 H2:zaa}
theorem zcD {o:Oper}{r:List Oper}{t:Tm}{v:V}(hw:zaD ops o t.get=some true)(hs:step o t.get H=.val v H)(hf:t.fits o.dst=true){rs:List Rec}{Hs:List zaa}{tf:Tm}
 (h:zbz step ops r (t.put o.dst v) H=some (rs,Hs,tf)):zbz step ops (o::r) t H=some (⟨o,t.get,v,true,false⟩::rs,Hs,tf):=by
 simp only[zbz,hw,hs,zbp,zbJ,hf,if_true,h,zaa.beq_refl,Bool.not_true,Bool.and_false,jSa,if_false]
theorem zgK {o:Oper}{r:List Oper}{t:Tm}{v:V}(he:ze9 o.op=true)(hne:zaa.beq H1 H=false)(hw:zaD ops o t.get=some true)(hs:step o t.get H=.val v H1)(hf:t.fits o.dst=true){rs:List Rec}{Hs:List zaa}{tf:Tm}
 (h:zbz step ops r (t.put o.dst v) H1=some (rs,Hs,tf)):zbz step ops (o::r) t H=some (⟨o,t.get,v,true,true⟩::rs,H::Hs,tf):=by
 simp only[zbz,hw,hs,zbp,zbJ,hf,if_true,h,hne,he,Bool.not_false,Bool.and_true]
end
open Go
inductive DK where
  |q|f|a|e|l
  deriving DecidableEq
def znq (ms:List Nat)(i j:Nat):Bool:=(ms.getD i 0).testBit j
def zws (ms:List Nat)(ks:List DK):Bool:=
 (List.range ks.length).all fun i=>(List.range ks.length).all fun p=>i==p||(ks.getD p .q !=.e&&ks.getD p .q !=.l)||match ks.getD i .q with
  | .e=>znq ms i p==decide (p<i)&&znq ms p i==decide (i<p)
  | .f=>znq ms i p==decide (p<i)&&znq ms p i==decide (i<p)
  | .l=>znq ms i p==decide (p<i)&&znq ms p i==decide (i<p)
  | .a=>ks.getD p .q !=.l||znq ms p i
  | .q=>true
section
variable {step:Oper→Env→zaa→OR}{ops:Array Oper}{A:zaa→Prop}
inductive DR (step:Oper→Env→zaa→OR) (ops:Array Oper) (A:zaa→Prop):List Oper→List DK→Tm→zaa→Tm→zaa→Prop
  |nil {t:Tm} {H:zaa}:DR step ops A [] [] t H t H
  |off {o:Oper} {r:List Oper} {ks:List DK} {k:DK} {t t':Tm} {H H':zaa} (hw:zaD ops o t.get=some false) (hf:t.fits o.dst=true) (h:DR step ops A r ks (t.put o.dst .un) H t' H'):DR step ops A (o::r) (k::ks) t H t' H'
  |blind {o:Oper} {r:List Oper} {ks:List DK} {k:DK} {t t':Tm} {H H':zaa} {x:OR} {v:V} (hl:looks o.op=false) (hw:zaD ops o t.get=some true) (hs:step o t.get H=x) (hx:x=.val v H) (hf:t.fits o.dst=true) (h:DR step ops A r ks (t.put o.dst v) H t' H'):DR step ops A (o::r) (k::ks) t H t' H'
  |fix {o:Oper} {r:List Oper} {ks:List DK} {t t':Tm} {H H':zaa} {x:OR} {v:V} (hw:zaD ops o t.get=some true) (hs:step o t.get H=x) (hx:x=.val v H) (hf:t.fits o.dst=true) (h:DR step ops A r ks (t.put o.dst v) H t' H'):DR step ops A (o::r) (.f::ks) t H t' H'
  |any {o:Oper} {r:List Oper} {ks:List DK} {t t':Tm} {H H':zaa} {x:OR} {v:V} (hw:zaD ops o t.get=some true) (hs:step o t.get H=x) (hx:x=.val v H) (hf:t.fits o.dst=true) (ha:∀K,A K→step o t.get K=.val v K) (h:DR step ops A r ks (t.put o.dst v) H t' H'):DR step ops A (o::r) (.a::ks) t H t' H'
  |eff {o:Oper} {r:List Oper} {ks:List DK} {t t':Tm} {H H1 H':zaa} {x:OR} {v:V} (he:ze9 o.op=true) (hw:zaD ops o t.get=some true) (hs:step o t.get H=x) (hx:x=.val v H1) (hf:t.fits o.dst=true) (hA:A H1) (h:DR step ops A r ks (t.put o.dst v) H1 t' H'):DR step ops A (o::r) (.e::ks) t H t' H'
  |last {o:Oper} {t:Tm} {H H1:zaa} {x:OR} {v:V} (he:ze9 o.op=true) (hw:zaD ops o t.get=some true) (hs:step o t.get H=x) (hx:x=.val v H1) (hf:t.fits o.dst=true):DR step ops A [o] [.l] t H (t.put o.dst v) H1
theorem zeZ:∀(rs:List Rec)(k:Nat),zaH rs (k+1)=(zaH rs k).map (·+1)
 | [],_=>rfl
 |r::rs,k=>by
  simp only[zaH];rw[zeZ rs (k+1)];cases r.e<;>simp
theorem zbL (r:Rec)(rs:List Rec):zcT (r::rs)=if r.e then 0::(zcT rs).map (·+1)else(zcT rs).map (·+1):=by
 simp only[zcT,zaH];rw[zeZ]
theorem zgL:∀{rs:List Rec}{p:Nat},p∈zcT rs→∃r,rs[p]? = some r∧r.e=true
 | [],p,h=>by simp[zcT,zaH]at h
 |r::rs,p,h=>by
  rw[zbL]at h;have key:p∈(zcT rs).map (·+1)→∃r',(r::rs)[p]? = some r'∧r'.e=true:=fun h=>by
   obtain⟨j,hj,rfl⟩:=jZc.1 h;obtain⟨r',h1,h2⟩:=zgL hj;exact⟨r',by simpa using h1,h2⟩
  split at h
  ·rename_i he;rcases jOb.1 h with rfl|h
   ·exact⟨r,rfl,he⟩
   ·exact key h
  ·exact key h
def ztG (rs:List Rec)(i:Nat):Nat:=((zcT rs).filter fun p=>decide (p<i)).length
theorem zpn (rs:List Rec):ztG rs 0=0:=by simp[ztG]
theorem zj5 (r:Rec)(rs:List Rec)(i:Nat):ztG (r::rs) (i+1)=(if r.e then 1 else 0)+ztG rs i:=by
 have h:∀l:List Nat,((l.map (·+1)).filter fun p=>decide (p<i+1)).length=(l.filter fun p=>decide (p<i)).length:=fun l=>by
  induction l with
  |nil=>rfl
  |cons x l ih=>
   simp only[jJb,jDc];have:(decide (x+1<i+1))=decide (x<i):=by simp
   rw[this];split<;>simp[ih]
 simp only[ztG,zbL];cases r.e with
 |true=>
  simp only[if_true];rw[jDc];simp only[Nat.zero_lt_succ,jCd,if_true,jIa,h];omega
 |false=>
  simp only[jSa,if_false,h];omega
def ziC (step:Oper→Env→zaa→OR)(A:zaa→Prop)(ks:List DK)(rs:List Rec)(Hs:List zaa):Prop:=
 ∀(i:Nat)(r:Rec),rs[i]? = some r→(r.e=true→ks[i]? = some .e∨ks[i]? = some .l)∧(r.e=false→looks r.o.op=true→r.w=true →
  (ks[i]? = some .a∧∀K,A K→step r.o r.t K=.val r.v K)∨((ks[i]? = some .f∨ks[i]? = some .e∨ks[i]? = some .l)∧∃K,Hs[ztG rs i]? = some K∧step r.o r.t K=.val r.v K))
def zoE (A:zaa→Prop)(ks:List DK)(rs:List Rec)(Hs:List zaa):Prop:=
 ∀(q:Nat)(K:zaa),Hs[q]? = some K→A K∨(q+1=Hs.length∧∃p,p+1=rs.length∧ks[p]? = some .l∧∃r,rs[p]? = some r∧r.e=true)
theorem zoE.one {H:zaa}{ks:List DK}{rs:List Rec}(h:A H):zoE A ks rs [H]:=fun q K hq=>by
 cases q with
 |zero=>simp at hq;subst hq;exact .inl h
 |succ q=>simp at hq
theorem zoE.same {k:DK}{ks:List DK}{r:Rec}{rs:List Rec}{Hs:List zaa}(h:zoE A ks rs Hs):zoE A (k::ks) (r::rs) Hs:=fun q K hq=>by
 rcases h q K hq with h|⟨h1,p,h2,h3,r',h4,h5⟩
 ·exact .inl h
 ·exact .inr ⟨h1,p+1,by simp[h2],by simpa using h3,r',by simpa using h4,h5⟩
theorem zoE.cons {H:zaa}{k:DK}{ks:List DK}{r:Rec}{rs:List Rec}{Hs:List zaa}(h:zoE A ks rs Hs)(hA:A H):zoE A (k::ks) (r::rs) (H::Hs):=fun q K hq=>by
 cases q with
 |zero=>simp at hq;subst hq;exact .inl hA
 |succ q=>
  simp at hq;rcases h q K hq with h|⟨h1,p,h2,h3,r',h4,h5⟩
  ·exact .inl h
  ·exact .inr ⟨by simp[h1],p+1,by simp[h2],by simpa using h3,r',by simpa using h4,h5⟩
theorem ziC.same {ks:List DK}{k:DK}{rs:List Rec}{Hs:List zaa}{r:Rec}(he:r.e=false)(h:ziC step A ks rs Hs)
 (hr:looks r.o.op=true→r.w=true→(k=.a∧∀K,A K→step r.o r.t K=.val r.v K)∨((k=.f∨k=.e∨k=.l)∧∃K,Hs[0]? = some K∧step r.o r.t K=.val r.v K)):ziC step A (k::ks) (r::rs) Hs:=by
 intro i r' hi;cases i with
 |zero=>
  simp only[jBa,jNa]at hi;subst hi;refine⟨fun h1=>(by rw[he]at h1;cases h1),fun _ h1 h2=>?_⟩;rw[zpn];simpa using hr h1 h2
 |succ i=>
  simp only[jAa]at hi ⊢;have:=h i r' hi;rw[zj5,he];simpa using this
theorem DR.run:∀{l:List Oper}{ks:List DK}{t t':Tm}{H H':zaa},DR step ops A l ks t H t' H'→A H→∃rs Hs,zbz step ops l t H=some (rs,Hs,t')∧Hs.getLast? = some H'∧Hs.head? = some H∧Hs.length=(zcT rs).length+1∧zoE A ks rs Hs∧ziC step A ks rs Hs∧rs.length=ks.length
 |_,_,_,_,H,_,.nil,hA=>⟨[],[H],rfl,rfl,rfl,rfl,zoE.one hA,fun i r h=>by simp at h,rfl⟩
 |_,_,_,_,H,_,.off (o:=o) (r:=l) (t:=t) (k:=k) hw hf h,hA=>by
  obtain⟨rs,Hs,h1,h2,h3,h4,h5,h6,h7⟩:=DR.run h hA;refine⟨⟨o,t.get,.un,false,false⟩::rs,Hs,?_,h2,h3,by simpa[zbL]using h4,h5.same,ziC.same rfl h6 fun _ hw=>absurd hw (by simp),by simp[h7]⟩;simp only[zbz,hw,zbJ,hf,if_true,h1]
 |_,_,_,_,H,_,.blind (o:=o) (r:=l) (t:=t) (v:=v) hl hw hs hx hf h,hA=>by
  obtain⟨rs,Hs,h1,h2,h3,h4,h5,h6,h7⟩:=DR.run h hA;subst hx;exact⟨⟨o,t.get,v,true,false⟩::rs,Hs,zcD hw hs hf h1,h2,h3,by simpa[zbL]using h4,h5.same,ziC.same rfl h6 fun h8=>absurd (h8.symm.trans hl) (by simp),by simp[h7]⟩
 |_,_,_,_,H,_,.fix (o:=o) (r:=l) (t:=t) (v:=v) hw hs hx hf h,hA=>by
  obtain⟨rs,Hs,h1,h2,h3,h4,h5,h6,h7⟩:=DR.run h hA;subst hx;refine⟨⟨o,t.get,v,true,false⟩::rs,Hs,zcD hw hs hf h1,h2,h3,by simpa[zbL]using h4,h5.same,ziC.same rfl h6 fun _ _=>.inr ⟨.inl rfl,H,?_,hs⟩,by simp[h7]⟩;rw[←List.head?_eq_getElem?];exact h3
 |_,_,_,_,H,_,.any (o:=o) (r:=l) (t:=t) (v:=v) hw hs hx hf ha h,hA=>by
  obtain⟨rs,Hs,h1,h2,h3,h4,h5,h6,h7⟩:=DR.run h hA;subst hx;exact⟨⟨o,t.get,v,true,false⟩::rs,Hs,zcD hw hs hf h1,h2,h3,by simpa[zbL]using h4,h5.same,ziC.same rfl h6 fun _ _=>.inl ⟨rfl,ha⟩,by simp[h7]⟩
 |_,_,_,_,H,_,.eff (o:=o) (r:=l) (t:=t) (v:=v) (H1:=H1) he hw hs hx hf hA1 h,hA=>by
  obtain⟨rs,Hs,h1,h2,h3,h4,h5,h6,h7⟩:=DR.run h hA1;subst hx;cases hb:zaa.beq H1 H with
  |true=>
   have:=zaa.beq_eq _ _ hb;subst this;refine⟨⟨o,t.get,v,true,false⟩::rs,Hs,zcD hw hs hf h1,h2,h3,by simpa[zbL]using h4,h5.same,ziC.same rfl h6 fun _ _=>.inr ⟨.inr (.inl rfl),H1,?_,hs⟩,by simp[h7]⟩;rw[←List.head?_eq_getElem?];exact h3
  |false=>
   refine⟨⟨o,t.get,v,true,true⟩::rs,H::Hs,zgK he hb hw hs hf h1,?_,rfl,by simp[zbL,h4],?_,?_,by simp[h7]⟩
   ·cases Hs with
    |nil=>simp at h2
    |cons K Hs=>rw[List.getLast?_cons_cons];exact h2
   ·exact h5.cons hA
   ·intro i r' hi;cases i with
    |zero=>
     simp only[jBa,jNa]at hi;subst hi;exact⟨fun _=>.inl rfl,fun h8=>by cases h8⟩
    |succ i=>
     simp only[jAa]at hi ⊢;have h9:=h6 i r' hi;rw[zj5];simp only[if_true];rw[Nat.add_comm,jAa];exact h9
 |_,_,_,_,H,_,.last (o:=o) (t:=t) (v:=v) (H1:=H1) he hw hs hx hf,hA=>by
  subst hx;cases hb:zaa.beq H1 H with
  |true=>
   have:=zaa.beq_eq _ _ hb;subst this;refine⟨[⟨o,t.get,v,true,false⟩],[H1],zcD hw hs hf rfl,rfl,rfl,rfl,zoE.one hA,fun i r hi=>?_,rfl⟩;cases i with
   |zero=>
    simp only[jBa,jNa]at hi;subst hi;exact⟨fun h=>(by cases h),fun _ _ _=>.inr ⟨.inr (.inr rfl),H1,by simp[ztG],hs⟩⟩
   |succ i=>simp at hi
  |false=>
   refine⟨[⟨o,t.get,v,true,true⟩],[H,H1],zgK he hb hw hs hf rfl,rfl,rfl,rfl,fun q K hq=>?_,fun i r hi=>?_,rfl⟩
   ·cases q with
    |zero=>simp at hq;subst hq;exact .inl hA
    |succ q=>
     cases q with
     |zero=>exact .inr ⟨rfl,0,rfl,rfl,_,rfl,rfl⟩
     |succ q=>simp at hq
   ·cases i with
    |zero=>
     simp only[jBa,jNa]at hi;subst hi;exact⟨fun _=>.inr rfl,fun h=>(by cases h)⟩
    |succ i=>simp at hi
theorem zlg {ms:List Nat}{ks:List DK}(h:zws ms ks=true){i p:Nat}(hi:ks[i]? = some .f∨ks[i]? = some .e∨ks[i]? = some .l)(hp:ks[p]? = some .e∨ks[p]? = some .l)(hne:i≠p):znq ms i p=decide (p<i)∧znq ms p i=decide (i<p):=by
 have hil:i<ks.length:=by rcases hi with hi|hi|hi<;>exact(jGa.1 hi).1
 have hpl:p<ks.length:=by rcases hp with hp|hp<;>exact(jGa.1 hp).1
 have h1:=jBb.1 h i (jCc.2 hil);have h2:=jBb.1 h1 p (jCc.2 hpl);have e1:(i==p)=false:=by simpa using hne
 have e2:(ks.getD p .q !=.e&&ks.getD p .q !=.l)=false:=by rcases hp with hp|hp<;>rw[jMc,hp]<;>rfl
 rw[e1,e2]at h2;rcases hi with hi|hi|hi<;>rw[jMc,hi]at h2<;>simpa using h2
theorem zrT {ms:List Nat}{ks:List DK}(h:zws ms ks=true){i p:Nat}(hi:ks[i]? = some .a)(hp:ks[p]? = some .l):znq ms p i=true:=by
 have hil:i<ks.length:=(jGa.1 hi).1;have hpl:p<ks.length:=(jGa.1 hp).1;have hne:¬i=p:=fun e=>by subst e;rw[hi]at hp;cases hp
 have h1:=jBb.1 h i (jCc.2 hil);have h2:=jBb.1 h1 p (jCc.2 hpl);have e1:(i==p)=false:=by simpa using hne
 have e2:ks.getD p .q=.l:=by rw[jMc,hp];rfl
 have e3:ks.getD i .q=.a:=by rw[jMc,hi];rfl
 rw[e1,e2,e3]at h2;simpa using h2
theorem zpy:∀{rs:List Rec}{p:Nat}{r:Rec},rs[p]? = some r→r.e=true→p∈zcT rs
 | [],p,r,h,_=>by simp at h
 |r0::rs,0,r,h,he=>by
  simp only[jBa,jNa]at h;subst h;rw[zbL,he];simp
 |r0::rs,p+1,r,h,he=>by
  simp only[jAa]at h;have:=zpy h he;rw[zbL];split
  ·exact jYb _ (jZc.2 ⟨p,this,rfl⟩)
  ·exact jZc.2 ⟨p,this,rfl⟩
theorem zfW {l:List Nat}{f g:Nat→Bool}(h:∀p∈l,f p=g p):l.filter f=l.filter g:=List.filter_congr h
theorem DR.draw {ks:List DK}{t t':Tm}{H H':zaa}(h:DR step ops A ops.toList ks t H t' H')(hA:A H)(hs:(zbF ops.toList ops (zbt ops.toList [])&&zws (zbt ops.toList []) ks)=true):zgP step ops t H=.norm t' H':=by
 obtain⟨rs,Hs,h1,h2,h3,h4,h5,h6,h7⟩:=h.run hA;rw[jMa]at hs;obtain⟨hs,hc⟩:=hs;have hdyn:zgJ step (zbt ops.toList []) rs Hs=true:=by
  rw[zgJ,jBb];intro i hi;rw[jCc]at hi;have hri:rs[i]? = some rs[i]:=jKa hi;obtain⟨g1,g2⟩:=h6 i _ hri;simp only[hri];cases he:rs[i].e with
  |true=>
   simp only[if_true,jBb,jTa];intro p hp;obtain⟨rp,k1,k2⟩:=zgL hp;have k3:=(h6 p rp k1).1 k2;by_cases hip:i=p
   ·left;omega
   ·have:=(zlg hc (.inr (g1 he)) k3 hip).2;simp only[znq]at this;rw[this];simp only[jTa];omega
  |false=>
   simp only[jSa,if_false];by_cases hl:(looks rs[i].o.op&&rs[i].w)=true
   ·rw [jMa]at hl;have key:∀q,((zcT rs).filter fun p=>((zbt ops.toList []).getD i 0).testBit p).length≤q→q≤((zcT rs).filter fun p=>!((zbt ops.toList []).getD p 0).testBit i).length→∃K,Hs[q]? = some K∧step rs[i].o rs[i].t K=.val rs[i].v K:=by
     intro q q1 q2;rcases g2 he hl.1 hl.2 with⟨hka,ha⟩|⟨hk,K,k1,k2⟩
     ·have hle:=List.length_filter_le (fun p=>!((zbt ops.toList []).getD p 0).testBit i) (zcT rs);have hq:q<Hs.length:=by omega
      refine⟨Hs[q],jKa hq,ha _ ((h5 q _ (jKa hq)).resolve_right ?_)⟩;rintro⟨hl1,p,hp1,hp2,rp,hp3,hp4⟩;have hb:=zrT hc hka hp2;have hmem:=zpy hp3 hp4;have hlt:((zcT rs).filter fun p=>!((zbt ops.toList []).getD p 0).testBit i).length<(zcT rs).length:=by
       rw[←List.countP_eq_length_filter];refine Nat.lt_of_le_of_ne List.countP_le_length fun e=>?_;have:=List.countP_eq_length.1 e p hmem;simp only[znq]at hb;rw[hb]at this;cases this
      omega
     ·have hne:∀p∈zcT rs,i≠p:=fun p hp hip=>by
       obtain⟨rp,k3,k4⟩:=zgL hp;subst hip;rw[hri]at k3;cases k3;rw[he]at k4;cases k4
      have e1:(zcT rs).filter (fun p=>((zbt ops.toList []).getD i 0).testBit p)=(zcT rs).filter fun p=>decide (p<i):=zfW fun p hp=>by
       obtain⟨rp,k3,k4⟩:=zgL hp;exact(zlg hc hk ((h6 p rp k3).1 k4) (hne p hp)).1
      have e2:(zcT rs).filter (fun p=>!((zbt ops.toList []).getD p 0).testBit i)=(zcT rs).filter fun p=>decide (p<i):=zfW fun p hp=>by
       obtain⟨rp,k3,k4⟩:=zgL hp;have:=(zlg hc hk ((h6 p rp k3).1 k4) (hne p hp)).2;simp only[znq]at this;rw[this];have:=hne p hp;by_cases hlt:i<p
       ·have:¬p<i:=by omega
        simp[hlt,this]
       ·have:p<i:=by omega
        simp[hlt,this]
      rw[e1]at q1;rw[e2]at q2;have:q=ztG rs i:=Nat.le_antisymm q2 q1;subst this;exact⟨K,k1,k2⟩
    rw[hl.1,hl.2];simp only[Bool.and_self,Bool.not_true,jVd,jBb];intro q _;by_cases hq:((zcT rs).filter fun p=>((zbt ops.toList []).getD i 0).testBit p).length≤q∧q≤((zcT rs).filter fun p=>!((zbt ops.toList []).getD p 0).testBit i).length
    ·obtain⟨K,k1,k2⟩:=key q hq.1 hq.2;simp only[k1,k2,zqV,V.beq_refl,zaa.beq_refl,Bool.and_self,Bool.or_true]
    ·have:(decide (((zcT rs).filter fun p=>((zbt ops.toList []).getD i 0).testBit p).length≤q)&&decide (q≤((zcT rs).filter fun p=>!((zbt ops.toList []).getD p 0).testBit i).length))=false:=by
      rw[Bool.and_eq_false_iff,jKc,jKc];omega
     rw[this];rfl
   ·have:(looks rs[i].o.op&&rs[i].w)=false:=by simpa using hl
    rw[this];rfl
 simp only[zgP,h1,hs,hdyn,Bool.or_true,Bool.and_self,if_true,h2]
theorem zbG {T:Tab}{call:zad}{ks:List DK}{t t':Tm}{H H':zaa}{out:Out}(A:zaa→Prop)(hs:(zbF ops.toList ops (zbt ops.toList [])&&zws (zbt ops.toList []) ks)=true)(hA:A H)(h:DR (zb7 T call) ops A ops.toList ks t H t' H')(ho:Out.norm t' H'=out):zc7 T call ops true t H=out:=by
 rw[←ho];exact h.draw hA hs
end
end Go.Ev
