/- The tables of this program for the evaluator, and that they are those of the program. -/
import Derived.Test.YtmjplflnlggbeaaGreatDoorEEvFact
import Derived.Laws.Externs
import Derived.Shelf.Unicode.DecodeSlow
import Derived.Test.YtmjplflnlggbeaaGreatDoorProg
namespace Go.Ev
open Go Go.Proofs
set_option linter.unusedSimpArgs false
set_option linter.unusedVariables false
set_option linter.unnecessarySimpa false
set_option maxRecDepth 100000
noncomputable def zzf (t:TypeId):Option V:=((Tryz.prog.info? t).bind (·.zero)).bind zkA
def zh1 (c:UInt8):List UInt8→Int→Int
 | [],_=>-1
 |x::l,k=>if x==c then k else zh1 c l (k+1)
noncomputable def zyv (f:FuncId):Option Func:=
  match Tryz.prog.funcs[f]? with
  |some fn=>if fn.name == "runtime.NumGoroutine" then none else some fn
  |none=>none
def zly:List V→Option V
 | [x]=>some x
 |_=>none
def zfS:List V→Option V
 | [.s s,.i .u8 c]=>if 0≤c∧c<256 then some (.i .i64 (zh1 c.toNat.toUInt8 s 0))else none
 |_=>none
def ze6:List V→Option V
 | [.i .u64 x,.i .u64 y,.i .u64 c]=>if 0≤x∧0≤y∧0≤c∧c≤1 then some (.tup [.i .u64 ((x.toNat+y.toNat+c.toNat)%18446744073709551616:Nat),.i .u64 ((x.toNat+y.toNat+c.toNat)/18446744073709551616:Nat)])else none
 |_=>none
def sgnL:List (List UInt8):=[[60,60],[62,62],[61,61],[33,61],[60,61],[62,61],[61,62],[45,62],[46,62],[43,63],[45,63],[42,63],[47,63],[37,63],[35,114,101,97,100],[35,115,101,110,100],[35,115,104,97,114,101],[35,97,108,105,97,115],[35,97,110,121],[40],[41],[91],[93],[123],[125],[44],[46],[58],[59],[63],[61],[60],[62],[43],[45],[42],[47],[37],[124],[38],[94],[33],[126]]
noncomputable def TT:Tab where
  und:=fun t=>Tryz.prog.underlying t
  size:=fun t=>(Tryz.prog.info? t).map (·.size)
  zero:=zzf
  bytes:=fun t=>(Tryz.prog.info? t).map (·.bytes)
  glob:=fun g=>if g=0 then some (sgnL.map .s)else if g=3 then some ((List.range 256).map fun i=>.i .u8 (if i=32∨(9≤i∧i≤13)then 1 else 0))else if g=1 then some ((List.range 256).map fun i=>.i .u8 (Lib.firstT i))else if g=2 then some (((List.range 16).map fun i=>[V.i .u8 (Lib.accLo i),V.i .u8 (Lib.accHi i)]).flatten)else if g=8 then some ((List.range 20).map fun i=>.i .u64 ((10^i:Nat):Int))else none
  func:=zyv
  ext:=fun f=>if f=91 then some zly else if f=105 then some zfS else if f=111 then some ze6 else none
  lies:=fun e n off u=>liesAt Tryz.prog Tryz.prog.depth e (n/Tryz.prog.cellsOf e) off u 1
  eqs:=fun t=>t==34||t==44
  gint:=fun g=>g==4
  meth:=fun t n=>if Nat.beq t 194=true∧n = "Replace" then some 186 else none

theorem zgV (g:Nat→UInt8)(c:UInt8):∀(s:List UInt8)(k:Nat),(∀i x,s[i]? = some x→g (k+i)=x)→(match(List.range' k s.length).find? (fun i=>g i==c)with|some i=>(i:Int)|none=>-1)=zh1 c s k
 | [],k,_=>by simp[zh1]
 |x::s,k,h=>by
  rw[List.length_cons,List.range'_succ,List.find?_cons];have h0:=h 0 x rfl;rw[Nat.add_zero]at h0;simp only[h0,zh1];cases hc:x==c with
  |true=>simp
  |false=>
   have ih:=zgV g c s (k+1) (fun i y hi=>by have:=h (i+1) y (by simpa using hi);rwa [show k+1+i=k+(i+1)from by omega]);simp only[Bool.false_eq_true,if_false];rw[ih];push_cast;rfl
theorem zkv (a b:Value):Extern.BytealgIndexByte.indexByte #[a,b]=(do
 let x ←Extern.Bytes.bytesOf a
 let c ←Extern.Bytes.asByte b
 match(List.range x.size).find? fun i=>x[i]! == c with
 |some i=>pure (goInt i)
 |none=>pure (goInt (-1))):=rfl
theorem zcI {α:Type}{o:Option α}(h:o.isNone=true):o=none:=by
 cases o with
 |none=>rfl
 |some e=>cases h
theorem zsM:Extern.findNext Tryz.f91=none:=zcI (by kernel_rfl)
theorem zqj:Extern.findNext Tryz.f111=none:=zcI (by kernel_rfl)
theorem zqi:Extern.findNext Tryz.f105=none:=zcI (by kernel_rfl)
theorem zn6 {P:Program}{t:TypeId}{name:String}{f:FuncId}{e:TypeId}{i:TypeInfo}{n:Nat}(hi:P.info? t=some i){path:Array FieldStep}(hm:(i.methods.find? (·.name==name)).map (fun m=>(m.path,m.func))=some (path,some (f,true)))(hp:path=#[])(hu:P.underlying t=some (.pointer e))(hn:P.types.size+Made.depth=n+1)(v:Value)(w:World) :
 (method (P.types.size+Made.depth) t v name).run P w=.ok (f,v) w:=by
 rw[Option.map_eq_some_iff]at hm;obtain⟨m,hm,he⟩:=hm;simp only[Prod.mk.injEq]at he;obtain⟨h1,h2⟩:=he;subst h1;rw[hn];simp[method,typeInfo,hi,hm,hp,h2,follow,receiverAt,run_underlying hu,Place.get]
theorem zve (v:Value) (w:World):(method (Tryz.prog.types.size+Made.depth) 194 v "Replace").run Tryz.prog w=.ok (186,v) w:=by
  have h:(match Tryz.prog.info? 194 with|some i=>(match(i.methods.find? (·.name == "Replace")).map (fun m=>(m.path,m.func))with|some (p,some (g,true))=>Nat.beq p.size 0&&Nat.beq g 186|_=>false)|none=>false)=true:=by kernel_rfl
  split at h
  · rename_i i hi
    split at h
    · rename_i p g hm
      rw[Bool.and_eq_true]at h
      have hp:p=#[]:=Array.eq_empty_of_size_eq_zero (Nat.eq_of_beq_eq_true h.1)
      have hg:g=186:=Nat.eq_of_beq_eq_true h.2
      subst hg
      exact zn6 hi hm hp Tryz.underlying194 (n:=Tryz.prog.types.size+Made.depth-1) (by decide +kernel) v w
    · cases h
  · cases h
theorem zaf : TOk Tryz.prog TT where
  und:=fun t d h=>h
  size:=fun t n h=>by
    cases hi:Tryz.prog.info? t with
    |none=>simp[TT,hi]at h
    |some i=>simp[TT,hi]at h;exact⟨i,rfl,h⟩
  zero:=fun t z h=>by
    simp only[TT,zzf]at h
    cases hi:Tryz.prog.info? t with
    |none=>simp[hi]at h
    | some i=>
      simp only[hi,Option.bind_some]at h
      cases hz:i.zero with
      |none=>simp[hz]at h
      |some v=>simp only[hz,Option.bind_some]at h;exact⟨i,v,rfl,hz,h⟩
  bytes:=fun t n h=>by
    cases hi:Tryz.prog.info? t with
    |none=>simp[TT,hi]at h
    |some i=>simp[TT,hi]at h;exact⟨i,rfl,h⟩
  func := fun f fn c h hb=>by
    simp only[TT,zyv]at h
    split at h
    · rename_i fn' hf
      split at h
      · cases h
      · rename_i hn
        cases h
        refine⟨hf,fun args w=>?_⟩
        have h1:fn.name≠ "runtime.NumGoroutine":=by simpa using hn
        simp[callFunc,hf,h1,hb]
    · cases h
  mixed:=by kernel_rfl
  meth:=fun t n g h v w=>by
    simp only[TT]at h
    split at h
    · rename_i hc
      cases h
      obtain⟨h1,rfl⟩:=hc
      have h1:t=194:=Nat.eq_of_beq_eq_true h1
      subst h1
      exact zve v w
    · cases h
  ext := fun g F h M ρ vs args v hr hv=>by
    simp only[TT]at h
    split at h
    · rename_i hg
      subst hg
      cases h
      unfold zly at hv
      split at hv
      · cases hv
        simp only[relL]at hr
        obtain⟨x,r,rfl,hx,rfl⟩:=hr
        refine⟨x,fun w=>?_,hx⟩
        rw[run_callFunc_extern (f:=91) (fn:=Tryz.f91) (e:=Extern.AbiNoEscape.same) rfl (by kernel_rfl) rfl zsM rfl]
        rfl
      · cases hv
    · split at h
      · rename_i hg
        subst hg
        cases h
        unfold zfS at hv
        split at hv
        · split at hv
          · cases hv
            rename_i s c hc
            simp only[relL]at hr
            obtain⟨x,r,rfl,hx,y,r2,rfl,hy,rfl⟩:=hr
            simp only[rel]at hx hy
            subst hx
            subst hy
            refine⟨.int .i64 (zh1 c.toNat.toUInt8 s 0),fun w=>?_,by simp only[rel]⟩
            rw[run_callFunc_extern (f:=105) (fn:=Tryz.f105) (e:=Extern.BytealgIndexByte.indexByte) rfl (by kernel_rfl) rfl zqi rfl]
            have key:=zgV (fun i=>(ByteArray.mk s.toArray)[i]!) c.toNat.toUInt8 s 0 (fun i y hi=>by
              rw[Nat.zero_add]
              have hlt:i<s.length:=(List.getElem?_eq_some_iff.1 hi).1
              show(ByteArray.mk s.toArray)[i]! = y
              rw[getElem!_pos (ByteArray.mk s.toArray) i (show i<s.toArray.size by simpa using hlt)]
              exact(List.getElem?_eq_some_iff.1 hi).2)
            rw[←List.range_eq_range']at key
            have hsz:(ByteArray.mk s.toArray).size=s.length:=by simp[ByteArray.size]
            rw[show([Value.string (ByteArray.mk s.toArray),Value.int IntKind.u8 c].toArray)=#[Value.string (ByteArray.mk s.toArray),Value.int IntKind.u8 c]from rfl,zkv]
            simp only[Extern.Bytes.bytesOf,Extern.Bytes.asByte,pure_bind,hsz]
            cases hf:(List.range s.length).find? (fun i=>(ByteArray.mk s.toArray)[i]! == c.toNat.toUInt8)with
            |none=>rw[hf]at key;simp only at key;rw[show((0:Nat):Int)=0 from rfl]at key;rw[←key];rfl
            |some j=>rw[hf]at key;simp only at key;rw[show((0:Nat):Int)=0 from rfl]at key;rw[←key];rfl
          · cases hv
        · cases hv
      · split at h
        · rename_i hg
          subst hg
          cases h
          unfold ze6 at hv
          split at hv
          · split at hv
            · rename_i x y c hc
              cases hv
              simp only[relL]at hr
              obtain⟨x',r,rfl,hx,y',r2,rfl,hy,c',r3,rfl,hc',rfl⟩:=hr
              simp only[rel]at hx hy hc'
              subst hx
              subst hy
              subst hc'
              refine⟨.tuple #[.int .u64 ((x.toNat+y.toNat+c.toNat)%18446744073709551616:Nat),.int .u64 ((x.toNat+y.toNat+c.toNat)/18446744073709551616:Nat)],fun w=>?_,by simp[rel,relL]⟩
              rw[run_callFunc_extern (f:=111) (fn:=Tryz.f111) (e:=(Extern.MathBitsCarry.rows.headD ("",fun _=>pure .nilIface)).2) rfl (by kernel_rfl) rfl zqj rfl]
              obtain rfl|rfl:c=0∨c=1:=by omega
              · rfl
              · rfl
            · cases hv
          · cases hv
        · cases h
  lies:=fun e n off u h=>h
  eqs :=fun t h=>by
    have:t=34∨t=44:=by simpa[TT]using h
    rcases this with rfl|rfl
    · refine⟨by kernel_rfl,by kernel_rfl,fun fs hf=>?_⟩
      rw[Tryz.underlying34]at hf
      cases hf
      simp
    · refine⟨by kernel_rfl,by kernel_rfl,fun fs hf=>?_⟩
      rw[Tryz.underlying44]at hf
      cases hf
      simp

def asBool:OR→Option Bool | .val (.b x) _=>some x|_=>none
end Go.Ev
