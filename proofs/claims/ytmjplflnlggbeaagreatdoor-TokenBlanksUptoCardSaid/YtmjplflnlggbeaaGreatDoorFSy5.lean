/- Each operation on terms, and that it is sound. Trees of what is left to show; calls by their shape. -/
import Derived.Test.YtmjplflnlggbeaaGreatDoorFSy3
namespace Go.Ev
open Go Go.Proofs
set_option linter.unusedSimpArgs false
set_option linter.unusedVariables false
set_option linter.unnecessarySimpa false
open Go
section
variable {T : Tab} {call : CallF} {σ : List U} {H : Heap} {tm : List (Nat × E)} {t : Env} {h : SH}
abbrev dv (σ : List U) (es : List E) : List V := es.map fun e => (e.den σ).val
/-! Cells. -/
noncomputable def flatE : E → Bool
 | .f1 (.vi _) _ => true
 | .f1 .vb _ => true
 | .f1 .vs _ => true
 | .f1 (.ptr _) _ => true
 | .f1 .mp _ => true
 | .f1 (.isl _) _ => true
 | .f1 (.ifc _) _ => true
 | .f1 (.fn _) _ => true
 | .f3 (.ipt _ _) _ _ _ => true
 | .f1 (.slc _ _) _ => true
 | .f2 (.sl _) _ _ => true
 | .f2 (.ptrI _) _ _ => true
 | .cv v => flat v
 | _ => false
theorem flatE_ok {e : E} (h : flatE e = true) : flat (e.den σ).val = true := by
 unfold flatE at h;split at h;all_goals first
  | rfl
  | exact h
  | (cases h; done)
theorem flat_cells {v : V} (h : flat v = true) : v.cells = [v] := by cases v <;> first | rfl | cases h
noncomputable def cellsE (v : E) : Option (List E) := match v with
 | .f1 .agg l => match l.items with
  | some es => bif es.all flatE then some es else none
  | none => none
 | v => bif flatE v then some [v] else none
theorem cellsE_ok {v : E} {cs : List E} (h : cellsE v = some cs) : (v.den σ).val.cells = dv σ cs ∧ (dv σ cs).all flat = true := by
 unfold cellsE at h;split at h
 ·split at h
  ·rename_i es he;cases ha : es.all flatE
   ·rw [ha] at h; cases h
   ·rw [ha] at h;cases h;refine ⟨by simp only [E.den, O1.den, U.val_uv, V.cells]; exact E.items_den σ _ _ he, ?_⟩;rw [List.all_map];refine List.all_eq_true.2 fun e hm => ?_;exact flatE_ok (List.all_eq_true.1 ha e hm)
  ·cases h
 ·cases ha : flatE v
  ·rw [ha] at h; cases h
  ·rw [ha] at h;cases h;have := flatE_ok (σ := σ) ha;exact ⟨flat_cells this, by simp [dv, this]⟩
noncomputable def pickE (T : Tab) (ty : TypeId) (es : List E) (off : Nat) : Option E := match isAggT (T.und ty) with
 | some true => match T.size ty with
  | some n => bif Nat.ble (off + n) es.length then some (.f1 .agg (toE ((es.drop off).take n))) else none
  | none => none
 | some false => nthU es off
 | none => none
theorem pickE_ok {ty : TypeId} {es : List E} {off : Nat} {e : E} (h : pickE T ty es off = some e) : pickAt T ty (dv σ es) off = some (e.den σ).val := by
 unfold pickE at h;unfold pickAt;cases ha : isAggT (T.und ty) with
 | none => rw [ha] at h; cases h
 | some b =>
  rw [ha] at h;cases b with
  | true =>
   simp only at h ⊢;cases hn : T.size ty with
   | none => rw [hn] at h; cases h
   | some n =>
    rw [hn] at h;simp only at h ⊢;cases hl : Nat.ble (off + n) es.length
    ·rw [hl] at h; cases h
    ·rw [hl] at h;cases h;have hl := Nat.le_of_ble_eq_true hl;simp only [cut, dv, List.length_map, if_pos hl, Option.map_some, E.den, O1.den, U.val_uv, den_toE, List.map_take, List.map_drop]
  | false =>
   simp only at h ⊢;rw [nthU_eq] at h;simp [h]
noncomputable def spliceE (l : List E) (off : Nat) (x : List E) : List E := l.take off ++ x ++ l.drop (off + x.length)
theorem spliceE_dv (l : List E) (off : Nat) (x : List E) : dv σ (spliceE l off x) = splice (dv σ l) off (dv σ x) := by
 simp [spliceE, splice, dv, List.map_take, List.map_drop]
noncomputable def sLoad (T : Tab) (ty : TypeId) (h : SH) (p : E) : SRes := match p with
 | .f1 (.ptr off) n => match h.look n with
  | some b => match b.kind, b.cells.items with
   | .map, _ => .no
   | _, some es => (match pickE T ty es off with
    | some e => .val e
    | none => .no)
   | _, none => .ask (.load ty p)
  | none => .ask (.load ty p)
 | .cv (.gp g off) => match loadA T ty [] (.gp g off) with
  | some v => .val (ofV v)
  | none => .no
 | p => .ask (.load ty p)
theorem cellsAt_ofE {K : Heap} {n : Nat} {b : Blk} (e : K[n]? = some (some b)) (hk : b.kind ≠ .map) : cellsAt K n = some b := by simp [cellsAt, e, hk]
theorem sLoad_ok (hw : h.WF σ) (ty : TypeId) (p : E) : SRes.Ok T call σ (h.den σ) (sLoad T ty h p) (lift (loadA T ty (h.den σ) (p.den σ).val) (h.den σ)) := by
 unfold sLoad;split
 ·rename_i off n;split
  ·rename_i b hb;have hb := SH.look_den hw hb;split
   ·trivial
   ·rename_i es he hk;split
    ·rename_i e hp;have hp := pickE_ok (σ := σ) hp;have hk : (b.den σ).kind ≠ .map := fun e => hk e;have hc : (b.den σ).cells = dv σ es := E.items_den σ _ _ he;simp only [SRes.Ok, E.den, O1.den, U.val_uv, loadA, cellsAt_ofE hb hk, hc, hp, lift]
    ·trivial
   ·rfl
  ·rfl
 ·rename_i g off;split
  ·rename_i v hv;have e : loadA T ty (h.den σ) (.gp g off) = some v := hv;simp only [SRes.Ok, E.den, U.val_uv, e, lift, den_ofV]
  ·trivial
 ·rfl
noncomputable def sStore (T : Tab) (ty : TypeId) (h : SH) (a x : E) : SRes := match a with
 | .f1 (.ptr off) n => match h.look n with
  | some b => match b.kind, b.cells.items, cellsE x with
   | .map, _, _ => .no
   | _, some es, some xs => if T.size ty = some xs.length ∧ off + xs.length ≤ es.length then (match h.put n (some { b with cells := toE (spliceE es off xs) }) with
    | some h' => .eff (.cv .un) h'
    | none => .no) else .no
   | _, _, _ => .no
  | none => .no
 | _ => .no
theorem sStore_ok (hw : h.WF σ) (ty : TypeId) (a x : E) : SRes.Ok T call σ (h.den σ) (sStore T ty h a x) (match storeA T ty (h.den σ) (a.den σ).val (x.den σ).val with | some H' => .val .un H' | none => .no) := by
 unfold sStore;split
 ·rename_i off n;split
  ·rename_i b hb;have hb := SH.look_den hw hb;split
   ·trivial
   ·rename_i es xs he hx hk;split
    ·rename_i hc;split
     ·rename_i h' hp;obtain ⟨h1, h2⟩ := SH.put_den hw hp;have hk : (b.den σ).kind ≠ .map := fun e => hk e;have hcs : (b.den σ).cells = dv σ es := E.items_den σ _ _ he;obtain ⟨hx1, hx2⟩ := cellsE_ok (σ := σ) hx;refine ⟨?_, h1⟩;simp only [E.den, O1.den, U.val_uv, storeA, cellsAt_ofE hb hk, hx1, hx2, hcs];rw [if_pos ⟨by simpa using hc.1, by simpa using hc.2, trivial⟩];simp only [fSp_eq, setK_eq, h2, bD, SB.den, den_toE];rw [← spliceE_dv]
     ·trivial
    ·trivial
   ·trivial
  ·trivial
 ·trivial
noncomputable def sFieldAddr (T : Tab) (ty : TypeId) (x : E) (f : Nat) : SRes := match T.und ty with
 | some (.struct fs) => match fs[f]? with
  | some fd => match T.size fd.type with
   | some n => if n = 0 then .no else (match x with
    | .f1 (.ptr off) n => .val (.f1 (.ptr (off + fd.offset)) n)
    | .cv (.gp g off) => .val (.cv (.gp g (off + fd.offset)))
    | .f3 (.ipt sz off) l j k => .val (.f3 (.ipt sz (off + fd.offset)) l j k)
    | _ => .no)
   | none => .no
  | none => .no
 | _ => .no
theorem sFieldAddr_ok (ty : TypeId) (x : E) (f : Nat) : SRes.Ok T call σ H (sFieldAddr T ty x f) (lift (evFieldAddr T ty (x.den σ).val f) H) := by
 unfold sFieldAddr evFieldAddr;split
 ·rename_i fs hfs;split
  ·rename_i fd hfd;split
   ·rename_i n hn;split
    ·trivial
    ·rename_i h0;split <;> simp_all [SRes.Ok, addOff, lift]
   ·trivial
  ·trivial
 ·trivial
noncomputable def sField (T : Tab) (ty : TypeId) (x : E) (f : Nat) : SRes := match T.und ty, x with
 | some (.struct fs), .f1 .agg l => match fs[f]?, l.items with
  | some fd, some es => match pickE T fd.type es fd.offset with
   | some e => .val e
   | none => .no
  | _, _ => .no
 | _, _ => .no
theorem sField_ok (ty : TypeId) (x : E) (f : Nat) : SRes.Ok T call σ H (sField T ty x f) (lift (evField T ty (x.den σ).val f) H) := by
 unfold sField;split
 ·rename_i fs l hfs;split
  ·rename_i fd es hfd he;split
   ·rename_i e hp;have hp := pickE_ok (σ := σ) hp;have hl : (l.den σ).lst = dv σ es := E.items_den σ _ _ he;simp only [SRes.Ok, E.den, O1.den, U.val_uv, evField, hfs, hfd, hl, hp, lift]
   ·trivial
  ·trivial
 ·trivial
noncomputable def sIndex (T : Tab) (ty : TypeId) (x ix : E) : SRes := match T.und ty, x, ix with
 | some .string, .f1 .vs s, .f1 (.vi _) i => .need (fold2 .leI (.ci 0) i) (.need (fold2 .ltI i (lenE s)) (.val (.f1 (.vi .u8) (.f2 .at s i))))
 | some (.array len e), .f1 .agg l, .f1 (.vi _) (.ci j) => match T.size e, l.items with
  | some n, some es => if 0 ≤ j ∧ j < len then (match pickE T e es (j.toNat * n) with
   | some e => .val e
   | none => .no) else .no
  | _, _ => .no
 | _, _, _ => .no
theorem sIndex_ok (ty : TypeId) (x ix : E) : SRes.Ok T call σ H (sIndex T ty x ix) (lift (evIndex T ty (x.den σ).val (ix.den σ).val) H) := by
 unfold sIndex;split
 ·rename_i s k i hu;intro h1 h2;have h1 : 0 ≤ (i.den σ).int := leE h1;have h2 := ltE h2;rw [lenE_den] at h2;have h2 : (i.den σ).int < (s.den σ).str.length := h2;simp only [E.den, O1.den, O2.den, U.val_uv, U.int_ui, U.str_us, evIndex, hu, nthU_eq, SRes.Ok, atS];have : (i.den σ).int.toNat < (s.den σ).str.length := by omega
  rw [List.getElem?_eq_getElem this, if_pos h1];rfl
 ·rename_i len e l k j hu;split
  ·rename_i n es hn he;split
   ·rename_i hj;split
    ·rename_i r hp;have hp := pickE_ok (σ := σ) hp;have hl : (l.den σ).lst = dv σ es := E.items_den σ _ _ he;simp only [SRes.Ok, E.den, O1.den, U.val_uv, U.int_ui, evIndex, hu, hn, if_pos hj, hl, hp, lift]
    ·trivial
   ·trivial
  ·trivial
 ·trivial
noncomputable def sIndexAddr (T : Tab) (ty : TypeId) (x ix : E) : SRes := match T.und ty, x, ix with
 | some (.slice e), .f1 (.isl sz) l, .f1 (.vi _) i => if T.size e = some sz then .need (fold2 .leI (.ci 0) i) (.need (fold2 .ltI i (.f1 .lenL l)) (.val (.f3 (.ipt sz 0) l i .nil))) else .no
 | some (.array len e), .f1 (.ptr off) n, .f1 (.vi _) (.ci j) => match T.size e with
  | some z => if 0 ≤ j ∧ j < len then .val (.f1 (.ptr (off + j.toNat * z)) n) else .no
  | none => .no
 | _, _, _ => .no
theorem sIndexAddr_ok (ty : TypeId) (x ix : E) : SRes.Ok T call σ H (sIndexAddr T ty x ix) (lift (evIndexAddr T ty (x.den σ).val (ix.den σ).val) H) := by
 unfold sIndexAddr;split
 ·rename_i e sz l k i hu;split
  ·rename_i hz;intro h1 h2;have h1 : 0 ≤ (i.den σ).int := leE h1;have h2 : (i.den σ).int < (l.den σ).lst.length := ltE h2;simp only [E.den, O1.den, O3.den, U.val_uv, U.int_ui, U.lst_ul, evIndexAddr, hu, if_pos (And.intro hz (And.intro h1 h2)), lift, SRes.Ok]
  ·trivial
 ·rename_i len e off n k j hu;split
  ·rename_i z hz;split
   ·rename_i hj;simp only [SRes.Ok, E.den, O1.den, U.val_uv, U.int_ui, evIndexAddr, hu, hz, if_pos hj, addOff, lift]
   ·trivial
  ·trivial
 ·trivial
noncomputable def sBound (tm : List (Nat × E)) (dflt : E) : Option Operand → Option E
 | none => some dflt
 | some o => match sv tm o with
  | some (.f1 (.vi _) i) => some i
  | _ => none
noncomputable def sSlice (T : Tab) (ty : TypeId) (tm : List (Nat × E)) (x : E) (lo hi mx : Option Operand) : SRes := match mx, x with
 | none, .f1 .vs s => match T.und ty, sBound tm (lenE s) hi, sBound tm (.ci 0) lo with
  | some .string, some j, some i => .need (fold2 .leI (.ci 0) i) (.need (fold2 .leI i j) (.need (match hi with | none => .cb true | some _ => fold2 .leI j (lenE s)) (.val (.f1 .vs (.f3 .sub s i j)))))
  | _, _, _ => .no
 | none, .f1 (.isl sz) l => match T.und ty, sBound tm (.f1 .lenL l) hi, sBound tm (.ci 0) lo with
  | some (.slice e), some j, some i => if T.size e = some sz then .need (fold2 .leI (.ci 0) i) (.need (fold2 .leI i j) (.need (match hi with | none => .cb true | some _ => fold2 .leI j (.f1 .lenL l)) (.val (.f1 (.isl sz) (.f3 .subL l i j))))) else .no
  | _, _, _ => .no
 | _, _ => .no
theorem sBound_ok (hs : Sees σ tm t) {most : Nat} {dflt : Nat} {de e : E} {x : Option Operand} (h : sBound tm de x = some e) (hd : x = none → (de.den σ).int = dflt ∧ dflt ≤ most) (h0 : 0 ≤ (e.den σ).int) (h1 : (e.den σ).int ≤ most) : bound t most dflt x = some (e.den σ).int.toNat := by
 cases x with
 | none =>
  cases h;obtain ⟨h2, _⟩ := hd rfl;rw [h2];rfl
 | some o =>
  simp only [sBound] at h;split at h
  ·rename_i k i hi;cases h;simp only [bound, sv_ok hs hi, E.den, O1.den, U.val_uv];rw [if_pos ⟨h0, h1⟩]
  ·cases h
theorem sSlice_ok (hs : Sees σ tm t) (ty : TypeId) (x : E) (lo hi mx : Option Operand) : SRes.Ok T call σ H (sSlice T ty tm x lo hi mx) (lift (evSlice T ty t (x.den σ).val lo hi mx) H) := by
 unfold sSlice;split
 ·rename_i s;split
  ·rename_i j i hu ej ei;intro h1 h2 h3;have h1 : 0 ≤ (i.den σ).int := leE h1;have h2 := leE h2;have h4 : (j.den σ).int ≤ (s.den σ).str.length := by
    cases hi with
    | none =>
     cases ej;rw [lenE_den];exact Int.le_refl _
    | some o =>
     have h3 := leE h3;rw [lenE_den] at h3;exact h3
   have e1 := sBound_ok hs (most := (s.den σ).str.length) (dflt := (s.den σ).str.length) ej (fun _ => ⟨by rw [lenE_den]; rfl, Nat.le_refl _⟩) (by omega) h4;have e2 := sBound_ok hs (most := (j.den σ).int.toNat) (dflt := 0) ei (fun _ => ⟨rfl, Nat.zero_le _⟩) h1 (by omega);simp only [E.den, O1.den, O3.den, U.val_uv, U.str_us, evSlice, hu, e1, e2, lift, SRes.Ok, subU_eq, U.int_ui]
  ·trivial
 ·rename_i sz l;split
  ·rename_i e j i hu ej ei;split
   ·rename_i hz;intro h1 h2 h3;have h1 : 0 ≤ (i.den σ).int := leE h1;have h2 := leE h2;have h4 : (j.den σ).int ≤ (l.den σ).lst.length := by
     cases hi with
     | none =>
      cases ej;exact Int.le_refl _
     | some o => exact leE h3
    have e1 := sBound_ok hs (most := (l.den σ).lst.length) (dflt := (l.den σ).lst.length) ej (fun _ => ⟨rfl, Nat.le_refl _⟩) (by omega) h4;have e2 := sBound_ok hs (most := (j.den σ).int.toNat) (dflt := 0) ei (fun _ => ⟨rfl, Nat.zero_le _⟩) h1 (by omega);simp only [E.den, O1.den, O3.den, U.val_uv, U.lst_ul, evSlice, hu, hz, if_true, e1, e2, lift, SRes.Ok, U.int_ui]
   ·trivial
  ·trivial
 ·trivial
noncomputable def nnE (e : E) : E := match e with
 | .f1 .lenS s => .f1 .lenS s
 | .f1 .lenL l => .f1 .lenL l
 | e => .f1 .nn e
theorem nnE_den (e : E) : (nnE e).den σ = .ui ((e.den σ).int.toNat : Nat) := by
 unfold nnE;split <;> simp
noncomputable def sLen (T : Tab) (ty : TypeId) (x : E) : SRes := match T.und ty, x with
 | some .string, .f1 .vs s => .val (.f1 (.vi .i64) (lenE s))
 | some (.array n _), _ => .val (.f1 (.vi .i64) (.ci n))
 | some (.slice _), .f1 (.isl _) l => .val (.f1 (.vi .i64) (.f1 .lenL l))
 | some (.slice _), .cv .nils => .val (.f1 (.vi .i64) (.ci 0))
 | some (.slice _), .cv .emp => .val (.f1 (.vi .i64) (.ci 0))
 | some (.slice _), .f1 (.slc _ n) _ => .val (.f1 (.vi .i64) (.ci n))
 | some (.slice _), .f2 (.sl _) _ n => .val (.f1 (.vi .i64) (nnE n))
 | _, _ => .no
theorem sLen_ok (ty : TypeId) (x : E) : SRes.Ok T call σ H (sLen T ty x) (lift (evLen T ty (x.den σ).val) H) := by
 unfold sLen;split <;> simp_all [SRes.Ok, evLen, lift, lenE_den, nnE_den]
/-! Slices of blocks. -/
theorem splice_one (l : List V) (i : Nat) (x : V) (h : i < l.length) : splice l i [x] = l.set i x := by
 rw [List.set_eq_take_append_cons_drop, if_pos h];simp [splice]
def bysV (s : List UInt8) : List V := s.map fun c => .i .u8 c.toNat
theorem bysV_flat (s : List UInt8) : (bysV s).all flat = true := by simp [bysV, flat]
theorem bysV_push (s : List UInt8) (n : Int) (h0 : 0 ≤ n) (h1 : n < 256) : bysV (s ++ [UInt8.ofNat n.toNat]) = bysV s ++ [.i .u8 n] := by
 simp only [bysV, List.map_append, List.map_cons, List.map_nil];congr 3;have : (UInt8.ofNat n.toNat).toNat = n.toNat := by rw [UInt8.toNat_ofNat']; omega
 rw [this]; omega
theorem bysV_set (s : List UInt8) (i : Nat) (n : Int) (h0 : 0 ≤ n) (h1 : n < 256) : bysV (s.set i (UInt8.ofNat n.toNat)) = (bysV s).set i (.i .u8 n) := by
 simp only [bysV, List.map_set];congr 2;have : (UInt8.ofNat n.toNat).toNat = n.toNat := by rw [UInt8.toNat_ofNat']; omega
 rw [this]; omega
theorem bytesV_bys : ∀ s : List UInt8, bytesV (bysV s) = some s
 | [] => rfl
 | c :: s => by
  show (match bytesV (bysV s) with | some r => some ((c.toNat : Int).toNat.toUInt8 :: r) | none => none) = _;rw [bytesV_bys s];simp
noncomputable def sAddrS (T : Tab) (ty : TypeId) (x ix : E) : SRes := match T.und ty, x, ix with
 | some (.slice e), .f2 (.sl sz) n len, .f1 (.vi _) i => if T.size e = some sz then .need (fold2 .leI (.ci 0) i) (.need (fold2 .ltI i (nnE len)) (.val (.f2 (.ptrI sz) n i))) else .no
 | some (.slice e), .f1 (.slc sz len) n, .f1 (.vi _) (.ci j) => if T.size e = some sz ∧ 0 ≤ j ∧ j < len then .val (.f1 (.ptr (j.toNat * sz)) n) else .no
 | _, _, _ => sIndexAddr T ty x ix
theorem sAddrS_ok (ty : TypeId) (x ix : E) : SRes.Ok T call σ H (sAddrS T ty x ix) (lift (evIndexAddr T ty (x.den σ).val (ix.den σ).val) H) := by
 unfold sAddrS;split
 ·rename_i e sz n len k i hu;split
  ·rename_i hz;intro h1 h2;have h1 : 0 ≤ (i.den σ).int := leE h1;have h2 := ltE h2;rw [nnE_den] at h2;have h2 : (i.den σ).int < (len.den σ).int.toNat := h2;simp only [E.den, O1.den, O2.den, U.val_uv, U.int_ui, evIndexAddr, hu, if_pos (And.intro hz (And.intro h1 h2)), lift, SRes.Ok, Nat.zero_add]
  ·trivial
 ·rename_i e sz len n k j hu;split
  ·rename_i hz;simp only [E.den, O1.den, U.val_uv, U.int_ui, evIndexAddr, hu, if_pos hz, lift, SRes.Ok, Nat.zero_add]
  ·trivial
 ·exact sIndexAddr_ok ty _ _
noncomputable def sLoadS (T : Tab) (ty : TypeId) (h : SH) (p : E) : SRes := match p with
 | .f2 (.ptrI 1) n i => match h.look n, T.und ty with
  | some ⟨_, .f1 .bys s, .all⟩, some (.int .u8) => .need (fold2 .leI (.ci 0) i) (.need (fold2 .ltI i (lenE s)) (.val (.f1 (.vi .u8) (.f2 .at s i))))
  | some ⟨_, .f1 .bys s, .more⟩, some (.int .u8) => .need (fold2 .leI (.ci 0) i) (.need (fold2 .ltI i (lenE s)) (.val (.f1 (.vi .u8) (.f2 .at s i))))
  | _, _ => .ask (.load ty p)
 | p => sLoad T ty h p
theorem loadBys {ty : TypeId} (hu : T.und ty = some (.int .u8)) {K : Heap} {n : Nat} {b : Blk} {s : List UInt8} (hb : K[n]? = some (some b)) (hk : b.kind ≠ .map) (hc : b.cells = bysV s) {i : Int} (h1 : 0 ≤ i) (h2 : i < s.length) : loadA T ty K (.ptr n (i.toNat * 1)) = some (.i .u8 (atS s i)) := by
 simp only [loadA, cellsAt_ofE hb hk, hc, pickAt, hu, isAggT, Nat.mul_one, bysV, List.getElem?_map, atS];have : i.toNat < s.length := by omega
 rw [List.getElem?_eq_getElem this];rfl
theorem sLoadS_ok (hw : h.WF σ) (ty : TypeId) (p : E) : SRes.Ok T call σ (h.den σ) (sLoadS T ty h p) (lift (loadA T ty (h.den σ) (p.den σ).val) (h.den σ)) := by
 unfold sLoadS;split
 ·rename_i n i;have key : ∀ (t : Nat) (s : E) (kd : BK), kd ≠ .map → h.look n = some ⟨t, .f1 .bys s, kd⟩ → T.und ty = some (.int .u8) → SRes.Ok T call σ (h.den σ) (.need (fold2 .leI (.ci 0) i) (.need (fold2 .ltI i (lenE s)) (.val (.f1 (.vi .u8) (.f2 .at s i))))) (lift (loadA T ty (h.den σ) ((E.f2 (.ptrI 1) n i).den σ).val) (h.den σ)) := fun t s kd hk hb hu h1 h2 => by
   have h1 : 0 ≤ (i.den σ).int := leE h1;have h2 := ltE h2;rw [lenE_den] at h2;have h2 : (i.den σ).int < (s.den σ).str.length := h2;have hb := SH.look_den hw hb;simp only [SRes.Ok, E.den, O1.den, O2.den, U.val_uv, U.int_ui];rw [loadBys hu hb hk rfl h1 h2];rfl
  split
  ·rename_i hb hu; exact key _ _ _ (by simp) hb hu
  ·rename_i hb hu; exact key _ _ _ (by simp) hb hu
  ·rfl
 ·exact sLoad_ok hw ty p
theorem storeBys {ty : TypeId} (hz : T.size ty = some 1) {K : Heap} {n : Nat} {b : Blk} {s : List UInt8} (hb : K[n]? = some (some b)) (hk : b.kind ≠ .map) (hc : b.cells = bysV s) {i c : Int} (h1 : 0 ≤ i) (h2 : i < s.length) (h3 : 0 ≤ c) (h4 : c < 256) :
 storeA T ty K (.ptr n (i.toNat * 1)) (.i .u8 c) = some (K.set n (some { b with cells := bysV (s.set i.toNat (UInt8.ofNat c.toNat)) })) := by
 have hlt : i.toNat < (bysV s).length := by simp only [bysV, List.length_map]; omega
 simp only [storeA, cellsAt_ofE hb hk, hc, Nat.mul_one, V.cells];have : T.size ty = some [V.i .u8 c].length ∧ i.toNat + [V.i .u8 c].length ≤ (bysV s).length ∧ [V.i .u8 c].all flat = true := ⟨hz, by simp only [List.length_cons, List.length_nil]; omega, rfl⟩;rw [if_pos this];simp only [fSp_eq, setK_eq];rw [splice_one _ _ _ hlt, ← bysV_set _ _ _ h3 h4]
noncomputable def sStoreB (h : SH) (n i s c : E) (t : Nat) (kd : BK) : SRes := .need (fold2 .leI (.ci 0) i) (.need (fold2 .ltI i (lenE s)) (.need (fold2 .leI (.ci 0) c) (.need (fold2 .ltI c (.ci 256)) (match h.put n (some ⟨t, .f1 .bys (.f3 .setB s i c), kd⟩) with
 | some h' => .eff (.cv .un) h'
 | none => .no))))
noncomputable def sStoreS (T : Tab) (ty : TypeId) (h : SH) (a x : E) : SRes := match a, x with
 | .f2 (.ptrI 1) n i, .f1 (.vi .u8) c => if T.size ty = some 1 then (match h.look n with
  | some ⟨t, .f1 .bys s, .all⟩ => sStoreB h n i s c t .all
  | some ⟨t, .f1 .bys s, .more⟩ => sStoreB h n i s c t .more
  | _ => .no) else .no
 | a, x => sStore T ty h a x
theorem sStoreS_ok (hw : h.WF σ) (ty : TypeId) (a x : E) : SRes.Ok T call σ (h.den σ) (sStoreS T ty h a x) (match storeA T ty (h.den σ) (a.den σ).val (x.den σ).val with | some H' => .val .un H' | none => .no) := by
 unfold sStoreS;split
 ·rename_i n i c;split
  ·rename_i hz;have key : ∀ (t : Nat) (s : E) (kd : BK), kd ≠ .map → h.look n = some ⟨t, .f1 .bys s, kd⟩ → SRes.Ok T call σ (h.den σ) (sStoreB h n i s c t kd) (match storeA T ty (h.den σ) ((E.f2 (.ptrI 1) n i).den σ).val ((E.f1 (.vi .u8) c).den σ).val with | some H' => .val .un H' | none => .no) := fun t s kd hk hb h1 h2 h3 h4 => by
    have h1 : 0 ≤ (i.den σ).int := leE h1;have h2 := ltE h2;rw [lenE_den] at h2;have h2 : (i.den σ).int < (s.den σ).str.length := h2;have h3 : 0 ≤ (c.den σ).int := leE h3;have h4 : (c.den σ).int < 256 := ltE h4;have hb := SH.look_den hw hb;split
    ·rename_i h' hp;obtain ⟨k1, k2⟩ := SH.put_den hw hp;refine ⟨?_, k1⟩;have e1 := storeBys (ty := ty) hz hb hk (s := (s.den σ).str) rfl h1 h2 h3 h4;simp only [E.den, O1.den, O2.den, U.val_uv, U.int_ui];rw [e1, k2];rfl
    ·trivial
   split
   ·rename_i hb; exact key _ _ _ (by simp) hb
   ·rename_i hb; exact key _ _ _ (by simp) hb
   ·trivial
  ·trivial
 ·exact sStore_ok hw ty _ _
noncomputable def sConvS (T : Tab) (src dst : TypeId) (h : SH) (x : E) : SRes := match x with
 | .f2 (.sl 1) n len => match T.und src, T.und dst, h.look n with
  | some (.slice e), some .string, some ⟨_, .f1 .bys s, kd⟩ => match T.und e, kd with
   | some (.int .u8), .all => bif len.same (.f1 .lenS s) then .val (.f1 .vs s) else .no
   | some (.int .u8), .more => bif len.same (.f1 .lenS s) then .val (.f1 .vs s) else .no
   | _, _ => .no
  | _, _, _ => .no
 | .f1 (.ptr off) n => match T.und src, T.und dst, h.look n with
  | some (.pointer e), some .unsafePointer, some ⟨_, cs, .all⟩ => (match cs.items, T.size e with
   | some es, some z => if z ≠ 0 ∧ off < es.length then .val (.f1 (.ptr off) n) else .no
   | _, _ => .no)
  | some .unsafePointer, some (.pointer u), some ⟨t, cs, .all⟩ => (match cs.items, T.size u with
   | some es, some z => if z ≠ 0 ∧ T.lies t es.length off u = true then .val (.f1 (.ptr off) n) else .no
   | _, _ => .no)
  | _, _, _ => .no
 | x => sConv T src dst x
theorem sConvS_ok (hw : h.WF σ) (src dst : TypeId) (x : E) : SRes.Ok T call σ (h.den σ) (sConvS T src dst h x) (evConvO T src dst (x.den σ).val (h.den σ)) := by
 unfold sConvS;split
 ·rename_i n len;split
  ·rename_i e t s kd hs hd hb;have key : kd ≠ .map → T.und e = some (.int .u8) → SRes.Ok T call σ (h.den σ) (bif len.same (.f1 .lenS s) then .val (.f1 .vs s) else .no) (evConvO T src dst ((E.f2 (.sl 1) n len).den σ).val (h.den σ)) := fun hk he => by
    cases hl : len.same (.f1 .lenS s)
    ·trivial
    ·have := E.same_eq _ _ hl;subst this;have hb := SH.look_den hw hb;simp only [cond_true, SRes.Ok, E.den, O1.den, O2.den, U.val_uv, U.int_ui, evConvO, hs, hd, he, cellsAt_ofE hb hk, SB.den, U.lst_ul, Int.toNat_natCast, if_true];have : cut (bysV (s.den σ).str) 0 (s.den σ).str.length = some (bysV (s.den σ).str) := by
      have hl : (bysV (s.den σ).str).length = (s.den σ).str.length := by simp [bysV]
      unfold cut;rw [if_pos (by omega), List.drop_zero, List.take_of_length_le (by omega)]
     rw [show ((s.den σ).str.map fun c => V.i .u8 c.toNat) = bysV (s.den σ).str from rfl, this];simp only [bytesV_bys]
   split
   ·rename_i he; exact key (by simp) he
   ·rename_i he; exact key (by simp) he
   ·trivial
  ·trivial
 ·rename_i off n;split
  ·rename_i e t cs hs hd hb;have hb := SH.look_den hw hb;split
   ·rename_i es z he hz;have he : (cs.den σ).lst = dv σ es := E.items_den σ _ _ he;split
    ·rename_i hc;have hk : (SB.den σ ⟨t, cs, .all⟩).kind ≠ .map := by simp
     simp only [SRes.Ok, E.den, O1.den, U.val_uv, evConvO, evConvH, hs, hd, cellsAt_ofE hb hk, hz, SB.den, he, dv, List.length_map];rw [if_pos hc];rfl
    ·trivial
   ·trivial
  ·rename_i u t cs hs hd hb;have hb := SH.look_den hw hb;split
   ·rename_i es z he hz;have he : (cs.den σ).lst = dv σ es := E.items_den σ _ _ he;split
    ·rename_i hc;have hk : (SB.den σ ⟨t, cs, .all⟩).kind ≠ .map := by simp
     simp only [SRes.Ok, E.den, O1.den, U.val_uv, evConvO, evConvH, hs, hd, cellsAt_ofE hb hk, hz, SB.den, he, dv, List.length_map];rw [if_pos ⟨hc.1, trivial, hc.2⟩];rfl
    ·trivial
   ·trivial
  ·trivial
 ·exact sConv_ok src dst _
theorem evAppend_nils {ty e : TypeId} {sz bs k : Nat} {z x : V} {new : List V} {K : Heap} (hu : T.und ty = some (.slice e)) (hz : T.size e = some sz) (hbs : T.bytes e = some bs) (hzr : T.zero e = some z) (hc : 0 < sz ∧ z.cells.length = sz ∧ bs ≤ 1000000)
 (ha : appended T e sz K x = some (new, k)) (hf : new.all flat = true) (hk : 0 < k) (h1 : k * bs ≤ 1099511627776) (h2 : k ≤ 1099511627776) : evAppend T ty .nils x K = .val (.sl K.length sz 0 k none) (K ++ [some ⟨e, new, .more⟩]) := by
 simp only [evAppend, hu, hz, hbs, hzr, ha];rw [if_pos ⟨hc.1, hc.2.1, hc.2.2, hf⟩, if_neg (by omega), if_pos ⟨h1, h2⟩, newB_eq]
theorem evAppend_sl {ty e : TypeId} {sz bs k n len : Nat} {z x : V} {new : List V} {K : Heap} {b : Blk} (hu : T.und ty = some (.slice e)) (hz : T.size e = some sz) (hbs : T.bytes e = some bs) (hzr : T.zero e = some z) (hc : 0 < sz ∧ z.cells.length = sz ∧ bs ≤ 1000000)
 (ha : appended T e sz K x = some (new, k)) (hf : new.all flat = true) (hk : 0 < k) (h1 : (len + k) * bs ≤ 1099511627776) (h2 : len + k ≤ 1099511627776) (hb : K[n]? = some (some b)) (hm : b.kind ≠ .map) (hl : len * sz = b.cells.length) (hty : b.ty = e) :
 evAppend T ty (.sl n sz 0 len none) x K = .val (.sl K.length sz 0 (len + k) none) (K.set n none ++ [some ⟨e, b.cells ++ new, .more⟩]) := by
 have hcut : cut b.cells (0 * sz) (len * sz) = some b.cells := by
  unfold cut;rw [if_pos (by omega), Nat.zero_mul, List.drop_zero, List.take_of_length_le (by omega)]
 simp only [evAppend, hu, hz, hbs, hzr, ha];rw [if_pos ⟨hc.1, hc.2.1, hc.2.2, hf⟩, if_pos ⟨trivial, h1, h2⟩];simp only [cellsAt_ofE hb hm, hcut];rw [if_neg (by omega), if_pos ⟨trivial, hl, hty⟩];simp only [setK_eq, newB_eq]
theorem evAppend_none {ty e : TypeId} {sz bs : Nat} {z x : V} {K : Heap} (hu : T.und ty = some (.slice e)) (hz : T.size e = some sz) (hbs : T.bytes e = some bs) (hzr : T.zero e = some z) (hc : 0 < sz ∧ z.cells.length = sz ∧ bs ≤ 1000000)
 (ha : appended T e sz K x = some ([], 0)) : evAppend T ty .nils x K = .val .nils K := by
 simp only [evAppend, hu, hz, hbs, hzr, ha];rw [if_pos ⟨hc.1, hc.2.1, hc.2.2, rfl⟩, if_pos trivial]
theorem evAppend_sl0 {ty e : TypeId} {sz bs n len : Nat} {z x : V} {K : Heap} {b : Blk} (hu : T.und ty = some (.slice e)) (hz : T.size e = some sz) (hbs : T.bytes e = some bs) (hzr : T.zero e = some z) (hc : 0 < sz ∧ z.cells.length = sz ∧ bs ≤ 1000000)
 (ha : appended T e sz K x = some ([], 0)) (h1 : len * bs ≤ 1099511627776) (h2 : len ≤ 1099511627776) (hb : K[n]? = some (some b)) (hm : b.kind ≠ .map) (hl : len * sz = b.cells.length) : evAppend T ty (.sl n sz 0 len none) x K = .val (.sl n sz 0 len none) K := by
 have hcut : cut b.cells (0 * sz) (len * sz) = some b.cells := by
  unfold cut;rw [if_pos (by omega), Nat.zero_mul, List.drop_zero, List.take_of_length_le (by omega)]
 simp only [evAppend, hu, hz, hbs, hzr, ha];rw [if_pos ⟨hc.1, hc.2.1, hc.2.2, rfl⟩, if_pos ⟨trivial, h1, h2⟩];simp only [cellsAt_ofE hb hm, hcut, if_true]
noncomputable def appC (e sz bs k : Nat) (h : SH) (s : E) (es : List E) : SRes := match s with
 | .cv .nils => if k * bs ≤ 1099511627776 ∧ k ≤ 1099511627776 then (match sz, es with
  | 1, [.f1 (.vi .u8) c] => .need (fold2 .leI (.ci 0) c) (.need (fold2 .ltI c (.ci 256)) (.eff (.f2 (.sl 1) h.fresh (.f1 .lenS (.f2 .pushB (.cs []) c))) (h.add (some ⟨e, .f1 .bys (.f2 .pushB (.cs []) c), .more⟩))))
  | sz, es => .eff (.f2 (.sl sz) h.fresh (.ci k)) (h.add (some ⟨e, toE es, .more⟩))) else .no
 | .f2 (.sl s3) n len => if s3 = sz then (match h.look n, h.put n none with
  | some ⟨t, cs, .more⟩, some h1 => if t = e then (match cs, es, len.same (match cs with | .f1 .bys u => .f1 .lenS u | _ => .nil), sz with
   | .f1 .bys u, [.f1 (.vi .u8) c], true, 1 => .need (fold2 .leI (.ci 0) c) (.need (fold2 .ltI c (.ci 256)) (.need (fold2 .leI (fold2 .mul (fold2 .add len (.ci 1)) (.ci bs)) (.ci 1099511627776)) (.need (fold2 .leI (fold2 .add len (.ci 1)) (.ci 1099511627776)) (.eff (.f2 (.sl 1) h1.fresh (.f1 .lenS (.f2 .pushB u c))) (h1.add (some ⟨e, .f1 .bys (.f2 .pushB u c), .more⟩))))))
   | cs, es, _, sz => .need (fold2 .leI (.ci 0) len) (.need (fold2 .eqI (fold2 .mul len (.ci sz)) (.f1 .lenL cs)) (.need (fold2 .leI (fold2 .mul (fold2 .add len (.ci k)) (.ci bs)) (.ci 1099511627776)) (.need (fold2 .leI (fold2 .add len (.ci k)) (.ci 1099511627776)) (.eff (.f2 (.sl sz) h1.fresh (.f2 .add len (.ci k))) (h1.add (some ⟨e, .f2 .cat cs (toE es), .more⟩)))))) ) else .no
  | _, _ => .no) else .no
 | _ => .no
noncomputable def appS (e bs : Nat) (h : SH) (s t : E) : SRes := match s with
 | .cv .nils => .ite (fold2 .eqI (lenE t) (.ci 0)) (.val (.cv .nils)) (.need (fold2 .leI (fold2 .mul (lenE t) (.ci bs)) (.ci 1099511627776)) (.need (fold2 .leI (lenE t) (.ci 1099511627776)) (.eff (.f2 (.sl 1) h.fresh (.f1 .lenS t)) (h.add (some ⟨e, .f1 .bys t, .more⟩)))))
 | .f2 (.sl 1) n len => (match h.look n, h.put n none with
  | some ⟨t2, .f1 .bys u, .more⟩, some h1 => if t2 = e then (bif len.same (.f1 .lenS u) then
   .need (fold2 .leI (fold2 .mul (fold2 .add len (lenE t)) (.ci bs)) (.ci 1099511627776)) (.need (fold2 .leI (fold2 .add len (lenE t)) (.ci 1099511627776)) (.ite (fold2 .eqI (lenE t) (.ci 0)) (.val (.f2 (.sl 1) n len)) (.eff (.f2 (.sl 1) h1.fresh (.f1 .lenS (.f2 .app u t))) (h1.add (some ⟨e, .f1 .bys (.f2 .app u t), .more⟩))))) else .no) else .no
  | _, _ => .no)
 | _ => .no
noncomputable def sAppend (T : Tab) (ty : TypeId) (h : SH) (s x : E) : SRes := match T.und ty with
 | some (.slice e) => (match T.size e, T.bytes e, T.zero e with
  | some sz, some bs, some z => if 0 < sz ∧ z.cells.length = sz ∧ bs ≤ 1000000 then (match x with
   | .f1 (.slc s2 k) m => (match h.look m with
    | some ⟨_, cm, .all⟩ => (match cm.items with
     | some es => if s2 = sz ∧ 0 < k ∧ es.length = k * sz ∧ es.all flatE = true then appC e sz bs k h s es else .no
     | none => .no)
    | _ => .no)
   | .f1 .vs t => if sz = 1 then appS e bs h s t else .no
   | _ => .no) else .no
  | _, _, _ => .no)
 | _ => .no
theorem eqE {a c : E} (h : ((fold2 .eqI a c).den σ).boo = true) : (a.den σ).int = (c.den σ).int := by
 rw [fold2_den] at h;exact eq_of_beq h
theorem neE {a c : E} (h : ((fold2 .eqI a c).den σ).boo = false) : (a.den σ).int ≠ (c.den σ).int := by
 rw [fold2_den] at h;have h : ((a.den σ).int == (c.den σ).int) = false := h;simpa using h
theorem fold2_int {o : O2} {a c : E} : ((fold2 o a c).den σ).int = ((E.f2 o a c).den σ).int := by rw [fold2_den]
theorem put_add (hw : h.WF σ) {n : E} {h1 : SH} {b : SB} (hp : h.put n none = some h1) : (h1.add (some b)).WF σ ∧ (h1.add (some b)).den σ = (h.den σ).set (n.den σ).nat none ++ [some (b.den σ)] ∧ (h1.fresh.den σ).nat = (h.den σ).length := by
 obtain ⟨k1, k2⟩ := SH.put_den hw hp;obtain ⟨a1, a2, a3⟩ := SH.add_den (b := some b) k1;refine ⟨a1, by rw [a2, k2]; rfl, ?_⟩;rw [a3, k2, List.length_set]
theorem appC_ok (hw : h.WF σ) {ty e : TypeId} {sz bs k : Nat} {z x : V} {s : E} {es : List E} (hu : T.und ty = some (.slice e)) (hz : T.size e = some sz) (hbs : T.bytes e = some bs) (hzr : T.zero e = some z) (hc : 0 < sz ∧ z.cells.length = sz ∧ bs ≤ 1000000)
 (ha : appended T e sz (h.den σ) x = some (dv σ es, k)) (hf : (dv σ es).all flat = true) (hk : 0 < k) (hl : es.length = k * sz) : SRes.Ok T call σ (h.den σ) (appC e sz bs k h s es) (evAppend T ty (s.den σ).val x (h.den σ)) := by
 unfold appC;split
 ·split
  ·rename_i hb;have e1 := evAppend_nils hu hz hbs hzr hc ha hf hk hb.1 hb.2;split
   ·rename_i c;intro h1 h2;have h1 : 0 ≤ (c.den σ).int := leE h1;have h2 : (c.den σ).int < 256 := ltE h2;have hk1 : k = 1 := by simp at hl; omega
    subst hk1;obtain ⟨a1, a2, a3⟩ := SH.add_den (b := some ⟨e, .f1 .bys (.f2 .pushB (.cs []) c), .more⟩) hw;refine ⟨?_, a1⟩;simp only [E.den, U.val_uv];rw [e1, a2];simp only [E.den, O1.den, O2.den, U.val_uv, U.int_ui, U.str_us, a3, bD, SB.den, U.lst_ul, List.nil_append, List.length_cons, List.length_nil, Nat.zero_add, Int.toNat_natCast];have := bysV_push [] (c.den σ).int h1 h2;simp only [List.nil_append] at this;rw [show (List.map (fun c => V.i .u8 c.toNat) [UInt8.ofNat (c.den σ).int.toNat]) = bysV [UInt8.ofNat (c.den σ).int.toNat] from rfl, this];rfl
   ·obtain ⟨a1, a2, a3⟩ := SH.add_den (b := some ⟨e, toE es, .more⟩) hw;refine ⟨?_, a1⟩;simp only [E.den, U.val_uv];rw [e1, a2];simp only [E.den, O2.den, U.val_uv, U.int_ui, a3, bD, SB.den, den_toE, Int.toNat_natCast, dv]
  ·trivial
 ·rename_i s3 n len;split
  ·rename_i hs3;subst hs3;split
   ·rename_i t cs h1 hb hp;have hb := SH.look_den hw hb;split
    ·rename_i ht;subst ht;split
     ·rename_i u c hb2 hlen;intro n1 n2 n3 n4;have n1 : 0 ≤ (c.den σ).int := leE n1;have n2 : (c.den σ).int < 256 := ltE n2;have hlen := E.same_eq _ _ hlen;subst hlen;have n3 := leE n3;have n4 := leE n4;simp only [fold2_int, fold2_den, E.den, O1.den, O2.den, U.int_ui] at n3 n4;have hk1 : k = 1 := by simp at hl; omega
      subst hk1;have n5 : ((u.den σ).str.length + 1) * bs ≤ 1099511627776 := Int.ofNat_le.1 (by rw [Int.natCast_mul, Int.natCast_add]; exact n3);have e1 := evAppend_sl (len := (u.den σ).str.length) hu hz hbs hzr hc ha hf hk n5 (by omega) hb (by simp) (by simp) rfl;obtain ⟨a1, a2, a3⟩ := put_add (b := ⟨t, .f1 .bys (.f2 .pushB u c), .more⟩) hw hp;refine ⟨?_, a1⟩;simp only [E.den, O1.den, O2.den, U.val_uv, U.int_ui, Int.toNat_natCast];rw [e1, a2];simp only [a3, SB.den, E.den, O1.den, O2.den, U.lst_ul, U.str_us, U.int_ui, List.length_append, List.length_cons, List.length_nil, Nat.zero_add];have := bysV_push (u.den σ).str (c.den σ).int n1 n2;simp only [bysV] at this;rw [this];rfl
     ·rename_i hsm;intro n1 n2 n3 n4;have n1 : 0 ≤ (len.den σ).int := leE n1;have n2 := eqE n2;have n3 := leE n3;have n4 := leE n4;simp only [fold2_int, fold2_den, E.den, O1.den, O2.den, U.int_ui] at n2 n3 n4;obtain ⟨m, hm⟩ := Int.eq_ofNat_of_zero_le n1;rw [hm] at n2 n3 n4;have e1 := evAppend_sl (len := m) hu hz hbs hzr hc ha hf hk (Int.ofNat_le.1 (by rw [Int.natCast_mul, Int.natCast_add]; exact n3)) (by omega) hb (by simp) (Int.ofNat_inj.1 (by rw [Int.natCast_mul]; exact n2)) rfl;refine ⟨?_, (put_add hw hp).1⟩;obtain ⟨-, a2, a3⟩ := put_add (b := ⟨t, .f2 .cat _ (toE _), .more⟩) hw hp;simp only [E.den, O1.den, O2.den, U.val_uv, U.int_ui, hm, Int.toNat_natCast];rw [e1, a2];simp only [a3, SB.den, E.den, O2.den, U.lst_ul, U.int_ui, den_toE, dv];rw [show ((m : Int) + (k : Int)).toNat = m + k from by omega]
    ·trivial
   ·trivial
  ·trivial
 ·trivial
theorem appS_ok (hw : h.WF σ) {ty e : TypeId} {bs : Nat} {z : V} {s t : E} (hu : T.und ty = some (.slice e)) (hz : T.size e = some 1) (hbs : T.bytes e = some bs) (hzr : T.zero e = some z) (hc : 0 < 1 ∧ z.cells.length = 1 ∧ bs ≤ 1000000) :
 SRes.Ok T call σ (h.den σ) (appS e bs h s t) (evAppend T ty (s.den σ).val (.s (t.den σ).str) (h.den σ)) := by
 have ha : appended T e 1 (h.den σ) (.s (t.den σ).str) = some (bysV (t.den σ).str, (t.den σ).str.length) := by simp [appended, bysV]
 have hl : ((lenE t).den σ).int = ((t.den σ).str.length : Nat) := by rw [lenE_den]; rfl
 unfold appS;split
 ·refine ⟨fun h0 => ?_, fun h0 => ?_⟩
  ·have h0 := eqE h0;rw [hl] at h0;have h0 : ((t.den σ).str.length : Int) = 0 := h0;have h0 : (t.den σ).str = [] := List.eq_nil_of_length_eq_zero (by omega);rw [h0] at ha;simp only [SRes.Ok, E.den, U.val_uv];rw [evAppend_none hu hz hbs hzr hc (by rw [h0]; exact ha)]
  ·have h0 := neE h0;rw [hl] at h0;have h0 : ((t.den σ).str.length : Int) ≠ 0 := h0;intro n1 n2;have n1 := leE n1;have n2 := leE n2;rw [fold2_int] at n1;simp only [E.den, O2.den, U.int_ui, hl] at n1 n2;have n5 : (t.den σ).str.length * bs ≤ 1099511627776 := Int.ofNat_le.1 (by rw [Int.natCast_mul]; exact n1);have e1 := evAppend_nils hu hz hbs hzr hc ha (bysV_flat _) (by omega) n5 (by omega);obtain ⟨a1, a2, a3⟩ := SH.add_den (b := some ⟨e, .f1 .bys t, .more⟩) hw;refine ⟨?_, a1⟩;simp only [E.den, U.val_uv];rw [e1, a2];simp only [E.den, O1.den, O2.den, U.val_uv, U.int_ui, a3, bD, SB.den, U.lst_ul, Int.toNat_natCast];rfl
 ·rename_i n len;split
  ·rename_i t2 u h1 hb hp;have hb := SH.look_den hw hb;split
   ·rename_i ht;subst ht;cases hsm : len.same (.f1 .lenS u)
    ·trivial
    ·have hsm := E.same_eq _ _ hsm;subst hsm;intro n1 n2;have n1 := leE n1;have n2 := leE n2;rw [fold2_int] at n1 n2;simp only [fold2_int, fold2_den, E.den, O2.den, O1.den, U.int_ui, hl] at n1 n2;have n5 : ((u.den σ).str.length + (t.den σ).str.length) * bs ≤ 1099511627776 := Int.ofNat_le.1 (by rw [Int.natCast_mul, Int.natCast_add]; exact n1);refine ⟨fun h0 => ?_, fun h0 => ?_⟩
     ·have h0 := eqE h0;rw [hl] at h0;have h0 : ((t.den σ).str.length : Int) = 0 := h0;have h0 : (t.den σ).str = [] := List.eq_nil_of_length_eq_zero (by omega);rw [h0] at ha n5;simp only [SRes.Ok, E.den, O1.den, O2.den, U.val_uv, U.int_ui, Int.toNat_natCast];rw [evAppend_sl0 hu hz hbs hzr hc (by rw [h0]; exact ha) (by simpa using n5) (by omega) hb (by simp) (by simp)]
     ·have h0 := neE h0;rw [hl] at h0;have h0 : ((t.den σ).str.length : Int) ≠ 0 := h0;have e1 := evAppend_sl (len := (u.den σ).str.length) hu hz hbs hzr hc ha (bysV_flat _) (by omega) n5 (by omega) hb (by simp) (by simp) rfl;refine ⟨?_, (put_add hw hp).1⟩;obtain ⟨-, a2, a3⟩ := put_add (b := ⟨t2, .f1 .bys (.f2 .app u t), .more⟩) hw hp;simp only [E.den, O1.den, O2.den, U.val_uv, U.int_ui, Int.toNat_natCast];rw [e1, a2];simp only [a3, SB.den, E.den, O1.den, O2.den, U.lst_ul, U.str_us, U.int_ui, List.length_append, bysV, List.map_append]
   ·trivial
  ·trivial
 ·trivial
theorem sAppend_ok (hw : h.WF σ) (ty : TypeId) (s x : E) : SRes.Ok T call σ (h.den σ) (sAppend T ty h s x) (evAppend T ty (s.den σ).val (x.den σ).val (h.den σ)) := by
 unfold sAppend;split
 ·rename_i e hu;split
  ·rename_i sz bs z hz hbs hzr;split
   ·rename_i hc;split
    ·rename_i s2 k m;split
     ·rename_i t2 cm hb;have hb := SH.look_den hw hb;split
      ·rename_i es he;split
       ·rename_i hk;obtain ⟨rfl, h1, h2, h3⟩ := hk;have hcs : (cm.den σ).lst = dv σ es := E.items_den σ _ _ he;have hf : (dv σ es).all flat = true := by
         rw [dv, List.all_map];exact List.all_eq_true.2 fun e hm => flatE_ok (List.all_eq_true.1 h3 e hm)
        have ha : appended T e s2 (h.den σ) ((E.f1 (.slc s2 k) m).den σ).val = some (dv σ es, k) := by
         simp only [E.den, O1.den, U.val_uv, appended, if_true, cellsAt_ofE hb (show (SB.den σ ⟨t2, cm, .all⟩).kind ≠ .map by simp), SB.den, hcs, cut, Nat.zero_mul, Nat.zero_add, List.drop_zero];rw [if_pos (by simp [dv]; omega), List.take_of_length_le (by simp [dv]; omega)];rfl
        exact appC_ok hw hu hz hbs hzr hc ha hf h1 h2
       ·trivial
      ·trivial
     ·trivial
    ·split
     ·rename_i h1;subst h1;exact appS_ok hw hu hz hbs hzr hc
     ·trivial
    ·trivial
   ·trivial
  ·trivial
 ·trivial
def repsE : Nat → List E → List E
 | 0, _ => []
 | n + 1, l => l ++ repsE n l
theorem repsE_dv : ∀ (n : Nat) (l : List E), dv σ (repsE n l) = reps n (dv σ l)
 | 0, _ => rfl
 | n + 1, l => by
  have := repsE_dv n l;simp only [dv, repsE, List.map_append, reps] at this ⊢;rw [this]
theorem cut_bys (s : List UInt8) : cut (bysV s) 0 s.length = some (bysV s) := by
 have hl : (bysV s).length = s.length := by simp [bysV]
 unfold cut;rw [if_pos (by omega), List.drop_zero, List.take_of_length_le (by omega)]
theorem unsafeBys {ty e : TypeId} (hu : T.und ty = some (.pointer e)) (hz : T.size e = some 1) {K : Heap} {n : Nat} {b : Blk} {s : List UInt8} (hb : K[n]? = some (some b)) (hk : b.kind ≠ .map) (hc : b.cells = bysV s) (hty : b.ty = e) {k : IntKind} (m : Int) (hm : m = s.length) (h0 : 0 < m) (h1 : m ≤ 1099511627776) :
 evUnsafeString T ty (.ptr n 0) (.i k m) K = .val (.s s) (K.set n (some ⟨e, .tup [] :: bysV s, .map⟩)) := by
 have hne : ¬ m = 0 := by omega
 have hmn : m.toNat = s.length := by omega
 simp only [evUnsafeString, if_neg hne, if_pos (And.intro h0 h1), hu, cellsAt_ofE hb hk, hty, hz, if_true, and_self, hc, hmn, cut_bys, bytesV_bys, setK_eq]
theorem unsafeFrz {ty e : TypeId} (hu : T.und ty = some (.pointer e)) (hz : T.size e = some 1) {K : Heap} {n : Nat} {s : List UInt8} (hb : K[n]? = some (some ⟨e, .tup [] :: bysV s, .map⟩)) {k : IntKind} (m : Int) (hm : m = s.length) (h0 : 0 < m) (h1 : m ≤ 1099511627776) :
 evUnsafeString T ty (.ptr n 0) (.i k m) K = .val (.s s) K := by
 have hne : ¬ m = 0 := by omega
 have hmn : m.toNat = s.length := by omega
 have e1 : cellsAt K n = none := by simp [cellsAt, hb]
 have e2 : frzAt K n = some ⟨e, bysV s, .map⟩ := by simp [frzAt, hb, frzC]
 simp only [evUnsafeString, if_neg hne, if_pos (And.intro h0 h1), hu, e1, e2, hz, if_true, and_self, hmn, cut_bys, bytesV_bys]
noncomputable def sUnsafe (T : Tab) (ty : TypeId) (h : SH) (n len : E) : SRes := match T.und ty, h.look n with
 | some (.pointer e), some ⟨t, .f1 .bys s, .more⟩ => if t = e ∧ T.size e = some 1 ∧ len.same (.f1 .lenS s) = true then
  .need (fold2 .ltI (.ci 0) len) (.need (fold2 .leI len (.ci 1099511627776)) (match h.put n (some ⟨e, .f2 .cons (.cv (.tup [])) (.f1 .bys s), .map⟩) with | some h1 => .eff (.f1 .vs s) h1 | none => .no)) else .no
 | some (.pointer e), some ⟨t, .f2 .cons (.cv (.tup [])) (.f1 .bys s), .map⟩ => if t = e ∧ T.size e = some 1 ∧ len.same (.f1 .lenS s) = true then
  .need (fold2 .ltI (.ci 0) len) (.need (fold2 .leI len (.ci 1099511627776)) (.val (.f1 .vs s))) else .no
 | _, _ => .no
theorem sUnsafe_ok (hw : h.WF σ) (ty : TypeId) (n len : E) (k : IntKind) : SRes.Ok T call σ (h.den σ) (sUnsafe T ty h n len) (evUnsafeString T ty (.ptr (n.den σ).nat 0) (.i k (len.den σ).int) (h.den σ)) := by
 unfold sUnsafe;split
 ·rename_i e t s hu hb;have hb := SH.look_den hw hb;split
  ·rename_i hc;obtain ⟨rfl, h3, h4⟩ := hc;have h4 := E.same_eq _ _ h4;subst h4;intro n1 n2;have n1 := ltE n1;have n2 := leE n2;simp only [E.den, O1.den, U.int_ui] at n1 n2;split
   ·rename_i h1 hp;obtain ⟨k1, k2⟩ := SH.put_den hw hp;refine ⟨?_, k1⟩;have hk : (SB.den σ ⟨t, .f1 .bys s, .more⟩).kind ≠ .map := by simp
    show evUnsafeString T ty (.ptr (n.den σ).nat 0) (.i k ((s.den σ).str.length : Nat)) (h.den σ) = .val (.s (s.den σ).str) (h1.den σ);rw [unsafeBys hu h3 hb hk rfl rfl _ rfl n1 n2, k2];rfl
   ·trivial
  ·trivial
 ·rename_i e t s hu hb;have hb := SH.look_den hw hb;split
  ·rename_i hc;obtain ⟨rfl, h3, h4⟩ := hc;have h4 := E.same_eq _ _ h4;subst h4;intro n1 n2;have n1 := ltE n1;have n2 := leE n2;simp only [E.den, O1.den, U.int_ui] at n1 n2;show evUnsafeString T ty (.ptr (n.den σ).nat 0) (.i k ((s.den σ).str.length : Nat)) (h.den σ) = .val (.s (s.den σ).str) (h.den σ);exact unsafeFrz hu h3 hb _ rfl n1 n2
  ·trivial
 ·trivial
noncomputable def sCall (T : Tab) (c : Call) (tm : List (Nat × E)) (h : SH) : SRes := match svs tm c.args.toList with
 | none => .no
 | some av => match c.callee with
  | .value f => (match sv tm f with
   | some (.f1 (.fn g) cap) => (match cap.items with
    | some cs => (match T.ext g with
     | some _ => .ask (.ext g (toE (av ++ cs)))
     | none => .ask (.call g (toE (av ++ cs))))
    | none => .no)
   | _ => .no)
  | .builtin .len => (match c.argTypes[0]?, av with
   | some ty, [x] => sLen T ty x
   | _, _ => .no)
  | .builtin .append => (match c.argTypes[0]?, c.argTypes[1]?, av with
   | some ty, some ty2, [s, x] => (match T.und ty2 with
    | some (.slice _) => sAppend T ty h s x
    | some .string => sAppend T ty h s x
    | _ => .no)
   | _, _, _ => .no)
  | .builtin .unsafeSliceData => (match av with
   | [.cv .nils] => .val (.cv .nilp)
   | [.f2 (.sl _) n len] => .need (fold2 .ltI (.ci 0) len) (.val (.f1 (.ptr 0) n))
   | _ => .no)
  | .builtin .unsafeString => (match c.argTypes[0]?, av with
   | some _, [.cv .nilp, .f1 (.vi _) (.ci 0)] => .val (.f1 .vs (.cs []))
   | some ty, [.f1 (.ptr 0) n, .f1 (.vi _) len] => sUnsafe T ty h n len
   | _, _ => .no)
  | _ => .no
theorem sCall_ok (hs : Sees σ tm t) (hw : h.WF σ) (c : Call) : SRes.Ok T call σ (h.den σ) (sCall T c tm h) (evCall T call c t (h.den σ)) := by
 unfold sCall;split
 ·trivial
 ·rename_i av has;have has := svs_ok hs has;split
  ·rename_i f hf;split
   ·rename_i g cap hg;have hg := sv_ok hs hg;split
    ·rename_i cs hcs;have hcs : (cap.den σ).lst = dv σ cs := E.items_den σ _ _ hcs;split
     ·rename_i F hF;simp only [SRes.Ok, Ask.den, hF, den_toE, evCall, has, hf, hg, E.den, O1.den, U.val_uv, hcs, dv, List.map_append]
     ·rename_i hF;simp only [SRes.Ok, Ask.den, den_toE, evCall, has, hf, hg, E.den, O1.den, U.val_uv, hcs, dv, List.map_append, hF]
    ·trivial
   ·trivial
  ·rename_i hf;split
   ·simp only [evCall, has, hf, List.map_cons, List.map_nil, *];exact sLen_ok _ _
   ·trivial
  ·rename_i hf;split
   ·rename_i ty ty2 s x h1 h2;split
    ·rename_i hu;simp only [evCall, has, hf, List.map_cons, List.map_nil, *];exact sAppend_ok hw _ _ _
    ·rename_i hu;simp only [evCall, has, hf, List.map_cons, List.map_nil, *];exact sAppend_ok hw _ _ _
    ·trivial
   ·trivial
  ·rename_i hf;split
   ·simp only [evCall, has, hf, List.map_cons, List.map_nil];rfl
   ·intro h1;have h1 := ltE h1;simp only [evCall, has, hf, List.map_cons, List.map_nil, E.den, O2.den, U.val_uv, evSliceData];simp only [E.den, U.int_ui] at h1;rw [if_pos (by omega)];simp [SRes.Ok, lift]
   ·trivial
  ·rename_i hf;split
   ·simp only [evCall, has, hf, List.map_cons, List.map_nil, *];rfl
   ·simp only [evCall, has, hf, List.map_cons, List.map_nil, *];exact sUnsafe_ok hw _ _ _ _
   ·trivial
  ·trivial
noncomputable def fillE (place : Nat → Option (Nat × Nat)) (cells : List E) : List (Nat × E) → Option (List E)
 | [] => some cells
 | (i, v) :: rest => match place i, cellsE v with
  | some (off, size), some cs => if cs.length = size ∧ off + cs.length ≤ cells.length then fillE place (spliceE cells off cs) rest else none
  | _, _ => none
theorem fillE_ok {place : Nat → Option (Nat × Nat)} : ∀ {ps : List (Nat × E)} {cells r : List E}, fillE place cells ps = some r → fillV place (dv σ cells) (ps.map fun p => (p.1, (p.2.den σ).val)) = some (dv σ r)
 | [], cells, r, h => by cases h; rfl
 | (i, v) :: rest, cells, r, h => by
  simp only [fillE] at h;split at h
  ·rename_i off size cs hp hc;split at h
   ·rename_i hl;have hc := (cellsE_ok (σ := σ) hc).1;have ih := fillE_ok h;rw [spliceE_dv] at ih;simp only [List.map_cons, fillV, hp, hc];rw [if_pos (by simpa [dv] using hl)];exact ih
   ·cases h
  ·cases h
noncomputable def svParts (tm : List (Nat × E)) : List (Nat × Operand) → Option (List (Nat × E))
 | [] => some []
 | (i, o) :: r => match sv tm o, svParts tm r with
  | some x, some l => some ((i, x) :: l)
  | _, _ => none
theorem svParts_ok (h : Sees σ tm t) : ∀ {l : List (Nat × Operand)} {es : List (Nat × E)}, svParts tm l = some es → evParts t l = some (es.map fun p => (p.1, (p.2.den σ).val))
 | [], _, e => by cases e; rfl
 | (i, o) :: r, es, e => by
  simp only [svParts] at e;split at e
  ·rename_i x l hx hl;cases e;simp only [evParts, sv_ok h hx, svParts_ok h hl, List.map_cons]
  ·cases e
theorem dv_ofV1 (l : List V) : dv σ (l.map ofV1) = l := by
 induction l with
 | nil => rfl
 | cons v l ih => simp only [dv, List.map_cons, den_ofV1] at ih ⊢; rw [ih]
noncomputable def sBuild (T : Tab) (ty : TypeId) (ps : List (Nat × E)) : SRes := match T.zero ty, T.und ty with
 | some z, some (.struct fs) => (match placesOf T fs.toList with
  | some pl => (match fillE (fun i => pl[i]?) (z.cells.map ofV1) ps with
   | some cs => .val (.f1 .agg (toE cs))
   | none => .no)
  | none => .no)
 | some z, some (.array _ e) => (match T.size e with
  | some n => (match fillE (fun i => some (i * n, n)) (z.cells.map ofV1) ps with
   | some cs => .val (.f1 .agg (toE cs))
   | none => .no)
  | none => .no)
 | _, _ => .no
theorem sBuild_ok (ty : TypeId) (ps : List (Nat × E)) : SRes.Ok T call σ H (sBuild T ty ps) (lift (evBuild T ty (ps.map fun p => (p.1, (p.2.den σ).val))) H) := by
 unfold sBuild;split
 ·rename_i z fs hz hu;split
  ·rename_i pl hpl;split
   ·rename_i cs hcs;have := fillE_ok (σ := σ) hcs;rw [dv_ofV1] at this;simp only [SRes.Ok, evBuild, hz, hu, hpl, this, Option.map_some, lift, E.den, O1.den, U.val_uv, den_toE]
   ·trivial
  ·trivial
 ·rename_i z m e hz hu;split
  ·rename_i n hn;split
   ·rename_i cs hcs;have := fillE_ok (σ := σ) hcs;rw [dv_ofV1] at this;simp only [SRes.Ok, evBuild, hz, hu, hn, this, Option.map_some, lift, E.den, O1.den, U.val_uv, den_toE]
   ·trivial
  ·trivial
 ·trivial
noncomputable def sBuildSlice (T : Tab) (ty : TypeId) (len : Nat) (ps : List (Nat × E)) (h : SH) : SRes := match T.und ty with
 | some (.slice e) => (match T.size e, T.zero e with
  | some n, some z => if n = z.cells.length ∧ 0 < n ∧ len * n ≤ 16777216 then (match fillE (fun i => some (i * n, n)) (repsE len (z.cells.map ofV1)) ps with
   | some cs => .eff (.f1 (.slc n len) h.fresh) (h.add (some ⟨e, toE cs, .all⟩))
   | none => .no) else .no
  | _, _ => .no)
 | _ => .no
theorem sBuildSlice_ok (hw : h.WF σ) (ty : TypeId) (len : Nat) (ps : List (Nat × E)) : SRes.Ok T call σ (h.den σ) (sBuildSlice T ty len ps h) (evBuildSlice T ty len (ps.map fun p => (p.1, (p.2.den σ).val)) (h.den σ)) := by
 unfold sBuildSlice;split
 ·rename_i e hu;split
  ·rename_i n z hn hz;split
   ·rename_i hc;split
    ·rename_i cs hcs;have k1 := fillE_ok (σ := σ) hcs;rw [repsE_dv, dv_ofV1] at k1;obtain ⟨a1, a2, a3⟩ := SH.add_den (b := some ⟨e, toE cs, .all⟩) hw;refine ⟨?_, a1⟩;simp only [evBuildSlice, hu, hn, hz, if_pos hc, k1];rw [newB_eq, a2];simp only [E.den, O1.den, U.val_uv, a3, bD, SB.den, den_toE]
    ·trivial
   ·trivial
  ·trivial
 ·trivial
/-! Maps whose keys are known. -/
noncomputable def closedV : E → Option V
 | .f1 (.vi k) (.ci n) => some (.i k n)
 | .f1 .vs (.cs l) => some (.s l)
 | .f1 .vb (.cb c) => some (.b c)
 | _ => none
theorem closedV_ok {e : E} {v : V} (h : closedV e = some v) : (e.den σ).val = v := by
 unfold closedV at h;split at h <;> cases h <;> rfl
noncomputable def mapSetE (d : Option TypeDesc) (kv : V) (k v : E) : List E → Option (List E)
 | k' :: v' :: l => match closedV k' with
  | some c => (match sameKey d kv c with
   | some true => some (k :: v :: l)
   | some false => (match mapSetE d kv k v l with
    | some r => some (k' :: v' :: r)
    | none => none)
   | none => none)
  | none => none
 | [_] => none
 | [] => some [k, v]
theorem mapSetE_ok {d : Option TypeDesc} {kv : V} {k v : E} (hk : (k.den σ).val = kv) : ∀ {l r : List E}, mapSetE d kv k v l = some r → mapSet d kv (v.den σ).val (dv σ l) = some (dv σ r)
 | [], r, h => by cases h; simp [dv, mapSet, hk]
 | [_], r, h => by cases h
 | k' :: v' :: l, r, h => by
  simp only [mapSetE] at h;split at h
  ·rename_i c hc;have hc := closedV_ok (σ := σ) hc;split at h
   ·rename_i hs;cases h;simp only [dv, List.map_cons, mapSet, hc, hs, hk]
   ·rename_i hs;split at h
    ·rename_i r' hr;cases h;have ih := mapSetE_ok hk hr;simp only [dv, List.map_cons, mapSet, hc, hs] at ih ⊢;rw [ih]
    ·cases h
   ·cases h
  ·cases h
theorem mapSetE_frz {d : Option TypeDesc} {kv : V} {k v : E} : ∀ {l r : List E}, mapSetE d kv k v l = some r → (frzC (dv σ l)).isNone = true
 | [], _, _ => rfl
 | [_], r, h => by cases h
 | k' :: v' :: l, r, h => by
  simp only [mapSetE] at h;split at h
  ·rename_i c hc;have hd := closedV_ok (σ := σ) hc;unfold closedV at hc;simp only [dv, List.map_cons, hd];split at hc <;> first | (cases hc; rfl) | cases hc
  ·cases h
noncomputable def sMapSet (T : Tab) (ty : TypeId) (m k v : E) (h : SH) : SRes := match T.und ty, m with
 | some (.map kt _), .f1 .mp n => (match h.look n with
  | some ⟨t, cs, .map⟩ => (match cs.items, closedV k with
   | some es, some kv => if goodKey (T.und kt) kv = true then (match mapSetE (T.und kt) kv k v es with
    | some r => (match h.put n (some ⟨t, toE r, .map⟩) with
     | some h' => .eff (.cv .un) h'
     | none => .no)
    | none => .no) else .no
   | _, _ => .no)
  | _ => .no)
 | _, _ => .no
theorem sMapSet_ok (hw : h.WF σ) (ty : TypeId) (m k v : E) : SRes.Ok T call σ (h.den σ) (sMapSet T ty m k v h) (evMapSet T ty (m.den σ).val (k.den σ).val (v.den σ).val (h.den σ)) := by
 unfold sMapSet;split
 ·rename_i kt et n hu;split
  ·rename_i t cs hb;have hb := SH.look_den hw hb;split
   ·rename_i es kv he hk;have hk := closedV_ok (σ := σ) hk;have he : (cs.den σ).lst = dv σ es := E.items_den σ _ _ he;split
    ·rename_i hg;split
     ·rename_i r hr;have hfz := mapSetE_frz (σ := σ) hr;have hr := mapSetE_ok hk hr;split
      ·rename_i h' hp;obtain ⟨k1, k2⟩ := SH.put_den hw hp;refine ⟨?_, k1⟩;simp only [E.den, O1.den, U.val_uv, evMapSet, hu, mapAt, hb, SB.den, he, hfz, and_self, if_true, hk, hg, hr, setB_eq, k2, bD, den_toE, dv]
      ·trivial
     ·trivial
    ·trivial
   ·trivial
  ·trivial
 ·trivial
noncomputable def sAssert (T : Tab) (ty : TypeId) (ok : Bool) (x : E) : SRes := match T.und ty with
 | some (.interface _) => .no
 | none => .no
 | some _ => match x with
  | .f1 (.ifc j) v => if j = ty then .val (bif ok then .f1 .tup (.f2 .cons v (.f2 .cons (.f1 .vb (.cb true)) .nil)) else v) else bif ok then (match T.zero ty with
   | some z => .val (.f1 .tup (.f2 .cons (ofV z) (.f2 .cons (.f1 .vb (.cb false)) .nil)))
   | none => .no) else .no
  | _ => .no
theorem sAssert_ok (ty : TypeId) (ok : Bool) (x : E) : SRes.Ok T call σ H (sAssert T ty ok x) (lift (evAssert T ty ok (x.den σ).val) H) := by
  cases hd : T.und ty with
  | none => simp only [sAssert, hd]; trivial
  | some d =>
    have key : (∃ m, d = .interface m) ∨ (sAssert T ty ok x = (match x with
    | .f1 (.ifc j) v => if j = ty then .val (bif ok then .f1 .tup (.f2 .cons v (.f2 .cons (.f1 .vb (.cb true)) .nil)) else v) else bif ok then (match T.zero ty with
      | some z => .val (.f1 .tup (.f2 .cons (ofV z) (.f2 .cons (.f1 .vb (.cb false)) .nil)))
      | none => .no) else .no
    | _ => .no) ∧ ∀ p, evAssert T ty ok p = match p with
    | .ifc t v => if t = ty then some (bif ok then .tup [v, .b true] else v) else bif ok then (T.zero ty).map fun z => .tup [z, .b false] else none
    | .nili => bif ok then (T.zero ty).map fun z => .tup [z, .b false] else none
    | _ => none) := by
      cases d <;> first | exact .inl ⟨_, rfl⟩ | exact .inr ⟨by simp only [sAssert, hd], fun p => by simp only [evAssert, hd]; cases p <;> rfl⟩
    rcases key with ⟨m, rfl⟩ | ⟨k1, k2⟩
    · simp only [sAssert, hd]; trivial
    · rw [k1, k2]
      split
      · rename_i j v
        simp only [E.den, O1.den, U.val_uv]
        split
        · cases ok <;> simp [SRes.Ok, lift]
        · cases ok with
          | false => trivial
          | true =>
            simp only [cond_true]
            split
            · rename_i z hz
              simp [SRes.Ok, lift, hz, den_ofV]
            · trivial
      · trivial
noncomputable def ofO : Option E → SRes
 | some e => .val e
 | none => .no
theorem ofO_ok (hs : Sees σ tm t) (x : Operand) : SRes.Ok T call σ H (ofO (sv tm x)) (lift (ev1 t x) H) := by
 cases hx : sv tm x with
 | none => trivial
 | some e => simp only [ofO, SRes.Ok, sv_ok hs hx, lift]
noncomputable def symOp (T : Tab) (op : Op) (tm : List (Nat × E)) (h : SH) : SRes := match op with
 | .move x => ofO (sv tm x)
 | .assign x => ofO (sv tm x)
 | .pick c a b => (match sv tm c with
  | some (.f1 .vb c) => .ite c (ofO (sv tm a)) (ofO (sv tm b))
  | _ => .no)
 | .alloc e => (match T.zero e with
  | some z => .eff (.f1 (.ptr 0) h.fresh) (h.add (some ⟨e, toE (z.cells.map ofV1), .all⟩))
  | none => .no)
 | .box e x => (match sv tm x with
  | some v => (match cellsE v with
   | some cs => .eff (.f1 (.ptr 0) h.fresh) (h.add (some ⟨e, toE cs, .all⟩))
   | none => .no)
  | none => .no)
 | .build ty parts => (match svParts tm parts.toList with
  | some ps => sBuild T ty ps
  | none => .no)
 | .buildSlice ty len parts => (match svParts tm parts.toList with
  | some ps => sBuildSlice T ty len ps h
  | none => .no)
 | .makeMap ty r => (match r with
  | none => .eff (.f1 .mp h.fresh) (h.add (some ⟨ty, .nil, .map⟩))
  | some _ => .no)
 | .mapUpdate ty m k v => (match sv tm m, sv tm k, sv tm v with
  | some p, some q, some x => sMapSet T ty p q x h
  | _, _, _ => .no)
 | .insert ty m k v => (match sv tm m, sv tm k, sv tm v with
  | some p, some q, some x => sMapSet T ty p q x h
  | _, _, _ => .no)
 | .load ty a => (match sv tm a with
  | some p => sLoadS T ty h p
  | none => .no)
 | .store ty a x => (match sv tm a, sv tm x with
  | some p, some v => sStoreS T ty h p v
  | _, _ => .no)
 | .nilCheck x => (match sv tm x with
  | some (.f1 (.ptr off) n) => .val (.f1 (.ptr off) n)
  | some (.cv (.gp g off)) => .val (.cv (.gp g off))
  | some (.f3 (.ipt z o) l j k) => .val (.f3 (.ipt z o) l j k)
  | some (.f1 (.fn g) c) => .val (.f1 (.fn g) c)
  | _ => .no)
 | .binOp op xT x y _ => (match sv tm x, sv tm y with
  | some p, some q => sBin T op xT y p q
  | _, _ => .no)
 | .unOp op _ x => (match sv tm x with
  | some p => sUn op p
  | none => .no)
 | .convert src dst x => (match sv tm x with
  | some p => sConvS T src dst h p
  | none => .no)
 | .makeInterface ty x => (match T.und ty, sv tm x with
  | some (.interface _), _ => .no
  | some _, some v => .val (.f1 (.ifc ty) v)
  | _, _ => .no)
 | .makeFunc (.func g) first captured => (match first.toList, svs tm captured.toList with
  | [], some cs => .val (.f1 (.fn g) (toE cs))
  | _, _ => .no)
 | .slice ty x lo hi mx => (match sv tm x with
  | some p => sSlice T ty tm p lo hi mx
  | none => .no)
 | .fieldAddr ty x f => (match sv tm x with
  | some p => sFieldAddr T ty p f
  | none => .no)
 | .field ty x f => (match sv tm x with
  | some p => sField T ty p f
  | none => .no)
 | .indexAddr ty x ix => (match sv tm x, sv tm ix with
  | some p, some q => sAddrS T ty p q
  | _, _ => .no)
 | .index ty x ix => (match sv tm x, sv tm ix with
  | some p, some q => sIndex T ty p q
  | _, _ => .no)
 | .extract x ix => (match sv tm x with
  | some (.f1 .tup l) => (match l.items with
   | some es => ofO (nthU es ix)
   | none => .no)
  | _ => .no)
 | .lookup ty m k ok => (match sv tm m, sv tm k with
  | some p, some q => .ask (.lookup ty p q ok)
  | _, _ => .no)
 | .call c => sCall T c tm h
 | .panic x => (match sv tm x with
  | some (.f1 (.ifc ty) v) => .pan (.f1 (.ifc ty) v)
  | _ => .no)
 | .typeAssert x _ ty ok => (match sv tm x with
  | some p => sAssert T ty ok p
  | none => .no)
 | _ => .no
theorem symOp_ok (hs : Sees σ tm t) (hw : h.WF σ) (o : Oper) : SRes.Ok T call σ (h.den σ) (symOp T o.op tm h) (evOp T call o t (h.den σ)) := by
 unfold symOp evOp;cases ho : o.op;all_goals try dsimp only
 all_goals first
  | trivial
  | exact ofO_ok hs _
  | exact sCall_ok hs hw _
  | skip
 case pick c a b =>
  split
  ·rename_i e hc;have hc := sv_ok hs hc;simp only [E.den, O1.den, U.val_uv] at hc;simp only [hc];refine ⟨fun h1 => ?_, fun h1 => ?_⟩
   ·rw [h1]; exact ofO_ok hs _
   ·rw [h1]; exact ofO_ok hs _
  ·trivial
 case alloc e =>
  split
  ·rename_i z hz;obtain ⟨h1, h2, h3⟩ := SH.add_den (b := some ⟨e, toE (z.cells.map ofV1), .all⟩) hw;refine ⟨?_, h1⟩;simp only [hz];rw [newB_eq, h2];simp only [E.den, O1.den, U.val_uv, h3, bD, SB.den, den_toE];have := dv_ofV1 (σ := σ) z.cells;simp only [dv] at this;rw [this]
  ·trivial
 case box e x =>
  split
  ·rename_i v hv;have hv := sv_ok hs hv;split
   ·rename_i cs hcs;obtain ⟨c1, c2⟩ := cellsE_ok (σ := σ) hcs;obtain ⟨h1, h2, h3⟩ := SH.add_den (b := some ⟨e, toE cs, .all⟩) hw;refine ⟨?_, h1⟩;simp only [hv, c1, c2, if_true];rw [newB_eq, h2];simp only [E.den, O1.den, U.val_uv, h3, bD, SB.den, den_toE, dv]
   ·trivial
  ·trivial
 case build ty parts =>
  split
  ·rename_i ps hp;rw [svParts_ok hs hp];exact sBuild_ok ty ps
  ·trivial
 case buildSlice ty len parts =>
  split
  ·rename_i ps hp;rw [svParts_ok hs hp];exact sBuildSlice_ok hw ty len ps
  ·trivial
 case makeMap ty r =>
  split
  ·obtain ⟨a1, a2, a3⟩ := SH.add_den (b := some ⟨ty, .nil, .map⟩) hw;refine ⟨?_, a1⟩;rw [newB_eq, a2];simp only [E.den, O1.den, U.val_uv, a3, bD, SB.den, U.lst_ul]
  ·trivial
 case mapUpdate ty m k v =>
  split
  ·rename_i p q x hp hq hx;rw [sv_ok hs hp, sv_ok hs hq, sv_ok hs hx];exact sMapSet_ok hw ty p q x
  ·trivial
 case insert ty m k v =>
  split
  ·rename_i p q x hp hq hx;rw [sv_ok hs hp, sv_ok hs hq, sv_ok hs hx];exact sMapSet_ok hw ty p q x
  ·trivial
 case load ty a =>
  split
  ·rename_i p hp;rw [sv_ok hs hp];exact sLoadS_ok hw ty p
  ·trivial
 case store ty a x =>
  split
  ·rename_i p v hp hv;rw [sv_ok hs hp, sv_ok hs hv];exact sStoreS_ok hw ty p v
  ·trivial
 case nilCheck x =>
  split;all_goals first
   | trivial
   | (rename_i hx; rw [sv_ok hs hx]; rfl)
 case binOp op xT x y yT =>
  split
  ·rename_i p q hp hq;rw [sv_ok hs hp, sv_ok hs hq];exact sBin_ok op xT y p q
  ·trivial
 case unOp op xT x =>
  split
  ·rename_i p hp;rw [sv_ok hs hp];exact sUn_ok op p
  ·trivial
 case convert src dst x =>
  split
  ·rename_i p hp;rw [sv_ok hs hp];exact sConvS_ok hw src dst p
  ·trivial
 case makeInterface ty x =>
  cases hd : T.und ty with
  | none => trivial
  | some d =>
   cases hv : sv tm x with
   | none => cases d <;> trivial
   | some v =>
    have hv := sv_ok hs hv;cases d <;> first | trivial | (simp only [hv, SRes.Ok, E.den, O1.den, U.val_uv]; done)
 case makeFunc fn first captured =>
  cases fn with
  | func g =>
   simp only;split
   ·rename_i cs hf hc;simp only [hf, svs_ok hs hc, SRes.Ok, E.den, O1.den, U.val_uv, den_toE]
   ·trivial
  | _ => trivial
 case slice ty x lo hi mx =>
  split
  ·rename_i p hp;rw [sv_ok hs hp];exact sSlice_ok hs ty p lo hi mx
  ·trivial
 case fieldAddr ty x f =>
  split
  ·rename_i p hp;rw [sv_ok hs hp];exact sFieldAddr_ok ty p f
  ·trivial
 case field ty x f =>
  split
  ·rename_i p hp;rw [sv_ok hs hp];exact sField_ok ty p f
  ·trivial
 case indexAddr ty x ix =>
  split
  ·rename_i p q hp hq;rw [sv_ok hs hp, sv_ok hs hq];exact sAddrS_ok ty p q
  ·trivial
 case index ty x ix =>
  split
  ·rename_i p q hp hq;rw [sv_ok hs hp, sv_ok hs hq];exact sIndex_ok ty p q
  ·trivial
 case extract x ix =>
  split
  ·rename_i l hx;have hx := sv_ok hs hx;split
   ·rename_i es he;have he : (l.den σ).lst = dv σ es := E.items_den σ _ _ he;simp only [hx, E.den, O1.den, U.val_uv, he];rw [nthU_eq];cases hn : es[ix]? with
    | none => trivial
    | some e => simp [ofO, SRes.Ok, hn, lift]
   ·trivial
  ·trivial
 case lookup ty m k ok =>
  split
  ·rename_i p q hp hq;simp only [sv_ok hs hp, sv_ok hs hq, SRes.Ok, Ask.den]
  ·trivial
 case panic x =>
  split
  ·rename_i ty v hx;simp only [sv_ok hs hx, E.den, O1.den, U.val_uv, SRes.Ok]
  ·trivial
 case typeAssert x xT ty ok =>
  split
  ·rename_i p hp;rw [sv_ok hs hp];exact sAssert_ok ty ok p
  ·trivial
end
open Go
inductive Srt where
  | i | b | s | v | n | l | h
@[simp] def exU : List Srt → (List U → Prop) → Prop
 | [], p => p []
 | .i :: r, p => ∃ x : Int, exU r fun us => p (.ui x :: us)
 | .b :: r, p => ∃ x : Bool, exU r fun us => p (.ub x :: us)
 | .s :: r, p => ∃ x : List UInt8, exU r fun us => p (.us x :: us)
 | .v :: r, p => ∃ x : V, exU r fun us => p (.uv x :: us)
 | .n :: r, p => ∃ x : Nat, exU r fun us => p (.un x :: us)
 | .l :: r, p => ∃ x : List V, exU r fun us => p (.ul x :: us)
 | .h :: r, p => ∃ x : Heap, exU r fun us => p (.uh x :: us)
theorem exU_elim : ∀ {l : List Srt} {p : List U → Prop}, exU l p → ∃ us, us.length = l.length ∧ p us
 | [], p, h => ⟨[], rfl, h⟩
 | .i :: r, p, ⟨x, h⟩ => by obtain ⟨us, h1, h2⟩ := exU_elim h; exact ⟨_, by simp [h1], h2⟩
 | .b :: r, p, ⟨x, h⟩ => by obtain ⟨us, h1, h2⟩ := exU_elim h; exact ⟨_, by simp [h1], h2⟩
 | .s :: r, p, ⟨x, h⟩ => by obtain ⟨us, h1, h2⟩ := exU_elim h; exact ⟨_, by simp [h1], h2⟩
 | .v :: r, p, ⟨x, h⟩ => by obtain ⟨us, h1, h2⟩ := exU_elim h; exact ⟨_, by simp [h1], h2⟩
 | .n :: r, p, ⟨x, h⟩ => by obtain ⟨us, h1, h2⟩ := exU_elim h; exact ⟨_, by simp [h1], h2⟩
 | .l :: r, p, ⟨x, h⟩ => by obtain ⟨us, h1, h2⟩ := exU_elim h; exact ⟨_, by simp [h1], h2⟩
 | .h :: r, p, ⟨x, h⟩ => by obtain ⟨us, h1, h2⟩ := exU_elim h; exact ⟨_, by simp [h1], h2⟩
inductive SK where
  | pure | reads | turns
  | keeps (u : List (Nat × Option E))
structure Shape where
  so : List Srt
  res : E
  kind : SK
  pan : Bool
inductive LO where
  | norm | exit (id : Nat) | ret | pan (x : E) | stop (p : List Bool) | again (p : List Bool)
inductive Tree where
  | leaf (o : LO) (keep : List (Nat × E)) (h : SH)
  | ite (e : E) (a c : Tree)
  | need (e : E) (a : Tree)
  | ask (q : Ask) (h : SH) (so : List Srt) (r : E) (eff : Bool) (k kp : Tree)
  | asks (q : Ask) (so : List Srt) (r : E) (k kp : Tree)
  | askk (q : Ask) (h : SH) (so : List Srt) (r : E) (l : List (E × SB)) (k kp : Tree)
  | leti (e : E) (k : Tree)
  | lets (e : E) (k : Tree)
  | fin (x : E) (h : SH)
  | pnc (x : E) (h : SH)
  | stuck (n : Nat)
@[simp] def factsTo (σ : List U) (t : Tm) (p : Prop) : List (Nat × E) → Prop
 | [] => p
 | (k, e) :: r => t.get k = (e.den σ).val → factsTo σ t p r
@[simp] def VC (T : Tab) (call : CallF) (w : Nat) (L : LO → List U → Tm → Heap → Prop) (R : OR → Prop) : List U → Tree → Prop
 | σ, .leaf o keep h => ∀ t : Tm, t.wid = w → factsTo σ t (L o σ t (h.den σ)) keep
 | σ, .ite e a c => ((e.den σ).boo = true → VC T call w L R σ a) ∧ ((e.den σ).boo = false → VC T call w L R σ c)
 | σ, .need e a => (e.den σ).boo = true ∧ VC T call w L R σ a
 | σ, .ask q h so r eff k kp => (exU so fun us => if eff = true then ∃ H', q.den T call σ (h.den σ) = .val (r.den (σ ++ .uh H' :: us)).val H' ∧ VC T call w L R (σ ++ .uh H' :: us) k else q.den T call σ (h.den σ) = .val (r.den (σ ++ us)).val (h.den σ) ∧ VC T call w L R (σ ++ us) k) ∨
  ∃ v H', q.den T call σ (h.den σ) = .pan v H' ∧ VC T call w L R (σ ++ [.uv v, .uh H']) kp
 | σ, .asks q so r k kp => (exU so fun us => (∀ K, q.den T call σ K = .val (r.den (σ ++ us)).val K) ∧ VC T call w L R (σ ++ us) k) ∨ ∃ v, (∀ K, q.den T call σ K = .pan v K) ∧ VC T call w L R (σ ++ [.uv v]) kp
 | σ, .askk q h so r l k kp => (exU so fun us => ∃ H', q.den T call σ (h.den σ) = .val (r.den (σ ++ .uh H' :: us)).val H' ∧ knownIn (σ ++ .uh H' :: us) H' l ∧ VC T call w L R (σ ++ .uh H' :: us) k) ∨
  ∃ v H', q.den T call σ (h.den σ) = .pan v H' ∧ VC T call w L R (σ ++ [.uv v, .uh H']) kp
 | σ, .leti e k => ∀ x : Int, x = (e.den σ).int → VC T call w L R (σ ++ [.ui x]) k
 | σ, .lets e k => ∀ x : List UInt8, x = (e.den σ).str → VC T call w L R (σ ++ [.us x]) k
 | σ, .fin x h => R (.val (x.den σ).val (h.den σ))
 | σ, .pnc x h => R (.pan (x.den σ).val (h.den σ))
 | _, .stuck _ => False
section
variable {α : Type}
noncomputable def fBK (b : BK) (k : BK → α) : α := BK.rec (k .all) (k .more) (k .map) b
theorem fBK_eq (b : BK) (k : BK → α) : fBK b k = k b := by cases b <;> rfl
noncomputable def fSB (b : Option SB) (k : Option SB → α) : α := match b with
 | some ⟨ty, cs, kd⟩ => fN ty fun ty => fE cs fun cs => fBK kd fun kd => k (some ⟨ty, cs, kd⟩)
 | none => k none
theorem fSB_eq (b : Option SB) (k : Option SB → α) : fSB b k = k b := by
 cases b with
 | none => rfl
 | some b => simp only [fSB, fN_eq, fE_eq, fBK_eq]
noncomputable def fSets (l : List (E × Option SB)) : (List (E × Option SB) → α) → α := List.rec (motive := fun _ => (List (E × Option SB) → α) → α) (fun k => k []) (fun p _ r k => fE p.1 fun e => fSB p.2 fun b => r fun l => k ((e, b) :: l)) l
theorem fSets_eq : ∀ (l : List (E × Option SB)) (k : List (E × Option SB) → α), fSets l k = k l
 | [], _ => rfl
 | p :: r, k => by
  show fE p.1 (fun e => fSB p.2 fun b => fSets r fun l => k ((e, b) :: l)) = _;rw [fE_eq, fSB_eq, fSets_eq r]
noncomputable def fNew (l : List (Option SB)) : (List (Option SB) → α) → α := List.rec (motive := fun _ => (List (Option SB) → α) → α) (fun k => k []) (fun p _ r k => fSB p fun b => r fun l => k (b :: l)) l
theorem fNew_eq : ∀ (l : List (Option SB)) (k : List (Option SB) → α), fNew l k = k l
 | [], _ => rfl
 | p :: r, k => by
  show fSB p (fun b => fNew r fun l => k (b :: l)) = _;rw [fSB_eq, fNew_eq r]
noncomputable def fSH (h : SH) (k : SH → α) : α := SH.rec (fun b s n => fE b fun b => fSets s fun s => fNew n fun n => k ⟨b, s, n⟩) h
theorem fSH_eq (h : SH) (k : SH → α) : fSH h k = k h := by
 cases h;simp only [fSH, fE_eq, fSets_eq, fNew_eq]
end

/-! A condition. -/
noncomputable def decU (st : St) (a : E) (k : St → Bool → Tree) : Tree := match a with
 | .cb y => k st y
 | a => match knows st.kn a with
  | some y => k st y
  | none => bif a.scop st.nv then .ite a (match st with | ⟨tm, h, nv, kn⟩ => k ⟨tm, h, nv, (a, true) :: kn⟩ true) (match st with | ⟨tm, h, nv, kn⟩ => k ⟨tm, h, nv, (a, false) :: kn⟩ false) else .stuck 1
noncomputable def decT (st : St) (c : E) (k : St → Bool → Tree) : Tree := fE c fun c => match c with
 | .f1 .not a => decU st a fun st y => k st !y
 | a => decU st a k
section
variable {T : Tab} {call : CallF} {w : Nat} {L : LO → List U → Tm → Heap → Prop} {R : OR → Prop} {σ : List U} {H : Heap} {t : Tm} {st : St}
theorem Holds.know (hh : Holds w σ st t H) {a : E} {y : Bool} (hs : a.scop st.nv = true) (ha : (a.den σ).boo = y) : Holds w σ ⟨st.tm, st.h, st.nv, (a, y) :: st.kn⟩ t H where
  wid := hh.wid
  tm := hh.tm
  heap := hh.heap
  wf := hh.wf
  nv := hh.nv
  kn p hp := by
    rcases List.mem_cons.1 hp with rfl | hp
    · exact ha
    · exact hh.kn p hp
  sc := hh.sc
  sh := hh.sh
  sk p hp := by
    rcases List.mem_cons.1 hp with rfl | hp
    · exact hs
    · exact hh.sk p hp
def Same (st st' : St) : Prop := st'.tm = st.tm ∧ st'.h = st.h ∧ st'.nv = st.nv
theorem decU_ok {a : E} {k : St → Bool → Tree} (hv : VC T call w L R σ (decU st a k)) (hh : Holds w σ st t H) : ∃ st', Same st st' ∧ Holds w σ st' t H ∧ VC T call w L R σ (k st' (a.den σ).boo) := by
 unfold decU at hv;split at hv
 ·exact ⟨st, ⟨rfl, rfl, rfl⟩, hh, hv⟩
 ·split at hv
  ·rename_i y hy;have := hh.kn _ (knows_mem hy);exact ⟨st, ⟨rfl, rfl, rfl⟩, hh, by rw [this]; exact hv⟩
  ·cases hs : a.scop st.nv
   ·rw [hs] at hv; exact hv.elim
   ·rw [hs] at hv;cases ha : (a.den σ).boo with
    | true => exact ⟨⟨st.tm, st.h, st.nv, (a, true) :: st.kn⟩, ⟨rfl, rfl, rfl⟩, hh.know hs ha, hv.1 ha⟩
    | false => exact ⟨⟨st.tm, st.h, st.nv, (a, false) :: st.kn⟩, ⟨rfl, rfl, rfl⟩, hh.know hs ha, hv.2 ha⟩
theorem decT_ok {c : E} {k : St → Bool → Tree} (hv : VC T call w L R σ (decT st c k)) (hh : Holds w σ st t H) : ∃ st', Same st st' ∧ Holds w σ st' t H ∧ VC T call w L R σ (k st' (c.den σ).boo) := by
 unfold decT at hv;rw [fE_eq] at hv;split at hv
 ·obtain ⟨st', h1, h2, h3⟩ := decU_ok hv hh;exact ⟨st', h1, h2, h3⟩
 ·exact decU_ok hv hh
noncomputable def needT (st : St) (a : E) (k : St → Tree) : Tree := fE a fun a => match a with
 | .cb true => k st
 | a => match knows st.kn a with
  | some true => k st
  | _ => bif a.scop st.nv then .need a (match st with | ⟨tm, h, nv, kn⟩ => k ⟨tm, h, nv, (a, true) :: kn⟩) else .stuck 1
theorem needT_ok {a : E} {k : St → Tree} (hv : VC T call w L R σ (needT st a k)) (hh : Holds w σ st t H) : ∃ st', Same st st' ∧ Holds w σ st' t H ∧ (a.den σ).boo = true ∧ VC T call w L R σ (k st') := by
 unfold needT at hv;rw [fE_eq] at hv;split at hv
 ·exact ⟨st, ⟨rfl, rfl, rfl⟩, hh, rfl, hv⟩
 ·split at hv
  ·rename_i hy;exact ⟨st, ⟨rfl, rfl, rfl⟩, hh, hh.kn _ (knows_mem hy), hv⟩
  ·cases hs : a.scop st.nv
   ·rw [hs] at hv; exact hv.elim
   ·rw [hs] at hv;exact ⟨⟨st.tm, st.h, st.nv, (a, true) :: st.kn⟩, ⟨rfl, rfl, rfl⟩, hh.know hs hv.1, hv.1, hv.2⟩
noncomputable def shField (T : Tab) (b : Nat) (fs : List Field) : Option (List Srt × List E) := List.rec (motive := fun _ => Nat → Option (List Srt × List E)) (fun _ => some ([], [])) (fun f _ r b => match T.und f.type, r (b + 1) with
 | some (.int k), some (so, es) => some (.i :: so, .f1 (.vi k) (.va b) :: es)
 | some .bool, some (so, es) => some (.b :: so, .f1 .vb (.va b) :: es)
 | some .string, some (so, es) => some (.s :: so, .f1 .vs (.va b) :: es)
 | some (.slice _), some (so, es) => some (.v :: so, .va b :: es)
 | some (.pointer _), some (so, es) => some (.v :: so, .va b :: es)
 | some (.map _ _), some (so, es) => some (.v :: so, .va b :: es)
 | some (.interface _), some (so, es) => some (.v :: so, .va b :: es)
 | _, _ => none) fs b
noncomputable def shT (T : Tab) (ty : Nat) (b : Nat) : List Srt × E := match T.und ty with
 | some (.int k) => ([.i], .f1 (.vi k) (.va b))
 | some .bool => ([.b], .f1 .vb (.va b))
 | some .string => ([.s], .f1 .vs (.va b))
 | some (.struct fs) => (match shField T b fs.toList with
  | some (so, es) => (so, .f1 .agg (toE es))
  | none => ([.v], .va b))
 | _ => ([.v], .va b)
noncomputable def shapeQ (T : Tab) (sh : Nat → Option Shape) (q : Ask) : Option Shape := match q with
 | .call f _ => sh f
 | .ext f _ => sh f
 | .lookup ty _ _ ok => (match T.und ty with
  | some (.map _ et) => (match shT T et 0 with
   | (so, e) => some ⟨bif ok then so ++ [.b] else so, bif ok then .f1 .tup (.f2 .cons e (.f2 .cons (.f1 .vb (.va so.length)) .nil)) else e, .reads, false⟩)
  | _ => none)
 | .load ty _ => match shT T ty 0 with
  | (so, e) => some ⟨so, e, .reads, false⟩
noncomputable def Ask.scop (n : Nat) : Ask → Bool
 | .call _ a => a.scop n
 | .ext _ a => a.scop n
 | .lookup _ m k _ => m.scop n && k.scop n
 | .load _ p => p.scop n
noncomputable def fAsk {α : Type} (q : Ask) (k : Ask → α) : α := match q with
 | .call f a => fN f fun f => fE a fun a => k (.call f a)
 | .ext f a => fN f fun f => fE a fun a => k (.ext f a)
 | .lookup ty m j ok => fE m fun m => fE j fun j => k (.lookup ty m j ok)
 | .load ty p => fE p fun p => k (.load ty p)
theorem fAsk_eq {α : Type} (q : Ask) (k : Ask → α) : fAsk q k = k q := by cases q <;> simp [fAsk, fE_eq, fN_eq]
def opq (n : Nat) : SH := ⟨.va n, [], []⟩
theorem opq_den (σ τ : List U) (H : Heap) : (opq σ.length).den (σ ++ .uh H :: τ) = H ∧ (opq σ.length).WF (σ ++ .uh H :: τ) := by
 refine ⟨?_, ⟨by simp [opq], by simp [opq]⟩⟩;simp [opq]
noncomputable def E.inst (as_ : List E) (n : Nat) (e : E) : E :=
 E.rec (fun k => bif Nat.blt k 1000 then .va (n + k) else (as_[k - 1000]?).getD .nil) (fun n => .ci n) (fun n => .cn n) (fun c => .cb c) (fun l => .cs l) (fun x => .cv x) .nil (fun o _ r => .f1 o r) (fun o _ _ r q => .f2 o r q) (fun o _ _ _ r q p => .f3 o r q p) e
noncomputable def argsOf : Ask → List E
 | .call _ a => a.items.getD []
 | .ext _ a => a.items.getD []
 | _ => []
def argN : Ask → Option E
 | .call _ (.f2 .cons (.f1 (.ptr 0) n) _) => some n
 | _ => none
noncomputable def pokes (self : E) (m : Nat) (es : List E) : List (Nat × Option E) → List E
 | [] => es
 | (i, some e) :: u => pokes self m (es.set i (e.up m)) u
 | (i, none) :: u => pokes self m (es.set i (.f1 (.ptr 0) self)) u
noncomputable def pokeS (n : E) (m : Nat) (u : List (Nat × Option E)) (l : List (E × SB)) : List (E × SB) := List.rec [] (fun p _ r => (bif p.1.same n then (p.1, match p.2.cells.items with | some es => ⟨p.2.ty, toE (pokes n m es u), p.2.kind⟩ | none => p.2) else p) :: r) l
theorem pokeS_names (n : E) (m : Nat) (u : List (Nat × Option E)) : ∀ l : List (E × SB), (pokeS n m u l).map (·.1) = l.map (·.1)
 | [] => rfl
 | p :: r => by
  show ((bif p.1.same n then (p.1, match p.2.cells.items with | some es => ⟨p.2.ty, toE (pokes n m es u), p.2.kind⟩ | none => p.2) else p) : E × SB).1 :: (pokeS n m u r).map (·.1) = _;rw [pokeS_names n m u r];cases p.1.same n <;> rfl
noncomputable def fPs {α : Type} (l : List (E × SB)) : (List (E × SB) → α) → α := List.rec (motive := fun _ => (List (E × SB) → α) → α) (fun k => k []) (fun p _ r k => fE p.1 fun e => (match p.2 with | ⟨ty, cs, kd⟩ => fN ty fun ty => fE cs fun cs => fBK kd fun kd => r fun l => k ((e, ⟨ty, cs, kd⟩) :: l))) l
theorem fPs_eq {α : Type} : ∀ (l : List (E × SB)) (k : List (E × SB) → α), fPs l k = k l
 | [], _ => rfl
 | (e, ⟨ty, cs, kd⟩) :: r, k => by
  show fE e (fun e => fN ty fun ty => fE cs fun cs => fBK kd fun kd => fPs r fun l => k ((e, ⟨ty, cs, kd⟩) :: l)) = _;rw [fE_eq, fN_eq, fE_eq, fBK_eq, fPs_eq r]
noncomputable def resT (T : Tab) (sh : Nat → Option Shape) (kv : St → E → Tree) (ke : St → E → Tree) (kp : St → E → Tree) : SRes → St → Tree
 | .val e, st => kv st e
 | .eff e h, st => fSH h fun h => bif h.scop st.nv then (match st with | ⟨tm, _, nv, kn⟩ => ke ⟨tm, h, nv, kn⟩ e) else .stuck 6
 | .need e r, st => needT st e fun st => resT T sh kv ke kp r st
 | .ite e a b, st => decT st e fun st y => bif y then resT T sh kv ke kp a st else resT T sh kv ke kp b st
 | .ask q, st => fAsk q fun q => (match shapeQ T sh q with
  | some ⟨so, r, kd, pan⟩ => fN so.length fun n' => (match st with
   | ⟨tm, h, nv, kn⟩ => (match kd with
    | .pure => fE (r.inst (argsOf q) nv) fun r => .asks q so r (fN (nv + n') fun m => kv ⟨tm, h, m, kn⟩ r) (bif pan then fN (nv + 1) fun m => kp ⟨tm, h, m, kn⟩ (.va nv) else .stuck 0)
    | .reads => fE (r.inst (argsOf q) nv) fun r => .ask q h so r false (fN (nv + n') fun m => kv ⟨tm, h, m, kn⟩ r) (bif pan then fN (nv + 1) fun m => fN (m + 1) fun m' => kp ⟨tm, opq m, m', kn⟩ (.va nv) else .stuck 0)
    | .keeps u => (match argN q with
     | some n => fN (nv + 1) fun m => fN (m + n') fun m' => fE (r.inst (argsOf q) m) fun r => fPs (pokeS n m u h.live) fun l => bif (withK nv l).scop m' then .askk q h so r l (ke ⟨tm, withK nv l, m', kn⟩ r) (bif pan then fN (nv + 1) fun m => fN (m + 1) fun m' => kp ⟨tm, opq m, m', kn⟩ (.va nv) else .stuck 0) else .stuck 23
     | none => .stuck 22)
    | .turns => fN (nv + 1) fun m => fN (m + n') fun m' => fE (r.inst (argsOf q) m) fun r => .ask q h so r true (ke ⟨tm, opq nv, m', kn⟩ r) (bif pan then fN (nv + 1) fun m => fN (m + 1) fun m' => kp ⟨tm, opq m, m', kn⟩ (.va nv) else .stuck 0)))
  | none => .stuck 8)
 | .pan e, st => kp st e
 | .no, _ => .stuck 9
inductive Went (T : Tab) (call : CallF) (w : Nat) (L : LO → List U → Tm → Heap → Prop) (R : OR → Prop) (σ : List U) (t : Tm) (H : Heap) (kv ke kp : St → E → Tree) (x : OR) : Prop
  | val (σ' : List U) (st' : St) (e : E) (hs : σ <+: σ') (hh : Holds w σ' st' t H) (hv : VC T call w L R σ' (kv st' e)) (hx : x = .val (e.den σ').val H)
  | eff (σ' : List U) (st' : St) (e : E) (H' : Heap) (hs : σ <+: σ') (hh : Holds w σ' st' t H') (hv : VC T call w L R σ' (ke st' e)) (hx : x = .val (e.den σ').val H')
  | pan (σ' : List U) (st' : St) (e : E) (H' : Heap) (hs : σ <+: σ') (hh : Holds w σ' st' t H') (hv : VC T call w L R σ' (kp st' e)) (hx : x = .pan (e.den σ').val H')
theorem Holds.heapTo {h : SH} {H' : Heap} (hh : Holds w σ st t H) (e : H' = h.den σ) (hw : h.WF σ) (hs : h.scop st.nv = true) : Holds w σ ⟨st.tm, h, st.nv, st.kn⟩ t H' :=
 ⟨hh.wid, hh.tm, e, hw, hh.nv, hh.kn, hh.sc, hs, hh.sk⟩
theorem resT_ok {sh : Nat → Option Shape} {kv ke kp : St → E → Tree} : ∀ (r : SRes) (st : St) (x : OR), VC T call w L R σ (resT T sh kv ke kp r st) → Holds w σ st t H → SRes.Ok T call σ H r x → Went T call w L R σ t H kv ke kp x
 | .val e, st, x, hv, hh, ho => .val σ st e (List.prefix_refl _) hh hv ho
 | .eff e h, st, x, hv, hh, ho => by
  simp only [resT, fSH_eq] at hv;cases hs : h.scop st.nv
  ·rw [hs] at hv; exact hv.elim
  ·rw [hs] at hv;exact .eff σ _ e _ (List.prefix_refl _) (hh.heapTo rfl ho.2 hs) hv ho.1
 | .need e r, st, x, hv, hh, ho => by
  obtain ⟨st', ⟨h1, h2, h3⟩, h4, h5, h6⟩ := needT_ok hv hh;exact resT_ok r st' x h6 h4 (ho h5)
 | .ite e a b, st, x, hv, hh, ho => by
  obtain ⟨st', ⟨h1, h2, h3⟩, h4, h5⟩ := decT_ok hv hh;cases hb : (e.den σ).boo with
  | true => rw [hb] at h5; exact resT_ok a st' x h5 h4 (ho.1 hb)
  | false => rw [hb] at h5; exact resT_ok b st' x h5 h4 (ho.2 hb)
 | .ask q, st, x, hv, hh, ho => by
  simp only [resT, fAsk_eq] at hv;split at hv
  ·rename_i so r kd pan hq;obtain ⟨tm, h, nv, kn⟩ := st;simp only [fN_eq, fE_eq] at hv;have hH : H = h.den σ := hh.heap;have hnv : σ.length = nv := hh.nv;simp only [SRes.Ok] at ho;have val : ∀ (r : E) (us : List U), us.length = so.length → x = .val (r.den (σ ++ us)).val H → VC T call w L R (σ ++ us) (kv ⟨tm, h, nv + so.length, kn⟩ r) → Went T call w L R σ t H kv ke kp x := fun r us hl h1 h2 => by
    have k := hh.more us;exact .val (σ ++ us) ⟨tm, h, nv + so.length, kn⟩ r (List.prefix_append ..) (by simpa [hl] using k) h2 h1
   have panic : ∀ (v : V) (H' : Heap), x = .pan v H' → VC T call w L R (σ ++ [.uv v, .uh H']) (bif pan then kp ⟨tm, opq (nv + 1), nv + 1 + 1, kn⟩ (.va nv) else .stuck 0) → Went T call w L R σ t H kv ke kp x := fun v H' h1 h2 => by
    cases pan with
    | false => exact h2.elim
    | true =>
     have k := hh.more [.uv v, .uh H'];have e1 := opq_den (σ ++ [.uv v]) [] H';have hlen : (σ ++ [U.uv v]).length = nv + 1 := by simp [hnv]
     rw [hlen] at e1;simp only [List.append_assoc, List.cons_append, List.nil_append] at e1;refine .pan (σ ++ [.uv v, .uh H']) ⟨tm, opq (nv + 1), nv + 1 + 1, kn⟩ (.va nv) H' (List.prefix_append ..) ?_ h2 ?_
     ·have k := k.heapTo (h := opq (nv + 1)) (H' := H') e1.1.symm e1.2 (by simp [opq, SH.scop, E.scop]);simpa using k
     ·rw [h1];simp [← hnv]
   cases kd with
   | pure =>
    simp only [VC] at hv;rcases hv with hv | ⟨v, h1, h2⟩
    ·obtain ⟨us, hl, h1, h2⟩ := exU_elim hv;exact val _ us hl (by rw [ho, h1 H]) h2
    ·cases pan with
     | false => exact h2.elim
     | true =>
      have k := hh.more [.uv v];refine .pan (σ ++ [.uv v]) ⟨tm, h, nv + 1, kn⟩ (.va nv) H (List.prefix_append ..) (by simpa using k) h2 ?_;rw [ho, h1 H];simp [← hnv]
   | reads =>
    simp only [VC, Bool.false_eq_true, if_false] at hv;rcases hv with hv | ⟨v, H', h1, h2⟩
    ·obtain ⟨us, hl, h1, h2⟩ := exU_elim hv;rw [← hH, ← ho] at h1;exact val _ us hl h1 h2
    ·rw [← hH, ← ho] at h1;exact panic v H' h1 h2
   | keeps u =>
    simp only at hv;split at hv
    ·rename_i n hn;rw [fPs_eq] at hv;generalize hl : pokeS n (nv + 1) u h.live = l at hv;cases hsc : (withK nv l).scop (nv + 1 + so.length) with
     | false => rw [hsc] at hv; exact hv.elim
     | true =>
      rw [hsc] at hv;simp only [cond_true, VC] at hv;rcases hv with hv | ⟨v, H', h1, h2⟩
      ·obtain ⟨us, hlen, H', h1, h2, h3⟩ := exU_elim hv;rw [← hH, ← ho] at h1;have k := hh.more (.uh H' :: us);have e0 : (E.va nv).den (σ ++ .uh H' :: us) = .uh H' := by simp [← hnv]
       have e1 : H' = (withK nv l).den (σ ++ .uh H' :: us) := by
        simp only [withK, SH.den, newD, e0, U.heap_uh];exact (setsD_known h2).symm
       have e2 : (withK nv l).WF (σ ++ .uh H' :: us) := by
        refine ⟨fun p hp => ?_, ?_⟩
        ·obtain ⟨q, hq, rfl⟩ := List.mem_map.1 hp;simp only [withK, e0, U.heap_uh];exact (List.getElem?_eq_some_iff.1 (knownIn_mem h2 q hq)).1
        ·simp only [withK, List.pairwise_map];have k1 := SH.live_ne k.wf;have k2 : (h.live.map (·.1)).Pairwise fun a c : E => (a.den (σ ++ .uh H' :: us)).nat ≠ (c.den (σ ++ .uh H' :: us)).nat := by
          rw [List.pairwise_map]; exact k1
         rw [← pokeS_names n (nv + 1) u, hl, List.pairwise_map] at k2;exact k2
       refine .eff (σ ++ .uh H' :: us) ⟨tm, withK nv l, nv + 1 + so.length, kn⟩ _ H' (List.prefix_append ..) ?_ h3 h1
       ·simp only [List.length_cons, hlen, show nv + (so.length + 1) = nv + 1 + so.length from by omega] at k;exact k.heapTo e1 e2 hsc
      ·rw [← hH, ← ho] at h1;exact panic v H' h1 h2
    ·exact hv.elim
   | turns =>
    simp only [VC, if_true] at hv;rcases hv with hv | ⟨v, H', h1, h2⟩
    ·obtain ⟨us, hl, H', h1, h2⟩ := exU_elim hv;rw [← hH, ← ho] at h1;have k := hh.more (.uh H' :: us);have e1 := opq_den σ us H';rw [hnv] at e1;refine .eff (σ ++ .uh H' :: us) ⟨tm, opq nv, nv + 1 + so.length, kn⟩ _ H' (List.prefix_append ..) ?_ h2 h1
     ·have k := k.heapTo (h := opq nv) (H' := H') e1.1.symm e1.2 (by simp [opq, SH.scop, E.scop]);simp only [List.length_cons, hl, show nv + (so.length + 1) = nv + 1 + so.length from by omega] at k;exact k
    ·rw [← hH, ← ho] at h1;exact panic v H' h1 h2
  ·exact hv.elim
 | .pan e, st, x, hv, hh, ho => .pan σ st e H (List.prefix_refl _) hh hv ho
 | .no, st, x, hv, hh, ho => hv.elim
end
section
abbrev x0 : E := .nil
abbrev x1 (a : E) : E := .f2 .cons a .nil
abbrev x2 (a b : E) : E := .f2 .cons a (x1 b)
abbrev x3 (a b c : E) : E := .f2 .cons a (x2 b c)
abbrev x4 (a b c d : E) : E := .f2 .cons a (x3 b c d)
abbrev xc (n : Int) : E := .ci n
abbrev xk (n : Nat) (c : E) : Option SB := some ⟨n, c, .all⟩
abbrev xR (n : Nat) (c : E) : SB := ⟨n, c, .all⟩
abbrev xs (a : E) : E := .f1 .vs a
abbrev xb (a : E) : E := .f1 .vb a
abbrev xm (a : E) : E := .f1 .mp a
abbrev xl (a : E) : E := .f1 .lenS a
abbrev xg (a : E) : E := .f1 .agg a
abbrev xt (a : E) : E := .f1 .tup a
abbrev xn (a : E) : E := .f1 .lenL a
abbrev xy (a : E) : E := .f1 .bys a
abbrev xh (a : E) : E := .f1 .hlen a
abbrev xo (a : E) : E := .f1 .not a
abbrev xi (a : E) : E := .f1 (.vi .i64) a
abbrev xu (a : E) : E := .f1 (.vi .u8) a
abbrev xv (a : E) : E := .f1 (.vi .u64) a
abbrev xj (a : E) : E := .f1 (.vi .i32) a
abbrev xw (a : E) : E := .f1 (.wrap .i64) a
abbrev xz (a : E) : E := .f1 (.wrap .u64) a
abbrev xx (a : E) : E := .f1 (.wrap .u8) a
abbrev xp (a : E) : E := .f1 (.ptr 0) a
abbrev xa (a b : E) : E := .f2 .add a b
abbrev xe (a b : E) : E := .f2 .eqI a b
abbrev xL (a b : E) : E := .f2 .ltI a b
abbrev xE (a b : E) : E := .f2 .leI a b
abbrev xA (a b : E) : E := .f2 .at a b
abbrev xG (a b : E) : E := .f2 .gtI a b
abbrev xH (a b : E) : E := .f2 .geI a b
abbrev xS (a b : E) : E := .f2 .sub a b
abbrev xP (a b : E) : E := .f2 .app a b
abbrev xN (a b : E) : E := .f2 .addn a b
abbrev xB (a b : E) : E := .f2 .pushB a b
abbrev xM (a b : E) : E := .f2 .neI a b
abbrev xQ (a b : E) : E := .f2 .eqS a b
abbrev v0 : E := .va 0
abbrev v1 : E := .va 1
abbrev v2 : E := .va 2
abbrev v3 : E := .va 3
abbrev v4 : E := .va 4
abbrev v5 : E := .va 5
abbrev v6 : E := .va 6
abbrev v7 : E := .va 7
abbrev v8 : E := .va 8
abbrev v9 : E := .va 9
abbrev v10 : E := .va 10
abbrev v11 : E := .va 11
abbrev v12 : E := .va 12
abbrev v13 : E := .va 13
abbrev v14 : E := .va 14
abbrev v15 : E := .va 15
abbrev v16 : E := .va 16
abbrev v17 : E := .va 17
abbrev v18 : E := .va 18
abbrev v19 : E := .va 19
abbrev v20 : E := .va 20
abbrev v21 : E := .va 21
abbrev v22 : E := .va 22
abbrev v23 : E := .va 23
abbrev v24 : E := .va 24
abbrev v25 : E := .va 25
abbrev v26 : E := .va 26
abbrev v27 : E := .va 27
abbrev v28 : E := .va 28
abbrev v29 : E := .va 29
abbrev c0 : E := .ci 0
abbrev c1 : E := .ci 1
abbrev c2 : E := .ci 2
abbrev c3 : E := .ci 3
abbrev c10 : E := .ci 10
end
end Go.Ev
