/- Replace of a table of bytes. Replace. The text of a float. Scan of every text. TokenScans: lists of tokens compared. Walks of the laws without a reference. Tokens without places and lines. Kinds and texts compared. TokenPlaces returns true. What TokenPlaces says of a world, from what the evaluator returns. -/
import Derived.Test.YtmjplflnlggbeaaGreatDoorDAC
import Derived.Test.YtmjplflnlggbeaaGreatDoorDBH
import Derived.ChangeShapes
import Derived.WideShapes
import Derived.RowKit3
import Derived.OpenShut
namespace Go.Ev
open Go Go.Proofs
set_option linter.unusedSimpArgs false
set_option linter.unusedVariables false
set_option linter.unnecessarySimpa false
set_option maxRecDepth 100000
theorem reps_one (v : V) : ∀ n, reps n [v] = List.replicate n v
 | 0 => rfl
 | n + 1 => by rw [reps, reps_one v n]; rfl
theorem mk_buf (H : Heap) (W : Nat) (hW : W < 2000000) : evMakeSlice TT 64 (.i .i64 W) (.i .i64 W) H = .val (.sl H.length 1 0 W (some W)) (H ++ [some (bufB [] W)]) := by
 have e1 : TT.und 64 = some (.slice 5) := rfl;have e2 : TT.size 5 = some 1 := rfl;have e3 : TT.zero 5 = some (.i .u8 0) := rfl;have e4 : TT.bytes 5 = some 1 := rfl;have hcl : (V.i .u8 0).cells = [V.i .u8 0] := rfl;simp only [evMakeSlice, e1, e2, e3, e4, hcl, newB_eq];rw [if_pos ⟨rfl, by omega, by omega, by omega, by omega, by omega⟩, Int.toNat_natCast, reps_one];rfl
theorem cv_buf (l : List UInt8) (z W : Nat) (hW : W = l.length) (K : Heap) (h : K[z]? = some (some (bufB l 0))) : evConvO TT 64 9 (.sl z 1 0 W (some W)) K = .val (.s l) K := by
 have e1 : TT.und 64 = some (.slice 5) := rfl;have e2 : TT.und 9 = some .string := rfl;have e3 : TT.und 5 = some (.int .u8) := rfl;have hc : cellsAt K z = some (bufB l 0) := by simp [cellsAt, h, bufB]
 have hl : (byV l).length = l.length := by simp [byV]
 have hcut : cut (bufB l 0).cells 0 W = some (byV l) := by
  unfold cut bufB;simp only [List.replicate_zero, List.append_nil];rw [if_pos (by omega), List.drop_zero, List.take_of_length_le (by omega)]
 simp only [evConvO, e1, e2, e3, hc, hcut, bytes_byV, if_true]
theorem sp2186 : ∃ g, SpecOK Tryz.prog TT 186 g ∧ ∀ (p N : Nat) (H : Heap) (x : List UInt8), BsR H p N → x.length < 1100000 → ∃ H', g [.ptr p 0, .s x] H = .val (.s (repX x)) H' ∧ H.length ≤ H'.length ∧ ∀ j, j < H.length → H'[j]? = H[j]? := by
 have hC := ws n0 ok87;have hcnt : ∀ (x : List UInt8) (c : UInt8) (K : Heap), (CallF.none.with 188 spCount) 188 [.s x, .s [c]] K = .val (.i .i64 (Lib.countByte x c)) K := fun x c K => by rw [w_here]; rfl
 generalize CallF.none.with 188 spCount = call at hC hcnt;obtain ⟨g, k, s⟩ := XFact.spec (P := Tryz.prog) (F := 186) TT_ok (D := fun vs H => ∃ (p N : Nat) (x : List UInt8), vs = [.ptr p 0, .s x] ∧ BsR H p N ∧ x.length < 1100000)
  (R := fun vs H r => ∃ (p : Nat) (x : List UInt8), vs = [.ptr p 0, .s x] ∧ ∃ B, r = .val (.s (repX x)) B ∧ H.length ≤ B.length ∧ ∀ j, j < H.length → B[j]? = H[j]?) (by
  rintro vs H ⟨p, N, x, rfl, hB, hx⟩;refine (XBody.fact TT_ok (R := fun r => ∃ B, r = .val (.s (repX x)) B ∧ H.length ≤ B.length ∧ ∀ j, j < H.length → B[j]? = H[j]?) ?_).mono fun r hr => ⟨p, x, rfl, hr⟩;have hc1 : cellsAt H p = some (bsB N) := by
   unfold cellsAt;rw [hB.1];rfl
  have hl256 : loadA TT 37 H (.ptr p 256) = some (.sl N 1 0 2 (some 2)) := by
   have h2 : (bsB N).cells[256]? = some (.sl N 1 0 2 (some 2)) := by
    unfold bsB;simp only;rw [List.getElem?_append_right (by simp)];simp
   simp only [loadA, hc1];have e1 : isAggT (TT.und 37) = some false := rfl;simp only [pickAt, e1, nthU_eq, h2]
  have w16 : IntKind.i64.wrap 16 = 16 := rfl;have hrc := repX_count x;have hlp : p < H.length := Heap.lt hB.1;have hlN : N < H.length := Heap.lt hB.2.1;have hl4 : N + 4 < H.length := Heap.lt hB.2.2.1;have hl7 : N + 7 < H.length := Heap.lt hB.2.2.2;have hWl : (repX x).length < 2000000 := by omega
  have hmk := mk_buf H (repX x).length hWl;have hzn : H.length ≠ p ∧ H.length ≠ N ∧ H.length ≠ N + 4 ∧ H.length ≠ N + 7 := ⟨by omega, by omega, by omega, by omega⟩;have hB2 : BsR (H ++ [some (bufB [] (repX x).length)]) p N := ⟨by rw [List.getElem?_append_left hlp]; exact hB.1, by rw [List.getElem?_append_left hlN]; exact hB.2.1, by rw [List.getElem?_append_left hl4]; exact hB.2.2.1, by rw [List.getElem?_append_left hl7]; exact hB.2.2.2⟩;have hcv0 : ∀ K : Heap, K[H.length]? = some (some (bufB (repX x) 0)) → evConvO TT 64 9 (.sl H.length 1 0 (repX x).length (some (repX x).length)) K = .val (.s (repX x)) K := fun K h => cv_buf (repX x) H.length _ rfl K h;have e5 : (x.length : Int) - (x.count 95 : Nat) = ((repX x).length : Nat) := by omega
  have e5' : (x.length : Int) - (Lib.countByte x 95 : Nat) = ((repX x).length : Nat) := e5;have hany := any_isX x;cases ha : x.any isX with
  | false =>
   have hrep := repX_id x ha;have e6 : (false || x.any isX) = false := by rw [ha]; rfl
   have e6' : (false || decide (Lib.countByte x 69 ≠ 0) || decide (Lib.countByte x 95 ≠ 0)) = false := by rw [Bool.false_or, hany, ha]
   by_cases h16 : (16 : Int) ≤ x.length
   ·exact body_2186b0 hC w16 p N H hB x hx hl256 (hcnt x) h16 _ rfl e5' e6' hmk hrep
   ·exact body_2186n0 hC w16 p N H hB x hx hl256 (hcnt x) h16 _ rfl e5 e6 hmk hrep
  | true =>
   have e6 : (false || x.any isX) = true := by rw [ha]; rfl
   have e6' : (false || decide (Lib.countByte x 69 ≠ 0) || decide (Lib.countByte x 95 ≠ 0)) = true := by rw [Bool.false_or, hany, ha]
   by_cases h16 : (16 : Int) ≤ x.length
   ·exact body_2186b1 hC w16 p N H hB x hx hl256 (hcnt x) h16 _ rfl e5' e6' hmk (by omega) hzn hB2 hcv0
   ·exact body_2186n1 hC w16 p N H hB x hx hl256 (hcnt x) h16 _ rfl e5 e6 hmk (by omega) hzn hB2 hcv0)
 refine ⟨g, k, fun p N H x h1 h2 => ?_⟩;obtain ⟨r, ⟨p', x', he, B, rfl, h3, h4⟩, hr⟩ := s _ H ⟨p, N, x, rfl, h1, h2⟩;simp only [List.cons.injEq, V.ptr.injEq, V.s.injEq, and_true] at he;obtain ⟨rfl, rfl⟩ := he;exact ⟨B, hr, h3, h4⟩
theorem sp2079 : ∃ g, SpecOK Tryz.prog TT 79 g ∧ ∀ (m q : Nat) (H : Heap) (x : List UInt8), x.length < 1100000 → m ≠ q → H[m]? = some (some onB) → H[q]? = some (some (rpB 0 0 .nili (.sl m 1 0 4 none))) → ∃ B, g [.ptr q 0, .s x] H = .val (.s (repX x)) B ∧ H.length ≤ B.length ∧ ∀ j, j < H.length → j ≠ q → B[j]? = H[j]? := by
 obtain ⟨g1, k1, s1⟩ := sp2098;obtain ⟨g2, k2, s2⟩ := sp2186;have hC := ws (ws n0 k1) k2;have c1 : ∀ (m q : Nat) (H : Heap), m ≠ q → H[m]? = some (some onB) → H[q]? = some (some (rpB 0 0 .nili (.sl m 1 0 4 none))) → ∃ B, ((CallF.none.with 98 g1).with 186 g2) 98 [.ptr q 0, .bfn 99 [.ptr q 0]] H = .val .un B ∧ DoR H q B := fun m q H h1 h2 h3 => by
  rw [w_other _ _ _ _ rfl, w_here]; exact s1 m q H h1 h2 h3
 have c2 : BsH ((CallF.none.with 98 g1).with 186 g2) := fun p N H x h1 h2 => by
  rw [w_here]; exact s2 p N H x h1 h2
 generalize (CallF.none.with 98 g1).with 186 g2 = call at hC c1 c2;obtain ⟨g, k, s⟩ := XFact.spec (P := Tryz.prog) (F := 79) TT_ok (D := fun vs H => ∃ (m q : Nat) (x : List UInt8), vs = [.ptr q 0, .s x] ∧ x.length < 1100000 ∧ m ≠ q ∧ H[m]? = some (some onB) ∧ H[q]? = some (some (rpB 0 0 .nili (.sl m 1 0 4 none))))
  (R := fun vs H r => ∃ (q : Nat) (x : List UInt8), vs = [.ptr q 0, .s x] ∧ ∃ B, r = .val (.s (repX x)) B ∧ H.length ≤ B.length ∧ ∀ j, j < H.length → j ≠ q → B[j]? = H[j]?) (by
  rintro vs H ⟨m, q, x, rfl, hx, hne, hm, hq⟩;exact (XBody.fact TT_ok (body_2079 hC m q H x hx hne hm hq (c1 m q H hne hm hq) c2)).mono fun r hr => ⟨q, x, rfl, hr⟩)
 refine ⟨g, k, fun m q H x h1 h2 h3 h4 => ?_⟩;obtain ⟨r, ⟨q', x', he, B, rfl, h5, h6⟩, hr⟩ := s _ H ⟨m, q, x, rfl, h1, h2, h3, h4⟩;simp only [List.cons.injEq, V.ptr.injEq, V.s.injEq, and_true] at he;obtain ⟨rfl, rfl⟩ := he;exact ⟨B, hr, h5, h6⟩
theorem flt_all (s : List UInt8) (at_ : Int) (hs : s.length < 1100000) : FltH s at_ := by
 intro m t hd hm hw t2 t3 t6;obtain ⟨g1, k1, s1⟩ := sp2078;obtain ⟨g2, k2, s2⟩ := sp2079;have hC := ws (ws n0 k1) k2;have hb0 : ∃ b0, (numB s at_)[0]? = some (some b0) ∧ loadA TT 9 (numB s at_) (.ptr 0 0) = some (.s s) := ⟨_, rfl, by rfl⟩;have h1 := s1 3 (numB s at_ ++ [some wdB]) (by rfl);obtain ⟨B, c1, b1, b2, b3, b4⟩ := h1;have h2 := s2 4 5 B (s.take m) (by rw [List.length_take]; omega) (by omega) b3 b4;obtain ⟨B2, c2, d1, d2⟩ := h2;have c1' : ((CallF.none.with 78 g1).with 79 g2) 78 [.sl 3 1 0 4 (some 4)] [some ⟨9, [.s s], .all⟩, some ⟨3, [.i .i64 at_], .all⟩, none, some wdB] = .val (.ptr 5 0) B := by
  rw [w_other _ _ _ _ rfl, w_here]; exact c1
 have c2' : ((CallF.none.with 78 g1).with 79 g2) 79 [.ptr 5 0, .s (s.take m)] B = .val (.s (repX (s.take m))) B2 := by
  rw [w_here]; exact c2
 generalize (CallF.none.with 78 g1).with 79 g2 = call at hC c1' c2';have x1 : TT.ext 78 = none := rfl;have x2 : TT.ext 79 = none := rfl;have hbs : evBuildSlice TT 37 4 [(0, .s [95]), (1, .s []), (2, .s [69]), (3, .s [101])] (numB s at_) = .val (.sl 3 1 0 4 (some 4)) (numB s at_ ++ [some wdB]) := by rfl
 have A1 : ∀ K : Heap, K[0]? = some (some ⟨9, [.s s], .all⟩) → loadA TT 9 K (.ptr 0 0) = some (.s s) := fun K h => by simp [loadA, cellsAt, h, pickAt, isAggT, nthU_eq]
 have hB0 : B[0]? = some (some ⟨9, [.s s], .all⟩) := by rw [b2 0 (by show 0 < 4; omega)]; rfl
 have hB20 : B2[0]? = some (some ⟨9, [.s s], .all⟩) := by rw [d2 0 (by rw [b1]; show 0 < 4 + 2; omega) (by decide)]; exact hB0
 have hle : (m : Int) ≤ s.length := by omega
 show Tri Tryz.prog TT (.region _ _ _) t (numB s at_) _;refine Tri.regN (t' := ?t1) (H' := ?H1) TT_ok hC ?e1 ?q1;case e1 =>
  refine evReg_draw (t' := ?t1) (H' := ?H1) (ks := [.e, .e, .a, .q, .q, .e, .q, .q, .q, .q]) (fun K => K[0]? = some (some ⟨9, [.s s], .all⟩)) (by kernel_rfl) ?A1 ?_ ?r1;case A1 => rfl
  refine DR.eff rfl rfl (by simp [hbs, evParts] <;> rfl) (by rfl) (by simp [hw]) (by rfl) ?_;refine DR.eff rfl rfl (by simp [c1', x1] <;> rfl) (by rfl) (by simp [hw]) hB0 ?_;refine DR.any rfl (by simp [t2, A1 B hB0, -loadA] <;> rfl) (by rfl) (by simp [hw]) (by intro K hK; simp [t2, A1 K hK, -loadA] <;> rfl) ?_;refine DR.blind rfl rfl (by simp [t6] <;> rfl) (by rfl) (by simp [hw]) ?_;refine DR.blind rfl rfl (by simp [hm] <;> rfl) (by rfl) (by simp [hw]) ?_;refine DR.eff rfl rfl (by simp [c2', x2] <;> rfl) (by rfl) (by simp [hw]) hB20 ?_;refine DR.blind rfl rfl (by simp [t6] <;> rfl) (by rfl) (by simp [hw]) ?_;iterate 3 refine DR.blind rfl rfl (by simp <;> rfl) (by rfl) (by simp [hw]) ?_
  exact DR.nil;case r1 => exact rfl
 show Tri Tryz.prog TT .ret _ _ _;apply Tri.ret;show EndsX TT Tryz.f51 _ (.ret _ _);refine ⟨.tup [.i .i64 4, .s (repX (s.take m)), .i .i64 m], ?_, ?_⟩
 ·rw [hd];first
   | exact ⟨B2, rfl⟩
   | rfl
 ·simp [Tryz.f51]
theorem sp2011 : ∃ g, SpecOK Tryz.prog TT 11 g ∧ ∀ (s : List UInt8) (H : Heap), g [.s s] H = .val (scnV (scnT s)) H := by
 obtain ⟨g, k, h⟩ := sp2011_of (fun _ => True) fun s at_ _ hs => flt_all s at_ hs;exact ⟨g, k, fun s H => h s (fun _ => scnD_true s _ 0 true) H⟩
#print axioms sp2011
abbrev bolE : E := .f1 .vb (.va 0)
abbrev scnE : E := .f1 .tup (.f2 .cons (.va 0) (.f2 .cons (.f1 (.vi .i64) (.va 1)) (.f2 .cons (.f1 (.vi .i64) (.va 2)) .nil)))
def shq : Nat → Option Shape := fun f =>
 if f = 10 then some ⟨[.b], bolE, .pure, false⟩ else
 if f = 11 then some ⟨[.v, .i, .i], scnE, .pure, false⟩ else
 if f = 12 then some ⟨[.v, .i, .i], scnE, .pure, false⟩ else
 if f = 13 then some ⟨[.b], bolE, .pure, false⟩ else
 if f = 14 then some ⟨[.b], bolE, .pure, false⟩ else
 if f = 34 then some ⟨[.v], .va 0, .pure, false⟩ else
 shp f
def rowsT (l : List Tk) : List V := l.map fun x => .agg (tkL x)
theorem ld_row {ty : TypeId} (ha : isAggT (TT.und ty) = some true) (hs : TT.size ty = some 4) {l : List Tk} {i : Nat} {x : Tk} (h : l[i]? = some x) (H : Heap) : loadA TT ty H (.ipt 4 (rowsT l) i 0) = some (.agg (tkL x)) := by
 simp only [loadA, rowsT, List.getElem?_map, h, Option.map_some, pickAt, ha, hs];rfl
abbrev islE : E := .f1 (.isl 4) (.va 0)
def shr : Nat → Option Shape := fun f =>
 if f = 11 then some ⟨[.l, .i, .i], .f1 .tup (.f2 .cons islE (.f2 .cons (.f1 (.vi .i64) (.va 1)) (.f2 .cons (.f1 (.vi .i64) (.va 2)) .nil))), .pure, false⟩ else
 if f = 34 then some ⟨[.l], islE, .pure, false⟩ else
 shq f
theorem tr_l4 : codeT TT shr Tryz.f4.ntmps [] (bodyOf Tryz.f4) [] ⟨[(0, .f1 .vs (.va 0)), (1, .f1 (.vi .u16) (.va 1))], ⟨.va 2, [], []⟩, 3, []⟩ (KF TT Tryz.f4 [0, 1, 5, 42, 43]) = let qc:SH:=⟨v2,[],[]⟩;let qa:Tree:=.asks (.call 10 .nil) [.b] (xb v6) (.fin (xb v6) qc) (.stuck 0);let qb:Tree:=.fin (xb (.cb false)) qc;.asks (.call 11 (x1 (xs v0))) [.l,.i,.i] (xt (x3 (.f1 (.isl 4) v3) (xi v4) (xi v5))) (.ite (xG (xl v0) (xc 500)) qa (.ite (xM v5 c0) (.ite (xe (xn v3) c0) (.ite (xH v4 c0) (.ite (xL v4 (xl v0)) qa qb) qb) qb) (.leaf (.stop [true,true,true,true,false,true,false]) [(0,xs v0),(1,.f1 (.vi .u16) v1),(5,.f1 (.isl 4) v3),(42,xi (xn v3)),(43,xi c0)] qc))) (.stuck 0) := by kernel_rfl
theorem tr_l4b : goT TT shr Tryz.f4.ntmps [] [true, true, true, true, false, true, false, false] (bodyOf Tryz.f4) [] ⟨[(0, .f1 .vs (.va 0)), (1, .f1 (.vi .u16) (.va 1)), (5, .f1 (.isl 4) (.va 3)), (42, .f1 (.vi .i64) (.f1 .lenL (.va 3))), (43, .f1 (.vi .i64) (.va 4))], ⟨.va 2, [], []⟩, 5, []⟩ (KF TT Tryz.f4 [0, 1, 5, 42, 43]) = let qg:E:=xn v3;let qf:E:=.f3 (.ipt 4 2) v3 v4 .nil;let qc:SH:=⟨v2,[],[]⟩;let qd:Tree:=.fin (xb (.cb false)) qc;let qh:E:=xw (xS v4 c1);let qa:Tree:=.leaf (.again [true,true,true,true,false,true,false,false]) [(0,xs v0),(1,.f1 (.vi .u16) v1),(5,.f1 (.isl 4) v3),(42,xi qg),(43,xi (xw (xa v4 c1)))] qc;let qe:Tree:=.stuck 0;let qb:E:=.f2 (.opI .rem .i64) (xw v1) qg;.ite (xL v4 qg) (.need (xE c0 v4) (.ask (.load 3 qf) qc [.i] (xi v5) false (.ite (xL v5 c0) qd (.ask (.load 3 qf) qc [.i] (xi v6) false (.ite (xH v6 (xl v0)) qd (.ite (xG v4 c0) (.ask (.load 3 qf) qc [.i] (xi v7) false (.need (xE c0 qh) (.need (xL qh qg) (.ask (.load 3 (.f3 (.ipt 4 2) v3 qh .nil)) qc [.i] (xi v8) false (.ite (xE v7 v8) qd qa) qe))) qe) qa)) qe)) qe)) (.ite (xe qg c0) (.asks (.call 10 .nil) [.b] (xb v5) (.fin (xb v5) qc) qe) (.need (.f2 (.okI .rem .i64) (xw v1) qg) (.need (xE c0 qb) (.need (xL qb qg) (.ask (.load 3 (.f3 (.ipt 4 2) v3 qb .nil)) qc [.i] (xi v5) false (.need (xE c0 v5) (.need (xE v5 (xl v0)) (.asks (.call 11 (x1 (xs (.f3 .sub v0 c0 v5)))) [.l,.i,.i] (xt (x3 (.f1 (.isl 4) v6) (xi v7) (xi v8))) (.ite (xe v8 c0) (.need (xE qb qg) (.asks (.call 14 (x2 (.f1 (.isl 4) v6) (.f1 (.isl 4) (.f3 .subL v3 c0 qb)))) [.b] (xb v9) (.ite v9 (.asks (.call 10 .nil) [.b] (xb v10) (.fin (xb v10) qc) qe) qd) qe)) qd) qe))) qe))))) := by kernel_rfl
theorem tr_sa1 : codeT TT shr Tryz.f14.ntmps [] (bodyOf Tryz.f14) [] ⟨[(0, .f1 (.isl 4) (.va 0)), (1, .f1 (.isl 4) (.va 1))], ⟨.va 2, [], []⟩, 3, []⟩ (KF TT Tryz.f14 [5, 6, 18, 19]) = .asks (.call 34 (x1 (.f1 (.isl 4) v0))) [.l] (.f1 (.isl 4) v3) (.asks (.call 34 (x1 (.f1 (.isl 4) v1))) [.l] (.f1 (.isl 4) v4) (.ite (xM (xn v3) (xn v4)) (.fin (xb (.cb false)) ⟨v2,[],[]⟩) (.leaf (.stop [true,true,true,false,true,false]) [(5,.f1 (.isl 4) v3),(6,.f1 (.isl 4) v4),(18,xi (xn v3)),(19,xi c0)] ⟨v2,[],[]⟩)) (.stuck 0)) (.stuck 0) := by kernel_rfl
theorem tr_sa2 : goT TT shr Tryz.f14.ntmps [] [true, true, true, false, true, false, false] (bodyOf Tryz.f14) [] ⟨[(5, .f1 (.isl 4) (.va 0)), (6, .f1 (.isl 4) (.va 1)), (18, .f1 (.vi .i64) (.f1 .lenL (.va 0))), (19, .f1 (.vi .i64) (.va 3))], ⟨.va 2, [], []⟩, 4, []⟩ (KF TT Tryz.f14 [5, 6, 18, 19]) = let qa:SH:=⟨v2,[],[]⟩;.ite (xL v3 (xn v0)) (.need (xE c0 v3) (.ask (.load 34 (.f3 (.ipt 4 0) v0 v3 .nil)) qa [.i,.s,.i,.b] (xg (x4 (xi v4) (xs v5) (xi v6) (xb v7))) false (.need (xL v3 (xn v1)) (.ask (.load 34 (.f3 (.ipt 4 0) v1 v3 .nil)) qa [.i,.s,.i,.b] (xg (x4 (xi v8) (xs v9) (xi v10) (xb v11))) false (.ite (.f2 .andB (xe v4 v8) (.f2 .andB (xQ v5 v9) (.f2 .andB (xe v6 v10) (.f2 .andB (.f2 .eqB v7 v11) (.cb true))))) (.leaf (.again [true,true,true,false,true,false,false]) [(5,.f1 (.isl 4) v0),(6,.f1 (.isl 4) v1),(18,xi (xn v0)),(19,xi (xw (xa v3 c1)))] qa) (.fin (xb (.cb false)) qa)) (.stuck 0))) (.stuck 0))) (.fin (xb (.cb true)) qa) := by kernel_rfl
def OutB (H : Heap) (v : V) (l : List Tk) : Prop := (v = .nils ∧ l = []) ∨ ∃ n, v = .sl n 4 0 l.length none ∧ H[n]? = some (some { ty := 34, cells := tkC l, kind := .more })
theorem appB {H : Heap} {v : V} {l : List Tk} (h : OutB H v l) (hl : l.length < 100000000) (x : Tk) {b : Nat} (hb : H[b]? = some (some { ty := 34, cells := tkL x, kind := .all })) :
 ∃ v2 H2, evAppend TT 23 v (.sl b 4 0 1 (some 1)) H = .val v2 H2 ∧ OutB H2 v2 (l ++ [x]) := by
 have e1 : TT.und 23 = some (.slice 34) := rfl;have e2 : TT.size 34 = some 4 := rfl;have e3 : TT.zero 34 = some (.agg [.i .i64 0, .s [], .i .i64 0, .b false]) := rfl;have e4 : TT.bytes 34 = some 40 := rfl;have c1 : cellsAt H b = some { ty := 34, cells := tkL x, kind := .all } := by simp [cellsAt, hb]
 have c3 : cut (tkL x) (0 * 4) (1 * 4) = some (tkL x) := by simp [cut, tkL]
 have f1 : (tkL x).all flat = true := by simp [tkL, flat]
 have f2 : (V.agg [.i .i64 0, .s [], .i .i64 0, .b false]).cells.length = 4 := rfl;rcases h with ⟨rfl, rfl⟩ | ⟨n, rfl, hn⟩
 ·simp only [evAppend, e1, e2, e3, e4, appended, c1, c3, Option.map_some, if_true];rw [if_pos ⟨by decide, f2, by decide, f1⟩];simp only [newB_eq];rw [if_neg (by decide), if_pos ⟨by omega, by omega⟩];exact ⟨_, _, rfl, .inr ⟨H.length, rfl, by simp [tkC]⟩⟩
 ·have c2 : cellsAt H n = some { ty := 34, cells := tkC l, kind := .more } := by simp [cellsAt, hn]
  have c4 : cut (tkC l) (0 * 4) (l.length * 4) = some (tkC l) := by simp [cut, ← tkC_length]
  have hlen := tkC_length l;simp only [evAppend, e1, e2, e3, e4, appended, c1, c2, c3, c4, Option.map_some, if_true];rw [if_pos ⟨by decide, f2, by decide, f1⟩, if_pos ⟨trivial, by omega, by omega⟩];simp only [newB_eq, setK_eq];rw [if_neg (by decide), if_pos ⟨trivial, by omega, trivial⟩];refine ⟨_, _, rfl, .inr ⟨H.length, by simp, ?_⟩⟩;rw [tkC_snoc];simp
def barT (x : Tk) : Tk := (x.1, x.2.1, 0, false)
theorem loop_bare {call : CallF} (hC : call.Sound Tryz.prog TT) (l : List Tk) (hl : l.length < 1100000) {Q : Out → Prop} :
    ∀ (r p : List Tk) (v : V) (t : Tm) (H : Heap), l = p ++ r → t.wid = 22 → t.get 3 = v → t.get 6 = .isl 4 (rowsT l) → t.get 7 = .i .i64 (l.length : Nat) → t.get 8 = .i .i64 (p.length : Nat) → OutB H v (p.map barT) →
      (∀ (t' : Tm) (H' : Heap) (v : V), t'.wid = 22 → t'.get 3 = v → OutB H' v (l.map barT) → Q (.exit 0 t' H')) →
      LTri Tryz.prog TT (sub [true, true, false, true, false, false] (bodyOf Tryz.f34)) t H Q := by
 intro r
 induction r with
 | nil =>
   intro p v t H e hw t3 t6 t7 t8 hO hQ
   have e1 : p.length = l.length := by rw [e]; simp
   have hlt : ¬ ((p.length : Nat) : Int) < (l.length : Nat) := by omega
   have hF := ai @t3 (ai @t6 (ai @t7 (ai @t8 @hlt)))
   refine LTri.round' ?_
   apply rS hC
   · refine evSeq_go rfl (by simp [hF] <;> rfl) (by rfl) (by simp [hw]) ?_
     rfl
   apply sQ
   refine Tri.condG (o := ?o1) (b := ?b1) ?g1 ?r1 ?y1 ?n1
   case g1 => simp [hF] <;> rfl
   case r1 => rfl
   case y1 => intro h; simp [hF] at h
   case n1 =>
    intro _
    refine Tri.exit ?_
    refine inSeq_exit ?_
    refine inLoop_exit ?_
    refine hQ _ _ v (by simp [hw]) (by simp [t3]) ?_
    rw [e, List.append_nil]
    exact hO
 | cons x r ih =>
   intro p v t H e hw t3 t6 t7 t8 hO hQ
   have hlen : l.length = p.length + (r.length + 1) := by rw [e]; simp
   have hlt : ((p.length : Nat) : Int) < (l.length : Nat) := by omega
   have hx : l[p.length]? = some x := by rw [e]; simp
   have h0 : (0 : Int) ≤ (p.length : Nat) := by omega
   have hrl : (rowsT l).length = l.length := by simp [rowsT]
   have hix : p.length < (rowsT l).length := by omega
   have hld : ∀ h, (rowsT l)[p.length]'h = .agg (tkL x) := fun h => by
    have : p.length < l.length := by omega
    rw [List.getElem?_eq_getElem this] at hx
    simp only [rowsT, List.getElem_map, Option.some.inj hx]
   have hw1 : IntKind.i64.wrap ((p.length : Int) + 1) = ((p ++ [x]).length : Nat) := by
    rw [w64 (by omega) (by omega)]; simp
   have hF := ai @t3 (ai @t6 (ai @t7 (ai @t8 (ai @hlt (ai @hix (ai @hld @hw1))))))
   refine LTri.round' ?_
   apply rS hC
   · refine evSeq_go rfl (by simp [hF] <;> rfl) (by rfl) (by simp [hw]) ?_
     rfl
   apply sQ
   refine Tri.condG (o := ?ok1) (b := ?bk1) ?gk1 ?rk1 ?yk1 ?nk1
   case gk1 => simp [hF] <;> rfl
   case rk1 => rfl
   case nk1 => intro h; simp [hF] at h
   case yk1 =>
    intro _
    apply Tri.skip
    apply sN
    apply sQ
    apply bK
    apply sQ
    refine Tri.regN (t' := ?tk2) (H' := ?Hk2) TT_ok hC ?ek2 ?qk2
    case ek2 =>
     refine go_false ?_
     iterate 4 refine evSeq_go rfl (by simp [hF, tkL] <;> rfl) (by rfl) (by simp [hw]) ?_
     exact evSeq_nil
    apply sN
    have hb3 : ∀ K : Heap, evBuildSlice TT 23 1 [(0, .agg [.i .i64 x.1, .s x.2.1, .i .i64 0, .b false])] K = .val (.sl K.length 4 0 1 (some 1)) (K ++ [some { ty := 34, cells := tkL (barT x), kind := .all }]) := fun K => bsTokP (barT x) K
    obtain ⟨v2, H2, ha, hO2⟩ := appB (H := (H ++ [some ⟨34, tkL x, .all⟩]) ++ [some ⟨34, tkL (barT x), .all⟩]) (v := v) (l := p.map barT) (by
     rcases hO with h | ⟨n, h1, h2⟩
     · exact .inl h
     · refine .inr ⟨n, h1, ?_⟩
       have := Heap.lt h2
       rw [List.getElem?_append_left (by simp; omega), List.getElem?_append_left this]
       exact h2) (by rw [List.length_map]; omega) (barT x) (b := H.length + 1) (by simp)
    simp only [List.append_assoc, List.cons_append, List.nil_append, tkL, barT] at ha
    refine Tri.regN (t' := ?tk3) (H' := ?Hk3) TT_ok hC ?ek3 ?qk3
    case ek3 =>
     refine go_false ?_
     iterate 6 refine evSeq_go rfl (by simp [t3, tkL] <;> rfl) (by rfl) (by simp [hw]) ?_
     refine evSeq_go rfl (by simp [hb3, tkL, barT] <;> rfl) (by rfl) (by simp [hw]) ?_
     refine evSeq_go rfl (by simp [ha] <;> rfl) (by rfl) (by simp [hw]) ?_
     refine evSeq_go rfl (by simp <;> rfl) (by rfl) (by simp [hw]) ?_
     exact evSeq_nil
    apply bN
    apply sN
    refine Tri.regN (t' := ?tk4) (H' := ?Hk4) TT_ok hC ?ek4 ?qk4
    case ek4 =>
     refine go_false ?_
     iterate 2 refine evSeq_go rfl (by simp [t8, hw1] <;> rfl) (by rfl) (by simp [hw]) ?_
     exact evSeq_nil
    refine inLoop_norm ?_
    exact ih (p ++ [x]) v2 _ _ (by rw [e]; simp) (by simp [hw]) (by simp) (by simp [t6]) (by simp [t7]) (by simp [t8, hw1]) (by rw [List.map_append]; exact hO2) hQ
def BareO (l : List Tk) (r : OR) : Prop := ∃ v J, r = .val v J ∧ OutB J v (l.map barT)
theorem bare_frz {l : List Tk} {r : OR} (h : BareO l r) : ∃ v J k v' u, r = .val v J ∧ fz J k v = some v' ∧ Weak v' u ∧ u = .isl 4 (rowsT (l.map barT)) := by
 obtain ⟨v, J, rfl, ho⟩ := h;generalize l.map barT = m at ho;rcases ho with ⟨rfl, rfl⟩ | ⟨n, rfl, hn⟩
 ·exact ⟨_, J, 5, _, _, rfl, by simp [fz] <;> rfl, weak_nils 4, rfl⟩
 ·have hc : cellsAt J n = some { ty := 34, cells := tkC m, kind := .more } := by simp [cellsAt, hn]
  have hlen := tkC_length m;have hcut : cut (tkC m) (0 * 4) (m.length * 4) = some (tkC m) := by
   simp only [cut];rw [if_pos (by omega), Nat.zero_mul, List.drop_zero, List.take_of_length_le (by omega)]
  have hf := fzL_tk (H := J) m (4 * m.length + 7) (by omega);exact ⟨_, J, 4 * m.length + 8, _, _, rfl, by simp only [fz, hc, hcut, hf, rowsOf_tk, Option.map_some]; rfl, Weak.refl _, rfl⟩
theorem rows_nl (l : List Tk) : nl (.isl 4 (rowsT l)) = true := by
 show nlL (rowsT l) = true;unfold rowsT;induction l with
 | nil => rfl
 | cons x l ih =>
  show (nl (V.agg (tkL x)) && nlL (l.map fun x => V.agg (tkL x))) = true;rw [ih];rfl
theorem rows_inj {l r : List Tk} (h : rowsT l = rowsT r) : l = r := by
 refine (List.map_inj_right (f := fun x : Tk => V.agg (tkL x)) fun x y e => ?_).1 h;simp only [V.agg.injEq, tkL, List.cons.injEq, V.i.injEq, V.s.injEq, V.b.injEq, true_and, and_true] at e;exact Prod.ext e.1 (Prod.ext e.2.1 (Prod.ext e.2.2.1 e.2.2.2))
theorem sp2034 : ∃ g, SpecOK Tryz.prog TT 34 g ∧ ∀ l : List Tk, l.length < 1100000 → ∀ H, g [.isl 4 (rowsT l)] H = .val (.isl 4 (rowsT (l.map barT))) H := by
 refine spec_xfrz TT_ok TT_plain 34 (fun l : List Tk => [.isl 4 (rowsT l)]) (fun l => l.length < 1100000) (fun l => .isl 4 (rowsT (l.map barT))) (fun l _ => ?_) (fun a b _ _ h => ?_)
  fun l hl => (XBody.fact TT_ok (R := BareO l) ?_).mono fun r hr => bare_frz hr
 ·show (nl (.isl 4 (rowsT l)) && true) = true;rw [rows_nl]; rfl
 ·simp only [List.cons.injEq, V.isl.injEq, true_and, and_true] at h;rw [rows_inj h]
 ·refine ⟨Tryz.f34, _, rfl, rfl, by simp [Tryz.f34], ?_⟩;have h0 : (Tm.init Tryz.f34.ntmps [.isl 4 (rowsT l)]).get 0 = .isl 4 (rowsT l) := by rw [get_init]; rfl
  have hw : (Tm.init Tryz.f34.ntmps [.isl 4 (rowsT l)]).wid = 22 := rfl;have hrl : (rowsT l).length = l.length := by simp [rowsT]
  generalize Tm.init Tryz.f34.ntmps [.isl 4 (rowsT l)] = t at *;apply sQ;refine Tri.regN (t' := ?t1) (H' := ?H1) TT_ok n0 ?e1 ?q1;case e1 =>
   refine go_false ?_;refine evSeq_go rfl (by simp <;> rfl) (by rfl) (by simp [hw]) ?_;exact evSeq_nil
  apply sN;apply sQ;refine Tri.regN (t' := ?t2) (H' := ?H2) TT_ok n0 ?e2 ?q2;case e2 =>
   refine go_false ?_;refine evSeq_go rfl (by simp <;> rfl) (by rfl) (by simp [hw]) ?_;exact evSeq_nil
  apply sN;iterate 2 apply sQ
  refine Tri.regN (t' := ?t3) (H' := ?H3) TT_ok n0 ?e3 ?q3;case e3 =>
   refine go_false ?_;iterate 3 refine evSeq_go rfl (by simp [h0, hrl] <;> rfl) (by rfl) (by simp [hw]) ?_
   exact evSeq_nil
  apply sN;apply bK;refine Tri.loop ?_;refine loop_bare n0 l hl l [] .nils _ _ rfl (by simp [hw]) (by simp) (by simp [h0]) (by simp [hrl]) (by simp) (.inl ⟨rfl, rfl⟩) ?_;intro t' H' v hw' f3 hO;refine inBlk_exit ?_;apply sN;apply sQ;refine Tri.regN (t' := ?t4) (H' := ?H4) TT_ok n0 ?e4 ?q4;case e4 =>
   refine go_false ?_;iterate 2 refine evSeq_go rfl (by simp [f3] <;> rfl) (by rfl) (by simp [hw']) ?_
   exact evSeq_nil
  apply sN;apply Tri.ret;exact ⟨v, ⟨v, H', rfl, hO⟩, by simp [Tryz.f34, f3] <;> rfl⟩
theorem rows_len (l : List Tk) : (rowsT l).length = l.length := by simp [rowsT]
theorem head_sa {call : CallF} (hC : call.Sound Tryz.prog TT) (l r : List Tk) (hl : l.length < 1100000) (he : l.length = r.length) :
 ∀ (n i : Nat) (t : Tm) (H : Heap), l.length < n + i → i ≤ l.length → t.wid = Tryz.f14.ntmps → t.get 5 = .isl 4 (rowsT l) → t.get 6 = .isl 4 (rowsT r) → t.get 18 = .i .i64 l.length → t.get 19 = .i .i64 (i : Nat) →
 ctx Tryz.prog TT [true, true, true, false, true, false, false] (bodyOf Tryz.f14) (EndsX TT Tryz.f14 (isR (.val (.b (decide (l.drop i = r.drop i)))))) (.norm t H) := by
 intro n;induction n with
 | zero => intro i t H h1 h2; omega
 | succ n ih =>
  intro i t H hn hi hw t5 t6 t18 t19;have hlr := rows_len l;have hrr := rows_len r;refine LTri.symIn (p := [true, true, true, false, true, false]) TT_ok hC rfl tr_sa2 (by kernel_rfl) [.ul (rowsT l), .ul (rowsT r), .uh H, .ui (i : Nat)] rfl hw ⟨t5, t6, by rw [t18, ← hlr]; rfl, t19, trivial⟩ rfl (WF_opq _ _) ?_;clear t5 t6 t18 t19 hw;simp -implicitDefEqProofs only [VC, isR, exU, Ask.den, forall_eq, E.den, O1.den, O2.den, O3.den, U.int_ui, U.boo_ub, U.val_uv, U.lst_ul, U.str_us, U.nat_un, U.heap_uh, SH.den, setsD, newD, bD, SB.den, factsTo, LQ, List.cons_append, List.nil_append, List.getElem?_cons_zero, List.getElem?_cons_succ, Option.getD_some, ltB_true, ltB_false, leB_true, leB_false, beq_iff_eq, bne_iff_ne, beq_eq_false_iff_ne, Int.toNat_natCast, Bool.false_eq_true, if_false, if_true];have w1 : IntKind.i64.wrap ((i : Int) + 1) = ((i + 1 : Nat) : Int) := by rw [w64 (by omega) (by omega)]; omega
  simp only [w1, Int.toNat_natCast];refine ⟨fun h => ⟨by omega, .inl ?_⟩, fun h => ?_⟩
  ·have h1 : i < l.length := by omega
   have h2 : i < r.length := by omega
   refine ⟨l[i].1, l[i].2.1, l[i].2.2.1, l[i].2.2.2, ?_, by omega, .inl ⟨r[i].1, r[i].2.1, r[i].2.2.1, r[i].2.2.2, ?_, ?_, ?_⟩⟩
   ·rw [ld_row rfl rfl (List.getElem?_eq_getElem h1)]; rfl
   ·rw [ld_row rfl rfl (List.getElem?_eq_getElem h2)]; rfl
   ·intro hq t' hw' f5 f6 f18 f19;simp only [Bool.and_eq_true, beq_iff_eq] at hq;have hx : l[i] = r[i] := Prod.ext hq.1 (Prod.ext hq.2.1 (Prod.ext hq.2.2.1 hq.2.2.2.1));have e : decide (l.drop i = r.drop i) = decide (l.drop (i + 1) = r.drop (i + 1)) := by
     have e1 : l.drop i = r[i] :: l.drop (i + 1) := by rw [← hx]; exact List.drop_eq_getElem_cons h1
     have e2 : r.drop i = r[i] :: r.drop (i + 1) := List.drop_eq_getElem_cons h2;rw [e1, e2, decide_eq_decide];exact ⟨fun h => (List.cons.inj h).2, fun h => by rw [h]⟩
    rw [e];exact ih (i + 1) t' _ (by omega) (by omega) hw' f5 f6 (by rw [f18, hlr]) f19
   ·intro hq;have hx : l.drop i ≠ r.drop i := fun e => by
     rw [List.drop_eq_getElem_cons h1, List.drop_eq_getElem_cons h2] at e;rw [(List.cons.inj e).1] at hq;simp at hq
    rw [decide_eq_false hx]
  ·rw [List.drop_eq_nil_of_le (by omega), List.drop_eq_nil_of_le (by omega)];rfl
def sameT (l r : List Tk) : Bool := decide (l.map barT = r.map barT)
theorem sp2014 : ∃ g, SpecOK Tryz.prog TT 14 g ∧ ∀ p : List Tk × List Tk, (p.1.length < 1100000 ∧ p.2.length < 1100000) → ∀ H, g [.isl 4 (rowsT p.1), .isl 4 (rowsT p.2)] H = (Res.val (.b (sameT p.1 p.2))).at H := by
 obtain ⟨g1, k1, s1⟩ := sp2034;have hC := ws n0 k1;have c1 : ∀ l : List Tk, l.length < 1100000 → ∀ H, (CallF.none.with 34 g1) 34 [.isl 4 (rowsT l)] H = .val (.isl 4 (rowsT (l.map barT))) H := fun l h H => by rw [w_here]; exact s1 l h H
 generalize CallF.none.with 34 g1 = call at hC c1;refine spec_fn TT_ok TT_plain 14 (fun p : List Tk × List Tk => [.isl 4 (rowsT p.1), .isl 4 (rowsT p.2)]) _ (fun p => .val (.b (sameT p.1 p.2))) (fun p _ => ⟨?_, rfl⟩) (fun a b _ _ h => ?_) fun p hp => ?_
 ·show (nl (.isl 4 (rowsT p.1)) && (nl (.isl 4 (rowsT p.2)) && true)) = true;rw [rows_nl, rows_nl]; rfl
 ·simp only [List.cons.injEq, V.isl.injEq, true_and, and_true] at h;rw [rows_inj h.1, rows_inj h.2]
 ·obtain ⟨l, r⟩ := p;simp only at hp ⊢;refine XBody.sym TT_ok hC (fn := Tryz.f14) rfl rfl (by simp [Tryz.f14]) tr_sa1 (by kernel_rfl) [.ul (rowsT l), .ul (rowsT r), .uh []] rfl ⟨by rw [get_init]; rfl, by rw [get_init]; rfl, trivial⟩ rfl (WF_opq _ _) ?_;simp -implicitDefEqProofs only [VC, isR, exU, Ask.den, forall_eq, E.den, O1.den, O2.den, O3.den, U.int_ui, U.boo_ub, U.val_uv, U.lst_ul, U.str_us, U.nat_un, U.heap_uh, SH.den, setsD, newD, bD, SB.den, factsTo, LQ, List.cons_append, List.nil_append, List.getElem?_cons_zero, List.getElem?_cons_succ, Option.getD_some, ltB_true, ltB_false, leB_true, leB_false, beq_iff_eq, bne_iff_ne, beq_eq_false_iff_ne, Int.toNat_natCast];refine .inl ⟨_, c1 l hp.1, .inl ⟨_, c1 r hp.2, fun h => ?_, fun h t hw t5 t6 t18 t19 => ?_⟩⟩
  ·unfold sameT;rw [decide_eq_false (fun e => by
    rw [e] at h;simp at h)]
  ·rw [rows_len, rows_len, List.length_map, List.length_map] at h;have he : l.length = r.length := Int.ofNat.inj (by simpa using h);have := head_sa n0 (l.map barT) (r.map barT) (by rw [List.length_map]; exact hp.1) (by rw [List.length_map, List.length_map]; exact he) ((l.map barT).length + 1) 0 t [] (by omega) (by omega) hw t5 t6 (by rw [t18, rows_len]) t19;rw [List.drop_zero, List.drop_zero] at this;exact Tri.symLoop rfl this
theorem ld_place {l : List Tk} {i : Nat} {x : Tk} (h : l[i]? = some x) (H : Heap) : loadA TT 3 H (.ipt 4 (rowsT l) i 2) = some (.i .i64 x.2.2.1) := by
 have e : isAggT (TT.und 3) = some false := rfl;simp only [loadA, rowsT, List.getElem?_map, h, Option.map_some, pickAt, e];rfl
theorem rem_i64 (a b : Nat) (hb : 0 < b) : evInt .rem .i64 (a : Int) (b : Int) = some (.i .i64 ((a % b : Nat) : Int)) := by
 have h0 : ¬ (b : Int) = 0 := by omega
 have e : evInt .rem .i64 (a : Int) (b : Int) = some (.i .i64 ((a : Int).tmod (b : Int))) := by
  simp only [evInt, Op.intDiv, if_neg h0];rfl
 rw [e, tmod_nat]
structure PlT (s : List UInt8) (l : List Tk) : Prop where
  len : l.length < 1100000
  at' : ∀ x ∈ l, 0 ≤ x.2.2.1 ∧ x.2.2.1 < (s.length : Int)
  asc : ∀ (n : Nat) (x y : Tk), l[n]? = some x → l[n + 1]? = some y → x.2.2.1 < y.2.2.1
  cut : ∀ (k c : Nat) (x : Tk), l[k]? = some x → x.2.2.1 = (c : Int) → scnT (s.take c) = (l.take k, 0, 0)
theorem head_l4 {call : CallF} (hC : call.Sound Tryz.prog TT) (s : List UInt8) (w : Nat) (hw2 : w < 65536) (hs : s.length < 1100000) (c1 : ∀ H, call 10 [] H = .val (.b true) H) (c2 : ∀ x H, call 11 [.s x] H = .val (scnV (scnT x)) H)
 (c3 : ∀ p : List Tk × List Tk, (p.1.length < 1100000 ∧ p.2.length < 1100000) → ∀ H, call 14 [.isl 4 (rowsT p.1), .isl 4 (rowsT p.2)] H = .val (.b (sameT p.1 p.2)) H) (l : List Tk) (hp : PlT s l) :
 ∀ (n i : Nat) (t : Tm) (H : Heap), l.length < n + i → i ≤ l.length → t.wid = Tryz.f4.ntmps → t.get 0 = .s s → t.get 1 = .i .u16 (w : Nat) → t.get 5 = .isl 4 (rowsT l) → t.get 42 = .i .i64 l.length → t.get 43 = .i .i64 (i : Nat) →
 ctx Tryz.prog TT [true, true, true, true, false, true, false, false] (bodyOf Tryz.f4) (EndsX TT Tryz.f4 (isR (.val (.b true)))) (.norm t H) := by
 intro n;induction n with
 | zero => intro i t H h1 h2; omega
 | succ n ih =>
  intro i t H hn hi hw t0 t1 t5 t42 t43;have hlr := rows_len l;have hl := hp.len;refine LTri.symIn (p := [true, true, true, true, false, true, false]) TT_ok hC rfl tr_l4b (by kernel_rfl) [.us s, .ui (w : Nat), .uh H, .ul (rowsT l), .ui (i : Nat)] rfl hw ⟨t0, t1, t5, by rw [t42, ← hlr]; rfl, t43, trivial⟩ rfl (WF_opq _ _) ?_;clear t0 t1 t5 t42 t43 hw;simp -implicitDefEqProofs only [VC, isR, exU, Ask.den, forall_eq, E.den, O1.den, O2.den, O3.den, U.int_ui, U.boo_ub, U.val_uv, U.lst_ul, U.str_us, U.nat_un, U.heap_uh, SH.den, setsD, newD, bD, SB.den, factsTo, LQ, List.cons_append, List.nil_append, List.getElem?_cons_zero, List.getElem?_cons_succ, Option.getD_some, ltB_true, ltB_false, leB_true, leB_false, beq_iff_eq, bne_iff_ne, beq_eq_false_iff_ne, Int.toNat_natCast, Bool.false_eq_true, if_false, if_true];have w1 : IntKind.i64.wrap ((i : Int) + 1) = ((i + 1 : Nat) : Int) := by rw [w64 (by omega) (by omega)]; omega
  have w2 : IntKind.i64.wrap ((i : Int) - 1) = (i : Int) - 1 := w64 (by omega) (by omega);have w3 : IntKind.i64.wrap (w : Int) = w := w64 (by omega) (by omega);simp only [w1, w2, w3, Int.toNat_natCast];rw [hlr];refine ⟨fun h => ⟨by omega, .inl ?_⟩, fun h => ⟨fun h0 => .inl ⟨true, c1, rfl⟩, fun h0 => ?_⟩⟩
  ·have h1 : i < l.length := by omega
   have hx := List.getElem?_eq_getElem h1;have hr := hp.at' _ (List.getElem_mem h1);have hld : ∀ H, lift (loadA TT 3 H (V.ipt 4 (rowsT l) i 2)) H = OR.val (V.i IntKind.i64 l[i].2.2.1) H := fun H => by rw [ld_place hx]; rfl
   have go : ∀ (t : Tm), t.wid = Tryz.f4.ntmps → t.get 0 = V.s s → t.get 1 = V.i IntKind.u16 (w : Nat) → t.get 5 = V.isl 4 (rowsT l) → t.get 42 = V.i IntKind.i64 (l.length : Nat) → t.get 43 = V.i IntKind.i64 ((i + 1 : Nat) : Int) →
    ctx Tryz.prog TT [true, true, true, true, false, true, false, false] (bodyOf Tryz.f4) (EndsX TT Tryz.f4 (isR (Res.val (V.b true)))) (Out.norm t H) := fun t hw f0 f1 f5 f42 f43 => ih (i + 1) t H (by omega) (by omega) hw f0 f1 f5 f42 f43
   refine ⟨_, hld H, fun h => by omega, fun _ => .inl ⟨_, hld H, fun h => by omega, fun _ => ⟨fun hi0 => .inl ⟨_, hld H, by omega, by omega, .inl ⟨l[i - 1].2.2.1, ?_, fun h => ?_, fun _ => go⟩⟩, fun _ => go⟩⟩⟩
   ·rw [show ((i : Int) - 1).toNat = i - 1 from by omega, ld_place (List.getElem?_eq_getElem (by omega))]; rfl
   ·have := hp.asc (i - 1) _ _ (List.getElem?_eq_getElem (by omega)) (by rw [show i - 1 + 1 = i from by omega]; exact hx);omega
  ·have hpos : 0 < l.length := by omega
   rw [rem_i64 w l.length hpos];simp only [intOf_i, kindOf_i, Int.toNat_natCast, decide_true];have hk : w % l.length < l.length := Nat.mod_lt _ hpos;generalize w % l.length = k at hk;have hx := List.getElem?_eq_getElem hk;have hr := hp.at' _ (List.getElem_mem hk);obtain ⟨c, hcc⟩ : ∃ c : Nat, l[k].2.2.1 = (c : Int) := ⟨l[k].2.2.1.toNat, by omega⟩;have hcut := hp.cut k c _ hx hcc;refine ⟨trivial, by omega, by omega, .inl ⟨c, by rw [ld_place hx, hcc]; rfl, by omega, by omega, .inl ⟨rowsT (l.take k), 0, 0, fun K => ?_, fun _ => ⟨by omega, .inl ⟨true, fun K => ?_, fun _ => .inl ⟨true, c1, rfl⟩, fun h => by cases h⟩⟩, fun h => absurd rfl h⟩⟩⟩
   ·have := c2 (s.take c) K;rw [hcut] at this;exact this
   ·have e1 : (rowsT l).take k = rowsT (l.take k) := by unfold rowsT; rw [List.map_take]
    have := c3 (l.take k, l.take k) ⟨by simp only [List.length_take]; omega, by simp only [List.length_take]; omega⟩ K;simp only [sameT, decide_true] at this;rw [e1];exact this
theorem PlT.of {s : List UInt8} {l : List Tk} (hs : s.length ≤ 20000) (h : Toks s 0 true l) (hl : l.length < 1100000) : PlT s l where
  len := hl
  at' x hx := by have := h.at (by omega) x hx; omega
  asc := h.asc (by omega)
  cut k c x hx hc := by
    have := h.cut (by omega) k c x hx hc
    rw [List.append_nil] at this
    exact toks_scnT (by rw [List.length_take]; omega) this
theorem toks_len {s : List UInt8} {i : Nat} {b : Bool} {l : List Tk} (h : Toks s i b l) : i ≤ s.length → l.length + i ≤ s.length := by
 induction h with
 | done h => intro hi; simpa using hi
 | @step i j m b l' k t L h hj ht hr ih =>
  intro hi;have hk := skQ_ok hi h;have hm := tokQ_ok ht;rw [List.length_drop] at hm;simp only at hm;have := ih (by omega);simp only [List.length_cons];omega
theorem skF_bad {s : List UInt8} : ∀ (n i : Nat) (b : Bool) (a : Nat), i ≤ s.length → skF s n i b = .inl a → a < s.length
 | 0, i, b, a, hi, h => by cases h
 | n + 1, i, b, a, hi, h => by
  simp only [skF] at h;split at h
  ·split at h
   ·exact skF_bad n _ _ _ (by omega) h
   ·split at h
    ·cases h
    ·cases h; omega
    ·rename_i p hp;exact skF_bad n _ _ _ (comQ_ok hi hp).2 h
  ·cases h
theorem scnF_bad {s : List UInt8} : ∀ (n i : Nat) (b : Bool) (acc : List Tk) (a e : Nat), i ≤ s.length → scnF s n i b acc = .inr (a, e) → a < s.length
 | 0, i, b, acc, a, e, hi, h => by cases h
 | n + 1, i, b, acc, a, e, hi, h => by
  simp only [scnF] at h;split at h
  ·rename_i x hx;cases h;exact skF_bad _ _ _ _ hi hx
  ·rename_i j l' hs;have hk := skQ_ok hi hs;split at h
   ·cases h
   ·split at h
    ·cases h; omega
    ·rename_i k t m ht;have hm := tokQ_ok ht;rw [List.length_drop] at hm;simp only at hm;exact scnF_bad n _ _ _ _ _ (by omega) h
theorem scnT_bad {s : List UInt8} {l : List Tk} {a e : Nat} (hs : s.length ≤ 20000) (h : scnT s = (l, a, e)) (he : e ≠ 0) : l = [] ∧ a < s.length := by
 unfold scnT at h;rw [if_neg (by omega)] at h;cases hf : scnF s (s.length + 1) 0 true [] with
 | inl L =>
  rw [hf] at h;simp only [Prod.mk.injEq] at h;exact absurd h.2.2.symm he
 | inr p =>
  rw [hf] at h;simp only [Prod.mk.injEq] at h;refine ⟨h.1.symm, ?_⟩;rw [← h.2.1];exact scnF_bad _ _ _ _ _ _ (by omega) hf
theorem XBody.is {F : FuncId} {vs : List V} {r : Res} (h : XBody Tryz.prog TT F vs [] (isR r)) : EBody Tryz.prog TT F vs (fun x => x = r) := by
 obtain ⟨fn, c, h1, h2, h3, h4⟩ := h;refine ⟨fn, c, h1, h2, h3, h4.mono fun o ho => ?_⟩;cases o with
 | norm t H => obtain ⟨v, k1, k2⟩ := ho; exact ⟨_, k1.symm, k2⟩
 | ret t H => obtain ⟨v, k1, k2⟩ := ho; exact ⟨_, k1.symm, k2⟩
 | pan v t H => exact ⟨_, Eq.symm ho, rfl⟩
 | exit j t H => exact ho.elim
 | no => exact ho.elim
theorem law_places (s : List UInt8) (w : Nat) (h1 : s.length < 1100000) (hw2 : w < 65536) : Body Tryz.prog TT 4 [.s s, .i .u16 (w : Nat)] (.val (.b true)) := by
 obtain ⟨g1, k1, s1⟩ := sp2010;obtain ⟨g2, k2, s2⟩ := sp2011;obtain ⟨g4, k4, s4⟩ := sp2014;have hC := ws (ws (ws n0 k1) k2) k4;generalize hc : ((CallF.none.with 10 g1).with 11 g2).with 14 g4 = call at hC;have c1 : ∀ H, call 10 [] H = .val (.b true) H := fun H => by rw [← hc, w_other _ _ _ _ rfl, w_other _ _ _ _ rfl, w_here]; exact s1 H
 have c2 : ∀ x H, call 11 [.s x] H = .val (scnV (scnT x)) H := fun x H => by rw [← hc, w_other _ _ _ _ rfl, w_here]; exact s2 x H
 have c4 : ∀ p : List Tk × List Tk, (p.1.length < 1100000 ∧ p.2.length < 1100000) → ∀ H, call 14 [.isl 4 (rowsT p.1), .isl 4 (rowsT p.2)] H = .val (.b (sameT p.1 p.2)) H := fun p hp H => by rw [← hc, w_here]; exact s4 p hp H
 clear hc;apply EBody.of1;apply XBody.is;refine XBody.sym TT_ok hC (fn := Tryz.f4) rfl rfl (by simp [Tryz.f4]) tr_l4 (by kernel_rfl) [.us s, .ui (w : Nat), .uh []] rfl ⟨by rw [get_init]; rfl, by rw [get_init]; rfl, trivial⟩ rfl (WF_opq _ _) ?_;simp -implicitDefEqProofs only [VC, isR, exU, Ask.den, forall_eq, E.den, O1.den, O2.den, O3.den, U.int_ui, U.boo_ub, U.val_uv, U.lst_ul, U.str_us, U.nat_un, U.heap_uh, SH.den, setsD, newD, bD, SB.den, factsTo, LQ, List.cons_append, List.nil_append, List.getElem?_cons_zero, List.getElem?_cons_succ, Option.getD_some, ltB_true, ltB_false, leB_true, leB_false, beq_iff_eq, bne_iff_ne, beq_eq_false_iff_ne, Int.toNat_natCast];rcases hsc : scnT s with ⟨l, a, e⟩;have c3 := c2 s;rw [hsc] at c3;refine .inl ⟨rowsT l, (a : Nat), (e : Nat), c3, fun h => .inl ⟨true, c1, rfl⟩, fun h => ⟨fun h2 => ?_, fun h2 => ?_⟩⟩
 ·obtain ⟨rfl, ha⟩ := scnT_bad (by omega) hsc (by omega);exact ⟨fun _ => ⟨fun _ => ⟨fun _ => .inl ⟨true, c1, rfl⟩, fun h => by omega⟩, fun h => by omega⟩, fun h => absurd rfl h⟩
 ·have he : e = 0 := by simpa using h2
  subst he;have ht := scnT_toks (by omega) hsc;have hl := toks_len ht (by omega);intro t hw t0 t1 t5 t42 t43;exact Tri.symLoop rfl (head_l4 hC s w hw2 h1 c1 c2 c4 l (PlT.of (by omega) ht (by omega)) (l.length + 1) 0 t _ (by omega) (by omega) hw t0 t1 t5 (by rw [t42]; simp [rows_len]) t43)
open Go.ChangeShapes Go.WideShapes Go.RowKit
open Go.Proofs.YtmjplflnlggbeaaGreatDoor (Rows.uptoBulk Rows.uptoBulkAll Rows.tokenPlacesSpec Rows.tokenPlacesUptoRow Rows.uptoSmall Rows.OpenSpec.upto)
section
variable {H : Type} {enc : TypeId × Value → H} {W W' : World}
theorem trodAll_carry {sp : Nat → Bool} : ∀ {ts : List TypeId} {vs : List Value} {ds : List (DataW H)} {ps : List MemPlace}, DataW.TrodAll enc Tryz.prog W 0 sp true ts vs ds ps → (∀ p ∈ ps, W.sameAt W' p) → DataW.TrodAll enc Tryz.prog W' 0 sp true ts vs ds ps
 | [], [], [], _, h, _ => h
 | _ :: _, _ :: _, _ :: _, _, ⟨p, q, ⟨n, h1⟩, h2, e⟩, hs => ⟨p, q, ⟨n, DataW.trod_carry n _ _ _ h1 fun x hx => hs x (by rw [e]; exact List.mem_append_left _ hx)⟩, trodAll_carry h2 fun x hx => hs x (by rw [e]; exact List.mem_append_right _ hx), e⟩
theorem same_below (hb : Below W.heap.size W W') (p : MemPlace) (hp : p.block < W.heap.size) : W.sameAt W' p := by
 cases p with
 | cell b off =>
  show W'.cell? ⟨b, off, none⟩ = W.cell? ⟨b, off, none⟩;unfold World.cell?;rw [hb.block b hp]
 | map b => exact hb.block b hp
theorem kept_below (hb : Below W.heap.size W W') (may : MemPlace → Prop) : W.keptBut W' may := by
 refine ⟨hb.os, hb.output, fun i hi => ?_⟩;rw [hb.block i hi];exact (World.keptBut_refl W may).2.2 i hi
theorem kidsT : Kids Tryz.prog (· < Tryz.prog.types.size) := kids_rows (by kernel_rfl) (by kernel_rfl)
theorem arg_of {base : Nat} {v : Value} {d : DataW H} {p : List MemPlace} (hok : Value.okWide Tryz.prog W .any base 9 v) (h : DataW.Trod enc Tryz.prog W 0 (fun _ => true) true 9 v d p) :
 ∃ s : List UInt8, rel (memOf W) [] (.s s) v ∧ s.length < Rows.uptoBulk d := by
 have hv : ∃ s : ByteArray, v = .string s := by
  unfold Value.okWide Cell.okWide Cell.ok at hok;rw [Tryz.underlying9] at hok;cases v <;> simp at hok;exact ⟨_, rfl⟩
 obtain ⟨s, rfl⟩ := hv;obtain ⟨n, hn⟩ := h;obtain ⟨s', e1, e2, _⟩ := DataW.trod_string Tryz.underlying9 hn;have e : s = s' := by simpa [Value.cells] using e1
 subst e;simp only [Prod.mk.injEq] at e2;refine ⟨s.data.toList, by simp only [rel], ?_⟩;rw [e2.1];simp [Rows.uptoBulk]
theorem arg_u16 {base : Nat} {v : Value} (hok : Value.okWide Tryz.prog W .any base 32 v) : ∃ n : Nat, n < 65536 ∧ rel (memOf W) [] (.i .u16 (n : Nat)) v := by
 have hv : ∃ n : Int, v = .int .u16 n ∧ 0 ≤ n ∧ n < 65536 := by
  unfold Value.okWide Cell.okWide Cell.ok at hok;rw [Tryz.underlying32] at hok;cases v <;> simp at hok;obtain ⟨rfl, h⟩ := hok;refine ⟨_, rfl, ?_⟩;have h1 : IntKind.u16.min = 0 := rfl;have h2 : IntKind.u16.max = 65535 := rfl;unfold IntKind.has at h;rw [h1, h2] at h;omega
 obtain ⟨n, rfl, h1, h2⟩ := hv;refine ⟨n.toNat, by omega, ?_⟩;rw [Int.toNat_of_nonneg h1];simp only [rel]
end
theorem contract {H : Type} (enc : TypeId × Value → H) (F : Stop.Interp) (W : World) (base : Nat) (args : Array Value) (ds gs : List (DataW H)) (before : List MemPlace)
 (hval : ∀ (j : Nat) t v, Tryz.f4.params[j]? = some t → args[j]? = some v → Value.okWide Tryz.prog W .any base t v)
 (hW : DataW.Whole enc Tryz.prog Tryz.f4.params.toList Rows.tokenPlacesSpec.vars false W args.toList ds gs before)
 (hsm : Rows.uptoBulkAll (ds ++ gs) ≤ 1048576) (hL : laidMetH Tryz.prog Rows.tokenPlacesUptoRow.laid W) (hsh : W.ShapedOpen Tryz.prog) :
 Calls Tryz.prog 4 args W fun e W' => ∃ v, e = .returned v ∧ ((Rows.OpenSpec.upto Rows.tokenPlacesSpec).at F).post enc Tryz.prog Tryz.f4 false true false false W args v W' := by
 have hW' := hW;obtain ⟨p, q, hA0, hV, rfl, hfz, hnd⟩ := hW;have hA : DataW.TrodAll enc Tryz.prog W 0 (fun _ => true) true Tryz.f4.params.toList args.toList ds p := hA0;have hAk := hA;rw [Tryz.params4] at hA hval;obtain ⟨v0, vs0, d0, ds0, p0, q0, hargs, rfl, rfl, h0, r0⟩ := trodAll_cons hA;obtain ⟨v1, vs1, d1, ds1, p1, q1, rfl, rfl, rfl, h1, r1⟩ := trodAll_cons r0;obtain ⟨rfl, rfl, rfl⟩ := trodAll_nil r1;obtain rfl : args = #[v0, v1] := by cases args; simp_all
 obtain ⟨rfl, rfl⟩ := trodVars_none hV;obtain ⟨x0, e0, n0'⟩ := arg_of (hval 0 9 v0 rfl rfl) h0;obtain ⟨x1, b1, e1⟩ := arg_u16 (hval 1 32 v1 rfl rfl);simp only [List.append_nil, Rows.uptoBulkAll] at hsm;have hb := law_places x0 x1 (by omega) b1;obtain ⟨_, hcall⟩ := con_of_body TT_ok TT_plain hb (by simp [nlL, nl]) rfl;have := hcall [] (memOf W) [] W [v0, v1] (sr_of_laid hL hsh) (relL_cons e0 (relL_cons e1 (by simp only [relL])));refine Calls.mono this ?_;rintro e W' ⟨x, M', ρ', rfl, he, hx, _⟩;simp only [rel] at hx;subst hx;have hB : Below W.heap.size W W' := ⟨he.os, he.tape, he.output, he.size, fun k hk => he.frame k hk (fun c hc => by simp at hc)⟩;have hlt := hAk.lt;have hresp := DataW.TrodAll.respare (spare' := fun b => decide (b < W.heap.size)) kidsT (slices_full_of Tryz.prog (by kernel_rfl)) (fun t ht => by
  rw [Tryz.params4] at ht;have : t = 9 ∨ t = 32 := by simpa using ht
  rcases this with rfl | rfl
  ·exact of_decide_eq_true (by kernel_rfl)
  ·exact of_decide_eq_true (by kernel_rfl)) hAk (fun p hp => by simpa using hlt p hp)
 refine ⟨_, rfl, ?_⟩;refine ⟨_, _, _, [], _, [], hW', ?_, trodAll_carry hresp (fun p hp => same_below hB p (hlt p hp)), rfl, kept_below hB _, fun h => by cases h⟩;exact trodAll_mk1 (shut_bool Tryz.underlying4 true)
end Go.Ev
