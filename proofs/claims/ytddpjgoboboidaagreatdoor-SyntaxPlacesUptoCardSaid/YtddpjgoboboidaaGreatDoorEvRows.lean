/- The rows of the kinds, each with its look. -/
import Derived.Test.YtddpjgoboboidaaGreatDoorSpB
namespace Go.Ev
open Go Go.Proofs
set_option maxRecDepth 100000
/-- The predicates on texts that shapes() names. -/
inductive TP : FuncId → List V → Prop
  | empty : TP 43 []
  | ident : TP 41 []
  | valid : TP 47 []
  | integer : TP 48 []
  | float : TP 49 []
  | path (c : UInt8) (k : Int) : TP 67 [.ipt 1 [.agg [.s [c]]] 0 0, .ipt 1 [.agg [.i .i64 k]] 0 0]
  | among (l : List (List UInt8)) (h : l.length < 100) : TP 76 [.ipt 1 [.agg [.isl 1 (encS l)]] 0 0]
/-- The predicates on nodes. -/
inductive NP : V → Prop
  | p23 : NP (.fn 18 [])
  | p24 : NP (.fn 20 [])
  | p29 : NP (.fn 44 [])
  | p32 : NP (.fn 22 [])
  | p37 : NP (.fn 51 [])
  | p38 : NP (.fn 52 [])
  | p39 : NP (.fn 53 [])
  | kind (k : Int) : NP (.fn 71 [.ipt 1 [.agg [.i .i64 k]] 0 0])
  | word (l : List (List UInt8)) (h : l.length < 100) : NP (.fn 61 [.ipt 1 [.agg [.isl 1 (encS l)]] 0 0])
  | maybe23 : NP (.fn 66 [.ipt 1 [.agg [.fn 18 []]] 0 0])
  | maybe24 : NP (.fn 66 [.ipt 1 [.agg [.fn 20 []]] 0 0])
theorem np_nil : ∀ p ∈ ([] : List V), NP p := fun p h => by cases h
theorem np_cons {q : V} {l : List V} (h : NP q) (hl : ∀ p ∈ l, NP p) : ∀ p ∈ q :: l, NP p := fun p hp => by
  rcases List.mem_cons.1 hp with e | h'
  · exact e ▸ h
  · exact hl p h'
/-- What a row is. -/
def RowOK (k : Nat) : Prop := ∃ (tf : FuncId) (tc kl : List V) (rs : V) (lst : Int), shCells[k * 5 + 1]? = some (.fn tf tc) ∧ shCells[k * 5 + 2]? = some (.isl 1 kl) ∧ shCells[k * 5 + 3]? = some rs ∧ shCells[k * 5 + 4]? = some (.i .i64 lst) ∧
  TP tf tc ∧ (∀ p ∈ kl, NP p) ∧ (rs = .nilf ∨ NP rs) ∧ 0 ≤ lst ∧ lst ≤ 2 ∧ kl.length ≤ 7 ∧ (k = 31 → 2 ≤ kl.length) ∧ (k = 3 → 4 ≤ kl.length)
theorem row1 : RowOK 1 := ⟨43, [], [], .fn 44 [], 0, by kernel_rfl, by kernel_rfl, by kernel_rfl, by kernel_rfl, .empty, np_nil, .inr .p29, by decide, by decide, by decide, by decide, by decide⟩
theorem row2 : RowOK 2 := ⟨67, [.ipt 1 [.agg [.s [47]]] 0 0, .ipt 1 [.agg [.i .i64 0]] 0 0], [.fn 66 [.ipt 1 [.agg [.fn 20 []]] 0 0]], .nilf, 0, by kernel_rfl, by kernel_rfl, by kernel_rfl, by kernel_rfl, .path 47 0, (np_cons .maybe24 np_nil), .inl rfl, by decide, by decide, by decide, by decide, by decide⟩
theorem row3 : RowOK 3 := ⟨41, [], [.fn 61 [.ipt 1 [.agg [.isl 1 [.s [99, 108, 97, 115, 115], .s [97, 99, 116, 111, 114], .s [112, 114, 105, 109, 105, 116, 105, 118, 101], .s [116, 114, 97, 105, 116], .s [105, 110, 116, 101, 114, 102, 97, 99, 101], .s [116, 121, 112, 101]]]] 0 0], .fn 61 [.ipt 1 [.agg [.isl 1 [.s [], .s [105, 115, 111], .s [116, 114, 110], .s [114, 101, 102], .s [118, 97, 108], .s [98, 111, 120], .s [116, 97, 103]]]] 0 0], .fn 71 [.ipt 1 [.agg [.i .i64 6]] 0 0], .fn 66 [.ipt 1 [.agg [.fn 18 []]] 0 0]], .fn 22 [], 0, by kernel_rfl, by kernel_rfl, by kernel_rfl, by kernel_rfl, .ident, (np_cons (.word [[99, 108, 97, 115, 115], [97, 99, 116, 111, 114], [112, 114, 105, 109, 105, 116, 105, 118, 101], [116, 114, 97, 105, 116], [105, 110, 116, 101, 114, 102, 97, 99, 101], [116, 121, 112, 101]] (by decide)) (np_cons (.word [[], [105, 115, 111], [116, 114, 110], [114, 101, 102], [118, 97, 108], [98, 111, 120], [116, 97, 103]] (by decide)) (np_cons (.kind 6) (np_cons .maybe23 np_nil)))), .inr .p32, by decide, by decide, by decide, by decide, by decide⟩
theorem row4 : RowOK 4 := ⟨47, [], [], .nilf, 0, by kernel_rfl, by kernel_rfl, by kernel_rfl, by kernel_rfl, .valid, np_nil, .inl rfl, by decide, by decide, by decide, by decide, by decide⟩
theorem row5 : RowOK 5 := ⟨43, [], [], .nilf, 0, by kernel_rfl, by kernel_rfl, by kernel_rfl, by kernel_rfl, .empty, np_nil, .inl rfl, by decide, by decide, by decide, by decide, by decide⟩
theorem row6 : RowOK 6 := ⟨43, [], [], .fn 71 [.ipt 1 [.agg [.i .i64 7]] 0 0], 0, by kernel_rfl, by kernel_rfl, by kernel_rfl, by kernel_rfl, .empty, np_nil, .inr (.kind 7), by decide, by decide, by decide, by decide, by decide⟩
theorem row7 : RowOK 7 := ⟨41, [], [.fn 66 [.ipt 1 [.agg [.fn 18 []]] 0 0]], .nilf, 0, by kernel_rfl, by kernel_rfl, by kernel_rfl, by kernel_rfl, .ident, (np_cons .maybe23 np_nil), .inl rfl, by decide, by decide, by decide, by decide, by decide⟩
theorem row8 : RowOK 8 := ⟨41, [], [.fn 61 [.ipt 1 [.agg [.isl 1 [.s [118, 97, 114], .s [108, 101, 116]]]] 0 0], .fn 18 [], .fn 66 [.ipt 1 [.agg [.fn 20 []]] 0 0]], .nilf, 0, by kernel_rfl, by kernel_rfl, by kernel_rfl, by kernel_rfl, .ident, (np_cons (.word [[118, 97, 114], [108, 101, 116]] (by decide)) (np_cons .p23 (np_cons .maybe24 np_nil))), .inl rfl, by decide, by decide, by decide, by decide, by decide⟩
theorem row9 : RowOK 9 := ⟨41, [], [.fn 61 [.ipt 1 [.agg [.isl 1 [.s [110, 101, 119], .s [102, 117, 110], .s [98, 101]]]] 0 0], .fn 61 [.ipt 1 [.agg [.isl 1 [.s [], .s [105, 115, 111], .s [116, 114, 110], .s [114, 101, 102], .s [118, 97, 108], .s [98, 111, 120], .s [116, 97, 103]]]] 0 0], .fn 71 [.ipt 1 [.agg [.i .i64 6]] 0 0], .fn 71 [.ipt 1 [.agg [.i .i64 10]] 0 0], .fn 66 [.ipt 1 [.agg [.fn 18 []]] 0 0], .fn 61 [.ipt 1 [.agg [.isl 1 [.s [], .s [63]]]] 0 0], .fn 66 [.ipt 1 [.agg [.fn 20 []]] 0 0]], .nilf, 0, by kernel_rfl, by kernel_rfl, by kernel_rfl, by kernel_rfl, .ident, (np_cons (.word [[110, 101, 119], [102, 117, 110], [98, 101]] (by decide)) (np_cons (.word [[], [105, 115, 111], [116, 114, 110], [114, 101, 102], [118, 97, 108], [98, 111, 120], [116, 97, 103]] (by decide)) (np_cons (.kind 6) (np_cons (.kind 10) (np_cons .maybe23 (np_cons (.word [[], [63]] (by decide)) (np_cons .maybe24 np_nil))))))), .inl rfl, by decide, by decide, by decide, by decide, by decide⟩
theorem row10 : RowOK 10 := ⟨43, [], [], .fn 71 [.ipt 1 [.agg [.i .i64 11]] 0 0], 0, by kernel_rfl, by kernel_rfl, by kernel_rfl, by kernel_rfl, .empty, np_nil, .inr (.kind 11), by decide, by decide, by decide, by decide, by decide⟩
theorem row11 : RowOK 11 := ⟨41, [], [.fn 18 [], .fn 66 [.ipt 1 [.agg [.fn 20 []]] 0 0]], .nilf, 0, by kernel_rfl, by kernel_rfl, by kernel_rfl, by kernel_rfl, .ident, (np_cons .p23 (np_cons .maybe24 np_nil)), .inl rfl, by decide, by decide, by decide, by decide, by decide⟩
theorem row12 : RowOK 12 := ⟨67, [.ipt 1 [.agg [.s [46]]] 0 0, .ipt 1 [.agg [.i .i64 2]] 0 0], [.fn 61 [.ipt 1 [.agg [.isl 1 [.s [], .s [105, 115, 111], .s [116, 114, 110], .s [114, 101, 102], .s [118, 97, 108], .s [98, 111, 120], .s [116, 97, 103], .s [35, 114, 101, 97, 100], .s [35, 115, 101, 110, 100], .s [35, 115, 104, 97, 114, 101], .s [35, 97, 108, 105, 97, 115], .s [35, 97, 110, 121]]]] 0 0], .fn 61 [.ipt 1 [.agg [.isl 1 [.s [], .s [94], .s [33]]]] 0 0]], .fn 18 [], 0, by kernel_rfl, by kernel_rfl, by kernel_rfl, by kernel_rfl, .path 46 2, (np_cons (.word [[], [105, 115, 111], [116, 114, 110], [114, 101, 102], [118, 97, 108], [98, 111, 120], [116, 97, 103], [35, 114, 101, 97, 100], [35, 115, 101, 110, 100], [35, 115, 104, 97, 114, 101], [35, 97, 108, 105, 97, 115], [35, 97, 110, 121]] (by decide)) (np_cons (.word [[], [94], [33]] (by decide)) np_nil)), .inr .p23, by decide, by decide, by decide, by decide, by decide⟩
theorem row13 : RowOK 13 := ⟨43, [], [], .fn 18 [], 2, by kernel_rfl, by kernel_rfl, by kernel_rfl, by kernel_rfl, .empty, np_nil, .inr .p23, by decide, by decide, by decide, by decide, by decide⟩
theorem row14 : RowOK 14 := ⟨43, [], [], .fn 18 [], 2, by kernel_rfl, by kernel_rfl, by kernel_rfl, by kernel_rfl, .empty, np_nil, .inr .p23, by decide, by decide, by decide, by decide, by decide⟩
theorem row15 : RowOK 15 := ⟨43, [], [], .fn 18 [], 2, by kernel_rfl, by kernel_rfl, by kernel_rfl, by kernel_rfl, .empty, np_nil, .inr .p23, by decide, by decide, by decide, by decide, by decide⟩
theorem row16 : RowOK 16 := ⟨43, [], [.fn 18 [], .fn 18 []], .nilf, 0, by kernel_rfl, by kernel_rfl, by kernel_rfl, by kernel_rfl, .empty, (np_cons .p23 (np_cons .p23 np_nil)), .inl rfl, by decide, by decide, by decide, by decide, by decide⟩
theorem row17 : RowOK 17 := ⟨43, [], [], .nilf, 0, by kernel_rfl, by kernel_rfl, by kernel_rfl, by kernel_rfl, .empty, np_nil, .inl rfl, by decide, by decide, by decide, by decide, by decide⟩
theorem row18 : RowOK 18 := ⟨43, [], [.fn 61 [.ipt 1 [.agg [.isl 1 [.s [], .s [105, 115, 111], .s [116, 114, 110], .s [114, 101, 102], .s [118, 97, 108], .s [98, 111, 120], .s [116, 97, 103]]]] 0 0], .fn 61 [.ipt 1 [.agg [.isl 1 [.s [], .s [94], .s [33]]]] 0 0], .fn 61 [.ipt 1 [.agg [.isl 1 [.s [], .s [63]]]] 0 0], .fn 66 [.ipt 1 [.agg [.fn 18 []]] 0 0]], .fn 18 [], 0, by kernel_rfl, by kernel_rfl, by kernel_rfl, by kernel_rfl, .empty, (np_cons (.word [[], [105, 115, 111], [116, 114, 110], [114, 101, 102], [118, 97, 108], [98, 111, 120], [116, 97, 103]] (by decide)) (np_cons (.word [[], [94], [33]] (by decide)) (np_cons (.word [[], [63]] (by decide)) (np_cons .maybe23 np_nil)))), .inr .p23, by decide, by decide, by decide, by decide, by decide⟩
theorem row19 : RowOK 19 := ⟨48, [], [], .nilf, 0, by kernel_rfl, by kernel_rfl, by kernel_rfl, by kernel_rfl, .integer, np_nil, .inl rfl, by decide, by decide, by decide, by decide, by decide⟩
theorem row20 : RowOK 20 := ⟨49, [], [], .nilf, 0, by kernel_rfl, by kernel_rfl, by kernel_rfl, by kernel_rfl, .float, np_nil, .inl rfl, by decide, by decide, by decide, by decide, by decide⟩
theorem row21 : RowOK 21 := ⟨47, [], [], .nilf, 0, by kernel_rfl, by kernel_rfl, by kernel_rfl, by kernel_rfl, .valid, np_nil, .inl rfl, by decide, by decide, by decide, by decide, by decide⟩
theorem row22 : RowOK 22 := ⟨76, [.ipt 1 [.agg [.isl 1 [.s [116, 114, 117, 101], .s [102, 97, 108, 115, 101]]]] 0 0], [], .nilf, 0, by kernel_rfl, by kernel_rfl, by kernel_rfl, by kernel_rfl, .among [[116, 114, 117, 101], [102, 97, 108, 115, 101]] (by decide), np_nil, .inl rfl, by decide, by decide, by decide, by decide, by decide⟩
theorem row23 : RowOK 23 := ⟨41, [], [], .nilf, 0, by kernel_rfl, by kernel_rfl, by kernel_rfl, by kernel_rfl, .ident, np_nil, .inl rfl, by decide, by decide, by decide, by decide, by decide⟩
theorem row24 : RowOK 24 := ⟨43, [], [], .nilf, 0, by kernel_rfl, by kernel_rfl, by kernel_rfl, by kernel_rfl, .empty, np_nil, .inl rfl, by decide, by decide, by decide, by decide, by decide⟩
theorem row25 : RowOK 25 := ⟨43, [], [], .fn 51 [], 2, by kernel_rfl, by kernel_rfl, by kernel_rfl, by kernel_rfl, .empty, np_nil, .inr .p37, by decide, by decide, by decide, by decide, by decide⟩
theorem row26 : RowOK 26 := ⟨41, [], [.fn 61 [.ipt 1 [.agg [.isl 1 [.s [118, 97, 114], .s [108, 101, 116]]]] 0 0], .fn 18 []], .nilf, 0, by kernel_rfl, by kernel_rfl, by kernel_rfl, by kernel_rfl, .ident, (np_cons (.word [[118, 97, 114], [108, 101, 116]] (by decide)) (np_cons .p23 np_nil)), .inl rfl, by decide, by decide, by decide, by decide, by decide⟩
theorem row27 : RowOK 27 := ⟨43, [], [.fn 52 [], .fn 20 []], .nilf, 0, by kernel_rfl, by kernel_rfl, by kernel_rfl, by kernel_rfl, .empty, (np_cons .p38 (np_cons .p24 np_nil)), .inl rfl, by decide, by decide, by decide, by decide, by decide⟩
theorem row28 : RowOK 28 := ⟨41, [], [.fn 20 []], .nilf, 0, by kernel_rfl, by kernel_rfl, by kernel_rfl, by kernel_rfl, .ident, (np_cons .p24 np_nil), .inl rfl, by decide, by decide, by decide, by decide, by decide⟩
theorem row29 : RowOK 29 := ⟨41, [], [.fn 20 []], .nilf, 0, by kernel_rfl, by kernel_rfl, by kernel_rfl, by kernel_rfl, .ident, (np_cons .p24 np_nil), .inl rfl, by decide, by decide, by decide, by decide, by decide⟩
theorem row30 : RowOK 30 := ⟨41, [], [.fn 20 []], .nilf, 0, by kernel_rfl, by kernel_rfl, by kernel_rfl, by kernel_rfl, .ident, (np_cons .p24 np_nil), .inl rfl, by decide, by decide, by decide, by decide, by decide⟩
theorem row31 : RowOK 31 := ⟨43, [], [.fn 20 [], .fn 61 [.ipt 1 [.agg [.isl 1 [.s [], .s [63]]]] 0 0]], .fn 53 [], 0, by kernel_rfl, by kernel_rfl, by kernel_rfl, by kernel_rfl, .empty, (np_cons .p24 (np_cons (.word [[], [63]] (by decide)) np_nil)), .inr .p39, by decide, by decide, by decide, by decide, by decide⟩
theorem row32 : RowOK 32 := ⟨41, [], [.fn 20 []], .nilf, 0, by kernel_rfl, by kernel_rfl, by kernel_rfl, by kernel_rfl, .ident, (np_cons .p24 np_nil), .inl rfl, by decide, by decide, by decide, by decide, by decide⟩
theorem row33 : RowOK 33 := ⟨43, [], [.fn 20 []], .fn 18 [], 1, by kernel_rfl, by kernel_rfl, by kernel_rfl, by kernel_rfl, .empty, (np_cons .p24 np_nil), .inr .p23, by decide, by decide, by decide, by decide, by decide⟩
theorem row34 : RowOK 34 := ⟨43, [], [], .fn 20 [], 2, by kernel_rfl, by kernel_rfl, by kernel_rfl, by kernel_rfl, .empty, np_nil, .inr .p24, by decide, by decide, by decide, by decide, by decide⟩
theorem row35 : RowOK 35 := ⟨43, [], [.fn 18 []], .fn 20 [], 0, by kernel_rfl, by kernel_rfl, by kernel_rfl, by kernel_rfl, .empty, (np_cons .p23 np_nil), .inr .p24, by decide, by decide, by decide, by decide, by decide⟩
theorem row36 : RowOK 36 := ⟨76, [.ipt 1 [.agg [.isl 1 [.s [110, 111, 116], .s [45]]]] 0 0], [.fn 20 []], .nilf, 0, by kernel_rfl, by kernel_rfl, by kernel_rfl, by kernel_rfl, .among [[110, 111, 116], [45]] (by decide), (np_cons .p24 np_nil), .inl rfl, by decide, by decide, by decide, by decide, by decide⟩
theorem row37 : RowOK 37 := ⟨76, [.ipt 1 [.agg [.isl 1 [.s [97, 110, 100], .s [111, 114], .s [120, 111, 114], .s [105, 115], .s [105, 115, 110, 116], .s [43], .s [45], .s [42], .s [47], .s [37], .s [43, 63], .s [45, 63], .s [42, 63], .s [47, 63], .s [37, 63], .s [60, 60], .s [62, 62], .s [61, 61], .s [33, 61], .s [60], .s [60, 61], .s [62], .s [62, 61]]]] 0 0], [.fn 20 [], .fn 20 []], .nilf, 0, by kernel_rfl, by kernel_rfl, by kernel_rfl, by kernel_rfl, .among [[97, 110, 100], [111, 114], [120, 111, 114], [105, 115], [105, 115, 110, 116], [43], [45], [42], [47], [37], [43, 63], [45, 63], [42, 63], [47, 63], [37, 63], [60, 60], [62, 62], [61, 61], [33, 61], [60], [60, 61], [62], [62, 61]] (by decide), (np_cons .p24 (np_cons .p24 np_nil)), .inl rfl, by decide, by decide, by decide, by decide, by decide⟩
theorem row38 : RowOK 38 := ⟨43, [], [.fn 20 [], .fn 18 []], .nilf, 0, by kernel_rfl, by kernel_rfl, by kernel_rfl, by kernel_rfl, .empty, (np_cons .p24 (np_cons .p23 np_nil)), .inl rfl, by decide, by decide, by decide, by decide, by decide⟩
theorem row39 : RowOK 39 := ⟨43, [], [.fn 20 []], .nilf, 0, by kernel_rfl, by kernel_rfl, by kernel_rfl, by kernel_rfl, .empty, (np_cons .p24 np_nil), .inl rfl, by decide, by decide, by decide, by decide, by decide⟩
theorem row40 : RowOK 40 := ⟨43, [], [.fn 61 [.ipt 1 [.agg [.isl 1 [.s [], .s [105, 115, 111], .s [116, 114, 110], .s [114, 101, 102], .s [118, 97, 108], .s [98, 111, 120], .s [116, 97, 103]]]] 0 0], .fn 20 []], .nilf, 0, by kernel_rfl, by kernel_rfl, by kernel_rfl, by kernel_rfl, .empty, (np_cons (.word [[], [105, 115, 111], [116, 114, 110], [114, 101, 102], [118, 97, 108], [98, 111, 120], [116, 97, 103]] (by decide)) (np_cons .p24 np_nil)), .inl rfl, by decide, by decide, by decide, by decide, by decide⟩
theorem row41 : RowOK 41 := ⟨43, [], [.fn 20 [], .fn 20 [], .fn 66 [.ipt 1 [.agg [.fn 20 []]] 0 0]], .nilf, 0, by kernel_rfl, by kernel_rfl, by kernel_rfl, by kernel_rfl, .empty, (np_cons .p24 (np_cons .p24 (np_cons .maybe24 np_nil))), .inl rfl, by decide, by decide, by decide, by decide, by decide⟩
theorem row42 : RowOK 42 := ⟨43, [], [.fn 20 [], .fn 20 [], .fn 66 [.ipt 1 [.agg [.fn 20 []]] 0 0]], .nilf, 0, by kernel_rfl, by kernel_rfl, by kernel_rfl, by kernel_rfl, .empty, (np_cons .p24 (np_cons .p24 (np_cons .maybe24 np_nil))), .inl rfl, by decide, by decide, by decide, by decide, by decide⟩
theorem row43 : RowOK 43 := ⟨43, [], [.fn 20 [], .fn 20 [], .fn 66 [.ipt 1 [.agg [.fn 20 []]] 0 0]], .nilf, 0, by kernel_rfl, by kernel_rfl, by kernel_rfl, by kernel_rfl, .empty, (np_cons .p24 (np_cons .p24 (np_cons .maybe24 np_nil))), .inl rfl, by decide, by decide, by decide, by decide, by decide⟩
theorem row44 : RowOK 44 := ⟨43, [], [.fn 20 [], .fn 20 []], .nilf, 0, by kernel_rfl, by kernel_rfl, by kernel_rfl, by kernel_rfl, .empty, (np_cons .p24 (np_cons .p24 np_nil)), .inl rfl, by decide, by decide, by decide, by decide, by decide⟩
theorem row45 : RowOK 45 := ⟨41, [], [.fn 18 [], .fn 20 [], .fn 20 [], .fn 66 [.ipt 1 [.agg [.fn 20 []]] 0 0]], .nilf, 0, by kernel_rfl, by kernel_rfl, by kernel_rfl, by kernel_rfl, .ident, (np_cons .p23 (np_cons .p24 (np_cons .p24 (np_cons .maybe24 np_nil)))), .inl rfl, by decide, by decide, by decide, by decide, by decide⟩
theorem row46 : RowOK 46 := ⟨41, [], [.fn 18 [], .fn 20 [], .fn 20 []], .nilf, 0, by kernel_rfl, by kernel_rfl, by kernel_rfl, by kernel_rfl, .ident, (np_cons .p23 (np_cons .p24 (np_cons .p24 np_nil))), .inl rfl, by decide, by decide, by decide, by decide, by decide⟩
theorem row47 : RowOK 47 := ⟨43, [], [.fn 20 [], .fn 66 [.ipt 1 [.agg [.fn 20 []]] 0 0]], .fn 71 [.ipt 1 [.agg [.i .i64 48]] 0 0], 1, by kernel_rfl, by kernel_rfl, by kernel_rfl, by kernel_rfl, .empty, (np_cons .p24 (np_cons .maybe24 np_nil)), .inr (.kind 48), by decide, by decide, by decide, by decide, by decide⟩
theorem row48 : RowOK 48 := ⟨43, [], [.fn 20 [], .fn 66 [.ipt 1 [.agg [.fn 20 []]] 0 0], .fn 20 []], .nilf, 0, by kernel_rfl, by kernel_rfl, by kernel_rfl, by kernel_rfl, .empty, (np_cons .p24 (np_cons .maybe24 (np_cons .p24 np_nil))), .inl rfl, by decide, by decide, by decide, by decide, by decide⟩
theorem row49 : RowOK 49 := ⟨43, [], [.fn 20 [], .fn 66 [.ipt 1 [.agg [.fn 20 []]] 0 0], .fn 66 [.ipt 1 [.agg [.fn 20 []]] 0 0]], .nilf, 0, by kernel_rfl, by kernel_rfl, by kernel_rfl, by kernel_rfl, .empty, (np_cons .p24 (np_cons .maybe24 (np_cons .maybe24 np_nil))), .inl rfl, by decide, by decide, by decide, by decide, by decide⟩
theorem row50 : RowOK 50 := ⟨43, [], [], .nilf, 0, by kernel_rfl, by kernel_rfl, by kernel_rfl, by kernel_rfl, .empty, np_nil, .inl rfl, by decide, by decide, by decide, by decide, by decide⟩
theorem row51 : RowOK 51 := ⟨43, [], [.fn 66 [.ipt 1 [.agg [.fn 20 []]] 0 0]], .nilf, 0, by kernel_rfl, by kernel_rfl, by kernel_rfl, by kernel_rfl, .empty, (np_cons .maybe24 np_nil), .inl rfl, by decide, by decide, by decide, by decide, by decide⟩
theorem row52 : RowOK 52 := ⟨43, [], [], .nilf, 0, by kernel_rfl, by kernel_rfl, by kernel_rfl, by kernel_rfl, .empty, np_nil, .inl rfl, by decide, by decide, by decide, by decide, by decide⟩
theorem row53 : RowOK 53 := ⟨43, [], [], .nilf, 0, by kernel_rfl, by kernel_rfl, by kernel_rfl, by kernel_rfl, .empty, np_nil, .inl rfl, by decide, by decide, by decide, by decide, by decide⟩
theorem row54 : RowOK 54 := ⟨43, [], [.fn 61 [.ipt 1 [.agg [.isl 1 [.s [], .s [105, 115, 111], .s [116, 114, 110], .s [114, 101, 102], .s [118, 97, 108], .s [98, 111, 120], .s [116, 97, 103]]]] 0 0], .fn 66 [.ipt 1 [.agg [.fn 18 []]] 0 0]], .fn 22 [], 0, by kernel_rfl, by kernel_rfl, by kernel_rfl, by kernel_rfl, .empty, (np_cons (.word [[], [105, 115, 111], [116, 114, 110], [114, 101, 102], [118, 97, 108], [98, 111, 120], [116, 97, 103]] (by decide)) (np_cons .maybe23 np_nil)), .inr .p32, by decide, by decide, by decide, by decide, by decide⟩
theorem row55 : RowOK 55 := ⟨43, [], [.fn 61 [.ipt 1 [.agg [.isl 1 [.s [], .s [105, 115, 111], .s [116, 114, 110], .s [114, 101, 102], .s [118, 97, 108], .s [98, 111, 120], .s [116, 97, 103]]]] 0 0], .fn 71 [.ipt 1 [.agg [.i .i64 10]] 0 0], .fn 66 [.ipt 1 [.agg [.fn 18 []]] 0 0], .fn 61 [.ipt 1 [.agg [.isl 1 [.s [], .s [63]]]] 0 0], .fn 20 []], .fn 71 [.ipt 1 [.agg [.i .i64 56]] 0 0], 0, by kernel_rfl, by kernel_rfl, by kernel_rfl, by kernel_rfl, .empty, (np_cons (.word [[], [105, 115, 111], [116, 114, 110], [114, 101, 102], [118, 97, 108], [98, 111, 120], [116, 97, 103]] (by decide)) (np_cons (.kind 10) (np_cons .maybe23 (np_cons (.word [[], [63]] (by decide)) (np_cons .p24 np_nil))))), .inr (.kind 56), by decide, by decide, by decide, by decide, by decide⟩
theorem row56 : RowOK 56 := ⟨41, [], [.fn 18 [], .fn 20 []], .nilf, 0, by kernel_rfl, by kernel_rfl, by kernel_rfl, by kernel_rfl, .ident, (np_cons .p23 (np_cons .p24 np_nil)), .inl rfl, by decide, by decide, by decide, by decide, by decide⟩
theorem row_at (k : Nat) (h1 : 1 ≤ k) (h2 : k ≤ 56) : RowOK k := by
  rcases Nat.le.dest h1 with ⟨j, rfl⟩
  have : j = 0 ∨ j = 1 ∨ j = 2 ∨ j = 3 ∨ j = 4 ∨ j = 5 ∨ j = 6 ∨ j = 7 ∨ j = 8 ∨ j = 9 ∨ j = 10 ∨ j = 11 ∨ j = 12 ∨ j = 13 ∨ j = 14 ∨ j = 15 ∨ j = 16 ∨ j = 17 ∨ j = 18 ∨ j = 19 ∨ j = 20 ∨ j = 21 ∨ j = 22 ∨ j = 23 ∨ j = 24 ∨ j = 25 ∨ j = 26 ∨ j = 27 ∨ j = 28 ∨ j = 29 ∨ j = 30 ∨ j = 31 ∨ j = 32 ∨ j = 33 ∨ j = 34 ∨ j = 35 ∨ j = 36 ∨ j = 37 ∨ j = 38 ∨ j = 39 ∨ j = 40 ∨ j = 41 ∨ j = 42 ∨ j = 43 ∨ j = 44 ∨ j = 45 ∨ j = 46 ∨ j = 47 ∨ j = 48 ∨ j = 49 ∨ j = 50 ∨ j = 51 ∨ j = 52 ∨ j = 53 ∨ j = 54 ∨ j = 55 := by omega
  rcases this with rfl | rfl | rfl | rfl | rfl | rfl | rfl | rfl | rfl | rfl | rfl | rfl | rfl | rfl | rfl | rfl | rfl | rfl | rfl | rfl | rfl | rfl | rfl | rfl | rfl | rfl | rfl | rfl | rfl | rfl | rfl | rfl | rfl | rfl | rfl | rfl | rfl | rfl | rfl | rfl | rfl | rfl | rfl | rfl | rfl | rfl | rfl | rfl | rfl | rfl | rfl | rfl | rfl | rfl | rfl | rfl
  · exact row1
  · exact row2
  · exact row3
  · exact row4
  · exact row5
  · exact row6
  · exact row7
  · exact row8
  · exact row9
  · exact row10
  · exact row11
  · exact row12
  · exact row13
  · exact row14
  · exact row15
  · exact row16
  · exact row17
  · exact row18
  · exact row19
  · exact row20
  · exact row21
  · exact row22
  · exact row23
  · exact row24
  · exact row25
  · exact row26
  · exact row27
  · exact row28
  · exact row29
  · exact row30
  · exact row31
  · exact row32
  · exact row33
  · exact row34
  · exact row35
  · exact row36
  · exact row37
  · exact row38
  · exact row39
  · exact row40
  · exact row41
  · exact row42
  · exact row43
  · exact row44
  · exact row45
  · exact row46
  · exact row47
  · exact row48
  · exact row49
  · exact row50
  · exact row51
  · exact row52
  · exact row53
  · exact row54
  · exact row55
  · exact row56
end Go.Ev
