/- Which equations the walks are reckoned with. -/
import Derived.Test.YtddpjgoboboidaaGreatDoorEvFz
import Derived.Test.YtddpjgoboboidaaGreatDoorTzTab
namespace Go.Ev
open Go Go.Proofs
set_option linter.unusedSimpArgs false
attribute [simp] evOp ev1 evs evParts evCall evLen evFieldAddr evField addOff loadA storeA cellsAt pickAt isAggT cut splice evBin evInt evStr evEqT evEq evUn evConvH evConv evIndexAddr evIndex evSlice bound lift get_put get_none ofVal ofSc ofScs fSp_eq setK_eq newB_eq setB_eq V.cells flat eqU_eq subU_eq nthU_eq Op.intDiv evBuild fillV placesOf Res.at fits_some fits_none Nat.blt_eq
theorem endsB {fn : Func} {t : Tm} {H : Heap} {x : OR} {b : Bool} (hf : finish TT fn t.get H = x) (hx : x = .val (.b b) H) : ∃ r, (∃ b : Bool, r = .val (.b b)) ∧ Ends TT fn r (.ret t H) :=
  ⟨_, ⟨b, rfl⟩, hf.trans hx⟩
theorem endsE {fn : Func} {t : Tm} {H : Heap} {x : OR} {v : V} {R : Res → Prop} (hf : finish TT fn t.get H = x) (hx : x = .val v H) (hr : R (.val v)) : ∃ r, R r ∧ Ends TT fn r (.ret t H) :=
  ⟨_, hr, hf.trans hx⟩
theorem endsH {fn : Func} {t : Tm} {H : Heap} {x : OR} {v : V} {R : V → Heap → Prop} (hf : finish TT fn t.get H = x) (hx : x = .val v H) (hr : R v H) : EndsH TT fn R (.ret t H) :=
  ⟨v, hr, hf.trans hx⟩
end Go.Ev
