/- The evaluator with given answers for some calls, sound if those answers are. -/
import Derived.Test.YtddpjgoboboidaaGreatDoorEvDraw
namespace Go.Ev
open Go

mutual
/-- Values without names. -/
def nl : V → Bool
  | .agg l => nlL l
  | .tup l => nlL l
  | .fn _ l => nlL l
  | .ifc _ v => nl v
  | .isl _ l => nlL l
  | .ipt _ l _ _ => nlL l
  | .ptr .. => false
  | .sl .. => false
  | .mp .. => false
  | _ => true
def nlL : List V → Bool
  | [] => true
  | v :: l => nl v && nlL l
end
section
variable {P : Program} {T : Tab} {M : Mem} {ρ σ : Ren} {w : World} {H : Heap}
mutual
theorem nl_rel : ∀ (v : V) (x : Value), nl v = true → rel M ρ v x → rel M σ v x
  | .i .., _, _, h => by simpa [rel] using h
  | .b .., _, _, h => by simpa [rel] using h
  | .s .., _, _, h => by simpa [rel] using h
  | .nilp, _, _, h => by simpa [rel] using h
  | .nils, _, _, h => by simpa [rel] using h
  | .nilf, _, _, h => by simpa [rel] using h
  | .nili, _, _, h => by simpa [rel] using h
  | .nilm, _, _, h => by simpa [rel] using h
  | .emp, _, _, h => by simpa [rel] using h
  | .gp .., _, _, h => by simpa [rel] using h
  | .yld .., _, _, h => by simpa [rel] using h
  | .ptr .., _, n, _ => by simp [nl] at n
  | .sl .., _, n, _ => by simp [nl] at n
  | .mp .., _, n, _ => by simp [nl] at n
  | .agg l, x, n, h => by
    simp only [rel, nl] at h n ⊢
    obtain ⟨cs, e, k⟩ := h
    exact ⟨cs, e, nlL_rel l cs n k⟩
  | .tup l, x, n, h => by
    simp only [rel, nl] at h n ⊢
    obtain ⟨cs, e, k⟩ := h
    exact ⟨cs, e, nlL_rel l cs n k⟩
  | .fn g l, x, n, h => by
    simp only [rel, nl] at h n ⊢
    obtain ⟨cs, e, k⟩ := h
    exact ⟨cs, e, nlL_rel l cs n k⟩
  | .ifc t v, x, n, h => by
    simp only [rel, nl] at h n ⊢
    obtain ⟨y, e, k⟩ := h
    exact ⟨y, e, nl_rel v y n k⟩
  | .isl sz l, x, n, h => by
    simp only [rel, nl] at h n ⊢
    obtain ⟨a, k, e, hk, hr⟩ := h
    refine ⟨a, k, e, hk, fun hl => ?_⟩
    obtain ⟨b, o, ha, hr⟩ := hr hl
    exact ⟨b, o, ha, nl_relRow sz l b o n hr⟩
  | .ipt sz l i off, x, n, h => by
    simp only [rel, nl] at h n ⊢
    obtain ⟨b, o, ha, hr⟩ := h
    exact ⟨b, o, ha, nl_relRow sz l b o n hr⟩
theorem nlL_rel : ∀ (l : List V) (cs : List Value), nlL l = true → relL M ρ l cs → relL M σ l cs
  | [], _, _, h => by simpa [relL] using h
  | v :: l, cs, n, h => by
    simp only [relL, nlL, Bool.and_eq_true] at h n ⊢
    obtain ⟨x, r, e, hx, hr⟩ := h
    exact ⟨x, r, e, nl_rel v x n.1 hx, nlL_rel l r n.2 hr⟩
theorem nl_relRow (sz : Nat) : ∀ (l : List V) (b o : Nat), nlL l = true → relRow M ρ sz l b o → relRow M σ sz l b o
  | [], _, _, _, _ => by simp [relRow]
  | v :: l, b, o, n, h => by
    simp only [relRow, nlL, Bool.and_eq_true] at h n ⊢
    obtain ⟨⟨x, hx, h1, h2⟩, hr⟩ := h
    exact ⟨⟨x, nl_rel v x n.1 hx, h1, h2⟩, nl_relRow sz l b (o + sz) n.2 hr⟩
end

/-- A state of which no block is named. -/
theorem SR.forget (h : SR T M ρ H w) (hg : ∀ g l, T.glob g = some l → nlL l = true) : SR T M [] [] w where
  frozen := h.frozen
  len := rfl
  blk n b hn := by simp at hn
  inj n m x y b c c' hn := by simp at hn
  glob g l hl := by
    obtain ⟨cs, ty, fr, hM, hr⟩ := h.glob g l hl
    exact ⟨cs, ty, fr, hM, nlL_rel l cs (hg g l hl) hr⟩
/-- And back. -/
theorem SR.recall {M' : Mem} {σ : Ren} {J : Heap} {w' : World} (h : SR T M ρ H w) (k : SR T M' σ J w') (he : Ext M [] w M' σ w') : SR T M' ρ H w' where
  frozen := k.frozen
  len := h.len
  blk n b hn := by
    obtain ⟨c, q, hr, hM, hlt, hok⟩ := h.blk n b hn
    refine ⟨c, q, hr, by rw [he.newM c hlt (fun _ hc => by simp at hc)]; exact hM, Nat.lt_of_lt_of_le hlt he.size, ?_⟩
    rw [he.frame c hlt (fun _ hc => by simp at hc)]
    exact hok.mono he.mem (List.prefix_refl _)
  inj := h.inj
  glob g l hl := by
    obtain ⟨cs, ty, fr, hM, hr⟩ := h.glob g l hl
    exact ⟨cs, ty, fr, he.mem _ _ hM, relL_mono he.mem (List.prefix_refl _) _ _ hr⟩
theorem Ext.recall {M' : Mem} {σ : Ren} {w' : World} (he : Ext M [] w M' σ w') : Ext M ρ w M' ρ w' where
  os := he.os
  tape := he.tape
  output := he.output
  size := he.size
  mem := he.mem
  pre := List.prefix_refl _
  frame b hb _ := he.frame b hb (fun _ hc => by simp at hc)
  newM b hb _ := he.newM b hb (fun _ hc => by simp at hc)
  newR b c h := .inl ⟨c, h⟩

/-- What a call does where nothing is named it does everywhere. -/
theorem CallOK.frame {f : FuncId} {args : Array Value} {v : V} {J : Heap} (hv : nl v = true) (hS : SR T M ρ H w) (h : CallOK P T f args M [] w (.val v J)) : CallOK P T f args M ρ w (.val v H) := by
  refine Calls.mono h ?_
  rintro e w' ⟨x, M', σ, rfl, he, hx, hk⟩
  exact ⟨x, M', ρ, rfl, he.recall, nl_rel v x hv hx, hS.recall hk he⟩
theorem CallOK.frame_pan {f : FuncId} {args : Array Value} {v : V} {J : Heap} (hv : nl v = true) (hS : SR T M ρ H w) (h : CallOK P T f args M [] w (.pan v J)) : CallOK P T f args M ρ w (.pan v H) := by
  refine Calls.mono h ?_
  rintro e w' ⟨x, M', σ, rfl, he, hx, hk⟩
  exact ⟨x, M', ρ, rfl, he.recall, nl_rel v x hv hx, hS.recall hk he⟩

/-- Contracts: what a function returns, or panics with. -/
inductive Res where
  | val (v : V)
  | pan (v : V)
abbrev Con := FuncId → List V → Option Res
def Res.at : Res → Heap → OR
  | .val v, H => .val v H
  | .pan v, H => .pan v H
def Res.nl : Res → Bool
  | .val v => Ev.nl v
  | .pan v => Ev.nl v
def gamOf (C : Con) : Gam := fun f vs H => (C f vs).map (·.at H)
def Con.Sound (P : Program) (T : Tab) (C : Con) : Prop := Gam.Sound P T (gamOf C)
def Con.add (C : Con) (F : FuncId) (S : List V → Option Res) : Con := fun f vs => if f = F then S vs else C f vs
def Con.none : Con := fun _ _ => Option.none
theorem Con.none_sound : Con.none.Sound P T := fun f vs H r h => by simp [gamOf, Con.none] at h

def Tab.Plain (T : Tab) : Prop := ∀ g l, T.glob g = some l → nlL l = true

theorem con_of_ev (hT : TOk P T) (hp : T.Plain) {C : Con} (hC : C.Sound P T) {f : FuncId} {vs : List V} {r : Res} {J : Heap} {n : Nat} (h : evFun T (gamOf C) n f vs [] = r.at J) (h1 : nlL vs = true) (h2 : r.nl = true) :
    Go.Proofs.Enters P f ∧ ∀ (H : Heap) (M : Mem) (ρ : Ren) (w : World) (args : List Value), SR T M ρ H w → relL M ρ vs args → CallOK P T f args.toArray M ρ w (r.at H) := by
  have hne : r.at J ≠ .no := by cases r <;> simp [Res.at]
  obtain ⟨he, hok⟩ := evFun_ok hT hC n f vs [] _ h hne
  refine ⟨he, fun H M ρ w args hS hr => ?_⟩
  have := hok M [] w args (hS.forget hp) (nlL_rel vs args h1 hr)
  cases r with
  | val v => exact CallOK.frame h2 hS this
  | pan v => exact CallOK.frame_pan h2 hS this

/-- A contract of a function that may call itself, with less. -/
theorem Con.add_rec (hT : TOk P T) (hp : T.Plain) {C : Con} (hC : C.Sound P T) (F : FuncId) (S : List V → Option Res) (m : List V → Nat)
    (h : ∀ vs r, S vs = some r → nlL vs = true ∧ r.nl = true ∧ ∃ n J, evFun T (gamOf (C.add F fun a => if m a < m vs then S a else Option.none)) n F vs [] = r.at J) : (C.add F S).Sound P T := by
  have key : ∀ k, (C.add F fun a => if m a < k then S a else Option.none).Sound P T := by
    intro k
    induction k using Nat.strongRecOn with
    | _ k ih =>
      intro f vs H r hr hne
      simp only [gamOf, Con.add] at hr
      by_cases hf : f = F
      · rw [if_pos hf] at hr
        subst hf
        by_cases hk : m vs < k
        · rw [if_pos hk] at hr
          cases hs : S vs with
          | none => rw [hs] at hr; cases hr
          | some q =>
            rw [hs] at hr
            simp only [Option.map_some, Option.some.injEq] at hr
            subst hr
            obtain ⟨h1, h2, n, J, he⟩ := h vs q hs
            obtain ⟨h3, h4⟩ := con_of_ev hT hp (ih (m vs) hk) he h1 h2
            exact ⟨h3, h4 H⟩
        · rw [if_neg hk] at hr; cases hr
      · rw [if_neg hf] at hr
        exact hC f vs H r hr hne
  intro f vs H r hr hne
  refine key (m vs + 1) f vs H r ?_ hne
  simp only [gamOf, Con.add] at hr ⊢
  by_cases hf : f = F
  · rw [if_pos hf] at hr ⊢
    rw [if_pos (Nat.lt_succ_self _)]
    exact hr
  · rw [if_neg hf] at hr ⊢
    exact hr
theorem Con.add_one (hT : TOk P T) (hp : T.Plain) {C : Con} (hC : C.Sound P T) (F : FuncId) (S : List V → Option Res)
    (h : ∀ vs r, S vs = some r → nlL vs = true ∧ r.nl = true ∧ ∃ n J, evFun T (gamOf C) n F vs [] = r.at J) : (C.add F S).Sound P T := by
  intro f vs H r hr hne
  simp only [gamOf, Con.add] at hr
  by_cases hf : f = F
  · rw [if_pos hf] at hr
    subst hf
    cases hs : S vs with
    | none => rw [hs] at hr; cases hr
    | some q =>
      rw [hs] at hr
      simp only [Option.map_some, Option.some.injEq] at hr
      subst hr
      obtain ⟨h1, h2, n, J, he⟩ := h vs q hs
      obtain ⟨h3, h4⟩ := con_of_ev hT hp hC he h1 h2
      exact ⟨h3, h4 H⟩
  · rw [if_neg hf] at hr
    exact hC f vs H r hr hne
end
end Go.Ev
