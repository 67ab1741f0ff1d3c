/- At of a given tree and a path of one step returns the part. -/
import Derived.Test.YtamdmfgonfibgaaGreatDoorAt0
namespace Go.Ev
open Go Go.Proofs Go.RowKit
set_option maxRecDepth 1000000
set_option linter.unusedVariables false
theorem evSeqIn_end {P : Program} {T : Tab} (hT : TOk P T) {call : CallF} (hcall : call.Sound P T) (ops : Array Oper) {r : Option Nat} {n : Nat} {Q : Exit → Act → World → Prop} {l : List Oper} {t : Tm} {H : Heap} {a : Act} {w : World} {M : Mem} {ρ : Ren} {t' : Tm} {H' : Heap} (hS : SR T M ρ H w) (ht : relTm M ρ t a.tmps)
    (hnd : ∀ o ∈ l, ∀ c, o.op ≠ .defer c) (h : evSeq (evOp T call) ops l t H = .norm t' H')
    (k : ∀ a' w' M' ρ', Ext M ρ w M' ρ' w' → relTm M' ρ' t' a'.tmps → SR T M' ρ' H' w' → a'.defers = a.defers → Q .normal a' w') : wpListIn (FR r) n P ops Q l a w := by
  have := evSeqIn_ok hT hcall ops (r := r) (n := n) (Q := Q) [] l t H a w M ρ t' H' hS ht hnd h k
  rwa [List.append_nil] at this
theorem resG {M : Mem} {ρ : Ren} {w : World} {t : Env} {H : Heap} {tmps : Array Value} {fn : Func} {v : V} (hf : finish TT fn t H = .val v H) (hS : SR TT M ρ H w) (ht : relT M ρ t tmps) : ∃ x, (results fn tmps).run Tryz.prog w = .ok x w ∧ rel M ρ v x := by
  have h := results_ok TT_ok hS ht hf
  exact h.2
theorem resG2 {M : Mem} {ρ : Ren} {w : World} {t : Tm} {H : Heap} {tmps : Array Value} {fn : Func} {v : V} (hf : finish TT fn t.get H = .val v H) (hS : SR TT M ρ H w) (ht : relTm M ρ t tmps) : ∃ x, (results fn tmps).run Tryz.prog w = .ok x w ∧ rel M ρ v x :=
  resG hf hS ht.2
set_option maxHeartbeats 1000000 in
theorem at1 {M : Mem} {w : World} {args : List Value} (hS : SR TT M [] [] w) (hr : relL M [] [axV, .isl 1 [.i .i64 1]] args) :
    Calls Tryz.prog 12 args.toArray w (fun e w' => ∃ l x M' ρ', e = .returned x ∧ Ext M [] w M' ρ' w' ∧ rel M' ρ' (.tup [ndV 19 [49], .i .i64 0]) x ∧ SR TT M' ρ' (oA8 l).hp w') := by
  have ht0 := relTm_init (ρ := []) hr (n := 21) (by decide)
  refine (callsIn_wide (n := 0)).1 ?_
  rw [← FRw]
  refine callsIn_of_wp_marks (c := bodyOf Tryz.f12) Tryz.func12 rfl trivial ?_ rfl
  have hnt : Tryz.f12.ntmps = 21 := rfl
  rw [hnt]
  refine wpIn_seq (regO oA1 TT_ok callA_ok hS ht0 rfl (by kernel_rfl) oA1_n ?_)
  intro a1 w1 M1 ρ1 E1 ht1 hS1 hd1
  refine wpIn_seq (regO oA2 TT_ok callA_ok hS1 ht1 rfl (by kernel_rfl) oA2_n ?_)
  intro a2 w2 M2 ρ2 E2 ht2 hS2 hd2
  refine wpIn_seq (wpIn_seq (regO oA3 TT_ok callA_ok hS2 ht2 rfl (by kernel_rfl) oA3_n ?_))
  intro a3 w3 M3 ρ3 E3 ht3 hS3 hd3
  have E03 := (E1.trans E2).trans E3
  have hsz := E03.size
  have hda : a3.defers = [] := hd3.trans (hd2.trans hd1)
  -- the iterator's value
  have h12 := ht3.2 12
  rw [caps3_eq] at h12
  simp only [rel] at h12
  obtain ⟨cs, hcv, hcs⟩ := h12
  have hev : a3.eval (.tmp 12) = .func (.func 45) #[] cs.toArray := hcv
  refine wpIn_block (wpIn_rangeFunc fun fn _ => ?_)
  obtain ⟨l, hl⟩ : ∃ l, w3.heap.size + 1 = l := ⟨_, rfl⟩
  obtain ⟨rec, hrec⟩ : ∃ rec : LoopState → Option Code → Loop, rec = fun st pe => { state := st, pending := pe, fn, tmps := a3.tmps, params := #[13, 14], assign := asg, body := bdy, defers := w3.heap.size } := ⟨_, rfl⟩
  obtain ⟨W1, hW1⟩ : ∃ W1, (w3.alloc (.deferred (some []))).alloc (.loop (rec .ready none)) = W1 := ⟨_, rfl⟩
  have hSW : SR TT M3 ρ3 oA3.hp W1 := by rw [← hW1]; exact sr_alloc (sr_alloc hS3 _) _
  have EW : Ext M3 ρ3 w3 M3 ρ3 W1 := by rw [← hW1]; exact (ext_alloc _).trans (ext_alloc _)
  have E0W := E03.trans EW
  have nun : ∀ k, w3.heap.size ≤ k → M3 k = none ∧ ∀ c, (k, c) ∉ ρ3 := by
    intro k hk
    refine ⟨?_, fun c hc => ?_⟩
    · cases h : M3 k with
      | none => rfl
      | some o =>
        have := hS3.frozen k o h
        rw [Array.getElem?_eq_none hk] at this
        cases this
    · obtain ⟨i, hi⟩ := List.mem_iff_getElem?.1 hc
      have hil : i < oA3.hp.length := by rw [← hS3.len]; exact (List.getElem?_eq_some_iff.1 hi).1
      have hall : (oA3.hp.all Option.isSome) = true := by kernel_rfl
      have h2 := List.all_eq_true.1 hall _ (List.getElem_mem hil)
      obtain ⟨blk, hb⟩ := Option.isSome_iff_exists.1 h2
      obtain ⟨b, c', h3, _, h4, _⟩ := hS3.blk i blk (by rw [List.getElem?_eq_getElem hil, hb])
      rw [hi] at h3
      cases h3
      omega
  have hL : Hid l (.loop (rec .ready none)) M3 ρ3 W1 := ⟨by
    rw [← hW1, ← hl]
    have := World.alloc_heap_new (w3.alloc (.deferred (some []))) (.loop (rec .ready none))
    rwa [World.size_alloc] at this, (nun l (by omega)).1, (nun l (by omega)).2⟩
  have hK : Hid w3.heap.size (.deferred (some [])) M3 ρ3 W1 := ⟨by
    rw [← hW1]; exact (Below.heap_alloc _ _ _ (by simp)).trans (World.alloc_heap_new w3 _), (nun _ (Nat.le_refl _)).1, (nun _ (Nat.le_refl _)).2⟩
  refine ⟨l, [{ target := .collected w3.heap.size, args := #[] }], W1, { target := .fn (.func 45) cs.toArray, args := #[.func (.yield l) #[] #[]] }, W1, 45,
    #[.func (.yield l) #[] #[]] ++ cs.toArray, W1, ?_, ?_, fun _ _ => trivial, ?_, fun e => (by cases e), ?_⟩
  · rw [← hW1, hrec, ← hl]; exact run_enterLoop_outer _ _ _ _ _
  · simp [resolve, hev, Deferred.ofValue]; rfl
  · simp [invoke]
  -- the iterator's call
  show CallsIn (FR none) (0 - 1) Tryz.prog 45 _ W1 _
  have hrelI : relL M3 ρ3 (.yld l :: caps3) (.func (.yield l) #[] #[] :: cs) := relL_cons (by simp only [rel]) hcs
  have hc3 : caps3.length = 2 := by kernel_rfl
  have htI := relTm_init hrelI (n := 34) (by simp [hc3])
  have hargs : (#[.func (.yield l) #[] #[]] ++ cs.toArray : Array Value) = (.func (.yield l) #[] #[] :: cs).toArray := by apply Array.ext'; simp
  rw [hargs, FRw]
  refine callsIn_wide.2 (calls_of_wp (c := bodyOf Tryz.f45) Tryz.func45 rfl ((wpIn_wide (n := 0)).1 ?_))
  rw [← FRw]
  have hnt2 : Tryz.f45.ntmps = 34 := rfl
  rw [hnt2]
  refine wpIn_seq (regO (oI0 l) TT_ok callA_ok hSW htI rfl (by kernel_rfl) (oI0_n l) ?_)
  intro b0 v0 M4 ρ4 F0 hb0 hV0 hdb0
  refine wpIn_block ?_
  rw [FRw]
  refine (wpIn_wide (n := 0)).2 (wp_of_loopWp (loopWp_round ((wpIn_wide (n := 0)).1 ?_)))
  rw [← FRw]
  refine wpIn_seq (regO (oI1 l) TT_ok callA_ok hV0 hb0 rfl (by kernel_rfl) (oI1_n l) ?_)
  intro b1 v1 M5 ρ5 F1 hb1 hV1 hdb1
  refine wpIn_seq (wpIn_cond_true (bool_of hb1 (c9a l)) (wpIn_skip ?_))
  refine wpIn_seq (wpIn_block (wpIn_seq (regO (oI2 l) TT_ok callA_ok hV1 hb1 rfl (by kernel_rfl) (oI2_n l) ?_)))
  intro b2 v2 M6 ρ6 F2 hb2 hV2 hdb2
  refine wpIn_seq (wpIn_seq (regO (oI3 l) TT_ok callA_ok hV2 hb2 rfl (by kernel_rfl) (oI3_n l) ?_))
  intro b3 v3 M7 ρ7 F3 hb3 hV3 hdb3
  refine wpIn_cond_false (bool_of hb3 (c20 l)) (wpIn_skip ?_)
  refine wpIn_seq (regO (oI5 l) TT_ok callA_ok hV3 hb3 rfl (by kernel_rfl) (oI5_n l) ?_)
  intro b5 v5 M8 ρ8 F5 hb5 hV5 hdb5
  have FF := (((F0.trans F1).trans F2).trans F3).trans F5
  refine wpIn_seq (regY (rec := rec .ready none) (l := l) (q := 2) (j := 29) (ops2 := [.tmp 30, .const (.bool true)]) (vs := [ndV 19 [49], .b true]) TT_ok callA_ok hV5 hb5 (by kernel_rfl) rfl rfl (oY_n l) rfl (y29 l) (yvs l) (by rw [hrec]; rfl) (hL.ext FF) ?_)
  intro b6 v6 M9 ρ9 F6 hb6 hV6 hL6 hdb6 args2 hargs2
  subst hrec
  simp only [relL] at hargs2
  obtain ⟨x1, r1, rfl, hx1, x2, r2, rfl, hx2, rfl⟩ := hargs2
  have FA := (EW.trans FF).trans F6
  have hR0 : relTm M9 ρ9 tR (((a3.tmps.setIfInBounds 13 x1).setIfInBounds 14 x2)) :=
    put_rel (a := Act.put { tmps := a3.tmps, defers := [] } (some 13) x1) (put_rel (a := { tmps := a3.tmps, defers := [] }) (relTm_mono FA.mem FA.pre ht3) hx1 (some 13) (by kernel_rfl)) hx2 (some 14) (by kernel_rfl)
  have efold : Array.foldl (fun (tmps : Array Value) (x : Nat × Value) => match x with | (t, a) => tmps.setIfInBounds t a) a3.tmps ((#[13, 14] : Array Nat).zip #[x1, x2]) = (a3.tmps.setIfInBounds 13 x1).setIfInBounds 14 x2 := by
    rw [show ((#[13, 14] : Array Nat).zip #[x1, x2]) = #[(13, x1), (14, x2)] from by simp]
    simp
  show RoundIn (FR none) 0 Tryz.prog l fn (Array.foldl (fun (tmps : Array Value) (x : Nat × Value) => match x with | (t, a) => tmps.setIfInBounds t a) a3.tmps ((#[13, 14] : Array Nat).zip #[x1, x2])) asg bdy v6 _
  rw [efold]
  refine roundIn_of_wpIn trivial ?_
  show asg.wpIn (FR (some l)) 0 Tryz.prog _ _ _
  refine wpIn_seq (regO (oR3 l) TT_ok callA_ok hV6 hR0 rfl (by kernel_rfl) (oR3_n l) ?_)
  intro d3 u3 N3 σ3 G3 hd3' hU3 hdd3
  refine regO (oR4 l) TT_ok callA_ok hU3 hd3' rfl (by kernel_rfl) (oR4_n l) ?_
  intro d4 u4 N4 σ4 G4 hd4 hU4 hdd4
  have hL4 := (hL6.ext G3).ext G4
  refine ⟨_, run_beginRound hL4.at_ rfl, ?_⟩
  have hU4' := sr_put (o' := .loop { ({ state := .ready, pending := none, fn, tmps := a3.tmps, params := #[13, 14], assign := asg, body := bdy, defers := w3.heap.size } : Loop) with state := .busy }) hU4 hL4
  have hL4' := hL4.put (.loop { ({ state := .ready, pending := none, fn, tmps := a3.tmps, params := #[13, 14], assign := asg, body := bdy, defers := w3.heap.size } : Loop) with state := .busy })
  refine wpIn_block (wpIn_seq (wpIn_seq (regO (oR5 l) TT_ok callA_ok hU4' hd4 rfl (by kernel_rfl) (oR5_n l) ?_)))
  intro d5 u5 N5 σ5 G5 hd5 hU5 hdd5
  refine wpIn_cond_false (bool_of hd5 (c16 l)) (wpIn_skip ?_)
  refine regO (oR7 l) TT_ok callA_ok hU5 hd5 rfl (by kernel_rfl) (oR7_n l) ?_
  intro d7 u7 N7 σ7 G7 hd7 hU7 hdd7
  have hL7 := (hL4'.ext G5).ext G7
  refine ⟨_, _, run_endRound none hL7.at_, ?_⟩
  -- behind the round
  have hlw : w.heap.size ≤ l := by omega
  have hKl : w3.heap.size ≠ l := by omega
  have Ew4 := ((E0W.trans FF).trans F6 |>.trans G3).trans G4
  have Ew7 := ((ext_put (o' := .loop { ({ state := .ready, pending := none, fn, tmps := a3.tmps, params := #[13, 14], assign := asg, body := bdy, defers := w3.heap.size } : Loop) with state := .busy }) Ew4 hlw).trans G5).trans G7
  have mem9 : M9.le N7 := ((G3.mem.trans G4.mem).trans G5.mem).trans G7.mem
  have pre9 : ρ9 <+: σ7 := ((G3.pre.trans G4.pre).trans G5.pre).trans G7.pre
  have hK7 := (((((hK.ext FF).ext F6).ext G3).ext G4).other (o' := .loop { ({ state := .ready, pending := none, fn, tmps := a3.tmps, params := #[13, 14], assign := asg, body := bdy, defers := w3.heap.size } : Loop) with state := .busy }) hKl |>.ext G5).ext G7
  have Ew7' := ext_put (o' := .loop { ({ state := .ready, pending := none, fn, tmps := a3.tmps, params := #[13, 14], assign := asg, body := bdy, defers := w3.heap.size } : Loop) with state := .ready, pending := none }) Ew7 hlw
  have hU7' := sr_put (o' := .loop { ({ state := .ready, pending := none, fn, tmps := a3.tmps, params := #[13, 14], assign := asg, body := bdy, defers := w3.heap.size } : Loop) with state := .ready, pending := none }) hU7 hL7
  have hL7' := hL7.put (.loop { ({ state := .ready, pending := none, fn, tmps := a3.tmps, params := #[13, 14], assign := asg, body := bdy, defers := w3.heap.size } : Loop) with state := .ready, pending := none })
  have hK7' := hK7.other (o' := .loop { ({ state := .ready, pending := none, fn, tmps := a3.tmps, params := #[13, 14], assign := asg, body := bdy, defers := w3.heap.size } : Loop) with state := .ready, pending := none }) hKl
  have htZ := put_rel (relTm_mono mem9 pre9 hb6) (show rel N7 σ7 (.b true) (.bool true) from by simp only [rel]) (some 31) (by kernel_rfl)
  refine evSeqIn_end TT_ok callA_ok opsY (l := opsY.toList.drop 3) hU7' htZ (fun o ho => noDefer_at (ops := opsY) (by kernel_rfl) o (List.mem_of_mem_drop ho)) (Out.eq_of_isN (oZ_n l)) ?_
  intro b9 v9 N9 σ9 G9 hb9 hV9 hdb9
  refine wpIn_cond_false (bool_of hb9 (c32 l)) (wpIn_skip ?_)
  refine regO (oI7 l) TT_ok callA_ok hV9 hb9 rfl (by kernel_rfl) (oI7_n l) ?_
  intro b10 v10 N10 σ10 G10 hb10 hV10 hdb10
  refine loopWp_round ((wpIn_wide (n := 0)).1 ?_)
  rw [← FRw]
  refine wpIn_seq (regO (oI8 l) TT_ok callA_ok hV10 hb10 rfl (by kernel_rfl) (oI8_n l) ?_)
  intro b11 v11 N11 σ11 G11 hb11 hV11 hdb11
  refine wpIn_seq (wpIn_cond_false (bool_of hb11 (c9b l)) (wpIn_exit ?_))
  have hresI := @resG2 N11 σ11 v11 (oI8 l).tm (oI8 l).hp b11.tmps Tryz.f45 (.tup []) (finI l) hV11 hb11
  obtain ⟨xv, hxv, hxr⟩ := hresI
  have GG := (G9.trans G10).trans G11
  have hL11 := hL7'.ext GG
  have hK11 := hK7'.ext GG
  have hdef : b11.defers = [] := by
    rw [hdb11, hdb10, hdb9, put_defers', hdb6, hdb5, hdb3, hdb2, hdb1, hdb0]
  refine ⟨hdef, xv, hxv, ?_⟩
  refine ⟨_, _, run_endLoop hL11.at_ (by simp), ?_⟩
  -- behind the loop
  have Ew11 := ext_put (o' := .loop { ({ state := .ready, pending := none, fn, tmps := a3.tmps, params := #[13, 14], assign := asg, body := bdy, defers := w3.heap.size } : Loop) with state := .exhausted, pending := none }) (Ew7'.trans GG) hlw
  have hV11' := sr_put (o' := .loop { ({ state := .ready, pending := none, fn, tmps := a3.tmps, params := #[13, 14], assign := asg, body := bdy, defers := w3.heap.size } : Loop) with state := .exhausted, pending := none }) hV11 hL11
  have hK11' := hK11.other (o' := .loop { ({ state := .ready, pending := none, fn, tmps := a3.tmps, params := #[13, 14], assign := asg, body := bdy, defers := w3.heap.size } : Loop) with state := .exhausted, pending := none }) hKl
  have memA : M3.le N11 := (FA.mem.trans mem9).trans GG.mem
  have preA : ρ3 <+: σ11 := (FA.pre.trans pre9).trans GG.pre
  refine wpIn_seq (regO (a := { a3 with defers := { target := .collected w3.heap.size, args := #[] } :: a3.defers }) (oA8 l) TT_ok callA_ok hV11' (relTm_mono memA preA ht3) rfl (by kernel_rfl) (oA8_n l) ?_)
  intro a8 w8 N12 σ12 G12 ht8 hS8 hd8
  refine wpIn_ret ?_
  have hK12 := hK11'.ext G12
  have hS8' := sr_put (o' := .deferred none) hS8 hK12
  have Ew12 := ext_put (o' := .deferred none) (Ew11.trans G12) hsz
  have hresA := @resG2 N12 σ12 _ (oA8 l).tm (oA8 l).hp a8.tmps Tryz.f12 _ (finA l) hS8' ht8
  obtain ⟨yv, hyv, hyr⟩ := hresA
  show LeavesInM (FR none) 0 Tryz.prog Tryz.f12 a8.tmps _ a8.defers .returning w8
  rw [hd8, hda]
  exact ⟨by simp, .inl ⟨_, _, rfl, run_takeDeferred hK12.at_, yv, hyv, l, yv, N12, σ12, rfl, Ew12, hyr, hS8'⟩⟩
end Go.Ev
