/- A part of the proofs of the statements on chapter 21: walks of functions that they reach, and plain laws. What is proved is stated in the last text. Conditions: none of its own. -/
import Derived.Test.YtgmfhldfdnnafaaGreatDoorMs17
set_option maxHeartbeats 8000000
set_option maxRecDepth 100000
set_option linter.unusedSimpArgs false
set_option linter.unusedVariables false
namespace Go.Proofs.YtgmfhldfdnnafaaGreatDoor
open Go.RowKit
open Pl (Bs idxB numOk numN setOk setL)
attribute [local go_sem ↓] Go.wp_at_zero Go.wp_at_succ
theorem rest_list (G : Glob) (B C k : Nat) (s N : Bs) (cs : Array Value) (h1 : cs[1]? = some (.string (str N))) (v3 : Value) (h3 : cs[3]? = some v3) (hN : N = [76, 73, 83, 84]) (hne : B ≠ C) (hC20 : 20 ≤ C) (w : World) (hC : w.heap[C]? = some (Obj.cells cs 33)) (hE : EnvI G w B) (h : Scn w B s k) :
  Calls Tryz.prog 31 #[scP B, cmP C] w (RestPostS cs.size w B C (ArgsQ w cs) ((listB s).map (pkL k))) := by
 have HNN := Lib.hid hN
 clear hN
 have HST := Lib.hid (RsSt.start h hC hne)
 have HSD := Lib.hid HST.out.draw
 have HS0 := Lib.hid HSD.out.keep
 have HE := Lib.hid hE
 obtain ⟨c1, _⟩ := HST.out.cell h1
 obtain ⟨hl1, hl2, hl3⟩ := HST.out.lt
 have KT : Hid (∀ W, EnvI G W B → Scn W B s k → Calls Tryz.prog 70 #[scP B, .int .i64 1] W _) := Lib.hid (fun W hE hS => texts_walk G B k 1 (by decide) s W hE hS)
 have H3 := Lib.hid h3
 have H3s : Hid (3 < cs.size) := Lib.hid (Array.getElem?_eq_some_iff.1 h3).1
 obtain ⟨i0, hi, hz0, hz1, hz2⟩ := info_parts infoStr21
 have HT := Lib.hid (show (listB s).map (pkL k) = (match textsB 1 s with
  | none => none
  | some (xs, s1) => match isB [32] s1 with
   | none => none
   | some s2 => (textB [37, 42] s2).map (appY xs)).map (pkL k) from rfl)
 generalize (listB s).map (pkL k) = oo at *
 clear h1 h3 hE h
 have hN := HNN.out
 obtain ⟨n0, n1, n2, n3, n4, n5, n6, n7, n8, n9, n10, n11, n12, n13, _⟩ := notAll (N := N) (Ls := rNs.take 14) (by rw [hN]; decide)
 have n14 := strEq hN
 clear hN
 cases ht : textsB 1 s with
 | none =>
  have HO := Lib.hid (show oo = none by rw [HT.out, ht]; rfl)
  rw [ht] at KT
  clear ht
  go_enter Tryz.func31, Tryz.ntmps31
  go_wp2_with fail
  generalize ((w.alloc (Obj.cells #[scP B] 62)).alloc (Obj.cells #[cmP C] 68)) = w2 at *
  obtain ⟨d0, d1⟩ := HSD.out.keep
  refine wp_region_any (by kernel_rfl) ?_
  change wpAny _ _ _ _ _ _ _ (World.drew _)
  refine wpAny_ready (rs := [0, 1]) (by kernel_rfl) (by simp) ?_
  refine AllReady.cons rfl (fun K9 hK9 => ?_) ?_
  ·
   go_simp
   refine hK9 _ _ ?_
   clear hK9 K9
   refine wpAny_ready (rs := [1]) (by kernel_rfl) (by simp) ?_
   refine AllReady.cons rfl (fun K9 hK9 => ?_) ?_
   ·
    go_simp
    refine hK9 _ _ ?_
    clear hK9 K9
    refine wpAny_ready (rs := [2]) (by kernel_rfl) (by simp) ?_
    refine AllReady.cons rfl (fun K9 hK9 => ?_) ?_
    ·
     go_simp
     refine (KT.out _ (HE.out.kept2 HSD.out.gr hC20) HSD.out.sc).mono ?_
     rintro e w' ⟨hG, rfl⟩
     exact ⟨rfl, HSD.out.badS hG (by simp) HO.out⟩
    exact AllReady.nil
   exact AllReady.nil
  refine AllReady.cons rfl (fun K9 hK9 => ?_) ?_
  ·
   go_simp
   refine hK9 _ _ ?_
   clear hK9 K9
   refine wpAny_ready (rs := [0, 2]) (by kernel_rfl) (by simp) ?_
   refine AllReady.cons rfl (fun K9 hK9 => ?_) ?_
   ·
    go_simp
    refine hK9 _ _ ?_
    clear hK9 K9
    refine wpAny_ready (rs := [2]) (by kernel_rfl) (by simp) ?_
    refine AllReady.cons rfl (fun K9 hK9 => ?_) ?_
    ·
     go_simp
     refine (KT.out _ (HE.out.kept2 HSD.out.gr hC20) HSD.out.sc).mono ?_
     rintro e w' ⟨hG, rfl⟩
     exact ⟨rfl, HSD.out.badS hG (by simp) HO.out⟩
    exact AllReady.nil
   refine AllReady.cons rfl (fun K9 hK9 => ?_) ?_
   ·
    go_simp
    refine (KT.out _ (HE.out.kept2 HSD.out.gr hC20) HSD.out.sc).mono ?_
    rintro e w' ⟨hG, rfl⟩
    exact ⟨rfl, HSD.out.badS hG (by simp) HO.out⟩
   exact AllReady.nil
  exact AllReady.nil
 | some p =>
  obtain ⟨xs, s1⟩ := p
  have hxl := (textsB_len ht).2.1
  obtain ⟨x0, rfl⟩ : ∃ x, xs = [x] := List.length_eq_one_iff.1 hxl
  have HT := Lib.hid (show oo = (match isB [32] s1 with
   | none => none
   | some s2 => (textB [37, 42] s2).map (appY [x0])).map (pkL k) by rw [HT.out, ht])
  rw [ht] at KT
  clear ht
  go_enter Tryz.func31, Tryz.ntmps31
  go_wp2_with fail
  generalize ((w.alloc (Obj.cells #[scP B] 62)).alloc (Obj.cells #[cmP C] 68)) = w2 at *
  go_region_held3 (fun W => W.cell? ⟨w.heap.size, 0, none⟩ = some (scP B) ∧ W.cell? ⟨w.heap.size + 1, 0, none⟩ = some (cmP C))
   (first | exact HS0.out | exact HS1.out.keep | exact (HS1.out.setC 3 _).keep)
   (first
    | (go_at_call 70; refine (KT.out _ (HE.out.kept2 HSD.out.gr hC20) HSD.out.sc).mono ?_; rintro e w1 ⟨hG1, u, rfl, hO1, hS1⟩; obtain ⟨A, c, hu, hrow⟩ := rowC_own hO1; subst hu; have HS1 := Lib.hid (HSD.out.step hG1 hS1); obtain ⟨c3, f3⟩ := HS1.out.cell H3.out; have HO1 := Lib.hid hO1; clear hG1 hO1 hS1 hrow))
  have hbase : w.heap.size + 2 ≤ w2.drew.heap.size := (Array.getElem?_eq_some_iff.1 HSD.out.bc).1
  have HS5 := Lib.hid (HS1.out.setC 3 (.slice A 1 c))
  have HO5 : Hid ((w1.setCell ⟨C, 3, none⟩ (.slice A 1 c)).ownsRow (w.heap.size + 2) 9 1 (.slice A 1 c) 1 [.string (str x0)]) := Lib.hid (ownsRow_setCell_below (own_lower HO1.out hbase) (by dsimp only; omega) _)
  generalize w1.setCell ⟨C, 3, none⟩ (.slice A 1 c) = w5 at *
  have e0 := (one_cells HS5.out.bx).1
  have e1 := (one_cells HS5.out.bc).1
  cases hb : isB [32] s1 with
  | none =>
   have HO := Lib.hid (show oo = none by rw [HT.out, hb]; rfl)
   have KB := Lib.hid (fun W hW => blank_no B s1 k hb W hW)
   clear hb
   go_wp2_with fail
   refine (KB.out _ HS5.out.sc).mono ?_
   rintro e w6 ⟨rfl, hG6⟩
   exact ⟨rfl, HS5.out.badS hG6 (by simp) HO.out⟩
  | some s2 =>
   have HT := Lib.hid (show oo = ((textB [37, 42] s2).map (appY [x0])).map (pkL k) by rw [HT.out, hb])
   have KB := Lib.hid (fun W hW => blank_ok B s1 s2 k hb W hW)
   have KX : Hid (∀ W, EnvI G W B → Scn W B s2 k → Calls Tryz.prog 71 #[scP B, .string ⟨#[37, 42]⟩] W _) := Lib.hid (fun W hE hS => text_walk G B k [37, 42] s2 W hE hS)
   clear hb
   go_wp2_with fail
   refine (KB.out _ HS5.out.sc).mono ?_
   rintro e w6 ⟨rfl, hS6, hG6⟩
   have HS6 := Lib.hid (HS5.out.step hG6 hS6)
   have HO6 := Lib.hid (own_kept HO5.out hG6 (by omega))
   clear hS6 hG6 e0 e1
   have HS6D := Lib.hid HS6.out.draw
   have HO6D := Lib.hid (own_kept HO6.out (grown_dr2 w6 (some B)) (by omega))
   obtain ⟨e0, e1⟩ := HS6D.out.keep
   obtain ⟨c3', f3'⟩ := HS6D.out.cell (i := 3) (v := .slice A 1 c) (by rw [Array.getElem?_setIfInBounds_self]; simp [H3s.out])
   cases hx : textB [37, 42] s2 with
   | none =>
    have HO := Lib.hid (show oo = none by rw [HT.out, hx]; rfl)
    rw [hx] at KX
    clear hx
    go_wp2_with fail
    refine wp_region_held_drew (S := fun W => W.cell? ⟨w.heap.size, 0, none⟩ = some (scP B) ∧ W.cell? ⟨w.heap.size + 1, 0, none⟩ = some (cmP C) ∧ W.cell? ⟨C, 3, none⟩ = some (.slice A 1 c)) (by kernel_rfl) ⟨e0, e1, c3'⟩ (fun hHeld => ?_)
    refine wpAnyH_take (i := 0) rfl (by kernel_rfl) (by kernel_rfl) (by kernel_rfl) (fun _ _ _ h => h) (.inl ⟨by rfl, by intro _ h; (try dsimp only at h); go_simp; try with_reducible rfl⟩) hHeld ?_
    try simp only [Act.put, t0, t1, t2, t3, t4, t5]
    refine wpAnyH_take (i := 1) rfl (by kernel_rfl) (by kernel_rfl) (by kernel_rfl) (fun _ _ _ h => h) (.inl ⟨by rfl, by intro _ h; (try dsimp only at h); go_simp; try with_reducible rfl⟩) hHeld ?_
    try simp only [Act.put, t0, t1, t2, t3, t4, t5]
    refine wpAnyH_take (i := 2) rfl (by kernel_rfl) (by kernel_rfl) (by kernel_rfl) (fun _ _ _ h => h) (.inl ⟨by rfl, by intro _ h; (try dsimp only at h); go_simp; try with_reducible rfl⟩) hHeld ?_
    try simp only [Act.put, t0, t1, t2, t3, t4, t5]
    refine wpAnyH_take (i := 3) rfl (by kernel_rfl) (by kernel_rfl) (by kernel_rfl) (fun _ _ _ h => h) (.inl ⟨by rfl, by intro _ h; (try dsimp only at h); go_simp; try with_reducible rfl⟩) hHeld ?_
    try simp only [Act.put, t0, t1, t2, t3, t4, t5]
    refine wpAnyH_take (i := 4) rfl (by kernel_rfl) (by kernel_rfl) (by kernel_rfl) (fun _ _ _ h => h) (.inl ⟨by rfl, by intro _ h; (try dsimp only at h); go_simp; try with_reducible rfl⟩) hHeld ?_
    try simp only [Act.put, t0, t1, t2, t3, t4, t5]
    refine wpAnyH_take (i := 5) rfl (by kernel_rfl) (by kernel_rfl) (by kernel_rfl) (fun _ _ _ h => h) (.inl ⟨by rfl, by intro _ h; (try dsimp only at h); go_simp; try with_reducible rfl⟩) hHeld ?_
    try simp only [Act.put, t0, t1, t2, t3, t4, t5]
    refine wpAnyH_ready (rs := [6]) (by kernel_rfl) (by simp) ?_
    refine AllReadyH.cons rfl (fun K9 hK9 => ?_) ?_
    ·
     go_simp
     refine (KX.out _ (HE.out.kept2 HS6D.out.gr hC20) HS6D.out.sc).mono ?_
     rintro e w' ⟨hG, rfl⟩
     exact ⟨rfl, HS6D.out.badS hG (by simp) HO.out⟩
    exact AllReadyH.nil
   | some q =>
    obtain ⟨y, r⟩ := q
    have HO := Lib.hid (show oo = some ([x0, y], r, k) by rw [HT.out, hx]; rfl)
    rw [hx] at KX
    clear hx
    go_wp2_with fail
    refine wp_region_held_drew (S := fun W => W.cell? ⟨w.heap.size, 0, none⟩ = some (scP B) ∧ W.cell? ⟨w.heap.size + 1, 0, none⟩ = some (cmP C)) (by kernel_rfl) ⟨e0, e1⟩ (fun hHeld => ?_)
    refine wpAnyH_take (i := 0) rfl (by kernel_rfl) (by kernel_rfl) (by kernel_rfl) (fun _ _ _ h => h) (.inl ⟨by rfl, by intro _ h; (try dsimp only at h); go_simp; try with_reducible rfl⟩) hHeld ?_
    try simp only [Act.put, t0, t1, t2, t3, t4, t5]
    refine wpAnyH_take (i := 1) rfl (by kernel_rfl) (by kernel_rfl) (by kernel_rfl) (fun _ _ _ h => h) (.inl ⟨by rfl, by intro _ h; (try dsimp only at h); go_simp; try with_reducible rfl⟩) hHeld ?_
    try simp only [Act.put, t0, t1, t2, t3, t4, t5]
    refine wpAnyH_take (i := 2) rfl (by kernel_rfl) (by kernel_rfl) (by kernel_rfl) (fun _ _ _ h => h) (.inl ⟨by rfl, by intro _ h; (try dsimp only at h); go_simp; try with_reducible rfl⟩) hHeld ?_
    try simp only [Act.put, t0, t1, t2, t3, t4, t5]
    refine wpAnyH_take (i := 3) rfl (by kernel_rfl) (by kernel_rfl) (by kernel_rfl) (fun _ _ _ h => h) (.inl ⟨by rfl, by intro _ h; (try dsimp only at h); go_simp; try with_reducible rfl⟩) hHeld ?_
    try simp only [Act.put, t0, t1, t2, t3, t4, t5]
    refine wpAnyH_take (i := 5) rfl (by kernel_rfl) (by kernel_rfl) (by kernel_rfl) (fun _ _ _ h => h) (.inl ⟨by rfl, by intro _ h; (try dsimp only at h); go_simp; try with_reducible rfl⟩) hHeld ?_
    try simp only [Act.put, t0, t1, t2, t3, t4, t5]
    refine wpAnyH_ready (rs := [4, 6]) (by kernel_rfl) (by simp) ?_
    refine AllReadyH.cons rfl (fun K9 hK9 => ?_) ?_
    ·
     go_simp
     refine hK9.out _ _ ⟨e0, e1⟩ (fun hHeld => ?_)
     clear hK9 K9
     try simp only [Act.put, t0, t1, t2, t3, t4, t5]
     refine wpAnyH_ready (rs := [6]) (by kernel_rfl) (by simp) ?_
     refine AllReadyH.cons rfl (fun K9 hK9 => ?_) ?_
     ·
      go_simp
      refine (KX.out _ (HE.out.kept2 HS6D.out.gr hC20) HS6D.out.sc).mono ?_
      rintro e w7 ⟨hG7, rfl, hS7⟩
      have HS7 := Lib.hid (HS6D.out.step hG7 hS7)
      have HO7 := Lib.hid (own_kept HO6D.out hG7 (by omega))
      obtain ⟨g0, g1⟩ := HS7.out.keep
      obtain ⟨c4, f4⟩ := HS7.out.cell (i := 3) (v := .slice A 1 c) (by rw [Array.getElem?_setIfInBounds_self]; simp [H3s.out])
      have HS7A := (fun o => HS7.out.step (grown_below ((Below.refl w7.heap.size w7).alloc (Nat.le_refl _) o) (some B)) (HS7.out.sc.then ((Below.refl w7.heap.size w7).alloc (Nat.le_refl _) o)))
      have g4 := (fun o => (HS7A o).keep.1)
      have g5 := (fun o => (HS7A o).keep.2)
      have g6 := (fun o => ((HS7A o).cell (i := 3) (v := .slice A 1 c) (by rw [Array.getElem?_setIfInBounds_self]; simp [H3s.out])).1)
      clear hG7 hS7
      refine hK9.out _ _ HS7.out.keep (fun hHeld => ?_)
      clear hK9 K9
      try simp only [Act.put, t0, t1, t2, t3, t4, t5]
      refine wpAnyH_ready (rs := [7]) (by kernel_rfl) (by simp) ?_
      refine AllReadyH.cons rfl (fun K9 hK9 => ?_) ?_
      ·
       go_simp
       refine hK9.out _ _ (HS7A _).keep (fun hHeld => ?_)
       clear hK9 K9
       try simp only [Act.put, t0, t1, t2, t3, t4, t5]
       refine wpAnyH_ready (rs := [8]) (by kernel_rfl) (by simp) ?_
       refine AllReadyH.cons rfl (fun K9 hK9 => ?_) ?_
       ·
        refine step_append_lies _ (by rfl) _ _ _ (by rfl) (w.heap.size + 2) 9 i0 (.string ⟨#[]⟩) 1 16 Tryz.underlying28 hi hz0 hz1 hz2 (by rfl) (by decide) (.slice A 1 c) 1 [.string (str x0)] (by rfl) (HO7.out.alloc _) ⟨w7.heap.size, 0, none⟩ 1 1 [.string (str y)] (by rfl) (by rfl) (World.news_of_block (World.alloc_heap_new w7 _)) (by simp [Value.oneCell']) (by decide) (by unfold maxLen; omega) (by omega) (by have := (Array.getElem?_eq_some_iff.1 HS7.out.bc).1; simp; omega) (w7.heap.size + 1) (by simp) ?_
        intro g cap w9 hown hgr hat hlt
        have HOW := Lib.hid hown
        have HS9 := Lib.hid ((HS7A _).grow hgr (fun j e => (HO7.out.lt j e).1))
        obtain ⟨j0, j1⟩ := HS9.out.keep
        obtain ⟨k3, l3⟩ := HS9.out.cell (i := 3) (v := .slice A 1 c) (by rw [Array.getElem?_setIfInBounds_self]; simp [H3s.out])
        refine hK9.out _ _ HS9.out.keep (fun hHeld => ?_)
        clear hK9 K9
        try simp only [Act.put, t0, t1, t2, t3, t4, t5]
        refine wpAnyH_take (i := 9) rfl (by kernel_rfl) (by kernel_rfl) (by kernel_rfl) (fun _ _ _ h => h) (.inl ⟨by rfl, by intro _ h; (try dsimp only at h); go_simp; try with_reducible rfl⟩) hHeld ?_
        try simp only [Act.put, t0, t1, t2, t3, t4, t5]
        refine wpAnyH_take (i := 10) rfl (by kernel_rfl) (by kernel_rfl) (by kernel_rfl) (fun _ _ _ h => h) (.inl ⟨by rfl, by intro _ h; (try dsimp only at h); go_simp; try with_reducible rfl⟩) hHeld ?_
        try simp only [Act.put, t0, t1, t2, t3, t4, t5]
        refine wpAnyH_ready (rs := [11]) (by kernel_rfl) (by simp) ?_
        refine AllReadyH.cons rfl (fun K9 hK9 => ?_) ?_
        ·
         go_simp
         refine hK9.out _ _ (HS9.out.setC 3 _).keep (fun hHeld => ?_)
         clear hK9 K9
         try simp only [Act.put, t0, t1, t2, t3, t4, t5]
         refine wpAnyH_done (by kernel_rfl) ?_ _
         go_end0
         have hw0 := (Array.getElem?_eq_some_iff.1 HS9.out.bc).1
         refine (HS9.out.setC 3 _).finS HO.out ⟨_, _, set_twice _ _ _ _, ?_⟩
         exact ((rowC_own HOW.out).kept (fun i hi => Below.heap_setCell _ _ _ _ (by have := hi.1; dsimp only; omega))).more (fun i hi => ⟨by have := hi.1; omega, by have := hi.2; simpa using this⟩)
        exact AllReadyH.nil
       exact AllReadyH.nil
      exact AllReadyH.nil
     exact AllReadyH.nil
    refine AllReadyH.cons rfl (fun K9 hK9 => ?_) ?_
    ·
     go_simp
     refine (KX.out _ (HE.out.kept2 HS6D.out.gr hC20) HS6D.out.sc).mono ?_
     rintro e w7 ⟨hG7, rfl, hS7⟩
     have HS7 := Lib.hid (HS6D.out.step hG7 hS7)
     have HO7 := Lib.hid (own_kept HO6D.out hG7 (by omega))
     obtain ⟨g0, g1⟩ := HS7.out.keep
     obtain ⟨c4, f4⟩ := HS7.out.cell (i := 3) (v := .slice A 1 c) (by rw [Array.getElem?_setIfInBounds_self]; simp [H3s.out])
     have HS7A := (fun o => HS7.out.step (grown_below ((Below.refl w7.heap.size w7).alloc (Nat.le_refl _) o) (some B)) (HS7.out.sc.then ((Below.refl w7.heap.size w7).alloc (Nat.le_refl _) o)))
     have g4 := (fun o => (HS7A o).keep.1)
     have g5 := (fun o => (HS7A o).keep.2)
     have g6 := (fun o => ((HS7A o).cell (i := 3) (v := .slice A 1 c) (by rw [Array.getElem?_setIfInBounds_self]; simp [H3s.out])).1)
     clear hG7 hS7
     refine hK9.out _ _ HS7.out.keep (fun hHeld => ?_)
     clear hK9 K9
     try simp only [Act.put, t0, t1, t2, t3, t4, t5]
     refine wpAnyH_ready (rs := [4, 7]) (by kernel_rfl) (by simp) ?_
     refine AllReadyH.cons rfl (fun K9 hK9 => ?_) ?_
     ·
      go_simp
      refine hK9.out _ _ HS7.out.keep (fun hHeld => ?_)
      clear hK9 K9
      try simp only [Act.put, t0, t1, t2, t3, t4, t5]
      refine wpAnyH_ready (rs := [7]) (by kernel_rfl) (by simp) ?_
      refine AllReadyH.cons rfl (fun K9 hK9 => ?_) ?_
      ·
       go_simp
       refine hK9.out _ _ (HS7A _).keep (fun hHeld => ?_)
       clear hK9 K9
       try simp only [Act.put, t0, t1, t2, t3, t4, t5]
       refine wpAnyH_ready (rs := [8]) (by kernel_rfl) (by simp) ?_
       refine AllReadyH.cons rfl (fun K9 hK9 => ?_) ?_
       ·
        refine step_append_lies _ (by rfl) _ _ _ (by rfl) (w.heap.size + 2) 9 i0 (.string ⟨#[]⟩) 1 16 Tryz.underlying28 hi hz0 hz1 hz2 (by rfl) (by decide) (.slice A 1 c) 1 [.string (str x0)] (by rfl) (HO7.out.alloc _) ⟨w7.heap.size, 0, none⟩ 1 1 [.string (str y)] (by rfl) (by rfl) (World.news_of_block (World.alloc_heap_new w7 _)) (by simp [Value.oneCell']) (by decide) (by unfold maxLen; omega) (by omega) (by have := (Array.getElem?_eq_some_iff.1 HS7.out.bc).1; simp; omega) (w7.heap.size + 1) (by simp) ?_
        intro g cap w9 hown hgr hat hlt
        have HOW := Lib.hid hown
        have HS9 := Lib.hid ((HS7A _).grow hgr (fun j e => (HO7.out.lt j e).1))
        obtain ⟨j0, j1⟩ := HS9.out.keep
        obtain ⟨k3, l3⟩ := HS9.out.cell (i := 3) (v := .slice A 1 c) (by rw [Array.getElem?_setIfInBounds_self]; simp [H3s.out])
        refine hK9.out _ _ HS9.out.keep (fun hHeld => ?_)
        clear hK9 K9
        try simp only [Act.put, t0, t1, t2, t3, t4, t5]
        refine wpAnyH_take (i := 9) rfl (by kernel_rfl) (by kernel_rfl) (by kernel_rfl) (fun _ _ _ h => h) (.inl ⟨by rfl, by intro _ h; (try dsimp only at h); go_simp; try with_reducible rfl⟩) hHeld ?_
        try simp only [Act.put, t0, t1, t2, t3, t4, t5]
        refine wpAnyH_take (i := 10) rfl (by kernel_rfl) (by kernel_rfl) (by kernel_rfl) (fun _ _ _ h => h) (.inl ⟨by rfl, by intro _ h; (try dsimp only at h); go_simp; try with_reducible rfl⟩) hHeld ?_
        try simp only [Act.put, t0, t1, t2, t3, t4, t5]
        refine wpAnyH_ready (rs := [11]) (by kernel_rfl) (by simp) ?_
        refine AllReadyH.cons rfl (fun K9 hK9 => ?_) ?_
        ·
         go_simp
         refine hK9.out _ _ (HS9.out.setC 3 _).keep (fun hHeld => ?_)
         clear hK9 K9
         try simp only [Act.put, t0, t1, t2, t3, t4, t5]
         refine wpAnyH_done (by kernel_rfl) ?_ _
         go_end0
         have hw0 := (Array.getElem?_eq_some_iff.1 HS9.out.bc).1
         refine (HS9.out.setC 3 _).finS HO.out ⟨_, _, set_twice _ _ _ _, ?_⟩
         exact ((rowC_own HOW.out).kept (fun i hi => Below.heap_setCell _ _ _ _ (by have := hi.1; dsimp only; omega))).more (fun i hi => ⟨by have := hi.1; omega, by have := hi.2; simpa using this⟩)
        exact AllReadyH.nil
       exact AllReadyH.nil
      exact AllReadyH.nil
     refine AllReadyH.cons rfl (fun K9 hK9 => ?_) ?_
     ·
      go_simp
      refine hK9.out _ _ (HS7A _).keep (fun hHeld => ?_)
      clear hK9 K9
      try simp only [Act.put, t0, t1, t2, t3, t4, t5]
      refine wpAnyH_ready (rs := [4]) (by kernel_rfl) (by simp) ?_
      refine AllReadyH.cons rfl (fun K9 hK9 => ?_) ?_
      ·
       go_simp
       refine hK9.out _ _ (HS7A _).keep (fun hHeld => ?_)
       clear hK9 K9
       try simp only [Act.put, t0, t1, t2, t3, t4, t5]
       refine wpAnyH_ready (rs := [8]) (by kernel_rfl) (by simp) ?_
       refine AllReadyH.cons rfl (fun K9 hK9 => ?_) ?_
       ·
        refine step_append_lies _ (by rfl) _ _ _ (by rfl) (w.heap.size + 2) 9 i0 (.string ⟨#[]⟩) 1 16 Tryz.underlying28 hi hz0 hz1 hz2 (by rfl) (by decide) (.slice A 1 c) 1 [.string (str x0)] (by rfl) (HO7.out.alloc _) ⟨w7.heap.size, 0, none⟩ 1 1 [.string (str y)] (by rfl) (by rfl) (World.news_of_block (World.alloc_heap_new w7 _)) (by simp [Value.oneCell']) (by decide) (by unfold maxLen; omega) (by omega) (by have := (Array.getElem?_eq_some_iff.1 HS7.out.bc).1; simp; omega) (w7.heap.size + 1) (by simp) ?_
        intro g cap w9 hown hgr hat hlt
        have HOW := Lib.hid hown
        have HS9 := Lib.hid ((HS7A _).grow hgr (fun j e => (HO7.out.lt j e).1))
        obtain ⟨j0, j1⟩ := HS9.out.keep
        obtain ⟨k3, l3⟩ := HS9.out.cell (i := 3) (v := .slice A 1 c) (by rw [Array.getElem?_setIfInBounds_self]; simp [H3s.out])
        refine hK9.out _ _ HS9.out.keep (fun hHeld => ?_)
        clear hK9 K9
        try simp only [Act.put, t0, t1, t2, t3, t4, t5]
        refine wpAnyH_take (i := 9) rfl (by kernel_rfl) (by kernel_rfl) (by kernel_rfl) (fun _ _ _ h => h) (.inl ⟨by rfl, by intro _ h; (try dsimp only at h); go_simp; try with_reducible rfl⟩) hHeld ?_
        try simp only [Act.put, t0, t1, t2, t3, t4, t5]
        refine wpAnyH_take (i := 10) rfl (by kernel_rfl) (by kernel_rfl) (by kernel_rfl) (fun _ _ _ h => h) (.inl ⟨by rfl, by intro _ h; (try dsimp only at h); go_simp; try with_reducible rfl⟩) hHeld ?_
        try simp only [Act.put, t0, t1, t2, t3, t4, t5]
        refine wpAnyH_ready (rs := [11]) (by kernel_rfl) (by simp) ?_
        refine AllReadyH.cons rfl (fun K9 hK9 => ?_) ?_
        ·
         go_simp
         refine hK9.out _ _ (HS9.out.setC 3 _).keep (fun hHeld => ?_)
         clear hK9 K9
         try simp only [Act.put, t0, t1, t2, t3, t4, t5]
         refine wpAnyH_done (by kernel_rfl) ?_ _
         go_end0
         have hw0 := (Array.getElem?_eq_some_iff.1 HS9.out.bc).1
         refine (HS9.out.setC 3 _).finS HO.out ⟨_, _, set_twice _ _ _ _, ?_⟩
         exact ((rowC_own HOW.out).kept (fun i hi => Below.heap_setCell _ _ _ _ (by have := hi.1; dsimp only; omega))).more (fun i hi => ⟨by have := hi.1; omega, by have := hi.2; simpa using this⟩)
        exact AllReadyH.nil
       exact AllReadyH.nil
      exact AllReadyH.nil
     exact AllReadyH.nil
    exact AllReadyH.nil
open Go.RowKit
open Pl (Bs idxB numOk numN setOk setL)
attribute [local go_sem ↓] Go.wp_at_zero Go.wp_at_succ
theorem rest_lsub (G : Glob) (B C k : Nat) (s N : Bs) (cs : Array Value) (h1 : cs[1]? = some (.string (str N))) (v3 : Value) (h3 : cs[3]? = some v3) (hN : N = [76, 83, 85, 66]) (hne : B ≠ C) (hC20 : 20 ≤ C) (w : World) (hC : w.heap[C]? = some (Obj.cells cs 33)) (hE : EnvI G w B) (h : Scn w B s k) :
  Calls Tryz.prog 31 #[scP B, cmP C] w (RestPostS cs.size w B C (ArgsQ w cs) ((listB s).map (pkL k))) := by
 have HNN := Lib.hid hN
 clear hN
 have HST := Lib.hid (RsSt.start h hC hne)
 have HSD := Lib.hid HST.out.draw
 have HS0 := Lib.hid HSD.out.keep
 have HE := Lib.hid hE
 obtain ⟨c1, _⟩ := HST.out.cell h1
 obtain ⟨hl1, hl2, hl3⟩ := HST.out.lt
 have KT : Hid (∀ W, EnvI G W B → Scn W B s k → Calls Tryz.prog 70 #[scP B, .int .i64 1] W _) := Lib.hid (fun W hE hS => texts_walk G B k 1 (by decide) s W hE hS)
 have H3 := Lib.hid h3
 have H3s : Hid (3 < cs.size) := Lib.hid (Array.getElem?_eq_some_iff.1 h3).1
 obtain ⟨i0, hi, hz0, hz1, hz2⟩ := info_parts infoStr21
 have HT := Lib.hid (show (listB s).map (pkL k) = (match textsB 1 s with
  | none => none
  | some (xs, s1) => match isB [32] s1 with
   | none => none
   | some s2 => (textB [37, 42] s2).map (appY xs)).map (pkL k) from rfl)
 generalize (listB s).map (pkL k) = oo at *
 clear h1 h3 hE h
 have hN := HNN.out
 obtain ⟨n0, n1, n2, n3, n4, n5, n6, n7, n8, n9, n10, n11, n12, n13, n14, _⟩ := notAll (N := N) (Ls := rNs.take 15) (by rw [hN]; decide)
 have n15 := strEq hN
 clear hN
 cases ht : textsB 1 s with
 | none =>
  have HO := Lib.hid (show oo = none by rw [HT.out, ht]; rfl)
  rw [ht] at KT
  clear ht
  go_enter Tryz.func31, Tryz.ntmps31
  go_wp2_with fail
  generalize ((w.alloc (Obj.cells #[scP B] 62)).alloc (Obj.cells #[cmP C] 68)) = w2 at *
  obtain ⟨d0, d1⟩ := HSD.out.keep
  refine wp_region_any (by kernel_rfl) ?_
  change wpAny _ _ _ _ _ _ _ (World.drew _)
  refine wpAny_ready (rs := [0, 1]) (by kernel_rfl) (by simp) ?_
  refine AllReady.cons rfl (fun K9 hK9 => ?_) ?_
  ·
   go_simp
   refine hK9 _ _ ?_
   clear hK9 K9
   refine wpAny_ready (rs := [1]) (by kernel_rfl) (by simp) ?_
   refine AllReady.cons rfl (fun K9 hK9 => ?_) ?_
   ·
    go_simp
    refine hK9 _ _ ?_
    clear hK9 K9
    refine wpAny_ready (rs := [2]) (by kernel_rfl) (by simp) ?_
    refine AllReady.cons rfl (fun K9 hK9 => ?_) ?_
    ·
     go_simp
     refine (KT.out _ (HE.out.kept2 HSD.out.gr hC20) HSD.out.sc).mono ?_
     rintro e w' ⟨hG, rfl⟩
     exact ⟨rfl, HSD.out.badS hG (by simp) HO.out⟩
    exact AllReady.nil
   exact AllReady.nil
  refine AllReady.cons rfl (fun K9 hK9 => ?_) ?_
  ·
   go_simp
   refine hK9 _ _ ?_
   clear hK9 K9
   refine wpAny_ready (rs := [0, 2]) (by kernel_rfl) (by simp) ?_
   refine AllReady.cons rfl (fun K9 hK9 => ?_) ?_
   ·
    go_simp
    refine hK9 _ _ ?_
    clear hK9 K9
    refine wpAny_ready (rs := [2]) (by kernel_rfl) (by simp) ?_
    refine AllReady.cons rfl (fun K9 hK9 => ?_) ?_
    ·
     go_simp
     refine (KT.out _ (HE.out.kept2 HSD.out.gr hC20) HSD.out.sc).mono ?_
     rintro e w' ⟨hG, rfl⟩
     exact ⟨rfl, HSD.out.badS hG (by simp) HO.out⟩
    exact AllReady.nil
   refine AllReady.cons rfl (fun K9 hK9 => ?_) ?_
   ·
    go_simp
    refine (KT.out _ (HE.out.kept2 HSD.out.gr hC20) HSD.out.sc).mono ?_
    rintro e w' ⟨hG, rfl⟩
    exact ⟨rfl, HSD.out.badS hG (by simp) HO.out⟩
   exact AllReady.nil
  exact AllReady.nil
 | some p =>
  obtain ⟨xs, s1⟩ := p
  have hxl := (textsB_len ht).2.1
  obtain ⟨x0, rfl⟩ : ∃ x, xs = [x] := List.length_eq_one_iff.1 hxl
  have HT := Lib.hid (show oo = (match isB [32] s1 with
   | none => none
   | some s2 => (textB [37, 42] s2).map (appY [x0])).map (pkL k) by rw [HT.out, ht])
  rw [ht] at KT
  clear ht
  go_enter Tryz.func31, Tryz.ntmps31
  go_wp2_with fail
  generalize ((w.alloc (Obj.cells #[scP B] 62)).alloc (Obj.cells #[cmP C] 68)) = w2 at *
  go_region_held3 (fun W => W.cell? ⟨w.heap.size, 0, none⟩ = some (scP B) ∧ W.cell? ⟨w.heap.size + 1, 0, none⟩ = some (cmP C))
   (first | exact HS0.out | exact HS1.out.keep | exact (HS1.out.setC 3 _).keep)
   (first
    | (go_at_call 70; refine (KT.out _ (HE.out.kept2 HSD.out.gr hC20) HSD.out.sc).mono ?_; rintro e w1 ⟨hG1, u, rfl, hO1, hS1⟩; obtain ⟨A, c, hu, hrow⟩ := rowC_own hO1; subst hu; have HS1 := Lib.hid (HSD.out.step hG1 hS1); obtain ⟨c3, f3⟩ := HS1.out.cell H3.out; have HO1 := Lib.hid hO1; clear hG1 hO1 hS1 hrow))
  have hbase : w.heap.size + 2 ≤ w2.drew.heap.size := (Array.getElem?_eq_some_iff.1 HSD.out.bc).1
  have HS5 := Lib.hid (HS1.out.setC 3 (.slice A 1 c))
  have HO5 : Hid ((w1.setCell ⟨C, 3, none⟩ (.slice A 1 c)).ownsRow (w.heap.size + 2) 9 1 (.slice A 1 c) 1 [.string (str x0)]) := Lib.hid (ownsRow_setCell_below (own_lower HO1.out hbase) (by dsimp only; omega) _)
  generalize w1.setCell ⟨C, 3, none⟩ (.slice A 1 c) = w5 at *
  have e0 := (one_cells HS5.out.bx).1
  have e1 := (one_cells HS5.out.bc).1
  cases hb : isB [32] s1 with
  | none =>
   have HO := Lib.hid (show oo = none by rw [HT.out, hb]; rfl)
   have KB := Lib.hid (fun W hW => blank_no B s1 k hb W hW)
   clear hb
   go_wp2_with fail
   refine (KB.out _ HS5.out.sc).mono ?_
   rintro e w6 ⟨rfl, hG6⟩
   exact ⟨rfl, HS5.out.badS hG6 (by simp) HO.out⟩
  | some s2 =>
   have HT := Lib.hid (show oo = ((textB [37, 42] s2).map (appY [x0])).map (pkL k) by rw [HT.out, hb])
   have KB := Lib.hid (fun W hW => blank_ok B s1 s2 k hb W hW)
   have KX : Hid (∀ W, EnvI G W B → Scn W B s2 k → Calls Tryz.prog 71 #[scP B, .string ⟨#[37, 42]⟩] W _) := Lib.hid (fun W hE hS => text_walk G B k [37, 42] s2 W hE hS)
   clear hb
   go_wp2_with fail
   refine (KB.out _ HS5.out.sc).mono ?_
   rintro e w6 ⟨rfl, hS6, hG6⟩
   have HS6 := Lib.hid (HS5.out.step hG6 hS6)
   have HO6 := Lib.hid (own_kept HO5.out hG6 (by omega))
   clear hS6 hG6 e0 e1
   have HS6D := Lib.hid HS6.out.draw
   have HO6D := Lib.hid (own_kept HO6.out (grown_dr2 w6 (some B)) (by omega))
   obtain ⟨e0, e1⟩ := HS6D.out.keep
   obtain ⟨c3', f3'⟩ := HS6D.out.cell (i := 3) (v := .slice A 1 c) (by rw [Array.getElem?_setIfInBounds_self]; simp [H3s.out])
   cases hx : textB [37, 42] s2 with
   | none =>
    have HO := Lib.hid (show oo = none by rw [HT.out, hx]; rfl)
    rw [hx] at KX
    clear hx
    go_wp2_with fail
    refine wp_region_held_drew (S := fun W => W.cell? ⟨w.heap.size, 0, none⟩ = some (scP B) ∧ W.cell? ⟨w.heap.size + 1, 0, none⟩ = some (cmP C) ∧ W.cell? ⟨C, 3, none⟩ = some (.slice A 1 c)) (by kernel_rfl) ⟨e0, e1, c3'⟩ (fun hHeld => ?_)
    refine wpAnyH_take (i := 0) rfl (by kernel_rfl) (by kernel_rfl) (by kernel_rfl) (fun _ _ _ h => h) (.inl ⟨by rfl, by intro _ h; (try dsimp only at h); go_simp; try with_reducible rfl⟩) hHeld ?_
    try simp only [Act.put, t0, t1, t2, t3, t4, t5]
    refine wpAnyH_take (i := 1) rfl (by kernel_rfl) (by kernel_rfl) (by kernel_rfl) (fun _ _ _ h => h) (.inl ⟨by rfl, by intro _ h; (try dsimp only at h); go_simp; try with_reducible rfl⟩) hHeld ?_
    try simp only [Act.put, t0, t1, t2, t3, t4, t5]
    refine wpAnyH_take (i := 2) rfl (by kernel_rfl) (by kernel_rfl) (by kernel_rfl) (fun _ _ _ h => h) (.inl ⟨by rfl, by intro _ h; (try dsimp only at h); go_simp; try with_reducible rfl⟩) hHeld ?_
    try simp only [Act.put, t0, t1, t2, t3, t4, t5]
    refine wpAnyH_take (i := 3) rfl (by kernel_rfl) (by kernel_rfl) (by kernel_rfl) (fun _ _ _ h => h) (.inl ⟨by rfl, by intro _ h; (try dsimp only at h); go_simp; try with_reducible rfl⟩) hHeld ?_
    try simp only [Act.put, t0, t1, t2, t3, t4, t5]
    refine wpAnyH_take (i := 4) rfl (by kernel_rfl) (by kernel_rfl) (by kernel_rfl) (fun _ _ _ h => h) (.inl ⟨by rfl, by intro _ h; (try dsimp only at h); go_simp; try with_reducible rfl⟩) hHeld ?_
    try simp only [Act.put, t0, t1, t2, t3, t4, t5]
    refine wpAnyH_take (i := 5) rfl (by kernel_rfl) (by kernel_rfl) (by kernel_rfl) (fun _ _ _ h => h) (.inl ⟨by rfl, by intro _ h; (try dsimp only at h); go_simp; try with_reducible rfl⟩) hHeld ?_
    try simp only [Act.put, t0, t1, t2, t3, t4, t5]
    refine wpAnyH_ready (rs := [6]) (by kernel_rfl) (by simp) ?_
    refine AllReadyH.cons rfl (fun K9 hK9 => ?_) ?_
    ·
     go_simp
     refine (KX.out _ (HE.out.kept2 HS6D.out.gr hC20) HS6D.out.sc).mono ?_
     rintro e w' ⟨hG, rfl⟩
     exact ⟨rfl, HS6D.out.badS hG (by simp) HO.out⟩
    exact AllReadyH.nil
   | some q =>
    obtain ⟨y, r⟩ := q
    have HO := Lib.hid (show oo = some ([x0, y], r, k) by rw [HT.out, hx]; rfl)
    rw [hx] at KX
    clear hx
    go_wp2_with fail
    refine wp_region_held_drew (S := fun W => W.cell? ⟨w.heap.size, 0, none⟩ = some (scP B) ∧ W.cell? ⟨w.heap.size + 1, 0, none⟩ = some (cmP C)) (by kernel_rfl) ⟨e0, e1⟩ (fun hHeld => ?_)
    refine wpAnyH_take (i := 0) rfl (by kernel_rfl) (by kernel_rfl) (by kernel_rfl) (fun _ _ _ h => h) (.inl ⟨by rfl, by intro _ h; (try dsimp only at h); go_simp; try with_reducible rfl⟩) hHeld ?_
    try simp only [Act.put, t0, t1, t2, t3, t4, t5]
    refine wpAnyH_take (i := 1) rfl (by kernel_rfl) (by kernel_rfl) (by kernel_rfl) (fun _ _ _ h => h) (.inl ⟨by rfl, by intro _ h; (try dsimp only at h); go_simp; try with_reducible rfl⟩) hHeld ?_
    try simp only [Act.put, t0, t1, t2, t3, t4, t5]
    refine wpAnyH_take (i := 2) rfl (by kernel_rfl) (by kernel_rfl) (by kernel_rfl) (fun _ _ _ h => h) (.inl ⟨by rfl, by intro _ h; (try dsimp only at h); go_simp; try with_reducible rfl⟩) hHeld ?_
    try simp only [Act.put, t0, t1, t2, t3, t4, t5]
    refine wpAnyH_take (i := 3) rfl (by kernel_rfl) (by kernel_rfl) (by kernel_rfl) (fun _ _ _ h => h) (.inl ⟨by rfl, by intro _ h; (try dsimp only at h); go_simp; try with_reducible rfl⟩) hHeld ?_
    try simp only [Act.put, t0, t1, t2, t3, t4, t5]
    refine wpAnyH_take (i := 5) rfl (by kernel_rfl) (by kernel_rfl) (by kernel_rfl) (fun _ _ _ h => h) (.inl ⟨by rfl, by intro _ h; (try dsimp only at h); go_simp; try with_reducible rfl⟩) hHeld ?_
    try simp only [Act.put, t0, t1, t2, t3, t4, t5]
    refine wpAnyH_ready (rs := [4, 6]) (by kernel_rfl) (by simp) ?_
    refine AllReadyH.cons rfl (fun K9 hK9 => ?_) ?_
    ·
     go_simp
     refine hK9.out _ _ ⟨e0, e1⟩ (fun hHeld => ?_)
     clear hK9 K9
     try simp only [Act.put, t0, t1, t2, t3, t4, t5]
     refine wpAnyH_ready (rs := [6]) (by kernel_rfl) (by simp) ?_
     refine AllReadyH.cons rfl (fun K9 hK9 => ?_) ?_
     ·
      go_simp
      refine (KX.out _ (HE.out.kept2 HS6D.out.gr hC20) HS6D.out.sc).mono ?_
      rintro e w7 ⟨hG7, rfl, hS7⟩
      have HS7 := Lib.hid (HS6D.out.step hG7 hS7)
      have HO7 := Lib.hid (own_kept HO6D.out hG7 (by omega))
      obtain ⟨g0, g1⟩ := HS7.out.keep
      obtain ⟨c4, f4⟩ := HS7.out.cell (i := 3) (v := .slice A 1 c) (by rw [Array.getElem?_setIfInBounds_self]; simp [H3s.out])
      have HS7A := (fun o => HS7.out.step (grown_below ((Below.refl w7.heap.size w7).alloc (Nat.le_refl _) o) (some B)) (HS7.out.sc.then ((Below.refl w7.heap.size w7).alloc (Nat.le_refl _) o)))
      have g4 := (fun o => (HS7A o).keep.1)
      have g5 := (fun o => (HS7A o).keep.2)
      have g6 := (fun o => ((HS7A o).cell (i := 3) (v := .slice A 1 c) (by rw [Array.getElem?_setIfInBounds_self]; simp [H3s.out])).1)
      clear hG7 hS7
      refine hK9.out _ _ HS7.out.keep (fun hHeld => ?_)
      clear hK9 K9
      try simp only [Act.put, t0, t1, t2, t3, t4, t5]
      refine wpAnyH_ready (rs := [7]) (by kernel_rfl) (by simp) ?_
      refine AllReadyH.cons rfl (fun K9 hK9 => ?_) ?_
      ·
       go_simp
       refine hK9.out _ _ (HS7A _).keep (fun hHeld => ?_)
       clear hK9 K9
       try simp only [Act.put, t0, t1, t2, t3, t4, t5]
       refine wpAnyH_ready (rs := [8]) (by kernel_rfl) (by simp) ?_
       refine AllReadyH.cons rfl (fun K9 hK9 => ?_) ?_
       ·
        refine step_append_lies _ (by rfl) _ _ _ (by rfl) (w.heap.size + 2) 9 i0 (.string ⟨#[]⟩) 1 16 Tryz.underlying28 hi hz0 hz1 hz2 (by rfl) (by decide) (.slice A 1 c) 1 [.string (str x0)] (by rfl) (HO7.out.alloc _) ⟨w7.heap.size, 0, none⟩ 1 1 [.string (str y)] (by rfl) (by rfl) (World.news_of_block (World.alloc_heap_new w7 _)) (by simp [Value.oneCell']) (by decide) (by unfold maxLen; omega) (by omega) (by have := (Array.getElem?_eq_some_iff.1 HS7.out.bc).1; simp; omega) (w7.heap.size + 1) (by simp) ?_
        intro g cap w9 hown hgr hat hlt
        have HOW := Lib.hid hown
        have HS9 := Lib.hid ((HS7A _).grow hgr (fun j e => (HO7.out.lt j e).1))
        obtain ⟨j0, j1⟩ := HS9.out.keep
        obtain ⟨k3, l3⟩ := HS9.out.cell (i := 3) (v := .slice A 1 c) (by rw [Array.getElem?_setIfInBounds_self]; simp [H3s.out])
        refine hK9.out _ _ HS9.out.keep (fun hHeld => ?_)
        clear hK9 K9
        try simp only [Act.put, t0, t1, t2, t3, t4, t5]
        refine wpAnyH_take (i := 9) rfl (by kernel_rfl) (by kernel_rfl) (by kernel_rfl) (fun _ _ _ h => h) (.inl ⟨by rfl, by intro _ h; (try dsimp only at h); go_simp; try with_reducible rfl⟩) hHeld ?_
        try simp only [Act.put, t0, t1, t2, t3, t4, t5]
        refine wpAnyH_take (i := 10) rfl (by kernel_rfl) (by kernel_rfl) (by kernel_rfl) (fun _ _ _ h => h) (.inl ⟨by rfl, by intro _ h; (try dsimp only at h); go_simp; try with_reducible rfl⟩) hHeld ?_
        try simp only [Act.put, t0, t1, t2, t3, t4, t5]
        refine wpAnyH_ready (rs := [11]) (by kernel_rfl) (by simp) ?_
        refine AllReadyH.cons rfl (fun K9 hK9 => ?_) ?_
        ·
         go_simp
         refine hK9.out _ _ (HS9.out.setC 3 _).keep (fun hHeld => ?_)
         clear hK9 K9
         try simp only [Act.put, t0, t1, t2, t3, t4, t5]
         refine wpAnyH_done (by kernel_rfl) ?_ _
         go_end0
         have hw0 := (Array.getElem?_eq_some_iff.1 HS9.out.bc).1
         refine (HS9.out.setC 3 _).finS HO.out ⟨_, _, set_twice _ _ _ _, ?_⟩
         exact ((rowC_own HOW.out).kept (fun i hi => Below.heap_setCell _ _ _ _ (by have := hi.1; dsimp only; omega))).more (fun i hi => ⟨by have := hi.1; omega, by have := hi.2; simpa using this⟩)
        exact AllReadyH.nil
       exact AllReadyH.nil
      exact AllReadyH.nil
     exact AllReadyH.nil
    refine AllReadyH.cons rfl (fun K9 hK9 => ?_) ?_
    ·
     go_simp
     refine (KX.out _ (HE.out.kept2 HS6D.out.gr hC20) HS6D.out.sc).mono ?_
     rintro e w7 ⟨hG7, rfl, hS7⟩
     have HS7 := Lib.hid (HS6D.out.step hG7 hS7)
     have HO7 := Lib.hid (own_kept HO6D.out hG7 (by omega))
     obtain ⟨g0, g1⟩ := HS7.out.keep
     obtain ⟨c4, f4⟩ := HS7.out.cell (i := 3) (v := .slice A 1 c) (by rw [Array.getElem?_setIfInBounds_self]; simp [H3s.out])
     have HS7A := (fun o => HS7.out.step (grown_below ((Below.refl w7.heap.size w7).alloc (Nat.le_refl _) o) (some B)) (HS7.out.sc.then ((Below.refl w7.heap.size w7).alloc (Nat.le_refl _) o)))
     have g4 := (fun o => (HS7A o).keep.1)
     have g5 := (fun o => (HS7A o).keep.2)
     have g6 := (fun o => ((HS7A o).cell (i := 3) (v := .slice A 1 c) (by rw [Array.getElem?_setIfInBounds_self]; simp [H3s.out])).1)
     clear hG7 hS7
     refine hK9.out _ _ HS7.out.keep (fun hHeld => ?_)
     clear hK9 K9
     try simp only [Act.put, t0, t1, t2, t3, t4, t5]
     refine wpAnyH_ready (rs := [4, 7]) (by kernel_rfl) (by simp) ?_
     refine AllReadyH.cons rfl (fun K9 hK9 => ?_) ?_
     ·
      go_simp
      refine hK9.out _ _ HS7.out.keep (fun hHeld => ?_)
      clear hK9 K9
      try simp only [Act.put, t0, t1, t2, t3, t4, t5]
      refine wpAnyH_ready (rs := [7]) (by kernel_rfl) (by simp) ?_
      refine AllReadyH.cons rfl (fun K9 hK9 => ?_) ?_
      ·
       go_simp
       refine hK9.out _ _ (HS7A _).keep (fun hHeld => ?_)
       clear hK9 K9
       try simp only [Act.put, t0, t1, t2, t3, t4, t5]
       refine wpAnyH_ready (rs := [8]) (by kernel_rfl) (by simp) ?_
       refine AllReadyH.cons rfl (fun K9 hK9 => ?_) ?_
       ·
        refine step_append_lies _ (by rfl) _ _ _ (by rfl) (w.heap.size + 2) 9 i0 (.string ⟨#[]⟩) 1 16 Tryz.underlying28 hi hz0 hz1 hz2 (by rfl) (by decide) (.slice A 1 c) 1 [.string (str x0)] (by rfl) (HO7.out.alloc _) ⟨w7.heap.size, 0, none⟩ 1 1 [.string (str y)] (by rfl) (by rfl) (World.news_of_block (World.alloc_heap_new w7 _)) (by simp [Value.oneCell']) (by decide) (by unfold maxLen; omega) (by omega) (by have := (Array.getElem?_eq_some_iff.1 HS7.out.bc).1; simp; omega) (w7.heap.size + 1) (by simp) ?_
        intro g cap w9 hown hgr hat hlt
        have HOW := Lib.hid hown
        have HS9 := Lib.hid ((HS7A _).grow hgr (fun j e => (HO7.out.lt j e).1))
        obtain ⟨j0, j1⟩ := HS9.out.keep
        obtain ⟨k3, l3⟩ := HS9.out.cell (i := 3) (v := .slice A 1 c) (by rw [Array.getElem?_setIfInBounds_self]; simp [H3s.out])
        refine hK9.out _ _ HS9.out.keep (fun hHeld => ?_)
        clear hK9 K9
        try simp only [Act.put, t0, t1, t2, t3, t4, t5]
        refine wpAnyH_take (i := 9) rfl (by kernel_rfl) (by kernel_rfl) (by kernel_rfl) (fun _ _ _ h => h) (.inl ⟨by rfl, by intro _ h; (try dsimp only at h); go_simp; try with_reducible rfl⟩) hHeld ?_
        try simp only [Act.put, t0, t1, t2, t3, t4, t5]
        refine wpAnyH_take (i := 10) rfl (by kernel_rfl) (by kernel_rfl) (by kernel_rfl) (fun _ _ _ h => h) (.inl ⟨by rfl, by intro _ h; (try dsimp only at h); go_simp; try with_reducible rfl⟩) hHeld ?_
        try simp only [Act.put, t0, t1, t2, t3, t4, t5]
        refine wpAnyH_ready (rs := [11]) (by kernel_rfl) (by simp) ?_
        refine AllReadyH.cons rfl (fun K9 hK9 => ?_) ?_
        ·
         go_simp
         refine hK9.out _ _ (HS9.out.setC 3 _).keep (fun hHeld => ?_)
         clear hK9 K9
         try simp only [Act.put, t0, t1, t2, t3, t4, t5]
         refine wpAnyH_done (by kernel_rfl) ?_ _
         go_end0
         have hw0 := (Array.getElem?_eq_some_iff.1 HS9.out.bc).1
         refine (HS9.out.setC 3 _).finS HO.out ⟨_, _, set_twice _ _ _ _, ?_⟩
         exact ((rowC_own HOW.out).kept (fun i hi => Below.heap_setCell _ _ _ _ (by have := hi.1; dsimp only; omega))).more (fun i hi => ⟨by have := hi.1; omega, by have := hi.2; simpa using this⟩)
        exact AllReadyH.nil
       exact AllReadyH.nil
      exact AllReadyH.nil
     refine AllReadyH.cons rfl (fun K9 hK9 => ?_) ?_
     ·
      go_simp
      refine hK9.out _ _ (HS7A _).keep (fun hHeld => ?_)
      clear hK9 K9
      try simp only [Act.put, t0, t1, t2, t3, t4, t5]
      refine wpAnyH_ready (rs := [4]) (by kernel_rfl) (by simp) ?_
      refine AllReadyH.cons rfl (fun K9 hK9 => ?_) ?_
      ·
       go_simp
       refine hK9.out _ _ (HS7A _).keep (fun hHeld => ?_)
       clear hK9 K9
       try simp only [Act.put, t0, t1, t2, t3, t4, t5]
       refine wpAnyH_ready (rs := [8]) (by kernel_rfl) (by simp) ?_
       refine AllReadyH.cons rfl (fun K9 hK9 => ?_) ?_
       ·
        refine step_append_lies _ (by rfl) _ _ _ (by rfl) (w.heap.size + 2) 9 i0 (.string ⟨#[]⟩) 1 16 Tryz.underlying28 hi hz0 hz1 hz2 (by rfl) (by decide) (.slice A 1 c) 1 [.string (str x0)] (by rfl) (HO7.out.alloc _) ⟨w7.heap.size, 0, none⟩ 1 1 [.string (str y)] (by rfl) (by rfl) (World.news_of_block (World.alloc_heap_new w7 _)) (by simp [Value.oneCell']) (by decide) (by unfold maxLen; omega) (by omega) (by have := (Array.getElem?_eq_some_iff.1 HS7.out.bc).1; simp; omega) (w7.heap.size + 1) (by simp) ?_
        intro g cap w9 hown hgr hat hlt
        have HOW := Lib.hid hown
        have HS9 := Lib.hid ((HS7A _).grow hgr (fun j e => (HO7.out.lt j e).1))
        obtain ⟨j0, j1⟩ := HS9.out.keep
        obtain ⟨k3, l3⟩ := HS9.out.cell (i := 3) (v := .slice A 1 c) (by rw [Array.getElem?_setIfInBounds_self]; simp [H3s.out])
        refine hK9.out _ _ HS9.out.keep (fun hHeld => ?_)
        clear hK9 K9
        try simp only [Act.put, t0, t1, t2, t3, t4, t5]
        refine wpAnyH_take (i := 9) rfl (by kernel_rfl) (by kernel_rfl) (by kernel_rfl) (fun _ _ _ h => h) (.inl ⟨by rfl, by intro _ h; (try dsimp only at h); go_simp; try with_reducible rfl⟩) hHeld ?_
        try simp only [Act.put, t0, t1, t2, t3, t4, t5]
        refine wpAnyH_take (i := 10) rfl (by kernel_rfl) (by kernel_rfl) (by kernel_rfl) (fun _ _ _ h => h) (.inl ⟨by rfl, by intro _ h; (try dsimp only at h); go_simp; try with_reducible rfl⟩) hHeld ?_
        try simp only [Act.put, t0, t1, t2, t3, t4, t5]
        refine wpAnyH_ready (rs := [11]) (by kernel_rfl) (by simp) ?_
        refine AllReadyH.cons rfl (fun K9 hK9 => ?_) ?_
        ·
         go_simp
         refine hK9.out _ _ (HS9.out.setC 3 _).keep (fun hHeld => ?_)
         clear hK9 K9
         try simp only [Act.put, t0, t1, t2, t3, t4, t5]
         refine wpAnyH_done (by kernel_rfl) ?_ _
         go_end0
         have hw0 := (Array.getElem?_eq_some_iff.1 HS9.out.bc).1
         refine (HS9.out.setC 3 _).finS HO.out ⟨_, _, set_twice _ _ _ _, ?_⟩
         exact ((rowC_own HOW.out).kept (fun i hi => Below.heap_setCell _ _ _ _ (by have := hi.1; dsimp only; omega))).more (fun i hi => ⟨by have := hi.1; omega, by have := hi.2; simpa using this⟩)
        exact AllReadyH.nil
       exact AllReadyH.nil
      exact AllReadyH.nil
     exact AllReadyH.nil
    exact AllReadyH.nil
end Go.Proofs.YtgmfhldfdnnafaaGreatDoor
