/- A part of the proofs of the statements on chapter 21: walks of functions that they reach, and plain laws. What is proved is stated in the last text. Conditions: none of its own. -/
import Derived.Test.YtgmfhldfdnnafaaGreatDoorMs17
import Derived.Maps.RangeWalk
import Derived.Maps.OwnSet
set_option maxHeartbeats 8000000
set_option maxRecDepth 100000
set_option linter.unusedSimpArgs false
set_option linter.unusedVariables false
namespace Go.Proofs.YtgmfhldfdnnafaaGreatDoor
open Go.RowKit
open Pl (Bs idxB numOk numN setOk setL)
attribute [local go_sem ↓] Go.wp_at_zero Go.wp_at_succ
def statNs : List Bs := [[77, 69, 83, 83, 65, 71, 69, 83], [82, 69, 67, 69, 78, 84], [85, 73, 68, 78, 69, 88, 84], [85, 73, 68, 86, 65, 76, 73, 68, 73, 84, 89], [85, 78, 83, 69, 69, 78]]
def statR : Rd Bs := fun s k => match wordB [] s with
 | none => none
 | some (x, r) => if statNs.contains (largeL x) = true then some (largeL x, r, k) else none
theorem statR_len : ∀ s k p, statR s k = some p → p.2.1.length ≤ s.length := by
 intro s k p h
 unfold statR at h
 split at h
 ·
  cases h
 ·
  rename_i x r hw
  have e := wordB_len hw
  split at h
  ·
   cases h; dsimp only; omega
  ·
   cases h
structure StSt (w : World) (B C : Nat) (cs0 : Array Value) (L : List Bs) (W : World) : Prop where
 gr : R2 B C w W
 bx : W.heap[w.heap.size]? = some (Obj.cells #[scP B] 62)
 bc : W.heap[w.heap.size + 1]? = some (Obj.cells #[cmP C] 68)
 lt : B < w.heap.size ∧ C < w.heap.size ∧ B ≠ C
 has : 3 < cs0.size
 row : ∃ A c, W.heap[C]? = some (Obj.cells (cs0.setIfInBounds 3 (.slice A L.length c)) 33) ∧ W.ownsRow (w.heap.size + 2) 9 1 (.slice A L.length c) L.length (L.map strV)
theorem StSt.step {w : World} {B C : Nat} {cs0 : Array Value} {L : List Bs} {W W1 : World} (st : StSt w B C cs0 L W) (hG : W.grownBy W1 (some B)) : StSt w B C cs0 L W1 := by
 obtain ⟨h1, h2, h3⟩ := st.lt
 have hk : ∀ i x, W.heap[i]? = some x → i ≠ B → W1.heap[i]? = some x := fun i x hi hne => (hG.block i (Array.getElem?_eq_some_iff.1 hi).1 (fun e => hne (Option.some.inj e))).trans hi
 obtain ⟨A, c, hc, ho⟩ := st.row
 exact ⟨st.gr.trans (.of hG), hk _ _ st.bx (by omega), hk _ _ st.bc (by omega), st.lt, st.has, A, c, hk _ _ hc (by omega), own_kept ho hG (by omega)⟩
theorem StSt.below {w : World} {B C : Nat} {cs0 : Array Value} {L : List Bs} {W W1 : World} (st : StSt w B C cs0 L W) (hB : Below W.heap.size W W1) : StSt w B C cs0 L W1 := st.step (grown_below hB _)
theorem StSt.draw {w : World} {B C : Nat} {cs0 : Array Value} {L : List Bs} {W : World} (st : StSt w B C cs0 L W) : StSt w B C cs0 L W.drew := st.step (grown_dr2 _ _)
theorem StSt.keep {w : World} {B C : Nat} {cs0 : Array Value} {L : List Bs} {W : World} (st : StSt w B C cs0 L W) : rsS w.heap.size B C W := ⟨(one_cells st.bx).1, (one_cells st.bc).1⟩
theorem StSt.size {w : World} {B C : Nat} {cs0 : Array Value} {L : List Bs} {W : World} (st : StSt w B C cs0 L W) : w.heap.size + 2 ≤ W.heap.size := (Array.getElem?_eq_some_iff.1 st.bc).1
theorem StSt.both {w : World} {B C : Nat} {cs0 : Array Value} {L : List Bs} {W : World} (st : StSt w B C cs0 L W) : R2 B C w W ∧ CmOk cs0.size C W := by
 obtain ⟨A, c, hc, _⟩ := st.row
 exact ⟨st.gr, _, hc, by simp⟩
theorem own_blk {w : World} {base n sz : Nat} {e : TypeId} {v : Value} {xs : List Value} (h : w.ownsRow base e sz v n xs) : ∀ j, v.ownBlock = some j → base ≤ j := fun j e => (h.lt j e).1
theorem StSt.grown {w : World} {B C : Nat} {cs0 : Array Value} {L : List Bs} {W W9 : World} {o : Obj} (st : StSt w B C cs0 L W) {row : Option Nat} (hr : ∀ j, row = some j → w.heap.size + 2 ≤ j) (hgr : (W.alloc o).grownBy W9 row) : R2 B C w W9 ∧ W9.heap[w.heap.size]? = some (Obj.cells #[scP B] 62) ∧ W9.heap[w.heap.size + 1]? = some (Obj.cells #[cmP C] 68) ∧ W9.heap[C]? = W.heap[C]? ∧ W9.heap[B]? = W.heap[B]? := by
 obtain ⟨h1, h2, h3⟩ := st.lt
 have hz := st.size
 have hz9 := hgr.size
 simp at hz9
 have hk : ∀ i, i < w.heap.size + 2 → W9.heap[i]? = W.heap[i]? := fun i hi => (hgr.block i (by simp; omega) (fun e => by have := hr i e.symm; omega)).trans (Below.heap_alloc _ _ _ (by omega))
 exact ⟨⟨hgr.os.trans st.gr.os, hgr.tape.trans st.gr.tape, hgr.output.trans st.gr.output, by omega, fun i hi a b => (hk i (by omega)).trans (st.gr.block i hi a b)⟩, (hk _ (by omega)).trans st.bx, (hk _ (by omega)).trans st.bc, hk _ (by omega), hk _ (by omega)⟩
theorem StSt.app {w : World} {B C : Nat} {cs0 : Array Value} {L : List Bs} {W W9 : World} {o : Obj} {A : Option Addr} {c g cap : Nat} {y : Bs} (st : StSt w B C cs0 L W) (hc : W.heap[C]? = some (Obj.cells (cs0.setIfInBounds 3 (.slice A L.length c)) 33)) (ho : W.ownsRow (w.heap.size + 2) 9 1 (.slice A L.length c) L.length (L.map strV))
  (hown : W9.ownsRow (w.heap.size + 2) 9 1 (.slice (some ⟨g, 0, none⟩) (L.length + 1) cap) (L.length + 1) (L.map strV ++ [.string (str y)])) (hgr : (W.alloc o).grownBy W9 (Value.slice A L.length c).ownBlock) :
  StSt w B C cs0 (L ++ [y]) (W9.setCell ⟨C, 3, none⟩ (.slice (some ⟨g, 0, none⟩) (L.length + 1) cap)) := by
 obtain ⟨h1, h2, h3⟩ := st.lt
 obtain ⟨r, b1, b2, b3, _⟩ := st.grown (own_blk ho) hgr
 have hl : (L ++ [y]).length = L.length + 1 := by rw [List.length_append]; rfl
 have hm : (L ++ [y]).map strV = L.map strV ++ [.string (str y)] := by rw [List.map_append]; rfl
 have hset : ∀ i, i ≠ C → (W9.setCell ⟨C, 3, none⟩ (.slice (some ⟨g, 0, none⟩) (L.length + 1) cap)).heap[i]? = W9.heap[i]? := fun i hi => Below.heap_setCell _ _ _ _ hi
 refine ⟨r.trans (.ofC (grown_put W9 C 3 _)), (hset _ (by omega)).trans b1, (hset _ (by omega)).trans b2, st.lt, st.has, some ⟨g, 0, none⟩, cap, ?_, ?_⟩
 ·
  rw [hl]
  refine (setCell_heap_same (b3.trans hc)).trans ?_
  rw [set_twice]
 ·
  rw [hl, hm]
  exact ownsRow_setCell_below hown (by dsimp only; omega) _
theorem statOne (G : Glob) (w0 : World) (B C : Nat) (cs0 : Array Value) (x0 : Bs) :
  OneStep G B 73 #[.pointer (some ⟨w0.heap.size, 0, none⟩), .pointer (some ⟨w0.heap.size + 1, 0, none⟩)] statR (fun acc W => StSt w0 B C cs0 (x0 :: acc) W) (fun W => R2 B C w0 W ∧ CmOk cs0.size C W) := by
 intro acc s k w hacc hJ hE hS
 obtain ⟨i0, hi, hz0, hz1, hz2⟩ := info_parts infoStr21
 have hsm := hS.small
 have KW : Hid (∀ W, Scn W B s k → Calls Tryz.prog 26 #[scP B, .string ⟨#[]⟩] W _) := Lib.hid (fun W hW => word_walk B k [] s W hW)
 have HJ := Lib.hid hJ
 have HS := Lib.hid hS
 obtain ⟨c0, _⟩ := HJ.out.keep
 have hR : statR s k = match wordB [] s with
  | none => none
  | some (x, r) => if statNs.contains (largeL x) = true then some (largeL x, r, k) else none := rfl
 generalize statR s k = o at *
 clear hE hS hJ
 cases hw : wordB [] s with
 | none =>
  rw [hw] at KW hR
  have HO := Lib.hid hR
  clear hR hw
  go_enter Tryz.func73, Tryz.ntmps73
  go_wp2_with fail
  refine (KW.out _ HS.out).mono ?_
  rintro e w1 ⟨hG1, rfl⟩
  exact ⟨rfl, by rw [HO.out]; exact ⟨rfl, (HJ.out.step hG1).both⟩⟩
 | some p =>
  obtain ⟨x, r⟩ := p
  rw [hw] at KW hR
  have hlen := wordB_len hw
  have KL := Lib.hid (fun W => large_walk21 x (by omega) W)
  have hR2 : o = if statNs.contains (largeL x) = true then some (largeL x, r, k) else none := hR
  clear hR hw hlen
  generalize largeL x = N at *
  cases hk : statNs.contains N with
  | false =>
   have HK := Lib.hid hk
   have HO := Lib.hid (show o = none by rw [hR2, hk]; rfl)
   clear hR2 hk
   go_enter Tryz.func73, Tryz.ntmps73
   go_wp2_with fail
   refine (KW.out _ HS.out).mono ?_
   rintro e w1 ⟨hG1, rfl, hS1⟩
   have HJ1 := Lib.hid (HJ.out.step hG1)
   have HS1 := Lib.hid hS1
   clear hG1 hS1 c0
   go_wp2_with fail
   refine (KL.out _).mono ?_
   rintro e w2 ⟨rfl, hB2⟩
   have HJ2 := Lib.hid (HJ1.out.below hB2)
   have HS2 := Lib.hid (HS1.out.then hB2)
   have HJ2D := Lib.hid HJ2.out.draw
   have HS2D := Lib.hid (HS2.out.draws 1)
   clear hB2
   obtain ⟨c0, _⟩ := HJ2D.out.keep
   go_wp2_with fail
   refine wp_region_held_drew (S := fun W => W.cell? ⟨w0.heap.size, 0, none⟩ = some (scP B)) (by kernel_rfl) c0 (fun hHeld => ?_)
   refine wpAnyH_take (i := 0) rfl (by kernel_rfl) (by kernel_rfl) (by kernel_rfl) (fun _ _ _ h => h) (.inl ⟨by rfl, by intro _ h; (try dsimp only at h); go_simp; try with_reducible rfl⟩) hHeld ?_
   try simp only [Act.put, t0, t1, t2, t3, t4, t5]
   refine wpAnyH_take (i := 2) rfl (by kernel_rfl) (by kernel_rfl) (by kernel_rfl) (fun _ _ _ h => h) (.inl ⟨by rfl, by intro _ h; (try dsimp only at h); go_simp; try with_reducible rfl⟩) hHeld ?_
   try simp only [Act.put, t0, t1, t2, t3, t4, t5]
   refine wpAnyH_ready (rs := [1]) (by kernel_rfl) (by simp) ?_
   refine AllReadyH.cons rfl (fun K9 hK9 => ?_) ?_
   ·
    go_simp
    refine hK9.out _ _ (HJ2D.out.below ((Below.refl _ _).alloc (Nat.le_refl _) _)).keep.1 (fun hHeld => ?_)
    clear hK9 K9
    try simp only [Act.put, t0, t1, t2, t3, t4, t5]
    refine wpAnyH_ready (rs := [3]) (by kernel_rfl) (by simp) ?_
    refine AllReadyH.cons rfl (fun K9 hK9 => ?_) ?_
    ·
     go_simp
     refine (contains_lit _ _ statNs N _ (by decide) (fun j hj => by exact lit_cells w2 statNs 9 j hj rfl)).mono ?_
     rintro e w5 ⟨rfl, hw5⟩
     rw [HK.out]
     have HJ5 := Lib.hid (show StSt w0 B C cs0 (x0 :: acc) w5 by rw [hw5]; exact (HJ2.out.below ((Below.refl _ _).alloc (Nat.le_refl _) _)).draw)
     have HS5 := Lib.hid (show Scn w5 B r k by rw [hw5]; exact (HS2.out.then ((Below.refl _ _).alloc (Nat.le_refl _) _)).draws 1)
     clear hw5
     refine hK9.out _ _ HJ5.out.keep.1 (fun hHeld => ?_)
     clear hK9 K9
     try simp only [Act.put, t0, t1, t2, t3, t4, t5]
     refine wpAnyH_ready (rs := [4]) (by kernel_rfl) (by simp) ?_
     refine AllReadyH.cons rfl (fun K9 hK9 => ?_) ?_
     ·
      go_simp
      refine (must_no B _).mono ?_
      rintro e w7 ⟨rfl, rfl⟩
      exact ⟨rfl, by rw [HO.out]; exact ⟨rfl, HJ5.out.both⟩⟩
     exact AllReadyH.nil
    exact AllReadyH.nil
   exact AllReadyH.nil
  | true =>
   have HK := Lib.hid hk
   have HO := Lib.hid (show o = some (N, r, k) by rw [hR2, hk]; rfl)
   clear hR2 hk
   go_enter Tryz.func73, Tryz.ntmps73
   go_wp2_with fail
   refine (KW.out _ HS.out).mono ?_
   rintro e w1 ⟨hG1, rfl, hS1⟩
   have HJ1 := Lib.hid (HJ.out.step hG1)
   have HS1 := Lib.hid hS1
   clear hG1 hS1 c0
   go_wp2_with fail
   refine (KL.out _).mono ?_
   rintro e w2 ⟨rfl, hB2⟩
   have HJ2 := Lib.hid (HJ1.out.below hB2)
   have HS2 := Lib.hid (HS1.out.then hB2)
   have HJ2D := Lib.hid HJ2.out.draw
   have HS2D := Lib.hid (HS2.out.draws 1)
   clear hB2
   obtain ⟨c0, _⟩ := HJ2D.out.keep
   go_wp2_with fail
   go_region_held3 (fun W => W.cell? ⟨w0.heap.size, 0, none⟩ = some (scP B))
    (first | exact c0 | exact HJ5.out.keep.1 | exact (HJ2D.out.below ((Below.refl _ _).alloc (Nat.le_refl _) _)).keep.1)
    (first
     | (go_at_call 30; refine (contains_lit _ _ statNs N _ (by decide) (fun j hj => by exact lit_cells w2 statNs 9 j hj rfl)).mono ?_; rintro e w5 ⟨rfl, hw5⟩; rw [HK.out]; have HJ5 := Lib.hid (show StSt w0 B C cs0 (x0 :: acc) w5 by rw [hw5]; exact (HJ2.out.below ((Below.refl _ _).alloc (Nat.le_refl _) _)).draw); have HS5 := Lib.hid (show Scn w5 B r k by rw [hw5]; exact (HS2.out.then ((Below.refl _ _).alloc (Nat.le_refl _) _)).draws 1); clear hw5)
     | (go_at_call 27; refine (must_walk B _).mono ?_; rintro e w7 ⟨rfl, rfl⟩))
   clear c0
   have HJ5D := Lib.hid HJ5.out.draw
   have HS5D := Lib.hid (HS5.out.draws 1)
   obtain ⟨c0, c1⟩ := HJ5D.out.keep
   obtain ⟨A, c, hcm, hown⟩ := HJ5D.out.row
   have HCm := Lib.hid hcm
   have HOw := Lib.hid hown
   have hh3 := HJ5D.out.has
   have c3 : w5.drew.cell? ⟨C, 3, none⟩ = some (.slice A (acc.length + 1) c) := by simp [World.cell?, hcm, hh3]
   have c3a : ∀ o, (w5.alloc o).cell? ⟨C, 3, none⟩ = some (.slice A (acc.length + 1) c) := fun o => (World.cell?_of_block (a := ⟨C, 3, none⟩) (Below.heap_alloc w5 o _ (Array.getElem?_eq_some_iff.1 hcm).1)).trans c3
   have hsz := HJ5D.out.size
   clear hcm hown
   go_wp2_with fail
   refine wp_region_held_drew (S := fun W => W.cell? ⟨w0.heap.size, 0, none⟩ = some (scP B) ∧ W.cell? ⟨w0.heap.size + 1, 0, none⟩ = some (cmP C)) (by kernel_rfl) ⟨c0, c1⟩ (fun hHeld => ?_)
   refine wpAnyH_take (i := 0) rfl (by kernel_rfl) (by kernel_rfl) (by kernel_rfl) (fun _ _ _ h => h) (.inl ⟨by rfl, by intro _ h; (try dsimp only at h); go_simp; try with_reducible rfl⟩) hHeld ?_
   try simp only [Act.put, t0, t1, t2, t3, t4, t5]
   refine wpAnyH_take (i := 1) rfl (by kernel_rfl) (by kernel_rfl) (by kernel_rfl) (fun _ _ _ h => h) (.inl ⟨by rfl, by intro _ h; (try dsimp only at h); go_simp; try with_reducible rfl⟩) hHeld ?_
   try simp only [Act.put, t0, t1, t2, t3, t4, t5]
   refine wpAnyH_take (i := 2) rfl (by kernel_rfl) (by kernel_rfl) (by kernel_rfl) (fun _ _ _ h => h) (.inl ⟨by rfl, by intro _ h; (try dsimp only at h); go_simp; try with_reducible rfl⟩) hHeld ?_
   try simp only [Act.put, t0, t1, t2, t3, t4, t5]
   refine wpAnyH_take (i := 3) rfl (by kernel_rfl) (by kernel_rfl) (by kernel_rfl) (fun _ _ _ h => h) (.inl ⟨by rfl, by intro _ h; (try dsimp only at h); go_simp; try with_reducible rfl⟩) hHeld ?_
   try simp only [Act.put, t0, t1, t2, t3, t4, t5]
   refine wpAnyH_take (i := 5) rfl (by kernel_rfl) (by kernel_rfl) (by kernel_rfl) (fun _ _ _ h => h) (.inl ⟨by rfl, by intro _ h; (try dsimp only at h); go_simp; try with_reducible rfl⟩) hHeld ?_
   try simp only [Act.put, t0, t1, t2, t3, t4, t5]
   refine wpAnyH_ready (rs := [4, 6]) (by kernel_rfl) (by simp) ?_
   refine AllReadyH.cons rfl (fun K9 hK9 => ?_) ?_
   ·
    go_simp
    refine hK9.out _ _ ⟨c0, c1⟩ (fun hHeld => ?_)
    clear hK9 K9
    try simp only [Act.put, t0, t1, t2, t3, t4, t5]
    refine wpAnyH_ready (rs := [6]) (by kernel_rfl) (by simp) ?_
    refine AllReadyH.cons rfl (fun K9 hK9 => ?_) ?_
    ·
     go_simp
     refine hK9.out _ _ (HJ5D.out.below ((Below.refl _ _).alloc (Nat.le_refl _) _)).keep (fun hHeld => ?_)
     clear hK9 K9
     try simp only [Act.put, t0, t1, t2, t3, t4, t5]
     refine wpAnyH_ready (rs := [7]) (by kernel_rfl) (by simp) ?_
     refine AllReadyH.cons rfl (fun K9 hK9 => ?_) ?_
     ·
      refine step_append_lies _ (by rfl) _ _ _ (by rfl) (w0.heap.size + 2) 9 i0 (.string ⟨#[]⟩) 1 16 Tryz.underlying28 hi hz0 hz1 hz2 (by rfl) (by decide) (.slice A (acc.length + 1) c) (acc.length + 1) ((x0 :: acc).map strV) (by rfl) (HOw.out.alloc _) ⟨w5.heap.size, 0, none⟩ 1 1 [.string (str N)] (by rfl) (by rfl) (World.news_of_block (World.alloc_heap_new w5.drew _)) (by simp [Value.oneCell']) (by decide) (by unfold maxLen; omega) (by omega) (by have hzd : w5.drew.heap.size = w5.heap.size := rfl; simp; omega) (w5.heap.size + 1) (by simp) ?_
      intro g cap w9 hown hgr hat hlt
      have HOW := Lib.hid hown
      have HGR := Lib.hid hgr
      have hst9 := HJ5D.out.grown (own_blk HOw.out) hgr
      have HJ9 : Hid (rsS w0.heap.size B C w9) := Lib.hid ⟨(one_cells hst9.2.1).1, (one_cells hst9.2.2.1).1⟩
      have HJF := Lib.hid (HJ5D.out.app HCm.out HOw.out hown hgr)
      have f3 : w9.frozen? ⟨C, 3, none⟩ = false := (World.frozen?_of_block (a := ⟨C, 3, none⟩) hst9.2.2.2.1).trans (by simp [World.frozen?, HCm.out])
      have c9 : w9.cell? ⟨C, 3, none⟩ = some (.slice A (acc.length + 1) c) := (World.cell?_of_block (a := ⟨C, 3, none⟩) hst9.2.2.2.1).trans c3
      have HSF := Lib.hid (show Scn (w9.setCell ⟨C, 3, none⟩ (.slice (some ⟨g, 0, none⟩) (acc.length + 1 + 1) cap)) B r k from ⟨(Below.heap_setCell _ _ _ _ (by have := HJ5D.out.lt; dsimp only; omega)).trans (hst9.2.2.2.2.trans HS5D.out.heap), HS5D.out.small, HS5D.out.few⟩)
      clear hst9 hown hgr
      refine hK9.out _ _ HJ9.out (fun hHeld => ?_)
      clear hK9 K9
      try simp only [Act.put, t0, t1, t2, t3, t4, t5]
      refine wpAnyH_take (i := 8) rfl (by kernel_rfl) (by kernel_rfl) (by kernel_rfl) (fun _ _ _ h => h) (.inl ⟨by rfl, by intro _ h; (try dsimp only at h); go_simp; try with_reducible rfl⟩) hHeld ?_
      try simp only [Act.put, t0, t1, t2, t3, t4, t5]
      refine wpAnyH_take (i := 9) rfl (by kernel_rfl) (by kernel_rfl) (by kernel_rfl) (fun _ _ _ h => h) (.inl ⟨by rfl, by intro _ h; (try dsimp only at h); go_simp; try with_reducible rfl⟩) hHeld ?_
      try simp only [Act.put, t0, t1, t2, t3, t4, t5]
      refine wpAnyH_ready (rs := [10]) (by kernel_rfl) (by simp) ?_
      refine AllReadyH.cons rfl (fun K9 hK9 => ?_) ?_
      ·
       go_simp
       refine hK9.out _ _ HJF.out.keep (fun hHeld => ?_)
       clear hK9 K9
       try simp only [Act.put, t0, t1, t2, t3, t4, t5]
       refine wpAnyH_done (by kernel_rfl) ?_ _
       go_end0
       rw [HO.out]
       exact ⟨rfl, HSF.out, HJF.out⟩
      exact AllReadyH.nil
     exact AllReadyH.nil
    exact AllReadyH.nil
   refine AllReadyH.cons rfl (fun K9 hK9 => ?_) ?_
   ·
    go_simp
    refine hK9.out _ _ (HJ5D.out.below ((Below.refl _ _).alloc (Nat.le_refl _) _)).keep (fun hHeld => ?_)
    clear hK9 K9
    try simp only [Act.put, t0, t1, t2, t3, t4, t5]
    refine wpAnyH_ready (rs := [4]) (by kernel_rfl) (by simp) ?_
    refine AllReadyH.cons rfl (fun K9 hK9 => ?_) ?_
    ·
     go_simp
     refine hK9.out _ _ (HJ5D.out.below ((Below.refl _ _).alloc (Nat.le_refl _) _)).keep (fun hHeld => ?_)
     clear hK9 K9
     try simp only [Act.put, t0, t1, t2, t3, t4, t5]
     refine wpAnyH_ready (rs := [7]) (by kernel_rfl) (by simp) ?_
     refine AllReadyH.cons rfl (fun K9 hK9 => ?_) ?_
     ·
      refine step_append_lies _ (by rfl) _ _ _ (by rfl) (w0.heap.size + 2) 9 i0 (.string ⟨#[]⟩) 1 16 Tryz.underlying28 hi hz0 hz1 hz2 (by rfl) (by decide) (.slice A (acc.length + 1) c) (acc.length + 1) ((x0 :: acc).map strV) (by rfl) (HOw.out.alloc _) ⟨w5.heap.size, 0, none⟩ 1 1 [.string (str N)] (by rfl) (by rfl) (World.news_of_block (World.alloc_heap_new w5.drew _)) (by simp [Value.oneCell']) (by decide) (by unfold maxLen; omega) (by omega) (by have hzd : w5.drew.heap.size = w5.heap.size := rfl; simp; omega) (w5.heap.size + 1) (by simp) ?_
      intro g cap w9 hown hgr hat hlt
      have HOW := Lib.hid hown
      have HGR := Lib.hid hgr
      have hst9 := HJ5D.out.grown (own_blk HOw.out) hgr
      have HJ9 : Hid (rsS w0.heap.size B C w9) := Lib.hid ⟨(one_cells hst9.2.1).1, (one_cells hst9.2.2.1).1⟩
      have HJF := Lib.hid (HJ5D.out.app HCm.out HOw.out hown hgr)
      have f3 : w9.frozen? ⟨C, 3, none⟩ = false := (World.frozen?_of_block (a := ⟨C, 3, none⟩) hst9.2.2.2.1).trans (by simp [World.frozen?, HCm.out])
      have c9 : w9.cell? ⟨C, 3, none⟩ = some (.slice A (acc.length + 1) c) := (World.cell?_of_block (a := ⟨C, 3, none⟩) hst9.2.2.2.1).trans c3
      have HSF := Lib.hid (show Scn (w9.setCell ⟨C, 3, none⟩ (.slice (some ⟨g, 0, none⟩) (acc.length + 1 + 1) cap)) B r k from ⟨(Below.heap_setCell _ _ _ _ (by have := HJ5D.out.lt; dsimp only; omega)).trans (hst9.2.2.2.2.trans HS5D.out.heap), HS5D.out.small, HS5D.out.few⟩)
      clear hst9 hown hgr
      refine hK9.out _ _ HJ9.out (fun hHeld => ?_)
      clear hK9 K9
      try simp only [Act.put, t0, t1, t2, t3, t4, t5]
      refine wpAnyH_take (i := 8) rfl (by kernel_rfl) (by kernel_rfl) (by kernel_rfl) (fun _ _ _ h => h) (.inl ⟨by rfl, by intro _ h; (try dsimp only at h); go_simp; try with_reducible rfl⟩) hHeld ?_
      try simp only [Act.put, t0, t1, t2, t3, t4, t5]
      refine wpAnyH_take (i := 9) rfl (by kernel_rfl) (by kernel_rfl) (by kernel_rfl) (fun _ _ _ h => h) (.inl ⟨by rfl, by intro _ h; (try dsimp only at h); go_simp; try with_reducible rfl⟩) hHeld ?_
      try simp only [Act.put, t0, t1, t2, t3, t4, t5]
      refine wpAnyH_ready (rs := [10]) (by kernel_rfl) (by simp) ?_
      refine AllReadyH.cons rfl (fun K9 hK9 => ?_) ?_
      ·
       go_simp
       refine hK9.out _ _ HJF.out.keep (fun hHeld => ?_)
       clear hK9 K9
       try simp only [Act.put, t0, t1, t2, t3, t4, t5]
       refine wpAnyH_done (by kernel_rfl) ?_ _
       go_end0
       rw [HO.out]
       exact ⟨rfl, HSF.out, HJF.out⟩
      exact AllReadyH.nil
     exact AllReadyH.nil
    exact AllReadyH.nil
   exact AllReadyH.nil
open Go.RowKit
open Pl (Bs idxB numOk numN setOk setL)
attribute [local go_sem ↓] Go.wp_at_zero Go.wp_at_succ
abbrev appS (xs : List Bs) (p : List Bs × Bs × Nat) : List Bs × Bs × Nat := (xs ++ p.1, p.2)
def statusB (s : Bs) (k : Nat) : Option (List Bs × Bs × Nat) :=
 match textsB 1 s with
 | none => none
 | some (xs, s1) => match isB [32] s1 with
  | none => none
  | some s2 => (listR statR s2 k).map (appS xs)
theorem rest_status (G : Glob) (B C k : Nat) (s N : Bs) (cs : Array Value) (h1 : cs[1]? = some (.string (str N))) (v3 : Value) (h3 : cs[3]? = some v3) (hN : N = [83, 84, 65, 84, 85, 83]) (hne : B ≠ C) (hC20 : 20 ≤ C) (w : World) (hC : w.heap[C]? = some (Obj.cells cs 33)) (hE : EnvI G w B) (h : Scn w B s k) :
  Calls Tryz.prog 31 #[scP B, cmP C] w (RestPostS cs.size w B C (ArgsQ w cs) (statusB s k)) := by
 have HNN := Lib.hid hN
 clear hN
 have HST := Lib.hid (RsSt.start h hC hne)
 have HSD := Lib.hid HST.out.draw
 have HS0 := Lib.hid HSD.out.keep
 have HE := Lib.hid hE
 obtain ⟨c1, _⟩ := HST.out.cell h1
 obtain ⟨hl1, hl2, hl3⟩ := HST.out.lt
 have KT : Hid (∀ W, EnvI G W B → Scn W B s k → Calls Tryz.prog 70 #[scP B, .int .i64 1] W _) := Lib.hid (fun W hE hS => texts_walk G B k 1 (by decide) s W hE hS)
 have hmf : ∀ (fn : Fn) (first cap : Array Value) (w : World), (Instr.makeFunc fn first cap).run Tryz.prog w = .ok (.func fn first cap) w := fun _ _ _ _ => rfl
 have H3 := Lib.hid h3
 have H3s : Hid (3 < cs.size) := Lib.hid (Array.getElem?_eq_some_iff.1 h3).1
 have HT := Lib.hid (show statusB s k = (match textsB 1 s with
  | none => none
  | some (xs, s1) => match isB [32] s1 with
   | none => none
   | some s2 => (listR statR s2 k).map (appS xs)) from rfl)
 generalize statusB s k = oo at *
 clear h1 h3 hE h
 have hN := HNN.out
 obtain ⟨n0, n1, n2, n3, n4, n5, n6, n7, n8, n9, n10, n11, n12, n13, n14, n15, _⟩ := notAll (N := N) (Ls := rNs.take 16) (by rw [hN]; decide)
 have n16 := strEq hN
 clear hN
 cases ht : textsB 1 s with
 | none =>
  have HO := Lib.hid (show oo = none by rw [HT.out, ht])
  rw [ht] at KT
  clear ht
  go_enter Tryz.func31, Tryz.ntmps31
  go_wp2_with fail
  generalize ((w.alloc (Obj.cells #[scP B] 62)).alloc (Obj.cells #[cmP C] 68)) = w2 at *
  obtain ⟨d0, d1⟩ := HSD.out.keep
  refine wp_region_held_drew (S := fun W => W.cell? ⟨w.heap.size, 0, none⟩ = some (scP B) ∧ W.cell? ⟨w.heap.size + 1, 0, none⟩ = some (cmP C)) (by kernel_rfl) ⟨d0, d1⟩ (fun hHeld => ?_)
  refine wpAnyH_take (i := 0) rfl (by kernel_rfl) (by kernel_rfl) (by kernel_rfl) (fun _ _ _ h => h) (.inl ⟨by rfl, by intro _ h; (try dsimp only at h); go_simp; try with_reducible rfl⟩) hHeld ?_
  try simp only [Act.put, t0, t1, t2, t3, t4, t5]
  refine wpAnyH_take (i := 1) rfl (by kernel_rfl) (by kernel_rfl) (by kernel_rfl) (fun _ _ _ h => h) (.inl ⟨by rfl, by intro _ h; (try dsimp only at h); go_simp; try with_reducible rfl⟩) hHeld ?_
  try simp only [Act.put, t0, t1, t2, t3, t4, t5]
  refine wpAnyH_ready (rs := [2]) (by kernel_rfl) (by simp) ?_
  refine AllReadyH.cons rfl (fun K9 hK9 => ?_) ?_
  ·
   go_simp
   refine (KT.out _ (HE.out.kept2 HSD.out.gr hC20) HSD.out.sc).mono ?_
   rintro e w' ⟨hG, rfl⟩
   exact ⟨rfl, HSD.out.badS hG (by simp) HO.out⟩
  exact AllReadyH.nil
 | some p =>
  obtain ⟨xs, s1⟩ := p
  have hxl := (textsB_len ht).2.1
  obtain ⟨x0, rfl⟩ : ∃ x, xs = [x] := List.length_eq_one_iff.1 hxl
  have HT := Lib.hid (show oo = (match isB [32] s1 with
   | none => none
   | some s2 => (listR statR s2 k).map (appS [x0])) by rw [HT.out, ht])
  rw [ht] at KT
  clear ht
  go_enter Tryz.func31, Tryz.ntmps31
  go_wp2_with fail
  generalize ((w.alloc (Obj.cells #[scP B] 62)).alloc (Obj.cells #[cmP C] 68)) = w2 at *
  go_region_held3 (fun W => W.cell? ⟨w.heap.size, 0, none⟩ = some (scP B) ∧ W.cell? ⟨w.heap.size + 1, 0, none⟩ = some (cmP C))
   (first | exact HS0.out | exact HS1.out.keep | exact (HS1.out.setC 3 _).keep)
   (first
    | (go_at_call 70; refine (KT.out _ (HE.out.kept2 HSD.out.gr hC20) HSD.out.sc).mono ?_; rintro e w1 ⟨hG1, u, rfl, hO1, hS1⟩; obtain ⟨A, c, hu, hrow⟩ := rowC_own hO1; subst hu; have HS1 := Lib.hid (HSD.out.step hG1 hS1); obtain ⟨c3, f3⟩ := HS1.out.cell H3.out; have HO1 := Lib.hid hO1; clear hG1 hO1 hS1 hrow))
  have hbase : w.heap.size + 2 ≤ w2.drew.heap.size := (Array.getElem?_eq_some_iff.1 HSD.out.bc).1
  have HS5 := Lib.hid (HS1.out.setC 3 (.slice A 1 c))
  have HO5 : Hid ((w1.setCell ⟨C, 3, none⟩ (.slice A 1 c)).ownsRow (w.heap.size + 2) 9 1 (.slice A 1 c) 1 [.string (str x0)]) := Lib.hid (ownsRow_setCell_below (own_lower HO1.out hbase) (by dsimp only; omega) _)
  generalize w1.setCell ⟨C, 3, none⟩ (.slice A 1 c) = w5 at *
  have e0 := (one_cells HS5.out.bx).1
  have e1 := (one_cells HS5.out.bc).1
  cases hb : isB [32] s1 with
  | none =>
   have HO := Lib.hid (show oo = none by rw [HT.out, hb])
   have KB := Lib.hid (fun W hW => blank_no B s1 k hb W hW)
   clear hb
   go_wp2_with fail
   refine (KB.out _ HS5.out.sc).mono ?_
   rintro e w6 ⟨rfl, hG6⟩
   exact ⟨rfl, HS5.out.badS hG6 (by simp) HO.out⟩
  | some s2 =>
   have HT := Lib.hid (show oo = (listR statR s2 k).map (appS [x0]) by rw [HT.out, hb])
   have KB := Lib.hid (fun W hW => blank_ok B s1 s2 k hb W hW)
   clear hb
   go_wp2_with fail
   refine (KB.out _ HS5.out.sc).mono ?_
   rintro e w6 ⟨rfl, hS6, hG6⟩
   have HS6 := Lib.hid hS6
   have HJ6 : Hid (StSt w B C cs [x0] w6) := Lib.hid (StSt.step (W := w5) ⟨HS5.out.gr, HS5.out.bx, HS5.out.bc, HS5.out.lt, H3s.out, A, c, HS5.out.cmd, HO5.out⟩ hG6)
   clear hS6 hG6 e0 e1
   have KL := Lib.hid (list_walk G B 73 #[.pointer (some ⟨w.heap.size, 0, none⟩), .pointer (some ⟨w.heap.size + 1, 0, none⟩)] statR (fun acc W => StSt w B C cs (x0 :: acc) W) (fun W => R2 B C w W ∧ CmOk cs.size C W) (fun W => enter_fn Tryz.func73 (by kernel_rfl) rfl _ W) (statOne G w B C cs x0) statR_len (fun acc W W1 hJ hG => hJ.step hG) (fun acc W hJ => hJ.both) (fun acc W hJ => HE.out.kept2 hJ.gr hC20) s2 k w6 HJ6.out HS6.out)
   obtain ⟨e0, e1⟩ := HJ6.out.keep
   generalize listR statR s2 k = ol at *
   go_wp2_with fail
   refine KL.out.mono ?_
   rintro e w9 hP
   cases ol with
   | none =>
    obtain ⟨rfl, hG⟩ := hP
    exact ⟨rfl, .badX hG (by rw [HT.out]; rfl)⟩
   | some p =>
    obtain ⟨l, r, k2⟩ := p
    obtain ⟨rfl, hS9, hJ9⟩ := hP
    have HJ9 := Lib.hid hJ9
    have HS9 := Lib.hid hS9
    clear hS9 hJ9
    go_wp2
    go_end0
    obtain ⟨A9, c9, hcm, hown⟩ := HJ9.out.row
    refine ⟨HJ9.out.gr, ?_⟩
    rw [HT.out]
    exact ⟨rfl, HS9.out, _, hcm, A9, c9, rfl, (rowC_own hown).more (fun i hi => ⟨by have := hi.1; omega, hi.2⟩)⟩
open Go.RowKit
open Pl (Bs idxB numOk numN setOk setL)
def allNs : List Bs := [[70, 76, 65, 71, 83], [73, 78, 84, 69, 82, 78, 65, 76, 68, 65, 84, 69], [82, 70, 67, 56, 50, 50, 46, 83, 73, 90, 69], [69, 78, 86, 69, 76, 79, 80, 69], [66, 79, 68, 89]]
def allN (h : Bs) : Option Nat := if h = [70, 65, 83, 84] then some 3 else if h = [65, 76, 76] then some 4 else if h = [70, 85, 76, 76] then some 5 else none
theorem allN_no {h : Bs} (h1 : h ≠ [70, 65, 83, 84]) (h2 : h ≠ [65, 76, 76]) (h3 : h ≠ [70, 85, 76, 76]) : allN h = none := by unfold allN; rw [if_neg h1, if_neg h2, if_neg h3]
def allD : DataW Unit := (((DataW.map []).put (.string [70, 65, 83, 84]) (.lit (.int .i64 3))).put (.string [65, 76, 76]) (.lit (.int .i64 4))).put (.string [70, 85, 76, 76]) (.lit (.int .i64 5))
open Go.Maps in
theorem all_at (h : Bs) : Maps.has allD (.string h) = (allN h).isSome ∧ ∀ c, allD.atKey (.string h) (.lit (.int .i64 0)) = .lit (.int .i64 c) → c = ((allN h).getD 0 : Nat) := by
 have m0 : IsMap (DataW.map [] : DataW Unit) := isMap_empty
 have ne : ∀ a b : Bs, a ≠ b → (Lit.string a) ≠ (Lit.string b) := fun a b hn e => hn (by injection e)
 unfold allD
 by_cases h3 : h = [70, 85, 76, 76]
 ·
  subst h3
  rw [has_put_same ((m0.put _ _).put _ _) (show WideAt.IsKeyLit (Lit.string _) from trivial), atKey_put_same ((m0.put _ _).put _ _) (show WideAt.IsKeyLit (Lit.string _) from trivial)]
  exact ⟨rfl, fun c e => by injection e with e; injection e with _ e; exact e.symm⟩
 rw [has_put_other (ne _ _ h3), atKey_put_other (ne _ _ h3)]
 by_cases h2 : h = [65, 76, 76]
 ·
  subst h2
  rw [has_put_same (m0.put _ _) (show WideAt.IsKeyLit (Lit.string _) from trivial), atKey_put_same (m0.put _ _) (show WideAt.IsKeyLit (Lit.string _) from trivial)]
  exact ⟨rfl, fun c e => by injection e with e; injection e with _ e; exact e.symm⟩
 rw [has_put_other (ne _ _ h2), atKey_put_other (ne _ _ h2)]
 by_cases h1 : h = [70, 65, 83, 84]
 ·
  subst h1
  rw [has_put_same m0 (show WideAt.IsKeyLit (Lit.string _) from trivial), atKey_put_same m0 (show WideAt.IsKeyLit (Lit.string _) from trivial)]
  exact ⟨rfl, fun c e => by injection e with e; injection e with _ e; exact e.symm⟩
 rw [has_put_other (ne _ _ h1), atKey_put_other (ne _ _ h1), allN_no h1 h2 h3]
 exact ⟨rfl, fun c e => by
  have e' : (DataW.lit (.int .i64 0) : DataW Unit) = .lit (.int .i64 c) := e
  injection e' with e'; injection e' with _ e'; exact e'.symm⟩
theorem bytes_of {x : ByteArray} {l : Bs} (h : x.data.toList = l) : x = ⟨l.toArray⟩ := by rw [← h]
theorem all_entry {x : ByteArray} {c : Int} (hh : Maps.has allD (.string x.data.toList) = true) (hat : ∀ zd, allD.atKey (.string x.data.toList) zd = .lit (.int .i64 c)) : (x = ⟨#[70, 65, 83, 84]⟩ ∧ c = 3) ∨ (x = ⟨#[65, 76, 76]⟩ ∧ c = 4) ∨ (x = ⟨#[70, 85, 76, 76]⟩ ∧ c = 5) := by
 have ha := all_at x.data.toList
 rw [ha.1] at hh
 have hc := ha.2 c (hat _)
 by_cases h1 : x.data.toList = [70, 65, 83, 84]
 ·
  rw [h1] at hc; exact .inl ⟨bytes_of h1, hc⟩
 by_cases h2 : x.data.toList = [65, 76, 76]
 ·
  rw [h2] at hc; exact .inr (.inl ⟨bytes_of h2, hc⟩)
 by_cases h3 : x.data.toList = [70, 85, 76, 76]
 ·
  rw [h3] at hc; exact .inr (.inr ⟨bytes_of h3, hc⟩)
 rw [allN_no h1 h2 h3] at hh; cases hh
open Go.Maps in
theorem all_map (w : World) : ∃ (m1 m2 m3 : World) (n : Nat),
  (Instr.mapUpdate 131 (.map (some w.heap.size)) (.string ⟨#[70, 65, 83, 84]⟩) (.int .i64 3)).run Tryz.prog (w.alloc (Obj.map #[] 0)) = .ok () m1 ∧
  (Instr.mapUpdate 131 (.map (some w.heap.size)) (.string ⟨#[65, 76, 76]⟩) (.int .i64 4)).run Tryz.prog m1 = .ok () m2 ∧
  (Instr.mapUpdate 131 (.map (some w.heap.size)) (.string ⟨#[70, 85, 76, 76]⟩) (.int .i64 5)).run Tryz.prog m2 = .ok () m3 ∧
  m3.ownsMap Tryz.prog 9 (plainElem (H := Unit) Tryz.prog 3) w.heap.size n allD ∧ Below w.heap.size w m3 := by
 have law : Keyed Tryz.prog 9 := string_keyed Tryz.underlying9
 have hT : Tryz.prog.underlying 131 = some (.map 9 3) := by kernel_rfl
 have hk : ∀ s : ByteArray, s.size ≤ 2000000 → keyOf Tryz.prog 9 (.string s) = some (.string s.data.toList) := fun s hs => WideMaps.keyOf_string_mk Tryz.underlying9 (by unfold maxLen; omega)
 have h0 := World.ownsMap_made w Tryz.prog 9 (plainElem (H := Unit) Tryz.prog 3)
 obtain ⟨m1, r1, o1, g1⟩ := h0.update law hT (by unfold maxLen; omega) (hk ⟨#[70, 65, 83, 84]⟩ (by decide)) (plainElem_int Tryz.underlying3 (a := 3) (by decide))
 obtain ⟨m2, r2, o2, g2⟩ := o1.update law hT (by unfold maxLen; omega) (hk ⟨#[65, 76, 76]⟩ (by decide)) (plainElem_int Tryz.underlying3 (a := 4) (by decide))
 obtain ⟨m3, r3, o3, g3⟩ := o2.update law hT (by unfold maxLen; omega) (hk ⟨#[70, 85, 76, 76]⟩ (by decide)) (plainElem_int Tryz.underlying3 (a := 5) (by decide))
 refine ⟨m1, m2, m3, _, r1, r2, r3, o3, ?_⟩
 have hB := (Below.refl w.heap.size w).alloc (Nat.le_refl _) (Obj.map #[] 0)
 exact ((hB.grown g1 (by simp) (fun k e => by rw [← Option.some.inj e]; exact Nat.le_refl _)).grown g2 (by have := g1.size; simp at this; omega) (fun k e => by rw [← Option.some.inj e]; exact Nat.le_refl _)).grown g3 (by have := g1.size; have := g2.size; simp at *; omega) (fun k e => by rw [← Option.some.inj e]; exact Nat.le_refl _)
theorem key_str {P : Program} {k : TypeId} (hk : P.underlying k = some .string) {key : Value} {kl : Lit} (h : keyOf P k key = some kl) : ∃ s : ByteArray, key = .string s ∧ kl = .string s.data.toList := by
 cases key <;> simp [keyOf, hk, mapKey] at h
 exact ⟨_, rfl, h.2.symm⟩
theorem next_si {H : Type} {P : Program} (w : World) {ops : Array Oper} {rest : List Oper} {o : Oper} {a : Act} {Q : Exit → Act → World → Prop}
  (hg : o.guard = none) (it : Operand) (hop : o.op = Op.next it false) (k e : TypeId) (qe : IntKind) (K : Go.Maps.Keyed P k) (hk : P.underlying k = some .string) (he : P.underlying e = some (.int qe))
  (b r n : Nat) (D : DataW H) (left : Lit → Bool) (cnt : Nat) (hit : a.eval it = .pointer (some ⟨r, 0, none⟩)) (h : w.ranges P k (plainElem P e) b r n D left cnt)
  (hDone : cnt = 0 → (∀ kl, left kl = false) → wpList P ops Q rest (a.put o.dst (.tuple #[.bool false])) w)
  (hMore : ∀ (x : ByteArray) (c : Int) (w' : World) (cnt' : Nat), left (.string x.data.toList) = true → (∀ zd, D.atKey (.string x.data.toList) zd = .lit (.int qe c)) → w'.ranges P k (plainElem P e) b r n D (fun z => left z && !z.sameKey (.string x.data.toList)) cnt' → cnt' < cnt →
   w.grownBy w' (some r) → w'.heap.size = w.heap.size → (Instr.entry (.pointer (some ⟨r, 0, none⟩))).run P w' = .ok (.tuple #[.string x, .int qe c]) w' → wpList P ops Q rest (a.put o.dst (.tuple #[.bool true, .string x, .int qe c])) w') :
  wpList P ops Q (o :: rest) a w :=
 wpList_next_ranges w hg it hop k K (plainElem P e) Value.string (Value.int qe) (fun key kl hkey => by obtain ⟨x, rfl, _⟩ := key_str hk hkey; exact ⟨x, rfl⟩) (fun v y hv => by obtain ⟨c, rfl, _⟩ := plainElem_int_inv he hv; exact ⟨c, rfl⟩)
  b r n D left cnt hit h hDone (fun x c kl y w' cnt' hkey hlk hv hat hrg hlt hgr hsz hen => by
   obtain ⟨x', ex, rfl⟩ := key_str hk hkey
   cases ex
   obtain ⟨c', ec, rfl, hwc⟩ := plainElem_int_inv he hv
   cases ec
   exact hMore x c w' cnt' hlk hat hrg hlt hgr hsz hen)
def plainCs (L : List Bs) : List Value := L.flatMap fun x => itemC (.slice none 0 0) (.slice none 0 0) (plainItem x)
theorem plainCs_its (w : World) (T : Nat → Prop) : ∀ L : List Bs, ItemsC w T (L.map plainItem) (plainCs L)
 | [] => .nil
 | x :: L => .cons ⟨rowC_nil _ _ _, rowC_nil _ _ _⟩ (plainCs_its w T L)
theorem plainCs_snoc (L : List Bs) (x : Bs) : plainCs (L ++ [x]) = plainCs L ++ itemC (.slice none 0 0) (.slice none 0 0) (plainItem x) := by simp [plainCs]
theorem infoItemN : (Tryz.prog.info? 78).map (fun i => (i.zero, i.size, i.bytes)) = some (some (.agg #[.string ⟨#[]⟩, .slice none 0 0, .string ⟨#[]⟩, .slice none 0 0, .bool false, .bool false, .int .i64 0, .int .i64 0]), 8, 104) := by kernel_rfl
theorem named_walk (g cap : Nat) (L : List Bs) (w : World) (hL : L.length ≤ 1000) (hc : ∀ j x, L[j]? = some x → w.cell? ⟨g, j, none⟩ = some (.string (str x))) (hg : g < w.heap.size) :
  Calls Tryz.prog 105 #[.slice (some ⟨g, 0, none⟩) L.length cap] w fun e w' => Below w.heap.size w w' ∧ ∃ A c, e = .returned (.slice A L.length c) ∧ RowC w' (newT w w') (.slice A L.length c) L.length (plainCs L) := by
 obtain ⟨i0, hi, hz0, hz1, hz2⟩ := info_parts infoItemN
 have HC := Lib.hid hc
 clear hc
 go_enter Tryz.func105, Tryz.ntmps105
 go_wp2
 go_loopw [3, 5, 8] (fun u _ i wr => ∃ j : Nat, j ≤ L.length ∧ i = .int .i64 j ∧ Hid (wr.ownsRow w.heap.size 78 8 u j (plainCs (L.take j))) ∧ Hid (Below w.heap.size w wr)) (fun _ _ i _ => L.length - (intOf i).toNat)
 case atStart => exact ⟨0, Nat.zero_le _, rfl, Lib.hid (World.ownsRow_nil _ _ _ _), Lib.hid (Below.refl _ _)⟩
 case round =>
  obtain ⟨j, hj, rfl, HO, HB⟩ := hrel
  by_cases hjn : j < L.length
  ·
   have hx : L[j]? = some L[j] := List.getElem?_eq_getElem hjn
   have c0 : wr.cell? ⟨g, j, none⟩ = some (.string (str L[j])) := (World.cell?_of_block (a := ⟨g, j, none⟩) (HB.out.block g hg)).trans (HC.out j _ hx)
   have HNx := Lib.hid (show plainCs (L.take (j + 1)) = plainCs (L.take j) ++ itemC (.slice none 0 0) (.slice none 0 0) (plainItem L[j]) by rw [List.take_add_one, hx, ← plainCs_snoc]; rfl)
   clear hx
   have HPI := Lib.hid (show itemC (.slice none 0 0) (.slice none 0 0) (plainItem L[j]) = [.string (str L[j]), .slice none 0 0, .string ⟨#[]⟩, .slice none 0 0, .bool false, .bool false, .int .i64 0, .int .i64 0] from rfl)
   generalize hX : str L[j] = X at *
   have zw := HB.out.size
   clear hX
   go_wp2_with (at_builtin; refine wpList_append_own _ rfl _ _ 30 rfl w.heap.size 78 i0 (.agg #[.string ⟨#[]⟩, .slice none 0 0, .string ⟨#[]⟩, .slice none 0 0, .bool false, .bool false, .int .i64 0, .int .i64 0]) 8 104 Tryz.underlying30 hi hz0 hz1 hz2 rfl (by decide) _ j _ rfl (HO.out.alloc _) ⟨wr.heap.size, 0, none⟩ 1 1 [.string X, .slice none 0 0, .string ⟨#[]⟩, .slice none 0 0, .bool false, .bool false, .int .i64 0, .int .i64 0] rfl rfl ?a0 ?b0 ?c0 ?d0 ?e0 ?_)
   case a0 => exact World.news_of_block (World.alloc_heap_new wr _)
   case b0 => simp [Value.oneCell']
   case c0 => unfold maxLen; omega
   case d0 => omega
   case e0 => simp; omega
   intro u' w9 hown hgr _
   have HO9 := Lib.hid hown
   have hlt := fun k e => (HO.out.lt k e).1
   have HB9 := Lib.hid ((HB.out.alloc zw (Obj.cells #[.string X, .slice none 0 0, .string ⟨#[]⟩, .slice none 0 0, .bool false, .bool false, .int .i64 0, .int .i64 0] 78)).grown hgr (by simp; omega) hlt)
   clear hown hgr hlt
   go_wp2
   go_roundw
   case rel => exact ⟨j + 1, by omega, by go_num, Lib.hid (by rw [HNx.out, HPI.out]; exact HO9.out), HB9⟩
   case measure => simp [intOf]; omega
  ·
   obtain rfl : j = L.length := by omega
   have hO := HO.out
   rw [List.take_length] at hO
   obtain ⟨A, c, hu, _⟩ := rowC_own hO
   subst hu
   have HO := Lib.hid hO
   clear hO
   go_wp2
   go_ret
   exact ⟨HB.out, A, c, rfl, rowC_own HO.out⟩
open Go.RowKit
open Pl (Bs idxB numOk numN setOk setL)
abbrev oneItem (k : Nat) (p : ItemP × Bs) : List ItemP × Bs × Nat := ([p.1], p.2, k)
def itemsB (sec : Bs → Option SpecP) : Rd (List ItemP) := fun s k => match isB [40] s with
 | some _ => listR (itemR sec) s k
 | none => match allN (largeL s) with
  | some n => some ((allNs.take n).map plainItem, [], k)
  | none => (itemB sec s).map (oneItem k)
structure ItmF (w : World) (B k : Nat) (s : Bs) (W : World) : Prop where
 gr : w.grownBy W (some B)
 sc : Scn W B s k
 bx : W.heap[w.heap.size]? = some (Obj.cells #[scP B] 62)
 al : W.heap[w.heap.size + 1]? = some (Obj.cells (allNs.map strV).toArray 9)
 old : B < w.heap.size
theorem ItmF.but {w : World} {B k : Nat} {s : Bs} {W W1 : World} (st : ItmF w B k s W) {r : Nat} (hG : W.grownBy W1 (some r)) (hr : w.heap.size + 2 ≤ r) : ItmF w B k s W1 := by
 have ho := st.old
 have hk : ∀ i x, W.heap[i]? = some x → i < w.heap.size + 2 → W1.heap[i]? = some x := fun i x hi hlt => (hG.block i (Array.getElem?_eq_some_iff.1 hi).1 (fun e => by have := Option.some.inj e; omega)).trans hi
 exact ⟨grown_new st.gr hG (fun j e => .inl (by have := Option.some.inj e; omega)), st.sc.kept hG (fun e => by have := Option.some.inj e; omega), hk _ _ st.bx (by omega), hk _ _ st.al (by omega), ho⟩
theorem ItmF.then {w : World} {B k : Nat} {s : Bs} {W W1 : World} (st : ItmF w B k s W) (hB : Below W.heap.size W W1) : ItmF w B k s W1 := by
 have hl := (Array.getElem?_eq_some_iff.1 st.al).1
 exact st.but (r := w.heap.size + 2 + W.heap.size) (grown_below hB _) (by omega)
theorem ItmF.put {w : World} {B k : Nat} {s : Bs} {W : World} (st : ItmF w B k s W) (r : Bs) (hr : r.length ≤ s.length) : ItmF w B k r (W.setCell ⟨B, 0, none⟩ (.string (str r))) := by
 have ho := st.old
 exact ⟨st.gr.trans (grown_put _ _ _ _), st.sc.put r hr, (Below.heap_setCell _ _ _ _ (by dsimp only; omega)).trans st.bx, (Below.heap_setCell _ _ _ _ (by dsimp only; omega)).trans st.al, ho⟩
theorem ItmF.allc {w : World} {B k : Nat} {s : Bs} {W : World} (st : ItmF w B k s W) (j : Nat) (x : Bs) (h : allNs[j]? = some x) : W.cell? ⟨w.heap.size + 1, j, none⟩ = some (.string (str x)) := by
 have h2 := st.al
 simp [World.cell?, h2, h, strV]
theorem cell_new (w : World) (vs : List Value) (t : TypeId) {j : Nat} {y : Value} (hy : vs[j]? = some y) : (w.alloc (Obj.cells vs.toArray t)).cell? ⟨w.heap.size, j, none⟩ = some y := by
 unfold World.cell?
 rw [World.alloc_heap_new w (Obj.cells vs.toArray t)]
 simp [hy]
theorem same_str {a b : Bs} (h : (Lit.string a).sameKey (Lit.string b) = true) : a = b := by
 have := WideAt.sameKey_eq h
 injection this
theorem items_word (G : Glob) (B k : Nat) (sec : Bs → Option SpecP) (hsec : SecCon G sec) (s : Bs) (hp : isB [40] s = none) (w : World) (hE : EnvI G w B) (h : Scn w B s k) :
  Calls Tryz.prog 77 #[scP B] w (ItemsPost w B (itemsB sec s k)) := by
 have hmm := @run_makeMap Tryz.prog
 have hsm := h.small
 have hlt := h.lt
 have law : Go.Maps.Keyed Tryz.prog 9 := Go.Maps.string_keyed Tryz.underlying9
 have HLaw := Lib.hid law
 have HB1 := Lib.hid ((Below.refl w.heap.size w).alloc (Nat.le_refl _) (Obj.cells #[scP B] 62))
 have HS1 := Lib.hid (h.then HB1.out)
 obtain ⟨c0, c1, f0, f1⟩ := HS1.out.cells
 have K1 : Hid (∀ W, Calls Tryz.prog 99 #[.string (str s), .string ⟨#[40]⟩] W _) := Lib.hid (fun W => hasPre_no hp W)
 have KL := Lib.hid (fun W => large_walk21 s (by omega) W)
 have KI := Lib.hid (fun W hE hS => item_walk G B k sec hsec s W hE hS)
 have hO : itemsB sec s k = match allN (largeL s) with
  | some n => some ((allNs.take n).map plainItem, [], k)
  | none => (itemB sec s).map (oneItem k) := by unfold itemsB; rw [hp]
 generalize itemsB sec s k = o at *
 have HO := Lib.hid hO
 have HE := Lib.hid hE
 have HF0 : Hid (ItmF w B k s ((w.alloc (Obj.cells #[scP B] 62)).alloc (Obj.cells (allNs.map strV).toArray 9))) := Lib.hid ⟨grown_below (HB1.out.alloc (by simp) _) _, HS1.out.then ((Below.refl _ _).alloc (Nat.le_refl _) _), (Below.heap_alloc _ _ _ (by simp)).trans (World.alloc_heap_new _ _), by
   have := World.alloc_heap_new (w.alloc (Obj.cells #[scP B] 62)) (Obj.cells (allNs.map strV).toArray 9)
   rw [World.size_alloc] at this; exact this, hlt⟩
 obtain ⟨w2, hw2⟩ : ∃ w2, (w.alloc (Obj.cells #[scP B] 62)).alloc (Obj.cells #[.string ⟨#[70, 76, 65, 71, 83]⟩, .string ⟨#[73, 78, 84, 69, 82, 78, 65, 76, 68, 65, 84, 69]⟩, .string ⟨#[82, 70, 67, 56, 50, 50, 46, 83, 73, 90, 69]⟩, .string ⟨#[69, 78, 86, 69, 76, 79, 80, 69]⟩, .string ⟨#[66, 79, 68, 89]⟩] 9) = w2 := ⟨_, rfl⟩
 have HF2 : Hid (ItmF w B k s w2) := Lib.hid (by rw [← hw2]; exact HF0.out)
 have hz2 : w2.heap.size = w.heap.size + 2 := by rw [← hw2]; simp
 obtain ⟨m1, m2, m3, n, r1, r2, r3, hown, hB3⟩ := all_map w2
 have HF3 := Lib.hid (HF2.out.then hB3)
 have HOwn := Lib.hid hown
 have hz3 := hB3.size
 have HZ2 := Lib.hid hz2
 clear hO hE h hp hsec law HF0 hown hB3 hz2 HS1 HB1
 generalize hLs : largeL s = L at *
 go_enter Tryz.func77, Tryz.ntmps77
 go_wp2_with fail
 refine (K1.out _).mono ?_
 rintro e w1 ⟨rfl, rfl⟩
 clear c0 c1 f0 f1
 go_wp2_with (at_range; refine wpList_range_own _ rfl _ 131 rfl 9 3 HLaw.out Tryz.underlying131 _ w2.heap.size n _ rfl HOwn.out ?_; intro w0 hrg0 hg0 hs0)
 go_frame
 clear hw2 r1 r2 r3 hmm
 go_loopw [5, 6] (fun _ _ wr => ∃ (left : Lit → Bool) (cnt : Nat), wr.ranges Tryz.prog 9 (plainElem (H := Unit) Tryz.prog 3) w2.heap.size m3.heap.size n allD left cnt ∧ Hid (∀ kl, left kl = true → Maps.has allD kl = true) ∧ Hid (∀ y : Bs, (allN y).isSome = true → left (.string y) = true ∨ L ≠ y) ∧ Hid (ItmF w B k s wr)) (fun _ _ wr => wr.rangeLeft w2.heap.size m3.heap.size)
 case atStart => exact ⟨_, _, hrg0, Lib.hid (fun kl h => h), Lib.hid (fun y hy => .inl (by rw [(all_at y).1]; exact hy)), Lib.hid (HF3.out.but (r := w.heap.size + 2) (World.grownBy.but hg0 _) (Nat.le_refl _))⟩
 case round =>
  obtain ⟨left, cnt, hrg, HL, HN, HF⟩ := hrel
  have hz2 := HZ2.out
  have hm3 : w.heap.size + 2 ≤ m3.heap.size := by omega
  clear hz2
  go_wp2_with (at_next; refine next_si _ rfl _ rfl 9 3 .i64 HLaw.out Tryz.underlying9 Tryz.underlying3 w2.heap.size m3.heap.size n _ _ _ rfl hrg ?_ ?_)
  ·
   intro _ hl0
   have hN : allN L = none := by
    cases hq : allN L with
    | none => rfl
    | some n =>
     rcases HN.out L (by rw [hq]; rfl) with h | h
     ·
      rw [hl0] at h; cases h
     ·
      exact absurd rfl h
   have HO2 : Hid (o = (itemB sec s).map (oneItem k)) := Lib.hid (by rw [HO.out, hN])
   clear hN hl0 hrg HL HN
   obtain ⟨e0, _⟩ := one_cells HF.out.bx
   cases hit : itemB sec s with
   | none =>
    rw [hit] at KI HO2
    go_wp2_with fail
    refine (KI.out _ (HE.out.kept HF.out.gr) HF.out.sc).mono ?_
    rintro e w5 ⟨hG5, rfl⟩
    exact ⟨rfl, HF.out.gr.trans hG5, by rw [HO2.out]; rfl⟩
   | some p =>
    obtain ⟨x, r⟩ := p
    rw [hit] at KI HO2
    go_wp2_with fail
    refine (KI.out _ (HE.out.kept HF.out.gr) HF.out.sc).mono ?_
    rintro e w5 ⟨hG5, vp, vn, T, rfl, hT, hP, hS5⟩
    obtain ⟨Ap, cp, rfl, hq1⟩ := id hP.path
    obtain ⟨An, cn, rfl, hq2⟩ := id hP.names
    clear hq1 hq2 e0
    have HG5 := Lib.hid hG5
    have HT := Lib.hid hT
    have HP := Lib.hid hP
    have HS5 := Lib.hid hS5
    clear hG5 hT hP hS5 hit
    go_wp2
    go_ret
    have hz5 := HG5.out.size
    have hzf := HF.out.gr.size
    refine ⟨(HF.out.gr.trans HG5.out).trans (grown_below ((Below.refl _ _).alloc (Nat.le_refl _) _) _), ?_⟩
    rw [HO2.out]
    refine ⟨some ⟨w5.heap.size, 0, none⟩, 1, itemC (.slice Ap x.spec.path.length cp) (.slice An x.spec.names.length cn) x, rfl, ⟨some ⟨w5.heap.size, 0, none⟩, 1, rfl, fun _ => ⟨w5.heap.size, rfl, ⟨by omega, by simp⟩, fun j y hy => ?_⟩⟩, ?_, HS5.out.then ((Below.refl _ _).alloc (Nat.le_refl _) _)⟩
    ·
     exact cell_new w5 _ 78 hy
    ·
     have hI : ItemsC (w5.alloc (Obj.cells (itemC (.slice Ap x.spec.path.length cp) (.slice An x.spec.names.length cn) x).toArray 78)) (newT w (w5.alloc (Obj.cells (itemC (.slice Ap x.spec.path.length cp) (.slice An x.spec.names.length cn) x).toArray 78))) ([] ++ [x]) ([] ++ itemC (.slice Ap x.spec.path.length cp) (.slice An x.spec.names.length cn) x) := ItemsC.snoc .nil ((HP.out.kept (fun i hi => Below.heap_alloc _ _ _ (HT.out i hi).2)).more (fun i hi => ⟨by have := (HT.out i hi).1; omega, by have := (HT.out i hi).2; simp; omega⟩))
     exact hI
  ·
   intro x c w1 cnt1 hlx hat hrg1 hlt1 hg1 hs1 hen
   have HF1 := Lib.hid (HF.out.but hg1 hm3)
   have hent := all_entry (HL.out _ hlx) hat
   obtain ⟨e0, _⟩ := one_cells HF1.out.bx
   obtain ⟨d0, d1, g0, g1⟩ := HF1.out.sc.cells
   have HRg := Lib.hid hrg1
   have HRg0 := Lib.hid hrg
   have HLt := Lib.hid hlt1
   clear hrg1 hrg hlt1 hg1 hs1 hlx hat
   rcases hent with ⟨rfl, rfl⟩ | ⟨rfl, rfl⟩ | ⟨rfl, rfl⟩
   ·
    by_cases hq : L = [70, 65, 83, 84]
    ·
     have u0 : ((str L).toList == [70, 65, 83, 84]) = true := by rw [hq, Lib.toList_data]; rfl
     have HO2 : Hid (o = some ((allNs.take 3).map plainItem, [], k)) := Lib.hid (by rw [HO.out, hq]; rfl)
     have KN := Lib.hid (fun W hc hg => named_walk (w.heap.size + 1) 5 (allNs.take 3) W (by decide) hc hg)
     clear hq
     go_wp2_with fail
     refine (KL.out _).mono ?_
     rintro e w5 ⟨rfl, hB5⟩
     have HF5 := Lib.hid (HF1.out.then hB5)
     clear e0 d0 d1 g0 g1 hB5 hen
     obtain ⟨e0, _⟩ := one_cells HF5.out.bx
     obtain ⟨d0, d1, g0, g1⟩ := HF5.out.sc.cells
     obtain ⟨w6, hw6⟩ : ∃ w6, w5.setCell ⟨B, 0, none⟩ (.string ⟨#[]⟩) = w6 := ⟨_, rfl⟩
     have HF6 : Hid (ItmF w B k [] w6) := Lib.hid (by rw [← hw6]; exact HF5.out.put [] (Nat.zero_le _))
     obtain ⟨e6, _⟩ := one_cells HF6.out.bx
     go_wp2_with fail
     refine (KN.out _ (fun j x hx => HF6.out.allc j x (by rw [List.getElem?_take] at hx; split at hx; exact hx; cases hx)) (Array.getElem?_eq_some_iff.1 HF6.out.al).1).mono ?_
     rintro e w7 ⟨hB7, A, c7, rfl, hR7⟩
     have HB7 := Lib.hid hB7
     have HR7 := Lib.hid hR7
     clear hB7 hR7 hw6
     go_wp2
     go_ret
     have hz6 := HF6.out.gr.size
     refine ⟨HF6.out.gr.trans (grown_below HB7.out _), ?_⟩
     rw [HO2.out]
     exact ⟨A, c7, plainCs (allNs.take 3), rfl, HR7.out.more (fun i hi => ⟨Nat.le_trans hz6 hi.1, hi.2⟩), plainCs_its _ _ _, HF6.out.sc.then HB7.out⟩
    ·
     have u0 : ((str L).toList == [70, 65, 83, 84]) = false := str_neb hq
     have HQ := Lib.hid hq
     clear hq
     go_wp2_with fail
     refine (KL.out _).mono ?_
     rintro e w5 ⟨rfl, hB5⟩
     have HF5 := Lib.hid (HF1.out.then hB5)
     have HRg5 := Lib.hid (HRg.out.kept (grown_below hB5 none) (by simp) (by simp))
     clear e0 d0 d1 g0 g1 hB5 hen
     go_wp2
     go_roundw
     case rel => exact ⟨_, _, HRg5.out, Lib.hid (fun kl h => HL.out kl (by have := h; simp only [Bool.and_eq_true] at this; exact this.1)), Lib.hid (fun y hy => by
      rcases HN.out y hy with h | h
      ·
       by_cases hy2 : y = [70, 65, 83, 84]
       ·
        exact .inr (by rw [hy2]; exact HQ.out)
       ·
        refine .inl ?_
        have hk : (Lit.string y).sameKey (Lit.string [70, 65, 83, 84]) = false := by
         cases hc : (Lit.string y).sameKey (Lit.string [70, 65, 83, 84]) with
         | false => rfl
         | true => exact absurd (same_str hc) hy2
        show (left (.string y) && !(Lit.string y).sameKey (Lit.string [70, 65, 83, 84])) = true
        rw [h, hk]; rfl
      ·
       exact .inr h), HF5⟩
     case measure => rw [HRg5.out.left_eq, HRg0.out.left_eq]; exact HLt.out
   ·
    by_cases hq : L = [65, 76, 76]
    ·
     have u0 : ((str L).toList == [65, 76, 76]) = true := by rw [hq, Lib.toList_data]; rfl
     have HO2 : Hid (o = some ((allNs.take 4).map plainItem, [], k)) := Lib.hid (by rw [HO.out, hq]; rfl)
     have KN := Lib.hid (fun W hc hg => named_walk (w.heap.size + 1) 5 (allNs.take 4) W (by decide) hc hg)
     clear hq
     go_wp2_with fail
     refine (KL.out _).mono ?_
     rintro e w5 ⟨rfl, hB5⟩
     have HF5 := Lib.hid (HF1.out.then hB5)
     clear e0 d0 d1 g0 g1 hB5 hen
     obtain ⟨e0, _⟩ := one_cells HF5.out.bx
     obtain ⟨d0, d1, g0, g1⟩ := HF5.out.sc.cells
     obtain ⟨w6, hw6⟩ : ∃ w6, w5.setCell ⟨B, 0, none⟩ (.string ⟨#[]⟩) = w6 := ⟨_, rfl⟩
     have HF6 : Hid (ItmF w B k [] w6) := Lib.hid (by rw [← hw6]; exact HF5.out.put [] (Nat.zero_le _))
     obtain ⟨e6, _⟩ := one_cells HF6.out.bx
     go_wp2_with fail
     refine (KN.out _ (fun j x hx => HF6.out.allc j x (by rw [List.getElem?_take] at hx; split at hx; exact hx; cases hx)) (Array.getElem?_eq_some_iff.1 HF6.out.al).1).mono ?_
     rintro e w7 ⟨hB7, A, c7, rfl, hR7⟩
     have HB7 := Lib.hid hB7
     have HR7 := Lib.hid hR7
     clear hB7 hR7 hw6
     go_wp2
     go_ret
     have hz6 := HF6.out.gr.size
     refine ⟨HF6.out.gr.trans (grown_below HB7.out _), ?_⟩
     rw [HO2.out]
     exact ⟨A, c7, plainCs (allNs.take 4), rfl, HR7.out.more (fun i hi => ⟨Nat.le_trans hz6 hi.1, hi.2⟩), plainCs_its _ _ _, HF6.out.sc.then HB7.out⟩
    ·
     have u0 : ((str L).toList == [65, 76, 76]) = false := str_neb hq
     have HQ := Lib.hid hq
     clear hq
     go_wp2_with fail
     refine (KL.out _).mono ?_
     rintro e w5 ⟨rfl, hB5⟩
     have HF5 := Lib.hid (HF1.out.then hB5)
     have HRg5 := Lib.hid (HRg.out.kept (grown_below hB5 none) (by simp) (by simp))
     clear e0 d0 d1 g0 g1 hB5 hen
     go_wp2
     go_roundw
     case rel => exact ⟨_, _, HRg5.out, Lib.hid (fun kl h => HL.out kl (by have := h; simp only [Bool.and_eq_true] at this; exact this.1)), Lib.hid (fun y hy => by
      rcases HN.out y hy with h | h
      ·
       by_cases hy2 : y = [65, 76, 76]
       ·
        exact .inr (by rw [hy2]; exact HQ.out)
       ·
        refine .inl ?_
        have hk : (Lit.string y).sameKey (Lit.string [65, 76, 76]) = false := by
         cases hc : (Lit.string y).sameKey (Lit.string [65, 76, 76]) with
         | false => rfl
         | true => exact absurd (same_str hc) hy2
        show (left (.string y) && !(Lit.string y).sameKey (Lit.string [65, 76, 76])) = true
        rw [h, hk]; rfl
      ·
       exact .inr h), HF5⟩
     case measure => rw [HRg5.out.left_eq, HRg0.out.left_eq]; exact HLt.out
   ·
    by_cases hq : L = [70, 85, 76, 76]
    ·
     have u0 : ((str L).toList == [70, 85, 76, 76]) = true := by rw [hq, Lib.toList_data]; rfl
     have HO2 : Hid (o = some ((allNs.take 5).map plainItem, [], k)) := Lib.hid (by rw [HO.out, hq]; rfl)
     have KN := Lib.hid (fun W hc hg => named_walk (w.heap.size + 1) 5 (allNs.take 5) W (by decide) hc hg)
     clear hq
     go_wp2_with fail
     refine (KL.out _).mono ?_
     rintro e w5 ⟨rfl, hB5⟩
     have HF5 := Lib.hid (HF1.out.then hB5)
     clear e0 d0 d1 g0 g1 hB5 hen
     obtain ⟨e0, _⟩ := one_cells HF5.out.bx
     obtain ⟨d0, d1, g0, g1⟩ := HF5.out.sc.cells
     obtain ⟨w6, hw6⟩ : ∃ w6, w5.setCell ⟨B, 0, none⟩ (.string ⟨#[]⟩) = w6 := ⟨_, rfl⟩
     have HF6 : Hid (ItmF w B k [] w6) := Lib.hid (by rw [← hw6]; exact HF5.out.put [] (Nat.zero_le _))
     obtain ⟨e6, _⟩ := one_cells HF6.out.bx
     go_wp2_with fail
     refine (KN.out _ (fun j x hx => HF6.out.allc j x (by rw [List.getElem?_take] at hx; split at hx; exact hx; cases hx)) (Array.getElem?_eq_some_iff.1 HF6.out.al).1).mono ?_
     rintro e w7 ⟨hB7, A, c7, rfl, hR7⟩
     have HB7 := Lib.hid hB7
     have HR7 := Lib.hid hR7
     clear hB7 hR7 hw6
     go_wp2
     go_ret
     have hz6 := HF6.out.gr.size
     refine ⟨HF6.out.gr.trans (grown_below HB7.out _), ?_⟩
     rw [HO2.out]
     exact ⟨A, c7, plainCs (allNs.take 5), rfl, HR7.out.more (fun i hi => ⟨Nat.le_trans hz6 hi.1, hi.2⟩), plainCs_its _ _ _, HF6.out.sc.then HB7.out⟩
    ·
     have u0 : ((str L).toList == [70, 85, 76, 76]) = false := str_neb hq
     have HQ := Lib.hid hq
     clear hq
     go_wp2_with fail
     refine (KL.out _).mono ?_
     rintro e w5 ⟨rfl, hB5⟩
     have HF5 := Lib.hid (HF1.out.then hB5)
     have HRg5 := Lib.hid (HRg.out.kept (grown_below hB5 none) (by simp) (by simp))
     clear e0 d0 d1 g0 g1 hB5 hen
     go_wp2
     go_roundw
     case rel => exact ⟨_, _, HRg5.out, Lib.hid (fun kl h => HL.out kl (by have := h; simp only [Bool.and_eq_true] at this; exact this.1)), Lib.hid (fun y hy => by
      rcases HN.out y hy with h | h
      ·
       by_cases hy2 : y = [70, 85, 76, 76]
       ·
        exact .inr (by rw [hy2]; exact HQ.out)
       ·
        refine .inl ?_
        have hk : (Lit.string y).sameKey (Lit.string [70, 85, 76, 76]) = false := by
         cases hc : (Lit.string y).sameKey (Lit.string [70, 85, 76, 76]) with
         | false => rfl
         | true => exact absurd (same_str hc) hy2
        show (left (.string y) && !(Lit.string y).sameKey (Lit.string [70, 85, 76, 76])) = true
        rw [h, hk]; rfl
      ·
       exact .inr h), HF5⟩
     case measure => rw [HRg5.out.left_eq, HRg0.out.left_eq]; exact HLt.out
theorem itemR_nxt (sec : Bs → Option SpecP) : ∀ s k p, itemR sec s k = some p → p.2.1.length ≤ s.length := fun s k p hp => by
 unfold itemR at hp
 cases hq : itemB sec s with
 | none => rw [hq] at hp; cases hp
 | some q => rw [hq] at hp; simp only [Option.map_some, Option.some.injEq] at hp; subst hp; exact itemB_len sec hq
theorem items_full (G : Glob) (B k : Nat) (sec : Bs → Option SpecP) (hsec : SecCon G sec) (s : Bs) (w : World) (hE : EnvI G w B) (h : Scn w B s k) :
  Calls Tryz.prog 77 #[scP B] w (ItemsPost w B (itemsB sec s k)) := by
 cases hp : isB [40] s with
 | none => exact items_word G B k sec hsec s hp w hE h
 | some r0 =>
  have e : itemsB sec s k = listR (itemR sec) s k := by unfold itemsB; rw [hp]
  rw [e]
  exact items_list G B k sec hsec s r0 hp w hE h
end Go.Proofs.YtgmfhldfdnnafaaGreatDoor
