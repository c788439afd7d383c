/- A part of the proofs of the statements on chapter 21: walks of functions that they reach, and plain laws. What is proved is stated in the last text. Conditions: none of its own. -/
import Derived.Test.YtgmfhldfdnnafaaGreatDoorMs19
set_option maxHeartbeats 8000000
set_option maxRecDepth 100000
set_option linter.unusedSimpArgs false
set_option linter.unusedVariables false
namespace Go.Proofs.YtgmfhldfdnnafaaGreatDoor
open Go.RowKit
open Pl (Bs idxB numOk numN setOk setL)
attribute [local go_sem ↓] Go.wp_at_zero Go.wp_at_succ
def fetchB (sec : Bs → Option SpecP) (s : Bs) (k : Nat) : Option ((List (Int × Int) × List ItemP) × Bs × Nat) :=
 match isB [32] s with
 | none => none
 | some s1 => match setB s1 with
  | none => none
  | some (l, s2) => match isB [32] s2 with
   | none => none
   | some s3 => match itemsB sec s3 k with
    | none => none
    | some (its, r, kk) => some ((l, its), r, kk)
theorem rest_fetchF (G : Glob) (B C k : Nat) (s N : Bs) (cs : Array Value) (h1 : cs[1]? = some (.string (str N))) (sec : Bs → Option SpecP) (hsec : SecCon G sec) (v4 v10 : Value) (h4 : cs[4]? = some v4) (h10 : cs[10]? = some v10) (hN : N = [70, 69, 84, 67, 72]) (hne : B ≠ C) (hC20 : 20 ≤ C) (w : World) (hC : w.heap[C]? = some (Obj.cells cs 33)) (hE : EnvI G w B) (h : Scn w B s k) :
  Calls Tryz.prog 31 #[scP B, cmP C] w (RestPostS cs.size w B C (FetchQ w cs) (fetchB sec s k)) := by
 have HNN := Lib.hid hN
 clear hN
 have HST := Lib.hid (RsSt.start h hC hne)
 have HSD := Lib.hid HST.out.draw
 have HS0 := Lib.hid HSD.out.keep
 have HE := Lib.hid hE
 obtain ⟨c1, _⟩ := HST.out.cell h1
 obtain ⟨hl1, hl2, hl3⟩ := HST.out.lt
 have H4 := Lib.hid h4
 have HI10 := Lib.hid (fun v => show (cs.setIfInBounds 4 v)[10]? = some v10 by simpa using h10)
 have HT := Lib.hid (show fetchB sec s k = (match isB [32] s with
  | none => none
  | some s1 => match setB s1 with
   | none => none
   | some (l, s2) => match isB [32] s2 with
    | none => none
    | some s3 => match itemsB sec s3 k with
     | none => none
     | some (its, r, kk) => some ((l, its), r, kk)) from rfl)
 have KIt := Lib.hid (fun s3 W hE hS => items_full G B k sec hsec s3 W hE hS)
 generalize fetchB sec s k = oo at *
 clear h1 h4 h10 hE h hsec
 have hN := HNN.out
 obtain ⟨n0, n1, n2, n3, n4, n5, n6, n7, n8, n9, n10, n11, n12, n13, n14, n15, n16, n17, n18, n19, _⟩ := notAll (N := N) (Ls := rNs.take 20) (by rw [hN]; decide)
 have n20 := strEq hN
 clear hN
 cases hb1 : isB [32] s with
 | none =>
  have HO := Lib.hid (show oo = none by rw [HT.out, hb1])
  have K1 := Lib.hid (fun W hW => blank_no B s k hb1 W hW)
  clear hb1 HT
  go_enter Tryz.func31, Tryz.ntmps31
  go_wp2_with fail
  generalize ((w.alloc (Obj.cells #[scP B] 62)).alloc (Obj.cells #[cmP C] 68)) = w2 at *
  clear c1
  refine (K1.out _ HST.out.sc).mono ?_
  rintro e w3 ⟨rfl, hG3⟩
  exact ⟨rfl, HST.out.badS hG3 (by simp) HO.out⟩
 | some s1 =>
  have K1 := Lib.hid (fun W hW => blank_ok B s s1 k hb1 W hW)
  have K2 : Hid (∀ W, EnvI G W B → Scn W B s1 k → Calls Tryz.prog 75 #[scP B] W _) := Lib.hid (fun W hE hS => rset_walk G B k s1 W hE hS)
  cases hset : setB s1 with
  | none =>
   have HO := Lib.hid (show oo = none by rw [HT.out, hb1]; dsimp only; rw [hset])
   rw [hset] at K2
   clear hb1 hset HT
   go_enter Tryz.func31, Tryz.ntmps31
   go_wp2_with fail
   generalize ((w.alloc (Obj.cells #[scP B] 62)).alloc (Obj.cells #[cmP C] 68)) = w2 at *
   clear c1
   refine (K1.out _ HST.out.sc).mono ?_
   rintro e w3 ⟨rfl, hS3, hG3⟩
   have HS3 := Lib.hid (HST.out.step hG3 hS3)
   have HS3D := Lib.hid HS3.out.draw
   have HS0 := Lib.hid HS3D.out.keep
   clear hS3 hG3
   go_wp2_with fail
   obtain ⟨d0, d1⟩ := HS3D.out.keep
   refine wp_region_held_drew (S := fun W => W.cell? ⟨w.heap.size, 0, none⟩ = some (scP B) ∧ W.cell? ⟨w.heap.size + 1, 0, none⟩ = some (cmP C)) (by kernel_rfl) ⟨d0, d1⟩ (fun hHeld => ?_)
   refine wpAnyH_take (i := 0) rfl (by kernel_rfl) (by kernel_rfl) (by kernel_rfl) (fun _ _ _ h => h) (.inl ⟨by rfl, by intro _ h; (try dsimp only at h); go_simp; try with_reducible rfl⟩) hHeld ?_
   try simp only [Act.put, t0, t1, t2, t3, t4, t5]
   refine wpAnyH_take (i := 1) rfl (by kernel_rfl) (by kernel_rfl) (by kernel_rfl) (fun _ _ _ h => h) (.inl ⟨by rfl, by intro _ h; (try dsimp only at h); go_simp; try with_reducible rfl⟩) hHeld ?_
   try simp only [Act.put, t0, t1, t2, t3, t4, t5]
   refine wpAnyH_ready (rs := [2]) (by kernel_rfl) (by simp) ?_
   refine AllReadyH.cons rfl (fun K9 hK9 => ?_) ?_
   ·
    go_simp
    refine (K2.out _ (HE.out.kept2 HS3D.out.gr hC20) HS3D.out.sc).mono ?_
    rintro e w' ⟨hG, rfl⟩
    exact ⟨rfl, HS3D.out.badS hG (by simp) HO.out⟩
   exact AllReadyH.nil
  | some p =>
   obtain ⟨l, s2⟩ := p
   have HT := Lib.hid (show oo = (match isB [32] s2 with
    | none => none
    | some s3 => match itemsB sec s3 k with
     | none => none
     | some (its, r, kk) => some ((l, its), r, kk)) by rw [HT.out, hb1]; dsimp only; rw [hset])
   rw [hset] at K2
   clear hb1 hset
   go_enter Tryz.func31, Tryz.ntmps31
   go_wp2_with fail
   generalize ((w.alloc (Obj.cells #[scP B] 62)).alloc (Obj.cells #[cmP C] 68)) = w2 at *
   clear c1
   refine (K1.out _ HST.out.sc).mono ?_
   rintro e w3 ⟨rfl, hS3, hG3⟩
   have HS3 := Lib.hid (HST.out.step hG3 hS3)
   have HS3D := Lib.hid HS3.out.draw
   have HS0 := Lib.hid HS3D.out.keep
   clear hS3 hG3
   go_wp2_with fail
   go_region_held3 (fun W => W.cell? ⟨w.heap.size, 0, none⟩ = some (scP B) ∧ W.cell? ⟨w.heap.size + 1, 0, none⟩ = some (cmP C))
    (first | exact HS0.out | exact HS4.out.keep | exact (HS4.out.setC 4 _).keep)
    (first
     | (go_at_call 75; refine (K2.out _ (HE.out.kept2 HS3D.out.gr hC20) HS3D.out.sc).mono ?_; rintro e w4 ⟨hG4, u, rfl, hO4, hS4⟩; obtain ⟨A, c, hu, hrow⟩ := rowC_own hO4; subst hu; have HS4 := Lib.hid (HS3D.out.step hG4 hS4); obtain ⟨c4, f4⟩ := HS4.out.cell H4.out; have HR4 := Lib.hid (rowC_own hO4); clear hG4 hO4 hS4 hrow))
   have hz3 := HS3D.out.gr.size
   have HS5 := Lib.hid (HS4.out.setC 4 (.slice A l.length c))
   have HR5 : Hid (RowC (w4.setCell ⟨C, 4, none⟩ (.slice A l.length c)) (fun i => w.heap.size + 2 ≤ i ∧ i < (w4.setCell ⟨C, 4, none⟩ (.slice A l.length c)).heap.size) (.slice A l.length c) l.length (flat l)) := Lib.hid ((HR4.out.kept (fun i hi => Below.heap_setCell _ _ _ _ (by have := hi.1; dsimp only; omega))).more (fun i hi => ⟨by have := (Array.getElem?_eq_some_iff.1 HS3D.out.bc).1; have := hi.1; omega, by have := hi.2; simpa using this⟩))
   generalize w4.setCell ⟨C, 4, none⟩ (.slice A l.length c) = w5 at *
   have e0 := (one_cells HS5.out.bx).1
   have e1 := (one_cells HS5.out.bc).1
   cases hb2 : isB [32] s2 with
   | none =>
    have HO := Lib.hid (show oo = none by rw [HT.out, hb2])
    have K3 := Lib.hid (fun W hW => blank_no B s2 k hb2 W hW)
    clear hb2
    go_wp2_with fail
    refine (K3.out _ HS5.out.sc).mono ?_
    rintro e w6 ⟨rfl, hG6⟩
    exact ⟨rfl, HS5.out.badS hG6 (by simp) HO.out⟩
   | some s3 =>
    have K3 := Lib.hid (fun W hW => blank_ok B s2 s3 k hb2 W hW)
    have K4 := Lib.hid (KIt.out s3)
    have HT := Lib.hid (show oo = (match itemsB sec s3 k with
     | none => none
     | some (its, r, kk) => some ((l, its), r, kk)) by rw [HT.out, hb2])
    clear hb2
    go_wp2_with fail
    refine (K3.out _ HS5.out.sc).mono ?_
    rintro e w6 ⟨rfl, hS6, hG6⟩
    have HS6 := Lib.hid (HS5.out.step hG6 hS6)
    have HS6D := Lib.hid HS6.out.draw
    have HR6 : Hid (RowC w6.drew (fun i => w.heap.size + 2 ≤ i ∧ i < w5.heap.size) (.slice A l.length c) l.length (flat l)) := Lib.hid (HR5.out.kept (w1 := w6.drew) (fun i hi => hG6.block i hi.2 (fun e => by have := Option.some.inj e; have := hi.1; omega)))
    have hz6 := hG6.size
    have HS60 := Lib.hid HS6D.out.keep
    clear hS6 hG6 e0 e1
    obtain ⟨e0, e1⟩ := HS6D.out.keep
    cases hit : itemsB sec s3 k with
    | none =>
     have HO := Lib.hid (show oo = none by rw [HT.out, hit])
     rw [hit] at K4
     clear hit
     go_wp2_with fail
     refine wp_region_held_drew (S := fun W => W.cell? ⟨w.heap.size, 0, none⟩ = some (scP B) ∧ W.cell? ⟨w.heap.size + 1, 0, none⟩ = some (cmP C)) (by kernel_rfl) ⟨e0, e1⟩ (fun hHeld => ?_)
     refine wpAnyH_take (i := 0) rfl (by kernel_rfl) (by kernel_rfl) (by kernel_rfl) (fun _ _ _ h => h) (.inl ⟨by rfl, by intro _ h; (try dsimp only at h); go_simp; try with_reducible rfl⟩) hHeld ?_
     try simp only [Act.put, t0, t1, t2, t3, t4, t5]
     refine wpAnyH_take (i := 1) rfl (by kernel_rfl) (by kernel_rfl) (by kernel_rfl) (fun _ _ _ h => h) (.inl ⟨by rfl, by intro _ h; (try dsimp only at h); go_simp; try with_reducible rfl⟩) hHeld ?_
     try simp only [Act.put, t0, t1, t2, t3, t4, t5]
     refine wpAnyH_ready (rs := [2]) (by kernel_rfl) (by simp) ?_
     refine AllReadyH.cons rfl (fun K9 hK9 => ?_) ?_
     ·
      go_simp
      refine (K4.out _ (HE.out.kept2 HS6D.out.gr hC20) HS6D.out.sc).mono ?_
      rintro e w' ⟨hG, rfl⟩
      exact ⟨rfl, HS6D.out.badS hG (by simp) HO.out⟩
     exact AllReadyH.nil
    | some q =>
     obtain ⟨its, r, kk⟩ := q
     have HO := Lib.hid (show oo = some ((l, its), r, kk) by rw [HT.out, hit])
     rw [hit] at K4
     clear hit
     go_wp2_with fail
     go_region_held3 (fun W => W.cell? ⟨w.heap.size, 0, none⟩ = some (scP B) ∧ W.cell? ⟨w.heap.size + 1, 0, none⟩ = some (cmP C))
      (first | exact HS60.out | exact HS7.out.keep | exact (HS7.out.setC 10 _).keep)
      (first
       | (go_at_call 77; refine (K4.out _ (HE.out.kept2 HS6D.out.gr hC20) HS6D.out.sc).mono ?_; rintro e w7 ⟨hG7, A2, c2, ics, rfl, hR7, hI7, hS7⟩; have HS7 := Lib.hid (HS6D.out.step hG7 hS7); obtain ⟨c10, f10⟩ := HS7.out.cell (HI10.out _); have HR7 := Lib.hid hR7; have HI7 := Lib.hid hI7; have HG7 := Lib.hid hG7; clear hG7 hR7 hI7 hS7))
     go_wp2
     go_end0
     have hz7 := HG7.out.size
     have hd : w6.drew.heap.size = w6.heap.size := rfl
     have hz66 := HS6D.out.gr.size
     have hset : ∀ i, i ≠ C → (w7.setCell ⟨C, 10, none⟩ (.slice A2 its.length c2)).heap[i]? = w7.heap[i]? := fun i hi => Below.heap_setCell _ _ _ _ hi
     refine (HS7.out.setC 10 (.slice A2 its.length c2)).finS HO.out ⟨A, c, A2, c2, ics, rfl, ?_, ?_, ?_⟩
     ·
      refine ((HR6.out.kept (w1 := w7) (fun i hi => HG7.out.block i (by have := hi.2; omega) (fun e => by have := Option.some.inj e; have := hi.1; omega))).kept (fun i hi => hset i (by have := hi.1; omega))).more (fun i hi => ⟨by have := hi.1; omega, by have := hi.2; simp; omega⟩)
     ·
      exact (HR7.out.kept (fun i hi => hset i (by have := hi.1; omega))).more (fun i hi => ⟨by have := hi.1; omega, by have := hi.2; simpa using this⟩)
     ·
      exact (HI7.out.kept (fun i hi => hset i (by have := hi.1; omega))).more (fun i hi => ⟨by have := hi.1; omega, by have := hi.2; simpa using this⟩)
open Go.RowKit
open Pl (Bs idxB numOk numN setOk setL)
attribute [local go_sem ↓] Go.wp_at_zero Go.wp_at_succ
theorem key_flag (G : Glob) (B k : Nat) (s W0 r N : Bs) (hk : k + 1 ≤ 50) (hp : isB [40] s = none) (hw : wordB [37, 42] s = some (W0, r)) (hnm : largeL W0 = N) (hN : N = [65, 76, 76] ∨ N = [65, 78, 83, 87, 69, 82, 69, 68] ∨ N = [68, 69, 76, 69, 84, 69, 68] ∨ N = [68, 82, 65, 70, 84] ∨ N = [70, 76, 65, 71, 71, 69, 68] ∨ N = [83, 69, 69, 78] ∨ N = [85, 78, 65, 78, 83, 87, 69, 82, 69, 68] ∨ N = [85, 78, 68, 69, 76, 69, 84, 69, 68] ∨ N = [85, 78, 68, 82, 65, 70, 84] ∨ N = [85, 78, 70, 76, 65, 71, 71, 69, 68] ∨ N = [85, 78, 83, 69, 69, 78]) (w : World) (hE : EnvI G w B) (h : Scn w B s k) :
  Calls Tryz.prog 106 #[scP B] w (KeyPost w B (some (KeyP.mk N [] [] 0 [] [], r, k + 1))) := by
 generalize hoo : (some (KeyP.mk N [] [] 0 [] [], r, k + 1)) = oo
 have HOO := Lib.hid hoo.symm
 have HNN := Lib.hid hN
 clear hoo hN
 have HPre := Lib.hid (KyPre.start h (by omega))
 have hk1 : ((k : Int) + 1 ≤ 50) := by omega
 have hb : ¬ (B = w.heap.size) := by have := h.lt; omega
 have hb2 : ¬ (B = w.heap.size + 1) := by have := h.lt; omega
 obtain ⟨c0, c1, f0, f1⟩ := h.cells
 have KP : Hid (∀ W, Calls Tryz.prog 99 #[.string (str s), .string ⟨#[40]⟩] W _) := Lib.hid (fun W => hasPre_no hp W)
 have KW : Hid (∀ W, Scn W B s (k + 1) → Calls Tryz.prog 26 #[scP B, .string ⟨#[37, 42]⟩] W _) := Lib.hid (fun W hW => word_ok B [37, 42] s W0 r (k + 1) hw W hW)
 have hlen := wordB_len hw
 have hsm := h.small
 have hlt := h.lt
 have KL : Hid (∀ W, Calls Tryz.prog 29 #[.string (str W0)] W fun e w' => e = .returned (.string (str N)) ∧ Below W.heap.size W w') := Lib.hid (fun W => by have K := large_walk21 W0 (by omega) W; rw [hnm] at K; exact K)
 have HE := Lib.hid hE
 clear hw hp h hE hnm
 go_enter Tryz.func106, Tryz.ntmps106
 go_wp2_with fail
 generalize ((w.setCell ⟨B, 1, none⟩ (.int .i64 ((k : Int) + 1))).alloc (Obj.cells #[scP B] 62)).alloc (Obj.cells #[.string ⟨#[]⟩, .string ⟨#[]⟩, .string ⟨#[]⟩, .int .i64 0, .slice none 0 0, .slice none 0 0] 51) = w2 at HPre ⊢
 clear c0 c1 f0 f1
 have HPd := Lib.hid HPre.out.draw
 have d0 := (one_cells HPre.out.box).1
 obtain ⟨_, d1, _, _⟩ := HPre.out.sc.cells
 have hcast : ((k + 1 : Nat) : Int) = (k : Int) + 1 := by omega
 rw [hcast] at d1
 clear hcast
 have D0 := Lib.hid (show w2.drew.cell? ⟨w.heap.size, 0, none⟩ = some (scP B) ∧ w2.drew.cell? ⟨B, 1, none⟩ = some (.int .i64 ((k : Int) + 1)) from ⟨d0, d1⟩)
 go_region_held3 (fun W => W.cell? ⟨w.heap.size, 0, none⟩ = some (scP B) ∧ W.cell? ⟨B, 1, none⟩ = some (.int .i64 ((k : Int) + 1)))
  (first | exact D0.out)
  (first
   | (go_at_call 27; refine (must_walk B _).mono ?_; rintro e w' ⟨rfl, rfl⟩))
 generalize w2.drew = w3 at *
 clear d0 d1 D0
 have d0 := (one_cells HPd.out.box).1
 obtain ⟨d1, _, _, _⟩ := HPd.out.sc.cells
 go_wp2_with fail
 refine (KP.out _).mono ?_
 rintro e w4 ⟨rfl, rfl⟩
 go_wp2_with fail
 refine (KW.out _ HPd.out.sc).mono ?_
 rintro e w5 ⟨rfl, hS5, hG5⟩
 have HP5 := Lib.hid (HPd.out.step hG5 hS5)
 clear hS5 hG5 d0 d1
 go_wp2_with fail
 refine (KL.out _).mono ?_
 rintro e w6 ⟨rfl, hB6⟩
 have HP6 := Lib.hid (HP5.out.below hB6)
 have HK7 := Lib.hid (HP6.out.name (str N))
 clear hB6
 rcases HNN.out with hN | hN | hN | hN | hN | hN | hN | hN | hN | hN | hN
 ·
  have n0 := strEq hN
  clear hN
  have HO := HOO
  obtain ⟨⟨a0, a1, a2, a3, a4, a5⟩, e0, e1, e2, e3, e4, e5⟩ := six_cells HK7.out.xb
  obtain ⟨⟨b0, b1, b2, b3, b4, b5⟩, g0, g1, g2, g3, g4, g5⟩ := six_cells HK7.out.pre.res
  go_wp2
  refine bodyPost_ret (v := _) ?_ rfl (KyPre.fin (x := .mk N [] [] 0 [] []) (As := none) (cs := 0) (Ak := none) (ck := 0) (kcs := []) HK7.out.pre HO.out (set6 _ _ _ _ _ _ _ _ _ _ _ _ _ _ _ HK7.out.pre.res).2 (keyAt_bare _ _ N [] [] 0))
  rw [results_cell_one rfl]
  simp [go_sem, b0, b1, b2, b3, b4, b5]
  exact ⟨rfl, rfl, rfl, rfl, rfl, rfl⟩
 ·
  obtain ⟨n0, _⟩ := notAll (N := N) (Ls := kNs.take 1) (by rw [hN]; decide)
  have n1 := strEq hN
  clear hN
  have HO := HOO
  obtain ⟨⟨a0, a1, a2, a3, a4, a5⟩, e0, e1, e2, e3, e4, e5⟩ := six_cells HK7.out.xb
  obtain ⟨⟨b0, b1, b2, b3, b4, b5⟩, g0, g1, g2, g3, g4, g5⟩ := six_cells HK7.out.pre.res
  go_wp2
  refine bodyPost_ret (v := _) ?_ rfl (KyPre.fin (x := .mk N [] [] 0 [] []) (As := none) (cs := 0) (Ak := none) (ck := 0) (kcs := []) HK7.out.pre HO.out (set6 _ _ _ _ _ _ _ _ _ _ _ _ _ _ _ HK7.out.pre.res).2 (keyAt_bare _ _ N [] [] 0))
  rw [results_cell_one rfl]
  simp [go_sem, b0, b1, b2, b3, b4, b5]
  exact ⟨rfl, rfl, rfl, rfl, rfl, rfl⟩
 ·
  obtain ⟨n0, n1, _⟩ := notAll (N := N) (Ls := kNs.take 2) (by rw [hN]; decide)
  have n2 := strEq hN
  clear hN
  have HO := HOO
  obtain ⟨⟨a0, a1, a2, a3, a4, a5⟩, e0, e1, e2, e3, e4, e5⟩ := six_cells HK7.out.xb
  obtain ⟨⟨b0, b1, b2, b3, b4, b5⟩, g0, g1, g2, g3, g4, g5⟩ := six_cells HK7.out.pre.res
  go_wp2
  refine bodyPost_ret (v := _) ?_ rfl (KyPre.fin (x := .mk N [] [] 0 [] []) (As := none) (cs := 0) (Ak := none) (ck := 0) (kcs := []) HK7.out.pre HO.out (set6 _ _ _ _ _ _ _ _ _ _ _ _ _ _ _ HK7.out.pre.res).2 (keyAt_bare _ _ N [] [] 0))
  rw [results_cell_one rfl]
  simp [go_sem, b0, b1, b2, b3, b4, b5]
  exact ⟨rfl, rfl, rfl, rfl, rfl, rfl⟩
 ·
  obtain ⟨n0, n1, n2, _⟩ := notAll (N := N) (Ls := kNs.take 3) (by rw [hN]; decide)
  have n3 := strEq hN
  clear hN
  have HO := HOO
  obtain ⟨⟨a0, a1, a2, a3, a4, a5⟩, e0, e1, e2, e3, e4, e5⟩ := six_cells HK7.out.xb
  obtain ⟨⟨b0, b1, b2, b3, b4, b5⟩, g0, g1, g2, g3, g4, g5⟩ := six_cells HK7.out.pre.res
  go_wp2
  refine bodyPost_ret (v := _) ?_ rfl (KyPre.fin (x := .mk N [] [] 0 [] []) (As := none) (cs := 0) (Ak := none) (ck := 0) (kcs := []) HK7.out.pre HO.out (set6 _ _ _ _ _ _ _ _ _ _ _ _ _ _ _ HK7.out.pre.res).2 (keyAt_bare _ _ N [] [] 0))
  rw [results_cell_one rfl]
  simp [go_sem, b0, b1, b2, b3, b4, b5]
  exact ⟨rfl, rfl, rfl, rfl, rfl, rfl⟩
 ·
  obtain ⟨n0, n1, n2, n3, _⟩ := notAll (N := N) (Ls := kNs.take 4) (by rw [hN]; decide)
  have n4 := strEq hN
  clear hN
  have HO := HOO
  obtain ⟨⟨a0, a1, a2, a3, a4, a5⟩, e0, e1, e2, e3, e4, e5⟩ := six_cells HK7.out.xb
  obtain ⟨⟨b0, b1, b2, b3, b4, b5⟩, g0, g1, g2, g3, g4, g5⟩ := six_cells HK7.out.pre.res
  go_wp2
  refine bodyPost_ret (v := _) ?_ rfl (KyPre.fin (x := .mk N [] [] 0 [] []) (As := none) (cs := 0) (Ak := none) (ck := 0) (kcs := []) HK7.out.pre HO.out (set6 _ _ _ _ _ _ _ _ _ _ _ _ _ _ _ HK7.out.pre.res).2 (keyAt_bare _ _ N [] [] 0))
  rw [results_cell_one rfl]
  simp [go_sem, b0, b1, b2, b3, b4, b5]
  exact ⟨rfl, rfl, rfl, rfl, rfl, rfl⟩
 ·
  obtain ⟨n0, n1, n2, n3, n4, _⟩ := notAll (N := N) (Ls := kNs.take 5) (by rw [hN]; decide)
  have n5 := strEq hN
  clear hN
  have HO := HOO
  obtain ⟨⟨a0, a1, a2, a3, a4, a5⟩, e0, e1, e2, e3, e4, e5⟩ := six_cells HK7.out.xb
  obtain ⟨⟨b0, b1, b2, b3, b4, b5⟩, g0, g1, g2, g3, g4, g5⟩ := six_cells HK7.out.pre.res
  go_wp2
  refine bodyPost_ret (v := _) ?_ rfl (KyPre.fin (x := .mk N [] [] 0 [] []) (As := none) (cs := 0) (Ak := none) (ck := 0) (kcs := []) HK7.out.pre HO.out (set6 _ _ _ _ _ _ _ _ _ _ _ _ _ _ _ HK7.out.pre.res).2 (keyAt_bare _ _ N [] [] 0))
  rw [results_cell_one rfl]
  simp [go_sem, b0, b1, b2, b3, b4, b5]
  exact ⟨rfl, rfl, rfl, rfl, rfl, rfl⟩
 ·
  obtain ⟨n0, n1, n2, n3, n4, n5, _⟩ := notAll (N := N) (Ls := kNs.take 6) (by rw [hN]; decide)
  have n6 := strEq hN
  clear hN
  have HO := HOO
  obtain ⟨⟨a0, a1, a2, a3, a4, a5⟩, e0, e1, e2, e3, e4, e5⟩ := six_cells HK7.out.xb
  obtain ⟨⟨b0, b1, b2, b3, b4, b5⟩, g0, g1, g2, g3, g4, g5⟩ := six_cells HK7.out.pre.res
  go_wp2
  refine bodyPost_ret (v := _) ?_ rfl (KyPre.fin (x := .mk N [] [] 0 [] []) (As := none) (cs := 0) (Ak := none) (ck := 0) (kcs := []) HK7.out.pre HO.out (set6 _ _ _ _ _ _ _ _ _ _ _ _ _ _ _ HK7.out.pre.res).2 (keyAt_bare _ _ N [] [] 0))
  rw [results_cell_one rfl]
  simp [go_sem, b0, b1, b2, b3, b4, b5]
  exact ⟨rfl, rfl, rfl, rfl, rfl, rfl⟩
 ·
  obtain ⟨n0, n1, n2, n3, n4, n5, n6, _⟩ := notAll (N := N) (Ls := kNs.take 7) (by rw [hN]; decide)
  have n7 := strEq hN
  clear hN
  have HO := HOO
  obtain ⟨⟨a0, a1, a2, a3, a4, a5⟩, e0, e1, e2, e3, e4, e5⟩ := six_cells HK7.out.xb
  obtain ⟨⟨b0, b1, b2, b3, b4, b5⟩, g0, g1, g2, g3, g4, g5⟩ := six_cells HK7.out.pre.res
  go_wp2
  refine bodyPost_ret (v := _) ?_ rfl (KyPre.fin (x := .mk N [] [] 0 [] []) (As := none) (cs := 0) (Ak := none) (ck := 0) (kcs := []) HK7.out.pre HO.out (set6 _ _ _ _ _ _ _ _ _ _ _ _ _ _ _ HK7.out.pre.res).2 (keyAt_bare _ _ N [] [] 0))
  rw [results_cell_one rfl]
  simp [go_sem, b0, b1, b2, b3, b4, b5]
  exact ⟨rfl, rfl, rfl, rfl, rfl, rfl⟩
 ·
  obtain ⟨n0, n1, n2, n3, n4, n5, n6, n7, _⟩ := notAll (N := N) (Ls := kNs.take 8) (by rw [hN]; decide)
  have n8 := strEq hN
  clear hN
  have HO := HOO
  obtain ⟨⟨a0, a1, a2, a3, a4, a5⟩, e0, e1, e2, e3, e4, e5⟩ := six_cells HK7.out.xb
  obtain ⟨⟨b0, b1, b2, b3, b4, b5⟩, g0, g1, g2, g3, g4, g5⟩ := six_cells HK7.out.pre.res
  go_wp2
  refine bodyPost_ret (v := _) ?_ rfl (KyPre.fin (x := .mk N [] [] 0 [] []) (As := none) (cs := 0) (Ak := none) (ck := 0) (kcs := []) HK7.out.pre HO.out (set6 _ _ _ _ _ _ _ _ _ _ _ _ _ _ _ HK7.out.pre.res).2 (keyAt_bare _ _ N [] [] 0))
  rw [results_cell_one rfl]
  simp [go_sem, b0, b1, b2, b3, b4, b5]
  exact ⟨rfl, rfl, rfl, rfl, rfl, rfl⟩
 ·
  obtain ⟨n0, n1, n2, n3, n4, n5, n6, n7, n8, _⟩ := notAll (N := N) (Ls := kNs.take 9) (by rw [hN]; decide)
  have n9 := strEq hN
  clear hN
  have HO := HOO
  obtain ⟨⟨a0, a1, a2, a3, a4, a5⟩, e0, e1, e2, e3, e4, e5⟩ := six_cells HK7.out.xb
  obtain ⟨⟨b0, b1, b2, b3, b4, b5⟩, g0, g1, g2, g3, g4, g5⟩ := six_cells HK7.out.pre.res
  go_wp2
  refine bodyPost_ret (v := _) ?_ rfl (KyPre.fin (x := .mk N [] [] 0 [] []) (As := none) (cs := 0) (Ak := none) (ck := 0) (kcs := []) HK7.out.pre HO.out (set6 _ _ _ _ _ _ _ _ _ _ _ _ _ _ _ HK7.out.pre.res).2 (keyAt_bare _ _ N [] [] 0))
  rw [results_cell_one rfl]
  simp [go_sem, b0, b1, b2, b3, b4, b5]
  exact ⟨rfl, rfl, rfl, rfl, rfl, rfl⟩
 ·
  obtain ⟨n0, n1, n2, n3, n4, n5, n6, n7, n8, n9, _⟩ := notAll (N := N) (Ls := kNs.take 10) (by rw [hN]; decide)
  have n10 := strEq hN
  clear hN
  have HO := HOO
  obtain ⟨⟨a0, a1, a2, a3, a4, a5⟩, e0, e1, e2, e3, e4, e5⟩ := six_cells HK7.out.xb
  obtain ⟨⟨b0, b1, b2, b3, b4, b5⟩, g0, g1, g2, g3, g4, g5⟩ := six_cells HK7.out.pre.res
  go_wp2
  refine bodyPost_ret (v := _) ?_ rfl (KyPre.fin (x := .mk N [] [] 0 [] []) (As := none) (cs := 0) (Ak := none) (ck := 0) (kcs := []) HK7.out.pre HO.out (set6 _ _ _ _ _ _ _ _ _ _ _ _ _ _ _ HK7.out.pre.res).2 (keyAt_bare _ _ N [] [] 0))
  rw [results_cell_one rfl]
  simp [go_sem, b0, b1, b2, b3, b4, b5]
  exact ⟨rfl, rfl, rfl, rfl, rfl, rfl⟩
open Go.RowKit
open Pl (Bs idxB numOk numN setOk setL)
attribute [local go_sem ↓] Go.wp_at_zero Go.wp_at_succ
theorem key_day (G : Glob) (B k : Nat) (s W0 r N : Bs) (hk : k + 1 ≤ 50) (hp : isB [40] s = none) (hw : wordB [37, 42] s = some (W0, r)) (hnm : largeL W0 = N) (hN : N = [66, 69, 70, 79, 82, 69] ∨ N = [79, 78] ∨ N = [83, 73, 78, 67, 69] ∨ N = [83, 69, 78, 84, 66, 69, 70, 79, 82, 69] ∨ N = [83, 69, 78, 84, 79, 78] ∨ N = [83, 69, 78, 84, 83, 73, 78, 67, 69]) (w : World) (hE : EnvI G w B) (h : Scn w B s k) :
  Calls Tryz.prog 106 #[scP B] w (KeyPost w B ((dayR r).map fun p => (KeyP.mk N [] [] p.1 [] [], p.2, k + 1))) := by
 generalize hoo : ((dayR r).map fun p => (KeyP.mk N [] [] p.1 [] [], p.2, k + 1)) = oo
 have HOO := Lib.hid hoo.symm
 have HNN := Lib.hid hN
 clear hoo hN
 have KC := Lib.hid (fun W hE hS => day_walk G B (k + 1) r W hE hS)
 have HPre := Lib.hid (KyPre.start h (by omega))
 have hk1 : ((k : Int) + 1 ≤ 50) := by omega
 have hb : ¬ (B = w.heap.size) := by have := h.lt; omega
 have hb2 : ¬ (B = w.heap.size + 1) := by have := h.lt; omega
 obtain ⟨c0, c1, f0, f1⟩ := h.cells
 have KP : Hid (∀ W, Calls Tryz.prog 99 #[.string (str s), .string ⟨#[40]⟩] W _) := Lib.hid (fun W => hasPre_no hp W)
 have KW : Hid (∀ W, Scn W B s (k + 1) → Calls Tryz.prog 26 #[scP B, .string ⟨#[37, 42]⟩] W _) := Lib.hid (fun W hW => word_ok B [37, 42] s W0 r (k + 1) hw W hW)
 have hlen := wordB_len hw
 have hsm := h.small
 have hlt := h.lt
 have KL : Hid (∀ W, Calls Tryz.prog 29 #[.string (str W0)] W fun e w' => e = .returned (.string (str N)) ∧ Below W.heap.size W w') := Lib.hid (fun W => by have K := large_walk21 W0 (by omega) W; rw [hnm] at K; exact K)
 have HE := Lib.hid hE
 clear hw hp h hE hnm
 go_enter Tryz.func106, Tryz.ntmps106
 go_wp2_with fail
 generalize ((w.setCell ⟨B, 1, none⟩ (.int .i64 ((k : Int) + 1))).alloc (Obj.cells #[scP B] 62)).alloc (Obj.cells #[.string ⟨#[]⟩, .string ⟨#[]⟩, .string ⟨#[]⟩, .int .i64 0, .slice none 0 0, .slice none 0 0] 51) = w2 at HPre ⊢
 clear c0 c1 f0 f1
 have HPd := Lib.hid HPre.out.draw
 have d0 := (one_cells HPre.out.box).1
 obtain ⟨_, d1, _, _⟩ := HPre.out.sc.cells
 have hcast : ((k + 1 : Nat) : Int) = (k : Int) + 1 := by omega
 rw [hcast] at d1
 clear hcast
 have D0 := Lib.hid (show w2.drew.cell? ⟨w.heap.size, 0, none⟩ = some (scP B) ∧ w2.drew.cell? ⟨B, 1, none⟩ = some (.int .i64 ((k : Int) + 1)) from ⟨d0, d1⟩)
 go_region_held3 (fun W => W.cell? ⟨w.heap.size, 0, none⟩ = some (scP B) ∧ W.cell? ⟨B, 1, none⟩ = some (.int .i64 ((k : Int) + 1)))
  (first | exact D0.out)
  (first
   | (go_at_call 27; refine (must_walk B _).mono ?_; rintro e w' ⟨rfl, rfl⟩))
 generalize w2.drew = w3 at *
 clear d0 d1 D0
 have d0 := (one_cells HPd.out.box).1
 obtain ⟨d1, _, _, _⟩ := HPd.out.sc.cells
 go_wp2_with fail
 refine (KP.out _).mono ?_
 rintro e w4 ⟨rfl, rfl⟩
 go_wp2_with fail
 refine (KW.out _ HPd.out.sc).mono ?_
 rintro e w5 ⟨rfl, hS5, hG5⟩
 have HP5 := Lib.hid (HPd.out.step hG5 hS5)
 clear hS5 hG5 d0 d1
 go_wp2_with fail
 refine (KL.out _).mono ?_
 rintro e w6 ⟨rfl, hB6⟩
 have HP6 := Lib.hid (HP5.out.below hB6)
 have HK7 := Lib.hid (HP6.out.name (str N))
 clear hB6
 rcases HNN.out with hN | hN | hN | hN | hN | hN
 ·
  obtain ⟨n0, n1, n2, n3, n4, n5, n6, n7, n8, n9, n10, _⟩ := notAll (N := N) (Ls := kNs.take 11) (by rw [hN]; decide)
  have n11 := strEq hN
  clear hN
  have e7 := (one_cells HK7.out.pre.box).1
  go_wp2_with fail
  refine (KC.out _ (HE.out.kept HK7.out.pre.gr) HK7.out.pre.sc).mono ?_
  rintro e w8 hP8
  rcases hP8.split with ⟨ho, rfl, hG8⟩ | ⟨n, r8, ho, rfl, hG8, hS8⟩
  ·
   exact ⟨rfl, .bad (HK7.out.pre.gr.trans hG8) (by rw [HOO.out, ho]; rfl)⟩
  have HO := Lib.hid (show oo = some (KeyP.mk N [] [] n [] [], r8, k + 1) by rw [HOO.out, ho]; rfl)
  have HK8 := Lib.hid (HK7.out.step hG8 hS8)
  have HK9 := Lib.hid (HK8.out.setI 3 (.int .i64 n) rfl)
  clear hG8 hS8 e7 hP8 ho
  obtain ⟨⟨a0, a1, a2, a3, a4, a5⟩, e0, e1, e2, e3, e4, e5⟩ := six_cells HK8.out.xb
  obtain ⟨⟨b0, b1, b2, b3, b4, b5⟩, g0, g1, g2, g3, g4, g5⟩ := six_cells HK8.out.pre.res
  have hz7 := HP6.out.room
  have hne : ¬ (w.heap.size + 1 = w6.heap.size) := by omega
  have hne2 : ¬ (w6.heap.size = w.heap.size + 1) := by omega
  go_wp2
  refine bodyPost_ret (v := _) ?_ rfl (KyPre.fin (x := .mk N [] [] n [] []) (As := none) (cs := 0) (Ak := none) (ck := 0) (kcs := []) HK9.out.pre HO.out (set6 _ _ _ _ _ _ _ _ _ _ _ _ _ _ _ HK9.out.pre.res).2 (keyAt_bare _ _ N [] [] n))
  rw [results_cell_one rfl]
  simp [go_sem, b0, b1, b2, b3, b4, b5, hne2]
  exact ⟨rfl, rfl, rfl, rfl, rfl, rfl⟩
 ·
  obtain ⟨n0, n1, n2, n3, n4, n5, n6, n7, n8, n9, n10, n11, _⟩ := notAll (N := N) (Ls := kNs.take 12) (by rw [hN]; decide)
  have n12 := strEq hN
  clear hN
  have e7 := (one_cells HK7.out.pre.box).1
  go_wp2_with fail
  refine (KC.out _ (HE.out.kept HK7.out.pre.gr) HK7.out.pre.sc).mono ?_
  rintro e w8 hP8
  rcases hP8.split with ⟨ho, rfl, hG8⟩ | ⟨n, r8, ho, rfl, hG8, hS8⟩
  ·
   exact ⟨rfl, .bad (HK7.out.pre.gr.trans hG8) (by rw [HOO.out, ho]; rfl)⟩
  have HO := Lib.hid (show oo = some (KeyP.mk N [] [] n [] [], r8, k + 1) by rw [HOO.out, ho]; rfl)
  have HK8 := Lib.hid (HK7.out.step hG8 hS8)
  have HK9 := Lib.hid (HK8.out.setI 3 (.int .i64 n) rfl)
  clear hG8 hS8 e7 hP8 ho
  obtain ⟨⟨a0, a1, a2, a3, a4, a5⟩, e0, e1, e2, e3, e4, e5⟩ := six_cells HK8.out.xb
  obtain ⟨⟨b0, b1, b2, b3, b4, b5⟩, g0, g1, g2, g3, g4, g5⟩ := six_cells HK8.out.pre.res
  have hz7 := HP6.out.room
  have hne : ¬ (w.heap.size + 1 = w6.heap.size) := by omega
  have hne2 : ¬ (w6.heap.size = w.heap.size + 1) := by omega
  go_wp2
  refine bodyPost_ret (v := _) ?_ rfl (KyPre.fin (x := .mk N [] [] n [] []) (As := none) (cs := 0) (Ak := none) (ck := 0) (kcs := []) HK9.out.pre HO.out (set6 _ _ _ _ _ _ _ _ _ _ _ _ _ _ _ HK9.out.pre.res).2 (keyAt_bare _ _ N [] [] n))
  rw [results_cell_one rfl]
  simp [go_sem, b0, b1, b2, b3, b4, b5, hne2]
  exact ⟨rfl, rfl, rfl, rfl, rfl, rfl⟩
 ·
  obtain ⟨n0, n1, n2, n3, n4, n5, n6, n7, n8, n9, n10, n11, n12, _⟩ := notAll (N := N) (Ls := kNs.take 13) (by rw [hN]; decide)
  have n13 := strEq hN
  clear hN
  have e7 := (one_cells HK7.out.pre.box).1
  go_wp2_with fail
  refine (KC.out _ (HE.out.kept HK7.out.pre.gr) HK7.out.pre.sc).mono ?_
  rintro e w8 hP8
  rcases hP8.split with ⟨ho, rfl, hG8⟩ | ⟨n, r8, ho, rfl, hG8, hS8⟩
  ·
   exact ⟨rfl, .bad (HK7.out.pre.gr.trans hG8) (by rw [HOO.out, ho]; rfl)⟩
  have HO := Lib.hid (show oo = some (KeyP.mk N [] [] n [] [], r8, k + 1) by rw [HOO.out, ho]; rfl)
  have HK8 := Lib.hid (HK7.out.step hG8 hS8)
  have HK9 := Lib.hid (HK8.out.setI 3 (.int .i64 n) rfl)
  clear hG8 hS8 e7 hP8 ho
  obtain ⟨⟨a0, a1, a2, a3, a4, a5⟩, e0, e1, e2, e3, e4, e5⟩ := six_cells HK8.out.xb
  obtain ⟨⟨b0, b1, b2, b3, b4, b5⟩, g0, g1, g2, g3, g4, g5⟩ := six_cells HK8.out.pre.res
  have hz7 := HP6.out.room
  have hne : ¬ (w.heap.size + 1 = w6.heap.size) := by omega
  have hne2 : ¬ (w6.heap.size = w.heap.size + 1) := by omega
  go_wp2
  refine bodyPost_ret (v := _) ?_ rfl (KyPre.fin (x := .mk N [] [] n [] []) (As := none) (cs := 0) (Ak := none) (ck := 0) (kcs := []) HK9.out.pre HO.out (set6 _ _ _ _ _ _ _ _ _ _ _ _ _ _ _ HK9.out.pre.res).2 (keyAt_bare _ _ N [] [] n))
  rw [results_cell_one rfl]
  simp [go_sem, b0, b1, b2, b3, b4, b5, hne2]
  exact ⟨rfl, rfl, rfl, rfl, rfl, rfl⟩
 ·
  obtain ⟨n0, n1, n2, n3, n4, n5, n6, n7, n8, n9, n10, n11, n12, n13, _⟩ := notAll (N := N) (Ls := kNs.take 14) (by rw [hN]; decide)
  have n14 := strEq hN
  clear hN
  have e7 := (one_cells HK7.out.pre.box).1
  go_wp2_with fail
  refine (KC.out _ (HE.out.kept HK7.out.pre.gr) HK7.out.pre.sc).mono ?_
  rintro e w8 hP8
  rcases hP8.split with ⟨ho, rfl, hG8⟩ | ⟨n, r8, ho, rfl, hG8, hS8⟩
  ·
   exact ⟨rfl, .bad (HK7.out.pre.gr.trans hG8) (by rw [HOO.out, ho]; rfl)⟩
  have HO := Lib.hid (show oo = some (KeyP.mk N [] [] n [] [], r8, k + 1) by rw [HOO.out, ho]; rfl)
  have HK8 := Lib.hid (HK7.out.step hG8 hS8)
  have HK9 := Lib.hid (HK8.out.setI 3 (.int .i64 n) rfl)
  clear hG8 hS8 e7 hP8 ho
  obtain ⟨⟨a0, a1, a2, a3, a4, a5⟩, e0, e1, e2, e3, e4, e5⟩ := six_cells HK8.out.xb
  obtain ⟨⟨b0, b1, b2, b3, b4, b5⟩, g0, g1, g2, g3, g4, g5⟩ := six_cells HK8.out.pre.res
  have hz7 := HP6.out.room
  have hne : ¬ (w.heap.size + 1 = w6.heap.size) := by omega
  have hne2 : ¬ (w6.heap.size = w.heap.size + 1) := by omega
  go_wp2
  refine bodyPost_ret (v := _) ?_ rfl (KyPre.fin (x := .mk N [] [] n [] []) (As := none) (cs := 0) (Ak := none) (ck := 0) (kcs := []) HK9.out.pre HO.out (set6 _ _ _ _ _ _ _ _ _ _ _ _ _ _ _ HK9.out.pre.res).2 (keyAt_bare _ _ N [] [] n))
  rw [results_cell_one rfl]
  simp [go_sem, b0, b1, b2, b3, b4, b5, hne2]
  exact ⟨rfl, rfl, rfl, rfl, rfl, rfl⟩
 ·
  obtain ⟨n0, n1, n2, n3, n4, n5, n6, n7, n8, n9, n10, n11, n12, n13, n14, _⟩ := notAll (N := N) (Ls := kNs.take 15) (by rw [hN]; decide)
  have n15 := strEq hN
  clear hN
  have e7 := (one_cells HK7.out.pre.box).1
  go_wp2_with fail
  refine (KC.out _ (HE.out.kept HK7.out.pre.gr) HK7.out.pre.sc).mono ?_
  rintro e w8 hP8
  rcases hP8.split with ⟨ho, rfl, hG8⟩ | ⟨n, r8, ho, rfl, hG8, hS8⟩
  ·
   exact ⟨rfl, .bad (HK7.out.pre.gr.trans hG8) (by rw [HOO.out, ho]; rfl)⟩
  have HO := Lib.hid (show oo = some (KeyP.mk N [] [] n [] [], r8, k + 1) by rw [HOO.out, ho]; rfl)
  have HK8 := Lib.hid (HK7.out.step hG8 hS8)
  have HK9 := Lib.hid (HK8.out.setI 3 (.int .i64 n) rfl)
  clear hG8 hS8 e7 hP8 ho
  obtain ⟨⟨a0, a1, a2, a3, a4, a5⟩, e0, e1, e2, e3, e4, e5⟩ := six_cells HK8.out.xb
  obtain ⟨⟨b0, b1, b2, b3, b4, b5⟩, g0, g1, g2, g3, g4, g5⟩ := six_cells HK8.out.pre.res
  have hz7 := HP6.out.room
  have hne : ¬ (w.heap.size + 1 = w6.heap.size) := by omega
  have hne2 : ¬ (w6.heap.size = w.heap.size + 1) := by omega
  go_wp2
  refine bodyPost_ret (v := _) ?_ rfl (KyPre.fin (x := .mk N [] [] n [] []) (As := none) (cs := 0) (Ak := none) (ck := 0) (kcs := []) HK9.out.pre HO.out (set6 _ _ _ _ _ _ _ _ _ _ _ _ _ _ _ HK9.out.pre.res).2 (keyAt_bare _ _ N [] [] n))
  rw [results_cell_one rfl]
  simp [go_sem, b0, b1, b2, b3, b4, b5, hne2]
  exact ⟨rfl, rfl, rfl, rfl, rfl, rfl⟩
 ·
  obtain ⟨n0, n1, n2, n3, n4, n5, n6, n7, n8, n9, n10, n11, n12, n13, n14, n15, _⟩ := notAll (N := N) (Ls := kNs.take 16) (by rw [hN]; decide)
  have n16 := strEq hN
  clear hN
  have e7 := (one_cells HK7.out.pre.box).1
  go_wp2_with fail
  refine (KC.out _ (HE.out.kept HK7.out.pre.gr) HK7.out.pre.sc).mono ?_
  rintro e w8 hP8
  rcases hP8.split with ⟨ho, rfl, hG8⟩ | ⟨n, r8, ho, rfl, hG8, hS8⟩
  ·
   exact ⟨rfl, .bad (HK7.out.pre.gr.trans hG8) (by rw [HOO.out, ho]; rfl)⟩
  have HO := Lib.hid (show oo = some (KeyP.mk N [] [] n [] [], r8, k + 1) by rw [HOO.out, ho]; rfl)
  have HK8 := Lib.hid (HK7.out.step hG8 hS8)
  have HK9 := Lib.hid (HK8.out.setI 3 (.int .i64 n) rfl)
  clear hG8 hS8 e7 hP8 ho
  obtain ⟨⟨a0, a1, a2, a3, a4, a5⟩, e0, e1, e2, e3, e4, e5⟩ := six_cells HK8.out.xb
  obtain ⟨⟨b0, b1, b2, b3, b4, b5⟩, g0, g1, g2, g3, g4, g5⟩ := six_cells HK8.out.pre.res
  have hz7 := HP6.out.room
  have hne : ¬ (w.heap.size + 1 = w6.heap.size) := by omega
  have hne2 : ¬ (w6.heap.size = w.heap.size + 1) := by omega
  go_wp2
  refine bodyPost_ret (v := _) ?_ rfl (KyPre.fin (x := .mk N [] [] n [] []) (As := none) (cs := 0) (Ak := none) (ck := 0) (kcs := []) HK9.out.pre HO.out (set6 _ _ _ _ _ _ _ _ _ _ _ _ _ _ _ HK9.out.pre.res).2 (keyAt_bare _ _ N [] [] n))
  rw [results_cell_one rfl]
  simp [go_sem, b0, b1, b2, b3, b4, b5, hne2]
  exact ⟨rfl, rfl, rfl, rfl, rfl, rfl⟩
open Go.RowKit
open Pl (Bs idxB numOk numN setOk setL)
attribute [local go_sem ↓] Go.wp_at_zero Go.wp_at_succ
theorem rowC_first {w : World} {T : Nat → Prop} {A : Option Addr} {n c : Nat} {cells : List Value} (h : RowC w T (.slice A n c) n cells) (hn : 0 < n) : ∃ b, A = some ⟨b, 0, none⟩ ∧ T b ∧ ∀ j x, cells[j]? = some x → w.cell? ⟨b, j, none⟩ = some x := by
 obtain ⟨A', c', e, h⟩ := h
 cases e
 exact h hn
theorem key_text (G : Glob) (B k : Nat) (s W0 r N : Bs) (hk : k + 1 ≤ 50) (hp : isB [40] s = none) (hw : wordB [37, 42] s = some (W0, r)) (hnm : largeL W0 = N) (hN : N = [66, 67, 67] ∨ N = [66, 79, 68, 89] ∨ N = [67, 67] ∨ N = [70, 82, 79, 77] ∨ N = [83, 85, 66, 74, 69, 67, 84] ∨ N = [84, 69, 88, 84] ∨ N = [84, 79]) (w : World) (hE : EnvI G w B) (h : Scn w B s k) :
  Calls Tryz.prog 106 #[scP B] w (KeyPost w B ((textsB 1 r).map fun p => (KeyP.mk N (p.1.getD 0 []) [] 0 [] [], p.2, k + 1))) := by
 generalize hoo : ((textsB 1 r).map fun p => (KeyP.mk N (p.1.getD 0 []) [] 0 [] [], p.2, k + 1)) = oo
 have HOO := Lib.hid hoo.symm
 have HNN := Lib.hid hN
 clear hoo hN
 have KC : Hid (∀ W, EnvI G W B → Scn W B r (k + 1) → Calls Tryz.prog 70 #[scP B, .int .i64 1] W _) := Lib.hid (fun W hE hS => texts_walk G B (k + 1) 1 (by decide) r W hE hS)
 have HPre := Lib.hid (KyPre.start h (by omega))
 have hk1 : ((k : Int) + 1 ≤ 50) := by omega
 have hb : ¬ (B = w.heap.size) := by have := h.lt; omega
 have hb2 : ¬ (B = w.heap.size + 1) := by have := h.lt; omega
 obtain ⟨c0, c1, f0, f1⟩ := h.cells
 have KP : Hid (∀ W, Calls Tryz.prog 99 #[.string (str s), .string ⟨#[40]⟩] W _) := Lib.hid (fun W => hasPre_no hp W)
 have KW : Hid (∀ W, Scn W B s (k + 1) → Calls Tryz.prog 26 #[scP B, .string ⟨#[37, 42]⟩] W _) := Lib.hid (fun W hW => word_ok B [37, 42] s W0 r (k + 1) hw W hW)
 have hlen := wordB_len hw
 have hsm := h.small
 have hlt := h.lt
 have KL : Hid (∀ W, Calls Tryz.prog 29 #[.string (str W0)] W fun e w' => e = .returned (.string (str N)) ∧ Below W.heap.size W w') := Lib.hid (fun W => by have K := large_walk21 W0 (by omega) W; rw [hnm] at K; exact K)
 have HE := Lib.hid hE
 clear hw hp h hE hnm
 go_enter Tryz.func106, Tryz.ntmps106
 go_wp2_with fail
 generalize ((w.setCell ⟨B, 1, none⟩ (.int .i64 ((k : Int) + 1))).alloc (Obj.cells #[scP B] 62)).alloc (Obj.cells #[.string ⟨#[]⟩, .string ⟨#[]⟩, .string ⟨#[]⟩, .int .i64 0, .slice none 0 0, .slice none 0 0] 51) = w2 at HPre ⊢
 clear c0 c1 f0 f1
 have HPd := Lib.hid HPre.out.draw
 have d0 := (one_cells HPre.out.box).1
 obtain ⟨_, d1, _, _⟩ := HPre.out.sc.cells
 have hcast : ((k + 1 : Nat) : Int) = (k : Int) + 1 := by omega
 rw [hcast] at d1
 clear hcast
 have D0 := Lib.hid (show w2.drew.cell? ⟨w.heap.size, 0, none⟩ = some (scP B) ∧ w2.drew.cell? ⟨B, 1, none⟩ = some (.int .i64 ((k : Int) + 1)) from ⟨d0, d1⟩)
 go_region_held3 (fun W => W.cell? ⟨w.heap.size, 0, none⟩ = some (scP B) ∧ W.cell? ⟨B, 1, none⟩ = some (.int .i64 ((k : Int) + 1)))
  (first | exact D0.out)
  (first
   | (go_at_call 27; refine (must_walk B _).mono ?_; rintro e w' ⟨rfl, rfl⟩))
 generalize w2.drew = w3 at *
 clear d0 d1 D0
 have d0 := (one_cells HPd.out.box).1
 obtain ⟨d1, _, _, _⟩ := HPd.out.sc.cells
 go_wp2_with fail
 refine (KP.out _).mono ?_
 rintro e w4 ⟨rfl, rfl⟩
 go_wp2_with fail
 refine (KW.out _ HPd.out.sc).mono ?_
 rintro e w5 ⟨rfl, hS5, hG5⟩
 have HP5 := Lib.hid (HPd.out.step hG5 hS5)
 clear hS5 hG5 d0 d1
 go_wp2_with fail
 refine (KL.out _).mono ?_
 rintro e w6 ⟨rfl, hB6⟩
 have HP6 := Lib.hid (HP5.out.below hB6)
 have HK7 := Lib.hid (HP6.out.name (str N))
 clear hB6
 rcases HNN.out with hN | hN | hN | hN | hN | hN | hN
 ·
  obtain ⟨n0, n1, n2, n3, n4, n5, n6, n7, n8, n9, n10, n11, n12, n13, n14, n15, n16, n17, n18, _⟩ := notAll (N := N) (Ls := kNs.take 19) (by rw [hN]; decide)
  have n19 := strEq hN
  clear hN
  have e7 := (one_cells HK7.out.pre.box).1
  go_wp2_with fail
  refine (KC.out _ (HE.out.kept HK7.out.pre.gr) HK7.out.pre.sc).mono ?_
  rintro e w8 ⟨hG8, hP8⟩
  cases ht : textsB 1 r with
  | none =>
   rw [ht] at hP8
   subst hP8
   exact ⟨rfl, .bad (HK7.out.pre.gr.trans hG8) (by rw [HOO.out, ht]; rfl)⟩
  | some p =>
   obtain ⟨l, r8⟩ := p
   have hl := (textsB_len ht).2.1
   obtain ⟨x, rfl⟩ : ∃ x, l = [x] := List.length_eq_one_iff.1 hl
   rw [ht] at hP8
   obtain ⟨u8, rfl, hO8, hS8⟩ := hP8
   have HO := Lib.hid (show oo = some (KeyP.mk N x [] 0 [] [], r8, k + 1) by rw [HOO.out, ht]; rfl)
   have HK8 := Lib.hid (HK7.out.step hG8 hS8)
   obtain ⟨A8, c8, hu8, _⟩ := rowC_own hO8
   subst hu8
   obtain ⟨b8, hA8, _, hc8⟩ := rowC_first (rowC_own hO8) (by simp)
   subst hA8
   have x0 : w8.cell? ⟨b8, 0, none⟩ = some (.string (str x)) := hc8 0 _ rfl
   have HK9 := Lib.hid (HK8.out.setI 1 (.string (str x)) rfl)
   clear hG8 hS8 hO8 e7 ht hl hc8
   simp only [List.length_singleton]
   obtain ⟨⟨a0, a1, a2, a3, a4, a5⟩, e0, e1, e2, e3, e4, e5⟩ := six_cells HK8.out.xb
   obtain ⟨⟨b0, b1, b2, b3, b4, b5⟩, g0, g1, g2, g3, g4, g5⟩ := six_cells HK8.out.pre.res
   have hz7 := HP6.out.room
   have hne : ¬ (w.heap.size + 1 = w6.heap.size) := by omega
   have hne2 : ¬ (w6.heap.size = w.heap.size + 1) := by omega
   go_wp2
   refine bodyPost_ret (v := _) ?_ rfl (KyPre.fin (x := .mk N x [] 0 [] []) (As := none) (cs := 0) (Ak := none) (ck := 0) (kcs := []) HK9.out.pre HO.out (set6 _ _ _ _ _ _ _ _ _ _ _ _ _ _ _ HK9.out.pre.res).2 (keyAt_bare _ _ N x [] 0))
   rw [results_cell_one rfl]
   simp [go_sem, b0, b1, b2, b3, b4, b5, hne2]
   exact ⟨rfl, rfl, rfl, rfl, rfl, rfl⟩
 ·
  obtain ⟨n0, n1, n2, n3, n4, n5, n6, n7, n8, n9, n10, n11, n12, n13, n14, n15, n16, n17, n18, n19, _⟩ := notAll (N := N) (Ls := kNs.take 20) (by rw [hN]; decide)
  have n20 := strEq hN
  clear hN
  have e7 := (one_cells HK7.out.pre.box).1
  go_wp2_with fail
  refine (KC.out _ (HE.out.kept HK7.out.pre.gr) HK7.out.pre.sc).mono ?_
  rintro e w8 ⟨hG8, hP8⟩
  cases ht : textsB 1 r with
  | none =>
   rw [ht] at hP8
   subst hP8
   exact ⟨rfl, .bad (HK7.out.pre.gr.trans hG8) (by rw [HOO.out, ht]; rfl)⟩
  | some p =>
   obtain ⟨l, r8⟩ := p
   have hl := (textsB_len ht).2.1
   obtain ⟨x, rfl⟩ : ∃ x, l = [x] := List.length_eq_one_iff.1 hl
   rw [ht] at hP8
   obtain ⟨u8, rfl, hO8, hS8⟩ := hP8
   have HO := Lib.hid (show oo = some (KeyP.mk N x [] 0 [] [], r8, k + 1) by rw [HOO.out, ht]; rfl)
   have HK8 := Lib.hid (HK7.out.step hG8 hS8)
   obtain ⟨A8, c8, hu8, _⟩ := rowC_own hO8
   subst hu8
   obtain ⟨b8, hA8, _, hc8⟩ := rowC_first (rowC_own hO8) (by simp)
   subst hA8
   have x0 : w8.cell? ⟨b8, 0, none⟩ = some (.string (str x)) := hc8 0 _ rfl
   have HK9 := Lib.hid (HK8.out.setI 1 (.string (str x)) rfl)
   clear hG8 hS8 hO8 e7 ht hl hc8
   simp only [List.length_singleton]
   obtain ⟨⟨a0, a1, a2, a3, a4, a5⟩, e0, e1, e2, e3, e4, e5⟩ := six_cells HK8.out.xb
   obtain ⟨⟨b0, b1, b2, b3, b4, b5⟩, g0, g1, g2, g3, g4, g5⟩ := six_cells HK8.out.pre.res
   have hz7 := HP6.out.room
   have hne : ¬ (w.heap.size + 1 = w6.heap.size) := by omega
   have hne2 : ¬ (w6.heap.size = w.heap.size + 1) := by omega
   go_wp2
   refine bodyPost_ret (v := _) ?_ rfl (KyPre.fin (x := .mk N x [] 0 [] []) (As := none) (cs := 0) (Ak := none) (ck := 0) (kcs := []) HK9.out.pre HO.out (set6 _ _ _ _ _ _ _ _ _ _ _ _ _ _ _ HK9.out.pre.res).2 (keyAt_bare _ _ N x [] 0))
   rw [results_cell_one rfl]
   simp [go_sem, b0, b1, b2, b3, b4, b5, hne2]
   exact ⟨rfl, rfl, rfl, rfl, rfl, rfl⟩
 ·
  obtain ⟨n0, n1, n2, n3, n4, n5, n6, n7, n8, n9, n10, n11, n12, n13, n14, n15, n16, n17, n18, n19, n20, _⟩ := notAll (N := N) (Ls := kNs.take 21) (by rw [hN]; decide)
  have n21 := strEq hN
  clear hN
  have e7 := (one_cells HK7.out.pre.box).1
  go_wp2_with fail
  refine (KC.out _ (HE.out.kept HK7.out.pre.gr) HK7.out.pre.sc).mono ?_
  rintro e w8 ⟨hG8, hP8⟩
  cases ht : textsB 1 r with
  | none =>
   rw [ht] at hP8
   subst hP8
   exact ⟨rfl, .bad (HK7.out.pre.gr.trans hG8) (by rw [HOO.out, ht]; rfl)⟩
  | some p =>
   obtain ⟨l, r8⟩ := p
   have hl := (textsB_len ht).2.1
   obtain ⟨x, rfl⟩ : ∃ x, l = [x] := List.length_eq_one_iff.1 hl
   rw [ht] at hP8
   obtain ⟨u8, rfl, hO8, hS8⟩ := hP8
   have HO := Lib.hid (show oo = some (KeyP.mk N x [] 0 [] [], r8, k + 1) by rw [HOO.out, ht]; rfl)
   have HK8 := Lib.hid (HK7.out.step hG8 hS8)
   obtain ⟨A8, c8, hu8, _⟩ := rowC_own hO8
   subst hu8
   obtain ⟨b8, hA8, _, hc8⟩ := rowC_first (rowC_own hO8) (by simp)
   subst hA8
   have x0 : w8.cell? ⟨b8, 0, none⟩ = some (.string (str x)) := hc8 0 _ rfl
   have HK9 := Lib.hid (HK8.out.setI 1 (.string (str x)) rfl)
   clear hG8 hS8 hO8 e7 ht hl hc8
   simp only [List.length_singleton]
   obtain ⟨⟨a0, a1, a2, a3, a4, a5⟩, e0, e1, e2, e3, e4, e5⟩ := six_cells HK8.out.xb
   obtain ⟨⟨b0, b1, b2, b3, b4, b5⟩, g0, g1, g2, g3, g4, g5⟩ := six_cells HK8.out.pre.res
   have hz7 := HP6.out.room
   have hne : ¬ (w.heap.size + 1 = w6.heap.size) := by omega
   have hne2 : ¬ (w6.heap.size = w.heap.size + 1) := by omega
   go_wp2
   refine bodyPost_ret (v := _) ?_ rfl (KyPre.fin (x := .mk N x [] 0 [] []) (As := none) (cs := 0) (Ak := none) (ck := 0) (kcs := []) HK9.out.pre HO.out (set6 _ _ _ _ _ _ _ _ _ _ _ _ _ _ _ HK9.out.pre.res).2 (keyAt_bare _ _ N x [] 0))
   rw [results_cell_one rfl]
   simp [go_sem, b0, b1, b2, b3, b4, b5, hne2]
   exact ⟨rfl, rfl, rfl, rfl, rfl, rfl⟩
 ·
  obtain ⟨n0, n1, n2, n3, n4, n5, n6, n7, n8, n9, n10, n11, n12, n13, n14, n15, n16, n17, n18, n19, n20, n21, _⟩ := notAll (N := N) (Ls := kNs.take 22) (by rw [hN]; decide)
  have n22 := strEq hN
  clear hN
  have e7 := (one_cells HK7.out.pre.box).1
  go_wp2_with fail
  refine (KC.out _ (HE.out.kept HK7.out.pre.gr) HK7.out.pre.sc).mono ?_
  rintro e w8 ⟨hG8, hP8⟩
  cases ht : textsB 1 r with
  | none =>
   rw [ht] at hP8
   subst hP8
   exact ⟨rfl, .bad (HK7.out.pre.gr.trans hG8) (by rw [HOO.out, ht]; rfl)⟩
  | some p =>
   obtain ⟨l, r8⟩ := p
   have hl := (textsB_len ht).2.1
   obtain ⟨x, rfl⟩ : ∃ x, l = [x] := List.length_eq_one_iff.1 hl
   rw [ht] at hP8
   obtain ⟨u8, rfl, hO8, hS8⟩ := hP8
   have HO := Lib.hid (show oo = some (KeyP.mk N x [] 0 [] [], r8, k + 1) by rw [HOO.out, ht]; rfl)
   have HK8 := Lib.hid (HK7.out.step hG8 hS8)
   obtain ⟨A8, c8, hu8, _⟩ := rowC_own hO8
   subst hu8
   obtain ⟨b8, hA8, _, hc8⟩ := rowC_first (rowC_own hO8) (by simp)
   subst hA8
   have x0 : w8.cell? ⟨b8, 0, none⟩ = some (.string (str x)) := hc8 0 _ rfl
   have HK9 := Lib.hid (HK8.out.setI 1 (.string (str x)) rfl)
   clear hG8 hS8 hO8 e7 ht hl hc8
   simp only [List.length_singleton]
   obtain ⟨⟨a0, a1, a2, a3, a4, a5⟩, e0, e1, e2, e3, e4, e5⟩ := six_cells HK8.out.xb
   obtain ⟨⟨b0, b1, b2, b3, b4, b5⟩, g0, g1, g2, g3, g4, g5⟩ := six_cells HK8.out.pre.res
   have hz7 := HP6.out.room
   have hne : ¬ (w.heap.size + 1 = w6.heap.size) := by omega
   have hne2 : ¬ (w6.heap.size = w.heap.size + 1) := by omega
   go_wp2
   refine bodyPost_ret (v := _) ?_ rfl (KyPre.fin (x := .mk N x [] 0 [] []) (As := none) (cs := 0) (Ak := none) (ck := 0) (kcs := []) HK9.out.pre HO.out (set6 _ _ _ _ _ _ _ _ _ _ _ _ _ _ _ HK9.out.pre.res).2 (keyAt_bare _ _ N x [] 0))
   rw [results_cell_one rfl]
   simp [go_sem, b0, b1, b2, b3, b4, b5, hne2]
   exact ⟨rfl, rfl, rfl, rfl, rfl, rfl⟩
 ·
  obtain ⟨n0, n1, n2, n3, n4, n5, n6, n7, n8, n9, n10, n11, n12, n13, n14, n15, n16, n17, n18, n19, n20, n21, n22, _⟩ := notAll (N := N) (Ls := kNs.take 23) (by rw [hN]; decide)
  have n23 := strEq hN
  clear hN
  have e7 := (one_cells HK7.out.pre.box).1
  go_wp2_with fail
  refine (KC.out _ (HE.out.kept HK7.out.pre.gr) HK7.out.pre.sc).mono ?_
  rintro e w8 ⟨hG8, hP8⟩
  cases ht : textsB 1 r with
  | none =>
   rw [ht] at hP8
   subst hP8
   exact ⟨rfl, .bad (HK7.out.pre.gr.trans hG8) (by rw [HOO.out, ht]; rfl)⟩
  | some p =>
   obtain ⟨l, r8⟩ := p
   have hl := (textsB_len ht).2.1
   obtain ⟨x, rfl⟩ : ∃ x, l = [x] := List.length_eq_one_iff.1 hl
   rw [ht] at hP8
   obtain ⟨u8, rfl, hO8, hS8⟩ := hP8
   have HO := Lib.hid (show oo = some (KeyP.mk N x [] 0 [] [], r8, k + 1) by rw [HOO.out, ht]; rfl)
   have HK8 := Lib.hid (HK7.out.step hG8 hS8)
   obtain ⟨A8, c8, hu8, _⟩ := rowC_own hO8
   subst hu8
   obtain ⟨b8, hA8, _, hc8⟩ := rowC_first (rowC_own hO8) (by simp)
   subst hA8
   have x0 : w8.cell? ⟨b8, 0, none⟩ = some (.string (str x)) := hc8 0 _ rfl
   have HK9 := Lib.hid (HK8.out.setI 1 (.string (str x)) rfl)
   clear hG8 hS8 hO8 e7 ht hl hc8
   simp only [List.length_singleton]
   obtain ⟨⟨a0, a1, a2, a3, a4, a5⟩, e0, e1, e2, e3, e4, e5⟩ := six_cells HK8.out.xb
   obtain ⟨⟨b0, b1, b2, b3, b4, b5⟩, g0, g1, g2, g3, g4, g5⟩ := six_cells HK8.out.pre.res
   have hz7 := HP6.out.room
   have hne : ¬ (w.heap.size + 1 = w6.heap.size) := by omega
   have hne2 : ¬ (w6.heap.size = w.heap.size + 1) := by omega
   go_wp2
   refine bodyPost_ret (v := _) ?_ rfl (KyPre.fin (x := .mk N x [] 0 [] []) (As := none) (cs := 0) (Ak := none) (ck := 0) (kcs := []) HK9.out.pre HO.out (set6 _ _ _ _ _ _ _ _ _ _ _ _ _ _ _ HK9.out.pre.res).2 (keyAt_bare _ _ N x [] 0))
   rw [results_cell_one rfl]
   simp [go_sem, b0, b1, b2, b3, b4, b5, hne2]
   exact ⟨rfl, rfl, rfl, rfl, rfl, rfl⟩
 ·
  obtain ⟨n0, n1, n2, n3, n4, n5, n6, n7, n8, n9, n10, n11, n12, n13, n14, n15, n16, n17, n18, n19, n20, n21, n22, n23, _⟩ := notAll (N := N) (Ls := kNs.take 24) (by rw [hN]; decide)
  have n24 := strEq hN
  clear hN
  have e7 := (one_cells HK7.out.pre.box).1
  go_wp2_with fail
  refine (KC.out _ (HE.out.kept HK7.out.pre.gr) HK7.out.pre.sc).mono ?_
  rintro e w8 ⟨hG8, hP8⟩
  cases ht : textsB 1 r with
  | none =>
   rw [ht] at hP8
   subst hP8
   exact ⟨rfl, .bad (HK7.out.pre.gr.trans hG8) (by rw [HOO.out, ht]; rfl)⟩
  | some p =>
   obtain ⟨l, r8⟩ := p
   have hl := (textsB_len ht).2.1
   obtain ⟨x, rfl⟩ : ∃ x, l = [x] := List.length_eq_one_iff.1 hl
   rw [ht] at hP8
   obtain ⟨u8, rfl, hO8, hS8⟩ := hP8
   have HO := Lib.hid (show oo = some (KeyP.mk N x [] 0 [] [], r8, k + 1) by rw [HOO.out, ht]; rfl)
   have HK8 := Lib.hid (HK7.out.step hG8 hS8)
   obtain ⟨A8, c8, hu8, _⟩ := rowC_own hO8
   subst hu8
   obtain ⟨b8, hA8, _, hc8⟩ := rowC_first (rowC_own hO8) (by simp)
   subst hA8
   have x0 : w8.cell? ⟨b8, 0, none⟩ = some (.string (str x)) := hc8 0 _ rfl
   have HK9 := Lib.hid (HK8.out.setI 1 (.string (str x)) rfl)
   clear hG8 hS8 hO8 e7 ht hl hc8
   simp only [List.length_singleton]
   obtain ⟨⟨a0, a1, a2, a3, a4, a5⟩, e0, e1, e2, e3, e4, e5⟩ := six_cells HK8.out.xb
   obtain ⟨⟨b0, b1, b2, b3, b4, b5⟩, g0, g1, g2, g3, g4, g5⟩ := six_cells HK8.out.pre.res
   have hz7 := HP6.out.room
   have hne : ¬ (w.heap.size + 1 = w6.heap.size) := by omega
   have hne2 : ¬ (w6.heap.size = w.heap.size + 1) := by omega
   go_wp2
   refine bodyPost_ret (v := _) ?_ rfl (KyPre.fin (x := .mk N x [] 0 [] []) (As := none) (cs := 0) (Ak := none) (ck := 0) (kcs := []) HK9.out.pre HO.out (set6 _ _ _ _ _ _ _ _ _ _ _ _ _ _ _ HK9.out.pre.res).2 (keyAt_bare _ _ N x [] 0))
   rw [results_cell_one rfl]
   simp [go_sem, b0, b1, b2, b3, b4, b5, hne2]
   exact ⟨rfl, rfl, rfl, rfl, rfl, rfl⟩
 ·
  obtain ⟨n0, n1, n2, n3, n4, n5, n6, n7, n8, n9, n10, n11, n12, n13, n14, n15, n16, n17, n18, n19, n20, n21, n22, n23, n24, _⟩ := notAll (N := N) (Ls := kNs.take 25) (by rw [hN]; decide)
  have n25 := strEq hN
  clear hN
  have e7 := (one_cells HK7.out.pre.box).1
  go_wp2_with fail
  refine (KC.out _ (HE.out.kept HK7.out.pre.gr) HK7.out.pre.sc).mono ?_
  rintro e w8 ⟨hG8, hP8⟩
  cases ht : textsB 1 r with
  | none =>
   rw [ht] at hP8
   subst hP8
   exact ⟨rfl, .bad (HK7.out.pre.gr.trans hG8) (by rw [HOO.out, ht]; rfl)⟩
  | some p =>
   obtain ⟨l, r8⟩ := p
   have hl := (textsB_len ht).2.1
   obtain ⟨x, rfl⟩ : ∃ x, l = [x] := List.length_eq_one_iff.1 hl
   rw [ht] at hP8
   obtain ⟨u8, rfl, hO8, hS8⟩ := hP8
   have HO := Lib.hid (show oo = some (KeyP.mk N x [] 0 [] [], r8, k + 1) by rw [HOO.out, ht]; rfl)
   have HK8 := Lib.hid (HK7.out.step hG8 hS8)
   obtain ⟨A8, c8, hu8, _⟩ := rowC_own hO8
   subst hu8
   obtain ⟨b8, hA8, _, hc8⟩ := rowC_first (rowC_own hO8) (by simp)
   subst hA8
   have x0 : w8.cell? ⟨b8, 0, none⟩ = some (.string (str x)) := hc8 0 _ rfl
   have HK9 := Lib.hid (HK8.out.setI 1 (.string (str x)) rfl)
   clear hG8 hS8 hO8 e7 ht hl hc8
   simp only [List.length_singleton]
   obtain ⟨⟨a0, a1, a2, a3, a4, a5⟩, e0, e1, e2, e3, e4, e5⟩ := six_cells HK8.out.xb
   obtain ⟨⟨b0, b1, b2, b3, b4, b5⟩, g0, g1, g2, g3, g4, g5⟩ := six_cells HK8.out.pre.res
   have hz7 := HP6.out.room
   have hne : ¬ (w.heap.size + 1 = w6.heap.size) := by omega
   have hne2 : ¬ (w6.heap.size = w.heap.size + 1) := by omega
   go_wp2
   refine bodyPost_ret (v := _) ?_ rfl (KyPre.fin (x := .mk N x [] 0 [] []) (As := none) (cs := 0) (Ak := none) (ck := 0) (kcs := []) HK9.out.pre HO.out (set6 _ _ _ _ _ _ _ _ _ _ _ _ _ _ _ HK9.out.pre.res).2 (keyAt_bare _ _ N x [] 0))
   rw [results_cell_one rfl]
   simp [go_sem, b0, b1, b2, b3, b4, b5, hne2]
   exact ⟨rfl, rfl, rfl, rfl, rfl, rfl⟩
open Go.RowKit
open Pl (Bs idxB numOk numN setOk setL)
attribute [local go_sem ↓] Go.wp_at_zero Go.wp_at_succ
def numR (r : Bs) : Option (Int × Bs) :=
 match isB [32] r with
 | none => none
 | some r1 => match wordB [] r1 with
  | none => none
  | some (x, r8) => match countB x 2147483648 with
   | none => none
   | some n => some ((n : Int), r8)
theorem numR_0 {r : Bs} (h : isB [32] r = none) : numR r = none := by unfold numR; rw [h]
theorem numR_1 {r r1 : Bs} (h : isB [32] r = some r1) (h1 : wordB [] r1 = none) : numR r = none := by unfold numR; rw [h]; dsimp only; rw [h1]
theorem numR_2 {r r1 x r8 : Bs} (h : isB [32] r = some r1) (h1 : wordB [] r1 = some (x, r8)) (h2 : countB x 2147483648 = none) : numR r = none := by unfold numR; rw [h]; dsimp only; rw [h1]; dsimp only; rw [h2]
theorem numR_3 {r r1 x r8 : Bs} {n : Nat} (h : isB [32] r = some r1) (h1 : wordB [] r1 = some (x, r8)) (h2 : countB x 2147483648 = some n) : numR r = some ((n : Int), r8) := by unfold numR; rw [h]; dsimp only; rw [h1]; dsimp only; rw [h2]
end Go.Proofs.YtgmfhldfdnnafaaGreatDoor
