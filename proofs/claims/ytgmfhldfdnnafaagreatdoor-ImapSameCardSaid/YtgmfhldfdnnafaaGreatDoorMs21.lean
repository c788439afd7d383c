/- A part of the proofs of the statements on chapter 21: walks of functions that they reach, and plain laws. What is proved is stated in the last text. Conditions: none of its own. -/
import Derived.Test.YtgmfhldfdnnafaaGreatDoorMs20
set_option maxHeartbeats 8000000
set_option maxRecDepth 100000
set_option linter.unusedSimpArgs false
set_option linter.unusedVariables false
namespace Go.Proofs.YtgmfhldfdnnafaaGreatDoor
open Go.RowKit
open Pl (Bs idxB numOk numN setOk setL)
attribute [local go_sem ↓] Go.wp_at_zero Go.wp_at_succ
theorem key_larger (G : Glob) (B k : Nat) (s W0 r N : Bs) (hk : k + 1 ≤ 50) (hp : isB [40] s = none) (hw : wordB [37, 42] s = some (W0, r)) (hnm : largeL W0 = N) (hN : N = [76, 65, 82, 71, 69, 82]) (w : World) (hE : EnvI G w B) (h : Scn w B s k) :
  Calls Tryz.prog 106 #[scP B] w (KeyPost w B ((numR r).map fun p => (KeyP.mk N [] [] p.1 [] [], p.2, k + 1))) := by
 generalize hoo : ((numR r).map fun p => (KeyP.mk N [] [] p.1 [] [], p.2, k + 1)) = oo
 have HOO := Lib.hid hoo.symm
 have HNN := Lib.hid hN
 clear hoo hN
 have HPre := Lib.hid (KyPre.start h (by omega))
 have hk1 : ((k : Int) + 1 ≤ 50) := by omega
 have hb : ¬ (B = w.heap.size) := by have := h.lt; omega
 have hb2 : ¬ (B = w.heap.size + 1) := by have := h.lt; omega
 obtain ⟨c0, c1, f0, f1⟩ := h.cells
 have KP : Hid (∀ W, Calls Tryz.prog 99 #[.string (str s), .string ⟨#[40]⟩] W _) := Lib.hid (fun W => hasPre_no hp W)
 have KW : Hid (∀ W, Scn W B s (k + 1) → Calls Tryz.prog 26 #[scP B, .string ⟨#[37, 42]⟩] W _) := Lib.hid (fun W hW => word_ok B [37, 42] s W0 r (k + 1) hw W hW)
 have hlen := wordB_len hw
 have hsm := h.small
 have hlt := h.lt
 have KL : Hid (∀ W, Calls Tryz.prog 29 #[.string (str W0)] W fun e w' => e = .returned (.string (str N)) ∧ Below W.heap.size W w') := Lib.hid (fun W => by have K := large_walk21 W0 (by omega) W; rw [hnm] at K; exact K)
 have HE := Lib.hid hE
 clear hw hp h hE hnm
 go_enter Tryz.func106, Tryz.ntmps106
 go_wp2_with fail
 generalize ((w.setCell ⟨B, 1, none⟩ (.int .i64 ((k : Int) + 1))).alloc (Obj.cells #[scP B] 62)).alloc (Obj.cells #[.string ⟨#[]⟩, .string ⟨#[]⟩, .string ⟨#[]⟩, .int .i64 0, .slice none 0 0, .slice none 0 0] 51) = w2 at HPre ⊢
 clear c0 c1 f0 f1
 have HPd := Lib.hid HPre.out.draw
 have d0 := (one_cells HPre.out.box).1
 obtain ⟨_, d1, _, _⟩ := HPre.out.sc.cells
 have hcast : ((k + 1 : Nat) : Int) = (k : Int) + 1 := by omega
 rw [hcast] at d1
 clear hcast
 have D0 := Lib.hid (show w2.drew.cell? ⟨w.heap.size, 0, none⟩ = some (scP B) ∧ w2.drew.cell? ⟨B, 1, none⟩ = some (.int .i64 ((k : Int) + 1)) from ⟨d0, d1⟩)
 go_region_held3 (fun W => W.cell? ⟨w.heap.size, 0, none⟩ = some (scP B) ∧ W.cell? ⟨B, 1, none⟩ = some (.int .i64 ((k : Int) + 1)))
  (first | exact D0.out)
  (first
   | (go_at_call 27; refine (must_walk B _).mono ?_; rintro e w' ⟨rfl, rfl⟩))
 generalize w2.drew = w3 at *
 clear d0 d1 D0
 have d0 := (one_cells HPd.out.box).1
 obtain ⟨d1, _, _, _⟩ := HPd.out.sc.cells
 go_wp2_with fail
 refine (KP.out _).mono ?_
 rintro e w4 ⟨rfl, rfl⟩
 go_wp2_with fail
 refine (KW.out _ HPd.out.sc).mono ?_
 rintro e w5 ⟨rfl, hS5, hG5⟩
 have HP5 := Lib.hid (HPd.out.step hG5 hS5)
 clear hS5 hG5 d0 d1
 go_wp2_with fail
 refine (KL.out _).mono ?_
 rintro e w6 ⟨rfl, hB6⟩
 have HP6 := Lib.hid (HP5.out.below hB6)
 have HK7 := Lib.hid (HP6.out.name (str N))
 clear hB6
 have hN := HNN.out
 obtain ⟨n0, n1, n2, n3, n4, n5, n6, n7, n8, n9, n10, n11, n12, n13, n14, n15, n16, _⟩ := notAll (N := N) (Ls := kNs.take 17) (by rw [hN]; decide)
 have n17 := strEq hN
 clear hN
 cases hb1 : isB [32] r with
 | none =>
  have HO := Lib.hid (show oo = none by rw [HOO.out, numR_0 hb1]; rfl)
  have KB := Lib.hid (fun W hS => blank_no B r (k + 1) hb1 W hS)
  clear hb1 HOO
  have e7 := (one_cells HK7.out.pre.box).1
  go_wp2_with fail
  refine (KB.out _ HK7.out.pre.sc).mono ?_
  rintro e w8 ⟨rfl, hG8⟩
  exact ⟨rfl, .bad (HK7.out.pre.gr.trans hG8) HO.out⟩
 | some r1 =>
  have KB := Lib.hid (fun W hS => blank_ok B r r1 (k + 1) hb1 W hS)
  have hl1 := isB_len hb1
  have KW2 : Hid (∀ W, Scn W B r1 (k + 1) → Calls Tryz.prog 26 #[scP B, .string ⟨#[]⟩] W _) := Lib.hid (fun W hW => word_walk B (k + 1) [] r1 W hW)
  cases hw2 : wordB [] r1 with
  | none =>
   have HO := Lib.hid (show oo = none by rw [HOO.out, numR_1 hb1 hw2]; rfl)
   have HW2 := Lib.hid hw2
   clear hb1 hw2 HOO
   have e7 := (one_cells HK7.out.pre.box).1
   go_wp2_with fail
   refine (KB.out _ HK7.out.pre.sc).mono ?_
   rintro e w8 ⟨rfl, hS8, hG8⟩
   have HK8 := Lib.hid (HK7.out.step hG8 hS8)
   clear hG8 hS8 e7 KB
   have HKd := Lib.hid (HK8.out.step (k1 := k + 1) (grown_dr _ _) (HK8.out.pre.sc.draws 1))
   have e7 := (one_cells HKd.out.pre.box).1
   go_wp2_with fail
   refine wp_region_any (by kernel_rfl) ?_
   change wpAny _ _ _ _ _ _ _ (World.drew _)
   refine wpAny_ready (rs := [0, 1]) (by kernel_rfl) (by simp) ?_
   refine AllReady.cons rfl (fun K9 hK9 => ?_) ?_
   ·
    go_simp
    refine hK9 _ _ ?_
    clear hK9 K9
    refine wpAny_ready (rs := [1]) (by kernel_rfl) (by simp) ?_
    refine AllReady.cons rfl (fun K9 hK9 => ?_) ?_
    ·
     go_simp
     refine hK9 _ _ ?_
     clear hK9 K9
     refine wpAny_ready (rs := [2]) (by kernel_rfl) (by simp) ?_
     refine AllReady.cons rfl (fun K9 hK9 => ?_) ?_
     ·
      go_simp
      refine (KW2.out _ HKd.out.pre.sc).mono ?_
      rintro e w9 hP
      rcases hP.split with ⟨_, rfl, hG9⟩ | ⟨x, r9, ho, _⟩
      ·
       exact ⟨rfl, .bad (HKd.out.pre.gr.trans hG9) HO.out⟩
      ·
       rw [HW2.out] at ho; cases ho
     exact AllReady.nil
    exact AllReady.nil
   refine AllReady.cons rfl (fun K9 hK9 => ?_) ?_
   ·
    go_simp
    refine hK9 _ _ ?_
    clear hK9 K9
    refine wpAny_ready (rs := [0, 2]) (by kernel_rfl) (by simp) ?_
    refine AllReady.cons rfl (fun K9 hK9 => ?_) ?_
    ·
     go_simp
     refine hK9 _ _ ?_
     clear hK9 K9
     refine wpAny_ready (rs := [2]) (by kernel_rfl) (by simp) ?_
     refine AllReady.cons rfl (fun K9 hK9 => ?_) ?_
     ·
      go_simp
      refine (KW2.out _ HKd.out.pre.sc).mono ?_
      rintro e w9 hP
      rcases hP.split with ⟨_, rfl, hG9⟩ | ⟨x, r9, ho, _⟩
      ·
       exact ⟨rfl, .bad (HKd.out.pre.gr.trans hG9) HO.out⟩
      ·
       rw [HW2.out] at ho; cases ho
     exact AllReady.nil
    refine AllReady.cons rfl (fun K9 hK9 => ?_) ?_
    ·
     go_simp
     refine (KW2.out _ HKd.out.pre.sc).mono ?_
     rintro e w9 hP
     rcases hP.split with ⟨_, rfl, hG9⟩ | ⟨x, r9, ho, _⟩
     ·
      exact ⟨rfl, .bad (HKd.out.pre.gr.trans hG9) HO.out⟩
     ·
      rw [HW2.out] at ho; cases ho
    exact AllReady.nil
   exact AllReady.nil
  | some p2 =>
   obtain ⟨X, r8⟩ := p2
   have hl2 := wordB_len hw2
   have hx6 : X.length ≤ 1000000 := by simp only [List.length_singleton] at *; omega
   have KN := Lib.hid (fun W hW => rnumber_walk G B X hx6 W hW)
   cases hc2 : countB X 2147483648 with
   | none =>
    have HO := Lib.hid (show oo = none by rw [HOO.out, numR_2 hb1 hw2 hc2]; rfl)
    have HW2 := Lib.hid hw2
    rw [hc2] at KN
    clear hb1 hw2 hc2 HOO
    have e7 := (one_cells HK7.out.pre.box).1
    go_wp2_with fail
    refine (KB.out _ HK7.out.pre.sc).mono ?_
    rintro e w8 ⟨rfl, hS8, hG8⟩
    have HK8 := Lib.hid (HK7.out.step hG8 hS8)
    clear hG8 hS8 e7 KB
    have HKd := Lib.hid (HK8.out.step (k1 := k + 1) (grown_dr _ _) (HK8.out.pre.sc.draws 1))
    have e7 := (one_cells HKd.out.pre.box).1
    go_wp2_with fail
    refine wp_region_any (by kernel_rfl) ?_
    change wpAny _ _ _ _ _ _ _ (World.drew _)
    refine wpAny_ready (rs := [0, 1]) (by kernel_rfl) (by simp) ?_
    refine AllReady.cons rfl (fun K9 hK9 => ?_) ?_
    ·
     go_simp
     refine hK9 _ _ ?_
     clear hK9 K9
     refine wpAny_ready (rs := [1]) (by kernel_rfl) (by simp) ?_
     refine AllReady.cons rfl (fun K9 hK9 => ?_) ?_
     ·
      go_simp
      refine hK9 _ _ ?_
      clear hK9 K9
      refine wpAny_ready (rs := [2]) (by kernel_rfl) (by simp) ?_
      refine AllReady.cons rfl (fun K9 hK9 => ?_) ?_
      ·
       go_simp
       refine (KW2.out _ HKd.out.pre.sc).mono ?_
       rintro e w9 hP
       rcases hP.split with ⟨ho, _, _⟩ | ⟨x, r9, ho, rfl, hG9, hS9⟩
       ·
        rw [HW2.out] at ho; cases ho
       rw [HW2.out] at ho
       obtain ⟨rfl, rfl⟩ : X = x ∧ r8 = r9 := by simpa using ho
       have HK9 := Lib.hid (HKd.out.step hG9 hS9)
       clear hG9 hS9 ho hP e7
       have e7 := (one_cells HK9.out.pre.box).1
       refine hK9 _ _ ?_
       clear hK9 K9
       refine wpAny_ready (rs := [3]) (by kernel_rfl) (by simp) ?_
       refine AllReady.cons rfl (fun K9 hK9 => ?_) ?_
       ·
        go_simp
        refine (KN.out _ (HE.out.kept HK9.out.pre.gr)).mono ?_
        rintro e w10 ⟨hB10, he⟩
        subst he
        exact ⟨rfl, .bad (grown_then HK9.out.pre.gr hB10) HO.out⟩
       exact AllReady.nil
      exact AllReady.nil
     exact AllReady.nil
    refine AllReady.cons rfl (fun K9 hK9 => ?_) ?_
    ·
     go_simp
     refine hK9 _ _ ?_
     clear hK9 K9
     refine wpAny_ready (rs := [0, 2]) (by kernel_rfl) (by simp) ?_
     refine AllReady.cons rfl (fun K9 hK9 => ?_) ?_
     ·
      go_simp
      refine hK9 _ _ ?_
      clear hK9 K9
      refine wpAny_ready (rs := [2]) (by kernel_rfl) (by simp) ?_
      refine AllReady.cons rfl (fun K9 hK9 => ?_) ?_
      ·
       go_simp
       refine (KW2.out _ HKd.out.pre.sc).mono ?_
       rintro e w9 hP
       rcases hP.split with ⟨ho, _, _⟩ | ⟨x, r9, ho, rfl, hG9, hS9⟩
       ·
        rw [HW2.out] at ho; cases ho
       rw [HW2.out] at ho
       obtain ⟨rfl, rfl⟩ : X = x ∧ r8 = r9 := by simpa using ho
       have HK9 := Lib.hid (HKd.out.step hG9 hS9)
       clear hG9 hS9 ho hP e7
       have e7 := (one_cells HK9.out.pre.box).1
       refine hK9 _ _ ?_
       clear hK9 K9
       refine wpAny_ready (rs := [3]) (by kernel_rfl) (by simp) ?_
       refine AllReady.cons rfl (fun K9 hK9 => ?_) ?_
       ·
        go_simp
        refine (KN.out _ (HE.out.kept HK9.out.pre.gr)).mono ?_
        rintro e w10 ⟨hB10, he⟩
        subst he
        exact ⟨rfl, .bad (grown_then HK9.out.pre.gr hB10) HO.out⟩
       exact AllReady.nil
      exact AllReady.nil
     refine AllReady.cons rfl (fun K9 hK9 => ?_) ?_
     ·
      go_simp
      refine (KW2.out _ HKd.out.pre.sc).mono ?_
      rintro e w9 hP
      rcases hP.split with ⟨ho, _, _⟩ | ⟨x, r9, ho, rfl, hG9, hS9⟩
      ·
       rw [HW2.out] at ho; cases ho
      rw [HW2.out] at ho
      obtain ⟨rfl, rfl⟩ : X = x ∧ r8 = r9 := by simpa using ho
      have HK9 := Lib.hid (HKd.out.step hG9 hS9)
      clear hG9 hS9 ho hP e7
      have e7 := (one_cells HK9.out.pre.box).1
      refine hK9 _ _ ?_
      clear hK9 K9
      refine wpAny_ready (rs := [0]) (by kernel_rfl) (by simp) ?_
      refine AllReady.cons rfl (fun K9 hK9 => ?_) ?_
      ·
       go_simp
       refine hK9 _ _ ?_
       clear hK9 K9
       refine wpAny_ready (rs := [3]) (by kernel_rfl) (by simp) ?_
       refine AllReady.cons rfl (fun K9 hK9 => ?_) ?_
       ·
        go_simp
        refine (KN.out _ (HE.out.kept HK9.out.pre.gr)).mono ?_
        rintro e w10 ⟨hB10, he⟩
        subst he
        exact ⟨rfl, .bad (grown_then HK9.out.pre.gr hB10) HO.out⟩
       exact AllReady.nil
      exact AllReady.nil
     exact AllReady.nil
    exact AllReady.nil
   | some n =>
    have HO := Lib.hid (show oo = some (KeyP.mk N [] [] (n : Int) [] [], r8, k + 1) by rw [HOO.out, numR_3 hb1 hw2 hc2]; rfl)
    have HW2 := Lib.hid hw2
    rw [hc2] at KN
    clear hb1 hw2 hc2 HOO
    have e7 := (one_cells HK7.out.pre.box).1
    go_wp2_with fail
    refine (KB.out _ HK7.out.pre.sc).mono ?_
    rintro e w8 ⟨rfl, hS8, hG8⟩
    have HK8 := Lib.hid (HK7.out.step hG8 hS8)
    clear hG8 hS8 e7 KB
    have HKd := Lib.hid (HK8.out.step (k1 := k + 1) (grown_dr _ _) (HK8.out.pre.sc.draws 1))
    have e7 := (one_cells HKd.out.pre.box).1
    go_wp2_with fail
    refine wp_region_any (by kernel_rfl) ?_
    change wpAny _ _ _ _ _ _ _ (World.drew _)
    refine wpAny_ready (rs := [0, 1]) (by kernel_rfl) (by simp) ?_
    refine AllReady.cons rfl (fun K9 hK9 => ?_) ?_
    ·
     go_simp
     refine hK9 _ _ ?_
     clear hK9 K9
     refine wpAny_ready (rs := [1]) (by kernel_rfl) (by simp) ?_
     refine AllReady.cons rfl (fun K9 hK9 => ?_) ?_
     ·
      go_simp
      refine hK9 _ _ ?_
      clear hK9 K9
      refine wpAny_ready (rs := [2]) (by kernel_rfl) (by simp) ?_
      refine AllReady.cons rfl (fun K9 hK9 => ?_) ?_
      ·
       go_simp
       refine (KW2.out _ HKd.out.pre.sc).mono ?_
       rintro e w9 hP
       rcases hP.split with ⟨ho, _, _⟩ | ⟨x, r9, ho, rfl, hG9, hS9⟩
       ·
        rw [HW2.out] at ho; cases ho
       rw [HW2.out] at ho
       obtain ⟨rfl, rfl⟩ : X = x ∧ r8 = r9 := by simpa using ho
       have HK9 := Lib.hid (HKd.out.step hG9 hS9)
       clear hG9 hS9 ho hP e7
       have e7 := (one_cells HK9.out.pre.box).1
       refine hK9 _ _ ?_
       clear hK9 K9
       refine wpAny_ready (rs := [3]) (by kernel_rfl) (by simp) ?_
       refine AllReady.cons rfl (fun K9 hK9 => ?_) ?_
       ·
        go_simp
        refine (KN.out _ (HE.out.kept HK9.out.pre.gr)).mono ?_
        rintro e w10 ⟨hB10, he⟩
        subst he
        have HK10 := Lib.hid (HK9.out.step (k1 := k + 1) (grown_below hB10 _) (HK9.out.pre.sc.then hB10))
        have HK11 := Lib.hid (HK10.out.setI 3 (.int .i64 n) rfl)
        clear hB10 e7
        obtain ⟨⟨a0, a1, a2, a3, a4, a5⟩, e0, e1, e2, e3, e4, e5⟩ := six_cells HK10.out.xb
        have e7 := (one_cells HK10.out.pre.box).1
        refine hK9 _ _ ?_
        clear hK9 K9
        refine wpAny_ready (rs := [4]) (by kernel_rfl) (by simp) ?_
        refine AllReady.cons rfl (fun K9 hK9 => ?_) ?_
        ·
         go_simp
         refine hK9 _ _ ?_
         clear hK9 K9
         refine wpAny_ready (rs := [5]) (by kernel_rfl) (by simp) ?_
         refine AllReady.cons rfl (fun K9 hK9 => ?_) ?_
         ·
          go_simp
          refine hK9 _ _ ?_
          clear hK9 K9
          refine wpAny_done (by kernel_rfl) ?_ _
          generalize World.setCell _ ⟨w6.heap.size, 3, none⟩ _ = w11 at *
          obtain ⟨⟨a0, a1, a2, a3, a4, a5⟩, e0, e1, e2, e3, e4, e5⟩ := six_cells HK11.out.xb
          obtain ⟨⟨b0, b1, b2, b3, b4, b5⟩, g0, g1, g2, g3, g4, g5⟩ := six_cells HK11.out.pre.res
          go_wp2
          refine bodyPost_ret (v := _) ?_ rfl (KyPre.fin (x := .mk N [] [] n [] []) (As := none) (cs := 0) (Ak := none) (ck := 0) (kcs := []) HK11.out.pre HO.out (set6 _ _ _ _ _ _ _ _ _ _ _ _ _ _ _ HK11.out.pre.res).2 (keyAt_bare _ _ N [] [] n))
          rw [results_cell_one rfl]
          simp [go_sem, b0, b1, b2, b3, b4, b5]
          exact ⟨rfl, rfl, rfl, rfl, rfl, rfl⟩
         exact AllReady.nil
        exact AllReady.nil
       exact AllReady.nil
      exact AllReady.nil
     exact AllReady.nil
    refine AllReady.cons rfl (fun K9 hK9 => ?_) ?_
    ·
     go_simp
     refine hK9 _ _ ?_
     clear hK9 K9
     refine wpAny_ready (rs := [0, 2]) (by kernel_rfl) (by simp) ?_
     refine AllReady.cons rfl (fun K9 hK9 => ?_) ?_
     ·
      go_simp
      refine hK9 _ _ ?_
      clear hK9 K9
      refine wpAny_ready (rs := [2]) (by kernel_rfl) (by simp) ?_
      refine AllReady.cons rfl (fun K9 hK9 => ?_) ?_
      ·
       go_simp
       refine (KW2.out _ HKd.out.pre.sc).mono ?_
       rintro e w9 hP
       rcases hP.split with ⟨ho, _, _⟩ | ⟨x, r9, ho, rfl, hG9, hS9⟩
       ·
        rw [HW2.out] at ho; cases ho
       rw [HW2.out] at ho
       obtain ⟨rfl, rfl⟩ : X = x ∧ r8 = r9 := by simpa using ho
       have HK9 := Lib.hid (HKd.out.step hG9 hS9)
       clear hG9 hS9 ho hP e7
       have e7 := (one_cells HK9.out.pre.box).1
       refine hK9 _ _ ?_
       clear hK9 K9
       refine wpAny_ready (rs := [3]) (by kernel_rfl) (by simp) ?_
       refine AllReady.cons rfl (fun K9 hK9 => ?_) ?_
       ·
        go_simp
        refine (KN.out _ (HE.out.kept HK9.out.pre.gr)).mono ?_
        rintro e w10 ⟨hB10, he⟩
        subst he
        have HK10 := Lib.hid (HK9.out.step (k1 := k + 1) (grown_below hB10 _) (HK9.out.pre.sc.then hB10))
        have HK11 := Lib.hid (HK10.out.setI 3 (.int .i64 n) rfl)
        clear hB10 e7
        obtain ⟨⟨a0, a1, a2, a3, a4, a5⟩, e0, e1, e2, e3, e4, e5⟩ := six_cells HK10.out.xb
        have e7 := (one_cells HK10.out.pre.box).1
        refine hK9 _ _ ?_
        clear hK9 K9
        refine wpAny_ready (rs := [4]) (by kernel_rfl) (by simp) ?_
        refine AllReady.cons rfl (fun K9 hK9 => ?_) ?_
        ·
         go_simp
         refine hK9 _ _ ?_
         clear hK9 K9
         refine wpAny_ready (rs := [5]) (by kernel_rfl) (by simp) ?_
         refine AllReady.cons rfl (fun K9 hK9 => ?_) ?_
         ·
          go_simp
          refine hK9 _ _ ?_
          clear hK9 K9
          refine wpAny_done (by kernel_rfl) ?_ _
          generalize World.setCell _ ⟨w6.heap.size, 3, none⟩ _ = w11 at *
          obtain ⟨⟨a0, a1, a2, a3, a4, a5⟩, e0, e1, e2, e3, e4, e5⟩ := six_cells HK11.out.xb
          obtain ⟨⟨b0, b1, b2, b3, b4, b5⟩, g0, g1, g2, g3, g4, g5⟩ := six_cells HK11.out.pre.res
          go_wp2
          refine bodyPost_ret (v := _) ?_ rfl (KyPre.fin (x := .mk N [] [] n [] []) (As := none) (cs := 0) (Ak := none) (ck := 0) (kcs := []) HK11.out.pre HO.out (set6 _ _ _ _ _ _ _ _ _ _ _ _ _ _ _ HK11.out.pre.res).2 (keyAt_bare _ _ N [] [] n))
          rw [results_cell_one rfl]
          simp [go_sem, b0, b1, b2, b3, b4, b5]
          exact ⟨rfl, rfl, rfl, rfl, rfl, rfl⟩
         exact AllReady.nil
        exact AllReady.nil
       exact AllReady.nil
      exact AllReady.nil
     refine AllReady.cons rfl (fun K9 hK9 => ?_) ?_
     ·
      go_simp
      refine (KW2.out _ HKd.out.pre.sc).mono ?_
      rintro e w9 hP
      rcases hP.split with ⟨ho, _, _⟩ | ⟨x, r9, ho, rfl, hG9, hS9⟩
      ·
       rw [HW2.out] at ho; cases ho
      rw [HW2.out] at ho
      obtain ⟨rfl, rfl⟩ : X = x ∧ r8 = r9 := by simpa using ho
      have HK9 := Lib.hid (HKd.out.step hG9 hS9)
      clear hG9 hS9 ho hP e7
      have e7 := (one_cells HK9.out.pre.box).1
      refine hK9 _ _ ?_
      clear hK9 K9
      refine wpAny_ready (rs := [0]) (by kernel_rfl) (by simp) ?_
      refine AllReady.cons rfl (fun K9 hK9 => ?_) ?_
      ·
       go_simp
       refine hK9 _ _ ?_
       clear hK9 K9
       refine wpAny_ready (rs := [3]) (by kernel_rfl) (by simp) ?_
       refine AllReady.cons rfl (fun K9 hK9 => ?_) ?_
       ·
        go_simp
        refine (KN.out _ (HE.out.kept HK9.out.pre.gr)).mono ?_
        rintro e w10 ⟨hB10, he⟩
        subst he
        have HK10 := Lib.hid (HK9.out.step (k1 := k + 1) (grown_below hB10 _) (HK9.out.pre.sc.then hB10))
        have HK11 := Lib.hid (HK10.out.setI 3 (.int .i64 n) rfl)
        clear hB10 e7
        obtain ⟨⟨a0, a1, a2, a3, a4, a5⟩, e0, e1, e2, e3, e4, e5⟩ := six_cells HK10.out.xb
        have e7 := (one_cells HK10.out.pre.box).1
        refine hK9 _ _ ?_
        clear hK9 K9
        refine wpAny_ready (rs := [4]) (by kernel_rfl) (by simp) ?_
        refine AllReady.cons rfl (fun K9 hK9 => ?_) ?_
        ·
         go_simp
         refine hK9 _ _ ?_
         clear hK9 K9
         refine wpAny_ready (rs := [5]) (by kernel_rfl) (by simp) ?_
         refine AllReady.cons rfl (fun K9 hK9 => ?_) ?_
         ·
          go_simp
          refine hK9 _ _ ?_
          clear hK9 K9
          refine wpAny_done (by kernel_rfl) ?_ _
          generalize World.setCell _ ⟨w6.heap.size, 3, none⟩ _ = w11 at *
          obtain ⟨⟨a0, a1, a2, a3, a4, a5⟩, e0, e1, e2, e3, e4, e5⟩ := six_cells HK11.out.xb
          obtain ⟨⟨b0, b1, b2, b3, b4, b5⟩, g0, g1, g2, g3, g4, g5⟩ := six_cells HK11.out.pre.res
          go_wp2
          refine bodyPost_ret (v := _) ?_ rfl (KyPre.fin (x := .mk N [] [] n [] []) (As := none) (cs := 0) (Ak := none) (ck := 0) (kcs := []) HK11.out.pre HO.out (set6 _ _ _ _ _ _ _ _ _ _ _ _ _ _ _ HK11.out.pre.res).2 (keyAt_bare _ _ N [] [] n))
          rw [results_cell_one rfl]
          simp [go_sem, b0, b1, b2, b3, b4, b5]
          exact ⟨rfl, rfl, rfl, rfl, rfl, rfl⟩
         exact AllReady.nil
        exact AllReady.nil
       exact AllReady.nil
      exact AllReady.nil
     exact AllReady.nil
    exact AllReady.nil
open Go.RowKit
open Pl (Bs idxB numOk numN setOk setL)
attribute [local go_sem ↓] Go.wp_at_zero Go.wp_at_succ
theorem key_uid (G : Glob) (B k : Nat) (s W0 r N : Bs) (hk : k + 1 ≤ 50) (hp : isB [40] s = none) (hw : wordB [37, 42] s = some (W0, r)) (hnm : largeL W0 = N) (hN : N = [85, 73, 68]) (w : World) (hE : EnvI G w B) (h : Scn w B s k) :
  Calls Tryz.prog 106 #[scP B] w (KeyPost w B ((isB [32] r).bind fun r1 => (setB r1).map fun p => (KeyP.mk N [] [] 0 p.1 [], p.2, k + 1))) := by
 generalize hoo : ((isB [32] r).bind fun r1 => (setB r1).map fun p => (KeyP.mk N [] [] 0 p.1 [], p.2, k + 1)) = oo
 have HOO := Lib.hid hoo.symm
 have HNN := Lib.hid hN
 clear hoo hN
 have HPre := Lib.hid (KyPre.start h (by omega))
 have hk1 : ((k : Int) + 1 ≤ 50) := by omega
 have hb : ¬ (B = w.heap.size) := by have := h.lt; omega
 have hb2 : ¬ (B = w.heap.size + 1) := by have := h.lt; omega
 obtain ⟨c0, c1, f0, f1⟩ := h.cells
 have KP : Hid (∀ W, Calls Tryz.prog 99 #[.string (str s), .string ⟨#[40]⟩] W _) := Lib.hid (fun W => hasPre_no hp W)
 have KW : Hid (∀ W, Scn W B s (k + 1) → Calls Tryz.prog 26 #[scP B, .string ⟨#[37, 42]⟩] W _) := Lib.hid (fun W hW => word_ok B [37, 42] s W0 r (k + 1) hw W hW)
 have hlen := wordB_len hw
 have hsm := h.small
 have hlt := h.lt
 have KL : Hid (∀ W, Calls Tryz.prog 29 #[.string (str W0)] W fun e w' => e = .returned (.string (str N)) ∧ Below W.heap.size W w') := Lib.hid (fun W => by have K := large_walk21 W0 (by omega) W; rw [hnm] at K; exact K)
 have HE := Lib.hid hE
 clear hw hp h hE hnm
 go_enter Tryz.func106, Tryz.ntmps106
 go_wp2_with fail
 generalize ((w.setCell ⟨B, 1, none⟩ (.int .i64 ((k : Int) + 1))).alloc (Obj.cells #[scP B] 62)).alloc (Obj.cells #[.string ⟨#[]⟩, .string ⟨#[]⟩, .string ⟨#[]⟩, .int .i64 0, .slice none 0 0, .slice none 0 0] 51) = w2 at HPre ⊢
 clear c0 c1 f0 f1
 have HPd := Lib.hid HPre.out.draw
 have d0 := (one_cells HPre.out.box).1
 obtain ⟨_, d1, _, _⟩ := HPre.out.sc.cells
 have hcast : ((k + 1 : Nat) : Int) = (k : Int) + 1 := by omega
 rw [hcast] at d1
 clear hcast
 have D0 := Lib.hid (show w2.drew.cell? ⟨w.heap.size, 0, none⟩ = some (scP B) ∧ w2.drew.cell? ⟨B, 1, none⟩ = some (.int .i64 ((k : Int) + 1)) from ⟨d0, d1⟩)
 go_region_held3 (fun W => W.cell? ⟨w.heap.size, 0, none⟩ = some (scP B) ∧ W.cell? ⟨B, 1, none⟩ = some (.int .i64 ((k : Int) + 1)))
  (first | exact D0.out)
  (first
   | (go_at_call 27; refine (must_walk B _).mono ?_; rintro e w' ⟨rfl, rfl⟩))
 generalize w2.drew = w3 at *
 clear d0 d1 D0
 have d0 := (one_cells HPd.out.box).1
 obtain ⟨d1, _, _, _⟩ := HPd.out.sc.cells
 go_wp2_with fail
 refine (KP.out _).mono ?_
 rintro e w4 ⟨rfl, rfl⟩
 go_wp2_with fail
 refine (KW.out _ HPd.out.sc).mono ?_
 rintro e w5 ⟨rfl, hS5, hG5⟩
 have HP5 := Lib.hid (HPd.out.step hG5 hS5)
 clear hS5 hG5 d0 d1
 go_wp2_with fail
 refine (KL.out _).mono ?_
 rintro e w6 ⟨rfl, hB6⟩
 have HP6 := Lib.hid (HP5.out.below hB6)
 have HK7 := Lib.hid (HP6.out.name (str N))
 clear hB6
 have hN := HNN.out
 obtain ⟨n0, n1, n2, n3, n4, n5, n6, n7, n8, n9, n10, n11, n12, n13, n14, n15, n16, n17, n18, n19, n20, n21, n22, n23, n24, n25, n26, n27, n28, _⟩ := notAll (N := N) (Ls := kNs.take 29) (by rw [hN]; decide)
 have n29 := strEq hN
 clear hN
 cases hb1 : isB [32] r with
 | none =>
  have HO := Lib.hid (show oo = none by rw [HOO.out, hb1]; rfl)
  have KB := Lib.hid (fun W hS => blank_no B r (k + 1) hb1 W hS)
  clear hb1 HOO
  have e7 := (one_cells HK7.out.pre.box).1
  go_wp2_with fail
  refine (KB.out _ HK7.out.pre.sc).mono ?_
  rintro e w8 ⟨rfl, hG8⟩
  exact ⟨rfl, .bad (HK7.out.pre.gr.trans hG8) HO.out⟩
 | some r1 =>
  have KB := Lib.hid (fun W hS => blank_ok B r r1 (k + 1) hb1 W hS)
  have HO1 := Lib.hid (show oo = (setB r1).map fun p => (KeyP.mk N [] [] 0 p.1 [], p.2, k + 1) by rw [HOO.out, hb1]; rfl)
  have KC : Hid (∀ W, EnvI G W B → Scn W B r1 (k + 1) → Calls Tryz.prog 75 #[scP B] W _) := Lib.hid (fun W hE hS => rset_walk G B (k + 1) r1 W hE hS)
  clear hb1 HOO
  have e7 := (one_cells HK7.out.pre.box).1
  go_wp2_with fail
  refine (KB.out _ HK7.out.pre.sc).mono ?_
  rintro e w8 ⟨rfl, hS8, hG8⟩
  have HK8 := Lib.hid (HK7.out.step hG8 hS8)
  clear hG8 hS8 e7 KB
  have e7 := (one_cells HK8.out.pre.box).1
  go_wp2_with fail
  refine (KC.out _ (HE.out.kept HK8.out.pre.gr) HK8.out.pre.sc).mono ?_
  rintro e w9 ⟨hG9, hP9⟩
  cases ht : setB r1 with
  | none =>
   rw [ht] at hP9
   subst hP9
   exact ⟨rfl, .bad (HK8.out.pre.gr.trans hG9) (by rw [HO1.out, ht]; rfl)⟩
  | some p =>
   obtain ⟨l, r9⟩ := p
   rw [ht] at hP9
   obtain ⟨u9, rfl, hO9, hS9⟩ := hP9
   have HO := Lib.hid (show oo = some (KeyP.mk N [] [] 0 l [], r9, k + 1) by rw [HO1.out, ht]; rfl)
   have HK9 := Lib.hid (HK8.out.step hG9 hS9)
   obtain ⟨A9, c9, hu9, _⟩ := rowC_own hO9
   subst hu9
   have hz7 := HP6.out.room
   have hz8 := HK7.out.hlt
   have hz9 : w6.heap.size < w8.heap.size := (Array.getElem?_eq_some_iff.1 HK8.out.xb).1
   have HR9 : Hid (RowC w9 (fun i => w8.heap.size ≤ i ∧ i < w9.heap.size) (.slice A9 l.length c9) l.length (flat l)) := Lib.hid (rowC_own hO9)
   have HK10 := Lib.hid (HK9.out.setI 4 (.slice A9 l.length c9) rfl)
   clear hG9 hS9 hO9 e7 ht
   obtain ⟨⟨a0, a1, a2, a3, a4, a5⟩, e0, e1, e2, e3, e4, e5⟩ := six_cells HK9.out.xb
   obtain ⟨⟨b0, b1, b2, b3, b4, b5⟩, g0, g1, g2, g3, g4, g5⟩ := six_cells HK9.out.pre.res
   have hne : ¬ (w.heap.size + 1 = w6.heap.size) := by omega
   have hne2 : ¬ (w6.heap.size = w.heap.size + 1) := by omega
   have hz3 : w.heap.size + 3 ≤ w8.heap.size := by omega
   go_wp2
   refine bodyPost_ret (v := _) ?_ rfl (KyPre.fin (x := .mk N [] [] 0 l []) (As := A9) (cs := c9) (Ak := none) (ck := 0) (kcs := []) HK10.out.pre HO.out (set6 _ _ _ _ _ _ _ _ _ _ _ _ _ _ _ HK10.out.pre.res).2 ⟨?_, rowC_nil _ _ _, .nil⟩)
   ·
    rw [results_cell_one rfl]
    simp [go_sem, b0, b1, b2, b3, b4, b5, hne2]
    exact ⟨rfl, rfl, rfl, rfl, rfl, rfl⟩
   ·
    exact (HR9.out.kept (fun i hi => Below.heap_setCell _ _ _ _ (by dsimp only; omega))).more (fun i hi => ⟨by omega, by simpa using hi.2⟩)
open Go.RowKit
open Pl (Bs idxB numOk numN setOk setL)
attribute [local go_sem ↓] Go.wp_at_zero Go.wp_at_succ
theorem key_header (G : Glob) (B k : Nat) (s W0 r N : Bs) (hk : k + 1 ≤ 50) (hp : isB [40] s = none) (hw : wordB [37, 42] s = some (W0, r)) (hnm : largeL W0 = N) (hN : N = [72, 69, 65, 68, 69, 82]) (w : World) (hE : EnvI G w B) (h : Scn w B s k) :
  Calls Tryz.prog 106 #[scP B] w (KeyPost w B ((textsB 2 r).map fun p => (KeyP.mk N (p.1.getD 1 []) (p.1.getD 0 []) 0 [] [], p.2, k + 1))) := by
 generalize hoo : ((textsB 2 r).map fun p => (KeyP.mk N (p.1.getD 1 []) (p.1.getD 0 []) 0 [] [], p.2, k + 1)) = oo
 have HOO := Lib.hid hoo.symm
 have HNN := Lib.hid hN
 clear hoo hN
 have KC : Hid (∀ W, EnvI G W B → Scn W B r (k + 1) → Calls Tryz.prog 70 #[scP B, .int .i64 2] W _) := Lib.hid (fun W hE hS => texts_walk G B (k + 1) 2 (by decide) r W hE hS)
 have HPre := Lib.hid (KyPre.start h (by omega))
 have hk1 : ((k : Int) + 1 ≤ 50) := by omega
 have hb : ¬ (B = w.heap.size) := by have := h.lt; omega
 have hb2 : ¬ (B = w.heap.size + 1) := by have := h.lt; omega
 obtain ⟨c0, c1, f0, f1⟩ := h.cells
 have KP : Hid (∀ W, Calls Tryz.prog 99 #[.string (str s), .string ⟨#[40]⟩] W _) := Lib.hid (fun W => hasPre_no hp W)
 have KW : Hid (∀ W, Scn W B s (k + 1) → Calls Tryz.prog 26 #[scP B, .string ⟨#[37, 42]⟩] W _) := Lib.hid (fun W hW => word_ok B [37, 42] s W0 r (k + 1) hw W hW)
 have hlen := wordB_len hw
 have hsm := h.small
 have hlt := h.lt
 have KL : Hid (∀ W, Calls Tryz.prog 29 #[.string (str W0)] W fun e w' => e = .returned (.string (str N)) ∧ Below W.heap.size W w') := Lib.hid (fun W => by have K := large_walk21 W0 (by omega) W; rw [hnm] at K; exact K)
 have HE := Lib.hid hE
 clear hw hp h hE hnm
 go_enter Tryz.func106, Tryz.ntmps106
 go_wp2_with fail
 generalize ((w.setCell ⟨B, 1, none⟩ (.int .i64 ((k : Int) + 1))).alloc (Obj.cells #[scP B] 62)).alloc (Obj.cells #[.string ⟨#[]⟩, .string ⟨#[]⟩, .string ⟨#[]⟩, .int .i64 0, .slice none 0 0, .slice none 0 0] 51) = w2 at HPre ⊢
 clear c0 c1 f0 f1
 have HPd := Lib.hid HPre.out.draw
 have d0 := (one_cells HPre.out.box).1
 obtain ⟨_, d1, _, _⟩ := HPre.out.sc.cells
 have hcast : ((k + 1 : Nat) : Int) = (k : Int) + 1 := by omega
 rw [hcast] at d1
 clear hcast
 have D0 := Lib.hid (show w2.drew.cell? ⟨w.heap.size, 0, none⟩ = some (scP B) ∧ w2.drew.cell? ⟨B, 1, none⟩ = some (.int .i64 ((k : Int) + 1)) from ⟨d0, d1⟩)
 go_region_held3 (fun W => W.cell? ⟨w.heap.size, 0, none⟩ = some (scP B) ∧ W.cell? ⟨B, 1, none⟩ = some (.int .i64 ((k : Int) + 1)))
  (first | exact D0.out)
  (first
   | (go_at_call 27; refine (must_walk B _).mono ?_; rintro e w' ⟨rfl, rfl⟩))
 generalize w2.drew = w3 at *
 clear d0 d1 D0
 have d0 := (one_cells HPd.out.box).1
 obtain ⟨d1, _, _, _⟩ := HPd.out.sc.cells
 go_wp2_with fail
 refine (KP.out _).mono ?_
 rintro e w4 ⟨rfl, rfl⟩
 go_wp2_with fail
 refine (KW.out _ HPd.out.sc).mono ?_
 rintro e w5 ⟨rfl, hS5, hG5⟩
 have HP5 := Lib.hid (HPd.out.step hG5 hS5)
 clear hS5 hG5 d0 d1
 go_wp2_with fail
 refine (KL.out _).mono ?_
 rintro e w6 ⟨rfl, hB6⟩
 have HP6 := Lib.hid (HP5.out.below hB6)
 have HK7 := Lib.hid (HP6.out.name (str N))
 clear hB6
 have hN := HNN.out
 obtain ⟨n0, n1, n2, n3, n4, n5, n6, n7, n8, n9, n10, n11, n12, n13, n14, n15, n16, n17, n18, n19, n20, n21, n22, n23, n24, n25, _⟩ := notAll (N := N) (Ls := kNs.take 26) (by rw [hN]; decide)
 have n26 := strEq hN
 clear hN
 have e7 := (one_cells HK7.out.pre.box).1
 go_wp2_with fail
 refine (KC.out _ (HE.out.kept HK7.out.pre.gr) HK7.out.pre.sc).mono ?_
 rintro e w8 ⟨hG8, hP8⟩
 cases ht : textsB 2 r with
 | none =>
  rw [ht] at hP8
  subst hP8
  exact ⟨rfl, .bad (HK7.out.pre.gr.trans hG8) (by rw [HOO.out, ht]; rfl)⟩
 | some p =>
  obtain ⟨l, r8⟩ := p
  have hl := (textsB_len ht).2.1
  obtain ⟨x, y, rfl⟩ : ∃ x y, l = [x, y] := by match l, hl with | [x, y], _ => exact ⟨x, y, rfl⟩
  rw [ht] at hP8
  obtain ⟨u8, rfl, hO8, hS8⟩ := hP8
  have HO := Lib.hid (show oo = some (KeyP.mk N y x 0 [] [], r8, k + 1) by rw [HOO.out, ht]; rfl)
  have HK8 := Lib.hid (HK7.out.step hG8 hS8)
  obtain ⟨A8, c8, hu8, _⟩ := rowC_own hO8
  subst hu8
  obtain ⟨b8, hA8, _, hc8⟩ := rowC_first (rowC_own hO8) (by simp)
  subst hA8
  have x0 : w8.cell? ⟨b8, 0, none⟩ = some (.string (str x)) := hc8 0 _ rfl
  have x1 : w8.cell? ⟨b8, 1, none⟩ = some (.string (str y)) := hc8 1 _ rfl
  clear hG8 hS8 hO8 e7 ht hl hc8
  simp only [List.length_cons, List.length_nil]
  obtain ⟨⟨a0, a1, a2, a3, a4, a5⟩, e0, e1, e2, e3, e4, e5⟩ := six_cells HK8.out.xb
  obtain ⟨⟨b0, b1, b2, b3, b4, b5⟩, g0, g1, g2, g3, g4, g5⟩ := six_cells HK8.out.pre.res
  have hz7 := HP6.out.room
  have hne : ¬ (w.heap.size + 1 = w6.heap.size) := by omega
  have hne2 : ¬ (w6.heap.size = w.heap.size + 1) := by omega
  go_wp2_with fail
  go_region
  have hk9 := (HK8.out.setI 2 (.string (str x)) rfl).setI 1 (.string (str y)) rfl
  have HK9 := Lib.hid (hk9.step (k1 := k + 1) (grown_dr _ _) (hk9.pre.sc.draws 1))
  clear hk9 x0 x1 a0 a1 a2 a3 a4 a5 e0 e1 e2 e3 e4 e5 b0 b1 b2 b3 b4 b5 g0 g1 g2 g3 g4 g5
  generalize ((w8.setCell ⟨w6.heap.size, 2, none⟩ (.string (str x))).setCell ⟨w6.heap.size, 1, none⟩ (.string (str y))).drew = wf at HK9 ⊢
  obtain ⟨⟨a0, a1, a2, a3, a4, a5⟩, e0, e1, e2, e3, e4, e5⟩ := six_cells HK9.out.xb
  obtain ⟨⟨b0, b1, b2, b3, b4, b5⟩, g0, g1, g2, g3, g4, g5⟩ := six_cells HK9.out.pre.res
  go_wp2
  refine bodyPost_ret (v := _) ?_ rfl (KyPre.fin (x := .mk N y x 0 [] []) (As := none) (cs := 0) (Ak := none) (ck := 0) (kcs := []) HK9.out.pre HO.out (set6 _ _ _ _ _ _ _ _ _ _ _ _ _ _ _ HK9.out.pre.res).2 (keyAt_bare _ _ N y x 0))
  rw [results_cell_one rfl]
  simp [go_sem, b0, b1, b2, b3, b4, b5, hne2]
  exact ⟨rfl, rfl, rfl, rfl, rfl, rfl⟩
open Go.RowKit
open Pl (Bs idxB numOk numN setOk setL)
attribute [local go_sem ↓] Go.wp_at_zero Go.wp_at_succ
theorem key_smaller (G : Glob) (B k : Nat) (s W0 r N : Bs) (hk : k + 1 ≤ 50) (hp : isB [40] s = none) (hw : wordB [37, 42] s = some (W0, r)) (hnm : largeL W0 = N) (hN : N = [83, 77, 65, 76, 76, 69, 82]) (w : World) (hE : EnvI G w B) (h : Scn w B s k) :
  Calls Tryz.prog 106 #[scP B] w (KeyPost w B ((numR r).map fun p => (KeyP.mk N [] [] p.1 [] [], p.2, k + 1))) := by
 generalize hoo : ((numR r).map fun p => (KeyP.mk N [] [] p.1 [] [], p.2, k + 1)) = oo
 have HOO := Lib.hid hoo.symm
 have HNN := Lib.hid hN
 clear hoo hN
 have HPre := Lib.hid (KyPre.start h (by omega))
 have hk1 : ((k : Int) + 1 ≤ 50) := by omega
 have hb : ¬ (B = w.heap.size) := by have := h.lt; omega
 have hb2 : ¬ (B = w.heap.size + 1) := by have := h.lt; omega
 obtain ⟨c0, c1, f0, f1⟩ := h.cells
 have KP : Hid (∀ W, Calls Tryz.prog 99 #[.string (str s), .string ⟨#[40]⟩] W _) := Lib.hid (fun W => hasPre_no hp W)
 have KW : Hid (∀ W, Scn W B s (k + 1) → Calls Tryz.prog 26 #[scP B, .string ⟨#[37, 42]⟩] W _) := Lib.hid (fun W hW => word_ok B [37, 42] s W0 r (k + 1) hw W hW)
 have hlen := wordB_len hw
 have hsm := h.small
 have hlt := h.lt
 have KL : Hid (∀ W, Calls Tryz.prog 29 #[.string (str W0)] W fun e w' => e = .returned (.string (str N)) ∧ Below W.heap.size W w') := Lib.hid (fun W => by have K := large_walk21 W0 (by omega) W; rw [hnm] at K; exact K)
 have HE := Lib.hid hE
 clear hw hp h hE hnm
 go_enter Tryz.func106, Tryz.ntmps106
 go_wp2_with fail
 generalize ((w.setCell ⟨B, 1, none⟩ (.int .i64 ((k : Int) + 1))).alloc (Obj.cells #[scP B] 62)).alloc (Obj.cells #[.string ⟨#[]⟩, .string ⟨#[]⟩, .string ⟨#[]⟩, .int .i64 0, .slice none 0 0, .slice none 0 0] 51) = w2 at HPre ⊢
 clear c0 c1 f0 f1
 have HPd := Lib.hid HPre.out.draw
 have d0 := (one_cells HPre.out.box).1
 obtain ⟨_, d1, _, _⟩ := HPre.out.sc.cells
 have hcast : ((k + 1 : Nat) : Int) = (k : Int) + 1 := by omega
 rw [hcast] at d1
 clear hcast
 have D0 := Lib.hid (show w2.drew.cell? ⟨w.heap.size, 0, none⟩ = some (scP B) ∧ w2.drew.cell? ⟨B, 1, none⟩ = some (.int .i64 ((k : Int) + 1)) from ⟨d0, d1⟩)
 go_region_held3 (fun W => W.cell? ⟨w.heap.size, 0, none⟩ = some (scP B) ∧ W.cell? ⟨B, 1, none⟩ = some (.int .i64 ((k : Int) + 1)))
  (first | exact D0.out)
  (first
   | (go_at_call 27; refine (must_walk B _).mono ?_; rintro e w' ⟨rfl, rfl⟩))
 generalize w2.drew = w3 at *
 clear d0 d1 D0
 have d0 := (one_cells HPd.out.box).1
 obtain ⟨d1, _, _, _⟩ := HPd.out.sc.cells
 go_wp2_with fail
 refine (KP.out _).mono ?_
 rintro e w4 ⟨rfl, rfl⟩
 go_wp2_with fail
 refine (KW.out _ HPd.out.sc).mono ?_
 rintro e w5 ⟨rfl, hS5, hG5⟩
 have HP5 := Lib.hid (HPd.out.step hG5 hS5)
 clear hS5 hG5 d0 d1
 go_wp2_with fail
 refine (KL.out _).mono ?_
 rintro e w6 ⟨rfl, hB6⟩
 have HP6 := Lib.hid (HP5.out.below hB6)
 have HK7 := Lib.hid (HP6.out.name (str N))
 clear hB6
 have hN := HNN.out
 obtain ⟨n0, n1, n2, n3, n4, n5, n6, n7, n8, n9, n10, n11, n12, n13, n14, n15, n16, n17, _⟩ := notAll (N := N) (Ls := kNs.take 18) (by rw [hN]; decide)
 have n18 := strEq hN
 clear hN
 cases hb1 : isB [32] r with
 | none =>
  have HO := Lib.hid (show oo = none by rw [HOO.out, numR_0 hb1]; rfl)
  have KB := Lib.hid (fun W hS => blank_no B r (k + 1) hb1 W hS)
  clear hb1 HOO
  have e7 := (one_cells HK7.out.pre.box).1
  go_wp2_with fail
  refine (KB.out _ HK7.out.pre.sc).mono ?_
  rintro e w8 ⟨rfl, hG8⟩
  exact ⟨rfl, .bad (HK7.out.pre.gr.trans hG8) HO.out⟩
 | some r1 =>
  have KB := Lib.hid (fun W hS => blank_ok B r r1 (k + 1) hb1 W hS)
  have hl1 := isB_len hb1
  have KW2 : Hid (∀ W, Scn W B r1 (k + 1) → Calls Tryz.prog 26 #[scP B, .string ⟨#[]⟩] W _) := Lib.hid (fun W hW => word_walk B (k + 1) [] r1 W hW)
  cases hw2 : wordB [] r1 with
  | none =>
   have HO := Lib.hid (show oo = none by rw [HOO.out, numR_1 hb1 hw2]; rfl)
   have HW2 := Lib.hid hw2
   clear hb1 hw2 HOO
   have e7 := (one_cells HK7.out.pre.box).1
   go_wp2_with fail
   refine (KB.out _ HK7.out.pre.sc).mono ?_
   rintro e w8 ⟨rfl, hS8, hG8⟩
   have HK8 := Lib.hid (HK7.out.step hG8 hS8)
   clear hG8 hS8 e7 KB
   have HKd := Lib.hid (HK8.out.step (k1 := k + 1) (grown_dr _ _) (HK8.out.pre.sc.draws 1))
   have e7 := (one_cells HKd.out.pre.box).1
   go_wp2_with fail
   refine wp_region_any (by kernel_rfl) ?_
   change wpAny _ _ _ _ _ _ _ (World.drew _)
   refine wpAny_ready (rs := [0, 1]) (by kernel_rfl) (by simp) ?_
   refine AllReady.cons rfl (fun K9 hK9 => ?_) ?_
   ·
    go_simp
    refine hK9 _ _ ?_
    clear hK9 K9
    refine wpAny_ready (rs := [1]) (by kernel_rfl) (by simp) ?_
    refine AllReady.cons rfl (fun K9 hK9 => ?_) ?_
    ·
     go_simp
     refine hK9 _ _ ?_
     clear hK9 K9
     refine wpAny_ready (rs := [2]) (by kernel_rfl) (by simp) ?_
     refine AllReady.cons rfl (fun K9 hK9 => ?_) ?_
     ·
      go_simp
      refine (KW2.out _ HKd.out.pre.sc).mono ?_
      rintro e w9 hP
      rcases hP.split with ⟨_, rfl, hG9⟩ | ⟨x, r9, ho, _⟩
      ·
       exact ⟨rfl, .bad (HKd.out.pre.gr.trans hG9) HO.out⟩
      ·
       rw [HW2.out] at ho; cases ho
     exact AllReady.nil
    exact AllReady.nil
   refine AllReady.cons rfl (fun K9 hK9 => ?_) ?_
   ·
    go_simp
    refine hK9 _ _ ?_
    clear hK9 K9
    refine wpAny_ready (rs := [0, 2]) (by kernel_rfl) (by simp) ?_
    refine AllReady.cons rfl (fun K9 hK9 => ?_) ?_
    ·
     go_simp
     refine hK9 _ _ ?_
     clear hK9 K9
     refine wpAny_ready (rs := [2]) (by kernel_rfl) (by simp) ?_
     refine AllReady.cons rfl (fun K9 hK9 => ?_) ?_
     ·
      go_simp
      refine (KW2.out _ HKd.out.pre.sc).mono ?_
      rintro e w9 hP
      rcases hP.split with ⟨_, rfl, hG9⟩ | ⟨x, r9, ho, _⟩
      ·
       exact ⟨rfl, .bad (HKd.out.pre.gr.trans hG9) HO.out⟩
      ·
       rw [HW2.out] at ho; cases ho
     exact AllReady.nil
    refine AllReady.cons rfl (fun K9 hK9 => ?_) ?_
    ·
     go_simp
     refine (KW2.out _ HKd.out.pre.sc).mono ?_
     rintro e w9 hP
     rcases hP.split with ⟨_, rfl, hG9⟩ | ⟨x, r9, ho, _⟩
     ·
      exact ⟨rfl, .bad (HKd.out.pre.gr.trans hG9) HO.out⟩
     ·
      rw [HW2.out] at ho; cases ho
    exact AllReady.nil
   exact AllReady.nil
  | some p2 =>
   obtain ⟨X, r8⟩ := p2
   have hl2 := wordB_len hw2
   have hx6 : X.length ≤ 1000000 := by simp only [List.length_singleton] at *; omega
   have KN := Lib.hid (fun W hW => rnumber_walk G B X hx6 W hW)
   cases hc2 : countB X 2147483648 with
   | none =>
    have HO := Lib.hid (show oo = none by rw [HOO.out, numR_2 hb1 hw2 hc2]; rfl)
    have HW2 := Lib.hid hw2
    rw [hc2] at KN
    clear hb1 hw2 hc2 HOO
    have e7 := (one_cells HK7.out.pre.box).1
    go_wp2_with fail
    refine (KB.out _ HK7.out.pre.sc).mono ?_
    rintro e w8 ⟨rfl, hS8, hG8⟩
    have HK8 := Lib.hid (HK7.out.step hG8 hS8)
    clear hG8 hS8 e7 KB
    have HKd := Lib.hid (HK8.out.step (k1 := k + 1) (grown_dr _ _) (HK8.out.pre.sc.draws 1))
    have e7 := (one_cells HKd.out.pre.box).1
    go_wp2_with fail
    refine wp_region_any (by kernel_rfl) ?_
    change wpAny _ _ _ _ _ _ _ (World.drew _)
    refine wpAny_ready (rs := [0, 1]) (by kernel_rfl) (by simp) ?_
    refine AllReady.cons rfl (fun K9 hK9 => ?_) ?_
    ·
     go_simp
     refine hK9 _ _ ?_
     clear hK9 K9
     refine wpAny_ready (rs := [1]) (by kernel_rfl) (by simp) ?_
     refine AllReady.cons rfl (fun K9 hK9 => ?_) ?_
     ·
      go_simp
      refine hK9 _ _ ?_
      clear hK9 K9
      refine wpAny_ready (rs := [2]) (by kernel_rfl) (by simp) ?_
      refine AllReady.cons rfl (fun K9 hK9 => ?_) ?_
      ·
       go_simp
       refine (KW2.out _ HKd.out.pre.sc).mono ?_
       rintro e w9 hP
       rcases hP.split with ⟨ho, _, _⟩ | ⟨x, r9, ho, rfl, hG9, hS9⟩
       ·
        rw [HW2.out] at ho; cases ho
       rw [HW2.out] at ho
       obtain ⟨rfl, rfl⟩ : X = x ∧ r8 = r9 := by simpa using ho
       have HK9 := Lib.hid (HKd.out.step hG9 hS9)
       clear hG9 hS9 ho hP e7
       have e7 := (one_cells HK9.out.pre.box).1
       refine hK9 _ _ ?_
       clear hK9 K9
       refine wpAny_ready (rs := [3]) (by kernel_rfl) (by simp) ?_
       refine AllReady.cons rfl (fun K9 hK9 => ?_) ?_
       ·
        go_simp
        refine (KN.out _ (HE.out.kept HK9.out.pre.gr)).mono ?_
        rintro e w10 ⟨hB10, he⟩
        subst he
        exact ⟨rfl, .bad (grown_then HK9.out.pre.gr hB10) HO.out⟩
       exact AllReady.nil
      exact AllReady.nil
     exact AllReady.nil
    refine AllReady.cons rfl (fun K9 hK9 => ?_) ?_
    ·
     go_simp
     refine hK9 _ _ ?_
     clear hK9 K9
     refine wpAny_ready (rs := [0, 2]) (by kernel_rfl) (by simp) ?_
     refine AllReady.cons rfl (fun K9 hK9 => ?_) ?_
     ·
      go_simp
      refine hK9 _ _ ?_
      clear hK9 K9
      refine wpAny_ready (rs := [2]) (by kernel_rfl) (by simp) ?_
      refine AllReady.cons rfl (fun K9 hK9 => ?_) ?_
      ·
       go_simp
       refine (KW2.out _ HKd.out.pre.sc).mono ?_
       rintro e w9 hP
       rcases hP.split with ⟨ho, _, _⟩ | ⟨x, r9, ho, rfl, hG9, hS9⟩
       ·
        rw [HW2.out] at ho; cases ho
       rw [HW2.out] at ho
       obtain ⟨rfl, rfl⟩ : X = x ∧ r8 = r9 := by simpa using ho
       have HK9 := Lib.hid (HKd.out.step hG9 hS9)
       clear hG9 hS9 ho hP e7
       have e7 := (one_cells HK9.out.pre.box).1
       refine hK9 _ _ ?_
       clear hK9 K9
       refine wpAny_ready (rs := [3]) (by kernel_rfl) (by simp) ?_
       refine AllReady.cons rfl (fun K9 hK9 => ?_) ?_
       ·
        go_simp
        refine (KN.out _ (HE.out.kept HK9.out.pre.gr)).mono ?_
        rintro e w10 ⟨hB10, he⟩
        subst he
        exact ⟨rfl, .bad (grown_then HK9.out.pre.gr hB10) HO.out⟩
       exact AllReady.nil
      exact AllReady.nil
     refine AllReady.cons rfl (fun K9 hK9 => ?_) ?_
     ·
      go_simp
      refine (KW2.out _ HKd.out.pre.sc).mono ?_
      rintro e w9 hP
      rcases hP.split with ⟨ho, _, _⟩ | ⟨x, r9, ho, rfl, hG9, hS9⟩
      ·
       rw [HW2.out] at ho; cases ho
      rw [HW2.out] at ho
      obtain ⟨rfl, rfl⟩ : X = x ∧ r8 = r9 := by simpa using ho
      have HK9 := Lib.hid (HKd.out.step hG9 hS9)
      clear hG9 hS9 ho hP e7
      have e7 := (one_cells HK9.out.pre.box).1
      refine hK9 _ _ ?_
      clear hK9 K9
      refine wpAny_ready (rs := [0]) (by kernel_rfl) (by simp) ?_
      refine AllReady.cons rfl (fun K9 hK9 => ?_) ?_
      ·
       go_simp
       refine hK9 _ _ ?_
       clear hK9 K9
       refine wpAny_ready (rs := [3]) (by kernel_rfl) (by simp) ?_
       refine AllReady.cons rfl (fun K9 hK9 => ?_) ?_
       ·
        go_simp
        refine (KN.out _ (HE.out.kept HK9.out.pre.gr)).mono ?_
        rintro e w10 ⟨hB10, he⟩
        subst he
        exact ⟨rfl, .bad (grown_then HK9.out.pre.gr hB10) HO.out⟩
       exact AllReady.nil
      exact AllReady.nil
     exact AllReady.nil
    exact AllReady.nil
   | some n =>
    have HO := Lib.hid (show oo = some (KeyP.mk N [] [] (n : Int) [] [], r8, k + 1) by rw [HOO.out, numR_3 hb1 hw2 hc2]; rfl)
    have HW2 := Lib.hid hw2
    rw [hc2] at KN
    clear hb1 hw2 hc2 HOO
    have e7 := (one_cells HK7.out.pre.box).1
    go_wp2_with fail
    refine (KB.out _ HK7.out.pre.sc).mono ?_
    rintro e w8 ⟨rfl, hS8, hG8⟩
    have HK8 := Lib.hid (HK7.out.step hG8 hS8)
    clear hG8 hS8 e7 KB
    have HKd := Lib.hid (HK8.out.step (k1 := k + 1) (grown_dr _ _) (HK8.out.pre.sc.draws 1))
    have e7 := (one_cells HKd.out.pre.box).1
    go_wp2_with fail
    refine wp_region_any (by kernel_rfl) ?_
    change wpAny _ _ _ _ _ _ _ (World.drew _)
    refine wpAny_ready (rs := [0, 1]) (by kernel_rfl) (by simp) ?_
    refine AllReady.cons rfl (fun K9 hK9 => ?_) ?_
    ·
     go_simp
     refine hK9 _ _ ?_
     clear hK9 K9
     refine wpAny_ready (rs := [1]) (by kernel_rfl) (by simp) ?_
     refine AllReady.cons rfl (fun K9 hK9 => ?_) ?_
     ·
      go_simp
      refine hK9 _ _ ?_
      clear hK9 K9
      refine wpAny_ready (rs := [2]) (by kernel_rfl) (by simp) ?_
      refine AllReady.cons rfl (fun K9 hK9 => ?_) ?_
      ·
       go_simp
       refine (KW2.out _ HKd.out.pre.sc).mono ?_
       rintro e w9 hP
       rcases hP.split with ⟨ho, _, _⟩ | ⟨x, r9, ho, rfl, hG9, hS9⟩
       ·
        rw [HW2.out] at ho; cases ho
       rw [HW2.out] at ho
       obtain ⟨rfl, rfl⟩ : X = x ∧ r8 = r9 := by simpa using ho
       have HK9 := Lib.hid (HKd.out.step hG9 hS9)
       clear hG9 hS9 ho hP e7
       have e7 := (one_cells HK9.out.pre.box).1
       refine hK9 _ _ ?_
       clear hK9 K9
       refine wpAny_ready (rs := [3]) (by kernel_rfl) (by simp) ?_
       refine AllReady.cons rfl (fun K9 hK9 => ?_) ?_
       ·
        go_simp
        refine (KN.out _ (HE.out.kept HK9.out.pre.gr)).mono ?_
        rintro e w10 ⟨hB10, he⟩
        subst he
        have HK10 := Lib.hid (HK9.out.step (k1 := k + 1) (grown_below hB10 _) (HK9.out.pre.sc.then hB10))
        have HK11 := Lib.hid (HK10.out.setI 3 (.int .i64 n) rfl)
        clear hB10 e7
        obtain ⟨⟨a0, a1, a2, a3, a4, a5⟩, e0, e1, e2, e3, e4, e5⟩ := six_cells HK10.out.xb
        have e7 := (one_cells HK10.out.pre.box).1
        refine hK9 _ _ ?_
        clear hK9 K9
        refine wpAny_ready (rs := [4]) (by kernel_rfl) (by simp) ?_
        refine AllReady.cons rfl (fun K9 hK9 => ?_) ?_
        ·
         go_simp
         refine hK9 _ _ ?_
         clear hK9 K9
         refine wpAny_ready (rs := [5]) (by kernel_rfl) (by simp) ?_
         refine AllReady.cons rfl (fun K9 hK9 => ?_) ?_
         ·
          go_simp
          refine hK9 _ _ ?_
          clear hK9 K9
          refine wpAny_done (by kernel_rfl) ?_ _
          generalize World.setCell _ ⟨w6.heap.size, 3, none⟩ _ = w11 at *
          obtain ⟨⟨a0, a1, a2, a3, a4, a5⟩, e0, e1, e2, e3, e4, e5⟩ := six_cells HK11.out.xb
          obtain ⟨⟨b0, b1, b2, b3, b4, b5⟩, g0, g1, g2, g3, g4, g5⟩ := six_cells HK11.out.pre.res
          go_wp2
          refine bodyPost_ret (v := _) ?_ rfl (KyPre.fin (x := .mk N [] [] n [] []) (As := none) (cs := 0) (Ak := none) (ck := 0) (kcs := []) HK11.out.pre HO.out (set6 _ _ _ _ _ _ _ _ _ _ _ _ _ _ _ HK11.out.pre.res).2 (keyAt_bare _ _ N [] [] n))
          rw [results_cell_one rfl]
          simp [go_sem, b0, b1, b2, b3, b4, b5]
          exact ⟨rfl, rfl, rfl, rfl, rfl, rfl⟩
         exact AllReady.nil
        exact AllReady.nil
       exact AllReady.nil
      exact AllReady.nil
     exact AllReady.nil
    refine AllReady.cons rfl (fun K9 hK9 => ?_) ?_
    ·
     go_simp
     refine hK9 _ _ ?_
     clear hK9 K9
     refine wpAny_ready (rs := [0, 2]) (by kernel_rfl) (by simp) ?_
     refine AllReady.cons rfl (fun K9 hK9 => ?_) ?_
     ·
      go_simp
      refine hK9 _ _ ?_
      clear hK9 K9
      refine wpAny_ready (rs := [2]) (by kernel_rfl) (by simp) ?_
      refine AllReady.cons rfl (fun K9 hK9 => ?_) ?_
      ·
       go_simp
       refine (KW2.out _ HKd.out.pre.sc).mono ?_
       rintro e w9 hP
       rcases hP.split with ⟨ho, _, _⟩ | ⟨x, r9, ho, rfl, hG9, hS9⟩
       ·
        rw [HW2.out] at ho; cases ho
       rw [HW2.out] at ho
       obtain ⟨rfl, rfl⟩ : X = x ∧ r8 = r9 := by simpa using ho
       have HK9 := Lib.hid (HKd.out.step hG9 hS9)
       clear hG9 hS9 ho hP e7
       have e7 := (one_cells HK9.out.pre.box).1
       refine hK9 _ _ ?_
       clear hK9 K9
       refine wpAny_ready (rs := [3]) (by kernel_rfl) (by simp) ?_
       refine AllReady.cons rfl (fun K9 hK9 => ?_) ?_
       ·
        go_simp
        refine (KN.out _ (HE.out.kept HK9.out.pre.gr)).mono ?_
        rintro e w10 ⟨hB10, he⟩
        subst he
        have HK10 := Lib.hid (HK9.out.step (k1 := k + 1) (grown_below hB10 _) (HK9.out.pre.sc.then hB10))
        have HK11 := Lib.hid (HK10.out.setI 3 (.int .i64 n) rfl)
        clear hB10 e7
        obtain ⟨⟨a0, a1, a2, a3, a4, a5⟩, e0, e1, e2, e3, e4, e5⟩ := six_cells HK10.out.xb
        have e7 := (one_cells HK10.out.pre.box).1
        refine hK9 _ _ ?_
        clear hK9 K9
        refine wpAny_ready (rs := [4]) (by kernel_rfl) (by simp) ?_
        refine AllReady.cons rfl (fun K9 hK9 => ?_) ?_
        ·
         go_simp
         refine hK9 _ _ ?_
         clear hK9 K9
         refine wpAny_ready (rs := [5]) (by kernel_rfl) (by simp) ?_
         refine AllReady.cons rfl (fun K9 hK9 => ?_) ?_
         ·
          go_simp
          refine hK9 _ _ ?_
          clear hK9 K9
          refine wpAny_done (by kernel_rfl) ?_ _
          generalize World.setCell _ ⟨w6.heap.size, 3, none⟩ _ = w11 at *
          obtain ⟨⟨a0, a1, a2, a3, a4, a5⟩, e0, e1, e2, e3, e4, e5⟩ := six_cells HK11.out.xb
          obtain ⟨⟨b0, b1, b2, b3, b4, b5⟩, g0, g1, g2, g3, g4, g5⟩ := six_cells HK11.out.pre.res
          go_wp2
          refine bodyPost_ret (v := _) ?_ rfl (KyPre.fin (x := .mk N [] [] n [] []) (As := none) (cs := 0) (Ak := none) (ck := 0) (kcs := []) HK11.out.pre HO.out (set6 _ _ _ _ _ _ _ _ _ _ _ _ _ _ _ HK11.out.pre.res).2 (keyAt_bare _ _ N [] [] n))
          rw [results_cell_one rfl]
          simp [go_sem, b0, b1, b2, b3, b4, b5]
          exact ⟨rfl, rfl, rfl, rfl, rfl, rfl⟩
         exact AllReady.nil
        exact AllReady.nil
       exact AllReady.nil
      exact AllReady.nil
     refine AllReady.cons rfl (fun K9 hK9 => ?_) ?_
     ·
      go_simp
      refine (KW2.out _ HKd.out.pre.sc).mono ?_
      rintro e w9 hP
      rcases hP.split with ⟨ho, _, _⟩ | ⟨x, r9, ho, rfl, hG9, hS9⟩
      ·
       rw [HW2.out] at ho; cases ho
      rw [HW2.out] at ho
      obtain ⟨rfl, rfl⟩ : X = x ∧ r8 = r9 := by simpa using ho
      have HK9 := Lib.hid (HKd.out.step hG9 hS9)
      clear hG9 hS9 ho hP e7
      have e7 := (one_cells HK9.out.pre.box).1
      refine hK9 _ _ ?_
      clear hK9 K9
      refine wpAny_ready (rs := [0]) (by kernel_rfl) (by simp) ?_
      refine AllReady.cons rfl (fun K9 hK9 => ?_) ?_
      ·
       go_simp
       refine hK9 _ _ ?_
       clear hK9 K9
       refine wpAny_ready (rs := [3]) (by kernel_rfl) (by simp) ?_
       refine AllReady.cons rfl (fun K9 hK9 => ?_) ?_
       ·
        go_simp
        refine (KN.out _ (HE.out.kept HK9.out.pre.gr)).mono ?_
        rintro e w10 ⟨hB10, he⟩
        subst he
        have HK10 := Lib.hid (HK9.out.step (k1 := k + 1) (grown_below hB10 _) (HK9.out.pre.sc.then hB10))
        have HK11 := Lib.hid (HK10.out.setI 3 (.int .i64 n) rfl)
        clear hB10 e7
        obtain ⟨⟨a0, a1, a2, a3, a4, a5⟩, e0, e1, e2, e3, e4, e5⟩ := six_cells HK10.out.xb
        have e7 := (one_cells HK10.out.pre.box).1
        refine hK9 _ _ ?_
        clear hK9 K9
        refine wpAny_ready (rs := [4]) (by kernel_rfl) (by simp) ?_
        refine AllReady.cons rfl (fun K9 hK9 => ?_) ?_
        ·
         go_simp
         refine hK9 _ _ ?_
         clear hK9 K9
         refine wpAny_ready (rs := [5]) (by kernel_rfl) (by simp) ?_
         refine AllReady.cons rfl (fun K9 hK9 => ?_) ?_
         ·
          go_simp
          refine hK9 _ _ ?_
          clear hK9 K9
          refine wpAny_done (by kernel_rfl) ?_ _
          generalize World.setCell _ ⟨w6.heap.size, 3, none⟩ _ = w11 at *
          obtain ⟨⟨a0, a1, a2, a3, a4, a5⟩, e0, e1, e2, e3, e4, e5⟩ := six_cells HK11.out.xb
          obtain ⟨⟨b0, b1, b2, b3, b4, b5⟩, g0, g1, g2, g3, g4, g5⟩ := six_cells HK11.out.pre.res
          go_wp2
          refine bodyPost_ret (v := _) ?_ rfl (KyPre.fin (x := .mk N [] [] n [] []) (As := none) (cs := 0) (Ak := none) (ck := 0) (kcs := []) HK11.out.pre HO.out (set6 _ _ _ _ _ _ _ _ _ _ _ _ _ _ _ HK11.out.pre.res).2 (keyAt_bare _ _ N [] [] n))
          rw [results_cell_one rfl]
          simp [go_sem, b0, b1, b2, b3, b4, b5]
          exact ⟨rfl, rfl, rfl, rfl, rfl, rfl⟩
         exact AllReady.nil
        exact AllReady.nil
       exact AllReady.nil
      exact AllReady.nil
     exact AllReady.nil
    exact AllReady.nil
end Go.Proofs.YtgmfhldfdnnafaaGreatDoor
