/- A part of the proofs of the statements on chapter 21: walks of functions that they reach, and plain laws. What is proved is stated in the last text. Conditions: none of its own. -/
import Derived.Test.YtgmfhldfdnnafaaGreatDoorMs12
import Derived.Test.YtgmfhldfdnnafaaGreatDoorChecked
import Derived.Handy
import Derived.Lib.Hide
import Derived.IntWalk
import Derived.RangeFuncBox
set_option maxHeartbeats 8000000
set_option maxRecDepth 100000
set_option linter.unusedSimpArgs false
set_option linter.unusedVariables false
namespace Go.Proofs.YtgmfhldfdnnafaaGreatDoor
open Go.RowKit
open Pl (Bs idxB numOk numN setOk setL)
attribute [local go_sem ↓] Go.wp_at_zero Go.wp_at_succ
theorem rest_one (G : Glob) (B C k : Nat) (s N : Bs) (cs : Array Value) (h1 : cs[1]? = some (.string (str N))) (v3 : Value) (h3 : cs[3]? = some v3) (hN : N = [83, 69, 76, 69, 67, 84] ∨ N = [69, 88, 65, 77, 73, 78, 69] ∨ N = [67, 82, 69, 65, 84, 69] ∨ N = [68, 69, 76, 69, 84, 69] ∨ N = [83, 85, 66, 83, 67, 82, 73, 66, 69] ∨ N = [85, 78, 83, 85, 66, 83, 67, 82, 73, 66, 69]) (hne : B ≠ C) (hC20 : 20 ≤ C) (w : World) (hC : w.heap[C]? = some (Obj.cells cs 33)) (hE : EnvI G w B) (h : Scn w B s k) :
  Calls Tryz.prog 31 #[scP B, cmP C] w (RestPostS cs.size w B C (ArgsQ w cs) ((textsB 1 s).map fun p => (p.1, p.2, k))) := by
 have HNN := Lib.hid hN
 clear hN
 have HST := Lib.hid (RsSt.start h hC hne)
 have HSD := Lib.hid HST.out.draw
 have HS0 := Lib.hid HSD.out.keep
 have HE := Lib.hid hE
 obtain ⟨c1, _⟩ := HST.out.cell h1
 obtain ⟨hl1, hl2, hl3⟩ := HST.out.lt
 have KT : Hid (∀ W, EnvI G W B → Scn W B s k → Calls Tryz.prog 70 #[scP B, .int .i64 1] W _) := Lib.hid (fun W hE hS => texts_walk G B k 1 (by decide) s W hE hS)
 have H3 := Lib.hid h3
 generalize hoo : (textsB 1 s).map (fun p => (p.1, p.2, k)) = oo
 have hHO := Lib.hid hoo
 clear hoo h1 h3 hE h
 rcases HNN.out with hN | hN | hN | hN | hN | hN
 ·
  obtain ⟨n0, n1, n2, n3, n4, n5, n6, n7, _⟩ := notAll (N := N) (Ls := rNs.take 8) (by rw [hN]; decide)
  have n8 := strEq hN
  clear hN
  cases ht : textsB 1 s with
  | none =>
   have HO := Lib.hid (show oo = none by rw [← hHO.out, ht]; rfl)
   rw [ht] at KT
   clear hHO ht
   go_enter Tryz.func31, Tryz.ntmps31
   go_wp2_with fail
   generalize ((w.alloc (Obj.cells #[scP B] 62)).alloc (Obj.cells #[cmP C] 68)) = w2 at *
   obtain ⟨d0, d1⟩ := HSD.out.keep
   refine wp_region_any (by kernel_rfl) ?_
   change wpAny _ _ _ _ _ _ _ (World.drew _)
   refine wpAny_ready (rs := [0, 1]) (by kernel_rfl) (by simp) ?_
   refine AllReady.cons rfl (fun K9 hK9 => ?_) ?_
   ·
    go_simp
    refine hK9 _ _ ?_
    clear hK9 K9
    refine wpAny_ready (rs := [1]) (by kernel_rfl) (by simp) ?_
    refine AllReady.cons rfl (fun K9 hK9 => ?_) ?_
    ·
     go_simp
     refine hK9 _ _ ?_
     clear hK9 K9
     refine wpAny_ready (rs := [2]) (by kernel_rfl) (by simp) ?_
     refine AllReady.cons rfl (fun K9 hK9 => ?_) ?_
     ·
      go_simp
      refine (KT.out _ (HE.out.kept2 HSD.out.gr hC20) HSD.out.sc).mono ?_
      rintro e w' ⟨hG, rfl⟩
      exact ⟨rfl, HSD.out.badS hG (by simp) HO.out⟩
     exact AllReady.nil
    exact AllReady.nil
   refine AllReady.cons rfl (fun K9 hK9 => ?_) ?_
   ·
    go_simp
    refine hK9 _ _ ?_
    clear hK9 K9
    refine wpAny_ready (rs := [0, 2]) (by kernel_rfl) (by simp) ?_
    refine AllReady.cons rfl (fun K9 hK9 => ?_) ?_
    ·
     go_simp
     refine hK9 _ _ ?_
     clear hK9 K9
     refine wpAny_ready (rs := [2]) (by kernel_rfl) (by simp) ?_
     refine AllReady.cons rfl (fun K9 hK9 => ?_) ?_
     ·
      go_simp
      refine (KT.out _ (HE.out.kept2 HSD.out.gr hC20) HSD.out.sc).mono ?_
      rintro e w' ⟨hG, rfl⟩
      exact ⟨rfl, HSD.out.badS hG (by simp) HO.out⟩
     exact AllReady.nil
    refine AllReady.cons rfl (fun K9 hK9 => ?_) ?_
    ·
     go_simp
     refine (KT.out _ (HE.out.kept2 HSD.out.gr hC20) HSD.out.sc).mono ?_
     rintro e w' ⟨hG, rfl⟩
     exact ⟨rfl, HSD.out.badS hG (by simp) HO.out⟩
    exact AllReady.nil
   exact AllReady.nil
  | some p =>
   obtain ⟨l, r⟩ := p
   have HO := Lib.hid (show oo = some (l, r, k) by rw [← hHO.out, ht]; rfl)
   rw [ht] at KT
   clear hHO ht
   go_enter Tryz.func31, Tryz.ntmps31
   go_wp2_with fail
   generalize ((w.alloc (Obj.cells #[scP B] 62)).alloc (Obj.cells #[cmP C] 68)) = w2 at *
   go_region_held3 (fun W => W.cell? ⟨w.heap.size, 0, none⟩ = some (scP B) ∧ W.cell? ⟨w.heap.size + 1, 0, none⟩ = some (cmP C))
    (first | exact HS0.out | exact HS1.out.keep | exact (HS1.out.setC 3 _).keep)
    (first
     | (go_at_call 70; refine (KT.out _ (HE.out.kept2 HSD.out.gr hC20) HSD.out.sc).mono ?_; rintro e w1 ⟨hG1, u, rfl, hO1, hS1⟩; obtain ⟨A, c, hu, hrow⟩ := rowC_own hO1; subst hu; have HS1 := Lib.hid (HSD.out.step hG1 hS1); obtain ⟨c3, f3⟩ := HS1.out.cell H3.out; have HR1 := Lib.hid (rowC_own hO1); clear hG1 hO1 hS1 hrow))
   go_wp2
   go_end0
   have hz := HSD.out.gr.size
   exact (HS1.out.setC 3 (.slice A l.length c)).finS HO.out ⟨A, c, rfl, (HR1.out.kept (fun i hi => Below.heap_setCell _ _ _ _ (by have := hi.1; dsimp only; omega))).more (fun i hi => ⟨by have := hi.1; omega, by have := hi.2; simpa using this⟩)⟩
 ·
  obtain ⟨n0, n1, n2, n3, n4, n5, n6, n7, n8, _⟩ := notAll (N := N) (Ls := rNs.take 9) (by rw [hN]; decide)
  have n9 := strEq hN
  clear hN
  cases ht : textsB 1 s with
  | none =>
   have HO := Lib.hid (show oo = none by rw [← hHO.out, ht]; rfl)
   rw [ht] at KT
   clear hHO ht
   go_enter Tryz.func31, Tryz.ntmps31
   go_wp2_with fail
   generalize ((w.alloc (Obj.cells #[scP B] 62)).alloc (Obj.cells #[cmP C] 68)) = w2 at *
   obtain ⟨d0, d1⟩ := HSD.out.keep
   refine wp_region_any (by kernel_rfl) ?_
   change wpAny _ _ _ _ _ _ _ (World.drew _)
   refine wpAny_ready (rs := [0, 1]) (by kernel_rfl) (by simp) ?_
   refine AllReady.cons rfl (fun K9 hK9 => ?_) ?_
   ·
    go_simp
    refine hK9 _ _ ?_
    clear hK9 K9
    refine wpAny_ready (rs := [1]) (by kernel_rfl) (by simp) ?_
    refine AllReady.cons rfl (fun K9 hK9 => ?_) ?_
    ·
     go_simp
     refine hK9 _ _ ?_
     clear hK9 K9
     refine wpAny_ready (rs := [2]) (by kernel_rfl) (by simp) ?_
     refine AllReady.cons rfl (fun K9 hK9 => ?_) ?_
     ·
      go_simp
      refine (KT.out _ (HE.out.kept2 HSD.out.gr hC20) HSD.out.sc).mono ?_
      rintro e w' ⟨hG, rfl⟩
      exact ⟨rfl, HSD.out.badS hG (by simp) HO.out⟩
     exact AllReady.nil
    exact AllReady.nil
   refine AllReady.cons rfl (fun K9 hK9 => ?_) ?_
   ·
    go_simp
    refine hK9 _ _ ?_
    clear hK9 K9
    refine wpAny_ready (rs := [0, 2]) (by kernel_rfl) (by simp) ?_
    refine AllReady.cons rfl (fun K9 hK9 => ?_) ?_
    ·
     go_simp
     refine hK9 _ _ ?_
     clear hK9 K9
     refine wpAny_ready (rs := [2]) (by kernel_rfl) (by simp) ?_
     refine AllReady.cons rfl (fun K9 hK9 => ?_) ?_
     ·
      go_simp
      refine (KT.out _ (HE.out.kept2 HSD.out.gr hC20) HSD.out.sc).mono ?_
      rintro e w' ⟨hG, rfl⟩
      exact ⟨rfl, HSD.out.badS hG (by simp) HO.out⟩
     exact AllReady.nil
    refine AllReady.cons rfl (fun K9 hK9 => ?_) ?_
    ·
     go_simp
     refine (KT.out _ (HE.out.kept2 HSD.out.gr hC20) HSD.out.sc).mono ?_
     rintro e w' ⟨hG, rfl⟩
     exact ⟨rfl, HSD.out.badS hG (by simp) HO.out⟩
    exact AllReady.nil
   exact AllReady.nil
  | some p =>
   obtain ⟨l, r⟩ := p
   have HO := Lib.hid (show oo = some (l, r, k) by rw [← hHO.out, ht]; rfl)
   rw [ht] at KT
   clear hHO ht
   go_enter Tryz.func31, Tryz.ntmps31
   go_wp2_with fail
   generalize ((w.alloc (Obj.cells #[scP B] 62)).alloc (Obj.cells #[cmP C] 68)) = w2 at *
   go_region_held3 (fun W => W.cell? ⟨w.heap.size, 0, none⟩ = some (scP B) ∧ W.cell? ⟨w.heap.size + 1, 0, none⟩ = some (cmP C))
    (first | exact HS0.out | exact HS1.out.keep | exact (HS1.out.setC 3 _).keep)
    (first
     | (go_at_call 70; refine (KT.out _ (HE.out.kept2 HSD.out.gr hC20) HSD.out.sc).mono ?_; rintro e w1 ⟨hG1, u, rfl, hO1, hS1⟩; obtain ⟨A, c, hu, hrow⟩ := rowC_own hO1; subst hu; have HS1 := Lib.hid (HSD.out.step hG1 hS1); obtain ⟨c3, f3⟩ := HS1.out.cell H3.out; have HR1 := Lib.hid (rowC_own hO1); clear hG1 hO1 hS1 hrow))
   go_wp2
   go_end0
   have hz := HSD.out.gr.size
   exact (HS1.out.setC 3 (.slice A l.length c)).finS HO.out ⟨A, c, rfl, (HR1.out.kept (fun i hi => Below.heap_setCell _ _ _ _ (by have := hi.1; dsimp only; omega))).more (fun i hi => ⟨by have := hi.1; omega, by have := hi.2; simpa using this⟩)⟩
 ·
  obtain ⟨n0, n1, n2, n3, n4, n5, n6, n7, n8, n9, _⟩ := notAll (N := N) (Ls := rNs.take 10) (by rw [hN]; decide)
  have n10 := strEq hN
  clear hN
  cases ht : textsB 1 s with
  | none =>
   have HO := Lib.hid (show oo = none by rw [← hHO.out, ht]; rfl)
   rw [ht] at KT
   clear hHO ht
   go_enter Tryz.func31, Tryz.ntmps31
   go_wp2_with fail
   generalize ((w.alloc (Obj.cells #[scP B] 62)).alloc (Obj.cells #[cmP C] 68)) = w2 at *
   obtain ⟨d0, d1⟩ := HSD.out.keep
   refine wp_region_any (by kernel_rfl) ?_
   change wpAny _ _ _ _ _ _ _ (World.drew _)
   refine wpAny_ready (rs := [0, 1]) (by kernel_rfl) (by simp) ?_
   refine AllReady.cons rfl (fun K9 hK9 => ?_) ?_
   ·
    go_simp
    refine hK9 _ _ ?_
    clear hK9 K9
    refine wpAny_ready (rs := [1]) (by kernel_rfl) (by simp) ?_
    refine AllReady.cons rfl (fun K9 hK9 => ?_) ?_
    ·
     go_simp
     refine hK9 _ _ ?_
     clear hK9 K9
     refine wpAny_ready (rs := [2]) (by kernel_rfl) (by simp) ?_
     refine AllReady.cons rfl (fun K9 hK9 => ?_) ?_
     ·
      go_simp
      refine (KT.out _ (HE.out.kept2 HSD.out.gr hC20) HSD.out.sc).mono ?_
      rintro e w' ⟨hG, rfl⟩
      exact ⟨rfl, HSD.out.badS hG (by simp) HO.out⟩
     exact AllReady.nil
    exact AllReady.nil
   refine AllReady.cons rfl (fun K9 hK9 => ?_) ?_
   ·
    go_simp
    refine hK9 _ _ ?_
    clear hK9 K9
    refine wpAny_ready (rs := [0, 2]) (by kernel_rfl) (by simp) ?_
    refine AllReady.cons rfl (fun K9 hK9 => ?_) ?_
    ·
     go_simp
     refine hK9 _ _ ?_
     clear hK9 K9
     refine wpAny_ready (rs := [2]) (by kernel_rfl) (by simp) ?_
     refine AllReady.cons rfl (fun K9 hK9 => ?_) ?_
     ·
      go_simp
      refine (KT.out _ (HE.out.kept2 HSD.out.gr hC20) HSD.out.sc).mono ?_
      rintro e w' ⟨hG, rfl⟩
      exact ⟨rfl, HSD.out.badS hG (by simp) HO.out⟩
     exact AllReady.nil
    refine AllReady.cons rfl (fun K9 hK9 => ?_) ?_
    ·
     go_simp
     refine (KT.out _ (HE.out.kept2 HSD.out.gr hC20) HSD.out.sc).mono ?_
     rintro e w' ⟨hG, rfl⟩
     exact ⟨rfl, HSD.out.badS hG (by simp) HO.out⟩
    exact AllReady.nil
   exact AllReady.nil
  | some p =>
   obtain ⟨l, r⟩ := p
   have HO := Lib.hid (show oo = some (l, r, k) by rw [← hHO.out, ht]; rfl)
   rw [ht] at KT
   clear hHO ht
   go_enter Tryz.func31, Tryz.ntmps31
   go_wp2_with fail
   generalize ((w.alloc (Obj.cells #[scP B] 62)).alloc (Obj.cells #[cmP C] 68)) = w2 at *
   go_region_held3 (fun W => W.cell? ⟨w.heap.size, 0, none⟩ = some (scP B) ∧ W.cell? ⟨w.heap.size + 1, 0, none⟩ = some (cmP C))
    (first | exact HS0.out | exact HS1.out.keep | exact (HS1.out.setC 3 _).keep)
    (first
     | (go_at_call 70; refine (KT.out _ (HE.out.kept2 HSD.out.gr hC20) HSD.out.sc).mono ?_; rintro e w1 ⟨hG1, u, rfl, hO1, hS1⟩; obtain ⟨A, c, hu, hrow⟩ := rowC_own hO1; subst hu; have HS1 := Lib.hid (HSD.out.step hG1 hS1); obtain ⟨c3, f3⟩ := HS1.out.cell H3.out; have HR1 := Lib.hid (rowC_own hO1); clear hG1 hO1 hS1 hrow))
   go_wp2
   go_end0
   have hz := HSD.out.gr.size
   exact (HS1.out.setC 3 (.slice A l.length c)).finS HO.out ⟨A, c, rfl, (HR1.out.kept (fun i hi => Below.heap_setCell _ _ _ _ (by have := hi.1; dsimp only; omega))).more (fun i hi => ⟨by have := hi.1; omega, by have := hi.2; simpa using this⟩)⟩
 ·
  obtain ⟨n0, n1, n2, n3, n4, n5, n6, n7, n8, n9, n10, _⟩ := notAll (N := N) (Ls := rNs.take 11) (by rw [hN]; decide)
  have n11 := strEq hN
  clear hN
  cases ht : textsB 1 s with
  | none =>
   have HO := Lib.hid (show oo = none by rw [← hHO.out, ht]; rfl)
   rw [ht] at KT
   clear hHO ht
   go_enter Tryz.func31, Tryz.ntmps31
   go_wp2_with fail
   generalize ((w.alloc (Obj.cells #[scP B] 62)).alloc (Obj.cells #[cmP C] 68)) = w2 at *
   obtain ⟨d0, d1⟩ := HSD.out.keep
   refine wp_region_any (by kernel_rfl) ?_
   change wpAny _ _ _ _ _ _ _ (World.drew _)
   refine wpAny_ready (rs := [0, 1]) (by kernel_rfl) (by simp) ?_
   refine AllReady.cons rfl (fun K9 hK9 => ?_) ?_
   ·
    go_simp
    refine hK9 _ _ ?_
    clear hK9 K9
    refine wpAny_ready (rs := [1]) (by kernel_rfl) (by simp) ?_
    refine AllReady.cons rfl (fun K9 hK9 => ?_) ?_
    ·
     go_simp
     refine hK9 _ _ ?_
     clear hK9 K9
     refine wpAny_ready (rs := [2]) (by kernel_rfl) (by simp) ?_
     refine AllReady.cons rfl (fun K9 hK9 => ?_) ?_
     ·
      go_simp
      refine (KT.out _ (HE.out.kept2 HSD.out.gr hC20) HSD.out.sc).mono ?_
      rintro e w' ⟨hG, rfl⟩
      exact ⟨rfl, HSD.out.badS hG (by simp) HO.out⟩
     exact AllReady.nil
    exact AllReady.nil
   refine AllReady.cons rfl (fun K9 hK9 => ?_) ?_
   ·
    go_simp
    refine hK9 _ _ ?_
    clear hK9 K9
    refine wpAny_ready (rs := [0, 2]) (by kernel_rfl) (by simp) ?_
    refine AllReady.cons rfl (fun K9 hK9 => ?_) ?_
    ·
     go_simp
     refine hK9 _ _ ?_
     clear hK9 K9
     refine wpAny_ready (rs := [2]) (by kernel_rfl) (by simp) ?_
     refine AllReady.cons rfl (fun K9 hK9 => ?_) ?_
     ·
      go_simp
      refine (KT.out _ (HE.out.kept2 HSD.out.gr hC20) HSD.out.sc).mono ?_
      rintro e w' ⟨hG, rfl⟩
      exact ⟨rfl, HSD.out.badS hG (by simp) HO.out⟩
     exact AllReady.nil
    refine AllReady.cons rfl (fun K9 hK9 => ?_) ?_
    ·
     go_simp
     refine (KT.out _ (HE.out.kept2 HSD.out.gr hC20) HSD.out.sc).mono ?_
     rintro e w' ⟨hG, rfl⟩
     exact ⟨rfl, HSD.out.badS hG (by simp) HO.out⟩
    exact AllReady.nil
   exact AllReady.nil
  | some p =>
   obtain ⟨l, r⟩ := p
   have HO := Lib.hid (show oo = some (l, r, k) by rw [← hHO.out, ht]; rfl)
   rw [ht] at KT
   clear hHO ht
   go_enter Tryz.func31, Tryz.ntmps31
   go_wp2_with fail
   generalize ((w.alloc (Obj.cells #[scP B] 62)).alloc (Obj.cells #[cmP C] 68)) = w2 at *
   go_region_held3 (fun W => W.cell? ⟨w.heap.size, 0, none⟩ = some (scP B) ∧ W.cell? ⟨w.heap.size + 1, 0, none⟩ = some (cmP C))
    (first | exact HS0.out | exact HS1.out.keep | exact (HS1.out.setC 3 _).keep)
    (first
     | (go_at_call 70; refine (KT.out _ (HE.out.kept2 HSD.out.gr hC20) HSD.out.sc).mono ?_; rintro e w1 ⟨hG1, u, rfl, hO1, hS1⟩; obtain ⟨A, c, hu, hrow⟩ := rowC_own hO1; subst hu; have HS1 := Lib.hid (HSD.out.step hG1 hS1); obtain ⟨c3, f3⟩ := HS1.out.cell H3.out; have HR1 := Lib.hid (rowC_own hO1); clear hG1 hO1 hS1 hrow))
   go_wp2
   go_end0
   have hz := HSD.out.gr.size
   exact (HS1.out.setC 3 (.slice A l.length c)).finS HO.out ⟨A, c, rfl, (HR1.out.kept (fun i hi => Below.heap_setCell _ _ _ _ (by have := hi.1; dsimp only; omega))).more (fun i hi => ⟨by have := hi.1; omega, by have := hi.2; simpa using this⟩)⟩
 ·
  obtain ⟨n0, n1, n2, n3, n4, n5, n6, n7, n8, n9, n10, n11, _⟩ := notAll (N := N) (Ls := rNs.take 12) (by rw [hN]; decide)
  have n12 := strEq hN
  clear hN
  cases ht : textsB 1 s with
  | none =>
   have HO := Lib.hid (show oo = none by rw [← hHO.out, ht]; rfl)
   rw [ht] at KT
   clear hHO ht
   go_enter Tryz.func31, Tryz.ntmps31
   go_wp2_with fail
   generalize ((w.alloc (Obj.cells #[scP B] 62)).alloc (Obj.cells #[cmP C] 68)) = w2 at *
   obtain ⟨d0, d1⟩ := HSD.out.keep
   refine wp_region_any (by kernel_rfl) ?_
   change wpAny _ _ _ _ _ _ _ (World.drew _)
   refine wpAny_ready (rs := [0, 1]) (by kernel_rfl) (by simp) ?_
   refine AllReady.cons rfl (fun K9 hK9 => ?_) ?_
   ·
    go_simp
    refine hK9 _ _ ?_
    clear hK9 K9
    refine wpAny_ready (rs := [1]) (by kernel_rfl) (by simp) ?_
    refine AllReady.cons rfl (fun K9 hK9 => ?_) ?_
    ·
     go_simp
     refine hK9 _ _ ?_
     clear hK9 K9
     refine wpAny_ready (rs := [2]) (by kernel_rfl) (by simp) ?_
     refine AllReady.cons rfl (fun K9 hK9 => ?_) ?_
     ·
      go_simp
      refine (KT.out _ (HE.out.kept2 HSD.out.gr hC20) HSD.out.sc).mono ?_
      rintro e w' ⟨hG, rfl⟩
      exact ⟨rfl, HSD.out.badS hG (by simp) HO.out⟩
     exact AllReady.nil
    exact AllReady.nil
   refine AllReady.cons rfl (fun K9 hK9 => ?_) ?_
   ·
    go_simp
    refine hK9 _ _ ?_
    clear hK9 K9
    refine wpAny_ready (rs := [0, 2]) (by kernel_rfl) (by simp) ?_
    refine AllReady.cons rfl (fun K9 hK9 => ?_) ?_
    ·
     go_simp
     refine hK9 _ _ ?_
     clear hK9 K9
     refine wpAny_ready (rs := [2]) (by kernel_rfl) (by simp) ?_
     refine AllReady.cons rfl (fun K9 hK9 => ?_) ?_
     ·
      go_simp
      refine (KT.out _ (HE.out.kept2 HSD.out.gr hC20) HSD.out.sc).mono ?_
      rintro e w' ⟨hG, rfl⟩
      exact ⟨rfl, HSD.out.badS hG (by simp) HO.out⟩
     exact AllReady.nil
    refine AllReady.cons rfl (fun K9 hK9 => ?_) ?_
    ·
     go_simp
     refine (KT.out _ (HE.out.kept2 HSD.out.gr hC20) HSD.out.sc).mono ?_
     rintro e w' ⟨hG, rfl⟩
     exact ⟨rfl, HSD.out.badS hG (by simp) HO.out⟩
    exact AllReady.nil
   exact AllReady.nil
  | some p =>
   obtain ⟨l, r⟩ := p
   have HO := Lib.hid (show oo = some (l, r, k) by rw [← hHO.out, ht]; rfl)
   rw [ht] at KT
   clear hHO ht
   go_enter Tryz.func31, Tryz.ntmps31
   go_wp2_with fail
   generalize ((w.alloc (Obj.cells #[scP B] 62)).alloc (Obj.cells #[cmP C] 68)) = w2 at *
   go_region_held3 (fun W => W.cell? ⟨w.heap.size, 0, none⟩ = some (scP B) ∧ W.cell? ⟨w.heap.size + 1, 0, none⟩ = some (cmP C))
    (first | exact HS0.out | exact HS1.out.keep | exact (HS1.out.setC 3 _).keep)
    (first
     | (go_at_call 70; refine (KT.out _ (HE.out.kept2 HSD.out.gr hC20) HSD.out.sc).mono ?_; rintro e w1 ⟨hG1, u, rfl, hO1, hS1⟩; obtain ⟨A, c, hu, hrow⟩ := rowC_own hO1; subst hu; have HS1 := Lib.hid (HSD.out.step hG1 hS1); obtain ⟨c3, f3⟩ := HS1.out.cell H3.out; have HR1 := Lib.hid (rowC_own hO1); clear hG1 hO1 hS1 hrow))
   go_wp2
   go_end0
   have hz := HSD.out.gr.size
   exact (HS1.out.setC 3 (.slice A l.length c)).finS HO.out ⟨A, c, rfl, (HR1.out.kept (fun i hi => Below.heap_setCell _ _ _ _ (by have := hi.1; dsimp only; omega))).more (fun i hi => ⟨by have := hi.1; omega, by have := hi.2; simpa using this⟩)⟩
 ·
  obtain ⟨n0, n1, n2, n3, n4, n5, n6, n7, n8, n9, n10, n11, n12, _⟩ := notAll (N := N) (Ls := rNs.take 13) (by rw [hN]; decide)
  have n13 := strEq hN
  clear hN
  cases ht : textsB 1 s with
  | none =>
   have HO := Lib.hid (show oo = none by rw [← hHO.out, ht]; rfl)
   rw [ht] at KT
   clear hHO ht
   go_enter Tryz.func31, Tryz.ntmps31
   go_wp2_with fail
   generalize ((w.alloc (Obj.cells #[scP B] 62)).alloc (Obj.cells #[cmP C] 68)) = w2 at *
   obtain ⟨d0, d1⟩ := HSD.out.keep
   refine wp_region_any (by kernel_rfl) ?_
   change wpAny _ _ _ _ _ _ _ (World.drew _)
   refine wpAny_ready (rs := [0, 1]) (by kernel_rfl) (by simp) ?_
   refine AllReady.cons rfl (fun K9 hK9 => ?_) ?_
   ·
    go_simp
    refine hK9 _ _ ?_
    clear hK9 K9
    refine wpAny_ready (rs := [1]) (by kernel_rfl) (by simp) ?_
    refine AllReady.cons rfl (fun K9 hK9 => ?_) ?_
    ·
     go_simp
     refine hK9 _ _ ?_
     clear hK9 K9
     refine wpAny_ready (rs := [2]) (by kernel_rfl) (by simp) ?_
     refine AllReady.cons rfl (fun K9 hK9 => ?_) ?_
     ·
      go_simp
      refine (KT.out _ (HE.out.kept2 HSD.out.gr hC20) HSD.out.sc).mono ?_
      rintro e w' ⟨hG, rfl⟩
      exact ⟨rfl, HSD.out.badS hG (by simp) HO.out⟩
     exact AllReady.nil
    exact AllReady.nil
   refine AllReady.cons rfl (fun K9 hK9 => ?_) ?_
   ·
    go_simp
    refine hK9 _ _ ?_
    clear hK9 K9
    refine wpAny_ready (rs := [0, 2]) (by kernel_rfl) (by simp) ?_
    refine AllReady.cons rfl (fun K9 hK9 => ?_) ?_
    ·
     go_simp
     refine hK9 _ _ ?_
     clear hK9 K9
     refine wpAny_ready (rs := [2]) (by kernel_rfl) (by simp) ?_
     refine AllReady.cons rfl (fun K9 hK9 => ?_) ?_
     ·
      go_simp
      refine (KT.out _ (HE.out.kept2 HSD.out.gr hC20) HSD.out.sc).mono ?_
      rintro e w' ⟨hG, rfl⟩
      exact ⟨rfl, HSD.out.badS hG (by simp) HO.out⟩
     exact AllReady.nil
    refine AllReady.cons rfl (fun K9 hK9 => ?_) ?_
    ·
     go_simp
     refine (KT.out _ (HE.out.kept2 HSD.out.gr hC20) HSD.out.sc).mono ?_
     rintro e w' ⟨hG, rfl⟩
     exact ⟨rfl, HSD.out.badS hG (by simp) HO.out⟩
    exact AllReady.nil
   exact AllReady.nil
  | some p =>
   obtain ⟨l, r⟩ := p
   have HO := Lib.hid (show oo = some (l, r, k) by rw [← hHO.out, ht]; rfl)
   rw [ht] at KT
   clear hHO ht
   go_enter Tryz.func31, Tryz.ntmps31
   go_wp2_with fail
   generalize ((w.alloc (Obj.cells #[scP B] 62)).alloc (Obj.cells #[cmP C] 68)) = w2 at *
   go_region_held3 (fun W => W.cell? ⟨w.heap.size, 0, none⟩ = some (scP B) ∧ W.cell? ⟨w.heap.size + 1, 0, none⟩ = some (cmP C))
    (first | exact HS0.out | exact HS1.out.keep | exact (HS1.out.setC 3 _).keep)
    (first
     | (go_at_call 70; refine (KT.out _ (HE.out.kept2 HSD.out.gr hC20) HSD.out.sc).mono ?_; rintro e w1 ⟨hG1, u, rfl, hO1, hS1⟩; obtain ⟨A, c, hu, hrow⟩ := rowC_own hO1; subst hu; have HS1 := Lib.hid (HSD.out.step hG1 hS1); obtain ⟨c3, f3⟩ := HS1.out.cell H3.out; have HR1 := Lib.hid (rowC_own hO1); clear hG1 hO1 hS1 hrow))
   go_wp2
   go_end0
   have hz := HSD.out.gr.size
   exact (HS1.out.setC 3 (.slice A l.length c)).finS HO.out ⟨A, c, rfl, (HR1.out.kept (fun i hi => Below.heap_setCell _ _ _ _ (by have := hi.1; dsimp only; omega))).more (fun i hi => ⟨by have := hi.1; omega, by have := hi.2; simpa using this⟩)⟩
open Go.RowKit
open Pl (Bs idxB numOk numN setOk setL)
attribute [local go_sem ↓] Go.wp_at_zero Go.wp_at_succ
def restNames : List Bs := [[67, 65, 80, 65, 66, 73, 76, 73, 84, 89], [78, 79, 79, 80], [76, 79, 71, 79, 85, 84], [67, 72, 69, 67, 75], [67, 76, 79, 83, 69], [69, 88, 80, 85, 78, 71, 69], [76, 79, 71, 73, 78], [82, 69, 78, 65, 77, 69], [83, 69, 76, 69, 67, 84], [69, 88, 65, 77, 73, 78, 69], [67, 82, 69, 65, 84, 69], [68, 69, 76, 69, 84, 69], [83, 85, 66, 83, 67, 82, 73, 66, 69], [85, 78, 83, 85, 66, 83, 67, 82, 73, 66, 69], [76, 73, 83, 84], [76, 83, 85, 66], [83, 84, 65, 84, 85, 83], [65, 80, 80, 69, 78, 68], [67, 79, 80, 89], [83, 84, 79, 82, 69], [70, 69, 84, 67, 72], [83, 69, 65, 82, 67, 72]]
theorem rest_other (G : Glob) (B C k : Nat) (s N : Bs) (cs : Array Value) (h1 : cs[1]? = some (.string (str N))) (hN : ¬ N ∈ restNames) (hne : B ≠ C) (hC20 : 20 ≤ C) (w : World) (hC : w.heap[C]? = some (Obj.cells cs 33)) (hE : EnvI G w B) (h : Scn w B s k) :
  Calls Tryz.prog 31 #[scP B, cmP C] w (fun e w' => e = .panicked [wrongE] ∧ R2 B C w w' ∧ CmOk cs.size C w') := by
 have HST := Lib.hid (RsSt.start h hC hne)
 have HSD := Lib.hid HST.out.draw
 have HS0 := Lib.hid HSD.out.keep
 have HE := Lib.hid hE
 obtain ⟨c1, _⟩ := HST.out.cell h1
 obtain ⟨hl1, hl2, hl3⟩ := HST.out.lt
 have n0 : ((str N).toList == [67, 65, 80, 65, 66, 73, 76, 73, 84, 89]) = false := str_neb (fun e => hN (by rw [e]; decide))
 have n1 : ((str N).toList == [78, 79, 79, 80]) = false := str_neb (fun e => hN (by rw [e]; decide))
 have n2 : ((str N).toList == [76, 79, 71, 79, 85, 84]) = false := str_neb (fun e => hN (by rw [e]; decide))
 have n3 : ((str N).toList == [67, 72, 69, 67, 75]) = false := str_neb (fun e => hN (by rw [e]; decide))
 have n4 : ((str N).toList == [67, 76, 79, 83, 69]) = false := str_neb (fun e => hN (by rw [e]; decide))
 have n5 : ((str N).toList == [69, 88, 80, 85, 78, 71, 69]) = false := str_neb (fun e => hN (by rw [e]; decide))
 have n6 : ((str N).toList == [76, 79, 71, 73, 78]) = false := str_neb (fun e => hN (by rw [e]; decide))
 have n7 : ((str N).toList == [82, 69, 78, 65, 77, 69]) = false := str_neb (fun e => hN (by rw [e]; decide))
 have n8 : ((str N).toList == [83, 69, 76, 69, 67, 84]) = false := str_neb (fun e => hN (by rw [e]; decide))
 have n9 : ((str N).toList == [69, 88, 65, 77, 73, 78, 69]) = false := str_neb (fun e => hN (by rw [e]; decide))
 have n10 : ((str N).toList == [67, 82, 69, 65, 84, 69]) = false := str_neb (fun e => hN (by rw [e]; decide))
 have n11 : ((str N).toList == [68, 69, 76, 69, 84, 69]) = false := str_neb (fun e => hN (by rw [e]; decide))
 have n12 : ((str N).toList == [83, 85, 66, 83, 67, 82, 73, 66, 69]) = false := str_neb (fun e => hN (by rw [e]; decide))
 have n13 : ((str N).toList == [85, 78, 83, 85, 66, 83, 67, 82, 73, 66, 69]) = false := str_neb (fun e => hN (by rw [e]; decide))
 have n14 : ((str N).toList == [76, 73, 83, 84]) = false := str_neb (fun e => hN (by rw [e]; decide))
 have n15 : ((str N).toList == [76, 83, 85, 66]) = false := str_neb (fun e => hN (by rw [e]; decide))
 have n16 : ((str N).toList == [83, 84, 65, 84, 85, 83]) = false := str_neb (fun e => hN (by rw [e]; decide))
 have n17 : ((str N).toList == [65, 80, 80, 69, 78, 68]) = false := str_neb (fun e => hN (by rw [e]; decide))
 have n18 : ((str N).toList == [67, 79, 80, 89]) = false := str_neb (fun e => hN (by rw [e]; decide))
 have n19 : ((str N).toList == [83, 84, 79, 82, 69]) = false := str_neb (fun e => hN (by rw [e]; decide))
 have n20 : ((str N).toList == [70, 69, 84, 67, 72]) = false := str_neb (fun e => hN (by rw [e]; decide))
 have n21 : ((str N).toList == [83, 69, 65, 82, 67, 72]) = false := str_neb (fun e => hN (by rw [e]; decide))
 clear hE h h1 hN
 go_enter Tryz.func31, Tryz.ntmps31
 go_wp2
 exact ⟨rfl, rfl, HST.out.gr, _, HST.out.cmd, rfl⟩
open Go.RowKit
open Pl (Bs idxB numOk numN setOk setL)
attribute [local go_sem ↓] Go.wp_at_zero Go.wp_at_succ
def copyB (s : Bs) (k : Nat) : Option ((List (Int × Int) × List Bs) × Bs × Nat) :=
 (isB [32] s).bind fun s1 => (setB s1).bind fun p => (textsB 1 p.2).map fun q => ((p.1, q.1), q.2, k)
def CopyQ (w : World) (cs : Array Value) : World → List (Int × Int) × List Bs → Array Value → Prop := fun w' p cs' => ∃ A c A2 c2, cs' = (cs.setIfInBounds 4 (.slice A p.1.length c)).setIfInBounds 3 (.slice A2 p.2.length c2) ∧ RowC w' (newT w w') (.slice A p.1.length c) p.1.length (flat p.1) ∧ RowC w' (newT w w') (.slice A2 p.2.length c2) p.2.length (p.2.map strV)
theorem rest_copy (G : Glob) (B C k : Nat) (s N : Bs) (cs : Array Value) (h1 : cs[1]? = some (.string (str N))) (v3 v4 : Value) (h3 : cs[3]? = some v3) (h4 : cs[4]? = some v4) (hN : N = [67, 79, 80, 89]) (hne : B ≠ C) (hC20 : 20 ≤ C) (w : World) (hC : w.heap[C]? = some (Obj.cells cs 33)) (hE : EnvI G w B) (h : Scn w B s k) :
  Calls Tryz.prog 31 #[scP B, cmP C] w (RestPostS cs.size w B C (CopyQ w cs) (copyB s k)) := by
 have HNN := Lib.hid hN
 clear hN
 have HST := Lib.hid (RsSt.start h hC hne)
 have HSD := Lib.hid HST.out.draw
 have HS0 := Lib.hid HSD.out.keep
 have HE := Lib.hid hE
 obtain ⟨c1, _⟩ := HST.out.cell h1
 obtain ⟨hl1, hl2, hl3⟩ := HST.out.lt
 have H4 := Lib.hid h4
 have H3 := Lib.hid (fun v => show (cs.setIfInBounds 4 v)[3]? = some v3 by simpa using h3)
 have hT : copyB s k = (isB [32] s).bind fun s1 => (setB s1).bind fun p => (textsB 1 p.2).map fun q => ((p.1, q.1), q.2, k) := rfl
 generalize copyB s k = oo at *
 have HT := Lib.hid hT
 clear hT h1 h3 h4 hE h
 have hN := HNN.out
 obtain ⟨n0, n1, n2, n3, n4, n5, n6, n7, n8, n9, n10, n11, n12, n13, n14, n15, n16, n17, _⟩ := notAll (N := N) (Ls := rNs.take 18) (by rw [hN]; decide)
 have n18 := strEq hN
 clear hN
 cases hb1 : isB [32] s with
 | none =>
  have HO := Lib.hid (show oo = none by rw [HT.out, hb1]; rfl)
  have K1 := Lib.hid (fun W hW => blank_no B s k hb1 W hW)
  clear hb1 HT
  go_enter Tryz.func31, Tryz.ntmps31
  go_wp2_with fail
  generalize ((w.alloc (Obj.cells #[scP B] 62)).alloc (Obj.cells #[cmP C] 68)) = w2 at *
  clear c1
  refine (K1.out _ HST.out.sc).mono ?_
  rintro e w3 ⟨rfl, hG3⟩
  exact ⟨rfl, HST.out.badS hG3 (by simp) HO.out⟩
 | some s1 =>
  have K1 := Lib.hid (fun W hW => blank_ok B s s1 k hb1 W hW)
  have K2 : Hid (∀ W, EnvI G W B → Scn W B s1 k → Calls Tryz.prog 75 #[scP B] W _) := Lib.hid (fun W hE hS => rset_walk G B k s1 W hE hS)
  cases hset : setB s1 with
  | none =>
   have HO := Lib.hid (show oo = none by rw [HT.out, hb1]; dsimp only [Option.bind]; rw [hset])
   rw [hset] at K2
   clear hb1 hset HT
   go_enter Tryz.func31, Tryz.ntmps31
   go_wp2_with fail
   generalize ((w.alloc (Obj.cells #[scP B] 62)).alloc (Obj.cells #[cmP C] 68)) = w2 at *
   clear c1
   refine (K1.out _ HST.out.sc).mono ?_
   rintro e w3 ⟨rfl, hS3, hG3⟩
   have HS3 := Lib.hid (HST.out.step hG3 hS3)
   have HS3D := Lib.hid HS3.out.draw
   have HS0 := Lib.hid HS3D.out.keep
   clear hS3 hG3
   go_wp2_with fail
   obtain ⟨d0, d1⟩ := HS3D.out.keep
   refine wp_region_any (by kernel_rfl) ?_
   change wpAny _ _ _ _ _ _ _ (World.drew _)
   refine wpAny_ready (rs := [0, 1]) (by kernel_rfl) (by simp) ?_
   refine AllReady.cons rfl (fun K9 hK9 => ?_) ?_
   ·
    go_simp
    refine hK9 _ _ ?_
    clear hK9 K9
    refine wpAny_ready (rs := [1]) (by kernel_rfl) (by simp) ?_
    refine AllReady.cons rfl (fun K9 hK9 => ?_) ?_
    ·
     go_simp
     refine hK9 _ _ ?_
     clear hK9 K9
     refine wpAny_ready (rs := [2]) (by kernel_rfl) (by simp) ?_
     refine AllReady.cons rfl (fun K9 hK9 => ?_) ?_
     ·
      go_simp
      refine (K2.out _ (HE.out.kept2 HS3D.out.gr hC20) HS3D.out.sc).mono ?_
      rintro e w' ⟨hG, rfl⟩
      exact ⟨rfl, HS3D.out.badS hG (by simp) HO.out⟩
     exact AllReady.nil
    exact AllReady.nil
   refine AllReady.cons rfl (fun K9 hK9 => ?_) ?_
   ·
    go_simp
    refine hK9 _ _ ?_
    clear hK9 K9
    refine wpAny_ready (rs := [0, 2]) (by kernel_rfl) (by simp) ?_
    refine AllReady.cons rfl (fun K9 hK9 => ?_) ?_
    ·
     go_simp
     refine hK9 _ _ ?_
     clear hK9 K9
     refine wpAny_ready (rs := [2]) (by kernel_rfl) (by simp) ?_
     refine AllReady.cons rfl (fun K9 hK9 => ?_) ?_
     ·
      go_simp
      refine (K2.out _ (HE.out.kept2 HS3D.out.gr hC20) HS3D.out.sc).mono ?_
      rintro e w' ⟨hG, rfl⟩
      exact ⟨rfl, HS3D.out.badS hG (by simp) HO.out⟩
     exact AllReady.nil
    refine AllReady.cons rfl (fun K9 hK9 => ?_) ?_
    ·
     go_simp
     refine (K2.out _ (HE.out.kept2 HS3D.out.gr hC20) HS3D.out.sc).mono ?_
     rintro e w' ⟨hG, rfl⟩
     exact ⟨rfl, HS3D.out.badS hG (by simp) HO.out⟩
    exact AllReady.nil
   exact AllReady.nil
  | some p =>
   obtain ⟨l, s2⟩ := p
   rw [hset] at K2
   have K4 : Hid (∀ W, EnvI G W B → Scn W B s2 k → Calls Tryz.prog 70 #[scP B, .int .i64 1] W _) := Lib.hid (fun W hE hS => texts_walk G B k 1 (by decide) s2 W hE hS)
   cases ht : textsB 1 s2 with
   | none =>
    have HO := Lib.hid (show oo = none by rw [HT.out, hb1]; dsimp only [Option.bind]; rw [hset]; dsimp only; rw [ht]; rfl)
    rw [ht] at K4
    clear hb1 hset ht HT
    go_enter Tryz.func31, Tryz.ntmps31
    go_wp2_with fail
    generalize ((w.alloc (Obj.cells #[scP B] 62)).alloc (Obj.cells #[cmP C] 68)) = w2 at *
    clear c1
    refine (K1.out _ HST.out.sc).mono ?_
    rintro e w3 ⟨rfl, hS3, hG3⟩
    have HS3 := Lib.hid (HST.out.step hG3 hS3)
    have HS3D := Lib.hid HS3.out.draw
    have HS0 := Lib.hid HS3D.out.keep
    clear hS3 hG3
    go_wp2_with fail
    go_region_held3 (fun W => W.cell? ⟨w.heap.size, 0, none⟩ = some (scP B) ∧ W.cell? ⟨w.heap.size + 1, 0, none⟩ = some (cmP C))
     (first | exact HS0.out | exact HS4.out.keep | exact (HS4.out.setC 4 _).keep)
     (first
      | (go_at_call 75; refine (K2.out _ (HE.out.kept2 HS3D.out.gr hC20) HS3D.out.sc).mono ?_; rintro e w4 ⟨hG4, u, rfl, hO4, hS4⟩; obtain ⟨A, c, hu, hrow⟩ := rowC_own hO4; subst hu; have HS4 := Lib.hid (HS3D.out.step hG4 hS4); obtain ⟨c4, f4⟩ := HS4.out.cell H4.out; have HR4 := Lib.hid (rowC_own hO4); clear hG4 hO4 hS4 hrow))
    have hz3 := HS3D.out.gr.size
    have HS5 := Lib.hid (HS4.out.setC 4 (.slice A l.length c))
    have HR5 : Hid (RowC (w4.setCell ⟨C, 4, none⟩ (.slice A l.length c)) (fun i => w.heap.size + 2 ≤ i ∧ i < (w4.setCell ⟨C, 4, none⟩ (.slice A l.length c)).heap.size) (.slice A l.length c) l.length (flat l)) := Lib.hid ((HR4.out.kept (fun i hi => Below.heap_setCell _ _ _ _ (by have := hi.1; dsimp only; omega))).more (fun i hi => ⟨by have := (Array.getElem?_eq_some_iff.1 HS3D.out.bc).1; have := hi.1; omega, by have := hi.2; simpa using this⟩))
    generalize w4.setCell ⟨C, 4, none⟩ (.slice A l.length c) = w5 at *
    have HS5D := Lib.hid HS5.out.draw
    obtain ⟨d0, d1⟩ := HS5D.out.keep
    go_wp2_with fail
    refine wp_region_any (by kernel_rfl) ?_
    change wpAny _ _ _ _ _ _ _ (World.drew _)
    refine wpAny_ready (rs := [0, 1]) (by kernel_rfl) (by simp) ?_
    refine AllReady.cons rfl (fun K9 hK9 => ?_) ?_
    ·
     go_simp
     refine hK9 _ _ ?_
     clear hK9 K9
     refine wpAny_ready (rs := [1]) (by kernel_rfl) (by simp) ?_
     refine AllReady.cons rfl (fun K9 hK9 => ?_) ?_
     ·
      go_simp
      refine hK9 _ _ ?_
      clear hK9 K9
      refine wpAny_ready (rs := [2]) (by kernel_rfl) (by simp) ?_
      refine AllReady.cons rfl (fun K9 hK9 => ?_) ?_
      ·
       go_simp
       refine (K4.out _ (HE.out.kept2 HS5D.out.gr hC20) HS5D.out.sc).mono ?_
       rintro e w' ⟨hG, rfl⟩
       exact ⟨rfl, HS5D.out.badS hG (by simp) HO.out⟩
      exact AllReady.nil
     exact AllReady.nil
    refine AllReady.cons rfl (fun K9 hK9 => ?_) ?_
    ·
     go_simp
     refine hK9 _ _ ?_
     clear hK9 K9
     refine wpAny_ready (rs := [0, 2]) (by kernel_rfl) (by simp) ?_
     refine AllReady.cons rfl (fun K9 hK9 => ?_) ?_
     ·
      go_simp
      refine hK9 _ _ ?_
      clear hK9 K9
      refine wpAny_ready (rs := [2]) (by kernel_rfl) (by simp) ?_
      refine AllReady.cons rfl (fun K9 hK9 => ?_) ?_
      ·
       go_simp
       refine (K4.out _ (HE.out.kept2 HS5D.out.gr hC20) HS5D.out.sc).mono ?_
       rintro e w' ⟨hG, rfl⟩
       exact ⟨rfl, HS5D.out.badS hG (by simp) HO.out⟩
      exact AllReady.nil
     refine AllReady.cons rfl (fun K9 hK9 => ?_) ?_
     ·
      go_simp
      refine (K4.out _ (HE.out.kept2 HS5D.out.gr hC20) HS5D.out.sc).mono ?_
      rintro e w' ⟨hG, rfl⟩
      exact ⟨rfl, HS5D.out.badS hG (by simp) HO.out⟩
     exact AllReady.nil
    exact AllReady.nil
   | some q =>
    obtain ⟨xs, r⟩ := q
    have HO := Lib.hid (show oo = some ((l, xs), r, k) by rw [HT.out, hb1]; dsimp only [Option.bind]; rw [hset]; dsimp only; rw [ht]; rfl)
    rw [ht] at K4
    clear hb1 hset ht HT
    go_enter Tryz.func31, Tryz.ntmps31
    go_wp2_with fail
    generalize ((w.alloc (Obj.cells #[scP B] 62)).alloc (Obj.cells #[cmP C] 68)) = w2 at *
    clear c1
    refine (K1.out _ HST.out.sc).mono ?_
    rintro e w3 ⟨rfl, hS3, hG3⟩
    have HS3 := Lib.hid (HST.out.step hG3 hS3)
    have HS3D := Lib.hid HS3.out.draw
    have HS0 := Lib.hid HS3D.out.keep
    clear hS3 hG3
    go_wp2_with fail
    go_region_held3 (fun W => W.cell? ⟨w.heap.size, 0, none⟩ = some (scP B) ∧ W.cell? ⟨w.heap.size + 1, 0, none⟩ = some (cmP C))
     (first | exact HS0.out | exact HS4.out.keep | exact (HS4.out.setC 4 _).keep)
     (first
      | (go_at_call 75; refine (K2.out _ (HE.out.kept2 HS3D.out.gr hC20) HS3D.out.sc).mono ?_; rintro e w4 ⟨hG4, u, rfl, hO4, hS4⟩; obtain ⟨A, c, hu, hrow⟩ := rowC_own hO4; subst hu; have HS4 := Lib.hid (HS3D.out.step hG4 hS4); obtain ⟨c4, f4⟩ := HS4.out.cell H4.out; have HR4 := Lib.hid (rowC_own hO4); clear hG4 hO4 hS4 hrow))
    have hz3 := HS3D.out.gr.size
    have HS5 := Lib.hid (HS4.out.setC 4 (.slice A l.length c))
    have HR5 : Hid (RowC (w4.setCell ⟨C, 4, none⟩ (.slice A l.length c)) (fun i => w.heap.size + 2 ≤ i ∧ i < (w4.setCell ⟨C, 4, none⟩ (.slice A l.length c)).heap.size) (.slice A l.length c) l.length (flat l)) := Lib.hid ((HR4.out.kept (fun i hi => Below.heap_setCell _ _ _ _ (by have := hi.1; dsimp only; omega))).more (fun i hi => ⟨by have := (Array.getElem?_eq_some_iff.1 HS3D.out.bc).1; have := hi.1; omega, by have := hi.2; simpa using this⟩))
    generalize w4.setCell ⟨C, 4, none⟩ (.slice A l.length c) = w5 at *
    have HS5D := Lib.hid HS5.out.draw
    have HS60 := Lib.hid HS5D.out.keep
    have HR6 : Hid (RowC w5.drew (fun i => w.heap.size + 2 ≤ i ∧ i < w5.heap.size) (.slice A l.length c) l.length (flat l)) := Lib.hid (HR5.out.kept (w1 := w5.drew) (fun i hi => rfl))
    go_wp2_with fail
    go_region_held3 (fun W => W.cell? ⟨w.heap.size, 0, none⟩ = some (scP B) ∧ W.cell? ⟨w.heap.size + 1, 0, none⟩ = some (cmP C))
     (first | exact HS60.out | exact HS7.out.keep | exact (HS7.out.setC 3 _).keep)
     (first
      | (go_at_call 70; refine (K4.out _ (HE.out.kept2 HS5D.out.gr hC20) HS5D.out.sc).mono ?_; rintro e w7 ⟨hG7, u7, rfl, hO7, hS7⟩; obtain ⟨A2, c2, hu7, hrow7⟩ := rowC_own hO7; subst hu7; have HS7 := Lib.hid (HS5D.out.step hG7 hS7); obtain ⟨c10, f10⟩ := HS7.out.cell (H3.out _); have HR7 := Lib.hid (rowC_own hO7); have HG7 := Lib.hid hG7; clear hG7 hO7 hS7 hrow7))
    go_wp2
    go_end0
    have hz7 := HG7.out.size
    have hd : w5.drew.heap.size = w5.heap.size := rfl
    have hz66 := HS5D.out.gr.size
    have hbc5 := (Array.getElem?_eq_some_iff.1 HS5D.out.bc).1
    have hset : ∀ i, i ≠ C → (w7.setCell ⟨C, 3, none⟩ (.slice A2 xs.length c2)).heap[i]? = w7.heap[i]? := fun i hi => Below.heap_setCell _ _ _ _ hi
    refine (HS7.out.setC 3 (.slice A2 xs.length c2)).finS HO.out ⟨A, c, A2, c2, rfl, ?_, ?_⟩
    ·
     refine ((HR6.out.kept (w1 := w7) (fun i hi => HG7.out.block i (by have := hi.2; omega) (fun e => by have := Option.some.inj e; have := hi.1; omega))).kept (fun i hi => hset i (by have := hi.1; omega))).more (fun i hi => ⟨by have := hi.1; omega, by have := hi.2; simp; omega⟩)
    ·
     exact (HR7.out.kept (fun i hi => hset i (by have := hi.1; omega))).more (fun i hi => ⟨by have := hi.1; omega, by have := hi.2; simpa using this⟩)
end Go.Proofs.YtgmfhldfdnnafaaGreatDoor
namespace Go.Proofs.YtgmfhldfdnnafaaGreatDoor.Pl
def leapB (y : Nat) : Bool := (decide (y % 4 = 0) && !decide (y % 100 = 0)) || decide (y % 400 = 0)
def daysM (y m : Nat) : Nat := if m = 2 then (if leapB y = true then 29 else 28) else if m = 4 ∨ m = 6 ∨ m = 9 ∨ m = 11 then 30 else if 1 ≤ m ∧ m ≤ 12 then 31 else 0
def dM (n : Nat) : Nat := daysM (1970 + n / 12) (n % 12 + 1)
def cum : Nat → Nat
 | 0 => 0
 | n + 1 => cum n + dM n
def ahead : Nat → Nat
 | 0 => 0
 | k + 1 => ahead k + 365 + (if leapB (1970 + k) = true then 1 else 0)
theorem ahead_succ (k : Nat) : ahead (k + 1) = ahead k + 365 + (if leapB (1970 + k) = true then 1 else 0) := rfl
end Go.Proofs.YtgmfhldfdnnafaaGreatDoor.Pl
namespace Go.Proofs.YtgmfhldfdnnafaaGreatDoor
open Go.RowKit
open Pl (leapB daysM dM cum)
theorem retBool {x y : Bool} (h : x = y) : Ending.returned (.bool x) = Ending.returned (.bool y) := by rw [h]
theorem retInt {x y : Int} (h : x = y) : Ending.returned (.int .i64 x) = Ending.returned (.int .i64 y) := by rw [h]
theorem leap_walk (y : Nat) (hy : y ≤ 10000) (w : World) :
  Calls Tryz.prog 159 #[.int .i64 y] w fun e w' => e = .returned (.bool (leapB y)) ∧ w = w' := by
 go_enter Tryz.func159, Tryz.ntmps159
 go_wp2
 all_goals go_ret
 all_goals exact ⟨retBool (by rw [Bool.eq_iff_iff]; simp [leapB]; omega), rfl⟩
theorem days_not (y m : Nat) (h2 : m ≠ 2) (h1 : 1 ≤ m) (h12 : m ≤ 12) : daysM y m = if m = 4 ∨ m = 6 ∨ m = 9 ∨ m = 11 then 30 else 31 := by
 rw [daysM, if_neg h2]; split
 ·
  rfl
 ·
  rw [if_pos ⟨h1, h12⟩]
theorem days_two (y : Nat) : daysM y 2 = if leapB y = true then 29 else 28 := rfl
theorem days_walk (y m : Nat) (hy : y ≤ 10000) (h1 : 1 ≤ m) (h12 : m ≤ 12) (w : World) :
  Calls Tryz.prog 158 #[.int .i64 y, .int .i64 m] w fun e w' => e = .returned (.int .i64 (daysM y m)) ∧ w = w' := by
 by_cases h2 : m = 2
 ·
  subst h2
  have HD := Lib.hid (days_two y)
  go_enter Tryz.func158, Tryz.ntmps158
  go_wp2_with fail
  refine (leap_walk y hy _).mono ?_
  rintro e w' ⟨rfl, rfl⟩
  cases hl : leapB y
  ·
   rw [hl] at HD
   go_wp2
   go_ret
   exact ⟨retInt (by rw [HD.out]; rfl), rfl⟩
  ·
   rw [hl] at HD
   go_wp2
   go_ret
   exact ⟨retInt (by rw [HD.out]; rfl), rfl⟩
 ·
  have HD := Lib.hid (days_not y m h2 h1 h12)
  have hm : m = 1 ∨ m = 3 ∨ m = 4 ∨ m = 5 ∨ m = 6 ∨ m = 7 ∨ m = 8 ∨ m = 9 ∨ m = 10 ∨ m = 11 ∨ m = 12 := by omega
  clear h2 h1 h12
  go_enter Tryz.func158, Tryz.ntmps158
  rcases hm with rfl | rfl | rfl | rfl | rfl | rfl | rfl | rfl | rfl | rfl | rfl
  all_goals
   go_wp2
   go_ret
   exact ⟨retInt (by rw [HD.out]; rfl), rfl⟩
theorem ahead_small (k : Nat) : Pl.ahead k ≤ 366 * k := by
 induction k with
 | zero => exact Nat.le_refl _
 | succ k ih => rw [Pl.ahead_succ]; split <;> omega
open Go.RowKit
open Pl (Bs digB)
abbrev dsP (B : Nat) : Value := .pointer (some ⟨B, 0, none⟩)
structure DScn (w : World) (B : Nat) (s : Bs) : Prop where
 heap : w.heap[B]? = some (Obj.cells #[.string (str s)] 173)
 small : s.length ≤ 1000000
theorem DScn.lt {w : World} {B : Nat} {s : Bs} (h : DScn w B s) : B < w.heap.size := (Array.getElem?_eq_some_iff.1 h.heap).1
theorem DScn.cells {w : World} {B : Nat} {s : Bs} (h : DScn w B s) : w.cell? ⟨B, 0, none⟩ = some (.string (str s)) ∧ w.frozen? ⟨B, 0, none⟩ = false := one_cells h.heap
theorem DScn.put {w : World} {B : Nat} {s : Bs} (h : DScn w B s) (r : Bs) (hr : r.length ≤ s.length) : DScn (w.setCell ⟨B, 0, none⟩ (.string (str r))) B r :=
 ⟨by simp [World.setCell, Array.getElem?_modify, h.heap], Nat.le_trans hr h.small⟩
theorem DScn.kept {w w1 : World} {B : Nat} {s : Bs} {row : Option Nat} (h : DScn w B s) (hg : w.grownBy w1 row) (hne : some B ≠ row) : DScn w1 B s := ⟨(hg.block B h.lt hne).trans h.heap, h.small⟩
theorem DScn.then {w w1 : World} {B : Nat} {s : Bs} (h : DScn w B s) (hb : Below w.heap.size w w1) : DScn w1 B s := ⟨(hb.block _ h.lt).trans h.heap, h.small⟩
def badE (G : Glob) : PanicEntry := { v := .iface 170 (.agg #[G.form]), recovered := false }
theorem need_yes (B : Nat) (w : World) : Calls Tryz.prog 126 #[dsP B, .bool true] w fun e w' => e = .returned (.tuple #[]) ∧ w = w' := by
 go_enter Tryz.func126, Tryz.ntmps126
 go_wp2
 go_end0
 exact ⟨rfl, rfl⟩
theorem need_no (G : Glob) (B : Nat) (w : World) (hf : w.cell? ⟨0, 0, none⟩ = some G.form) (hi : ∃ t x, G.form = .iface t x) : Calls Tryz.prog 126 #[dsP B, .bool false] w fun e w' => e = .panicked [badE G] ∧ w = w' := by
 obtain ⟨t, x, hx⟩ := hi
 have HX := Lib.hid hx
 rw [hx] at hf
 clear hx
 go_enter Tryz.func126, Tryz.ntmps126
 go_wp2
 refine ⟨rfl, ?_, rfl⟩
 rw [badE, HX.out]
theorem dis_ok (B : Nat) (s t r : Bs) (hs : isB t s = some r) (w : World) (h : DScn w B s) :
  Calls Tryz.prog 124 #[dsP B, .string (str t)] w fun e w' => e = .returned (.bool true) ∧ DScn w' B r ∧ w.grownBy w' (some B) := by
 obtain ⟨c0, f0⟩ := h.cells
 have HP := Lib.hid (h.put r (by have := isB_len hs; omega))
 have HG := Lib.hid (grown_put w B 0 (.string (str r)))
 have K := Lib.hid (cutPre_yes hs w)
 clear hs h
 generalize str t = T at *
 generalize str s = S at *
 go_enter Tryz.func124, Tryz.ntmps124
 go_wp2_with fail
 refine K.out.mono ?_
 rintro e w' ⟨rfl, rfl⟩
 go_wp2
 go_ret
 exact ⟨rfl, HP.out, HG.out⟩
theorem dis_not (B : Nat) (s t : Bs) (hs : isB t s = none) (w : World) (h : DScn w B s) :
  Calls Tryz.prog 124 #[dsP B, .string (str t)] w fun e w' => e = .returned (.bool false) ∧ DScn w' B s ∧ w.grownBy w' (some B) := by
 obtain ⟨c0, f0⟩ := h.cells
 have HP := Lib.hid (h.put s (Nat.le_refl _))
 have HG := Lib.hid (grown_put w B 0 (.string (str s)))
 have K := Lib.hid (cutPre_no hs w)
 clear hs h
 generalize str t = T at *
 generalize str s = S at *
 go_enter Tryz.func124, Tryz.ntmps124
 go_wp2_with fail
 refine K.out.mono ?_
 rintro e w' ⟨rfl, rfl⟩
 go_wp2
 go_ret
 exact ⟨rfl, HP.out, HG.out⟩
def DUPost (G : Glob) (w : World) (B : Nat) (o : Option Bs) (e : Ending) (w' : World) : Prop :=
 w.grownBy w' (some B) ∧ match o with | none => e = .panicked [badE G] | some r => e = .returned (.tuple #[]) ∧ DScn w' B r
theorem dmust_walk (G : Glob) (B : Nat) (s t : Bs) (w : World) (hE : EnvI G w B) (h : DScn w B s) :
  Calls Tryz.prog 127 #[dsP B, .string (str t)] w (DUPost G w B (isB t s)) := by
 have HE := Lib.hid hE
 cases ho : isB t s with
 | some r =>
  have K := Lib.hid (dis_ok B s t r ho w h)
  clear hE h ho
  generalize str t = T at *
  go_enter Tryz.func127, Tryz.ntmps127
  go_wp2_with fail
  refine K.out.mono ?_
  rintro e w1 ⟨rfl, hS, hG⟩
  have HS := Lib.hid hS
  have HG := Lib.hid hG
  clear hS hG
  go_wp2_with fail
  refine (need_yes B _).mono ?_
  rintro e w' ⟨rfl, rfl⟩
  go_wp2
  go_end0
  exact ⟨HG.out, rfl, HS.out⟩
 | none =>
  have K := Lib.hid (dis_not B s t ho w h)
  clear hE h ho
  generalize str t = T at *
  go_enter Tryz.func127, Tryz.ntmps127
  go_wp2_with fail
  refine K.out.mono ?_
  rintro e w1 ⟨rfl, hS, hG⟩
  have HG := Lib.hid hG
  have HE1 := Lib.hid (HE.out.kept hG)
  clear hS hG
  go_wp2_with fail
  refine (need_no G B _ HE1.out.form HE1.out.formI).mono ?_
  rintro e w' ⟨rfl, rfl⟩
  exact ⟨rfl, HG.out, rfl⟩
def headDig : Bs → Bool
 | [] => false
 | c :: _ => digB c
theorem digit_walk (B : Nat) (s : Bs) (w : World) (h : DScn w B s) :
  Calls Tryz.prog 149 #[dsP B] w fun e w' => e = .returned (.bool (headDig s)) ∧ w = w' := by
 obtain ⟨c0, f0⟩ := h.cells
 cases s with
 | nil =>
  have e0 : (str []).toList.isEmpty = true := by rw [Lib.toList_data]; rfl
  have HV := Lib.hid (show headDig [] = false from rfl)
  clear h
  generalize str [] = S at *
  go_enter Tryz.func149, Tryz.ntmps149
  go_wp2
  go_ret
  exact ⟨by rw [HV.out]; rfl, rfl⟩
 | cons c l =>
  have e0 : (str (c :: l)).toList.isEmpty = false := by rw [Lib.toList_data]; rfl
  have hz : 0 < (str (c :: l)).size := by rw [str_size]; simp
  have hc : (str (c :: l))[0] = c := by rw [str_at]; rfl
  have hv : headDig (c :: l) = (decide ((48 : Int) ≤ ((str (c :: l))[0].toNat : Int)) && decide (((str (c :: l))[0].toNat : Int) ≤ 57)) := by
   rw [hc, headDig, digB]
   congr 1 <;> rw [Bool.eq_iff_iff, decide_eq_true_iff, decide_eq_true_iff] <;> omega
  clear h hc
  generalize str (c :: l) = S at *
  by_cases h1 : (48 : Int) ≤ (S[0].toNat : Int)
  ·
   by_cases h2 : (S[0].toNat : Int) ≤ 57
   ·
    have HV := Lib.hid (show headDig (c :: l) = true by rw [hv, decide_eq_true h1, decide_eq_true h2]; rfl)
    clear hv
    go_enter Tryz.func149, Tryz.ntmps149
    go_wp2
    go_ret
    exact ⟨by rw [HV.out]; rfl, rfl⟩
   ·
    have HV := Lib.hid (show headDig (c :: l) = false by rw [hv, decide_eq_true h1, decide_eq_false h2]; rfl)
    clear hv
    go_enter Tryz.func149, Tryz.ntmps149
    go_wp2
    go_ret
    exact ⟨by rw [HV.out]; rfl, rfl⟩
  ·
   have HV := Lib.hid (show headDig (c :: l) = false by rw [hv, decide_eq_false h1]; rfl)
   clear hv
   go_enter Tryz.func149, Tryz.ntmps149
   go_wp2
   go_ret
   exact ⟨by rw [HV.out]; rfl, rfl⟩
open Go.RowKit
open Pl (Bs digB)
def dnumA : Nat → Nat → Bs → Option (Nat × Bs)
 | 0, n, l => some (n, l)
 | _ + 1, _, [] => none
 | d + 1, n, c :: l => if digB c = true then dnumA d (10 * n + (c.toNat - 48)) l else none
theorem dnumA_lt : ∀ (d n k : Nat) (l : Bs) (p : Nat × Bs), n < 10 ^ k → dnumA d n l = some p → p.1 < 10 ^ (k + d)
 | 0, n, k, l, p, hn, h => by simp [dnumA] at h; subst h; simpa using hn
 | d + 1, n, k, [], p, hn, h => by simp [dnumA] at h
 | d + 1, n, k, c :: l, p, hn, h => by
  unfold dnumA at h
  split at h
  ·
   rename_i hd
   simp only [digB, Bool.and_eq_true, decide_eq_true_eq] at hd
   have := dnumA_lt d _ (k + 1) l p (by rw [Nat.pow_succ]; omega) h
   rwa [show k + 1 + d = k + (d + 1) by omega] at this
  ·
   cases h
def DIPost (G : Glob) (w : World) (B : Nat) (o : Option (Int × Bs)) (e : Ending) (w' : World) : Prop :=
 w.grownBy w' (some B) ∧ match o with | none => e = .panicked [badE G] | some p => e = .returned (.int .i64 p.1) ∧ DScn w' B p.2
theorem DIPost.bad {G : Glob} {w w' : World} {B : Nat} {o : Option (Int × Bs)} (hG : w.grownBy w' (some B)) (ho : o = none) : DIPost G w B o (.panicked [badE G]) w' := ⟨hG, by subst ho; rfl⟩
theorem DIPost.fin {G : Glob} {w w' : World} {B : Nat} {o : Option (Int × Bs)} {x : Int} {r : Bs} (hG : w.grownBy w' (some B)) (ho : o = some (x, r)) (hS : DScn w' B r) : DIPost G w B o (.returned (.int .i64 x)) w' := ⟨hG, by subst ho; exact ⟨rfl, hS⟩⟩
def castN (o : Option (Nat × Bs)) : Option (Int × Bs) := o.map fun p => ((p.1 : Int), p.2)
theorem dnumber_walk (G : Glob) (B d : Nat) (hd : d ≤ 4) (s : Bs) (w : World) (hE : EnvI G w B) (h : DScn w B s) :
  Calls Tryz.prog 125 #[dsP B, .int .i64 d] w (DIPost G w B (castN (dnumA d 0 s))) := by
 have HE := Lib.hid hE
 have H := Lib.hid h
 generalize hO : castN (dnumA d 0 s) = o
 have HO := Lib.hid hO
 clear hE h hO
 go_enter Tryz.func125, Tryz.ntmps125
 go_wp2
 go_loopw [5, 7] (fun nv iv wr => ∃ (j m : Nat) (r : Bs), nv = .int .i64 m ∧ iv = .int .i64 j ∧ j ≤ d ∧ m ≤ 99999 ∧ Hid (m < 10 ^ j ∧ dnumA d 0 s = dnumA (d - j) m r) ∧ Hid (DScn wr B r) ∧ Hid (w.grownBy wr (some B))) (fun _ iv _ => d - (intOf iv).toNat)
 case atStart => exact ⟨0, 0, s, rfl, rfl, Nat.zero_le _, by omega, Lib.hid ⟨by simp, by simp⟩, H, Lib.hid (grown_refl w _)⟩
 case round =>
  obtain ⟨j, m, r, rfl, rfl, hj, hm, HQ, HS, HG⟩ := hrel
  by_cases hjd : j < d
  ·
   have K := Lib.hid (digit_walk B r wr HS.out)
   have hm9 : m ≤ 999 := by
    have h1 := HQ.out.1
    have h2 : (10 : Nat) ^ j ≤ 10 ^ 3 := Nat.pow_le_pow_right (by decide) (by omega)
    omega
   obtain ⟨q, hq⟩ : ∃ q, d - j = q + 1 := ⟨d - j - 1, by omega⟩
   cases hh : headDig r with
   | false =>
    rw [hh] at K
    have HB := Lib.hid (show o = none by
     rw [← HO.out, HQ.out.2, hq]
     cases r with
     | nil => rfl
     | cons c l =>
      have hc : digB c = false := hh
      simp [dnumA, hc, castN])
    have HE1 := Lib.hid (HE.out.kept HG.out)
    clear hh
    go_wp2_with fail
    refine K.out.mono ?_
    rintro e w1 ⟨rfl, rfl⟩
    go_wp2_with fail
    refine (need_no G B _ HE1.out.form HE1.out.formI).mono ?_
    rintro e w1 ⟨rfl, rfl⟩
    exact ⟨rfl, .bad HG.out HB.out⟩
   | true =>
    rw [hh] at K
    cases r with
    | nil => cases hh
    | cons c l =>
     have hc : digB c = true := hh
     have hc2 := hc
     simp only [digB, Bool.and_eq_true, decide_eq_true_eq] at hc2
     obtain ⟨c0, f0⟩ := HS.out.cells
     have hz : 0 < (str (c :: l)).size := by rw [str_size]; simp
     have hS0 : (str (c :: l))[0] = c := by rw [str_at]; rfl
     have h48 : (48 : Int) ≤ ((str (c :: l))[0].toNat : Int) := by rw [hS0]; omega
     have h57 : ((str (c :: l))[0].toNat : Int) ≤ 57 := by rw [hS0]; omega
     have HX := Lib.hid (show (str (c :: l)).extract 1 (str (c :: l)).size = str l by
      have := str_drop (c :: l) 1
      rw [str_size]; exact this)
     have HN := Lib.hid (show 10 * m + (c.toNat - 48) < 10 ^ (j + 1) ∧ dnumA d 0 s = dnumA (d - (j + 1)) (10 * m + (c.toNat - 48)) l from ⟨by have := HQ.out.1; rw [Nat.pow_succ]; omega, by rw [HQ.out.2, hq, show d - (j + 1) = q by omega]; simp only [dnumA, if_pos hc]⟩)
     have HV := Lib.hid (show ((10 * m + (c.toNat - 48) : Nat) : Int) = (10 : Int) * (m : Int) + (((str (c :: l))[0].toNat : Int) - 48) by rw [hS0]; omega)
     have hm' : 10 * m + (c.toNat - 48) ≤ 99999 := by omega
     have hw8 : IntKind.u8.wrap (((str (c :: l))[0].toNat : Int) - 48) = ((str (c :: l))[0].toNat : Int) - 48 := IntWalk.u8_in _ (by omega)
     have HP := Lib.hid (HS.out.put l (by simp))
     have HGn := Lib.hid (HG.out.trans (grown_put wr B 0 (.string (str l))))
     clear hh hc hc2 hS0
     go_wp2_with fail
     refine K.out.mono ?_
     rintro e w1 ⟨rfl, rfl⟩
     go_wp2_with fail
     refine (need_yes B _).mono ?_
     rintro e w1 ⟨rfl, rfl⟩
     have hx := HX.out
     go_wp2
     go_roundw
     case rel => exact ⟨j + 1, 10 * m + (c.toNat - 48), l, by rw [HV.out], by go_num, by omega, hm', HN, HP, HGn⟩
     case measure => simp [intOf]; omega
  ·
   obtain rfl : j = d := by omega
   have HB := Lib.hid (show o = some ((m : Int), r) by rw [← HO.out, HQ.out.2, Nat.sub_self]; rfl)
   go_wp2
   go_ret
   exact .fin HG.out HB.out HS.out
open Go.RowKit
open Pl (Bs digB)
def dshortA (l : Bs) : Option (Nat × Bs) :=
 match dnumA 1 0 l with
 | none => none
 | some (n, r) => if headDig r = true then (dnumA 1 0 r).map (fun p => (10 * n + p.1, p.2)) else some (n, r)
theorem castN_none {o : Option (Nat × Bs)} (h : o = none) : castN o = none := by subst h; rfl
theorem castN_some {o : Option (Nat × Bs)} {n : Nat} {r : Bs} (h : o = some (n, r)) : castN o = some ((n : Int), r) := by subst h; rfl
theorem dnum_head {l : Bs} (h : headDig l = true) : ∃ n r, dnumA 1 0 l = some (n, r) ∧ n ≤ 9 := by
 cases l with
 | nil => cases h
 | cons c l =>
  have hc : digB c = true := h
  have hc2 := hc
  simp only [digB, Bool.and_eq_true, decide_eq_true_eq] at hc2
  exact ⟨10 * 0 + (c.toNat - 48), l, by simp only [dnumA, if_pos hc], by omega⟩
theorem dshort_walk (G : Glob) (B : Nat) (s : Bs) (w : World) (hE : EnvI G w B) (h : DScn w B s) :
  Calls Tryz.prog 168 #[dsP B] w (DIPost G w B (castN (dshortA s))) := by
 have HE := Lib.hid hE
 have K1 : Hid (Calls Tryz.prog 125 #[dsP B, .int .i64 1] w _) := Lib.hid (dnumber_walk G B 1 (by decide) s w hE h)
 have hT : dshortA s = match dnumA 1 0 s with
  | none => none
  | some (n, r) => if headDig r = true then (dnumA 1 0 r).map (fun p => (10 * n + p.1, p.2)) else some (n, r) := rfl
 clear hE h
 cases h1 : dnumA 1 0 s with
 | none =>
  rw [h1] at K1 hT
  have HO := Lib.hid (castN_none hT)
  clear hT h1
  go_enter Tryz.func168, Tryz.ntmps168
  go_wp2_with fail
  refine K1.out.mono ?_
  rintro e w1 ⟨hG1, rfl⟩
  exact ⟨rfl, .bad hG1 HO.out⟩
 | some p =>
  obtain ⟨n, r⟩ := p
  have hn : n < 10 := by have := dnumA_lt 1 0 0 s _ (by decide) h1; simpa using this
  rw [h1] at K1 hT
  have KD := Lib.hid (fun W hW => digit_walk B r W hW)
  cases hh : headDig r with
  | false =>
   rw [hh] at KD
   have HO := Lib.hid (castN_some (hT.trans (if_neg (by rw [hh]; decide))))
   clear hT h1 hh
   go_enter Tryz.func168, Tryz.ntmps168
   go_wp2_with fail
   refine K1.out.mono ?_
   rintro e w1 ⟨hG1, rfl, hS1⟩
   have HG1 := Lib.hid hG1
   have HS1 := Lib.hid hS1
   clear hG1 hS1
   go_wp2_with fail
   refine (KD.out _ HS1.out).mono ?_
   rintro e w2 ⟨rfl, rfl⟩
   go_wp2
   go_ret
   exact .fin HG1.out HO.out HS1.out
  | true =>
   rw [hh] at KD
   obtain ⟨n2, r2, h2, hn2⟩ := dnum_head hh
   have K2 : Hid (∀ W, EnvI G W B → DScn W B r → Calls Tryz.prog 125 #[dsP B, .int .i64 1] W (DIPost G W B (castN (some (n2, r2))))) := Lib.hid (fun W hE hS => by have := dnumber_walk G B 1 (by decide) r W hE hS; rwa [h2] at this)
   have HO : Hid (castN (dshortA s) = some (((10 * n + n2 : Nat) : Int), r2)) := Lib.hid (castN_some (hT.trans ((if_pos hh).trans (by rw [h2]; rfl))))
   have hv : ((10 * n + n2 : Nat) : Int) = (10 : Int) * (n : Int) + (n2 : Int) := by omega
   rw [hv] at HO
   clear hT h1 hh h2 hv
   go_enter Tryz.func168, Tryz.ntmps168
   go_wp2_with fail
   refine K1.out.mono ?_
   rintro e w1 ⟨hG1, rfl, hS1⟩
   have HG1 := Lib.hid hG1
   have HS1 := Lib.hid hS1
   have HE1 := Lib.hid (HE.out.kept hG1)
   clear hG1 hS1
   go_wp2_with fail
   refine (KD.out _ HS1.out).mono ?_
   rintro e w2 ⟨rfl, rfl⟩
   go_wp2_with fail
   refine (K2.out _ HE1.out HS1.out).mono ?_
   rintro e w3 ⟨hG3, rfl, hS3⟩
   have HG3 := Lib.hid (HG1.out.trans hG3)
   have HS3 := Lib.hid hS3
   clear hG3 hS3
   go_wp2
   go_ret
   exact .fin HG3.out HO.out HS3.out
def dnameA (N : Bs) : Nat → Nat → Bs → Option (Nat × Bs)
 | 0, _, _ => none
 | f + 1, i, l => match isB ((N.drop (3 * i)).take 3) l with
  | some r => some (i, r)
  | none => dnameA N f (i + 1) l
theorem dnameA_len (N : Bs) : ∀ (f i : Nat) (l : Bs) (p : Nat × Bs), dnameA N f i l = some p → p.2.length ≤ l.length ∧ p.1 < i + f
 | 0, i, l, p, h => by simp [dnameA] at h
 | f + 1, i, l, p, h => by
  unfold dnameA at h
  split at h
  ·
   rename_i r hr
   simp only [Option.some.injEq] at h
   subst h
   have := isB_len hr
   exact ⟨by dsimp only; omega, by dsimp only; omega⟩
  ·
   have := dnameA_len N f (i + 1) l p h
   exact ⟨this.1, by omega⟩
theorem str_mid (l : Bs) (a b : Nat) : (str l).extract a b = str ((l.drop a).take (b - a)) := bs_inj (by rw [bs_str]; simp [bs, str, List.extract_eq_take_drop])
theorem dname_walk (G : Glob) (B f : Nat) (hf : f ≤ 100) (N : Bs) (hN : N.length = 3 * f) (s : Bs) (w : World) (hE : EnvI G w B) (h : DScn w B s) :
  Calls Tryz.prog 128 #[dsP B, .string (str N)] w (DIPost G w B (castN (dnameA N f 0 s))) := by
 have HE := Lib.hid hE
 have H := Lib.hid h
 have hz : (str N).size = 3 * f := by rw [str_size, hN]
 have HM := Lib.hid (fun j => str_mid N (3 * j) (3 * j + 3))
 generalize hO : castN (dnameA N f 0 s) = o
 have HO := Lib.hid hO
 clear hE h hO
 go_enter Tryz.func128, Tryz.ntmps128
 go_wp2
 go_loopw [5] (fun iv wr => ∃ j : Nat, iv = .int .i64 ((3 * j : Nat) : Int) ∧ j ≤ f ∧ Hid (dnameA N f 0 s = dnameA N (f - j) j s) ∧ Hid (DScn wr B s) ∧ Hid (w.grownBy wr (some B))) (fun iv _ => 3 * f - (intOf iv).toNat)
 case atStart => exact ⟨0, rfl, Nat.zero_le _, Lib.hid (by simp), H, Lib.hid (grown_refl w _)⟩
 case round =>
  obtain ⟨j, rfl, hj, HQ, HS, HG⟩ := hrel
  by_cases hjd : j < f
  ·
   obtain ⟨q, hq⟩ : ∃ q, f - j = q + 1 := ⟨f - j - 1, by omega⟩
   have hx : (str N).extract (3 * j) (3 * j + 3) = str ((N.drop (3 * j)).take 3) := by rw [HM.out j, show 3 * j + 3 - 3 * j = 3 by omega]
   have hlt : ((3 * j : Nat) : Int) < ((3 * f : Nat) : Int) := by omega
   have hle : 3 * j + 3 ≤ 3 * f := by omega
   have hw : IntKind.i64.wrap (((3 * j : Nat) : Int) + 3) = ((3 * j + 3 : Nat) : Int) := by rw [IntWalk.i64_in _ (by omega)]; omega
   cases hi : isB ((N.drop (3 * j)).take 3) s with
   | some r =>
    have K := Lib.hid (dis_ok B s ((N.drop (3 * j)).take 3) r hi wr HS.out)
    have HB : Hid (o = some ((j : Int), r)) := Lib.hid (by rw [← HO.out, HQ.out, hq, dnameA, hi]; rfl)
    have hdv : (((3 * j : Nat) : Int)).tdiv 3 = (j : Int) := by rw [Int.tdiv_eq_ediv_of_nonneg (by omega)]; omega
    clear hi
    go_wp2_with fail
    refine K.out.mono ?_
    rintro e w1 ⟨rfl, hS1, hG1⟩
    have HG1 := Lib.hid (HG.out.trans hG1)
    have HS1 := Lib.hid hS1
    clear hG1 hS1
    go_wp2
    go_ret
    trace_state
    exact .fin HG1.out HB.out HS1.out
   | none =>
    have K := Lib.hid (dis_not B s ((N.drop (3 * j)).take 3) hi wr HS.out)
    have HN := Lib.hid (show dnameA N f 0 s = dnameA N (f - (j + 1)) (j + 1) s by rw [HQ.out, hq, show f - (j + 1) = q by omega]; simp only [dnameA, hi])
    clear hi
    go_wp2_with fail
    refine K.out.mono ?_
    rintro e w1 ⟨rfl, hS1, hG1⟩
    have HG1 := Lib.hid (HG.out.trans hG1)
    have HS1 := Lib.hid hS1
    clear hG1 hS1
    go_wp2
    go_roundw
    case rel => exact ⟨j + 1, by go_num, by omega, HN, HS1, HG1⟩
    case measure => simp [intOf]; omega
  ·
   obtain rfl : j = f := by omega
   have HB := Lib.hid (show o = none by rw [← HO.out, HQ.out, Nat.sub_self]; rfl)
   have HE1 := Lib.hid (HE.out.kept HG.out)
   go_wp2_with fail
   refine (need_no G B _ HE1.out.form HE1.out.formI).mono ?_
   rintro e w1 ⟨rfl, rfl⟩
   exact ⟨rfl, .bad HG.out HB.out⟩
end Go.Proofs.YtgmfhldfdnnafaaGreatDoor
