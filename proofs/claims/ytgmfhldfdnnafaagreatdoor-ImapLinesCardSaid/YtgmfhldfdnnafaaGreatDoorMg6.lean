/- A part of the proofs of the statements on chapter 21: walks of functions that they reach, and plain laws. What is proved is stated in the last text. Conditions: none of its own. -/
import Derived.Test.YtgmfhldfdnnafaaGreatDoorMg5
import Derived.Shelf.Strings.Split
import Derived.Deep.AppendLies
namespace Go.Proofs.YtgmfhldfdnnafaaGreatDoor
open Go.RowKit
open Pl (Bs idxB numOk numN setOk setL)
attribute [local go_sem ↓] Go.wp_at_zero Go.wp_at_succ
set_option linter.unusedSimpArgs false
set_option linter.unusedVariables false
def keyNames : List Bs := [[65, 76, 76], [65, 78, 83, 87, 69, 82, 69, 68], [68, 69, 76, 69, 84, 69, 68], [68, 82, 65, 70, 84], [70, 76, 65, 71, 71, 69, 68], [83, 69, 69, 78], [85, 78, 65, 78, 83, 87, 69, 82, 69, 68], [85, 78, 68, 69, 76, 69, 84, 69, 68], [85, 78, 68, 82, 65, 70, 84], [85, 78, 70, 76, 65, 71, 71, 69, 68], [85, 78, 83, 69, 69, 78], [66, 69, 70, 79, 82, 69], [79, 78], [83, 73, 78, 67, 69], [83, 69, 78, 84, 66, 69, 70, 79, 82, 69], [83, 69, 78, 84, 79, 78], [83, 69, 78, 84, 83, 73, 78, 67, 69], [76, 65, 82, 71, 69, 82], [83, 77, 65, 76, 76, 69, 82], [66, 67, 67], [66, 79, 68, 89], [67, 67], [70, 82, 79, 77], [83, 85, 66, 74, 69, 67, 84], [84, 69, 88, 84], [84, 79], [72, 69, 65, 68, 69, 82], [78, 79, 84], [79, 82], [85, 73, 68]]
theorem KySt.setK {w : World} {B h k : Nat} {s : Bs} {nm : ByteArray} {W : World} (st : KySt w B h s k (nameKey nm) W) {v : Value} : KySt w B h s k (Obj.cells #[.string nm, .string ⟨#[]⟩, .string ⟨#[]⟩, .int .i64 0, .slice none 0 0, v] 51) (W.setCell ⟨h, 5, none⟩ v) := by
  have hl := st.hlt
  have ho := st.pre.old
  exact ⟨⟨grown_new st.pre.gr (grown_put W h 5 v) (fun k e => .inl (by have := Option.some.inj e; omega)), st.pre.sc.kept (grown_put W h 5 v) (fun e => by have := Option.some.inj e; omega), (Below.heap_setCell _ _ _ _ (by dsimp only; omega)).trans st.pre.box, (Below.heap_setCell _ _ _ _ (by dsimp only; omega)).trans st.pre.res, ho⟩, (setCell_heap_same st.xb).trans rfl, hl⟩
theorem grown_dr (w : World) (row : Option Nat) : w.grownBy w.drew row := ⟨rfl, rfl, rfl, Nat.le_refl _, fun _ _ _ => rfl⟩
theorem KySt.set6 {w : World} {B h k : Nat} {s : Bs} {a0 a1 a2 a3 a4 a5 b0 b1 b2 b3 b4 b5 : Value} {W : World} (st : KySt w B h s k (Obj.cells #[a0, a1, a2, a3, a4, a5] 51) W) : KySt w B h s k (Obj.cells #[b0, b1, b2, b3, b4, b5] 51) ((((((W.setCell ⟨h, 0, none⟩ b0).setCell ⟨h, 1, none⟩ b1).setCell ⟨h, 2, none⟩ b2).setCell ⟨h, 3, none⟩ b3).setCell ⟨h, 4, none⟩ b4).setCell ⟨h, 5, none⟩ b5) := by
  have hl := st.hlt
  have ho := st.pre.old
  obtain ⟨h1, h2⟩ := Go.Proofs.YtgmfhldfdnnafaaGreatDoor.set6 W h 51 a0 a1 a2 a3 a4 a5 b0 b1 b2 b3 b4 b5 st.xb
  have hk : ∀ i x, W.heap[i]? = some x → i ≠ h → _ := fun i x hi hne => (h2.block i (Array.getElem?_eq_some_iff.1 hi).1 (fun e => hne (Option.some.inj e))).trans hi
  exact ⟨⟨grown_new st.pre.gr h2 (fun k e => .inl (by have := Option.some.inj e; omega)), st.pre.sc.kept h2 (fun e => by have := Option.some.inj e; omega), hk _ _ st.pre.box (by omega), hk _ _ st.pre.res (by omega), ho⟩, h1, hl⟩
set_option maxHeartbeats 8000000 in
set_option maxRecDepth 100000 in
theorem key_seen (G : Glob) (B k : Nat) (s W0 r : Bs) (hk : k + 1 ≤ 50) (hp : isB [40] s = none) (hw : wordB [37, 42] s = some (W0, r)) (hnm : largeL W0 = [83, 69, 69, 78]) (w : World) (hE : EnvI G w B) (h : Scn w B s k) :
    Calls Tryz.prog 106 #[scP B] w (KeyPost w B (some (.mk [83, 69, 69, 78] [] [] 0 [] [], r, k + 1))) := by
  have HPre := Lib.hid (KyPre.start h (by omega))
  have hk1 : ((k : Int) + 1 ≤ 50) := by omega
  have hb : ¬ (B = w.heap.size) := by have := h.lt; omega
  have hb2 : ¬ (B = w.heap.size + 1) := by have := h.lt; omega
  obtain ⟨c0, c1, f0, f1⟩ := h.cells
  have KP : Hid (∀ W, Calls Tryz.prog 99 #[.string (str s), .string ⟨#[40]⟩] W _) := Lib.hid (fun W => hasPre_no hp W)
  have KW : Hid (∀ W, Scn W B s (k + 1) → Calls Tryz.prog 26 #[scP B, .string ⟨#[37, 42]⟩] W _) := Lib.hid (fun W hW => word_ok B [37, 42] s W0 r (k + 1) hw W hW)
  have hlen := wordB_len hw
  have hsm := h.small
  have hlt := h.lt
  have KL : Hid (∀ W, Calls Tryz.prog 29 #[.string (str W0)] W fun e w' => e = .returned (.string ⟨#[83, 69, 69, 78]⟩) ∧ Below W.heap.size W w') := Lib.hid (fun W => by have K := large_walk21 W0 (by omega) W; rw [hnm] at K; exact K)
  have HE := Lib.hid hE
  clear hw hp h hE hnm
  go_enter Tryz.func106, Tryz.ntmps106
  go_wp2_with fail
  generalize ((w.setCell ⟨B, 1, none⟩ (.int .i64 ((k : Int) + 1))).alloc (Obj.cells #[scP B] 62)).alloc (Obj.cells #[.string ⟨#[]⟩, .string ⟨#[]⟩, .string ⟨#[]⟩, .int .i64 0, .slice none 0 0, .slice none 0 0] 51) = w2 at HPre ⊢
  clear c0 c1 f0 f1
  have HPd := Lib.hid HPre.out.draw
  have d0 := (one_cells HPre.out.box).1
  obtain ⟨_, d1, _, _⟩ := HPre.out.sc.cells
  have hcast : ((k + 1 : Nat) : Int) = (k : Int) + 1 := by omega
  rw [hcast] at d1
  clear hcast
  have D0 := Lib.hid (show w2.drew.cell? ⟨w.heap.size, 0, none⟩ = some (scP B) ∧ w2.drew.cell? ⟨B, 1, none⟩ = some (.int .i64 ((k : Int) + 1)) from ⟨d0, d1⟩)
  go_region_held3 (fun W => W.cell? ⟨w.heap.size, 0, none⟩ = some (scP B) ∧ W.cell? ⟨B, 1, none⟩ = some (.int .i64 ((k : Int) + 1)))
    (first | exact D0.out)
    (first
      | (go_at_call 27; refine (must_walk B _).mono ?_; rintro e w' ⟨rfl, rfl⟩))
  generalize w2.drew = w3 at *
  clear d0 d1 D0
  have d0 := (one_cells HPd.out.box).1
  obtain ⟨d1, _, _, _⟩ := HPd.out.sc.cells
  go_wp2_with fail
  refine (KP.out _).mono ?_
  rintro e w4 ⟨rfl, rfl⟩
  go_wp2_with fail
  refine (KW.out _ HPd.out.sc).mono ?_
  rintro e w5 ⟨rfl, hS5, hG5⟩
  have HP5 := Lib.hid (HPd.out.step hG5 hS5)
  clear hS5 hG5 d0 d1
  go_wp2_with fail
  refine (KL.out _).mono ?_
  rintro e w6 ⟨rfl, hB6⟩
  have HP6 := Lib.hid (HP5.out.below hB6)
  have HK7 := Lib.hid (HP6.out.name ⟨#[83, 69, 69, 78]⟩)
  clear hB6
  obtain ⟨⟨a0, a1, a2, a3, a4, a5⟩, e0, e1, e2, e3, e4, e5⟩ := six_cells HK7.out.xb
  obtain ⟨⟨b0, b1, b2, b3, b4, b5⟩, g0, g1, g2, g3, g4, g5⟩ := six_cells HK7.out.pre.res
  go_wp2
  refine bodyPost_ret (v := _) ?_ rfl (KyPre.fin HK7.out.pre rfl (set6 _ _ _ _ _ _ _ _ _ _ _ _ _ _ _ HK7.out.pre.res).2 (keyAt_bare _ _ [83, 69, 69, 78] [] [] 0))
  rw [results_cell_one rfl]
  simp [go_sem, b0, b1, b2, b3, b4, b5]
  exact ⟨rfl, rfl, rfl, rfl, rfl, rfl⟩
set_option maxHeartbeats 8000000 in
set_option maxRecDepth 100000 in
theorem key_not (G : Glob) (B k : Nat) (C : Nat → Prop) (hC : ∀ a b, C a → a ≤ b → C b) (sub : Rd KeyP) (hsub : KeyCon G B C sub) (hmono : ∀ s k p, sub s k = some p → k ≤ p.2.2) (s W0 r : Bs) (hk : k + 1 ≤ 50) (hv : C (k + 1) ∨ (kidsR sub 1 r (k + 1)).isSome = true) (hp : isB [40] s = none) (hw : wordB [37, 42] s = some (W0, r)) (hnm : largeL W0 = [78, 79, 84]) (w : World) (hE : EnvI G w B) (h : Scn w B s k) :
    Calls Tryz.prog 106 #[scP B] w (KeyPost w B ((kidsR sub 1 r (k + 1)).map fun p => (.mk [78, 79, 84] [] [] 0 [] p.1, p.2))) := by
  have KK : Hid (∀ W, EnvI G W B → Scn W B r (k + 1) → Calls Tryz.prog 136 #[scP B, .int .i64 1] W _) := Lib.hid (fun W hE hS => kids_walk G B (k + 1) 1 (by decide) C hC sub hsub hmono r hv W hE hS)
  generalize kidsR sub 1 r (k + 1) = oo at *
  clear hsub hmono hv hC
  have HPre := Lib.hid (KyPre.start h (by omega))
  have hk1 : ((k : Int) + 1 ≤ 50) := by omega
  have hb : ¬ (B = w.heap.size) := by have := h.lt; omega
  have hb2 : ¬ (B = w.heap.size + 1) := by have := h.lt; omega
  obtain ⟨c0, c1, f0, f1⟩ := h.cells
  have KP : Hid (∀ W, Calls Tryz.prog 99 #[.string (str s), .string ⟨#[40]⟩] W _) := Lib.hid (fun W => hasPre_no hp W)
  have KW : Hid (∀ W, Scn W B s (k + 1) → Calls Tryz.prog 26 #[scP B, .string ⟨#[37, 42]⟩] W _) := Lib.hid (fun W hW => word_ok B [37, 42] s W0 r (k + 1) hw W hW)
  have hlen := wordB_len hw
  have hsm := h.small
  have hlt := h.lt
  have KL : Hid (∀ W, Calls Tryz.prog 29 #[.string (str W0)] W fun e w' => e = .returned (.string ⟨#[78, 79, 84]⟩) ∧ Below W.heap.size W w') := Lib.hid (fun W => by have K := large_walk21 W0 (by omega) W; rw [hnm] at K; exact K)
  have HE := Lib.hid hE
  clear hw hp h hE hnm
  go_enter Tryz.func106, Tryz.ntmps106
  go_wp2_with fail
  generalize ((w.setCell ⟨B, 1, none⟩ (.int .i64 ((k : Int) + 1))).alloc (Obj.cells #[scP B] 62)).alloc (Obj.cells #[.string ⟨#[]⟩, .string ⟨#[]⟩, .string ⟨#[]⟩, .int .i64 0, .slice none 0 0, .slice none 0 0] 51) = w2 at HPre ⊢
  clear c0 c1 f0 f1
  have HPd := Lib.hid HPre.out.draw
  have d0 := (one_cells HPre.out.box).1
  obtain ⟨_, d1, _, _⟩ := HPre.out.sc.cells
  have hcast : ((k + 1 : Nat) : Int) = (k : Int) + 1 := by omega
  rw [hcast] at d1
  clear hcast
  have D0 := Lib.hid (show w2.drew.cell? ⟨w.heap.size, 0, none⟩ = some (scP B) ∧ w2.drew.cell? ⟨B, 1, none⟩ = some (.int .i64 ((k : Int) + 1)) from ⟨d0, d1⟩)
  go_region_held3 (fun W => W.cell? ⟨w.heap.size, 0, none⟩ = some (scP B) ∧ W.cell? ⟨B, 1, none⟩ = some (.int .i64 ((k : Int) + 1)))
    (first | exact D0.out)
    (first
      | (go_at_call 27; refine (must_walk B _).mono ?_; rintro e w' ⟨rfl, rfl⟩))
  generalize w2.drew = w3 at *
  clear d0 d1 D0
  have d0 := (one_cells HPd.out.box).1
  obtain ⟨d1, _, _, _⟩ := HPd.out.sc.cells
  go_wp2_with fail
  refine (KP.out _).mono ?_
  rintro e w4 ⟨rfl, rfl⟩
  go_wp2_with fail
  refine (KW.out _ HPd.out.sc).mono ?_
  rintro e w5 ⟨rfl, hS5, hG5⟩
  have HP5 := Lib.hid (HPd.out.step hG5 hS5)
  clear hS5 hG5 d0 d1
  go_wp2_with fail
  refine (KL.out _).mono ?_
  rintro e w6 ⟨rfl, hB6⟩
  have HP6 := Lib.hid (HP5.out.below hB6)
  have HK7 := Lib.hid (HP6.out.name ⟨#[78, 79, 84]⟩)
  clear hB6
  have e7 := (one_cells HK7.out.pre.box).1
  go_wp2_with fail
  refine (KK.out _ (HE.out.kept HK7.out.pre.gr) HK7.out.pre.sc).mono ?_
  rintro e w8 ⟨hG8, hP8⟩
  cases oo with
  | none =>
    subst hP8
    exact ⟨rfl, .bad (HK7.out.pre.gr.trans hG8) rfl⟩
  | some p =>
    obtain ⟨l, r8, k8⟩ := p
    obtain ⟨A8, c8, cs8, rfl, hR8, hC8, hS8⟩ := hP8
    have HK8 := Lib.hid (HK7.out.step hG8 hS8)
    have hz7 := HP6.out.room
    have HR8 := Lib.hid hR8
    have HC8 := Lib.hid hC8
    have hxl := HK8.out.xb
    have HK9 := Lib.hid (HK8.out.setK (v := .slice A8 l.length c8))
    clear hG8 hR8 hC8 hS8 e7
    obtain ⟨⟨a0, a1, a2, a3, a4, a5⟩, e0, e1, e2, e3, e4, e5⟩ := six_cells HK8.out.xb
    clear hxl
    have hz8 := HK8.out.pre.room
    obtain ⟨⟨b0, b1, b2, b3, b4, b5⟩, g0, g1, g2, g3, g4, g5⟩ := six_cells HK8.out.pre.res
    have hne : ¬ (w.heap.size + 1 = w6.heap.size) := by omega
    have hne2 : ¬ (w6.heap.size = w.heap.size + 1) := by omega
    go_wp2
    refine bodyPost_ret (v := _) ?_ rfl (KyPre.fin (x := .mk [78, 79, 84] [] [] 0 [] l) (As := none) (cs := 0) (Ak := A8) (ck := c8) (kcs := cs8) HK9.out.pre rfl (set6 _ _ _ _ _ _ _ _ _ _ _ _ _ _ _ HK9.out.pre.res).2 ⟨rowC_nil _ _ _, ?_, ?_⟩)
    · rw [results_cell_one rfl]
      simp [go_sem, b0, b1, b2, b3, b4, b5, hne2]
      exact ⟨rfl, rfl, rfl, rfl, rfl, rfl⟩
    · exact (HR8.out.kept (fun i hi => Below.heap_setCell _ _ _ _ (by have := hi.1; simp at this; dsimp only; omega))).more (fun i hi => ⟨by have := hi.1; simp at this; omega, by have := hi.2; simpa using this⟩)
    · exact (HC8.out.kept (fun i hi => Below.heap_setCell _ _ _ _ (by have := hi.1; simp at this; dsimp only; omega))).more (fun i hi => ⟨by have := hi.1; simp at this; omega, by have := hi.2; simpa using this⟩)
set_option maxHeartbeats 8000000 in
set_option maxRecDepth 100000 in
theorem key_or (G : Glob) (B k : Nat) (C : Nat → Prop) (hC : ∀ a b, C a → a ≤ b → C b) (sub : Rd KeyP) (hsub : KeyCon G B C sub) (hmono : ∀ s k p, sub s k = some p → k ≤ p.2.2) (s W0 r : Bs) (hk : k + 1 ≤ 50) (hv : C (k + 1) ∨ (kidsR sub 2 r (k + 1)).isSome = true) (hp : isB [40] s = none) (hw : wordB [37, 42] s = some (W0, r)) (hnm : largeL W0 = [79, 82]) (w : World) (hE : EnvI G w B) (h : Scn w B s k) :
    Calls Tryz.prog 106 #[scP B] w (KeyPost w B ((kidsR sub 2 r (k + 1)).map fun p => (.mk [79, 82] [] [] 0 [] p.1, p.2))) := by
  have KK : Hid (∀ W, EnvI G W B → Scn W B r (k + 1) → Calls Tryz.prog 136 #[scP B, .int .i64 2] W _) := Lib.hid (fun W hE hS => kids_walk G B (k + 1) 2 (by decide) C hC sub hsub hmono r hv W hE hS)
  generalize kidsR sub 2 r (k + 1) = oo at *
  clear hsub hmono hv hC
  have HPre := Lib.hid (KyPre.start h (by omega))
  have hk1 : ((k : Int) + 1 ≤ 50) := by omega
  have hb : ¬ (B = w.heap.size) := by have := h.lt; omega
  have hb2 : ¬ (B = w.heap.size + 1) := by have := h.lt; omega
  obtain ⟨c0, c1, f0, f1⟩ := h.cells
  have KP : Hid (∀ W, Calls Tryz.prog 99 #[.string (str s), .string ⟨#[40]⟩] W _) := Lib.hid (fun W => hasPre_no hp W)
  have KW : Hid (∀ W, Scn W B s (k + 1) → Calls Tryz.prog 26 #[scP B, .string ⟨#[37, 42]⟩] W _) := Lib.hid (fun W hW => word_ok B [37, 42] s W0 r (k + 1) hw W hW)
  have hlen := wordB_len hw
  have hsm := h.small
  have hlt := h.lt
  have KL : Hid (∀ W, Calls Tryz.prog 29 #[.string (str W0)] W fun e w' => e = .returned (.string ⟨#[79, 82]⟩) ∧ Below W.heap.size W w') := Lib.hid (fun W => by have K := large_walk21 W0 (by omega) W; rw [hnm] at K; exact K)
  have HE := Lib.hid hE
  clear hw hp h hE hnm
  go_enter Tryz.func106, Tryz.ntmps106
  go_wp2_with fail
  generalize ((w.setCell ⟨B, 1, none⟩ (.int .i64 ((k : Int) + 1))).alloc (Obj.cells #[scP B] 62)).alloc (Obj.cells #[.string ⟨#[]⟩, .string ⟨#[]⟩, .string ⟨#[]⟩, .int .i64 0, .slice none 0 0, .slice none 0 0] 51) = w2 at HPre ⊢
  clear c0 c1 f0 f1
  have HPd := Lib.hid HPre.out.draw
  have d0 := (one_cells HPre.out.box).1
  obtain ⟨_, d1, _, _⟩ := HPre.out.sc.cells
  have hcast : ((k + 1 : Nat) : Int) = (k : Int) + 1 := by omega
  rw [hcast] at d1
  clear hcast
  have D0 := Lib.hid (show w2.drew.cell? ⟨w.heap.size, 0, none⟩ = some (scP B) ∧ w2.drew.cell? ⟨B, 1, none⟩ = some (.int .i64 ((k : Int) + 1)) from ⟨d0, d1⟩)
  go_region_held3 (fun W => W.cell? ⟨w.heap.size, 0, none⟩ = some (scP B) ∧ W.cell? ⟨B, 1, none⟩ = some (.int .i64 ((k : Int) + 1)))
    (first | exact D0.out)
    (first
      | (go_at_call 27; refine (must_walk B _).mono ?_; rintro e w' ⟨rfl, rfl⟩))
  generalize w2.drew = w3 at *
  clear d0 d1 D0
  have d0 := (one_cells HPd.out.box).1
  obtain ⟨d1, _, _, _⟩ := HPd.out.sc.cells
  go_wp2_with fail
  refine (KP.out _).mono ?_
  rintro e w4 ⟨rfl, rfl⟩
  go_wp2_with fail
  refine (KW.out _ HPd.out.sc).mono ?_
  rintro e w5 ⟨rfl, hS5, hG5⟩
  have HP5 := Lib.hid (HPd.out.step hG5 hS5)
  clear hS5 hG5 d0 d1
  go_wp2_with fail
  refine (KL.out _).mono ?_
  rintro e w6 ⟨rfl, hB6⟩
  have HP6 := Lib.hid (HP5.out.below hB6)
  have HK7 := Lib.hid (HP6.out.name ⟨#[79, 82]⟩)
  clear hB6
  have e7 := (one_cells HK7.out.pre.box).1
  go_wp2_with fail
  refine (KK.out _ (HE.out.kept HK7.out.pre.gr) HK7.out.pre.sc).mono ?_
  rintro e w8 ⟨hG8, hP8⟩
  cases oo with
  | none =>
    subst hP8
    exact ⟨rfl, .bad (HK7.out.pre.gr.trans hG8) rfl⟩
  | some p =>
    obtain ⟨l, r8, k8⟩ := p
    obtain ⟨A8, c8, cs8, rfl, hR8, hC8, hS8⟩ := hP8
    have HK8 := Lib.hid (HK7.out.step hG8 hS8)
    have hz7 := HP6.out.room
    have HR8 := Lib.hid hR8
    have HC8 := Lib.hid hC8
    have hxl := HK8.out.xb
    have HK9 := Lib.hid (HK8.out.setK (v := .slice A8 l.length c8))
    clear hG8 hR8 hC8 hS8 e7
    obtain ⟨⟨a0, a1, a2, a3, a4, a5⟩, e0, e1, e2, e3, e4, e5⟩ := six_cells HK8.out.xb
    clear hxl
    have hz8 := HK8.out.pre.room
    obtain ⟨⟨b0, b1, b2, b3, b4, b5⟩, g0, g1, g2, g3, g4, g5⟩ := six_cells HK8.out.pre.res
    have hne : ¬ (w.heap.size + 1 = w6.heap.size) := by omega
    have hne2 : ¬ (w6.heap.size = w.heap.size + 1) := by omega
    go_wp2
    refine bodyPost_ret (v := _) ?_ rfl (KyPre.fin (x := .mk [79, 82] [] [] 0 [] l) (As := none) (cs := 0) (Ak := A8) (ck := c8) (kcs := cs8) HK9.out.pre rfl (set6 _ _ _ _ _ _ _ _ _ _ _ _ _ _ _ HK9.out.pre.res).2 ⟨rowC_nil _ _ _, ?_, ?_⟩)
    · rw [results_cell_one rfl]
      simp [go_sem, b0, b1, b2, b3, b4, b5, hne2]
      exact ⟨rfl, rfl, rfl, rfl, rfl, rfl⟩
    · exact (HR8.out.kept (fun i hi => Below.heap_setCell _ _ _ _ (by have := hi.1; simp at this; dsimp only; omega))).more (fun i hi => ⟨by have := hi.1; simp at this; omega, by have := hi.2; simpa using this⟩)
    · exact (HC8.out.kept (fun i hi => Below.heap_setCell _ _ _ _ (by have := hi.1; simp at this; dsimp only; omega))).more (fun i hi => ⟨by have := hi.1; simp at this; omega, by have := hi.2; simpa using this⟩)
set_option maxHeartbeats 8000000 in
set_option maxRecDepth 100000 in
theorem key_set (G : Glob) (B k : Nat) (s W0 r N : Bs) (hk : k + 1 ≤ 50) (hp : isB [40] s = none) (hw : wordB [37, 42] s = some (W0, r)) (hnm : largeL W0 = N) (hN : ¬ N ∈ keyNames) (w : World) (hE : EnvI G w B) (h : Scn w B s k) :
    Calls Tryz.prog 106 #[scP B] w (KeyPost w B (if setOk W0 = true then some (.mk [83, 69, 84] [] [] 0 (setL W0) [], r, k + 1) else none)) := by
  generalize hoo : (if setOk W0 = true then some (KeyP.mk [83, 69, 84] [] [] 0 (setL W0) [], r, k + 1) else none) = oo
  have HOO := Lib.hid hoo
  have HNN := Lib.hid hN
  clear hoo hN
  have HPre := Lib.hid (KyPre.start h (by omega))
  have hk1 : ((k : Int) + 1 ≤ 50) := by omega
  have hb : ¬ (B = w.heap.size) := by have := h.lt; omega
  have hb2 : ¬ (B = w.heap.size + 1) := by have := h.lt; omega
  obtain ⟨c0, c1, f0, f1⟩ := h.cells
  have KP : Hid (∀ W, Calls Tryz.prog 99 #[.string (str s), .string ⟨#[40]⟩] W _) := Lib.hid (fun W => hasPre_no hp W)
  have KW : Hid (∀ W, Scn W B s (k + 1) → Calls Tryz.prog 26 #[scP B, .string ⟨#[37, 42]⟩] W _) := Lib.hid (fun W hW => word_ok B [37, 42] s W0 r (k + 1) hw W hW)
  have hlen := wordB_len hw
  have hsm := h.small
  have hlt := h.lt
  have KL : Hid (∀ W, Calls Tryz.prog 29 #[.string (str W0)] W fun e w' => e = .returned (.string (str N)) ∧ Below W.heap.size W w') := Lib.hid (fun W => by have K := large_walk21 W0 (by omega) W; rw [hnm] at K; exact K)
  have HE := Lib.hid hE
  clear hw hp h hE hnm
  go_enter Tryz.func106, Tryz.ntmps106
  go_wp2_with fail
  generalize ((w.setCell ⟨B, 1, none⟩ (.int .i64 ((k : Int) + 1))).alloc (Obj.cells #[scP B] 62)).alloc (Obj.cells #[.string ⟨#[]⟩, .string ⟨#[]⟩, .string ⟨#[]⟩, .int .i64 0, .slice none 0 0, .slice none 0 0] 51) = w2 at HPre ⊢
  clear c0 c1 f0 f1
  have HPd := Lib.hid HPre.out.draw
  have d0 := (one_cells HPre.out.box).1
  obtain ⟨_, d1, _, _⟩ := HPre.out.sc.cells
  have hcast : ((k + 1 : Nat) : Int) = (k : Int) + 1 := by omega
  rw [hcast] at d1
  clear hcast
  have D0 := Lib.hid (show w2.drew.cell? ⟨w.heap.size, 0, none⟩ = some (scP B) ∧ w2.drew.cell? ⟨B, 1, none⟩ = some (.int .i64 ((k : Int) + 1)) from ⟨d0, d1⟩)
  go_region_held3 (fun W => W.cell? ⟨w.heap.size, 0, none⟩ = some (scP B) ∧ W.cell? ⟨B, 1, none⟩ = some (.int .i64 ((k : Int) + 1)))
    (first | exact D0.out)
    (first
      | (go_at_call 27; refine (must_walk B _).mono ?_; rintro e w' ⟨rfl, rfl⟩))
  generalize w2.drew = w3 at *
  clear d0 d1 D0
  have d0 := (one_cells HPd.out.box).1
  obtain ⟨d1, _, _, _⟩ := HPd.out.sc.cells
  go_wp2_with fail
  refine (KP.out _).mono ?_
  rintro e w4 ⟨rfl, rfl⟩
  go_wp2_with fail
  refine (KW.out _ HPd.out.sc).mono ?_
  rintro e w5 ⟨rfl, hS5, hG5⟩
  have HP5 := Lib.hid (HPd.out.step hG5 hS5)
  clear hS5 hG5 d0 d1
  go_wp2_with fail
  refine (KL.out _).mono ?_
  rintro e w6 ⟨rfl, hB6⟩
  have HP6 := Lib.hid (HP5.out.below hB6)
  have HK7 := Lib.hid (HP6.out.name (str N))
  clear hB6
  have n0 : ((str N).toList == [65, 76, 76]) = false := str_neb (fun e => HNN.out (by rw [e]; decide))
  have n1 : ((str N).toList == [65, 78, 83, 87, 69, 82, 69, 68]) = false := str_neb (fun e => HNN.out (by rw [e]; decide))
  have n2 : ((str N).toList == [68, 69, 76, 69, 84, 69, 68]) = false := str_neb (fun e => HNN.out (by rw [e]; decide))
  have n3 : ((str N).toList == [68, 82, 65, 70, 84]) = false := str_neb (fun e => HNN.out (by rw [e]; decide))
  have n4 : ((str N).toList == [70, 76, 65, 71, 71, 69, 68]) = false := str_neb (fun e => HNN.out (by rw [e]; decide))
  have n5 : ((str N).toList == [83, 69, 69, 78]) = false := str_neb (fun e => HNN.out (by rw [e]; decide))
  have n6 : ((str N).toList == [85, 78, 65, 78, 83, 87, 69, 82, 69, 68]) = false := str_neb (fun e => HNN.out (by rw [e]; decide))
  have n7 : ((str N).toList == [85, 78, 68, 69, 76, 69, 84, 69, 68]) = false := str_neb (fun e => HNN.out (by rw [e]; decide))
  have n8 : ((str N).toList == [85, 78, 68, 82, 65, 70, 84]) = false := str_neb (fun e => HNN.out (by rw [e]; decide))
  have n9 : ((str N).toList == [85, 78, 70, 76, 65, 71, 71, 69, 68]) = false := str_neb (fun e => HNN.out (by rw [e]; decide))
  have n10 : ((str N).toList == [85, 78, 83, 69, 69, 78]) = false := str_neb (fun e => HNN.out (by rw [e]; decide))
  have n11 : ((str N).toList == [66, 69, 70, 79, 82, 69]) = false := str_neb (fun e => HNN.out (by rw [e]; decide))
  have n12 : ((str N).toList == [79, 78]) = false := str_neb (fun e => HNN.out (by rw [e]; decide))
  have n13 : ((str N).toList == [83, 73, 78, 67, 69]) = false := str_neb (fun e => HNN.out (by rw [e]; decide))
  have n14 : ((str N).toList == [83, 69, 78, 84, 66, 69, 70, 79, 82, 69]) = false := str_neb (fun e => HNN.out (by rw [e]; decide))
  have n15 : ((str N).toList == [83, 69, 78, 84, 79, 78]) = false := str_neb (fun e => HNN.out (by rw [e]; decide))
  have n16 : ((str N).toList == [83, 69, 78, 84, 83, 73, 78, 67, 69]) = false := str_neb (fun e => HNN.out (by rw [e]; decide))
  have n17 : ((str N).toList == [76, 65, 82, 71, 69, 82]) = false := str_neb (fun e => HNN.out (by rw [e]; decide))
  have n18 : ((str N).toList == [83, 77, 65, 76, 76, 69, 82]) = false := str_neb (fun e => HNN.out (by rw [e]; decide))
  have n19 : ((str N).toList == [66, 67, 67]) = false := str_neb (fun e => HNN.out (by rw [e]; decide))
  have n20 : ((str N).toList == [66, 79, 68, 89]) = false := str_neb (fun e => HNN.out (by rw [e]; decide))
  have n21 : ((str N).toList == [67, 67]) = false := str_neb (fun e => HNN.out (by rw [e]; decide))
  have n22 : ((str N).toList == [70, 82, 79, 77]) = false := str_neb (fun e => HNN.out (by rw [e]; decide))
  have n23 : ((str N).toList == [83, 85, 66, 74, 69, 67, 84]) = false := str_neb (fun e => HNN.out (by rw [e]; decide))
  have n24 : ((str N).toList == [84, 69, 88, 84]) = false := str_neb (fun e => HNN.out (by rw [e]; decide))
  have n25 : ((str N).toList == [84, 79]) = false := str_neb (fun e => HNN.out (by rw [e]; decide))
  have n26 : ((str N).toList == [72, 69, 65, 68, 69, 82]) = false := str_neb (fun e => HNN.out (by rw [e]; decide))
  have n27 : ((str N).toList == [78, 79, 84]) = false := str_neb (fun e => HNN.out (by rw [e]; decide))
  have n28 : ((str N).toList == [79, 82]) = false := str_neb (fun e => HNN.out (by rw [e]; decide))
  have n29 : ((str N).toList == [85, 73, 68]) = false := str_neb (fun e => HNN.out (by rw [e]; decide))
  have KS := Lib.hid (fun W (hW : EnvI G W B) => set_walk (str W0) G.form W (by rw [str_size]; omega) hW.form hW.formI)
  rw [bs_str] at KS
  obtain ⟨t9, x9, hv9⟩ := HE.out.formI
  have HV9 := Lib.hid hv9
  clear hv9
  go_wp2_with fail
  refine (KS.out _ (HE.out.kept HK7.out.pre.gr)).mono ?_
  rintro e w8 ⟨r8, rfl, hO8, hB8⟩
  cases ho : setOk W0 with
  | false =>
    rw [setE_no ho, HV9.out]
    have HK8 := Lib.hid (HK7.out.step (grown_below hB8 _) (HK7.out.pre.sc.then hB8))
    have e7 := (one_cells HK8.out.pre.box).1
    have HO := Lib.hid (show oo = none by rw [← HOO.out, if_neg (by rw [ho]; decide)])
    clear hO8 hB8 ho HOO
    go_wp2_with fail
    refine wp_region_any (by kernel_rfl) ?_
    change wpAny _ _ _ _ _ _ _ (World.drew _)
    refine wpAny_ready (rs := [0, 1]) (by kernel_rfl) (by simp) ?_
    refine AllReady.cons rfl (fun K9 hK9 => ?_) ?_
    · go_simp
      refine hK9 _ _ ?_
      clear hK9 K9
      refine wpAny_ready (rs := [1]) (by kernel_rfl) (by simp) ?_
      refine AllReady.cons rfl (fun K9 hK9 => ?_) ?_
      · go_simp
        refine hK9 _ _ ?_
        clear hK9 K9
        refine wpAny_ready (rs := [2]) (by kernel_rfl) (by simp) ?_
        refine AllReady.cons rfl (fun K9 hK9 => ?_) ?_
        · go_simp
          refine hK9 _ _ ?_
          clear hK9 K9
          refine wpAny_ready (rs := [3]) (by kernel_rfl) (by simp) ?_
          refine AllReady.cons rfl (fun K9 hK9 => ?_) ?_
          · go_simp
            refine (must_no B _).mono ?_
            rintro e w' ⟨rfl, hw'⟩
            exact ⟨rfl, .bad (by rw [← hw']; exact HK8.out.pre.gr.trans (grown_dr _ _)) HO.out⟩
          exact AllReady.nil
        exact AllReady.nil
      exact AllReady.nil
    refine AllReady.cons rfl (fun K9 hK9 => ?_) ?_
    · go_simp
      refine hK9 _ _ ?_
      clear hK9 K9
      refine wpAny_ready (rs := [0, 2]) (by kernel_rfl) (by simp) ?_
      refine AllReady.cons rfl (fun K9 hK9 => ?_) ?_
      · go_simp
        refine hK9 _ _ ?_
        clear hK9 K9
        refine wpAny_ready (rs := [2]) (by kernel_rfl) (by simp) ?_
        refine AllReady.cons rfl (fun K9 hK9 => ?_) ?_
        · go_simp
          refine hK9 _ _ ?_
          clear hK9 K9
          refine wpAny_ready (rs := [3]) (by kernel_rfl) (by simp) ?_
          refine AllReady.cons rfl (fun K9 hK9 => ?_) ?_
          · go_simp
            refine (must_no B _).mono ?_
            rintro e w' ⟨rfl, hw'⟩
            exact ⟨rfl, .bad (by rw [← hw']; exact HK8.out.pre.gr.trans (grown_dr _ _)) HO.out⟩
          exact AllReady.nil
        exact AllReady.nil
      refine AllReady.cons rfl (fun K9 hK9 => ?_) ?_
      · go_simp
        refine hK9 _ _ ?_
        clear hK9 K9
        refine wpAny_ready (rs := [0]) (by kernel_rfl) (by simp) ?_
        refine AllReady.cons rfl (fun K9 hK9 => ?_) ?_
        · go_simp
          refine hK9 _ _ ?_
          clear hK9 K9
          refine wpAny_ready (rs := [3]) (by kernel_rfl) (by simp) ?_
          refine AllReady.cons rfl (fun K9 hK9 => ?_) ?_
          · go_simp
            refine (must_no B _).mono ?_
            rintro e w' ⟨rfl, hw'⟩
            exact ⟨rfl, .bad (by rw [← hw']; exact HK8.out.pre.gr.trans (grown_dr _ _)) HO.out⟩
          exact AllReady.nil
        exact AllReady.nil
      exact AllReady.nil
    exact AllReady.nil
  | true =>
    rw [setE_yes ho]
    have HO := Lib.hid (show oo = some (KeyP.mk [83, 69, 84] [] [] 0 (setL W0) [], r, k + 1) by rw [← HOO.out, if_pos ho])
    have HK8 := Lib.hid (HK7.out.step (grown_below hB8 _) (HK7.out.pre.sc.then hB8))
    have HO8 := Lib.hid hO8
    have hz7 := HP6.out.room
    have hz8 := hB8.size
    simp at hz8
    have e7 := (one_cells HK8.out.pre.box).1
    obtain ⟨A8, c8, hr8, _⟩ := rowC_own hO8
    subst hr8
    have HKd := Lib.hid (HK8.out.step (k1 := k + 1) (grown_dr _ _) (HK8.out.pre.sc.draws 1))
    have hd7 := (one_cells HKd.out.pre.box).1
    have D7 := Lib.hid hd7
    clear hO8 hB8 ho HOO hd7
    go_wp2_with fail
    go_region_held3 (fun W => W.cell? ⟨w.heap.size, 0, none⟩ = some (scP B))
      (first | exact D7.out)
      (first
        | (go_at_call 27; refine (must_walk B _).mono ?_; rintro e w' ⟨rfl, rfl⟩))
    have HO9 := Lib.hid (rowC_own HO8.out)
    have HR9 : Hid (RowC w8.drew (fun i => w.heap.size + 3 ≤ i ∧ i < w8.drew.heap.size ∧ i ≠ w6.heap.size) (.slice A8 (setL W0).length c8) (setL W0).length (flat (setL W0))) := Lib.hid ((HO9.out.kept (w1 := w8.drew) (fun i hi => rfl)).more (fun i hi => ⟨by have := hi.1; simp at this; omega, hi.2, by have := hi.1; simp at this; omega⟩))
    have hz9 : w.heap.size + 3 ≤ w8.heap.size := by omega
    have HK9 := Lib.hid (HKd.out.set6 (b0 := .string ⟨#[83, 69, 84]⟩) (b1 := .string ⟨#[]⟩) (b2 := .string ⟨#[]⟩) (b3 := .int .i64 0) (b4 := .slice A8 (setL W0).length c8) (b5 := .slice none 0 0))
    generalize w8.drew = w9 at *
    clear e7 D7
    obtain ⟨⟨a0, a1, a2, a3, a4, a5⟩, e0, e1, e2, e3, e4, e5⟩ := six_cells HKd.out.xb
    obtain ⟨⟨b0, b1, b2, b3, b4, b5⟩, g0, g1, g2, g3, g4, g5⟩ := six_cells HKd.out.pre.res
    obtain ⟨w10, hw10⟩ : ∃ w10, ((((((w9.setCell ⟨w6.heap.size, 0, none⟩ (.string ⟨#[83, 69, 84]⟩)).setCell ⟨w6.heap.size, 1, none⟩ (.string ⟨#[]⟩)).setCell ⟨w6.heap.size, 2, none⟩ (.string ⟨#[]⟩)).setCell ⟨w6.heap.size, 3, none⟩ (.int .i64 0)).setCell ⟨w6.heap.size, 4, none⟩ (.slice A8 (setL W0).length c8)).setCell ⟨w6.heap.size, 5, none⟩ (.slice none 0 0)) = w10 := ⟨_, rfl⟩
    have HW10 := Lib.hid hw10
    rw [hw10] at HK9
    obtain ⟨⟨p0, p1, p2, p3, p4, p5⟩, q0, q1, q2, q3, q4, q5⟩ := six_cells HK9.out.xb
    obtain ⟨⟨r0, r1, r2, r3, r4, r5⟩, s0, s1, s2, s3, s4, s5⟩ := six_cells HK9.out.pre.res
    clear b0 b1 b2 b3 b4 b5 g0 g1 g2 g3 g4 g5
    go_wp2
    refine bodyPost_ret (v := _) ?_ rfl (KyPre.fin (x := .mk [83, 69, 84] [] [] 0 (setL W0) []) (As := A8) (cs := c8) (Ak := none) (ck := 0) (kcs := []) HK9.out.pre HO.out (set6 _ _ _ _ _ _ _ _ _ _ _ _ _ _ _ HK9.out.pre.res).2 ⟨?_, rowC_nil _ _ _, .nil⟩)
    · rw [results_cell_one rfl]
      simp [go_sem, r0, r1, r2, r3, r4, r5]
      exact ⟨rfl, rfl, rfl, rfl, rfl, rfl⟩
    · have hg6 := (set6 w9 w6.heap.size _ _ _ _ _ _ _ (.string ⟨#[83, 69, 84]⟩) (.string ⟨#[]⟩) (.string ⟨#[]⟩) (.int .i64 0) (.slice A8 (setL W0).length c8) (.slice none 0 0) HKd.out.xb).2
      rw [HW10.out] at hg6
      exact (HR9.out.kept (fun i hi => hg6.block i hi.2.1 (fun e => hi.2.2 (Option.some.inj e)))).more (fun i hi => ⟨by omega, Nat.lt_of_lt_of_le hi.2.1 hg6.size⟩)
end Go.Proofs.YtgmfhldfdnnafaaGreatDoor
namespace Go.Proofs.YtgmfhldfdnnafaaGreatDoor
open Go.RowKit
open Pl (Bs idxB numOk numN setOk setL)
set_option linter.unusedSimpArgs false
set_option linter.unusedVariables false
def keyA : Nat → Rd KeyP
  | 0, _, _ => none
  | f + 1, s, k =>
    if 50 < k + 1 then none else
    match isB [40] s with
    | some _ => none
    | none => match wordB [37, 42] s with
      | none => none
      | some (W0, r) =>
        if largeL W0 = [83, 69, 69, 78] then some (.mk [83, 69, 69, 78] [] [] 0 [] [], r, k + 1)
        else if largeL W0 = [78, 79, 84] then (kidsR (keyA f) 1 r (k + 1)).map fun p => (.mk [78, 79, 84] [] [] 0 [] p.1, p.2)
        else if largeL W0 = [79, 82] then (kidsR (keyA f) 2 r (k + 1)).map fun p => (.mk [79, 82] [] [] 0 [] p.1, p.2)
        else if keyNames.contains (largeL W0) = true then none
        else if setOk W0 = true then some (.mk [83, 69, 84] [] [] 0 (setL W0) [], r, k + 1) else none
theorem kidsR_mono {sub : Rd KeyP} (hmono : ∀ s k p, sub s k = some p → k ≤ p.2.2) : ∀ (n : Nat) (s : Bs) (k : Nat) (p : List KeyP × Bs × Nat), kidsR sub n s k = some p → k ≤ p.2.2
  | 0, s, k, p, h => by simp [kidsR] at h; subst h; exact Nat.le_refl _
  | n + 1, s, k, p, h => by
    unfold kidsR at h
    split at h
    · cases h
    · split at h
      · cases h
      · rename_i x s2 k2 h2
        cases hq : kidsR sub n s2 k2 with
        | none => rw [hq] at h; cases h
        | some q =>
          rw [hq] at h
          simp only [Option.map_some, Option.some.injEq] at h
          subst h
          exact Nat.le_trans (hmono _ _ _ h2) (kidsR_mono hmono n s2 k2 q hq)
theorem keyA_mono : ∀ (f : Nat) (s : Bs) (k : Nat) (p : KeyP × Bs × Nat), keyA f s k = some p → k ≤ p.2.2
  | 0, s, k, p, h => by simp [keyA] at h
  | f + 1, s, k, p, h => by
    have ih := keyA_mono f
    unfold keyA at h
    split at h
    · cases h
    · split at h
      · cases h
      · split at h
        · cases h
        · rename_i W0 r hw
          split at h
          · cases h; dsimp only; omega
          · split at h
            · cases hq : kidsR (keyA f) 1 r (k + 1) with
              | none => rw [hq] at h; cases h
              | some q => rw [hq] at h; simp only [Option.map_some, Option.some.injEq] at h; subst h; have := kidsR_mono ih _ _ _ _ hq; dsimp only; omega
            · split at h
              · cases hq : kidsR (keyA f) 2 r (k + 1) with
                | none => rw [hq] at h; cases h
                | some q => rw [hq] at h; simp only [Option.map_some, Option.some.injEq] at h; subst h; have := kidsR_mono ih _ _ _ _ hq; dsimp only; omega
              · split at h
                · cases h
                · split at h
                  · cases h; dsimp only; omega
                  · cases h
theorem keyA_con (G : Glob) (B : Nat) : ∀ f, KeyCon G B (fun _ => False) (keyA f)
  | 0 => fun s k W hv _ _ => by rcases hv with h | h; exact h.elim; simp [keyA] at h
  | f + 1 => fun s k W hv hE hS => by
    have ih := keyA_con G B f
    have hm := keyA_mono f
    have hC : ∀ a b : Nat, (fun _ : Nat => False) a → a ≤ b → (fun _ : Nat => False) b := fun _ _ h _ => h
    rcases hv with h | h
    · exact h.elim
    · have e : keyA (f + 1) s k = if 50 < k + 1 then none else
        match isB [40] s with
        | some _ => none
        | none => match wordB [37, 42] s with
          | none => none
          | some (W0, r) =>
            if largeL W0 = [83, 69, 69, 78] then some (.mk [83, 69, 69, 78] [] [] 0 [] [], r, k + 1)
            else if largeL W0 = [78, 79, 84] then (kidsR (keyA f) 1 r (k + 1)).map fun p => (.mk [78, 79, 84] [] [] 0 [] p.1, p.2)
            else if largeL W0 = [79, 82] then (kidsR (keyA f) 2 r (k + 1)).map fun p => (.mk [79, 82] [] [] 0 [] p.1, p.2)
            else if keyNames.contains (largeL W0) = true then none
            else if setOk W0 = true then some (.mk [83, 69, 84] [] [] 0 (setL W0) [], r, k + 1) else none := rfl
      rw [e] at h ⊢
      clear e
      by_cases hk : 50 < k + 1
      · rw [if_pos hk] at h; cases h
      · rw [if_neg hk] at h ⊢
        cases hp : isB [40] s with
        | some z => simp only [hp] at h; cases h
        | none =>
          simp only [hp] at h ⊢
          cases hw : wordB [37, 42] s with
          | none => simp only [hw] at h; cases h
          | some q =>
            obtain ⟨W0, r⟩ := q
            simp only [hw] at h ⊢
            by_cases h1 : largeL W0 = [83, 69, 69, 78]
            · rw [if_pos h1]; exact key_seen G B k s W0 r (by omega) hp hw h1 W hE hS
            · rw [if_neg h1] at h ⊢
              by_cases h2 : largeL W0 = [78, 79, 84]
              · rw [if_pos h2] at h ⊢
                refine key_not G B k _ hC (keyA f) ih hm s W0 r (by omega) (.inr ?_) hp hw h2 W hE hS
                cases hq : kidsR (keyA f) 1 r (k + 1) with
                | none => rw [hq] at h; cases h
                | some q => rfl
              · rw [if_neg h2] at h ⊢
                by_cases h3 : largeL W0 = [79, 82]
                · rw [if_pos h3] at h ⊢
                  refine key_or G B k _ hC (keyA f) ih hm s W0 r (by omega) (.inr ?_) hp hw h3 W hE hS
                  cases hq : kidsR (keyA f) 2 r (k + 1) with
                  | none => rw [hq] at h; cases h
                  | some q => rfl
                · rw [if_neg h3] at h ⊢
                  by_cases h4 : keyNames.contains (largeL W0) = true
                  · rw [if_pos h4] at h; cases h
                  · rw [if_neg h4] at h ⊢
                    exact key_set G B k s W0 r _ (by omega) hp hw rfl (fun hm => h4 (List.contains_iff_mem.2 hm)) W hE hS
end Go.Proofs.YtgmfhldfdnnafaaGreatDoor
namespace Go.Proofs.YtgmfhldfdnnafaaGreatDoor
open Go.Shelf Go.RowKit
open Pl (Bs)
def lays146_ren : Go.Shelf.Ren := ⟨fun | 138 => 180 | 143 => 162 | 146 => 165 | 195 => 183 | 197 => 161 | 217 => 114 | 218 => 184 | 219 => 94 | 221 => 172 | 224 => 116 | 225 => 115 | 260 => 171 | 266 => 142 | 267 => 117 | 268 => 179 | 314 => 143 | n => n, fun | 0 => 0 | 3 => 3 | 4 => 4 | 5 => 5 | 9 => 9 | 21 => 21 | 31 => 28 | 46 => 152 | 51 => 164 | 105 => 181 | 119 => 193 | 138 => 195 | 139 => 196 | 146 => 165 | n => n, fun | 1 => 13 | 3 => 14 | 4 => 15 | n => n⟩
theorem lays146 : Lays.n146 Tryz.prog lays146_ren := {
  mixed := by kernel_rfl,
  f138 := by kernel_rfl,
  f143 := by kernel_rfl,
  f146 := by kernel_rfl,
  f195 := by kernel_rfl,
  f197 := by kernel_rfl,
  f217 := by kernel_rfl,
  f218 := by kernel_rfl,
  f219 := by kernel_rfl,
  f221 := by kernel_rfl,
  f224 := by kernel_rfl,
  f225 := by kernel_rfl,
  f260 := by kernel_rfl,
  f266 := by kernel_rfl,
  f267 := by kernel_rfl,
  f268 := by kernel_rfl,
  f314 := by kernel_rfl,
  t0 := Tryz.underlying0,
  a0 := Tryz.isAgg0,
  z0 := Tryz.sizeOf0,
  v0 := Tryz.zeroValue0,
  t3 := Tryz.underlying3,
  a3 := Tryz.isAgg3,
  z3 := Tryz.sizeOf3,
  v3 := Tryz.zeroValue3,
  t4 := Tryz.underlying4,
  a4 := Tryz.isAgg4,
  z4 := Tryz.sizeOf4,
  v4 := Tryz.zeroValue4,
  t5 := Tryz.underlying5,
  a5 := Tryz.isAgg5,
  z5 := Tryz.sizeOf5,
  v5 := Tryz.zeroValue5,
  t9 := Tryz.underlying9,
  a9 := Tryz.isAgg9,
  z9 := Tryz.sizeOf9,
  v9 := Tryz.zeroValue9,
  t21 := Tryz.underlying21,
  a21 := Tryz.isAgg21,
  z21 := Tryz.sizeOf21,
  v21 := Tryz.zeroValue21,
  t31 := Tryz.underlying28,
  a31 := Tryz.isAgg28,
  z31 := Tryz.sizeOf28,
  v31 := Tryz.zeroValue28,
  t46 := Tryz.underlying152,
  a46 := Tryz.isAgg152,
  z46 := Tryz.sizeOf152,
  v46 := Tryz.zeroValue152,
  t51 := Tryz.underlying164,
  a51 := Tryz.isAgg164,
  z51 := Tryz.sizeOf164,
  v51 := Tryz.zeroValue164,
  t105 := Tryz.underlying181,
  a105 := Tryz.isAgg181,
  z105 := Tryz.sizeOf181,
  v105 := Tryz.zeroValue181,
  t119 := Tryz.underlying193,
  a119 := Tryz.isAgg193,
  z119 := Tryz.sizeOf193,
  t138 := Tryz.underlying195,
  a138 := Tryz.isAgg195,
  z138 := Tryz.sizeOf195,
  v138 := Tryz.zeroValue195,
  t139 := Tryz.underlying196,
  a139 := Tryz.isAgg196,
  z139 := Tryz.sizeOf196,
  v139 := Tryz.zeroValue196,
  t146 := Tryz.underlying165,
  a146 := Tryz.isAgg165,
  z146 := Tryz.sizeOf165,
  v146 := Tryz.zeroValue165,
  g1 := by kernel_rfl,
  g3 := by kernel_rfl,
  g4 := by kernel_rfl }
theorem split_walk (s sep : ByteArray) (m : Int) (w : World) (hs : s.size < 4294967281) (hm : w.cell? ⟨13, 0, none⟩ = some (.int .i64 m)) (h1 : 1 ≤ sep.size) :
    Calls Tryz.prog 165 #[.string s, .string sep] w fun e w' =>
      e = .returned (.slice (some ⟨w.heap.size, 0, none⟩) (Lib.countB s sep + 1) (Lib.countB s sep + 1)) ∧ w' = w.alloc (.cells ((Lib.splitB sep 0 (Lib.countB s sep) s).map Value.string).toArray 9) :=
  Any.strings_Split lays146 (by kernel_rfl) s sep m w hs hm h1
end Go.Proofs.YtgmfhldfdnnafaaGreatDoor
namespace Go.Proofs.YtgmfhldfdnnafaaGreatDoor
open Go.RowKit
open Pl (Bs digB val val_next val_small)
set_option linter.unusedSimpArgs false
set_option linter.unusedVariables false
set_option maxHeartbeats 4000000 in
set_option maxRecDepth 100000 in
theorem slarge_walk (s : ByteArray) (hs : s.size ≤ 1000000) (w : World) :
    Calls Tryz.prog 164 #[.string s] w fun e w' => e = .returned (.string (largeS s)) ∧ Below w.heap.size w w' := by
  obtain ⟨w1, cap, cs, fr, hcv, hB, hh, _, ⟨W, hw, rfl⟩, hcell⟩ := bytes_mark w s
  have hrun := run_bytes_of_string (P := Tryz.prog) w 9 46 5 s Tryz.underlying9 Tryz.underlying46 Tryz.underlying5
  rw [hcv] at hrun
  have hrun' := (Result.ok.inj hrun)
  have HS : LargeSt w1 w.heap.size s 0 := by
    refine ⟨_, _, by rw [hrun'.2]; exact World.alloc_heap_new w.drew _, ?_, ?_, fun j hj => ?_⟩
    · simp [bytesRow]
    · simp [bytesRow]
    · rw [if_neg (by omega)]; exact bytesRow_at s _ j hj
  have HB := Lib.hid hB
  have HS0 := Lib.hid HS
  clear hB HS hrun hrun' hh hw hcell
  go_enter Tryz.func164, Tryz.ntmps164
  go_wp2
  clear hcv
  go_loopw [10] (fun i wr => ∃ k : Nat, k ≤ s.size ∧ i = .int .i64 k ∧ Hid (LargeSt wr w.heap.size s k) ∧ Hid (Below w.heap.size w wr)) (fun i _ => s.size - (intOf i).toNat)
  case atStart => exact ⟨0, Nat.zero_le _, rfl, HS0, HB⟩
  case round =>
    obtain ⟨k, hk, rfl, HS, HB⟩ := hrel
    have zs := HB.out.size
    by_cases hkn : k < s.size
    · obtain ⟨c1, f1⟩ := HS.out.cell hkn
      rw [if_neg (Nat.lt_irrefl k)] at c1
      by_cases hu : 97 ≤ (s[k]'hkn).toNat ∧ (s[k]'hkn).toNat ≤ 122
      · obtain ⟨u1, u2⟩ := hu
        have HN := Lib.hid (HS.out.put hkn)
        have HU := Lib.hid (large_up _ u1 u2)
        have HBn := Lib.hid (HB.out.setCell (p := ⟨w.heap.size, k, none⟩) (Nat.le_refl _) (.int .u8 (((largeB (s[k]'hkn)).toNat : Nat) : Int)))
        rw [HU.out] at HN HBn
        generalize (s[k]'hkn) = c at *
        have i1 : (97 : Int) ≤ (c.toNat : Int) := by omega
        have i2 : (c.toNat : Int) ≤ 122 := by omega
        go_wp2
        go_roundw
        case rel => exact ⟨k + 1, by omega, by go_num, HN, HBn⟩
        case measure => simp [intOf]; omega
      · have HN := Lib.hid (HS.out.keep hkn (large_not _ hu))
        generalize (s[k]'hkn) = c at *
        by_cases i1 : (97 : Int) ≤ (c.toNat : Int)
        · have i2 : ¬ (c.toNat : Int) ≤ 122 := by omega
          go_wp2
          go_roundw
          case rel => exact ⟨k + 1, by omega, by go_num, HN, HB⟩
          case measure => simp [intOf]; omega
        · go_wp2
          go_roundw
          case rel => exact ⟨k + 1, by omega, by go_num, HN, HB⟩
          case measure => simp [intOf]; omega
    · obtain rfl : k = s.size := by omega
      have hcv2 : (convert 46 9 (.slice (some ⟨w.heap.size, 0, none⟩) s.size cap)).run Tryz.prog wr = .ok (.string (largeS s)) wr := by
        have hl : ((bs s).map largeB).length = s.size := by rw [List.length_map, bs_size]
        have h := run_convert_bytes_back wr 46 9 5 ⟨w.heap.size, 0, none⟩ cap ((bs s).map largeB) Tryz.underlying46 Tryz.underlying5 Tryz.underlying9 (fun j hj => by
          have hj' : j < s.size := by omega
          rw [add_at]
          rw [(HS.out.cell hj').1, if_pos hj']
          simp [at_bs s j hj'])
        rw [hl] at h
        exact h
      go_wp2
      go_ret
      exact ⟨rfl, HB.out⟩
/-- a part's number; 0: it is none -/
def secNum (l : Bs) : Nat := if l.length = 0 ∨ l.head? = some 48 ∨ 3 < l.length ∨ l.all digB = false then 0 else val l
theorem secNum_len {l : Bs} (h : l.length = 0 ∨ 3 < l.length) : secNum l = 0 := by rw [secNum, if_pos]; rcases h with h | h; exact .inl h; exact .inr (.inr (.inl h))
theorem secNum_zero {l : Bs} (h : l.head? = some 48) : secNum l = 0 := by rw [secNum, if_pos (.inr (.inl h))]
theorem secNum_digit {l : Bs} (j : Nat) (hj : j < l.length) (h : digB l[j] = false) : secNum l = 0 := by
  rw [secNum, if_pos]
  refine .inr (.inr (.inr (Bool.eq_false_iff.2 fun e => ?_)))
  have := List.all_eq_true.1 e l[j] (List.getElem_mem hj)
  rw [h] at this; cases this
theorem secNum_yes {l : Bs} (h1 : l.length ≠ 0) (h2 : ¬ l.head? = some 48) (h3 : l.length ≤ 3) (h4 : ∀ c ∈ l, digB c = true) : secNum l = val l := by
  rw [secNum, if_neg]
  rintro (h | h | h | h)
  · exact h1 h
  · exact h2 h
  · omega
  · rw [List.all_eq_true.2 h4] at h; cases h
theorem secNum_le (l : Bs) : secNum l ≤ 999 := by
  unfold secNum
  split
  · omega
  · rename_i h
    have h3 : l.length ≤ 3 := by
      refine Nat.le_of_not_lt fun e => h (.inr (.inr (.inl e)))
    have h4 : ∀ c ∈ l, digB c = true := by
      cases e : l.all digB with
      | true => exact List.all_eq_true.1 e
      | false => exact absurd (.inr (.inr (.inr e))) h
    have h5 := val_small l h4
    have h6 : 10 ^ l.length ≤ 10 ^ 3 := Nat.pow_le_pow_right (by decide) h3
    have h7 : (10 : Nat) ^ 3 = 1000 := by decide
    omega
set_option maxHeartbeats 4000000 in
set_option maxRecDepth 100000 in
theorem snumber_walk (s : ByteArray) (w : World) (hs : s.size ≤ 1000000) :
    Calls Tryz.prog 163 #[.string s] w fun e w' => e = .returned (.int .i64 (secNum (bs s))) ∧ Below w.heap.size w w' := by
  obtain ⟨w1, cap, hcv, hB, hb⟩ := bytes_laid w s
  have HB := Lib.hid hB
  have HBs := Lib.hid hb
  clear hB hb
  by_cases z0 : s.size = 0
  · obtain rfl := size_zero z0
    have HV := Lib.hid (secNum_len (l := bs ⟨#[]⟩) (.inl rfl))
    clear z0
    go_enter Tryz.func163, Tryz.ntmps163
    go_wp2
    go_ret
    exact ⟨by rw [HV.out]; rfl, Below.refl _ _⟩
  · have zl : (bs s).length = s.size := bs_size s
    have he : s.toList.isEmpty = false := by
      rw [Lib.toList_data]
      show (bs s).isEmpty = false
      cases e : bs s with
      | nil => rw [e] at zl; simp at zl; omega
      | cons => rfl
    have hh := head_bs s (by omega)
    have h0 : 0 < s.size := by omega
    by_cases h48 : (s[0].toNat : Int) = 48
    · have g48 : ((s[0].toNat : Int) == 48) = true := by rw [beq_iff_eq]; exact h48
      have HV := Lib.hid (secNum_zero (l := bs s) (by rw [hh, (byte_eq s[0] 48 (by decide)).2 h48]; rfl))
      clear h48 hh
      go_enter Tryz.func163, Tryz.ntmps163
      go_wp2
      go_ret
      exact ⟨by rw [HV.out]; rfl, Below.refl _ _⟩
    · have g48 : ((s[0].toNat : Int) == 48) = false := by rw [beq_eq_false_iff_ne]; exact h48
      have HH := Lib.hid (show ¬ (bs s).head? = some 48 by
        rw [hh]; intro e; exact h48 ((byte_eq s[0] 48 (by decide)).1 (Option.some.inj e)))
      clear hh
      by_cases z3 : 3 < s.size
      · have HV := Lib.hid (secNum_len (l := bs s) (.inr (by omega)))
        go_enter Tryz.func163, Tryz.ntmps163
        go_wp2
        go_ret
        exact ⟨by rw [HV.out]; rfl, Below.refl _ _⟩
      · go_enter Tryz.func163, Tryz.ntmps163
        go_wp2
        go_loop [3, 21] (fun n i => ∃ k : Nat, k ≤ s.size ∧ i = .int .i64 k ∧ n = .int .i64 (val ((bs s).take k)) ∧ Hid (∀ c ∈ (bs s).take k, digB c = true)) (fun _ i => s.size - (intOf i).toNat)
        case atStart => exact ⟨0, Nat.zero_le _, rfl, rfl, Lib.hid (fun c h => by simp at h)⟩
        case round =>
          obtain ⟨k, hk, rfl, rfl, HA⟩ := hrel
          have hN : val ((bs s).take k) ≤ 999 := by
            have h1 := val_small _ HA.out
            have h2 : 10 ^ ((bs s).take k).length ≤ 10 ^ 3 := Nat.pow_le_pow_right (by decide) (by rw [List.length_take]; omega)
            have h3 : (10 : Nat) ^ 3 = 1000 := by decide
            omega
          by_cases hlt : k < s.size
          · have c0 := HBs.out k hlt
            have hat := at_bs s k hlt
            by_cases hd : digB s[k] = true
            · have hd' := hd
              simp only [digB, Bool.and_eq_true, decide_eq_true_eq] at hd'
              obtain ⟨d1, d2⟩ := hd'
              have hv := val_next (bs s) k (by omega)
              rw [hat] at hv
              have HN := Lib.hid (show ∀ c ∈ (bs s).take (k + 1), digB c = true from fun c hc => by
                rw [List.take_succ_eq_append_getElem (by omega), List.mem_append] at hc
                rcases hc with hc | hc
                · exact HA.out c hc
                · rw [List.mem_singleton.1 hc, hat]; exact hd)
              generalize val ((bs s).take k) = N at *
              have hv' : (val ((bs s).take (k + 1)) : Int) = 10 * (N : Int) + ((s[k].toNat : Int) - 48) := by omega
              have HV := Lib.hid hv'
              clear hv hd hat hv'
              have b1 : (48 : Int) ≤ (s[k].toNat : Int) := by omega
              have b2 : (s[k].toNat : Int) ≤ 57 := by omega
              generalize (s[k].toNat : Int) = C at *
              go_wp2
              go_round
              case rel => exact ⟨k + 1, by omega, by go_num, by rw [HV.out], HN⟩
              case measure => simp [intOf]; omega
            · have HV := Lib.hid (secNum_digit (l := bs s) k (by omega) (by rw [hat]; simpa using hd))
              have hd' : s[k].toNat < 48 ∨ 57 < s[k].toNat := by
                simp only [digB, Bool.and_eq_true, decide_eq_true_eq] at hd; omega
              clear hd hat
              have b1 : (s[k].toNat : Int) < 48 ∨ 57 < (s[k].toNat : Int) := by omega
              clear hd'
              generalize (s[k].toNat : Int) = C at *
              by_cases b2 : C < 48
              · clear b1
                go_wp2
                go_ret
                exact ⟨by rw [HV.out]; rfl, HB.out⟩
              · have b3 : 57 < C := by omega
                have b4 : 48 ≤ C := by omega
                clear b1 b2
                go_wp2
                go_ret
                exact ⟨by rw [HV.out]; rfl, HB.out⟩
          · obtain rfl : k = s.size := by omega
            have ht : (bs s).take s.size = bs s := List.take_of_length_le (by omega)
            have HV := Lib.hid (secNum_yes (l := bs s) (by omega) HH.out (by omega) (by rw [← ht]; exact HA.out))
            rw [ht] at hN ⊢
            generalize val (bs s) = N at *
            go_wp2
            go_ret
            exact ⟨by rw [HV.out]; rfl, HB.out⟩
def nameSpec : Bs := [40, 41, 58, 34, 123, 92]
def secNameC (c : UInt8) : Bool := decide (33 ≤ c.toNat) && decide (c.toNat ≤ 126) && decide (idxI c nameSpec < 0)
def secName (l : Bs) : Bool := l.all secNameC && !l.isEmpty
set_option maxHeartbeats 4000000 in
set_option maxRecDepth 100000 in
theorem sname_walk (s : ByteArray) (w : World) (hs : s.size ≤ 1000000) :
    Calls Tryz.prog 177 #[.string s] w fun e w' => e = .returned (.bool (secName (bs s))) ∧ Below w.heap.size w w' := by
  obtain ⟨w1, cap, hcv, hB, hb⟩ := bytes_laid w s
  have HB := Lib.hid hB
  have HBs := Lib.hid hb
  have zl : (bs s).length = s.size := bs_size s
  clear hB hb
  go_enter Tryz.func177, Tryz.ntmps177
  go_wp2
  go_loop [8] (fun i => ∃ k : Nat, k ≤ s.size ∧ i = .int .i64 k ∧ Hid (∀ c ∈ (bs s).take k, secNameC c = true)) (fun i => s.size - (intOf i).toNat)
  case atStart => exact ⟨0, Nat.zero_le _, rfl, Lib.hid (fun c h => by simp at h)⟩
  case round =>
    obtain ⟨k, hk, rfl, HA⟩ := hrel
    by_cases hlt : k < s.size
    · have c0 := HBs.out k hlt
      have hat := at_bs s k hlt
      have HBad := Lib.hid (fun (hb : secNameC s[k] = false) => show secName (bs s) = false by
        rw [secName]
        have : (bs s).all secNameC = false := Bool.eq_false_iff.2 fun e => by
          have := List.all_eq_true.1 e _ (List.getElem_mem (show k < (bs s).length by omega))
          rw [hat, hb] at this; cases this
        rw [this]; rfl)
      have HN := Lib.hid (fun (hb : secNameC s[k] = true) => show ∀ c ∈ (bs s).take (k + 1), secNameC c = true from fun c hc => by
        rw [List.take_succ_eq_append_getElem (by omega), List.mem_append] at hc
        rcases hc with hc | hc
        · exact HA.out c hc
        · rw [List.mem_singleton.1 hc, hat]; exact hb)
      have HD := Lib.hid (show secNameC s[k] = (decide (33 ≤ s[k].toNat) && decide (s[k].toNat ≤ 126) && decide (idxI s[k] nameSpec < 0)) from rfl)
      have K : Hid (∀ W, Calls Tryz.prog 95 #[.string ⟨#[40, 41, 58, 34, 123, 92]⟩, .int .u8 (s[k].toNat : Int)] W fun e w' => e = .returned (.int .i64 (idxI s[k] nameSpec)) ∧ W = w') := Lib.hid (fun W => by
        have := indexByte_walk ⟨#[40, 41, 58, 34, 123, 92]⟩ (s[k].toNat : Int) W
        have e : (s[k].toNat : Int).toNat.toUInt8 = s[k] := by simp
        rw [e] at this
        exact this)
      clear hat
      generalize s[k] = c at *
      by_cases h1 : c.toNat < 33
      · have HV := Lib.hid (HBad.out (by rw [HD.out, decide_eq_false (by omega)]; rfl))
        have b1 : (c.toNat : Int) < 33 := by omega
        go_wp2
        go_ret
        exact ⟨by rw [HV.out]; rfl, HB.out⟩
      · have b1 : ¬ (c.toNat : Int) < 33 := by omega
        by_cases h2 : 126 < c.toNat
        · have HV := Lib.hid (HBad.out (by rw [HD.out, decide_eq_false (show ¬ c.toNat ≤ 126 by omega)]; simp))
          have b2 : 126 < (c.toNat : Int) := by omega
          go_wp2
          go_ret
          exact ⟨by rw [HV.out]; rfl, HB.out⟩
        · have b2 : ¬ 126 < (c.toNat : Int) := by omega
          have HD1 := Lib.hid (show secNameC c = decide (idxI c nameSpec < 0) by rw [HD.out, decide_eq_true (show 33 ≤ c.toNat by omega), decide_eq_true (show c.toNat ≤ 126 by omega)]; rfl)
          generalize idxI c nameSpec = ix at *
          by_cases h3 : ix < 0
          · have HN2 := Lib.hid (HN.out (by rw [HD1.out, decide_eq_true h3]))
            have b3 : ¬ 0 ≤ ix := by omega
            go_wp2_with fail
            refine (K.out _).mono ?_
            rintro e w' ⟨rfl, rfl⟩
            go_wp2
            go_round
            case rel => exact ⟨k + 1, by omega, by go_num, HN2⟩
            case measure => simp [intOf]; omega
          · have HV := Lib.hid (HBad.out (by rw [HD1.out, decide_eq_false h3]))
            have b3 : 0 ≤ ix := by omega
            go_wp2_with fail
            refine (K.out _).mono ?_
            rintro e w' ⟨rfl, rfl⟩
            go_wp2
            go_ret
            exact ⟨by rw [HV.out]; rfl, HB.out⟩
    · obtain rfl : k = s.size := by omega
      have ht : (bs s).take s.size = bs s := List.take_of_length_le (by omega)
      have HV := Lib.hid (show secName (bs s) = !(s.toList.isEmpty) by
        have := HA.out
        rw [ht] at this
        rw [secName, List.all_eq_true.2 this, Bool.true_and, Lib.toList_data])
      go_wp2
      go_ret
      exact ⟨by rw [HV.out]; rfl, HB.out⟩
def numBad (n : Int) : Bool := decide (n < 1) || decide (999 < n)
theorem right1_walk (n : Int) (w : World) : Calls Tryz.prog 174 #[.int .i64 n] w fun e w' => e = .returned (.bool (numBad n)) ∧ w = w' := by
  have HD := Lib.hid (show numBad n = (decide (n < 1) || decide (999 < n)) from rfl)
  by_cases h : n < 1
  · have HV := Lib.hid (show numBad n = true by rw [HD.out, decide_eq_true h]; rfl)
    go_enter Tryz.func174, Tryz.ntmps174
    go_wp2
    go_ret
    exact ⟨by rw [HV.out]; rfl, rfl⟩
  · have HV := Lib.hid (show numBad n = decide (999 < n) by rw [HD.out, decide_eq_false h]; rfl)
    go_enter Tryz.func174, Tryz.ntmps174
    go_wp2
    go_ret
    exact ⟨by rw [HV.out]; rfl, rfl⟩
def nameBad (l : Bs) : Bool := !(secName l)
theorem right2_walk (l : Bs) (hl : l.length ≤ 1000000) (w : World) : Calls Tryz.prog 176 #[.string (str l)] w fun e w' => e = .returned (.bool (nameBad l)) ∧ Below w.heap.size w w' := by
  have K := Lib.hid (sname_walk (str l) w (by rw [str_size]; exact hl))
  rw [bs_str] at K
  have HD := Lib.hid (show nameBad l = !(secName l) from rfl)
  go_enter Tryz.func176, Tryz.ntmps176
  go_wp2_with fail
  refine K.out.mono ?_
  rintro e w1 ⟨rfl, hB⟩
  have HB := Lib.hid hB
  clear hB
  go_wp2
  go_ret
  exact ⟨by rw [HD.out]; rfl, HB.out⟩
set_option maxHeartbeats 2000000 in
set_option maxRecDepth 100000 in
theorem indexF_ints (xs : List Int) (T : Nat → Prop) (v : Value) (w : World) (hx : xs.length ≤ 2000000) (hv : RowC w T v xs.length (xs.map intV)) (hT : ∀ i, T i → i < w.heap.size) :
    Calls Tryz.prog 181 #[v, .func (.func 174) #[] #[]] w fun e w' => ∃ i : Int, e = .returned (.int .i64 i) ∧ decide (0 ≤ i) = xs.any numBad ∧ Below w.heap.size w w' := by
  obtain ⟨A, c, rfl, hc⟩ := hv
  have HC := Lib.hid hc
  have HT := Lib.hid hT
  have HB := Lib.hid (Below.refl w.heap.size w)
  clear hc hT
  go_enter Tryz.func181, Tryz.ntmps181
  go_wp2
  go_loopw [8] (fun i wr => ∃ j : Nat, j ≤ xs.length ∧ i = .int .i64 j ∧ Hid (∀ x ∈ xs.take j, numBad x = false) ∧ Hid (Below w.heap.size w wr)) (fun i _ => xs.length - (intOf i).toNat)
  case atStart => exact ⟨0, Nat.zero_le _, rfl, Lib.hid (fun x h => by simp at h), HB⟩
  case round =>
    obtain ⟨j, hj, rfl, HA, HB⟩ := hrel
    by_cases hlt : j < xs.length
    · obtain ⟨b, rfl, hTb, hcell⟩ := HC.out (by omega)
      have c0 : wr.cell? ⟨b, j, none⟩ = some (intV xs[j]) := ((HB.out.cell (p := ⟨b, j, none⟩) (HT.out b hTb))).trans (hcell j _ (by rw [List.getElem?_map, List.getElem?_eq_getElem hlt]; rfl))
      unfold intV at c0
      have HY := Lib.hid (fun (h : numBad xs[j] = true) => show true = xs.any numBad from (List.any_eq_true.2 ⟨xs[j], List.getElem_mem hlt, h⟩).symm)
      have HN := Lib.hid (fun (h : numBad xs[j] = false) => show ∀ x ∈ xs.take (j + 1), numBad x = false from fun x hx => by
        rw [List.take_succ_eq_append_getElem hlt, List.mem_append] at hx
        rcases hx with hx | hx
        · exact HA.out x hx
        · rw [List.mem_singleton.1 hx]; exact h)
      have K := Lib.hid (fun W => ((right1_walk xs[j] W).mono fun e w1 h => (⟨h.1, by rw [← h.2]; exact Below.refl _ _⟩ : _ ∧ Below W.heap.size W w1)))
      generalize xs[j] = y at *
      cases hp : numBad y with
      | true =>
        rw [hp] at K
        have HV := Lib.hid (HY.out hp)
        clear hcell
        go_wp2_with fail
        refine (K.out _).mono ?_
        rintro e w1 ⟨rfl, hB1⟩
        have HB1 := Lib.hid (below_then HB.out hB1)
        clear hB1
        go_wp2
        go_ret
        exact ⟨_, rfl, by rw [← HV.out]; exact decide_eq_true (by omega), HB1.out⟩
      | false =>
        rw [hp] at K
        have HN2 := Lib.hid (HN.out hp)
        clear hcell
        go_wp2_with fail
        refine (K.out _).mono ?_
        rintro e w1 ⟨rfl, hB1⟩
        have HB1 := Lib.hid (below_then HB.out hB1)
        clear hB1
        go_wp2
        go_roundw
        case rel => exact ⟨j + 1, by omega, by go_num, HN2, HB1⟩
        case measure => simp [intOf]; omega
    · obtain rfl : j = xs.length := by omega
      have HV := Lib.hid (show xs.any numBad = false from List.any_eq_false.2 fun x hx => by rw [HA.out x (by rw [List.take_of_length_le (Nat.le_refl _)]; exact hx)]; decide)
      go_wp2
      go_ret
      exact ⟨_, rfl, by rw [HV.out]; rfl, HB.out⟩
set_option maxHeartbeats 2000000 in
set_option maxRecDepth 100000 in
theorem containsF_ints (xs : List Int) (T : Nat → Prop) (v : Value) (w : World) (hx : xs.length ≤ 2000000) (hv : RowC w T v xs.length (xs.map intV)) (hT : ∀ i, T i → i < w.heap.size) :
    Calls Tryz.prog 173 #[v, .func (.func 174) #[] #[]] w fun e w' => e = .returned (.bool (xs.any numBad)) ∧ Below w.heap.size w w' := by
  have K := Lib.hid (indexF_ints xs T v w hx hv hT)
  clear hv hT
  go_enter Tryz.func173, Tryz.ntmps173
  go_wp2_with fail
  refine K.out.mono ?_
  rintro e w1 ⟨i, rfl, hi, hB⟩
  have HI := Lib.hid hi
  have HB := Lib.hid hB
  clear hi hB
  go_wp2
  go_ret
  exact ⟨by rw [← HI.out]; rfl, HB.out⟩
set_option maxHeartbeats 2000000 in
set_option maxRecDepth 100000 in
theorem indexF_strs (xs : List Bs) (T : Nat → Prop) (v : Value) (w : World) (hx : xs.length ≤ 2000000) (hv : RowC w T v xs.length (xs.map strV)) (hT : ∀ i, T i → i < w.heap.size) (hl : ∀ x ∈ xs, x.length ≤ 1000000) :
    Calls Tryz.prog 182 #[v, .func (.func 176) #[] #[]] w fun e w' => ∃ i : Int, e = .returned (.int .i64 i) ∧ decide (0 ≤ i) = xs.any nameBad ∧ Below w.heap.size w w' := by
  obtain ⟨A, c, rfl, hc⟩ := hv
  have HC := Lib.hid hc
  have HT := Lib.hid hT
  have HB := Lib.hid (Below.refl w.heap.size w)
  clear hc hT
  go_enter Tryz.func182, Tryz.ntmps182
  go_wp2
  go_loopw [8] (fun i wr => ∃ j : Nat, j ≤ xs.length ∧ i = .int .i64 j ∧ Hid (∀ x ∈ xs.take j, nameBad x = false) ∧ Hid (Below w.heap.size w wr)) (fun i _ => xs.length - (intOf i).toNat)
  case atStart => exact ⟨0, Nat.zero_le _, rfl, Lib.hid (fun x h => by simp at h), HB⟩
  case round =>
    obtain ⟨j, hj, rfl, HA, HB⟩ := hrel
    by_cases hlt : j < xs.length
    · obtain ⟨b, rfl, hTb, hcell⟩ := HC.out (by omega)
      have c0 : wr.cell? ⟨b, j, none⟩ = some (strV xs[j]) := ((HB.out.cell (p := ⟨b, j, none⟩) (HT.out b hTb))).trans (hcell j _ (by rw [List.getElem?_map, List.getElem?_eq_getElem hlt]; rfl))
      unfold strV at c0
      have HY := Lib.hid (fun (h : nameBad xs[j] = true) => show true = xs.any nameBad from (List.any_eq_true.2 ⟨xs[j], List.getElem_mem hlt, h⟩).symm)
      have HN := Lib.hid (fun (h : nameBad xs[j] = false) => show ∀ x ∈ xs.take (j + 1), nameBad x = false from fun x hx => by
        rw [List.take_succ_eq_append_getElem hlt, List.mem_append] at hx
        rcases hx with hx | hx
        · exact HA.out x hx
        · rw [List.mem_singleton.1 hx]; exact h)
      have K := Lib.hid (fun W => right2_walk xs[j] (hl _ (List.getElem_mem hlt)) W)
      generalize xs[j] = y at *
      cases hp : nameBad y with
      | true =>
        rw [hp] at K
        have HV := Lib.hid (HY.out hp)
        clear hcell
        go_wp2_with fail
        refine (K.out _).mono ?_
        rintro e w1 ⟨rfl, hB1⟩
        have HB1 := Lib.hid (below_then HB.out hB1)
        clear hB1
        go_wp2
        go_ret
        exact ⟨_, rfl, by rw [← HV.out]; exact decide_eq_true (by omega), HB1.out⟩
      | false =>
        rw [hp] at K
        have HN2 := Lib.hid (HN.out hp)
        clear hcell
        go_wp2_with fail
        refine (K.out _).mono ?_
        rintro e w1 ⟨rfl, hB1⟩
        have HB1 := Lib.hid (below_then HB.out hB1)
        clear hB1
        go_wp2
        go_roundw
        case rel => exact ⟨j + 1, by omega, by go_num, HN2, HB1⟩
        case measure => simp [intOf]; omega
    · obtain rfl : j = xs.length := by omega
      have HV := Lib.hid (show xs.any nameBad = false from List.any_eq_false.2 fun x hx => by rw [HA.out x (by rw [List.take_of_length_le (Nat.le_refl _)]; exact hx)]; decide)
      go_wp2
      go_ret
      exact ⟨_, rfl, by rw [HV.out]; rfl, HB.out⟩
set_option maxHeartbeats 2000000 in
set_option maxRecDepth 100000 in
theorem containsF_strs (xs : List Bs) (T : Nat → Prop) (v : Value) (w : World) (hx : xs.length ≤ 2000000) (hv : RowC w T v xs.length (xs.map strV)) (hT : ∀ i, T i → i < w.heap.size) (hl : ∀ x ∈ xs, x.length ≤ 1000000) :
    Calls Tryz.prog 175 #[v, .func (.func 176) #[] #[]] w fun e w' => e = .returned (.bool (xs.any nameBad)) ∧ Below w.heap.size w w' := by
  have K := Lib.hid (indexF_strs xs T v w hx hv hT hl)
  clear hv hT
  go_enter Tryz.func175, Tryz.ntmps175
  go_wp2_with fail
  refine K.out.mono ?_
  rintro e w1 ⟨i, rfl, hi, hB⟩
  have HI := Lib.hid hi
  have HB := Lib.hid hB
  clear hi hB
  go_wp2
  go_ret
  exact ⟨by rw [← HI.out]; rfl, HB.out⟩
end Go.Proofs.YtgmfhldfdnnafaaGreatDoor
namespace Go.Proofs.YtgmfhldfdnnafaaGreatDoor
open Go.RowKit
open Pl (Bs)
set_option linter.unusedSimpArgs false
set_option linter.unusedVariables false
def headN : Bs := [72, 69, 65, 68, 69, 82]
def textN : Bs := [84, 69, 88, 84]
def mimeN : Bs := [77, 73, 77, 69]
def fieldsN : Bs := [72, 69, 65, 68, 69, 82, 46, 70, 73, 69, 76, 68, 83]
def othersN : Bs := [72, 69, 65, 68, 69, 82, 46, 70, 73, 69, 76, 68, 83, 46, 78, 79, 84]
def secRight (x : SpecP) : Bool :=
  if 20 < x.path.length ∨ 20 < x.names.length ∨ x.path.any numBad = true then false
  else if x.what = [] ∨ x.what = headN ∨ x.what = textN then decide (x.names.length = 0)
  else if x.what = mimeN then decide (x.names.length = 0) && decide (0 < x.path.length)
  else if x.what = fieldsN ∨ x.what = othersN then decide (0 < x.names.length) && !(x.names.any nameBad)
  else false
theorem len0 (n : Nat) : decide (n = 0) = ((n : Int) == 0) := by rw [Bool.eq_iff_iff]; simp
set_option maxHeartbeats 4000000 in
set_option maxRecDepth 100000 in
theorem right_walk (x : SpecP) (T : Nat → Prop) (vp vn : Value) (w : World) (hx : SpecAt w T vp vn x) (hT : ∀ i, T i → i < w.heap.size) (hl1 : x.path.length ≤ 2000000) (hl2 : x.names.length ≤ 2000000) (hl3 : ∀ y ∈ x.names, y.length ≤ 1000000) :
    Calls Tryz.prog 166 #[.agg #[vp, .string (str x.what), vn]] w fun e w' => e = .returned (.bool (secRight x)) ∧ Below w.heap.size w w' := by
  obtain ⟨path, what, names⟩ := x
  obtain ⟨Ap, cp, rfl, _⟩ := id hx.path
  obtain ⟨An, cn, rfl, _⟩ := id hx.names
  dsimp only at *
  have hR : secRight ⟨path, what, names⟩ = if 20 < path.length ∨ 20 < names.length ∨ path.any numBad = true then false
  else if what = [] ∨ what = headN ∨ what = textN then decide (names.length = 0)
  else if what = mimeN then decide (names.length = 0) && decide (0 < path.length)
  else if what = fieldsN ∨ what = othersN then decide (0 < names.length) && !(names.any nameBad)
  else false := rfl
  have HB0 := Lib.hid ((Below.refl w.heap.size w).alloc (Nat.le_refl _) (Obj.cells #[.slice Ap path.length cp, .string (str what), .slice An names.length cn] 76))
  have HX0 := Lib.hid (World.alloc_heap_new w (Obj.cells #[.slice Ap path.length cp, .string (str what), .slice An names.length cn] 76))
  have HP := Lib.hid (fun W1 (hB : Below (w.alloc (Obj.cells #[.slice Ap path.length cp, .string (str what), .slice An names.length cn] 76)).heap.size (w.alloc (Obj.cells #[.slice Ap path.length cp, .string (str what), .slice An names.length cn] 76)) W1) => show SpecAt W1 T (.slice Ap path.length cp) (.slice An names.length cn) ⟨path, what, names⟩ from hx.kept (fun i hi => by
    have := hT i hi
    exact (hB.block i (by simp; omega)).trans (Below.heap_alloc _ _ _ (by omega))))
  have HTl := Lib.hid (fun W1 (hB : Below (w.alloc (Obj.cells #[.slice Ap path.length cp, .string (str what), .slice An names.length cn] 76)).heap.size (w.alloc (Obj.cells #[.slice Ap path.length cp, .string (str what), .slice An names.length cn] 76)) W1) => show ∀ i, T i → i < W1.heap.size from fun i hi => by
    have := hT i hi; have := hB.size; simp at this; omega)
  have K1 := Lib.hid (fun W (h1 : RowC W T (.slice Ap path.length cp) path.length (path.map intV)) (h2 : ∀ i, T i → i < W.heap.size) => containsF_ints path T _ W hl1 h1 h2)
  have K2 := Lib.hid (fun W (h1 : RowC W T (.slice An names.length cn) names.length (names.map strV)) (h2 : ∀ i, T i → i < W.heap.size) => containsF_strs names T _ W hl2 h1 h2 hl3)
  generalize secRight ⟨path, what, names⟩ = o at *
  have HR := Lib.hid hR
  clear hx hT hR
  by_cases h1 : 20 < path.length
  · have HV := Lib.hid (show o = false by rw [HR.out, if_pos (.inl h1)])
    have h1' : (20 : Int) < (path.length : Int) := by omega
    clear HR
    go_enter Tryz.func166, Tryz.ntmps166
    go_wp2
    go_ret
    exact ⟨by rw [HV.out]; rfl, HB0.out⟩
  · by_cases h2 : 20 < names.length
    · have HV := Lib.hid (show o = false by rw [HR.out, if_pos (.inr (.inl h2))])
      clear HR
      go_enter Tryz.func166, Tryz.ntmps166
      go_wp2
      go_ret
      exact ⟨by rw [HV.out]; rfl, HB0.out⟩
    · cases h3 : path.any numBad with
      | true =>
        rw [h3] at K1
        have HV := Lib.hid (show o = false by rw [HR.out, if_pos (.inr (.inr h3))])
        clear HR h3
        go_enter Tryz.func166, Tryz.ntmps166
        go_wp2_with fail
        refine (K1.out _ (HP.out _ (Below.refl _ _)).path (HTl.out _ (Below.refl _ _))).mono ?_
        rintro e w1 ⟨rfl, hB1⟩
        have HB1 := Lib.hid (HB0.out.trans (hB1.mono (by simp)))
        clear hB1
        go_wp2
        go_ret
        exact ⟨by rw [HV.out]; rfl, HB1.out⟩
      | false =>
        rw [h3] at K1
        have HR1 := Lib.hid (show o = _ from HR.out.trans (if_neg (by rintro (h | h | h); exact h1 h; exact h2 h; rw [h3] at h; cases h)))
        clear HR h3
        by_cases e0 : what = []
        · have hs : str what = ⟨#[]⟩ := by rw [e0]; rfl
          have HV := Lib.hid (show o = ((names.length : Int) == 0) from (HR1.out.trans (if_pos (.inl e0))).trans (len0 _))
          have HXs := HX0.out
          clear HR1
          rw [hs] at HB0 HX0 HP HTl ⊢
          clear hs HXs
          go_enter Tryz.func166, Tryz.ntmps166
          go_wp2_with fail
          refine (K1.out _ (HP.out _ (Below.refl _ _)).path (HTl.out _ (Below.refl _ _))).mono ?_
          rintro e w1 ⟨rfl, hB1⟩
          have HB1 := Lib.hid (HB0.out.trans (hB1.mono (by simp)))
          have HP1 := Lib.hid (HP.out _ hB1).names
          have HT1 := Lib.hid (HTl.out _ hB1)
          obtain ⟨c0, c1, c2⟩ := three_cells ((hB1.block _ (by simp)).trans HX0.out)
          clear hB1
          go_wp2
          go_ret
          exact ⟨by rw [HV.out]; simp [Act.put], HB1.out⟩
        · skip
          by_cases e1 : what = headN
          · have hs : str what = ⟨#[72, 69, 65, 68, 69, 82]⟩ := by rw [e1]; rfl
            have HV := Lib.hid (show o = ((names.length : Int) == 0) from (HR1.out.trans (if_pos (.inr (.inl e1)))).trans (len0 _))
            have HXs := HX0.out
            clear HR1
            rw [hs] at HB0 HX0 HP HTl ⊢
            clear hs HXs
            go_enter Tryz.func166, Tryz.ntmps166
            go_wp2_with fail
            refine (K1.out _ (HP.out _ (Below.refl _ _)).path (HTl.out _ (Below.refl _ _))).mono ?_
            rintro e w1 ⟨rfl, hB1⟩
            have HB1 := Lib.hid (HB0.out.trans (hB1.mono (by simp)))
            have HP1 := Lib.hid (HP.out _ hB1).names
            have HT1 := Lib.hid (HTl.out _ hB1)
            obtain ⟨c0, c1, c2⟩ := three_cells ((hB1.block _ (by simp)).trans HX0.out)
            clear hB1
            go_wp2
            go_ret
            exact ⟨by rw [HV.out]; simp [Act.put], HB1.out⟩
          · skip
            by_cases e2 : what = textN
            · have hs : str what = ⟨#[84, 69, 88, 84]⟩ := by rw [e2]; rfl
              have HV := Lib.hid (show o = ((names.length : Int) == 0) from (HR1.out.trans (if_pos (.inr (.inr e2)))).trans (len0 _))
              have HXs := HX0.out
              clear HR1
              rw [hs] at HB0 HX0 HP HTl ⊢
              clear hs HXs
              go_enter Tryz.func166, Tryz.ntmps166
              go_wp2_with fail
              refine (K1.out _ (HP.out _ (Below.refl _ _)).path (HTl.out _ (Below.refl _ _))).mono ?_
              rintro e w1 ⟨rfl, hB1⟩
              have HB1 := Lib.hid (HB0.out.trans (hB1.mono (by simp)))
              have HP1 := Lib.hid (HP.out _ hB1).names
              have HT1 := Lib.hid (HTl.out _ hB1)
              obtain ⟨c0, c1, c2⟩ := three_cells ((hB1.block _ (by simp)).trans HX0.out)
              clear hB1
              go_wp2
              go_ret
              exact ⟨by rw [HV.out]; simp [Act.put], HB1.out⟩
            · skip
              by_cases e3 : what = mimeN
              · have hs : str what = ⟨#[77, 73, 77, 69]⟩ := by rw [e3]; rfl
                have HV := Lib.hid (show o = (decide (names.length = 0) && decide (0 < path.length)) from HR1.out.trans ((if_neg (by rintro (h | h | h); exact e0 h; exact e1 h; exact e2 h)).trans (if_pos e3)))
                have HXs := HX0.out
                clear HR1
                rw [hs] at HB0 HX0 HP HTl ⊢
                clear hs HXs
                by_cases hn : names.length = 0
                · have HV2 := Lib.hid (show o = decide (0 < path.length) by rw [HV.out, decide_eq_true hn]; rfl)
                  have hni : (names.length : Int) = 0 := by omega
                  have HNI := Lib.hid hni
                  clear hn hni
                  go_enter Tryz.func166, Tryz.ntmps166
                  go_wp2_with fail
                  refine (K1.out _ (HP.out _ (Below.refl _ _)).path (HTl.out _ (Below.refl _ _))).mono ?_
                  rintro e w1 ⟨rfl, hB1⟩
                  have HB1 := Lib.hid (HB0.out.trans (hB1.mono (by simp)))
                  have HP1 := Lib.hid (HP.out _ hB1).names
                  have HT1 := Lib.hid (HTl.out _ hB1)
                  obtain ⟨c0, c1, c2⟩ := three_cells ((hB1.block _ (by simp)).trans HX0.out)
                  clear hB1
                  have hni := HNI.out
                  go_wp2
                  go_ret
                  exact ⟨by rw [HV2.out]; simp [Act.put], HB1.out⟩
                · have HV2 := Lib.hid (show o = false by rw [HV.out, decide_eq_false hn]; rfl)
                  have hni : ((names.length : Int) == 0) = false := by rw [← len0]; exact decide_eq_false hn
                  have HNI := Lib.hid hni
                  clear hn hni
                  go_enter Tryz.func166, Tryz.ntmps166
                  go_wp2_with fail
                  refine (K1.out _ (HP.out _ (Below.refl _ _)).path (HTl.out _ (Below.refl _ _))).mono ?_
                  rintro e w1 ⟨rfl, hB1⟩
                  have HB1 := Lib.hid (HB0.out.trans (hB1.mono (by simp)))
                  have HP1 := Lib.hid (HP.out _ hB1).names
                  have HT1 := Lib.hid (HTl.out _ hB1)
                  obtain ⟨c0, c1, c2⟩ := three_cells ((hB1.block _ (by simp)).trans HX0.out)
                  clear hB1
                  have hni := HNI.out
                  go_wp2
                  go_ret
                  exact ⟨by rw [HV2.out]; simp [Act.put], HB1.out⟩
              · skip
                by_cases e4 : what = fieldsN
                · have hs : str what = ⟨#[72, 69, 65, 68, 69, 82, 46, 70, 73, 69, 76, 68, 83]⟩ := by rw [e4]; rfl
                  have HV := Lib.hid (show o = (decide (0 < names.length) && !(names.any nameBad)) from HR1.out.trans ((if_neg (by rintro (h | h | h); exact e0 h; exact e1 h; exact e2 h)).trans ((if_neg e3).trans (if_pos (.inl e4)))))
                  have HXs := HX0.out
                  clear HR1
                  rw [hs] at HB0 HX0 HP HTl ⊢
                  clear hs HXs
                  by_cases hn : 0 < names.length
                  · have HV2 := Lib.hid (show o = !(names.any nameBad) by rw [HV.out, decide_eq_true hn]; rfl)
                    have hni : (0 : Int) < (names.length : Int) := by omega
                    go_enter Tryz.func166, Tryz.ntmps166
                    go_wp2_with fail
                    refine (K1.out _ (HP.out _ (Below.refl _ _)).path (HTl.out _ (Below.refl _ _))).mono ?_
                    rintro e w1 ⟨rfl, hB1⟩
                    have HB1 := Lib.hid (HB0.out.trans (hB1.mono (by simp)))
                    have HP1 := Lib.hid (HP.out _ hB1).names
                    have HT1 := Lib.hid (HTl.out _ hB1)
                    obtain ⟨c0, c1, c2⟩ := three_cells ((hB1.block _ (by simp)).trans HX0.out)
                    clear hB1
                    go_wp2_with fail
                    refine (K2.out _ HP1.out HT1.out).mono ?_
                    rintro e w2 ⟨rfl, hB2⟩
                    have HB2 := Lib.hid (below_then HB1.out hB2)
                    clear hB2
                    go_wp2
                    go_ret
                    exact ⟨by rw [HV2.out]; simp [Act.put], HB2.out⟩
                  · have HV2 := Lib.hid (show o = false by rw [HV.out, decide_eq_false hn]; rfl)
                    have hni : ¬ (0 : Int) < (names.length : Int) := by omega
                    go_enter Tryz.func166, Tryz.ntmps166
                    go_wp2_with fail
                    refine (K1.out _ (HP.out _ (Below.refl _ _)).path (HTl.out _ (Below.refl _ _))).mono ?_
                    rintro e w1 ⟨rfl, hB1⟩
                    have HB1 := Lib.hid (HB0.out.trans (hB1.mono (by simp)))
                    have HP1 := Lib.hid (HP.out _ hB1).names
                    have HT1 := Lib.hid (HTl.out _ hB1)
                    obtain ⟨c0, c1, c2⟩ := three_cells ((hB1.block _ (by simp)).trans HX0.out)
                    clear hB1
                    go_wp2
                    go_ret
                    exact ⟨by rw [HV2.out]; simp [Act.put], HB1.out⟩
                · skip
                  by_cases e5 : what = othersN
                  · have hs : str what = ⟨#[72, 69, 65, 68, 69, 82, 46, 70, 73, 69, 76, 68, 83, 46, 78, 79, 84]⟩ := by rw [e5]; rfl
                    have HV := Lib.hid (show o = (decide (0 < names.length) && !(names.any nameBad)) from HR1.out.trans ((if_neg (by rintro (h | h | h); exact e0 h; exact e1 h; exact e2 h)).trans ((if_neg e3).trans (if_pos (.inr e5)))))
                    have HXs := HX0.out
                    clear HR1
                    rw [hs] at HB0 HX0 HP HTl ⊢
                    clear hs HXs
                    by_cases hn : 0 < names.length
                    · have HV2 := Lib.hid (show o = !(names.any nameBad) by rw [HV.out, decide_eq_true hn]; rfl)
                      have hni : (0 : Int) < (names.length : Int) := by omega
                      go_enter Tryz.func166, Tryz.ntmps166
                      go_wp2_with fail
                      refine (K1.out _ (HP.out _ (Below.refl _ _)).path (HTl.out _ (Below.refl _ _))).mono ?_
                      rintro e w1 ⟨rfl, hB1⟩
                      have HB1 := Lib.hid (HB0.out.trans (hB1.mono (by simp)))
                      have HP1 := Lib.hid (HP.out _ hB1).names
                      have HT1 := Lib.hid (HTl.out _ hB1)
                      obtain ⟨c0, c1, c2⟩ := three_cells ((hB1.block _ (by simp)).trans HX0.out)
                      clear hB1
                      go_wp2_with fail
                      refine (K2.out _ HP1.out HT1.out).mono ?_
                      rintro e w2 ⟨rfl, hB2⟩
                      have HB2 := Lib.hid (below_then HB1.out hB2)
                      clear hB2
                      go_wp2
                      go_ret
                      exact ⟨by rw [HV2.out]; simp [Act.put], HB2.out⟩
                    · have HV2 := Lib.hid (show o = false by rw [HV.out, decide_eq_false hn]; rfl)
                      have hni : ¬ (0 : Int) < (names.length : Int) := by omega
                      go_enter Tryz.func166, Tryz.ntmps166
                      go_wp2_with fail
                      refine (K1.out _ (HP.out _ (Below.refl _ _)).path (HTl.out _ (Below.refl _ _))).mono ?_
                      rintro e w1 ⟨rfl, hB1⟩
                      have HB1 := Lib.hid (HB0.out.trans (hB1.mono (by simp)))
                      have HP1 := Lib.hid (HP.out _ hB1).names
                      have HT1 := Lib.hid (HTl.out _ hB1)
                      obtain ⟨c0, c1, c2⟩ := three_cells ((hB1.block _ (by simp)).trans HX0.out)
                      clear hB1
                      go_wp2
                      go_ret
                      exact ⟨by rw [HV2.out]; simp [Act.put], HB1.out⟩
                  · skip
                    have HV := Lib.hid (show o = false from HR1.out.trans ((if_neg (by rintro (h | h | h); exact e0 h; exact e1 h; exact e2 h)).trans ((if_neg e3).trans (if_neg (by rintro (h | h); exact e4 h; exact e5 h)))))
                    have n0 : ((str what).toList == []) = false := str_neb e0
                    have m0 : ¬ (str what).toList = [] := str_ne e0
                    have n1 : ((str what).toList == [72, 69, 65, 68, 69, 82]) = false := str_neb e1
                    have m1 : ¬ (str what).toList = [72, 69, 65, 68, 69, 82] := str_ne e1
                    have n2 : ((str what).toList == [84, 69, 88, 84]) = false := str_neb e2
                    have m2 : ¬ (str what).toList = [84, 69, 88, 84] := str_ne e2
                    have n3 : ((str what).toList == [77, 73, 77, 69]) = false := str_neb e3
                    have m3 : ¬ (str what).toList = [77, 73, 77, 69] := str_ne e3
                    have n4 : ((str what).toList == [72, 69, 65, 68, 69, 82, 46, 70, 73, 69, 76, 68, 83]) = false := str_neb e4
                    have m4 : ¬ (str what).toList = [72, 69, 65, 68, 69, 82, 46, 70, 73, 69, 76, 68, 83] := str_ne e4
                    have n5 : ((str what).toList == [72, 69, 65, 68, 69, 82, 46, 70, 73, 69, 76, 68, 83, 46, 78, 79, 84]) = false := str_neb e5
                    have m5 : ¬ (str what).toList = [72, 69, 65, 68, 69, 82, 46, 70, 73, 69, 76, 68, 83, 46, 78, 79, 84] := str_ne e5
                    have m6 : (str what).toList.isEmpty = false := by
                      cases hq : (str what).toList with
                      | nil => exact absurd hq m0
                      | cons => rfl
                    clear HR1
                    go_enter Tryz.func166, Tryz.ntmps166
                    go_wp2_with fail
                    refine (K1.out _ (HP.out _ (Below.refl _ _)).path (HTl.out _ (Below.refl _ _))).mono ?_
                    rintro e w1 ⟨rfl, hB1⟩
                    have HB1 := Lib.hid (HB0.out.trans (hB1.mono (by simp)))
                    have HP1 := Lib.hid (HP.out _ hB1).names
                    have HT1 := Lib.hid (HTl.out _ hB1)
                    obtain ⟨c0, c1, c2⟩ := three_cells ((hB1.block _ (by simp)).trans HX0.out)
                    clear hB1
                    go_wp2
                    go_ret
                    exact ⟨by rw [HV.out]; simp [Act.put], HB1.out⟩
end Go.Proofs.YtgmfhldfdnnafaaGreatDoor
namespace Go.Proofs.YtgmfhldfdnnafaaGreatDoor
open Go.RowKit
open Pl (Bs)
set_option linter.unusedSimpArgs false
set_option linter.unusedVariables false
def secLoop : Nat → Bs → Bool → List Int × Bs × Bool
  | _, rest, false => ([], rest, false)
  | 0, rest, true => ([], rest, true)
  | f + 1, rest, true => if secNum (Lib.cut rest [46]).1 = 0 then ([], rest, true) else (((secNum (Lib.cut rest [46]).1 : Nat) : Int) :: (secLoop f (Lib.cut rest [46]).2.1 (Lib.cut rest [46]).2.2).1, (secLoop f (Lib.cut rest [46]).2.1 (Lib.cut rest [46]).2.2).2)
def splitL (l : Bs) : List Bs := (Lib.splitB ⟨#[32]⟩ 0 (Lib.countB (str l) ⟨#[32]⟩) (str l)).map bs
def secFin (x : SpecP) : Option SpecP := if secRight x = true then some x else none
def secEnd (path : List Int) (rest : Bs) : Option SpecP :=
  if (Lib.cut rest [32, 40]).1 = [] then none
  else if (Lib.cut rest [32, 40]).2.2 = true then
    if Lib.hasSuffix (Lib.cut rest [32, 40]).2.1 [41] = true then secFin ⟨path, largeL (Lib.cut rest [32, 40]).1, splitL (Lib.trimSuffix (Lib.cut rest [32, 40]).2.1 [41])⟩ else none
  else secFin ⟨path, largeL (Lib.cut rest [32, 40]).1, []⟩
def secB (s : Bs) : Option SpecP :=
  if (secLoop (s.length + 1) s (!s.isEmpty)).2.2 = true then secEnd (secLoop (s.length + 1) s (!s.isEmpty)).1 (secLoop (s.length + 1) s (!s.isEmpty)).2.1
  else secFin ⟨(secLoop (s.length + 1) s (!s.isEmpty)).1, [], []⟩
theorem cut_fst_len (l e : Bs) : (Lib.cut l e).1.length ≤ l.length := by
  unfold Lib.cut
  split
  · simp only [List.length_take]; omega
  · exact Nat.le_refl _
theorem cut_snd_len (l e : Bs) : (Lib.cut l e).2.1.length ≤ l.length := by
  unfold Lib.cut
  split
  · simp only [List.length_drop]; omega
  · simp
theorem cut_less (l : Bs) (h : (Lib.cut l [46]).2.2 = true) : (Lib.cut l [46]).2.1.length < l.length := by
  unfold Lib.cut at h ⊢
  split at h
  · rename_i h0
    rw [if_pos h0]
    have := Lib.index_room l [46] h0
    simp only [List.length_singleton] at this
    simp only [List.length_drop, List.length_singleton]
    omega
  · cases h
theorem piece_len (sep : ByteArray) : ∀ (k : Nat) (s y : ByteArray), y ∈ Lib.splitB sep 0 k s → y.size ≤ s.size
  | 0, s, y, h => by rw [Lib.splitB_zero, List.mem_singleton] at h; subst h; exact Nat.le_refl _
  | k + 1, s, y, h => by
    unfold Lib.splitB at h
    split at h
    · rw [List.mem_singleton] at h; subst h; exact Nat.le_refl _
    · rcases List.mem_cons.1 h with rfl | h
      · rw [ByteArray.size_extract]; omega
      · have := piece_len sep k _ y h
        rw [ByteArray.size_extract] at this
        omega
theorem splitL_len (l : Bs) : (splitL l).length = Lib.countB (str l) ⟨#[32]⟩ + 1 ∧ (splitL l).length ≤ l.length + 1 ∧ ∀ y ∈ splitL l, y.length ≤ l.length := by
  have h1 : 1 ≤ (⟨#[32]⟩ : ByteArray).size := by decide
  have e := Lib.splitB_all ⟨#[32]⟩ h1 0 _ (str l) rfl
  have hc := Lib.countB_le ⟨#[32]⟩ h1 _ (str l) (Nat.le_refl _)
  rw [str_size] at hc
  refine ⟨by rw [splitL, List.length_map, e], by rw [splitL, List.length_map, e]; omega, fun y hy => ?_⟩
  rw [splitL, List.mem_map] at hy
  obtain ⟨z, hz, rfl⟩ := hy
  have := piece_len _ _ _ _ hz
  rw [str_size] at this
  rw [bs_size]; exact this
abbrev zeroSpec : Obj := Obj.cells #[.slice none 0 0, .string ⟨#[]⟩, .slice none 0 0] 76
theorem three_free {w : World} {b : Nat} {t : TypeId} {x y z : Value} (h : w.heap[b]? = some (Obj.cells #[x, y, z] t)) : w.frozen? ⟨b, 0, none⟩ = false ∧ w.frozen? ⟨b, 1, none⟩ = false ∧ w.frozen? ⟨b, 2, none⟩ = false := by
  refine ⟨?_, ?_, ?_⟩ <;> simp [World.frozen?, h]
/-- the section so far, in memory -/
structure SecSt (w : World) (acc : List Int) (u : Value) (wt : ByteArray) (nm : Value) (W : World) : Prop where
  res : W.heap[w.heap.size]? = some zeroSpec
  out : W.heap[w.heap.size + 1]? = some (Obj.cells #[u, .string wt, nm] 76)
  own : W.ownsRow (w.heap.size + 2) 3 1 u acc.length (acc.map intV)
  below : Below w.heap.size w W
  room : w.heap.size + 2 ≤ W.heap.size
theorem SecSt.then {w : World} {acc : List Int} {u : Value} {wt : ByteArray} {nm : Value} {W W1 : World} (st : SecSt w acc u wt nm W) (hB : Below W.heap.size W W1) : SecSt w acc u wt nm W1 :=
  ⟨(hB.block _ (Array.getElem?_eq_some_iff.1 st.res).1).trans st.res, (hB.block _ (Array.getElem?_eq_some_iff.1 st.out).1).trans st.out, own_below st.own hB, below_then st.below hB, Nat.le_trans st.room hB.size⟩
theorem SecSt.setO {w : World} {acc : List Int} {u : Value} {wt wt1 : ByteArray} {nm nm1 : Value} {W : World} (st : SecSt w acc u wt nm W) {i : Nat} {v : Value} (hi : (Obj.cells (#[u, .string wt, nm].setIfInBounds i v) 76 : Obj) = Obj.cells #[u, .string wt1, nm1] 76) : SecSt w acc u wt1 nm1 (W.setCell ⟨w.heap.size + 1, i, none⟩ v) := by
  have hr := st.room
  exact ⟨(Below.heap_setCell W _ v _ (by dsimp only; omega)).trans st.res, (setCell_heap_same st.out).trans (congrArg some hi), ownsRow_setCell_below st.own (by dsimp only; omega) _, st.below.setCell (by dsimp only; omega) _, by simp; omega⟩
theorem set3 (W : World) (b : Nat) (t : TypeId) (o0 o1 o2 v0 v1 v2 : Value) (h : W.heap[b]? = some (Obj.cells #[o0, o1, o2] t)) :
    (((W.setCell ⟨b, 0, none⟩ v0).setCell ⟨b, 1, none⟩ v1).setCell ⟨b, 2, none⟩ v2).heap[b]? = some (Obj.cells #[v0, v1, v2] t) ∧ W.grownBy (((W.setCell ⟨b, 0, none⟩ v0).setCell ⟨b, 1, none⟩ v1).setCell ⟨b, 2, none⟩ v2) (some b) := by
  refine ⟨?_, ?_⟩
  · have h0 := setCell_heap_same (i := 0) (v := v0) h
    have h1 := setCell_heap_same (i := 1) (v := v1) h0
    have h2 := setCell_heap_same (i := 2) (v := v2) h1
    rw [h2]
    simp
  · exact ((grown_put W b 0 v0).trans (grown_put _ b 1 v1)).trans (grown_put _ b 2 v2)
theorem SecPost.bad {G : Glob} {w W W' : World} {o : Option SpecP} (hB : Below w.heap.size w W) (hg : W.grownBy W' (some w.heap.size)) (ho : o = none) {v : Value} (hv : G.form = v) : SecPost G w o (.returned (.tuple #[.agg #[.slice none 0 0, .string ⟨#[]⟩, .slice none 0 0], v])) W' := by
  subst ho
  subst hv
  exact ⟨hB.grown hg hB.size (fun k e => by rw [← Option.some.inj e]; exact Nat.le_refl _), rfl⟩
theorem SecPost.fin {G : Glob} {w W W' : World} {o : Option SpecP} {x : SpecP} {vp vn : Value} (hB : Below w.heap.size w W) (hr : w.heap.size + 2 ≤ W.heap.size) (hg : W.grownBy W' (some w.heap.size)) (ho : o = some x) (hP : SpecAt W (fun i => w.heap.size + 2 ≤ i ∧ i < W.heap.size) vp vn x) : SecPost G w o (.returned (.tuple #[.agg #[vp, .string (str x.what), vn], .nilIface])) W' := by
  subst ho
  refine ⟨hB.grown hg hB.size (fun k e => by rw [← Option.some.inj e]; exact Nat.le_refl _), vp, vn, _, rfl, fun i hi => ⟨by omega, by have := hg.size; omega⟩, hP.kept (fun i hi => hg.block i hi.2 (fun e => by have := Option.some.inj e; omega))⟩
theorem SecSt.spec {w : World} {acc : List Int} {u : Value} {wt : ByteArray} {nm : Value} {W : World} (st : SecSt w acc u wt nm W) {x : SpecP} (hp : x.path = acc) (hn : RowC W (fun i => w.heap.size + 2 ≤ i ∧ i < W.heap.size) nm x.names.length (x.names.map strV)) : SpecAt W (fun i => w.heap.size + 2 ≤ i ∧ i < W.heap.size) u nm x := by
  refine ⟨?_, hn⟩
  rw [hp]
  exact rowC_own st.own
theorem grown_drew (w : World) (row : Option Nat) : w.grownBy w.drew row := ⟨rfl, rfl, rfl, Nat.le_refl _, fun _ _ _ => rfl⟩
theorem SecSt.app {w : World} {acc : List Int} {u : Value} {wt : ByteArray} {nm : Value} {W1 W9 : World} {o : Obj} {g cap : Nat} {n : Int} (st : SecSt w acc u wt nm W1)
    (hown : W9.ownsRow (w.heap.size + 2) 3 1 (.slice (some ⟨g, 0, none⟩) (acc.length + 1) cap) (acc.length + 1) (acc.map intV ++ [.int .i64 n])) (hgr : (W1.alloc o).grownBy W9 u.ownBlock) :
    W9.heap[w.heap.size + 1]? = some (Obj.cells #[u, .string wt, nm] 76) ∧ SecSt w (acc ++ [n]) (.slice (some ⟨g, 0, none⟩) (acc.length + 1) cap) wt nm (W9.setCell ⟨w.heap.size + 1, 0, none⟩ (.slice (some ⟨g, 0, none⟩) (acc.length + 1) cap)) := by
  have hr := st.room
  have hz := hgr.size
  simp at hz
  have hu : ∀ k, u.ownBlock = some k → w.heap.size + 2 ≤ k := fun k e => (st.own.lt k e).1
  have hk : ∀ i x, W1.heap[i]? = some x → i < w.heap.size + 2 → W9.heap[i]? = some x := fun i x hi hlt =>
    have hl := (Array.getElem?_eq_some_iff.1 hi).1
    (hgr.block i (by simp; omega) (fun e => by have := hu i e.symm; omega)).trans ((Below.heap_alloc W1 o _ hl).trans hi)
  have h1 := hk _ _ st.out (by omega)
  refine ⟨h1, ?_, ?_, ?_, ?_, by simp; omega⟩
  · exact (Below.heap_setCell W9 _ _ _ (by dsimp only; omega)).trans (hk _ _ st.res (by omega))
  · exact (setCell_heap_same h1).trans rfl
  · rw [List.length_append, List.map_append]
    exact ownsRow_setCell_below hown (by dsimp only; omega) _
  · exact ((st.below.alloc (by omega) o).grown hgr (by simp; omega) (fun k e => by have := hu k e; omega)).setCell (by dsimp only; omega) _
theorem cutSuf_yes {l : Bs} (hs : l.length ≤ 1000000) (w : World) : Calls Tryz.prog 18 #[.string (str l), .string ⟨#[41]⟩] w fun e w' => e = .returned (.tuple #[.string (str (Lib.trimSuffix l [41])), .bool (Lib.hasSuffix l [41])]) ∧ w' = w := cutSuf_walk21 (str l) ⟨#[41]⟩ w (by rw [str_size]; omega)
theorem infoInt : (Tryz.prog.info? 3).map (fun i => (i.zero, i.size, i.bytes)) = some (some (.int .i64 0), 1, 8) := by kernel_rfl
theorem trim_len (l : Bs) : (Lib.trimSuffix l [41]).length ≤ l.length := by
  unfold Lib.trimSuffix
  split
  · rw [List.length_take]; omega
  · exact Nat.le_refl _
structure LoopSt (s : Bs) (acc : List Int) (rest : Bs) (more : Bool) : Prop where
  spec : ∃ f, rest.length < f ∧ secLoop (s.length + 1) s (!s.isEmpty) = (acc ++ (secLoop f rest more).1, (secLoop f rest more).2)
  few : acc.length + rest.length ≤ s.length + 1
  le : rest.length ≤ s.length
theorem LoopSt.start (s : Bs) : LoopSt s [] s (!s.isEmpty) := ⟨⟨_, Nat.lt_succ_self _, by simp⟩, by simp, Nat.le_refl _⟩
theorem LoopSt.brk {s : Bs} {acc : List Int} {rest : Bs} (h : LoopSt s acc rest true) (h0 : secNum (Lib.cut rest [46]).1 = 0) : secB s = secEnd acc rest := by
  obtain ⟨f, hf, e⟩ := h.spec
  cases f with
  | zero => omega
  | succ f =>
    rw [secLoop, if_pos h0] at e
    rw [secB, e]
    simp
theorem LoopSt.fin {s : Bs} {acc : List Int} {rest : Bs} (h : LoopSt s acc rest false) : secB s = secFin ⟨acc, [], []⟩ := by
  obtain ⟨f, hf, e⟩ := h.spec
  have e2 : secLoop f rest false = ([], rest, false) := by cases f <;> rfl
  rw [e2] at e
  rw [secB, e]
  simp
theorem LoopSt.next {s : Bs} {acc : List Int} {rest : Bs} (h : LoopSt s acc rest true) (h0 : secNum (Lib.cut rest [46]).1 ≠ 0) : LoopSt s (acc ++ [((secNum (Lib.cut rest [46]).1 : Nat) : Int)]) (Lib.cut rest [46]).2.1 (Lib.cut rest [46]).2.2 := by
  obtain ⟨f, hf, e⟩ := h.spec
  have hl := h.le
  have hs := cut_snd_len rest [46]
  cases f with
  | zero => omega
  | succ f =>
    rw [secLoop, if_neg h0] at e
    cases hm : (Lib.cut rest [46]).2.2 with
    | true =>
      have hlt := cut_less rest hm
      rw [hm] at e
      exact ⟨⟨f, by omega, by rw [e]; simp⟩, by have := h.few; rw [List.length_append, List.length_singleton]; omega, by omega⟩
    | false =>
      rw [hm] at e
      have e3 : (Lib.cut rest [46]).2.1 = [] := by
        unfold Lib.cut at hm ⊢
        split at hm
        · cases hm
        · rename_i h1; rw [if_neg h1]
      rw [e3] at e ⊢
      refine ⟨⟨f + 1, by simp, ?_⟩, ?_, by simp⟩
      · rw [e]; cases f <;> simp [secLoop]
      · have := h.few
        have hr : 0 < rest.length := by
          cases hr : rest with
          | nil => rw [hr] at h0; exact absurd rfl h0
          | cons => simp
        rw [List.length_append, List.length_singleton]; simp only [List.length_nil]; omega
end Go.Proofs.YtgmfhldfdnnafaaGreatDoor
