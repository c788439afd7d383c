/- A part of the proofs of the statements on chapter 21: walks of functions that they reach, and plain laws. What is proved is stated in the last text. Conditions: none of its own. -/
import Derived.Test.YtgmfhldfdnnafaaGreatDoorMs16
set_option maxHeartbeats 8000000
set_option maxRecDepth 100000
set_option linter.unusedSimpArgs false
set_option linter.unusedVariables false
namespace Go.Proofs.YtgmfhldfdnnafaaGreatDoor
open Go.RowKit
open Pl (Bs idxB numOk numN setOk setL)
attribute [local go_sem ↓] Go.wp_at_zero Go.wp_at_succ
theorem key_start {w : World} {B k : Nat} {s : Bs} (h : Scn w B s k) : w.grownBy (((w.setCell ⟨B, 1, none⟩ (.int .i64 ((k : Int) + 1))).alloc (Obj.cells #[scP B] 62)).alloc zeroKey) (some B) ∧ (((w.setCell ⟨B, 1, none⟩ (.int .i64 ((k : Int) + 1))).alloc (Obj.cells #[scP B] 62)).alloc zeroKey).cell? ⟨w.heap.size, 0, none⟩ = some (scP B) ∧ (((w.setCell ⟨B, 1, none⟩ (.int .i64 ((k : Int) + 1))).alloc (Obj.cells #[scP B] 62)).alloc zeroKey).cell? ⟨B, 1, none⟩ = some (.int .i64 ((k : Int) + 1)) := by
 have hlt := h.lt
 obtain ⟨w1, hw1⟩ : ∃ w1, w1 = w.setCell ⟨B, 1, none⟩ (.int .i64 ((k : Int) + 1)) := ⟨_, rfl⟩
 have hz : w1.heap.size = w.heap.size := by rw [hw1]; simp
 have hS1 : w1.heap[B]? = some (Obj.cells #[.string (str s), .int .i64 ((k : Int) + 1)] 64) := by rw [hw1]; exact (setCell_heap_same h.heap).trans rfl
 have hG1 : w.grownBy w1 (some B) := by rw [hw1]; exact grown_put _ _ _ _
 rw [← hw1]
 have hB2 : Below w1.heap.size w1 ((w1.alloc (Obj.cells #[scP B] 62)).alloc zeroKey) := ((Below.refl _ _).alloc (Nat.le_refl _) _).alloc (by simp) _
 have hx1 : ((w1.alloc (Obj.cells #[scP B] 62)).alloc zeroKey).heap[w1.heap.size]? = some (Obj.cells #[scP B] 62) := (Below.heap_alloc _ _ _ (by simp)).trans (World.alloc_heap_new _ _)
 rw [hz] at hx1
 exact ⟨hG1.trans (grown_below hB2 _), (one_cells hx1).1, (two_cells ((hB2.block B (by omega)).trans hS1)).2.1⟩
theorem key_many (B k : Nat) (s : Bs) (hk : 50 < k + 1) (w : World) (h : Scn w B s k) :
  Calls Tryz.prog 106 #[scP B] w (KeyPost w B none) := by
 have hk1 : ¬ ((k : Int) + 1 ≤ 50) := by omega
 have hk2 : ((k : Int) + 1 ≤ 61) := by have := h.few; omega
 have hb : ¬ (B = w.heap.size) := by have := h.lt; omega
 have hb2 : ¬ (B = w.heap.size + 1) := by have := h.lt; omega
 have hlt := h.lt
 obtain ⟨c0, c1, f0, f1⟩ := h.cells
 have HSt := Lib.hid (key_start h)
 have KM : Hid (∀ W, Calls Tryz.prog 27 #[scP B, .bool (decide ((k : Int) + 1 ≤ 50))] W fun e w' => e = .panicked [wrongE] ∧ W = w') := Lib.hid (fun W => by rw [decide_eq_false hk1]; exact must_no B W)
 clear h hk
 go_enter Tryz.func106, Tryz.ntmps106
 go_wp2_with fail
 generalize ((w.setCell ⟨B, 1, none⟩ (.int .i64 ((k : Int) + 1))).alloc (Obj.cells #[scP B] 62)).alloc (Obj.cells #[.string ⟨#[]⟩, .string ⟨#[]⟩, .string ⟨#[]⟩, .int .i64 0, .slice none 0 0, .slice none 0 0] 51) = w2 at HSt ⊢
 clear c0 c1 f0 f1
 have HG2 := Lib.hid HSt.out.1
 obtain ⟨_, d0, d1⟩ := HSt.out
 refine wp_region_any (by kernel_rfl) ?_
 change wpAny _ _ _ _ _ _ _ (World.drew _)
 refine wpAny_ready (rs := [0, 1]) (by kernel_rfl) (by simp) ?_
 refine AllReady.cons rfl (fun K9 hK9 => ?_) ?_
 ·
  go_simp
  refine hK9 _ _ ?_
  clear hK9 K9
  refine wpAny_ready (rs := [1]) (by kernel_rfl) (by simp) ?_
  refine AllReady.cons rfl (fun K9 hK9 => ?_) ?_
  ·
   go_simp
   refine hK9 _ _ ?_
   clear hK9 K9
   refine wpAny_ready (rs := [2]) (by kernel_rfl) (by simp) ?_
   refine AllReady.cons rfl (fun K9 hK9 => ?_) ?_
   ·
    go_simp
    refine hK9 _ _ ?_
    clear hK9 K9
    refine wpAny_ready (rs := [3]) (by kernel_rfl) (by simp) ?_
    refine AllReady.cons rfl (fun K9 hK9 => ?_) ?_
    ·
     go_simp
     refine hK9 _ _ ?_
     clear hK9 K9
     refine wpAny_ready (rs := [4]) (by kernel_rfl) (by simp) ?_
     refine AllReady.cons rfl (fun K9 hK9 => ?_) ?_
     ·
      go_simp
      refine hK9 _ _ ?_
      clear hK9 K9
      refine wpAny_ready (rs := [5]) (by kernel_rfl) (by simp) ?_
      refine AllReady.cons rfl (fun K9 hK9 => ?_) ?_
      ·
       go_simp
       refine hK9 _ _ ?_
       clear hK9 K9
       refine wpAny_ready (rs := [6]) (by kernel_rfl) (by simp) ?_
       refine AllReady.cons rfl (fun K9 hK9 => ?_) ?_
       ·
        go_simp
        refine (KM.out _).mono ?_
        rintro e w' ⟨rfl, hw'⟩
        exact ⟨rfl, .bad (by rw [← hw']; exact HG2.out.trans (grown_dr _ _)) rfl⟩
       exact AllReady.nil
      exact AllReady.nil
     exact AllReady.nil
    exact AllReady.nil
   exact AllReady.nil
  exact AllReady.nil
 refine AllReady.cons rfl (fun K9 hK9 => ?_) ?_
 ·
  go_simp
  refine hK9 _ _ ?_
  clear hK9 K9
  refine wpAny_ready (rs := [0, 2]) (by kernel_rfl) (by simp) ?_
  refine AllReady.cons rfl (fun K9 hK9 => ?_) ?_
  ·
   go_simp
   refine hK9 _ _ ?_
   clear hK9 K9
   refine wpAny_ready (rs := [2]) (by kernel_rfl) (by simp) ?_
   refine AllReady.cons rfl (fun K9 hK9 => ?_) ?_
   ·
    go_simp
    refine hK9 _ _ ?_
    clear hK9 K9
    refine wpAny_ready (rs := [3]) (by kernel_rfl) (by simp) ?_
    refine AllReady.cons rfl (fun K9 hK9 => ?_) ?_
    ·
     go_simp
     refine hK9 _ _ ?_
     clear hK9 K9
     refine wpAny_ready (rs := [4]) (by kernel_rfl) (by simp) ?_
     refine AllReady.cons rfl (fun K9 hK9 => ?_) ?_
     ·
      go_simp
      refine hK9 _ _ ?_
      clear hK9 K9
      refine wpAny_ready (rs := [5]) (by kernel_rfl) (by simp) ?_
      refine AllReady.cons rfl (fun K9 hK9 => ?_) ?_
      ·
       go_simp
       refine hK9 _ _ ?_
       clear hK9 K9
       refine wpAny_ready (rs := [6]) (by kernel_rfl) (by simp) ?_
       refine AllReady.cons rfl (fun K9 hK9 => ?_) ?_
       ·
        go_simp
        refine (KM.out _).mono ?_
        rintro e w' ⟨rfl, hw'⟩
        exact ⟨rfl, .bad (by rw [← hw']; exact HG2.out.trans (grown_dr _ _)) rfl⟩
       exact AllReady.nil
      exact AllReady.nil
     exact AllReady.nil
    exact AllReady.nil
   exact AllReady.nil
  refine AllReady.cons rfl (fun K9 hK9 => ?_) ?_
  ·
   go_simp
   refine hK9 _ _ ?_
   clear hK9 K9
   refine wpAny_ready (rs := [0, 3]) (by kernel_rfl) (by simp) ?_
   refine AllReady.cons rfl (fun K9 hK9 => ?_) ?_
   ·
    go_simp
    refine hK9 _ _ ?_
    clear hK9 K9
    refine wpAny_ready (rs := [3]) (by kernel_rfl) (by simp) ?_
    refine AllReady.cons rfl (fun K9 hK9 => ?_) ?_
    ·
     go_simp
     refine hK9 _ _ ?_
     clear hK9 K9
     refine wpAny_ready (rs := [4]) (by kernel_rfl) (by simp) ?_
     refine AllReady.cons rfl (fun K9 hK9 => ?_) ?_
     ·
      go_simp
      refine hK9 _ _ ?_
      clear hK9 K9
      refine wpAny_ready (rs := [5]) (by kernel_rfl) (by simp) ?_
      refine AllReady.cons rfl (fun K9 hK9 => ?_) ?_
      ·
       go_simp
       refine hK9 _ _ ?_
       clear hK9 K9
       refine wpAny_ready (rs := [6]) (by kernel_rfl) (by simp) ?_
       refine AllReady.cons rfl (fun K9 hK9 => ?_) ?_
       ·
        go_simp
        refine (KM.out _).mono ?_
        rintro e w' ⟨rfl, hw'⟩
        exact ⟨rfl, .bad (by rw [← hw']; exact HG2.out.trans (grown_dr _ _)) rfl⟩
       exact AllReady.nil
      exact AllReady.nil
     exact AllReady.nil
    exact AllReady.nil
   refine AllReady.cons rfl (fun K9 hK9 => ?_) ?_
   ·
    go_simp
    refine hK9 _ _ ?_
    clear hK9 K9
    refine wpAny_ready (rs := [0, 4]) (by kernel_rfl) (by simp) ?_
    refine AllReady.cons rfl (fun K9 hK9 => ?_) ?_
    ·
     go_simp
     refine hK9 _ _ ?_
     clear hK9 K9
     refine wpAny_ready (rs := [4]) (by kernel_rfl) (by simp) ?_
     refine AllReady.cons rfl (fun K9 hK9 => ?_) ?_
     ·
      go_simp
      refine hK9 _ _ ?_
      clear hK9 K9
      refine wpAny_ready (rs := [5]) (by kernel_rfl) (by simp) ?_
      refine AllReady.cons rfl (fun K9 hK9 => ?_) ?_
      ·
       go_simp
       refine hK9 _ _ ?_
       clear hK9 K9
       refine wpAny_ready (rs := [6]) (by kernel_rfl) (by simp) ?_
       refine AllReady.cons rfl (fun K9 hK9 => ?_) ?_
       ·
        go_simp
        refine (KM.out _).mono ?_
        rintro e w' ⟨rfl, hw'⟩
        exact ⟨rfl, .bad (by rw [← hw']; exact HG2.out.trans (grown_dr _ _)) rfl⟩
       exact AllReady.nil
      exact AllReady.nil
     exact AllReady.nil
    refine AllReady.cons rfl (fun K9 hK9 => ?_) ?_
    ·
     go_simp
     refine hK9 _ _ ?_
     clear hK9 K9
     refine wpAny_ready (rs := [0, 5]) (by kernel_rfl) (by simp) ?_
     refine AllReady.cons rfl (fun K9 hK9 => ?_) ?_
     ·
      go_simp
      refine hK9 _ _ ?_
      clear hK9 K9
      refine wpAny_ready (rs := [5]) (by kernel_rfl) (by simp) ?_
      refine AllReady.cons rfl (fun K9 hK9 => ?_) ?_
      ·
       go_simp
       refine hK9 _ _ ?_
       clear hK9 K9
       refine wpAny_ready (rs := [6]) (by kernel_rfl) (by simp) ?_
       refine AllReady.cons rfl (fun K9 hK9 => ?_) ?_
       ·
        go_simp
        refine (KM.out _).mono ?_
        rintro e w' ⟨rfl, hw'⟩
        exact ⟨rfl, .bad (by rw [← hw']; exact HG2.out.trans (grown_dr _ _)) rfl⟩
       exact AllReady.nil
      exact AllReady.nil
     refine AllReady.cons rfl (fun K9 hK9 => ?_) ?_
     ·
      go_simp
      refine hK9 _ _ ?_
      clear hK9 K9
      refine wpAny_ready (rs := [0]) (by kernel_rfl) (by simp) ?_
      refine AllReady.cons rfl (fun K9 hK9 => ?_) ?_
      ·
       go_simp
       refine hK9 _ _ ?_
       clear hK9 K9
       refine wpAny_ready (rs := [6]) (by kernel_rfl) (by simp) ?_
       refine AllReady.cons rfl (fun K9 hK9 => ?_) ?_
       ·
        go_simp
        refine (KM.out _).mono ?_
        rintro e w' ⟨rfl, hw'⟩
        exact ⟨rfl, .bad (by rw [← hw']; exact HG2.out.trans (grown_dr _ _)) rfl⟩
       exact AllReady.nil
      exact AllReady.nil
     exact AllReady.nil
    exact AllReady.nil
   exact AllReady.nil
  exact AllReady.nil
 exact AllReady.nil
theorem key_noword (G : Glob) (B k : Nat) (s : Bs) (hk : k + 1 ≤ 50) (hp : isB [40] s = none) (hw : wordB [37, 42] s = none) (w : World) (hE : EnvI G w B) (h : Scn w B s k) :
  Calls Tryz.prog 106 #[scP B] w (KeyPost w B none) := by
 have HPre := Lib.hid (KyPre.start h (by omega))
 have hk1 : ((k : Int) + 1 ≤ 50) := by omega
 have hb : ¬ (B = w.heap.size) := by have := h.lt; omega
 have hb2 : ¬ (B = w.heap.size + 1) := by have := h.lt; omega
 obtain ⟨c0, c1, f0, f1⟩ := h.cells
 have KP : Hid (∀ W, Calls Tryz.prog 99 #[.string (str s), .string ⟨#[40]⟩] W _) := Lib.hid (fun W => hasPre_no hp W)
 have KW : Hid (∀ W, Scn W B s (k + 1) → Calls Tryz.prog 26 #[scP B, .string ⟨#[37, 42]⟩] W _) := Lib.hid (fun W hW => word_no B [37, 42] s (k + 1) hw W hW)
 have hsm := h.small
 have hlt := h.lt
 have HE := Lib.hid hE
 clear hw hp h hE
 go_enter Tryz.func106, Tryz.ntmps106
 go_wp2_with fail
 generalize ((w.setCell ⟨B, 1, none⟩ (.int .i64 ((k : Int) + 1))).alloc (Obj.cells #[scP B] 62)).alloc (Obj.cells #[.string ⟨#[]⟩, .string ⟨#[]⟩, .string ⟨#[]⟩, .int .i64 0, .slice none 0 0, .slice none 0 0] 51) = w2 at HPre ⊢
 clear c0 c1 f0 f1
 have HPd := Lib.hid HPre.out.draw
 have d0 := (one_cells HPre.out.box).1
 obtain ⟨_, d1, _, _⟩ := HPre.out.sc.cells
 have hcast : ((k + 1 : Nat) : Int) = (k : Int) + 1 := by omega
 rw [hcast] at d1
 clear hcast
 have D0 := Lib.hid (show w2.drew.cell? ⟨w.heap.size, 0, none⟩ = some (scP B) ∧ w2.drew.cell? ⟨B, 1, none⟩ = some (.int .i64 ((k : Int) + 1)) from ⟨d0, d1⟩)
 go_region_held3 (fun W => W.cell? ⟨w.heap.size, 0, none⟩ = some (scP B) ∧ W.cell? ⟨B, 1, none⟩ = some (.int .i64 ((k : Int) + 1)))
  (first | exact D0.out)
  (first
   | (go_at_call 27; refine (must_walk B _).mono ?_; rintro e w' ⟨rfl, rfl⟩))
 generalize w2.drew = w3 at *
 clear d0 d1 D0
 have d0 := (one_cells HPd.out.box).1
 obtain ⟨d1, _, _, _⟩ := HPd.out.sc.cells
 go_wp2_with fail
 refine (KP.out _).mono ?_
 rintro e w4 ⟨rfl, rfl⟩
 go_wp2_with fail
 refine (KW.out _ HPd.out.sc).mono ?_
 rintro e w5 ⟨rfl, hG5⟩
 exact ⟨rfl, .bad (HPd.out.gr.trans hG5) rfl⟩
open Go.RowKit
open Pl (Bs idxB numOk numN setOk setL)
def OneStepK {α : Type} (G : Glob) (B : Nat) (P : Nat → Prop) (f : FuncId) (caps : Array Value) (one : Rd α) (J : List α → World → Prop) (F : World → Prop) : Prop :=
 ∀ (acc : List α) (s : Bs) (k : Nat) (W : World), acc.length ≤ 1000002 → P k → J acc W → EnvI G W B → Scn W B s k → Calls Tryz.prog f caps W fun e W' => match one s k with
  | none => e = .panicked [wrongE] ∧ F W'
  | some p => e = .returned (.tuple #[]) ∧ Scn W' B p.2.1 p.2.2 ∧ J (acc ++ [p.1]) W'
theorem list_walkK {α : Type} (G : Glob) (B : Nat) (P : Nat → Prop) (hP : ∀ a b, P a → a ≤ b → P b) (f : FuncId) (caps : Array Value) (one : Rd α) (J : List α → World → Prop) (F : World → Prop)
  (hfn : ∀ W, (callFunc f caps).run Tryz.prog W = .ok (.enter f caps) W)
  (hone : OneStepK G B P f caps one J F) (hmono : ∀ s k p, one s k = some p → k ≤ p.2.2) (hlen : ∀ s k p, one s k = some p → p.2.1.length ≤ s.length)
  (hJ : ∀ acc W W', J acc W → W.grownBy W' (some B) → J acc W') (hF : ∀ acc W, J acc W → F W) (hE : ∀ acc W, J acc W → EnvI G W B)
  (s : Bs) (k : Nat) (w : World) (h0 : J [] w) (hv : P k) (hS : Scn w B s k) :
  Calls Tryz.prog 72 #[scP B, .func (.func f) #[] caps] w (LstPost B J F (listR one s k)) := by
 have HOne := Lib.hid hone
 have HJ := Lib.hid hJ
 have HF := Lib.hid hF
 have HE := Lib.hid hE
 have H0 := Lib.hid h0
 have HLen := Lib.hid hlen
 have HP := Lib.hid hP
 have HMono := Lib.hid hmono
 have hO : listR one s k = match isB [40] s with
  | none => none
  | some l1 => match one l1 k with
   | none => none
   | some (x, l2, k2) => (loopR one (l2.length + 1) l2 k2).map fun p => (x :: p.1, p.2) := rfl
 generalize listR one s k = o at *
 clear hone hJ hF hE h0 hlen hP hmono
 cases h1 : isB [40] s with
 | none =>
  rw [h1] at hO
  have HO := Lib.hid hO
  have K1 : Hid (Calls Tryz.prog 68 #[scP B, .string ⟨#[40]⟩] w _) := Lib.hid (is_not B s [40] k h1 w hS)
  clear hO h1 hS hv
  go_enter Tryz.func72, Tryz.ntmps72
  go_wp2_with fail
  refine K1.out.mono ?_
  rintro e w1 ⟨rfl, hS1, hG1⟩
  have HF1 := Lib.hid (HF.out _ _ (HJ.out _ _ _ H0.out hG1))
  clear hS1 hG1
  go_wp2_with fail
  refine (must_no B _).mono ?_
  rintro e w' ⟨rfl, rfl⟩
  exact ⟨rfl, .bad HO.out HF1.out⟩
 | some s1 =>
  rw [h1] at hO
  have K1 : Hid (Calls Tryz.prog 68 #[scP B, .string ⟨#[40]⟩] w _) := Lib.hid (is_ok B s [40] s1 k h1 w hS)
  have K2 := Lib.hid (fun W hW hE hS => HOne.out [] s1 k W (Nat.zero_le _) hv hW hE hS)
  cases h2 : one s1 k with
  | none =>
   simp only [h2] at hO K2
   have HO := Lib.hid hO
   clear hO h1 h2 hS hv
   go_enter Tryz.func72, Tryz.ntmps72
   go_wp2_with fail
   refine K1.out.mono ?_
   rintro e w1 ⟨rfl, hS1, hG1⟩
   have HJ1 := Lib.hid (HJ.out _ _ _ H0.out hG1)
   have HS1 := Lib.hid hS1
   clear hS1 hG1
   go_wp2_with fail
   refine (must_walk B _).mono ?_
   rintro e w' ⟨rfl, rfl⟩
   go_wp2_with fail
   refine (K2.out _ HJ1.out (HE.out _ _ HJ1.out) HS1.out).mono ?_
   rintro e w2 ⟨rfl, hF2⟩
   exact ⟨rfl, .bad HO.out hF2⟩
  | some p =>
   obtain ⟨x, s2, k2⟩ := p
   simp only [h2] at hO K2
   have HV : Hid (P k2) := Lib.hid (HP.out _ _ hv (HMono.out _ _ _ h2))
   have HQ : Hid (LstSt one o [x] s2 k2 (s2.length + 1)) := Lib.hid ⟨Nat.lt_succ_self _, by have := HLen.out _ _ _ h2; have e1 := isB_len h1; have := hS.small; simp only [List.length_singleton] at *; omega, hO⟩
   clear hO h1 h2 hS hv
   go_enter Tryz.func72, Tryz.ntmps72
   go_wp2_with fail
   refine K1.out.mono ?_
   rintro e w1 ⟨rfl, hS1, hG1⟩
   have HJ1 := Lib.hid (HJ.out _ _ _ H0.out hG1)
   have HS1 := Lib.hid hS1
   clear hS1 hG1
   go_wp2_with fail
   refine (must_walk B _).mono ?_
   rintro e w' ⟨rfl, rfl⟩
   go_wp2_with fail
   refine (K2.out _ HJ1.out (HE.out _ _ HJ1.out) HS1.out).mono ?_
   rintro e w2 ⟨rfl, hS2, hJ2⟩
   have HS2 := Lib.hid hS2
   have HJ2 := Lib.hid hJ2
   clear hS2 hJ2 K1 K2 HS1 HJ1 H0
   generalize s2.length + 1 = m at HQ
   go_wp2
   go_loopw [] (fun wr => ∃ (acc : List α) (s : Bs) (k m : Nat), Hid (P k) ∧ Hid (LstSt one o acc s k m) ∧ Hid (Scn wr B s k) ∧ Hid (J acc wr)) (fun wr => leftLen B wr)
   case atStart => exact ⟨[x], s2, k2, m, HV, HQ, HS2, HJ2⟩
   case round =>
    obtain ⟨acc, s3, k3, m3, HV3, HQ3, HS3, HJ3⟩ := hrel
    have hL0 := left_len HS3.out
    have HL0 := Lib.hid hL0
    clear hL0
    cases h3 : isB [41] s3 with
    | some r =>
     have K3 : Hid (∀ W, Scn W B s3 k3 → Calls Tryz.prog 68 #[scP B, .string ⟨#[41]⟩] W _) := Lib.hid (fun W hW => is_ok B s3 [41] r k3 h3 W hW)
     have HO := Lib.hid (HQ3.out.fin h3)
     clear h3
     go_wp2_with fail
     refine (K3.out _ HS3.out).mono ?_
     rintro e w4 ⟨rfl, hS4, hG4⟩
     have HS4 := Lib.hid hS4
     have HJ4 := Lib.hid (HJ.out _ _ _ HJ3.out hG4)
     clear hS4 hG4
     go_wp2
     go_end0
     exact .fin HO.out HS4.out HJ4.out
    | none =>
     have K3 : Hid (∀ W, Scn W B s3 k3 → Calls Tryz.prog 68 #[scP B, .string ⟨#[41]⟩] W _) := Lib.hid (fun W hW => is_not B s3 [41] k3 h3 W hW)
     cases h4 : isB [32] s3 with
     | none =>
      have K4 := Lib.hid (fun W hW => blank_no B s3 k3 h4 W hW)
      have HO := Lib.hid (HQ3.out.bad h3 h4)
      clear h3 h4
      go_wp2_with fail
      refine (K3.out _ HS3.out).mono ?_
      rintro e w4 ⟨rfl, hS4, hG4⟩
      have HS4 := Lib.hid hS4
      have HJ4 := Lib.hid (HJ.out _ _ _ HJ3.out hG4)
      clear hS4 hG4
      go_wp2_with fail
      refine (K4.out _ HS4.out).mono ?_
      rintro e w5 ⟨rfl, hG5⟩
      exact ⟨rfl, .bad HO.out (HF.out _ _ (HJ.out _ _ _ HJ4.out hG5))⟩
     | some s4 =>
      have K4 := Lib.hid (fun W hW => blank_ok B s3 s4 k3 h4 W hW)
      have K5 := Lib.hid (fun W hW hE hS => HOne.out acc s4 k3 W (by have := HQ3.out.cnt; omega) HV3.out hW hE hS)
      cases h5 : one s4 k3 with
      | none =>
       have HO := Lib.hid (HQ3.out.bad2 h3 h4 h5)
       simp only [h5] at K5
       clear h3 h4 h5
       go_wp2_with fail
       refine (K3.out _ HS3.out).mono ?_
       rintro e w4 ⟨rfl, hS4, hG4⟩
       have HS4 := Lib.hid hS4
       have HJ4 := Lib.hid (HJ.out _ _ _ HJ3.out hG4)
       clear hS4 hG4
       go_wp2_with fail
       refine (K4.out _ HS4.out).mono ?_
       rintro e w5 ⟨rfl, hS5, hG5⟩
       have HS5 := Lib.hid hS5
       have HJ5 := Lib.hid (HJ.out _ _ _ HJ4.out hG5)
       clear hS5 hG5
       go_wp2_with fail
       refine (K5.out _ HJ5.out (HE.out _ _ HJ5.out) HS5.out).mono ?_
       rintro e w6 ⟨rfl, hF6⟩
       exact ⟨rfl, .bad HO.out hF6⟩
      | some p =>
       obtain ⟨y, s5, k5⟩ := p
       have hls := HLen.out _ _ _ h5
       obtain ⟨m5, hm5, hQ5⟩ := HQ3.out.next h3 h4 h5 hls
       have HQ5 := Lib.hid hQ5
       have HV5 : Hid (P k5) := Lib.hid (HP.out _ _ HV3.out (HMono.out _ _ _ h5))
       have HLt := Lib.hid (show s5.length < s3.length by have := isB_len h4; simp only [List.length_singleton] at this; simp only at hls; omega)
       simp only [h5] at K5
       clear h3 h4 h5 hls hm5 hQ5
       go_wp2_with fail
       refine (K3.out _ HS3.out).mono ?_
       rintro e w4 ⟨rfl, hS4, hG4⟩
       have HS4 := Lib.hid hS4
       have HJ4 := Lib.hid (HJ.out _ _ _ HJ3.out hG4)
       clear hS4 hG4
       go_wp2_with fail
       refine (K4.out _ HS4.out).mono ?_
       rintro e w5 ⟨rfl, hS5, hG5⟩
       have HS5 := Lib.hid hS5
       have HJ5 := Lib.hid (HJ.out _ _ _ HJ4.out hG5)
       clear hS5 hG5
       go_wp2_with fail
       refine (K5.out _ HJ5.out (HE.out _ _ HJ5.out) HS5.out).mono ?_
       rintro e w6 ⟨rfl, hS6, hJ6⟩
       have HS6 := Lib.hid hS6
       have HJ6 := Lib.hid hJ6
       clear hS6 hJ6
       go_wp2
       go_roundw
       case rel => exact ⟨_, _, _, _, HV5, HQ5, HS6, HJ6⟩
       case measure => rw [HL0.out, left_len HS6.out]; exact HLt.out
end Go.Proofs.YtgmfhldfdnnafaaGreatDoor
