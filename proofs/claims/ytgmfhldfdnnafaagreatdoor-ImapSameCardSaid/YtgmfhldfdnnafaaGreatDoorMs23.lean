/- A part of the proofs of the statements on chapter 21: walks of functions that they reach, and plain laws. What is proved is stated in the last text. Conditions: none of its own. -/
import Derived.Test.YtgmfhldfdnnafaaGreatDoorMs22
set_option maxHeartbeats 8000000
set_option maxRecDepth 100000
set_option linter.unusedSimpArgs false
set_option linter.unusedVariables false
namespace Go.Proofs.YtgmfhldfdnnafaaGreatDoor
open Go.RowKit
open Pl (Bs idxB numOk numN setOk setL)
attribute [local go_sem ↓] Go.wp_at_zero Go.wp_at_succ
def klCells (u : Value) : Array Value := #[.string ⟨#[40]⟩, .string ⟨#[]⟩, .string ⟨#[]⟩, .int .i64 0, .slice none 0 0, u]
def KlJ (wh : World) (B h : Nat) (acc : List KeyP) (W : World) : Prop := R2 B h wh W ∧ ∃ u cs T, AkSt wh.heap.size h 5 u acc.length acc cs T (klCells u) 51 W
theorem r2_grown {w wh W : World} {B h : Nat} (h1 : w.grownBy wh (some B)) (h2 : R2 B h wh W) (hh : w.heap.size ≤ h) : w.grownBy W (some B) :=
 ⟨h2.os.trans h1.os, h2.tape.trans h1.tape, h2.output.trans h1.output, Nat.le_trans h1.size h2.size, fun i hi hne => (h2.block i (Nat.lt_of_lt_of_le hi h1.size) (fun e => hne (by rw [e])) (by omega)).trans (h1.block i hi hne)⟩
theorem KlJ.fin {wh : World} {B h z g cap k : Nat} {s : Bs} {A3 : Option Addr} {c3 : Nat} {acc : List KeyP} {cs : List Value} {T T1 : Nat → Prop} {vs vk : Value} {kcs : List Value} {x : KeyP} {W W9 W' : World} (m : AkMid wh.heap.size h 5 (.slice A3 acc.length c3) acc.length acc cs T (klCells (.slice A3 acc.length c3)) 51 z T1 vs vk kcs x W) (hR : R2 B h wh W) (hS : Scn W B s k) (hB : B < wh.heap.size) (hBD : B ≠ h)
  (hown : W9.ownsRow wh.heap.size 51 6 (.slice (some ⟨g, 0, none⟩) (acc.length + 1) cap) (acc.length + 1) (cs ++ zeroKeyL)) (hgr : W.grownBy W9 (Value.slice A3 acc.length c3).ownBlock) (hat : (Value.slice A3 acc.length c3).ownBlock = some g ∨ g = W.heap.size)
  (hW : W' = (put6 W9 g (acc.length * 6) (.string (str x.name)) (.string (str x.text)) (.string (str x.field)) (.int .i64 x.n) vs vk).setCell ⟨h, 5, none⟩ (.slice (some ⟨g, 0, none⟩) (acc.length + 1) cap) ∨ W' = put6 (W9.setCell ⟨h, 5, none⟩ (.slice (some ⟨g, 0, none⟩) (acc.length + 1) cap)) g (acc.length * 6) (.string (str x.name)) (.string (str x.text)) (.string (str x.field)) (.int .i64 x.n) vs vk) :
  Scn W' B s k ∧ KlJ wh B h (acc ++ [x]) W' := by
 have hd := AkMid.done m hR hS hB hBD hown hgr hat (show 5 < (klCells (.slice A3 acc.length c3)).size from by simp [klCells]) hW
 refine ⟨hd.2.1, hd.1, .slice (some ⟨g, 0, none⟩) (acc.length + 1) cap, cs ++ keyC vs vk x, fun j => T j ∨ T1 j, ?_⟩
 rw [List.length_append, List.length_singleton]
 exact hd.2.2
theorem keyOne_no (G : Glob) (w wh : World) (B h br : Nat) (K : Nat → Prop) (sub : Rd KeyP) (hsub : KeyCon G B K sub) (hE : EnvI G w B) (hgr : w.grownBy wh (some B)) (hhs : w.heap.size ≤ h) (hhl : h < wh.heap.size) (hBlt : B < w.heap.size) (hbr : wh.heap[br]? = some (Obj.cells #[scP B] 62)) (hbB : br ≠ B) (hbh : br ≠ h) :
  ∀ (acc : List KeyP) (s : Bs) (k : Nat) (w1 : World), sub s k = none → acc.length ≤ 1000002 → K k → KlJ wh B h acc w1 → EnvI G w1 B → Scn w1 B s k → Calls Tryz.prog 133 #[.pointer (some ⟨h, 0, none⟩), .pointer (some ⟨br, 0, none⟩)] w1 fun e W' => e = .panicked [wrongE] ∧ w.grownBy W' (some B) := by
 intro acc s k w1 hsx hacc hk hJ hE1 hS
 obtain ⟨i0, hi, hz0, hz1, hz2⟩ := info_parts infoKey2
 obtain ⟨hR2, u, cells3, T, hAk⟩ := hJ
 have hBlt : B < wh.heap.size := by omega
 have hne : B ≠ h := by omega
 have hbl := (Array.getElem?_eq_some_iff.1 hbr).1
 have hx1 : w1.heap[br]? = some (Obj.cells #[scP B] 62) := (hR2.block br hbl hbB hbh).trans hbr
 have HGr := Lib.hid hgr
 have hvK : K k ∨ (sub s k).isSome = true := .inl hk
 obtain ⟨A3, c3, hu3, _⟩ := rowC_own hAk.own
 subst hu3
 have HA := Lib.hid hAk
 have HAd := Lib.hid (hAk.step (W1 := w1.drew) (grown_dr2 _ (some B)) hBlt hne)
 have HAz := Lib.hid (fun o => (HA.out.below ((Below.refl w1.heap.size w1).alloc (Nat.le_refl _) o)))
 have KA := Lib.hid (hsub s k w1.drew hvK (hE1.kept (grown_dr2 _ _)) (hS.draws 1))
 have KB := Lib.hid (hsub s k (w1.alloc (Obj.cells zeroKeyL.toArray 51)).drew hvK (hE1.kept ((grown_below ((Below.refl _ _).alloc (Nat.le_refl _) _) _).trans (grown_dr2 _ _))) ((hS.then ((Below.refl _ _).alloc (Nat.le_refl _) _)).draws 1))
 rw [hsx] at KA KB
 have HR2 := Lib.hid hR2
 obtain ⟨l0, l1⟩ := HAd.out.cell
 have l2 := (fun o => (HAz.out o).cell.1)
 have l3 := (fun o => (HAz.out o).cell.2)
 have d0 : w1.cell? ⟨br, 0, none⟩ = some (scP B) := (one_cells hx1).1
 have d2 : ∀ o, (w1.alloc o).cell? ⟨br, 0, none⟩ = some (scP B) := fun o => (one_cells ((Below.heap_alloc w1 o _ (Array.getElem?_eq_some_iff.1 hx1).1).trans hx1)).1
 have hix : ((acc.length : Nat) : Int) < (acc.length : Int) + 1 := by omega
 clear hsx hx1 hAk hR2 hS hE1 hE hsub hvK hbr hgr
 go_enter Tryz.func133, Tryz.ntmps133
 go_wp2_with fail
 refine wp_region_any (by kernel_rfl) ?_
 change wpAny _ _ _ _ _ _ _ (World.drew _)
 refine wpAny_ready (rs := [0, 2, 5]) (by kernel_rfl) (by simp) ?_
 refine AllReady.cons rfl (fun K9 hK9 => ?_) ?_
 ·
  go_simp
  refine hK9 _ _ ?_
  clear hK9 K9
  refine wpAny_ready (rs := [1, 2, 5]) (by kernel_rfl) (by simp) ?_
  refine AllReady.cons rfl (fun K9 hK9 => ?_) ?_
  ·
   go_simp
   refine hK9 _ _ ?_
   clear hK9 K9
   refine wpAny_ready (rs := [2, 4, 5]) (by kernel_rfl) (by simp) ?_
   refine AllReady.cons rfl (fun K9 hK9 => ?_) ?_
   ·
    go_simp
    refine hK9 _ _ ?_
    clear hK9 K9
    refine wpAny_ready (rs := [3, 4, 5]) (by kernel_rfl) (by simp) ?_
    refine AllReady.cons rfl (fun K9 hK9 => ?_) ?_
    ·
     go_simp
     first
     | (refine KA.out.mono ?_; rintro e w5 ⟨hG5, rfl⟩; exact ⟨rfl, rfl, r2_grown HGr.out ((HR2.out.trans (R2.of (grown_dr2 _ _))).trans (R2.of hG5)) hhs⟩)
     | (refine KB.out.mono ?_; rintro e w5 ⟨hG5, rfl⟩; exact ⟨rfl, rfl, r2_grown HGr.out ((HR2.out.trans (R2.of (grown_below ((Below.refl _ _).alloc (Nat.le_refl _) _) _))).trans (R2.of ((grown_dr2 _ _).trans hG5))) hhs⟩)
    refine AllReady.cons rfl (fun K9 hK9 => ?_) ?_
    ·
     go_simp
     refine hK9 _ _ ?_
     clear hK9 K9
     refine wpAny_ready (rs := [3, 5]) (by kernel_rfl) (by simp) ?_
     refine AllReady.cons rfl (fun K9 hK9 => ?_) ?_
     ·
      go_simp
      first
      | (refine KA.out.mono ?_; rintro e w5 ⟨hG5, rfl⟩; exact ⟨rfl, rfl, r2_grown HGr.out ((HR2.out.trans (R2.of (grown_dr2 _ _))).trans (R2.of hG5)) hhs⟩)
      | (refine KB.out.mono ?_; rintro e w5 ⟨hG5, rfl⟩; exact ⟨rfl, rfl, r2_grown HGr.out ((HR2.out.trans (R2.of (grown_below ((Below.refl _ _).alloc (Nat.le_refl _) _) _))).trans (R2.of ((grown_dr2 _ _).trans hG5))) hhs⟩)
     refine AllReady.cons rfl (fun K9 hK9 => ?_) ?_
     ·
      go_simp
      refine hK9 _ _ ?_
      clear hK9 K9
      refine wpAny_ready (rs := [3]) (by kernel_rfl) (by simp) ?_
      refine AllReady.cons rfl (fun K9 hK9 => ?_) ?_
      ·
       go_simp
       first
       | (refine KA.out.mono ?_; rintro e w5 ⟨hG5, rfl⟩; exact ⟨rfl, rfl, r2_grown HGr.out ((HR2.out.trans (R2.of (grown_dr2 _ _))).trans (R2.of hG5)) hhs⟩)
       | (refine KB.out.mono ?_; rintro e w5 ⟨hG5, rfl⟩; exact ⟨rfl, rfl, r2_grown HGr.out ((HR2.out.trans (R2.of (grown_below ((Below.refl _ _).alloc (Nat.le_refl _) _) _))).trans (R2.of ((grown_dr2 _ _).trans hG5))) hhs⟩)
      exact AllReady.nil
     exact AllReady.nil
    refine AllReady.cons rfl (fun K9 hK9 => ?_) ?_
    ·
     go_simp
     refine hK9 _ _ ?_
     clear hK9 K9
     refine wpAny_ready (rs := [3, 4]) (by kernel_rfl) (by simp) ?_
     refine AllReady.cons rfl (fun K9 hK9 => ?_) ?_
     ·
      go_simp
      first
      | (refine KA.out.mono ?_; rintro e w5 ⟨hG5, rfl⟩; exact ⟨rfl, rfl, r2_grown HGr.out ((HR2.out.trans (R2.of (grown_dr2 _ _))).trans (R2.of hG5)) hhs⟩)
      | (refine KB.out.mono ?_; rintro e w5 ⟨hG5, rfl⟩; exact ⟨rfl, rfl, r2_grown HGr.out ((HR2.out.trans (R2.of (grown_below ((Below.refl _ _).alloc (Nat.le_refl _) _) _))).trans (R2.of ((grown_dr2 _ _).trans hG5))) hhs⟩)
     refine AllReady.cons rfl (fun K9 hK9 => ?_) ?_
     ·
      go_simp
      refine hK9 _ _ ?_
      clear hK9 K9
      refine wpAny_ready (rs := [3]) (by kernel_rfl) (by simp) ?_
      refine AllReady.cons rfl (fun K9 hK9 => ?_) ?_
      ·
       go_simp
       first
       | (refine KA.out.mono ?_; rintro e w5 ⟨hG5, rfl⟩; exact ⟨rfl, rfl, r2_grown HGr.out ((HR2.out.trans (R2.of (grown_dr2 _ _))).trans (R2.of hG5)) hhs⟩)
       | (refine KB.out.mono ?_; rintro e w5 ⟨hG5, rfl⟩; exact ⟨rfl, rfl, r2_grown HGr.out ((HR2.out.trans (R2.of (grown_below ((Below.refl _ _).alloc (Nat.le_refl _) _) _))).trans (R2.of ((grown_dr2 _ _).trans hG5))) hhs⟩)
      exact AllReady.nil
     exact AllReady.nil
    exact AllReady.nil
   refine AllReady.cons rfl (fun K9 hK9 => ?_) ?_
   ·
    go_simp
    refine hK9 _ _ ?_
    clear hK9 K9
    refine wpAny_ready (rs := [2, 5]) (by kernel_rfl) (by simp) ?_
    refine AllReady.cons rfl (fun K9 hK9 => ?_) ?_
    ·
     go_simp
     refine hK9 _ _ ?_
     clear hK9 K9
     refine wpAny_ready (rs := [3, 5]) (by kernel_rfl) (by simp) ?_
     refine AllReady.cons rfl (fun K9 hK9 => ?_) ?_
     ·
      go_simp
      first
      | (refine KA.out.mono ?_; rintro e w5 ⟨hG5, rfl⟩; exact ⟨rfl, rfl, r2_grown HGr.out ((HR2.out.trans (R2.of (grown_dr2 _ _))).trans (R2.of hG5)) hhs⟩)
      | (refine KB.out.mono ?_; rintro e w5 ⟨hG5, rfl⟩; exact ⟨rfl, rfl, r2_grown HGr.out ((HR2.out.trans (R2.of (grown_below ((Below.refl _ _).alloc (Nat.le_refl _) _) _))).trans (R2.of ((grown_dr2 _ _).trans hG5))) hhs⟩)
     refine AllReady.cons rfl (fun K9 hK9 => ?_) ?_
     ·
      go_simp
      refine hK9 _ _ ?_
      clear hK9 K9
      refine wpAny_ready (rs := [3]) (by kernel_rfl) (by simp) ?_
      refine AllReady.cons rfl (fun K9 hK9 => ?_) ?_
      ·
       go_simp
       first
       | (refine KA.out.mono ?_; rintro e w5 ⟨hG5, rfl⟩; exact ⟨rfl, rfl, r2_grown HGr.out ((HR2.out.trans (R2.of (grown_dr2 _ _))).trans (R2.of hG5)) hhs⟩)
       | (refine KB.out.mono ?_; rintro e w5 ⟨hG5, rfl⟩; exact ⟨rfl, rfl, r2_grown HGr.out ((HR2.out.trans (R2.of (grown_below ((Below.refl _ _).alloc (Nat.le_refl _) _) _))).trans (R2.of ((grown_dr2 _ _).trans hG5))) hhs⟩)
      exact AllReady.nil
     exact AllReady.nil
    refine AllReady.cons rfl (fun K9 hK9 => ?_) ?_
    ·
     go_simp
     refine hK9 _ _ ?_
     clear hK9 K9
     refine wpAny_ready (rs := [2]) (by kernel_rfl) (by simp) ?_
     refine AllReady.cons rfl (fun K9 hK9 => ?_) ?_
     ·
      go_simp
      refine hK9 _ _ ?_
      clear hK9 K9
      refine wpAny_ready (rs := [3]) (by kernel_rfl) (by simp) ?_
      refine AllReady.cons rfl (fun K9 hK9 => ?_) ?_
      ·
       go_simp
       first
       | (refine KA.out.mono ?_; rintro e w5 ⟨hG5, rfl⟩; exact ⟨rfl, rfl, r2_grown HGr.out ((HR2.out.trans (R2.of (grown_dr2 _ _))).trans (R2.of hG5)) hhs⟩)
       | (refine KB.out.mono ?_; rintro e w5 ⟨hG5, rfl⟩; exact ⟨rfl, rfl, r2_grown HGr.out ((HR2.out.trans (R2.of (grown_below ((Below.refl _ _).alloc (Nat.le_refl _) _) _))).trans (R2.of ((grown_dr2 _ _).trans hG5))) hhs⟩)
      exact AllReady.nil
     exact AllReady.nil
    exact AllReady.nil
   refine AllReady.cons rfl (fun K9 hK9 => ?_) ?_
   ·
    go_simp
    refine hK9 _ _ ?_
    clear hK9 K9
    refine wpAny_ready (rs := [2, 4]) (by kernel_rfl) (by simp) ?_
    refine AllReady.cons rfl (fun K9 hK9 => ?_) ?_
    ·
     go_simp
     refine hK9 _ _ ?_
     clear hK9 K9
     refine wpAny_ready (rs := [3, 4]) (by kernel_rfl) (by simp) ?_
     refine AllReady.cons rfl (fun K9 hK9 => ?_) ?_
     ·
      go_simp
      first
      | (refine KA.out.mono ?_; rintro e w5 ⟨hG5, rfl⟩; exact ⟨rfl, rfl, r2_grown HGr.out ((HR2.out.trans (R2.of (grown_dr2 _ _))).trans (R2.of hG5)) hhs⟩)
      | (refine KB.out.mono ?_; rintro e w5 ⟨hG5, rfl⟩; exact ⟨rfl, rfl, r2_grown HGr.out ((HR2.out.trans (R2.of (grown_below ((Below.refl _ _).alloc (Nat.le_refl _) _) _))).trans (R2.of ((grown_dr2 _ _).trans hG5))) hhs⟩)
     refine AllReady.cons rfl (fun K9 hK9 => ?_) ?_
     ·
      go_simp
      refine hK9 _ _ ?_
      clear hK9 K9
      refine wpAny_ready (rs := [3]) (by kernel_rfl) (by simp) ?_
      refine AllReady.cons rfl (fun K9 hK9 => ?_) ?_
      ·
       go_simp
       first
       | (refine KA.out.mono ?_; rintro e w5 ⟨hG5, rfl⟩; exact ⟨rfl, rfl, r2_grown HGr.out ((HR2.out.trans (R2.of (grown_dr2 _ _))).trans (R2.of hG5)) hhs⟩)
       | (refine KB.out.mono ?_; rintro e w5 ⟨hG5, rfl⟩; exact ⟨rfl, rfl, r2_grown HGr.out ((HR2.out.trans (R2.of (grown_below ((Below.refl _ _).alloc (Nat.le_refl _) _) _))).trans (R2.of ((grown_dr2 _ _).trans hG5))) hhs⟩)
      exact AllReady.nil
     exact AllReady.nil
    refine AllReady.cons rfl (fun K9 hK9 => ?_) ?_
    ·
     go_simp
     refine hK9 _ _ ?_
     clear hK9 K9
     refine wpAny_ready (rs := [2]) (by kernel_rfl) (by simp) ?_
     refine AllReady.cons rfl (fun K9 hK9 => ?_) ?_
     ·
      go_simp
      refine hK9 _ _ ?_
      clear hK9 K9
      refine wpAny_ready (rs := [3]) (by kernel_rfl) (by simp) ?_
      refine AllReady.cons rfl (fun K9 hK9 => ?_) ?_
      ·
       go_simp
       first
       | (refine KA.out.mono ?_; rintro e w5 ⟨hG5, rfl⟩; exact ⟨rfl, rfl, r2_grown HGr.out ((HR2.out.trans (R2.of (grown_dr2 _ _))).trans (R2.of hG5)) hhs⟩)
       | (refine KB.out.mono ?_; rintro e w5 ⟨hG5, rfl⟩; exact ⟨rfl, rfl, r2_grown HGr.out ((HR2.out.trans (R2.of (grown_below ((Below.refl _ _).alloc (Nat.le_refl _) _) _))).trans (R2.of ((grown_dr2 _ _).trans hG5))) hhs⟩)
      exact AllReady.nil
     exact AllReady.nil
    exact AllReady.nil
   exact AllReady.nil
  refine AllReady.cons rfl (fun K9 hK9 => ?_) ?_
  ·
   go_simp
   refine hK9 _ _ ?_
   clear hK9 K9
   refine wpAny_ready (rs := [1, 3, 5]) (by kernel_rfl) (by simp) ?_
   refine AllReady.cons rfl (fun K9 hK9 => ?_) ?_
   ·
    go_simp
    refine hK9 _ _ ?_
    clear hK9 K9
    refine wpAny_ready (rs := [3, 4, 5]) (by kernel_rfl) (by simp) ?_
    refine AllReady.cons rfl (fun K9 hK9 => ?_) ?_
    ·
     go_simp
     first
     | (refine KA.out.mono ?_; rintro e w5 ⟨hG5, rfl⟩; exact ⟨rfl, rfl, r2_grown HGr.out ((HR2.out.trans (R2.of (grown_dr2 _ _))).trans (R2.of hG5)) hhs⟩)
     | (refine KB.out.mono ?_; rintro e w5 ⟨hG5, rfl⟩; exact ⟨rfl, rfl, r2_grown HGr.out ((HR2.out.trans (R2.of (grown_below ((Below.refl _ _).alloc (Nat.le_refl _) _) _))).trans (R2.of ((grown_dr2 _ _).trans hG5))) hhs⟩)
    refine AllReady.cons rfl (fun K9 hK9 => ?_) ?_
    ·
     go_simp
     refine hK9 _ _ ?_
     clear hK9 K9
     refine wpAny_ready (rs := [3, 5]) (by kernel_rfl) (by simp) ?_
     refine AllReady.cons rfl (fun K9 hK9 => ?_) ?_
     ·
      go_simp
      first
      | (refine KA.out.mono ?_; rintro e w5 ⟨hG5, rfl⟩; exact ⟨rfl, rfl, r2_grown HGr.out ((HR2.out.trans (R2.of (grown_dr2 _ _))).trans (R2.of hG5)) hhs⟩)
      | (refine KB.out.mono ?_; rintro e w5 ⟨hG5, rfl⟩; exact ⟨rfl, rfl, r2_grown HGr.out ((HR2.out.trans (R2.of (grown_below ((Below.refl _ _).alloc (Nat.le_refl _) _) _))).trans (R2.of ((grown_dr2 _ _).trans hG5))) hhs⟩)
     refine AllReady.cons rfl (fun K9 hK9 => ?_) ?_
     ·
      go_simp
      refine hK9 _ _ ?_
      clear hK9 K9
      refine wpAny_ready (rs := [3]) (by kernel_rfl) (by simp) ?_
      refine AllReady.cons rfl (fun K9 hK9 => ?_) ?_
      ·
       go_simp
       first
       | (refine KA.out.mono ?_; rintro e w5 ⟨hG5, rfl⟩; exact ⟨rfl, rfl, r2_grown HGr.out ((HR2.out.trans (R2.of (grown_dr2 _ _))).trans (R2.of hG5)) hhs⟩)
       | (refine KB.out.mono ?_; rintro e w5 ⟨hG5, rfl⟩; exact ⟨rfl, rfl, r2_grown HGr.out ((HR2.out.trans (R2.of (grown_below ((Below.refl _ _).alloc (Nat.le_refl _) _) _))).trans (R2.of ((grown_dr2 _ _).trans hG5))) hhs⟩)
      exact AllReady.nil
     exact AllReady.nil
    refine AllReady.cons rfl (fun K9 hK9 => ?_) ?_
    ·
     go_simp
     refine hK9 _ _ ?_
     clear hK9 K9
     refine wpAny_ready (rs := [3, 4]) (by kernel_rfl) (by simp) ?_
     refine AllReady.cons rfl (fun K9 hK9 => ?_) ?_
     ·
      go_simp
      first
      | (refine KA.out.mono ?_; rintro e w5 ⟨hG5, rfl⟩; exact ⟨rfl, rfl, r2_grown HGr.out ((HR2.out.trans (R2.of (grown_dr2 _ _))).trans (R2.of hG5)) hhs⟩)
      | (refine KB.out.mono ?_; rintro e w5 ⟨hG5, rfl⟩; exact ⟨rfl, rfl, r2_grown HGr.out ((HR2.out.trans (R2.of (grown_below ((Below.refl _ _).alloc (Nat.le_refl _) _) _))).trans (R2.of ((grown_dr2 _ _).trans hG5))) hhs⟩)
     refine AllReady.cons rfl (fun K9 hK9 => ?_) ?_
     ·
      go_simp
      refine hK9 _ _ ?_
      clear hK9 K9
      refine wpAny_ready (rs := [3]) (by kernel_rfl) (by simp) ?_
      refine AllReady.cons rfl (fun K9 hK9 => ?_) ?_
      ·
       go_simp
       first
       | (refine KA.out.mono ?_; rintro e w5 ⟨hG5, rfl⟩; exact ⟨rfl, rfl, r2_grown HGr.out ((HR2.out.trans (R2.of (grown_dr2 _ _))).trans (R2.of hG5)) hhs⟩)
       | (refine KB.out.mono ?_; rintro e w5 ⟨hG5, rfl⟩; exact ⟨rfl, rfl, r2_grown HGr.out ((HR2.out.trans (R2.of (grown_below ((Below.refl _ _).alloc (Nat.le_refl _) _) _))).trans (R2.of ((grown_dr2 _ _).trans hG5))) hhs⟩)
      exact AllReady.nil
     exact AllReady.nil
    exact AllReady.nil
   refine AllReady.cons rfl (fun K9 hK9 => ?_) ?_
   ·
    go_simp
    first
    | (refine KA.out.mono ?_; rintro e w5 ⟨hG5, rfl⟩; exact ⟨rfl, rfl, r2_grown HGr.out ((HR2.out.trans (R2.of (grown_dr2 _ _))).trans (R2.of hG5)) hhs⟩)
    | (refine KB.out.mono ?_; rintro e w5 ⟨hG5, rfl⟩; exact ⟨rfl, rfl, r2_grown HGr.out ((HR2.out.trans (R2.of (grown_below ((Below.refl _ _).alloc (Nat.le_refl _) _) _))).trans (R2.of ((grown_dr2 _ _).trans hG5))) hhs⟩)
   refine AllReady.cons rfl (fun K9 hK9 => ?_) ?_
   ·
    go_simp
    refine hK9 _ _ ?_
    clear hK9 K9
    refine wpAny_ready (rs := [1, 3]) (by kernel_rfl) (by simp) ?_
    refine AllReady.cons rfl (fun K9 hK9 => ?_) ?_
    ·
     go_simp
     refine hK9 _ _ ?_
     clear hK9 K9
     refine wpAny_ready (rs := [3, 4]) (by kernel_rfl) (by simp) ?_
     refine AllReady.cons rfl (fun K9 hK9 => ?_) ?_
     ·
      go_simp
      first
      | (refine KA.out.mono ?_; rintro e w5 ⟨hG5, rfl⟩; exact ⟨rfl, rfl, r2_grown HGr.out ((HR2.out.trans (R2.of (grown_dr2 _ _))).trans (R2.of hG5)) hhs⟩)
      | (refine KB.out.mono ?_; rintro e w5 ⟨hG5, rfl⟩; exact ⟨rfl, rfl, r2_grown HGr.out ((HR2.out.trans (R2.of (grown_below ((Below.refl _ _).alloc (Nat.le_refl _) _) _))).trans (R2.of ((grown_dr2 _ _).trans hG5))) hhs⟩)
     refine AllReady.cons rfl (fun K9 hK9 => ?_) ?_
     ·
      go_simp
      refine hK9 _ _ ?_
      clear hK9 K9
      refine wpAny_ready (rs := [3]) (by kernel_rfl) (by simp) ?_
      refine AllReady.cons rfl (fun K9 hK9 => ?_) ?_
      ·
       go_simp
       first
       | (refine KA.out.mono ?_; rintro e w5 ⟨hG5, rfl⟩; exact ⟨rfl, rfl, r2_grown HGr.out ((HR2.out.trans (R2.of (grown_dr2 _ _))).trans (R2.of hG5)) hhs⟩)
       | (refine KB.out.mono ?_; rintro e w5 ⟨hG5, rfl⟩; exact ⟨rfl, rfl, r2_grown HGr.out ((HR2.out.trans (R2.of (grown_below ((Below.refl _ _).alloc (Nat.le_refl _) _) _))).trans (R2.of ((grown_dr2 _ _).trans hG5))) hhs⟩)
      exact AllReady.nil
     exact AllReady.nil
    refine AllReady.cons rfl (fun K9 hK9 => ?_) ?_
    ·
     go_simp
     first
     | (refine KA.out.mono ?_; rintro e w5 ⟨hG5, rfl⟩; exact ⟨rfl, rfl, r2_grown HGr.out ((HR2.out.trans (R2.of (grown_dr2 _ _))).trans (R2.of hG5)) hhs⟩)
     | (refine KB.out.mono ?_; rintro e w5 ⟨hG5, rfl⟩; exact ⟨rfl, rfl, r2_grown HGr.out ((HR2.out.trans (R2.of (grown_below ((Below.refl _ _).alloc (Nat.le_refl _) _) _))).trans (R2.of ((grown_dr2 _ _).trans hG5))) hhs⟩)
    exact AllReady.nil
   exact AllReady.nil
  refine AllReady.cons rfl (fun K9 hK9 => ?_) ?_
  ·
   go_simp
   refine hK9 _ _ ?_
   clear hK9 K9
   refine wpAny_ready (rs := [1, 2]) (by kernel_rfl) (by simp) ?_
   refine AllReady.cons rfl (fun K9 hK9 => ?_) ?_
   ·
    go_simp
    refine hK9 _ _ ?_
    clear hK9 K9
    refine wpAny_ready (rs := [2, 4]) (by kernel_rfl) (by simp) ?_
    refine AllReady.cons rfl (fun K9 hK9 => ?_) ?_
    ·
     go_simp
     refine hK9 _ _ ?_
     clear hK9 K9
     refine wpAny_ready (rs := [3, 4]) (by kernel_rfl) (by simp) ?_
     refine AllReady.cons rfl (fun K9 hK9 => ?_) ?_
     ·
      go_simp
      first
      | (refine KA.out.mono ?_; rintro e w5 ⟨hG5, rfl⟩; exact ⟨rfl, rfl, r2_grown HGr.out ((HR2.out.trans (R2.of (grown_dr2 _ _))).trans (R2.of hG5)) hhs⟩)
      | (refine KB.out.mono ?_; rintro e w5 ⟨hG5, rfl⟩; exact ⟨rfl, rfl, r2_grown HGr.out ((HR2.out.trans (R2.of (grown_below ((Below.refl _ _).alloc (Nat.le_refl _) _) _))).trans (R2.of ((grown_dr2 _ _).trans hG5))) hhs⟩)
     refine AllReady.cons rfl (fun K9 hK9 => ?_) ?_
     ·
      go_simp
      refine hK9 _ _ ?_
      clear hK9 K9
      refine wpAny_ready (rs := [3]) (by kernel_rfl) (by simp) ?_
      refine AllReady.cons rfl (fun K9 hK9 => ?_) ?_
      ·
       go_simp
       first
       | (refine KA.out.mono ?_; rintro e w5 ⟨hG5, rfl⟩; exact ⟨rfl, rfl, r2_grown HGr.out ((HR2.out.trans (R2.of (grown_dr2 _ _))).trans (R2.of hG5)) hhs⟩)
       | (refine KB.out.mono ?_; rintro e w5 ⟨hG5, rfl⟩; exact ⟨rfl, rfl, r2_grown HGr.out ((HR2.out.trans (R2.of (grown_below ((Below.refl _ _).alloc (Nat.le_refl _) _) _))).trans (R2.of ((grown_dr2 _ _).trans hG5))) hhs⟩)
      exact AllReady.nil
     exact AllReady.nil
    refine AllReady.cons rfl (fun K9 hK9 => ?_) ?_
    ·
     go_simp
     refine hK9 _ _ ?_
     clear hK9 K9
     refine wpAny_ready (rs := [2]) (by kernel_rfl) (by simp) ?_
     refine AllReady.cons rfl (fun K9 hK9 => ?_) ?_
     ·
      go_simp
      refine hK9 _ _ ?_
      clear hK9 K9
      refine wpAny_ready (rs := [3]) (by kernel_rfl) (by simp) ?_
      refine AllReady.cons rfl (fun K9 hK9 => ?_) ?_
      ·
       go_simp
       first
       | (refine KA.out.mono ?_; rintro e w5 ⟨hG5, rfl⟩; exact ⟨rfl, rfl, r2_grown HGr.out ((HR2.out.trans (R2.of (grown_dr2 _ _))).trans (R2.of hG5)) hhs⟩)
       | (refine KB.out.mono ?_; rintro e w5 ⟨hG5, rfl⟩; exact ⟨rfl, rfl, r2_grown HGr.out ((HR2.out.trans (R2.of (grown_below ((Below.refl _ _).alloc (Nat.le_refl _) _) _))).trans (R2.of ((grown_dr2 _ _).trans hG5))) hhs⟩)
      exact AllReady.nil
     exact AllReady.nil
    exact AllReady.nil
   refine AllReady.cons rfl (fun K9 hK9 => ?_) ?_
   ·
    go_simp
    refine hK9 _ _ ?_
    clear hK9 K9
    refine wpAny_ready (rs := [1, 3]) (by kernel_rfl) (by simp) ?_
    refine AllReady.cons rfl (fun K9 hK9 => ?_) ?_
    ·
     go_simp
     refine hK9 _ _ ?_
     clear hK9 K9
     refine wpAny_ready (rs := [3, 4]) (by kernel_rfl) (by simp) ?_
     refine AllReady.cons rfl (fun K9 hK9 => ?_) ?_
     ·
      go_simp
      first
      | (refine KA.out.mono ?_; rintro e w5 ⟨hG5, rfl⟩; exact ⟨rfl, rfl, r2_grown HGr.out ((HR2.out.trans (R2.of (grown_dr2 _ _))).trans (R2.of hG5)) hhs⟩)
      | (refine KB.out.mono ?_; rintro e w5 ⟨hG5, rfl⟩; exact ⟨rfl, rfl, r2_grown HGr.out ((HR2.out.trans (R2.of (grown_below ((Below.refl _ _).alloc (Nat.le_refl _) _) _))).trans (R2.of ((grown_dr2 _ _).trans hG5))) hhs⟩)
     refine AllReady.cons rfl (fun K9 hK9 => ?_) ?_
     ·
      go_simp
      refine hK9 _ _ ?_
      clear hK9 K9
      refine wpAny_ready (rs := [3]) (by kernel_rfl) (by simp) ?_
      refine AllReady.cons rfl (fun K9 hK9 => ?_) ?_
      ·
       go_simp
       first
       | (refine KA.out.mono ?_; rintro e w5 ⟨hG5, rfl⟩; exact ⟨rfl, rfl, r2_grown HGr.out ((HR2.out.trans (R2.of (grown_dr2 _ _))).trans (R2.of hG5)) hhs⟩)
       | (refine KB.out.mono ?_; rintro e w5 ⟨hG5, rfl⟩; exact ⟨rfl, rfl, r2_grown HGr.out ((HR2.out.trans (R2.of (grown_below ((Below.refl _ _).alloc (Nat.le_refl _) _) _))).trans (R2.of ((grown_dr2 _ _).trans hG5))) hhs⟩)
      exact AllReady.nil
     exact AllReady.nil
    refine AllReady.cons rfl (fun K9 hK9 => ?_) ?_
    ·
     go_simp
     first
     | (refine KA.out.mono ?_; rintro e w5 ⟨hG5, rfl⟩; exact ⟨rfl, rfl, r2_grown HGr.out ((HR2.out.trans (R2.of (grown_dr2 _ _))).trans (R2.of hG5)) hhs⟩)
     | (refine KB.out.mono ?_; rintro e w5 ⟨hG5, rfl⟩; exact ⟨rfl, rfl, r2_grown HGr.out ((HR2.out.trans (R2.of (grown_below ((Below.refl _ _).alloc (Nat.le_refl _) _) _))).trans (R2.of ((grown_dr2 _ _).trans hG5))) hhs⟩)
    exact AllReady.nil
   exact AllReady.nil
  exact AllReady.nil
 refine AllReady.cons rfl (fun K9 hK9 => ?_) ?_
 ·
  go_simp
  refine hK9 _ _ ?_
  clear hK9 K9
  refine wpAny_ready (rs := [0, 3, 5]) (by kernel_rfl) (by simp) ?_
  refine AllReady.cons rfl (fun K9 hK9 => ?_) ?_
  ·
   go_simp
   refine hK9 _ _ ?_
   clear hK9 K9
   refine wpAny_ready (rs := [1, 3, 5]) (by kernel_rfl) (by simp) ?_
   refine AllReady.cons rfl (fun K9 hK9 => ?_) ?_
   ·
    go_simp
    refine hK9 _ _ ?_
    clear hK9 K9
    refine wpAny_ready (rs := [3, 4, 5]) (by kernel_rfl) (by simp) ?_
    refine AllReady.cons rfl (fun K9 hK9 => ?_) ?_
    ·
     go_simp
     first
     | (refine KA.out.mono ?_; rintro e w5 ⟨hG5, rfl⟩; exact ⟨rfl, rfl, r2_grown HGr.out ((HR2.out.trans (R2.of (grown_dr2 _ _))).trans (R2.of hG5)) hhs⟩)
     | (refine KB.out.mono ?_; rintro e w5 ⟨hG5, rfl⟩; exact ⟨rfl, rfl, r2_grown HGr.out ((HR2.out.trans (R2.of (grown_below ((Below.refl _ _).alloc (Nat.le_refl _) _) _))).trans (R2.of ((grown_dr2 _ _).trans hG5))) hhs⟩)
    refine AllReady.cons rfl (fun K9 hK9 => ?_) ?_
    ·
     go_simp
     refine hK9 _ _ ?_
     clear hK9 K9
     refine wpAny_ready (rs := [3, 5]) (by kernel_rfl) (by simp) ?_
     refine AllReady.cons rfl (fun K9 hK9 => ?_) ?_
     ·
      go_simp
      first
      | (refine KA.out.mono ?_; rintro e w5 ⟨hG5, rfl⟩; exact ⟨rfl, rfl, r2_grown HGr.out ((HR2.out.trans (R2.of (grown_dr2 _ _))).trans (R2.of hG5)) hhs⟩)
      | (refine KB.out.mono ?_; rintro e w5 ⟨hG5, rfl⟩; exact ⟨rfl, rfl, r2_grown HGr.out ((HR2.out.trans (R2.of (grown_below ((Below.refl _ _).alloc (Nat.le_refl _) _) _))).trans (R2.of ((grown_dr2 _ _).trans hG5))) hhs⟩)
     refine AllReady.cons rfl (fun K9 hK9 => ?_) ?_
     ·
      go_simp
      refine hK9 _ _ ?_
      clear hK9 K9
      refine wpAny_ready (rs := [3]) (by kernel_rfl) (by simp) ?_
      refine AllReady.cons rfl (fun K9 hK9 => ?_) ?_
      ·
       go_simp
       first
       | (refine KA.out.mono ?_; rintro e w5 ⟨hG5, rfl⟩; exact ⟨rfl, rfl, r2_grown HGr.out ((HR2.out.trans (R2.of (grown_dr2 _ _))).trans (R2.of hG5)) hhs⟩)
       | (refine KB.out.mono ?_; rintro e w5 ⟨hG5, rfl⟩; exact ⟨rfl, rfl, r2_grown HGr.out ((HR2.out.trans (R2.of (grown_below ((Below.refl _ _).alloc (Nat.le_refl _) _) _))).trans (R2.of ((grown_dr2 _ _).trans hG5))) hhs⟩)
      exact AllReady.nil
     exact AllReady.nil
    refine AllReady.cons rfl (fun K9 hK9 => ?_) ?_
    ·
     go_simp
     refine hK9 _ _ ?_
     clear hK9 K9
     refine wpAny_ready (rs := [3, 4]) (by kernel_rfl) (by simp) ?_
     refine AllReady.cons rfl (fun K9 hK9 => ?_) ?_
     ·
      go_simp
      first
      | (refine KA.out.mono ?_; rintro e w5 ⟨hG5, rfl⟩; exact ⟨rfl, rfl, r2_grown HGr.out ((HR2.out.trans (R2.of (grown_dr2 _ _))).trans (R2.of hG5)) hhs⟩)
      | (refine KB.out.mono ?_; rintro e w5 ⟨hG5, rfl⟩; exact ⟨rfl, rfl, r2_grown HGr.out ((HR2.out.trans (R2.of (grown_below ((Below.refl _ _).alloc (Nat.le_refl _) _) _))).trans (R2.of ((grown_dr2 _ _).trans hG5))) hhs⟩)
     refine AllReady.cons rfl (fun K9 hK9 => ?_) ?_
     ·
      go_simp
      refine hK9 _ _ ?_
      clear hK9 K9
      refine wpAny_ready (rs := [3]) (by kernel_rfl) (by simp) ?_
      refine AllReady.cons rfl (fun K9 hK9 => ?_) ?_
      ·
       go_simp
       first
       | (refine KA.out.mono ?_; rintro e w5 ⟨hG5, rfl⟩; exact ⟨rfl, rfl, r2_grown HGr.out ((HR2.out.trans (R2.of (grown_dr2 _ _))).trans (R2.of hG5)) hhs⟩)
       | (refine KB.out.mono ?_; rintro e w5 ⟨hG5, rfl⟩; exact ⟨rfl, rfl, r2_grown HGr.out ((HR2.out.trans (R2.of (grown_below ((Below.refl _ _).alloc (Nat.le_refl _) _) _))).trans (R2.of ((grown_dr2 _ _).trans hG5))) hhs⟩)
      exact AllReady.nil
     exact AllReady.nil
    exact AllReady.nil
   refine AllReady.cons rfl (fun K9 hK9 => ?_) ?_
   ·
    go_simp
    first
    | (refine KA.out.mono ?_; rintro e w5 ⟨hG5, rfl⟩; exact ⟨rfl, rfl, r2_grown HGr.out ((HR2.out.trans (R2.of (grown_dr2 _ _))).trans (R2.of hG5)) hhs⟩)
    | (refine KB.out.mono ?_; rintro e w5 ⟨hG5, rfl⟩; exact ⟨rfl, rfl, r2_grown HGr.out ((HR2.out.trans (R2.of (grown_below ((Below.refl _ _).alloc (Nat.le_refl _) _) _))).trans (R2.of ((grown_dr2 _ _).trans hG5))) hhs⟩)
   refine AllReady.cons rfl (fun K9 hK9 => ?_) ?_
   ·
    go_simp
    refine hK9 _ _ ?_
    clear hK9 K9
    refine wpAny_ready (rs := [1, 3]) (by kernel_rfl) (by simp) ?_
    refine AllReady.cons rfl (fun K9 hK9 => ?_) ?_
    ·
     go_simp
     refine hK9 _ _ ?_
     clear hK9 K9
     refine wpAny_ready (rs := [3, 4]) (by kernel_rfl) (by simp) ?_
     refine AllReady.cons rfl (fun K9 hK9 => ?_) ?_
     ·
      go_simp
      first
      | (refine KA.out.mono ?_; rintro e w5 ⟨hG5, rfl⟩; exact ⟨rfl, rfl, r2_grown HGr.out ((HR2.out.trans (R2.of (grown_dr2 _ _))).trans (R2.of hG5)) hhs⟩)
      | (refine KB.out.mono ?_; rintro e w5 ⟨hG5, rfl⟩; exact ⟨rfl, rfl, r2_grown HGr.out ((HR2.out.trans (R2.of (grown_below ((Below.refl _ _).alloc (Nat.le_refl _) _) _))).trans (R2.of ((grown_dr2 _ _).trans hG5))) hhs⟩)
     refine AllReady.cons rfl (fun K9 hK9 => ?_) ?_
     ·
      go_simp
      refine hK9 _ _ ?_
      clear hK9 K9
      refine wpAny_ready (rs := [3]) (by kernel_rfl) (by simp) ?_
      refine AllReady.cons rfl (fun K9 hK9 => ?_) ?_
      ·
       go_simp
       first
       | (refine KA.out.mono ?_; rintro e w5 ⟨hG5, rfl⟩; exact ⟨rfl, rfl, r2_grown HGr.out ((HR2.out.trans (R2.of (grown_dr2 _ _))).trans (R2.of hG5)) hhs⟩)
       | (refine KB.out.mono ?_; rintro e w5 ⟨hG5, rfl⟩; exact ⟨rfl, rfl, r2_grown HGr.out ((HR2.out.trans (R2.of (grown_below ((Below.refl _ _).alloc (Nat.le_refl _) _) _))).trans (R2.of ((grown_dr2 _ _).trans hG5))) hhs⟩)
      exact AllReady.nil
     exact AllReady.nil
    refine AllReady.cons rfl (fun K9 hK9 => ?_) ?_
    ·
     go_simp
     first
     | (refine KA.out.mono ?_; rintro e w5 ⟨hG5, rfl⟩; exact ⟨rfl, rfl, r2_grown HGr.out ((HR2.out.trans (R2.of (grown_dr2 _ _))).trans (R2.of hG5)) hhs⟩)
     | (refine KB.out.mono ?_; rintro e w5 ⟨hG5, rfl⟩; exact ⟨rfl, rfl, r2_grown HGr.out ((HR2.out.trans (R2.of (grown_below ((Below.refl _ _).alloc (Nat.le_refl _) _) _))).trans (R2.of ((grown_dr2 _ _).trans hG5))) hhs⟩)
    exact AllReady.nil
   exact AllReady.nil
  refine AllReady.cons rfl (fun K9 hK9 => ?_) ?_
  ·
   go_simp
   first
   | (refine KA.out.mono ?_; rintro e w5 ⟨hG5, rfl⟩; exact ⟨rfl, rfl, r2_grown HGr.out ((HR2.out.trans (R2.of (grown_dr2 _ _))).trans (R2.of hG5)) hhs⟩)
   | (refine KB.out.mono ?_; rintro e w5 ⟨hG5, rfl⟩; exact ⟨rfl, rfl, r2_grown HGr.out ((HR2.out.trans (R2.of (grown_below ((Below.refl _ _).alloc (Nat.le_refl _) _) _))).trans (R2.of ((grown_dr2 _ _).trans hG5))) hhs⟩)
  refine AllReady.cons rfl (fun K9 hK9 => ?_) ?_
  ·
   go_simp
   refine hK9 _ _ ?_
   clear hK9 K9
   refine wpAny_ready (rs := [0, 3]) (by kernel_rfl) (by simp) ?_
   refine AllReady.cons rfl (fun K9 hK9 => ?_) ?_
   ·
    go_simp
    refine hK9 _ _ ?_
    clear hK9 K9
    refine wpAny_ready (rs := [1, 3]) (by kernel_rfl) (by simp) ?_
    refine AllReady.cons rfl (fun K9 hK9 => ?_) ?_
    ·
     go_simp
     refine hK9 _ _ ?_
     clear hK9 K9
     refine wpAny_ready (rs := [3, 4]) (by kernel_rfl) (by simp) ?_
     refine AllReady.cons rfl (fun K9 hK9 => ?_) ?_
     ·
      go_simp
      first
      | (refine KA.out.mono ?_; rintro e w5 ⟨hG5, rfl⟩; exact ⟨rfl, rfl, r2_grown HGr.out ((HR2.out.trans (R2.of (grown_dr2 _ _))).trans (R2.of hG5)) hhs⟩)
      | (refine KB.out.mono ?_; rintro e w5 ⟨hG5, rfl⟩; exact ⟨rfl, rfl, r2_grown HGr.out ((HR2.out.trans (R2.of (grown_below ((Below.refl _ _).alloc (Nat.le_refl _) _) _))).trans (R2.of ((grown_dr2 _ _).trans hG5))) hhs⟩)
     refine AllReady.cons rfl (fun K9 hK9 => ?_) ?_
     ·
      go_simp
      refine hK9 _ _ ?_
      clear hK9 K9
      refine wpAny_ready (rs := [3]) (by kernel_rfl) (by simp) ?_
      refine AllReady.cons rfl (fun K9 hK9 => ?_) ?_
      ·
       go_simp
       first
       | (refine KA.out.mono ?_; rintro e w5 ⟨hG5, rfl⟩; exact ⟨rfl, rfl, r2_grown HGr.out ((HR2.out.trans (R2.of (grown_dr2 _ _))).trans (R2.of hG5)) hhs⟩)
       | (refine KB.out.mono ?_; rintro e w5 ⟨hG5, rfl⟩; exact ⟨rfl, rfl, r2_grown HGr.out ((HR2.out.trans (R2.of (grown_below ((Below.refl _ _).alloc (Nat.le_refl _) _) _))).trans (R2.of ((grown_dr2 _ _).trans hG5))) hhs⟩)
      exact AllReady.nil
     exact AllReady.nil
    refine AllReady.cons rfl (fun K9 hK9 => ?_) ?_
    ·
     go_simp
     first
     | (refine KA.out.mono ?_; rintro e w5 ⟨hG5, rfl⟩; exact ⟨rfl, rfl, r2_grown HGr.out ((HR2.out.trans (R2.of (grown_dr2 _ _))).trans (R2.of hG5)) hhs⟩)
     | (refine KB.out.mono ?_; rintro e w5 ⟨hG5, rfl⟩; exact ⟨rfl, rfl, r2_grown HGr.out ((HR2.out.trans (R2.of (grown_below ((Below.refl _ _).alloc (Nat.le_refl _) _) _))).trans (R2.of ((grown_dr2 _ _).trans hG5))) hhs⟩)
    exact AllReady.nil
   refine AllReady.cons rfl (fun K9 hK9 => ?_) ?_
   ·
    go_simp
    first
    | (refine KA.out.mono ?_; rintro e w5 ⟨hG5, rfl⟩; exact ⟨rfl, rfl, r2_grown HGr.out ((HR2.out.trans (R2.of (grown_dr2 _ _))).trans (R2.of hG5)) hhs⟩)
    | (refine KB.out.mono ?_; rintro e w5 ⟨hG5, rfl⟩; exact ⟨rfl, rfl, r2_grown HGr.out ((HR2.out.trans (R2.of (grown_below ((Below.refl _ _).alloc (Nat.le_refl _) _) _))).trans (R2.of ((grown_dr2 _ _).trans hG5))) hhs⟩)
   exact AllReady.nil
  exact AllReady.nil
 refine AllReady.cons rfl (fun K9 hK9 => ?_) ?_
 ·
  go_simp
  refine hK9 _ _ ?_
  clear hK9 K9
  refine wpAny_ready (rs := [0, 2]) (by kernel_rfl) (by simp) ?_
  refine AllReady.cons rfl (fun K9 hK9 => ?_) ?_
  ·
   go_simp
   refine hK9 _ _ ?_
   clear hK9 K9
   refine wpAny_ready (rs := [1, 2]) (by kernel_rfl) (by simp) ?_
   refine AllReady.cons rfl (fun K9 hK9 => ?_) ?_
   ·
    go_simp
    refine hK9 _ _ ?_
    clear hK9 K9
    refine wpAny_ready (rs := [2, 4]) (by kernel_rfl) (by simp) ?_
    refine AllReady.cons rfl (fun K9 hK9 => ?_) ?_
    ·
     go_simp
     refine hK9 _ _ ?_
     clear hK9 K9
     refine wpAny_ready (rs := [3, 4]) (by kernel_rfl) (by simp) ?_
     refine AllReady.cons rfl (fun K9 hK9 => ?_) ?_
     ·
      go_simp
      first
      | (refine KA.out.mono ?_; rintro e w5 ⟨hG5, rfl⟩; exact ⟨rfl, rfl, r2_grown HGr.out ((HR2.out.trans (R2.of (grown_dr2 _ _))).trans (R2.of hG5)) hhs⟩)
      | (refine KB.out.mono ?_; rintro e w5 ⟨hG5, rfl⟩; exact ⟨rfl, rfl, r2_grown HGr.out ((HR2.out.trans (R2.of (grown_below ((Below.refl _ _).alloc (Nat.le_refl _) _) _))).trans (R2.of ((grown_dr2 _ _).trans hG5))) hhs⟩)
     refine AllReady.cons rfl (fun K9 hK9 => ?_) ?_
     ·
      go_simp
      refine hK9 _ _ ?_
      clear hK9 K9
      refine wpAny_ready (rs := [3]) (by kernel_rfl) (by simp) ?_
      refine AllReady.cons rfl (fun K9 hK9 => ?_) ?_
      ·
       go_simp
       first
       | (refine KA.out.mono ?_; rintro e w5 ⟨hG5, rfl⟩; exact ⟨rfl, rfl, r2_grown HGr.out ((HR2.out.trans (R2.of (grown_dr2 _ _))).trans (R2.of hG5)) hhs⟩)
       | (refine KB.out.mono ?_; rintro e w5 ⟨hG5, rfl⟩; exact ⟨rfl, rfl, r2_grown HGr.out ((HR2.out.trans (R2.of (grown_below ((Below.refl _ _).alloc (Nat.le_refl _) _) _))).trans (R2.of ((grown_dr2 _ _).trans hG5))) hhs⟩)
      exact AllReady.nil
     exact AllReady.nil
    refine AllReady.cons rfl (fun K9 hK9 => ?_) ?_
    ·
     go_simp
     refine hK9 _ _ ?_
     clear hK9 K9
     refine wpAny_ready (rs := [2]) (by kernel_rfl) (by simp) ?_
     refine AllReady.cons rfl (fun K9 hK9 => ?_) ?_
     ·
      go_simp
      refine hK9 _ _ ?_
      clear hK9 K9
      refine wpAny_ready (rs := [3]) (by kernel_rfl) (by simp) ?_
      refine AllReady.cons rfl (fun K9 hK9 => ?_) ?_
      ·
       go_simp
       first
       | (refine KA.out.mono ?_; rintro e w5 ⟨hG5, rfl⟩; exact ⟨rfl, rfl, r2_grown HGr.out ((HR2.out.trans (R2.of (grown_dr2 _ _))).trans (R2.of hG5)) hhs⟩)
       | (refine KB.out.mono ?_; rintro e w5 ⟨hG5, rfl⟩; exact ⟨rfl, rfl, r2_grown HGr.out ((HR2.out.trans (R2.of (grown_below ((Below.refl _ _).alloc (Nat.le_refl _) _) _))).trans (R2.of ((grown_dr2 _ _).trans hG5))) hhs⟩)
      exact AllReady.nil
     exact AllReady.nil
    exact AllReady.nil
   refine AllReady.cons rfl (fun K9 hK9 => ?_) ?_
   ·
    go_simp
    refine hK9 _ _ ?_
    clear hK9 K9
    refine wpAny_ready (rs := [1, 3]) (by kernel_rfl) (by simp) ?_
    refine AllReady.cons rfl (fun K9 hK9 => ?_) ?_
    ·
     go_simp
     refine hK9 _ _ ?_
     clear hK9 K9
     refine wpAny_ready (rs := [3, 4]) (by kernel_rfl) (by simp) ?_
     refine AllReady.cons rfl (fun K9 hK9 => ?_) ?_
     ·
      go_simp
      first
      | (refine KA.out.mono ?_; rintro e w5 ⟨hG5, rfl⟩; exact ⟨rfl, rfl, r2_grown HGr.out ((HR2.out.trans (R2.of (grown_dr2 _ _))).trans (R2.of hG5)) hhs⟩)
      | (refine KB.out.mono ?_; rintro e w5 ⟨hG5, rfl⟩; exact ⟨rfl, rfl, r2_grown HGr.out ((HR2.out.trans (R2.of (grown_below ((Below.refl _ _).alloc (Nat.le_refl _) _) _))).trans (R2.of ((grown_dr2 _ _).trans hG5))) hhs⟩)
     refine AllReady.cons rfl (fun K9 hK9 => ?_) ?_
     ·
      go_simp
      refine hK9 _ _ ?_
      clear hK9 K9
      refine wpAny_ready (rs := [3]) (by kernel_rfl) (by simp) ?_
      refine AllReady.cons rfl (fun K9 hK9 => ?_) ?_
      ·
       go_simp
       first
       | (refine KA.out.mono ?_; rintro e w5 ⟨hG5, rfl⟩; exact ⟨rfl, rfl, r2_grown HGr.out ((HR2.out.trans (R2.of (grown_dr2 _ _))).trans (R2.of hG5)) hhs⟩)
       | (refine KB.out.mono ?_; rintro e w5 ⟨hG5, rfl⟩; exact ⟨rfl, rfl, r2_grown HGr.out ((HR2.out.trans (R2.of (grown_below ((Below.refl _ _).alloc (Nat.le_refl _) _) _))).trans (R2.of ((grown_dr2 _ _).trans hG5))) hhs⟩)
      exact AllReady.nil
     exact AllReady.nil
    refine AllReady.cons rfl (fun K9 hK9 => ?_) ?_
    ·
     go_simp
     first
     | (refine KA.out.mono ?_; rintro e w5 ⟨hG5, rfl⟩; exact ⟨rfl, rfl, r2_grown HGr.out ((HR2.out.trans (R2.of (grown_dr2 _ _))).trans (R2.of hG5)) hhs⟩)
     | (refine KB.out.mono ?_; rintro e w5 ⟨hG5, rfl⟩; exact ⟨rfl, rfl, r2_grown HGr.out ((HR2.out.trans (R2.of (grown_below ((Below.refl _ _).alloc (Nat.le_refl _) _) _))).trans (R2.of ((grown_dr2 _ _).trans hG5))) hhs⟩)
    exact AllReady.nil
   exact AllReady.nil
  refine AllReady.cons rfl (fun K9 hK9 => ?_) ?_
  ·
   go_simp
   refine hK9 _ _ ?_
   clear hK9 K9
   refine wpAny_ready (rs := [0, 3]) (by kernel_rfl) (by simp) ?_
   refine AllReady.cons rfl (fun K9 hK9 => ?_) ?_
   ·
    go_simp
    refine hK9 _ _ ?_
    clear hK9 K9
    refine wpAny_ready (rs := [1, 3]) (by kernel_rfl) (by simp) ?_
    refine AllReady.cons rfl (fun K9 hK9 => ?_) ?_
    ·
     go_simp
     refine hK9 _ _ ?_
     clear hK9 K9
     refine wpAny_ready (rs := [3, 4]) (by kernel_rfl) (by simp) ?_
     refine AllReady.cons rfl (fun K9 hK9 => ?_) ?_
     ·
      go_simp
      first
      | (refine KA.out.mono ?_; rintro e w5 ⟨hG5, rfl⟩; exact ⟨rfl, rfl, r2_grown HGr.out ((HR2.out.trans (R2.of (grown_dr2 _ _))).trans (R2.of hG5)) hhs⟩)
      | (refine KB.out.mono ?_; rintro e w5 ⟨hG5, rfl⟩; exact ⟨rfl, rfl, r2_grown HGr.out ((HR2.out.trans (R2.of (grown_below ((Below.refl _ _).alloc (Nat.le_refl _) _) _))).trans (R2.of ((grown_dr2 _ _).trans hG5))) hhs⟩)
     refine AllReady.cons rfl (fun K9 hK9 => ?_) ?_
     ·
      go_simp
      refine hK9 _ _ ?_
      clear hK9 K9
      refine wpAny_ready (rs := [3]) (by kernel_rfl) (by simp) ?_
      refine AllReady.cons rfl (fun K9 hK9 => ?_) ?_
      ·
       go_simp
       first
       | (refine KA.out.mono ?_; rintro e w5 ⟨hG5, rfl⟩; exact ⟨rfl, rfl, r2_grown HGr.out ((HR2.out.trans (R2.of (grown_dr2 _ _))).trans (R2.of hG5)) hhs⟩)
       | (refine KB.out.mono ?_; rintro e w5 ⟨hG5, rfl⟩; exact ⟨rfl, rfl, r2_grown HGr.out ((HR2.out.trans (R2.of (grown_below ((Below.refl _ _).alloc (Nat.le_refl _) _) _))).trans (R2.of ((grown_dr2 _ _).trans hG5))) hhs⟩)
      exact AllReady.nil
     exact AllReady.nil
    refine AllReady.cons rfl (fun K9 hK9 => ?_) ?_
    ·
     go_simp
     first
     | (refine KA.out.mono ?_; rintro e w5 ⟨hG5, rfl⟩; exact ⟨rfl, rfl, r2_grown HGr.out ((HR2.out.trans (R2.of (grown_dr2 _ _))).trans (R2.of hG5)) hhs⟩)
     | (refine KB.out.mono ?_; rintro e w5 ⟨hG5, rfl⟩; exact ⟨rfl, rfl, r2_grown HGr.out ((HR2.out.trans (R2.of (grown_below ((Below.refl _ _).alloc (Nat.le_refl _) _) _))).trans (R2.of ((grown_dr2 _ _).trans hG5))) hhs⟩)
    exact AllReady.nil
   refine AllReady.cons rfl (fun K9 hK9 => ?_) ?_
   ·
    go_simp
    first
    | (refine KA.out.mono ?_; rintro e w5 ⟨hG5, rfl⟩; exact ⟨rfl, rfl, r2_grown HGr.out ((HR2.out.trans (R2.of (grown_dr2 _ _))).trans (R2.of hG5)) hhs⟩)
    | (refine KB.out.mono ?_; rintro e w5 ⟨hG5, rfl⟩; exact ⟨rfl, rfl, r2_grown HGr.out ((HR2.out.trans (R2.of (grown_below ((Below.refl _ _).alloc (Nat.le_refl _) _) _))).trans (R2.of ((grown_dr2 _ _).trans hG5))) hhs⟩)
   exact AllReady.nil
  exact AllReady.nil
 exact AllReady.nil
open Go.RowKit
open Pl (Bs idxB numOk numN setOk setL)
attribute [local go_sem ↓] Go.wp_at_zero Go.wp_at_succ
theorem keyOne_ok (G : Glob) (w wh : World) (B h br : Nat) (K : Nat → Prop) (sub : Rd KeyP) (hsub : KeyCon G B K sub) (hE : EnvI G w B) (hgr : w.grownBy wh (some B)) (hhs : w.heap.size ≤ h) (hhl : h < wh.heap.size) (hBlt : B < w.heap.size) (hbr : wh.heap[br]? = some (Obj.cells #[scP B] 62)) (hbB : br ≠ B) (hbh : br ≠ h) :
  ∀ (acc : List KeyP) (s : Bs) (k : Nat) (w1 : World) (x : KeyP) (r : Bs) (k2 : Nat), sub s k = some (x, r, k2) → acc.length ≤ 1000002 → K k → KlJ wh B h acc w1 → EnvI G w1 B → Scn w1 B s k → Calls Tryz.prog 133 #[.pointer (some ⟨h, 0, none⟩), .pointer (some ⟨br, 0, none⟩)] w1 fun e W' => e = .returned (.tuple #[]) ∧ Scn W' B r k2 ∧ KlJ wh B h (acc ++ [x]) W' := by
 intro acc s k w1 x r k2 hsx hacc hk hJ hE1 hS
 obtain ⟨i0, hi, hz0, hz1, hz2⟩ := info_parts infoKey2
 obtain ⟨hR2, u, cells3, T, hAk⟩ := hJ
 have hBlt : B < wh.heap.size := by omega
 have hne : B ≠ h := by omega
 have hbl := (Array.getElem?_eq_some_iff.1 hbr).1
 have hx1 : w1.heap[br]? = some (Obj.cells #[scP B] 62) := (hR2.block br hbl hbB hbh).trans hbr
 have HGr := Lib.hid hgr
 have hvK : K k ∨ (sub s k).isSome = true := .inl hk
 obtain ⟨A3, c3, hu3, _⟩ := rowC_own hAk.own
 subst hu3
 have HA := Lib.hid hAk
 have HAd := Lib.hid (hAk.step (W1 := w1.drew) (grown_dr2 _ (some B)) hBlt hne)
 have HAz := Lib.hid (fun o => (HA.out.below ((Below.refl w1.heap.size w1).alloc (Nat.le_refl _) o)))
 have KA := Lib.hid (hsub s k w1.drew hvK (hE1.kept (grown_dr2 _ _)) (hS.draws 1))
 have KB := Lib.hid (hsub s k (w1.alloc (Obj.cells zeroKeyL.toArray 51)).drew hvK (hE1.kept ((grown_below ((Below.refl _ _).alloc (Nat.le_refl _) _) _).trans (grown_dr2 _ _))) ((hS.then ((Below.refl _ _).alloc (Nat.le_refl _) _)).draws 1))
 rw [hsx] at KA KB
 have HR2 := Lib.hid hR2
 obtain ⟨l0, l1⟩ := HAd.out.cell
 have l2 := (fun o => (HAz.out o).cell.1)
 have l3 := (fun o => (HAz.out o).cell.2)
 have d0 : w1.cell? ⟨br, 0, none⟩ = some (scP B) := (one_cells hx1).1
 have d2 : ∀ o, (w1.alloc o).cell? ⟨br, 0, none⟩ = some (scP B) := fun o => (one_cells ((Below.heap_alloc w1 o _ (Array.getElem?_eq_some_iff.1 hx1).1).trans hx1)).1
 have hix : ((acc.length : Nat) : Int) < (acc.length : Int) + 1 := by omega
 clear hsx hx1 hAk hR2 hS hE1 hE hsub hvK hbr hgr
 go_enter Tryz.func133, Tryz.ntmps133
 go_wp2_with fail
 go_region_law (first
   | (go_simp; go_at_call 106; first
     | (refine KA.out.mono ?_; rintro e w5 ⟨hG5, As, cs5, Ak, ck5, kcs, rfl, hP5, hS5⟩; have HM := Lib.hid (AkMid.ofKey HAd.out hG5 hBlt hne hP5); have HS5 := Lib.hid hS5; have HR5 := Lib.hid ((HR2.out.trans (.of (grown_dr2 _ _))).trans (.of hG5)); have HRc := Lib.hid (HR5.out.trans (.of (grown_below ((Below.refl _ _).alloc (Nat.le_refl _) (Obj.cells zeroKeyL.toArray 51)) _))); have HSc := Lib.hid (HS5.out.then ((Below.refl _ _).alloc (Nat.le_refl _) (Obj.cells zeroKeyL.toArray 51))); obtain ⟨m0, m1⟩ := (HAd.out.step hG5 hBlt hne).cell; have m2 := (fun o => ((HAd.out.step hG5 hBlt hne).below ((Below.refl w5.heap.size w5).alloc (Nat.le_refl _) o)).cell.1); clear hG5 hP5 hS5)
     | (refine KB.out.mono ?_; rintro e w5 ⟨hG5, As, cs5, Ak, ck5, kcs, rfl, hP5, hS5⟩; have HM := Lib.hid (AkMid.ofZero HA.out ((grown_dr2 _ _).trans hG5) hBlt hne hP5); have HS5 := Lib.hid hS5; have HR5 := Lib.hid ((HR2.out.trans (R2.of (grown_below ((Below.refl _ _).alloc (Nat.le_refl _) _) _))).trans (.of ((grown_dr2 _ _).trans hG5))); have HRc := HR5; have HSc := HS5; obtain ⟨m0, m1⟩ := HM.out.st.cell; clear hG5 hP5 hS5))
   | (refine step_append_lies _ (by rfl) _ _ _ (by rfl) wh.heap.size 51 i0 (.agg #[.string ⟨#[]⟩, .string ⟨#[]⟩, .string ⟨#[]⟩, .int .i64 0, .slice none 0 0, .slice none 0 0]) 6 104 Tryz.underlying31 hi hz0 hz1 hz2 (by rfl) (by decide) (.slice A3 acc.length c3) acc.length cells3 (by rfl) HM.out.st.own ⟨_, 0, none⟩ 1 1 zeroKeyL (by rfl) (by rfl) (World.news_of_block HM.out.zero) (by simp [zeroKeyL, Value.oneCell']) (by decide) (by unfold maxLen; omega) (by omega) HM.out.st.lt.2 _ rfl ?_; intro g cap w9 hown hgr hat hlt; have HNw := Lib.hid (HM.out.new (cap := cap) hown hgr); obtain ⟨⟨n0, n1, n2, n3, n4, n5⟩, p0, p1, p2, p3, p4, p5⟩ := HNw.out.c0; have hgC : ¬ (g = h) := HNw.out.gD; have hCg : ¬ (h = g) := fun e => hgC e.symm; have q0 : w9.cell? ⟨h, 5, none⟩ = some (.slice A3 acc.length c3) := by {have h1 := HNw.out.cmd; have h2 := HM.out.st.at_; simp [World.cell?, h1, h2]}; have q1 : w9.frozen? ⟨h, 5, none⟩ = false := by {have h1 := HNw.out.cmd; simp [World.frozen?, h1]}))
 all_goals
  go_end0
  refine ⟨rfl, KlJ.fin HM.out HRc.out HSc.out hBlt hne hown hgr hat ?_⟩
  first
  | (refine .inl ?_; simp only [put6]; done)
  | (refine .inr ?_; simp only [put6]; done)
theorem keyOne (G : Glob) (w wh : World) (B h br : Nat) (K : Nat → Prop) (sub : Rd KeyP) (hsub : KeyCon G B K sub) (hE : EnvI G w B) (hgr : w.grownBy wh (some B)) (hhs : w.heap.size ≤ h) (hhl : h < wh.heap.size) (hBlt : B < w.heap.size) (hbr : wh.heap[br]? = some (Obj.cells #[scP B] 62)) (hbB : br ≠ B) (hbh : br ≠ h) :
  OneStepK G B K 133 #[.pointer (some ⟨h, 0, none⟩), .pointer (some ⟨br, 0, none⟩)] sub (KlJ wh B h) (fun W => w.grownBy W (some B)) := by
 intro acc s k W hacc hk hJ hE1 hS
 cases hs : sub s k with
 | none => exact keyOne_no G w wh B h br K sub hsub hE hgr hhs hhl hBlt hbr hbB hbh acc s k W hs hacc hk hJ hE1 hS
 | some p => exact keyOne_ok G w wh B h br K sub hsub hE hgr hhs hhl hBlt hbr hbB hbh acc s k W p.1 p.2.1 p.2.2 hs hacc hk hJ hE1 hS
open Go.RowKit
open Pl (Bs idxB numOk numN setOk setL)
attribute [local go_sem ↓] Go.wp_at_zero Go.wp_at_succ
theorem key_list (G : Glob) (B k : Nat) (C : Nat → Prop) (hKm : ∀ a b, C a → a ≤ b → C b) (sub : Rd KeyP) (hsub : KeyCon G B C sub) (hmono : ∀ s k p, sub s k = some p → k ≤ p.2.2) (hlenS : ∀ s k p, sub s k = some p → p.2.1.length ≤ s.length) (s r0 : Bs) (hk : k + 1 ≤ 50) (hv : C (k + 1)) (hp : isB [40] s = some r0) (w : World) (hE : EnvI G w B) (h : Scn w B s k) :
  Calls Tryz.prog 106 #[scP B] w (KeyPost w B ((listR sub s (k + 1)).map fun p => (.mk [40] [] [] 0 [] p.1, p.2))) := by
 have HSub := Lib.hid hsub
 have HMono := Lib.hid hmono
 have HLenS := Lib.hid hlenS
 have HKm := Lib.hid hKm
 have HO := Lib.hid (rfl : listR sub s (k + 1) = listR sub s (k + 1))
 have hmf : ∀ (fn : Fn) (first cap : Array Value) (w : World), (Instr.makeFunc fn first cap).run Tryz.prog w = .ok (.func fn first cap) w := fun _ _ _ _ => rfl
 have HPre := Lib.hid (KyPre.start h (by omega))
 have hk1 : ((k : Int) + 1 ≤ 50) := by omega
 have hb : ¬ (B = w.heap.size) := by have := h.lt; omega
 have hb2 : ¬ (B = w.heap.size + 1) := by have := h.lt; omega
 obtain ⟨c0, c1, f0, f1⟩ := h.cells
 have KP : Hid (∀ W, Calls Tryz.prog 99 #[.string (str s), .string ⟨#[40]⟩] W _) := Lib.hid (fun W => hasPre_yes hp W)
 have hsm := h.small
 have hlt := h.lt
 have HE := Lib.hid hE
 clear hp h hE hsub hmono hlenS hKm
 go_enter Tryz.func106, Tryz.ntmps106
 go_wp2_with fail
 generalize ((w.setCell ⟨B, 1, none⟩ (.int .i64 ((k : Int) + 1))).alloc (Obj.cells #[scP B] 62)).alloc (Obj.cells #[.string ⟨#[]⟩, .string ⟨#[]⟩, .string ⟨#[]⟩, .int .i64 0, .slice none 0 0, .slice none 0 0] 51) = w2 at HPre ⊢
 clear c0 c1 f0 f1
 have HPd := Lib.hid HPre.out.draw
 have d0 := (one_cells HPre.out.box).1
 obtain ⟨_, d1, _, _⟩ := HPre.out.sc.cells
 have hcast : ((k + 1 : Nat) : Int) = (k : Int) + 1 := by omega
 rw [hcast] at d1
 clear hcast
 have D0 := Lib.hid (show w2.drew.cell? ⟨w.heap.size, 0, none⟩ = some (scP B) ∧ w2.drew.cell? ⟨B, 1, none⟩ = some (.int .i64 ((k : Int) + 1)) from ⟨d0, d1⟩)
 go_region_held3 (fun W => W.cell? ⟨w.heap.size, 0, none⟩ = some (scP B) ∧ W.cell? ⟨B, 1, none⟩ = some (.int .i64 ((k : Int) + 1)))
  (first | exact D0.out)
  (first
   | (go_at_call 27; refine (must_walk B _).mono ?_; rintro e w' ⟨rfl, rfl⟩))
 generalize w2.drew = w3 at *
 clear d0 d1 D0
 have d0 := (one_cells HPd.out.box).1
 obtain ⟨d1, _, _, _⟩ := HPd.out.sc.cells
 go_wp2_with fail
 refine (KP.out _).mono ?_
 rintro e w4 ⟨rfl, rfl⟩
 have HK4 := Lib.hid (HPd.out.name ⟨#[40]⟩)
 have hhl := (Array.getElem?_eq_some_iff.1 HK4.out.xb).1
 have hhs := HK4.out.hlt
 have HGr := Lib.hid HK4.out.pre.gr
 have K2 := Lib.hid (list_walkK G B C HKm.out 133 #[.pointer (some ⟨w4.heap.size, 0, none⟩), .pointer (some ⟨w.heap.size, 0, none⟩)] sub (KlJ (w4.alloc (nameKey ⟨#[40]⟩)) B w4.heap.size) (fun W => w.grownBy W (some B))
  (fun W => enter_fn Tryz.func133 (by kernel_rfl) rfl _ W) (keyOne G w _ B _ _ C sub HSub.out HE.out HK4.out.pre.gr (by omega) hhl hlt HK4.out.pre.box (by omega) (by omega)) HMono.out HLenS.out
  (fun acc W W' hJ hG => by obtain ⟨hR, u, cs, T, hst⟩ := hJ; exact ⟨hR.trans (.of hG), u, cs, T, hst.step hG (by omega) (by omega)⟩)
  (fun acc W hJ => r2_grown HGr.out hJ.1 (by omega))
  (fun acc W hJ => HE.out.kept (r2_grown HGr.out hJ.1 (by omega))) s (k + 1) (w4.alloc (nameKey ⟨#[40]⟩)) ⟨.of (grown_refl _ _), .slice none 0 0, [], fun _ => False, ⟨HK4.out.xb, rfl, World.ownsRow_nil _ _ _ _, .nil, rfl, fun j hj => hj.elim, hhl, Nat.le_refl _⟩⟩ hv HK4.out.pre.sc)
 have e7 := (one_cells HK4.out.pre.box).1
 have HW4 := Lib.hid (rfl : w4.alloc (nameKey ⟨#[40]⟩) = w4.alloc (nameKey ⟨#[40]⟩))
 clear HO
 generalize hoo : listR sub s (k + 1) = oo at K2
 have HO := Lib.hid hoo
 clear hoo
 go_wp2_with fail
 refine K2.out.mono ?_
 rintro e w5 hP
 cases oo with
 | none =>
  obtain ⟨rfl, hG⟩ := hP
  exact ⟨rfl, .bad hG (by rw [HO.out]; rfl)⟩
 | some p =>
  obtain ⟨l, r5, k5⟩ := p
  obtain ⟨rfl, hS5, hR5, u, cs5, T5, hAk⟩ := hP
  obtain ⟨A5, c5, hu5, _⟩ := rowC_own hAk.own
  subst hu5
  have hx5 : w5.heap[w4.heap.size]? = some (Obj.cells #[.string ⟨#[40]⟩, .string ⟨#[]⟩, .string ⟨#[]⟩, .int .i64 0, .slice none 0 0, .slice A5 l.length c5] 51) := hAk.cmd
  have hb5 : w5.heap[w.heap.size]? = some (Obj.cells #[scP B] 62) := (hR5.block _ (by omega) (by omega) (by omega)).trans HK4.out.pre.box
  have hr5 : w5.heap[w.heap.size + 1]? = some zeroKey := (hR5.block _ (by omega) (by omega) (by omega)).trans HK4.out.pre.res
  have HK5 : Hid (KyPre w B r5 k5 w5) := Lib.hid ⟨r2_grown HGr.out hR5 (by omega), hS5, hb5, hr5, hlt⟩
  have HAk := Lib.hid hAk
  clear hS5 hR5 hAk hb5 hr5 e7 K2
  obtain ⟨⟨a0, a1, a2, a3, a4, a5⟩, e0, e1, e2, e3, e4, e5⟩ := six_cells hx5
  obtain ⟨⟨b0, b1, b2, b3, b4, b5⟩, g0, g1, g2, g3, g4, g5⟩ := six_cells HK5.out.res
  go_wp2
  refine bodyPost_ret (v := _) ?_ rfl (KyPre.fin (x := .mk [40] [] [] 0 [] l) (As := none) (cs := 0) (Ak := A5) (ck := c5) (kcs := cs5) HK5.out (by rw [HO.out]; rfl) (set6 _ _ _ _ _ _ _ _ _ _ _ _ _ _ _ HK5.out.res).2 ⟨rowC_nil _ _ _, ?_, ?_⟩)
  ·
   rw [results_cell_one rfl]
   simp [go_sem, b0, b1, b2, b3, b4, b5]
   exact ⟨rfl, rfl, rfl, rfl, rfl, rfl⟩
  ·
   exact (rowC_own HAk.out.own).more (fun i hi => ⟨by have := hi.1; omega, hi.2⟩)
  ·
   exact HAk.out.its.more (fun i hi => ⟨by have := (HAk.out.fr i hi).1; omega, (HAk.out.fr i hi).2.1⟩)
end Go.Proofs.YtgmfhldfdnnafaaGreatDoor
