/- A part of the proofs of the statements on chapter 21: walks of functions that they reach, and plain laws. What is proved is stated in the last text. Conditions: none of its own. -/
import Derived.Test.YtgmfhldfdnnafaaGreatDoorMs11
import Derived.Laws.OwnMore
import Derived.Deep.RegionHeld3
import Derived.Deep.AppendLies
import Derived.Stop.Asserts
import Derived.RegionTactic
import Derived.ChangeAlike
set_option maxHeartbeats 8000000
set_option maxRecDepth 100000
set_option linter.unusedSimpArgs false
set_option linter.unusedVariables false
namespace Go.Proofs.YtgmfhldfdnnafaaGreatDoor
open Go.RowKit
open Pl (Bs)
theorem sameItem_alt (x y : ItemP) : sameItemP x y = (decide (x.name = y.name) && (decide (x.spec.path = y.spec.path) && (decide (x.spec.what = y.spec.what) && (decide (x.spec.names = y.spec.names) && (decide (x.peek = y.peek) && (decide (x.part = y.part) && (decide (x.frm = y.frm) && decide (x.cnt = y.cnt)))))))) := by
 simp only [sameItemP, sameSpec]
 generalize decide (x.name = y.name) = b0
 generalize decide (x.spec.path = y.spec.path) = b1
 generalize decide (x.spec.what = y.spec.what) = b2
 generalize decide (x.spec.names = y.spec.names) = b3
 cases b0 <;> cases b1 <;> cases b2 <;> cases b3 <;> rfl
theorem rsItem_walk (x y : ItemP) (hx : SpecFit x.spec) (T T' : Nat → Prop) (vp vn vp' vn' : Value) (w : World) (hT : ∀ i, T i → i < w.heap.size) (hT' : ∀ i, T' i → i < w.heap.size) (h1 : SpecAt w T vp vn x.spec) (h2 : SpecAt w T' vp' vn' y.spec) :
  Calls Tryz.prog 40 #[.agg #[.string (str x.name), vp, .string (str x.spec.what), vn, .bool x.peek, .bool x.part, .int .i64 x.frm, .int .i64 x.cnt], .agg #[.string (str y.name), vp', .string (str y.spec.what), vn', .bool y.peek, .bool y.part, .int .i64 y.frm, .int .i64 y.cnt]] w fun e w' => e = .returned (.bool (sameItemP x y)) ∧ Below w.heap.size w w' := by
 obtain ⟨A, c, A2, c2, rfl, rfl, r1, r2⟩ := h1.open
 obtain ⟨B, d, B2, d2, rfl, rfl, s1, s2⟩ := h2.open
 have K1 : Hid (∀ W, Below w.heap.size w W → Calls Tryz.prog 80 #[.slice A x.spec.path.length c, .slice B y.spec.path.length d] W fun e w' => e = .returned (.bool (decide (x.spec.path = y.spec.path))) ∧ Below W.heap.size W w') := Lib.hid (fun W hB => (rsI_walk A B c d x.spec.path y.spec.path T T' W (r1.below hT hB) (s1.below hT' hB) hx.1).mono fun e w' ⟨h1, h2⟩ => ⟨h1, below_q h2⟩)
 have K3 : Hid (∀ W, Below w.heap.size w W → Calls Tryz.prog 38 #[.slice A2 x.spec.names.length c2, .slice B2 y.spec.names.length d2] W fun e w' => e = .returned (.bool (decide (x.spec.names = y.spec.names))) ∧ Below W.heap.size W w') := Lib.hid (fun W hB => (rsS_walk A2 B2 c2 d2 x.spec.names y.spec.names T T' W (r2.below hT hB) (s2.below hT' hB) hx.2).mono fun e w' ⟨h1, h2⟩ => ⟨h1, below_q h2⟩)
 have HV := Lib.hid (sameItem_alt x y)
 have e0 := str_beq x.name y.name
 have e2 := str_beq x.spec.what y.spec.what
 have e4 := bool_beq x.peek y.peek
 have e5 := bool_beq x.part y.part
 have e6 := int_beq x.frm y.frm
 have e7 := int_beq x.cnt y.cnt
 clear h1 h2 hT hT' hx r1 r2 s1 s2
 generalize sameItemP x y = R at *
 generalize decide (x.name = y.name) = b0 at *
 generalize decide (x.spec.path = y.spec.path) = b1 at *
 generalize decide (x.spec.what = y.spec.what) = b2 at *
 generalize decide (x.spec.names = y.spec.names) = b3 at *
 generalize decide (x.peek = y.peek) = b4 at *
 generalize decide (x.part = y.part) = b5 at *
 generalize decide (x.frm = y.frm) = b6 at *
 generalize decide (x.cnt = y.cnt) = b7 at *
 generalize str x.name = S1 at *
 generalize str y.name = S2 at *
 generalize str x.spec.what = S3 at *
 generalize str y.spec.what = S4 at *
 generalize x.spec.path.length = n1 at *
 generalize y.spec.path.length = n2 at *
 generalize x.spec.names.length = n3 at *
 generalize y.spec.names.length = n4 at *
 generalize x.peek = p1 at *
 generalize y.peek = p2 at *
 generalize x.part = p3 at *
 generalize y.part = p4 at *
 generalize x.frm = i1 at *
 generalize y.frm = i2 at *
 generalize x.cnt = i3 at *
 generalize y.cnt = i4 at *
 have HX0 := Lib.hid (box2 w (Obj.cells #[.string S1, .slice A n1 c, .string S3, .slice A2 n3 c2, .bool p1, .bool p3, .int .i64 i1, .int .i64 i3] 85) (Obj.cells #[.string S2, .slice B n2 d, .string S4, .slice B2 n4 d2, .bool p2, .bool p4, .int .i64 i2, .int .i64 i4] 85)).1
 have HB0 := Lib.hid (box2 w (Obj.cells #[.string S1, .slice A n1 c, .string S3, .slice A2 n3 c2, .bool p1, .bool p3, .int .i64 i1, .int .i64 i3] 85) (Obj.cells #[.string S2, .slice B n2 d, .string S4, .slice B2 n4 d2, .bool p2, .bool p4, .int .i64 i2, .int .i64 i4] 85)).2
 cases b0 with
 | false =>
  go_enter Tryz.func40, Tryz.ntmps40
  go_wp2
  go_ret
  exact ⟨by rw [HV.out]; rfl, HB0.out⟩
 | true =>
  cases b1 with
  | false =>
   go_enter Tryz.func40, Tryz.ntmps40
   go_wp2_with fail
   refine (K1.out _ HB0.out).mono ?_
   rintro e w2 ⟨rfl, hB2⟩
   have HB2 := Lib.hid (below_then HB0.out hB2)
   have HX2 := Lib.hid (box2_kept HX0.out hB2)
   clear hB2
   go_wp2
   go_ret
   exact ⟨by rw [HV.out]; rfl, HB2.out⟩
  | true =>
   cases b2 with
   | false =>
    go_enter Tryz.func40, Tryz.ntmps40
    go_wp2_with fail
    refine (K1.out _ HB0.out).mono ?_
    rintro e w2 ⟨rfl, hB2⟩
    have HB2 := Lib.hid (below_then HB0.out hB2)
    have HX2 := Lib.hid (box2_kept HX0.out hB2)
    clear hB2
    have x2 := obj_cell HX2.out.1 2 _ rfl
    have y2 := obj_cell HX2.out.2 2 _ rfl
    go_wp2
    go_ret
    exact ⟨by rw [HV.out]; rfl, HB2.out⟩
   | true =>
    cases b3 with
    | false =>
     go_enter Tryz.func40, Tryz.ntmps40
     go_wp2_with fail
     refine (K1.out _ HB0.out).mono ?_
     rintro e w2 ⟨rfl, hB2⟩
     have HB2 := Lib.hid (below_then HB0.out hB2)
     have HX2 := Lib.hid (box2_kept HX0.out hB2)
     clear hB2
     have x2 := obj_cell HX2.out.1 2 _ rfl
     have y2 := obj_cell HX2.out.2 2 _ rfl
     have x3 := obj_cell HX2.out.1 3 _ rfl
     have y3 := obj_cell HX2.out.2 3 _ rfl
     go_wp2_with fail
     refine (K3.out _ HB2.out).mono ?_
     rintro e w4 ⟨rfl, hB4⟩
     have HB4 := Lib.hid (below_then HB2.out hB4)
     have HX4 := Lib.hid (box2_kept HX2.out hB4)
     clear x2 y2 x3 y3
     clear hB4
     go_wp2
     go_ret
     exact ⟨by rw [HV.out]; rfl, HB4.out⟩
    | true =>
     cases b4 with
     | false =>
      go_enter Tryz.func40, Tryz.ntmps40
      go_wp2_with fail
      refine (K1.out _ HB0.out).mono ?_
      rintro e w2 ⟨rfl, hB2⟩
      have HB2 := Lib.hid (below_then HB0.out hB2)
      have HX2 := Lib.hid (box2_kept HX0.out hB2)
      clear hB2
      have x2 := obj_cell HX2.out.1 2 _ rfl
      have y2 := obj_cell HX2.out.2 2 _ rfl
      have x3 := obj_cell HX2.out.1 3 _ rfl
      have y3 := obj_cell HX2.out.2 3 _ rfl
      have x4 := obj_cell HX2.out.1 4 _ rfl
      have y4 := obj_cell HX2.out.2 4 _ rfl
      go_wp2_with fail
      refine (K3.out _ HB2.out).mono ?_
      rintro e w4 ⟨rfl, hB4⟩
      have HB4 := Lib.hid (below_then HB2.out hB4)
      have HX4 := Lib.hid (box2_kept HX2.out hB4)
      clear x2 y2 x3 y3 x4 y4
      clear hB4
      have x4 := obj_cell HX4.out.1 4 _ rfl
      have y4 := obj_cell HX4.out.2 4 _ rfl
      go_wp2
      go_ret
      exact ⟨by rw [HV.out]; rfl, HB4.out⟩
     | true =>
      cases b5 with
      | false =>
       go_enter Tryz.func40, Tryz.ntmps40
       go_wp2_with fail
       refine (K1.out _ HB0.out).mono ?_
       rintro e w2 ⟨rfl, hB2⟩
       have HB2 := Lib.hid (below_then HB0.out hB2)
       have HX2 := Lib.hid (box2_kept HX0.out hB2)
       clear hB2
       have x2 := obj_cell HX2.out.1 2 _ rfl
       have y2 := obj_cell HX2.out.2 2 _ rfl
       have x3 := obj_cell HX2.out.1 3 _ rfl
       have y3 := obj_cell HX2.out.2 3 _ rfl
       have x4 := obj_cell HX2.out.1 4 _ rfl
       have y4 := obj_cell HX2.out.2 4 _ rfl
       have x5 := obj_cell HX2.out.1 5 _ rfl
       have y5 := obj_cell HX2.out.2 5 _ rfl
       go_wp2_with fail
       refine (K3.out _ HB2.out).mono ?_
       rintro e w4 ⟨rfl, hB4⟩
       have HB4 := Lib.hid (below_then HB2.out hB4)
       have HX4 := Lib.hid (box2_kept HX2.out hB4)
       clear x2 y2 x3 y3 x4 y4 x5 y5
       clear hB4
       have x4 := obj_cell HX4.out.1 4 _ rfl
       have y4 := obj_cell HX4.out.2 4 _ rfl
       have x5 := obj_cell HX4.out.1 5 _ rfl
       have y5 := obj_cell HX4.out.2 5 _ rfl
       go_wp2
       go_ret
       exact ⟨by rw [HV.out]; rfl, HB4.out⟩
      | true =>
       cases b6 with
       | false =>
        go_enter Tryz.func40, Tryz.ntmps40
        go_wp2_with fail
        refine (K1.out _ HB0.out).mono ?_
        rintro e w2 ⟨rfl, hB2⟩
        have HB2 := Lib.hid (below_then HB0.out hB2)
        have HX2 := Lib.hid (box2_kept HX0.out hB2)
        clear hB2
        have x2 := obj_cell HX2.out.1 2 _ rfl
        have y2 := obj_cell HX2.out.2 2 _ rfl
        have x3 := obj_cell HX2.out.1 3 _ rfl
        have y3 := obj_cell HX2.out.2 3 _ rfl
        have x4 := obj_cell HX2.out.1 4 _ rfl
        have y4 := obj_cell HX2.out.2 4 _ rfl
        have x5 := obj_cell HX2.out.1 5 _ rfl
        have y5 := obj_cell HX2.out.2 5 _ rfl
        have x6 := obj_cell HX2.out.1 6 _ rfl
        have y6 := obj_cell HX2.out.2 6 _ rfl
        go_wp2_with fail
        refine (K3.out _ HB2.out).mono ?_
        rintro e w4 ⟨rfl, hB4⟩
        have HB4 := Lib.hid (below_then HB2.out hB4)
        have HX4 := Lib.hid (box2_kept HX2.out hB4)
        clear x2 y2 x3 y3 x4 y4 x5 y5 x6 y6
        clear hB4
        have x4 := obj_cell HX4.out.1 4 _ rfl
        have y4 := obj_cell HX4.out.2 4 _ rfl
        have x5 := obj_cell HX4.out.1 5 _ rfl
        have y5 := obj_cell HX4.out.2 5 _ rfl
        have x6 := obj_cell HX4.out.1 6 _ rfl
        have y6 := obj_cell HX4.out.2 6 _ rfl
        go_wp2
        go_ret
        exact ⟨by rw [HV.out]; rfl, HB4.out⟩
       | true =>
        cases b7 with
        | false =>
         go_enter Tryz.func40, Tryz.ntmps40
         go_wp2_with fail
         refine (K1.out _ HB0.out).mono ?_
         rintro e w2 ⟨rfl, hB2⟩
         have HB2 := Lib.hid (below_then HB0.out hB2)
         have HX2 := Lib.hid (box2_kept HX0.out hB2)
         clear hB2
         have x2 := obj_cell HX2.out.1 2 _ rfl
         have y2 := obj_cell HX2.out.2 2 _ rfl
         have x3 := obj_cell HX2.out.1 3 _ rfl
         have y3 := obj_cell HX2.out.2 3 _ rfl
         have x4 := obj_cell HX2.out.1 4 _ rfl
         have y4 := obj_cell HX2.out.2 4 _ rfl
         have x5 := obj_cell HX2.out.1 5 _ rfl
         have y5 := obj_cell HX2.out.2 5 _ rfl
         have x6 := obj_cell HX2.out.1 6 _ rfl
         have y6 := obj_cell HX2.out.2 6 _ rfl
         have x7 := obj_cell HX2.out.1 7 _ rfl
         have y7 := obj_cell HX2.out.2 7 _ rfl
         go_wp2_with fail
         refine (K3.out _ HB2.out).mono ?_
         rintro e w4 ⟨rfl, hB4⟩
         have HB4 := Lib.hid (below_then HB2.out hB4)
         have HX4 := Lib.hid (box2_kept HX2.out hB4)
         clear x2 y2 x3 y3 x4 y4 x5 y5 x6 y6 x7 y7
         clear hB4
         have x4 := obj_cell HX4.out.1 4 _ rfl
         have y4 := obj_cell HX4.out.2 4 _ rfl
         have x5 := obj_cell HX4.out.1 5 _ rfl
         have y5 := obj_cell HX4.out.2 5 _ rfl
         have x6 := obj_cell HX4.out.1 6 _ rfl
         have y6 := obj_cell HX4.out.2 6 _ rfl
         have x7 := obj_cell HX4.out.1 7 _ rfl
         have y7 := obj_cell HX4.out.2 7 _ rfl
         go_wp2
         go_ret
         exact ⟨by rw [HV.out]; rfl, HB4.out⟩
        | true =>
         go_enter Tryz.func40, Tryz.ntmps40
         go_wp2_with fail
         refine (K1.out _ HB0.out).mono ?_
         rintro e w2 ⟨rfl, hB2⟩
         have HB2 := Lib.hid (below_then HB0.out hB2)
         have HX2 := Lib.hid (box2_kept HX0.out hB2)
         clear hB2
         have x2 := obj_cell HX2.out.1 2 _ rfl
         have y2 := obj_cell HX2.out.2 2 _ rfl
         have x3 := obj_cell HX2.out.1 3 _ rfl
         have y3 := obj_cell HX2.out.2 3 _ rfl
         have x4 := obj_cell HX2.out.1 4 _ rfl
         have y4 := obj_cell HX2.out.2 4 _ rfl
         have x5 := obj_cell HX2.out.1 5 _ rfl
         have y5 := obj_cell HX2.out.2 5 _ rfl
         have x6 := obj_cell HX2.out.1 6 _ rfl
         have y6 := obj_cell HX2.out.2 6 _ rfl
         have x7 := obj_cell HX2.out.1 7 _ rfl
         have y7 := obj_cell HX2.out.2 7 _ rfl
         go_wp2_with fail
         refine (K3.out _ HB2.out).mono ?_
         rintro e w4 ⟨rfl, hB4⟩
         have HB4 := Lib.hid (below_then HB2.out hB4)
         have HX4 := Lib.hid (box2_kept HX2.out hB4)
         clear x2 y2 x3 y3 x4 y4 x5 y5 x6 y6 x7 y7
         clear hB4
         have x4 := obj_cell HX4.out.1 4 _ rfl
         have y4 := obj_cell HX4.out.2 4 _ rfl
         have x5 := obj_cell HX4.out.1 5 _ rfl
         have y5 := obj_cell HX4.out.2 5 _ rfl
         have x6 := obj_cell HX4.out.1 6 _ rfl
         have y6 := obj_cell HX4.out.2 6 _ rfl
         have x7 := obj_cell HX4.out.1 7 _ rfl
         have y7 := obj_cell HX4.out.2 7 _ rfl
         go_wp2
         go_ret
         exact ⟨by rw [HV.out]; rfl, HB4.out⟩
open Go.RowKit
open Pl (Bs)
theorem rsKeys_ne (A B : Option Addr) (n m c d : Nat) (w : World) (h : n ≠ m) :
  Calls Tryz.prog 41 #[.slice A n c, .slice B m d] w fun e w' => e = .returned (.bool false) ∧ w = w' := by
 have hh : ((n : Int) != (m : Int)) = true := by rw [bne_iff_ne]; omega
 go_enter Tryz.func41, Tryz.ntmps41
 go_wp2
 go_ret
 exact ⟨rfl, rfl⟩
def RefKeysCon (l : List KeyP) : Prop := ∀ (m : List KeyP) (A B : Option Addr) (c d : Nat) (cs cs' : List Value) (T T' : Nat → Prop) (w : World), l.length ≤ 1000000000 → KeysFit l → (∀ i, T i → i < w.heap.size) → (∀ i, T' i → i < w.heap.size) →
  RowC w T (.slice A l.length c) l.length cs → KeysC w T l cs → RowC w T' (.slice B m.length d) m.length cs' → KeysC w T' m cs' →
  Calls Tryz.prog 41 #[.slice A l.length c, .slice B m.length d] w fun e w' => e = .returned (.bool (sameKeysP l m)) ∧ Below w.heap.size w w'
theorem rsKeys_of (l : List KeyP) (hS : ∀ x ∈ l, RefKeysCon x.kids) : RefKeysCon l := by
 intro m A B c d cs cs' T T' w hl hf hT hT' hR hI hR' hI'
 rw [sameKeysP_eq]
 by_cases hlm : l.length = m.length
 ·
  obtain ⟨n, hn⟩ : ∃ n, l.length = n := ⟨_, rfl⟩
  have hh : ((n : Int) != (n : Int)) = false := by simp
  rw [← hlm, hn]
  by_cases h0 : n = 0
  ·
   have HV := Lib.hid (show sameL sameKeyP l m = true from sameL_all hlm (fun j x y h1 h2 => by have := (List.getElem?_eq_some_iff.1 h1).1; omega))
   subst h0
   clear hR hI hR' hI' hf hT hT' hlm hn hl hS
   go_enter Tryz.func41, Tryz.ntmps41
   go_wp2
   refine wp_loop_rounds 1 ?_
   rw [rounds_succ]
   go_wp2
   go_ret
   exact ⟨by rw [HV.out]; rfl, Below.refl _ _⟩
  ·
   obtain ⟨b1, rfl, t1, h1⟩ := hR.parts (by omega)
   obtain ⟨b2, rfl, t2, h2⟩ := hR'.parts (by omega)
   have lt1 := hT b1 t1
   have lt2 := hT' b2 t2
   have CX := Lib.hid (fun k (hk : k < n) (wr : World) (hB : Below w.heap.size w wr) => show ∃ x vp vn kcs, l[k]? = some x ∧ (x.set.length ≤ 1000000000 ∧ x.kids.length ≤ 1000000000 ∧ KeysFit x.kids) ∧ RefKeysCon x.kids ∧ KeyAt wr T vp vn kcs x ∧ ∀ j v, j < 6 → (keyC vp vn x)[j]? = some v → wr.cell? ⟨b1, k * 6 + j, none⟩ = some v by
    have hk' : k < l.length := by omega
    obtain ⟨vp, vn, kcs, g1, g2⟩ := hI.at k l[k] (List.getElem?_eq_getElem hk')
    exact ⟨l[k], vp, vn, kcs, List.getElem?_eq_getElem hk', hf.at _ (List.getElem_mem hk'), hS _ (List.getElem_mem hk'), g1.kept (fun i hi => hB.block i (hT i hi)), fun j v hj hv => (World.cell?_of_block (hB.block b1 lt1)).trans (h1 _ v (by rw [g2 j hj]; exact hv))⟩)
   have CY := Lib.hid (fun k (hk : k < n) (wr : World) (hB : Below w.heap.size w wr) => show ∃ x vp vn kcs, m[k]? = some x ∧ KeyAt wr T' vp vn kcs x ∧ ∀ j v, j < 6 → (keyC vp vn x)[j]? = some v → wr.cell? ⟨b2, k * 6 + j, none⟩ = some v by
    have hk' : k < m.length := by omega
    obtain ⟨vp, vn, kcs, g1, g2⟩ := hI'.at k m[k] (List.getElem?_eq_getElem hk')
    exact ⟨m[k], vp, vn, kcs, List.getElem?_eq_getElem hk', g1.kept (fun i hi => hB.block i (hT' i hi)), fun j v hj hv => (World.cell?_of_block (hB.block b2 lt2)).trans (h2 _ v (by rw [g2 j hj]; exact hv))⟩)
   have HL := Lib.hid (show l.length = n ∧ m.length = n from ⟨hn, by omega⟩)
   have HT := Lib.hid hT
   have HT' := Lib.hid hT'
   have hn' : n ≤ 1000000000 := by omega
   clear hR hI hR' hI' hf hT hT' hlm hn hl h1 h2 hS
   go_enter Tryz.func41, Tryz.ntmps41
   go_wp2
   go_loopw [15] (fun i wr => ∃ k : Nat, k ≤ n ∧ i = .int .i64 k ∧ Hid (∀ j x y, j < k → l[j]? = some x → m[j]? = some y → sameKeyP x y = true) ∧ Hid (Below w.heap.size w wr)) (fun i _ => n - (intOf i).toNat)
   case atStart => exact ⟨0, Nat.zero_le _, rfl, Lib.hid (fun j x y hj => absurd hj (Nat.not_lt_zero _)), Lib.hid (Below.refl _ _)⟩
   case round =>
    obtain ⟨k, hk, rfl, HA, HB⟩ := hrel
    by_cases hkn : k < n
    ·
     obtain ⟨x, vp, vn, kcs, hx, fx, kx, sx, cx⟩ := CX.out k hkn wr HB.out
     obtain ⟨y, vp', vn', kcs', hy, sy, cy⟩ := CY.out k hkn wr HB.out
     have hz := HB.out.size
     have x0 := cx 0 _ (by decide) rfl
     have x1 := cx 1 _ (by decide) rfl
     have x2 := cx 2 _ (by decide) rfl
     have x3 := cx 3 _ (by decide) rfl
     have x4 := cx 4 _ (by decide) rfl
     have x5 := cx 5 _ (by decide) rfl
     have y0 := cy 0 _ (by decide) rfl
     have y1 := cy 1 _ (by decide) rfl
     have y2 := cy 2 _ (by decide) rfl
     have y3 := cy 3 _ (by decide) rfl
     have y4 := cy 4 _ (by decide) rfl
     have y5 := cy 5 _ (by decide) rfl
     rw [Nat.add_zero] at x0 y0
     have l1 : b1 < wr.heap.size := by omega
     have l2 : b2 < wr.heap.size := by omega
     obtain ⟨A1, c1, A2, c2, rfl, rfl, r1, r2, r3⟩ := sx.open
     obtain ⟨A3, c3, A4, c4, rfl, rfl, s1, s2, s3⟩ := sy.open
     have hTr : ∀ i, T i → i < wr.heap.size := fun i hi => Nat.lt_of_lt_of_le (HT.out i hi) hz
     have hTr' : ∀ i, T' i → i < wr.heap.size := fun i hi => Nat.lt_of_lt_of_le (HT'.out i hi) hz
     have K4 : Hid (∀ W, Below wr.heap.size wr W → Calls Tryz.prog 39 #[.slice A1 x.set.length c1, .slice A3 y.set.length c3] W fun e w' => e = .returned (.bool (decide (x.set = y.set))) ∧ Below W.heap.size W w') := Lib.hid (fun W hB => (rsR_walk A1 A3 c1 c3 x.set y.set T T' W (r1.below hTr hB) (s1.below hTr' hB) (by have := fx.1; omega)).mono fun e w' ⟨h1, h2⟩ => ⟨h1, below_q h2⟩)
     have K5 : Hid (∀ W, Below wr.heap.size wr W → Calls Tryz.prog 41 #[.slice A2 x.kids.length c2, .slice A4 y.kids.length c4] W fun e w' => e = .returned (.bool (sameKeysP x.kids y.kids)) ∧ Below W.heap.size W w') := Lib.hid (fun W hB => kx y.kids A2 A4 c2 c4 kcs kcs' T T' W fx.2.1 fx.2.2 (fun i hi => Nat.lt_of_lt_of_le (hTr i hi) hB.size) (fun i hi => Nat.lt_of_lt_of_le (hTr' i hi) hB.size) (r2.below hTr hB) (r3.kept (fun i hi => hB.block i (hTr i hi))) (s2.below hTr' hB) (s3.kept (fun i hi => hB.block i (hTr' i hi))))
     have HXY := Lib.hid (show l[k]? = some x ∧ m[k]? = some y from ⟨hx, hy⟩)
     have HNo := Lib.hid (fun (hs : sameKeyP x y = false) => show sameL sameKeyP l m = false from sameL_not HXY.out.1 HXY.out.2 hs)
     have HNx := Lib.hid (fun (hs : sameKeyP x y = true) => show ∀ j x y, j < k + 1 → l[j]? = some x → m[j]? = some y → sameKeyP x y = true from fun j x' y' hj h1 h2 => by
      by_cases hjk : j = k
      ·
       subst hjk
       obtain rfl := Option.some.inj (HXY.out.1.symm.trans h1)
       obtain rfl := Option.some.inj (HXY.out.2.symm.trans h2)
       exact hs
      ·
       exact HA.out j x' y' (by omega) h1 h2)
     have HEq := Lib.hid (sameKeyP_eq x y)
     have e0 := str_beq x.name y.name
     have e1 := str_beq x.text y.text
     have e2 := str_beq x.field y.field
     have e3 : (x.n != y.n) = !decide (x.n = y.n) := by rw [bne, int_beq]
     clear hx hy fx kx sx sy cx cy r1 r2 r3 s1 s2 s3 hTr hTr' HXY
     generalize sameKeyP x y = R at *
     generalize decide (x.name = y.name) = b0 at *
     generalize decide (x.text = y.text) = b1' at *
     generalize decide (x.field = y.field) = b2' at *
     generalize decide (x.n = y.n) = b3 at *
     generalize decide (x.set = y.set) = b4 at *
     generalize sameKeysP x.kids y.kids = b5 at *
     generalize str x.name = S1 at *
     generalize str y.name = S2 at *
     generalize str x.text = S3 at *
     generalize str y.text = S4 at *
     generalize str x.field = S5 at *
     generalize str y.field = S6 at *
     generalize x.n = i1 at *
     generalize y.n = i2 at *
     generalize x.set.length = n1 at *
     generalize y.set.length = n2 at *
     generalize x.kids.length = n3 at *
     generalize y.kids.length = n4 at *
     have HX0 := Lib.hid (box2 wr (Obj.cells #[.string S1, .string S3, .string S5, .int .i64 i1, .slice A1 n1 c1, .slice A2 n3 c2] 104) (Obj.cells #[.string S2, .string S4, .string S6, .int .i64 i2, .slice A3 n2 c3, .slice A4 n4 c4] 104)).1
     have HB2 := Lib.hid (box2 wr (Obj.cells #[.string S1, .string S3, .string S5, .int .i64 i1, .slice A1 n1 c1, .slice A2 n3 c2] 104) (Obj.cells #[.string S2, .string S4, .string S6, .int .i64 i2, .slice A3 n2 c3, .slice A4 n4 c4] 104)).2
     cases b0 with
     | false =>
      have HV := Lib.hid (HNo.out (by rw [HEq.out]; rfl))
      clear HEq
      go_wp2
      go_ret
      exact ⟨by rw [HV.out]; rfl, below_then HB.out HB2.out⟩
     | true =>
      cases b1' with
      | false =>
       have HV := Lib.hid (HNo.out (by rw [HEq.out]; rfl))
       clear HEq
       go_wp2
       go_ret
       exact ⟨by rw [HV.out]; rfl, below_then HB.out HB2.out⟩
      | true =>
       cases b2' with
       | false =>
        have HV := Lib.hid (HNo.out (by rw [HEq.out]; rfl))
        clear HEq
        go_wp2
        go_ret
        exact ⟨by rw [HV.out]; rfl, below_then HB.out HB2.out⟩
       | true =>
        cases b3 with
        | false =>
         have HV := Lib.hid (HNo.out (by rw [HEq.out]; rfl))
         clear HEq
         go_wp2
         go_ret
         exact ⟨by rw [HV.out]; rfl, below_then HB.out HB2.out⟩
        | true =>
         cases b4 with
         | false =>
          have HV := Lib.hid (HNo.out (by rw [HEq.out]; rfl))
          clear HEq
          go_wp2_with fail
          refine (K4.out _ HB2.out).mono ?_
          rintro e w5 ⟨rfl, hB5⟩
          have HB5 := Lib.hid (below_then HB2.out hB5)
          have HX5 := Lib.hid (box2_kept HX0.out hB5)
          clear hB5
          go_wp2
          go_ret
          exact ⟨by rw [HV.out]; rfl, below_then HB.out HB5.out⟩
         | true =>
          cases b5 with
          | false =>
           have HV := Lib.hid (HNo.out (by rw [HEq.out]; rfl))
           clear HEq
           go_wp2_with fail
           refine (K4.out _ HB2.out).mono ?_
           rintro e w5 ⟨rfl, hB5⟩
           have HB5 := Lib.hid (below_then HB2.out hB5)
           have HX5 := Lib.hid (box2_kept HX0.out hB5)
           clear hB5
           have x5 := obj_cell HX5.out.1 5 _ rfl
           have y5 := obj_cell HX5.out.2 5 _ rfl
           go_wp2_with fail
           refine (K5.out _ HB5.out).mono ?_
           rintro e w6 ⟨rfl, hB6⟩
           have HB6 := Lib.hid (below_then HB5.out hB6)
           clear hB6
           go_wp2
           go_ret
           exact ⟨by rw [HV.out]; rfl, below_then HB.out HB6.out⟩
          | true =>
           have HN := Lib.hid (HNx.out (by rw [HEq.out]; rfl))
           clear HEq
           go_wp2_with fail
           refine (K4.out _ HB2.out).mono ?_
           rintro e w5 ⟨rfl, hB5⟩
           have HB5 := Lib.hid (below_then HB2.out hB5)
           have HX5 := Lib.hid (box2_kept HX0.out hB5)
           clear hB5
           have x5 := obj_cell HX5.out.1 5 _ rfl
           have y5 := obj_cell HX5.out.2 5 _ rfl
           go_wp2_with fail
           refine (K5.out _ HB5.out).mono ?_
           rintro e w6 ⟨rfl, hB6⟩
           have HB6 := Lib.hid (below_then HB5.out hB6)
           clear hB6
           go_wp2
           go_roundw
           case rel => exact ⟨k + 1, by omega, by go_num, HN, Lib.hid (below_then HB.out HB6.out)⟩
           case measure => simp [intOf]; omega
    ·
     obtain rfl : k = n := by omega
     have HV := Lib.hid (show sameL sameKeyP l m = true from sameL_all (by rw [HL.out.1, HL.out.2]) (fun j x y h1 h2 => HA.out j x y (by have := (List.getElem?_eq_some_iff.1 h1).1; have := HL.out.1; omega) h1 h2))
     go_wp2
     go_ret
     exact ⟨by rw [HV.out]; rfl, HB.out⟩
 ·
  refine (rsKeys_ne A B _ _ c d w hlm).mono ?_
  rintro e w' ⟨rfl, rfl⟩
  exact ⟨congrArg (fun b => Ending.returned (.bool b)) (sameL_len hlm).symm, Below.refl _ _⟩
theorem rsKeys_all : ∀ (n : Nat) (l : List KeyP), SizeOf.sizeOf l ≤ n → RefKeysCon l := by
 intro n
 induction n with
 | zero => intro l h; cases l <;> simp at h
 | succ n ih =>
  intro l h
  refine rsKeys_of l (fun x hx => ih _ ?_)
  have h1 := List.sizeOf_lt_of_mem hx
  have h2 : SizeOf.sizeOf x.kids < SizeOf.sizeOf x := by cases x; simp [KeyP.kids]; omega
  omega
theorem rsKeys_walk (l : List KeyP) : RefKeysCon l := rsKeys_all _ l (Nat.le_refl _)
open Go.RowKit
open Pl (Bs)
theorem infoItemR : (Tryz.prog.info? 85).map (fun i => (i.zero, i.size, i.bytes)) = some (some (.agg #[.string ⟨#[]⟩, .slice none 0 0, .string ⟨#[]⟩, .slice none 0 0, .bool false, .bool false, .int .i64 0, .int .i64 0]), 8, 104) := by kernel_rfl
theorem items_take {w : World} {T : Nat → Prop} : ∀ {l : List ItemP} {cs : List Value}, ItemsC w T l cs → ∀ (k : Nat) (x : ItemP), l[k]? = some x → ∃ vp vn, SpecAt w T vp vn x.spec ∧ (∀ j, j < 8 → cs[k * 8 + j]? = (itemC vp vn x)[j]?) ∧ cs.take ((k + 1) * 8) = cs.take (k * 8) ++ itemC vp vn x
 | _, _, .nil, k, x, h => by simp at h
 | _, _, .cons (x := y) (vp := vp) (vn := vn) (l := l) (cs := cs) h1 h2, 0, x, h => by
  simp only [List.getElem?_cons_zero, Option.some.injEq] at h
  subst h
  refine ⟨vp, vn, h1, fun j hj => ?_, ?_⟩
  ·
   rw [Nat.zero_mul, Nat.zero_add, List.getElem?_append_left (by simpa [itemC] using hj)]
  ·
   rw [Nat.zero_mul, List.take_zero, List.nil_append]
   exact List.take_left' (by simp [itemC])
 | _, _, .cons (x := y) (vp := vp) (vn := vn) (l := l) (cs := cs) h1 h2, k + 1, x, h => by
  obtain ⟨vp', vn', g1, g2, g3⟩ := items_take h2 k x (by simpa using h)
  refine ⟨vp', vn', g1, fun j hj => ?_, ?_⟩
  ·
   rw [← g2 j hj, List.getElem?_append_right (by simp [itemC]; omega)]
   congr 1
   simp [itemC]; omega
  ·
   have e1 : (k + 1 + 1) * 8 = (itemC vp vn y).length + (k + 1) * 8 := by simp [itemC]; omega
   have e2 : (k + 1) * 8 = (itemC vp vn y).length + k * 8 := by simp [itemC]; omega
   rw [e1, List.take_length_add_append, g3, e2, List.take_length_add_append, List.append_assoc]
theorem cvItems_walk (l : List ItemP) (A : Option Addr) (c : Nat) (cs : List Value) (T : Nat → Prop) (w : World) (hl : l.length ≤ 1000000000) (hT : ∀ i, T i → i < w.heap.size) (hR : RowC w T (.slice A l.length c) l.length cs) (hI : ItemsC w T l cs) :
  Calls Tryz.prog 42 #[.slice A l.length c] w fun e w' => Below w.heap.size w w' ∧ ∃ A' c', e = .returned (.slice A' l.length c') ∧ RowC w' (newT w w') (.slice A' l.length c') l.length cs := by
 obtain ⟨i0, hi, hz0, hz1, hz2⟩ := info_parts infoItemR
 have CX := Lib.hid (fun k (hk : k < l.length) (wr : World) (hB : Below w.heap.size w wr) => show ∃ b1 z vp vn, A = some ⟨b1, 0, none⟩ ∧ b1 < w.heap.size ∧ SpecAt wr T vp vn z.spec ∧ (∀ j v, j < 8 → (itemC vp vn z)[j]? = some v → wr.cell? ⟨b1, k * 8 + j, none⟩ = some v) ∧ cs.take ((k + 1) * 8) = cs.take (k * 8) ++ itemC vp vn z by
  obtain ⟨b1, hA, t1, h1⟩ := hR.parts (by omega)
  obtain ⟨vp, vn, g1, g2, g3⟩ := items_take hI k l[k] (List.getElem?_eq_getElem hk)
  exact ⟨b1, l[k], vp, vn, hA, hT b1 t1, g1.kept (fun i hi => hB.block i (hT i hi)), fun j v hj hv => (World.cell?_of_block (hB.block b1 (hT b1 t1))).trans (h1 _ v (by rw [g2 j hj]; exact hv)), g3⟩)
 have HLen := Lib.hid hI.len
 obtain ⟨n, hn⟩ : ∃ n, l.length = n := ⟨_, rfl⟩
 rw [hn] at hl CX ⊢
 have HOw0 := Lib.hid (show (w.alloc (Obj.cells #[] 85)).ownsRow w.heap.size 85 8 (.slice (some ⟨w.heap.size, 0, none⟩) 0 0) 0 [] from World.ownsRow_lit w #[] 0 (Nat.le_refl _) (by decide) (by simp))
 have HLn := Lib.hid hn
 clear hR hI hT hn
 go_enter Tryz.func42, Tryz.ntmps42
 go_wp2
 go_loopw [3, 9] (fun u i wr => ∃ j : Nat, j ≤ n ∧ i = .int .i64 j ∧ Hid (wr.ownsRow w.heap.size 85 8 u j (cs.take (j * 8))) ∧ Hid (Below w.heap.size w wr)) (fun _ i _ => n - (intOf i).toNat)
 case atStart => exact ⟨0, Nat.zero_le _, rfl, Lib.hid (by rw [Nat.zero_mul, List.take_zero]; exact HOw0.out), Lib.hid ((Below.refl _ _).alloc (Nat.le_refl _) _)⟩
 case round =>
  obtain ⟨j, hj, rfl, HO, HB⟩ := hrel
  by_cases hjn : j < n
  ·
   obtain ⟨b1, x, vp, vn, hA, lt1, sz, cz, hcs⟩ := CX.out j hjn wr HB.out
   subst hA
   have x0 := cz 0 _ (by decide) rfl
   have x1 := cz 1 _ (by decide) rfl
   have x2 := cz 2 _ (by decide) rfl
   have x3 := cz 3 _ (by decide) rfl
   have x4 := cz 4 _ (by decide) rfl
   have x5 := cz 5 _ (by decide) rfl
   have x6 := cz 6 _ (by decide) rfl
   have x7 := cz 7 _ (by decide) rfl
   rw [Nat.add_zero] at x0
   obtain ⟨A1, c1, A2, c2, rfl, rfl, _, _⟩ := sz.open
   have HNx := Lib.hid (show cs.take ((j + 1) * 8) = cs.take (j * 8) ++ [.string (str x.name), .slice A1 x.spec.path.length c1, .string (str x.spec.what), .slice A2 x.spec.names.length c2, .bool x.peek, .bool x.part, .int .i64 x.frm, .int .i64 x.cnt] from hcs)
   have zw := HB.out.size
   have lt2 : b1 < wr.heap.size := by omega
   clear hcs cz sz
   generalize str x.name = S1 at *
   generalize str x.spec.what = S2 at *
   generalize x.spec.path.length = n1 at *
   generalize x.spec.names.length = n2 at *
   generalize x.peek = p1 at *
   generalize x.part = p2 at *
   generalize x.frm = i1 at *
   generalize x.cnt = i2 at *
   go_wp2_with (at_builtin; refine wpList_append_own _ rfl _ _ 40 rfl w.heap.size 85 i0 (.agg #[.string ⟨#[]⟩, .slice none 0 0, .string ⟨#[]⟩, .slice none 0 0, .bool false, .bool false, .int .i64 0, .int .i64 0]) 8 104 Tryz.underlying40 hi hz0 hz1 hz2 rfl (by decide) _ j _ rfl ((HO.out.alloc _).alloc _) ⟨wr.heap.size + 1, 0, none⟩ 1 1 [.string S1, .slice A1 n1 c1, .string S2, .slice A2 n2 c2, .bool p1, .bool p2, .int .i64 i1, .int .i64 i2] rfl rfl ?a0 ?b0 ?c0 ?d0 ?e0 ?_)
   case a0 => exact World.news_of_block (by have := World.alloc_heap_new (wr.alloc (Obj.cells #[.string S1, .slice A1 n1 c1, .string S2, .slice A2 n2 c2, .bool p1, .bool p2, .int .i64 i1, .int .i64 i2] 78)) (Obj.cells #[.string S1, .slice A1 n1 c1, .string S2, .slice A2 n2 c2, .bool p1, .bool p2, .int .i64 i1, .int .i64 i2] 85); rw [World.size_alloc] at this; exact this)
   case b0 => simp [Value.oneCell']
   case c0 => unfold maxLen; omega
   case d0 => omega
   case e0 => simp; omega
   intro u' w9 hown hgr _
   have HO9 := Lib.hid hown
   have hlt := fun k e => (HO.out.lt k e).1
   have HB9 := Lib.hid (((HB.out.alloc zw (Obj.cells #[.string S1, .slice A1 n1 c1, .string S2, .slice A2 n2 c2, .bool p1, .bool p2, .int .i64 i1, .int .i64 i2] 78)).alloc (by simp; omega) (Obj.cells #[.string S1, .slice A1 n1 c1, .string S2, .slice A2 n2 c2, .bool p1, .bool p2, .int .i64 i1, .int .i64 i2] 85)).grown hgr (by simp; omega) hlt)
   clear hown hgr hlt
   go_wp2
   go_roundw
   case rel => exact ⟨j + 1, by omega, by go_num, Lib.hid (by rw [HNx.out]; exact HO9.out), HB9⟩
   case measure => simp [intOf]; omega
  ·
   obtain rfl : j = n := by omega
   have hO := HO.out
   rw [List.take_of_length_le (by have := HLen.out; have := HLn.out; omega)] at hO
   obtain ⟨A9, c9, hu, _⟩ := rowC_own hO
   subst hu
   have HO := Lib.hid hO
   clear hO
   go_wp2
   go_ret
   exact ⟨HB.out, A9, c9, rfl, rowC_own HO.out⟩
open Go.RowKit
open Pl (Bs)
theorem t0 {α : Type _} (l : List α) (i : Nat) (h : i < l.toArray.size) : l.toArray[i] = l[i]'(by simpa using h) := List.getElem_toArray h
theorem t1 {α : Type _} (a : α) (l : List α) (i : Nat) (h : i + 1 < (a :: l).length) : (a :: l)[i + 1] = l[i]'(by simpa using h) := List.getElem_cons_succ ..
theorem t2 {α : Type _} (a : α) (l : List α) (h : 0 < (a :: l).length) : (a :: l)[0] = a := List.getElem_cons_zero ..
theorem t3 {α : Type _} (l : List α) (i : Nat) (a : α) : l.toArray.setIfInBounds i a = (l.set i a).toArray := by simp
theorem t4 {α : Type _} (x : α) (xs : List α) (a : α) : (x :: xs).set 0 a = a :: xs := rfl
theorem t5 {α : Type _} (x : α) (xs : List α) (n : Nat) (a : α) : (x :: xs).set (n + 1) a = x :: xs.set n a := rfl
def NotAll (N : Bs) : List Bs → Prop
 | [] => True
 | L :: r => ((str N).toList == L) = false ∧ NotAll N r
theorem notAll {N : Bs} : ∀ {Ls : List Bs}, (∀ L ∈ Ls, N ≠ L) → NotAll N Ls
 | [], _ => trivial
 | L :: r, h => ⟨str_neb (h L (by simp)), notAll (fun x hx => h x (by simp [hx]))⟩
theorem strEq {N L : Bs} (h : N = L) : ((str N).toList == L) = true := by rw [h, Lib.toList_data]; exact beq_self_eq_true _
def kNs : List Bs := [[65, 76, 76], [65, 78, 83, 87, 69, 82, 69, 68], [68, 69, 76, 69, 84, 69, 68], [68, 82, 65, 70, 84], [70, 76, 65, 71, 71, 69, 68], [83, 69, 69, 78], [85, 78, 65, 78, 83, 87, 69, 82, 69, 68], [85, 78, 68, 69, 76, 69, 84, 69, 68], [85, 78, 68, 82, 65, 70, 84], [85, 78, 70, 76, 65, 71, 71, 69, 68], [85, 78, 83, 69, 69, 78], [66, 69, 70, 79, 82, 69], [79, 78], [83, 73, 78, 67, 69], [83, 69, 78, 84, 66, 69, 70, 79, 82, 69], [83, 69, 78, 84, 79, 78], [83, 69, 78, 84, 83, 73, 78, 67, 69], [76, 65, 82, 71, 69, 82], [83, 77, 65, 76, 76, 69, 82], [66, 67, 67], [66, 79, 68, 89], [67, 67], [70, 82, 79, 77], [83, 85, 66, 74, 69, 67, 84], [84, 69, 88, 84], [84, 79], [72, 69, 65, 68, 69, 82], [78, 79, 84], [79, 82], [85, 73, 68]]
def rNs : List Bs := [[67, 65, 80, 65, 66, 73, 76, 73, 84, 89], [78, 79, 79, 80], [76, 79, 71, 79, 85, 84], [67, 72, 69, 67, 75], [67, 76, 79, 83, 69], [69, 88, 80, 85, 78, 71, 69], [76, 79, 71, 73, 78], [82, 69, 78, 65, 77, 69], [83, 69, 76, 69, 67, 84], [69, 88, 65, 77, 73, 78, 69], [67, 82, 69, 65, 84, 69], [68, 69, 76, 69, 84, 69], [83, 85, 66, 83, 67, 82, 73, 66, 69], [85, 78, 83, 85, 66, 83, 67, 82, 73, 66, 69], [76, 73, 83, 84], [76, 83, 85, 66], [83, 84, 65, 84, 85, 83], [65, 80, 80, 69, 78, 68], [67, 79, 80, 89], [83, 84, 79, 82, 69], [70, 69, 84, 67, 72], [83, 69, 65, 82, 67, 72]]
open Go.RowKit
open Pl (Bs)
theorem infoKeyR : (Tryz.prog.info? 104).map (fun i => (i.zero, i.size, i.bytes)) = some (some (.agg #[.string ⟨#[]⟩, .string ⟨#[]⟩, .string ⟨#[]⟩, .int .i64 0, .slice none 0 0, .slice none 0 0]), 6, 104) := by kernel_rfl
structure CvSt (w : World) (T : Nat → Prop) (l : List KeyP) (j : Nat) (u : Value) (cs : List Value) (W : World) : Prop where
 below : Below w.heap.size w W
 own : W.ownsRow w.heap.size 104 6 u j cs
 its : ∃ Tj : Nat → Prop, KeysC W Tj (l.take j) cs ∧ ∀ i, Tj i → (T i ∨ w.heap.size ≤ i ∧ i < W.heap.size ∧ u.ownBlock ≠ some i)
theorem CvSt.app {w : World} {T : Nat → Prop} {l : List KeyP} {j : Nat} {u : Value} {cs : List Value} {wr W0 W1 W9 : World} {o : Obj} {x : KeyP} {vs vk : Value} {kcs : List Value} {g cap : Nat}
  (st : CvSt w T l j u cs wr) (hT : ∀ i, T i → i < w.heap.size) (hx : l[j]? = some x) (h0 : Below wr.heap.size wr W0) (h1 : Below W0.heap.size W0 W1)
  (hset : RowC W1 T vs x.set.length (flat x.set)) (hrow : RowC W1 (newT W0 W1) vk x.kids.length kcs) (hkids : KeysC W1 (fun i => T i ∨ newT W0 W1 i) x.kids kcs)
  (hown : W9.ownsRow w.heap.size 104 6 (.slice (some ⟨g, 0, none⟩) (j + 1) cap) (j + 1) (cs ++ keyC vs vk x)) (hgr : (W1.alloc o).grownBy W9 u.ownBlock) (hat : u.ownBlock = some g ∨ g = W1.heap.size + 1) :
  CvSt w T l (j + 1) (.slice (some ⟨g, 0, none⟩) (j + 1) cap) (cs ++ keyC vs vk x) W9 := by
 have hB := st.below
 have z0 := hB.size
 have z1 := h0.size
 have z2 := h1.size
 have z3 := hgr.size
 simp at z3
 have hu : ∀ k, u.ownBlock = some k → w.heap.size ≤ k ∧ k < wr.heap.size := fun k e => st.own.lt k e
 obtain ⟨Tj, hK, hTj⟩ := st.its
 have hB1 : Below w.heap.size w W1 := below_then hB (below_then h0 h1)
 have hbl : ∀ i, i < W1.heap.size → u.ownBlock ≠ some i → W9.heap[i]? = W1.heap[i]? := fun i hi hne => (hgr.block i (by simp; omega) (fun e => hne e.symm)).trans (Below.heap_alloc _ _ _ hi)
 have hall : ∀ i, (Tj i ∨ T i ∨ newT W0 W1 i) → i < W1.heap.size ∧ u.ownBlock ≠ some i := fun i hi => by
  rcases hi with hi | hi | hi
  ·
   rcases hTj i hi with h | h
   ·
    have := hT i h; exact ⟨by omega, fun e => by have := hu i e; omega⟩
   ·
    exact ⟨by omega, h.2.2⟩
  ·
   have := hT i hi; exact ⟨by omega, fun e => by have := hu i e; omega⟩
  ·
   exact ⟨hi.2, fun e => by have := hu i e; have := hi.1; omega⟩
 have hK1 : KeysC W1 Tj (l.take j) cs := hK.kept (fun i hi => by
  have hlt : i < wr.heap.size := by
   rcases hTj i hi with h | h
   ·
    have := hT i h; omega
   ·
    exact h.2.1
  exact (below_then h0 h1).block i hlt)
 refine ⟨(hB1.alloc (by omega) o).grown hgr (by simp; omega) (fun k e => (hu k e).1), hown, fun i => Tj i ∨ T i ∨ newT W0 W1 i, ?_, fun i hi => ?_⟩
 ·
  rw [List.take_add_one, hx]
  refine KeysC.kept (w := W1) (KeysC.snoc (hK1.more (fun i hi => .inl hi)) (hset.more (fun i hi => .inr (.inl hi))) (hrow.more (fun i hi => .inr (.inr hi))) (hkids.more (fun i hi => .inr hi))) (fun i hi => ?_)
  have := hall i hi
  exact hbl i this.1 this.2
 ·
  have ha := hall i hi
  by_cases hti : T i
  ·
   exact .inl hti
  ·
   refine .inr ⟨?_, by omega, fun e => ?_⟩
   ·
    rcases hi with hi | hi | hi
    ·
     rcases hTj i hi with h | h
     ·
      exact absurd h hti
     ·
      exact h.1
    ·
     exact absurd hi hti
    ·
     have := hi.1; omega
   ·
    have e' : g = i := by simpa [Value.ownBlock] using e
    rcases hat with h | h
    ·
     exact ha.2 (by rw [h, e'])
    ·
     omega
def CvKeysCon (l : List KeyP) : Prop := ∀ (A : Option Addr) (c : Nat) (cs : List Value) (T : Nat → Prop) (w : World), l.length ≤ 1000000000 → KeysFit l → (∀ i, T i → i < w.heap.size) → RowC w T (.slice A l.length c) l.length cs → KeysC w T l cs →
  Calls Tryz.prog 43 #[.slice A l.length c] w fun e w' => Below w.heap.size w w' ∧ ∃ A' c' cs', e = .returned (.slice A' l.length c') ∧ RowC w' (newT w w') (.slice A' l.length c') l.length cs' ∧ KeysC w' (fun i => T i ∨ newT w w' i) l cs'
theorem cvKeys_of (l : List KeyP) (hS : ∀ x ∈ l, CvKeysCon x.kids) : CvKeysCon l := by
 intro A c cs T w hl hf hT hR hI
 obtain ⟨i0, hi, hz0, hz1, hz2⟩ := info_parts infoKeyR
 have CX := Lib.hid (fun k (hk : k < l.length) (wr : World) (hB : Below w.heap.size w wr) => show ∃ b1 z vp vn kcs, A = some ⟨b1, 0, none⟩ ∧ b1 < w.heap.size ∧ l[k]? = some z ∧ (z.set.length ≤ 1000000000 ∧ z.kids.length ≤ 1000000000 ∧ KeysFit z.kids) ∧ CvKeysCon z.kids ∧ KeyAt wr T vp vn kcs z ∧ ∀ j v, j < 6 → (keyC vp vn z)[j]? = some v → wr.cell? ⟨b1, k * 6 + j, none⟩ = some v by
  obtain ⟨b1, hA, t1, h1⟩ := hR.parts (by omega)
  obtain ⟨vp, vn, kcs, g1, g2⟩ := hI.at k l[k] (List.getElem?_eq_getElem hk)
  exact ⟨b1, l[k], vp, vn, kcs, hA, hT b1 t1, List.getElem?_eq_getElem hk, hf.at _ (List.getElem_mem hk), hS _ (List.getElem_mem hk), g1.kept (fun i hi => hB.block i (hT i hi)), fun j v hj hv => (World.cell?_of_block (hB.block b1 (hT b1 t1))).trans (h1 _ v (by rw [g2 j hj]; exact hv))⟩)
 obtain ⟨n, hn⟩ : ∃ n, l.length = n := ⟨_, rfl⟩
 rw [hn] at hl CX ⊢
 have HSt0 : Hid (CvSt w T l 0 (.slice (some ⟨w.heap.size, 0, none⟩) 0 0) [] (w.alloc (Obj.cells #[] 104))) := Lib.hid ⟨(Below.refl _ _).alloc (Nat.le_refl _) _, World.ownsRow_lit w #[] 0 (Nat.le_refl _) (by decide) (by simp), fun _ => False, .nil, fun i h => h.elim⟩
 have HLn := Lib.hid hn
 have HT := Lib.hid hT
 clear hR hI hT hn hf hS
 go_enter Tryz.func43, Tryz.ntmps43
 go_wp2
 go_loopw [3, 9] (fun u i wr => ∃ (j : Nat) (v : Value) (csj : List Value), j ≤ n ∧ i = .int .i64 j ∧ u = v ∧ Hid (CvSt w T l j v csj wr)) (fun _ i _ => n - (intOf i).toNat)
 case atStart => exact ⟨0, _, [], Nat.zero_le _, rfl, rfl, HSt0⟩
 case round =>
  obtain ⟨j, u, csj, hj, rfl, hu0, HSt⟩ := hrel
  have hu0 := hu0.symm
  subst hu0
  by_cases hjn : j < n
  ·
   obtain ⟨b1, x, vp, vn, kcs, hA, lt1, hxl, fx, kx, sx, cx⟩ := CX.out j hjn wr HSt.out.below
   subst hA
   have zw := HSt.out.below.size
   have x0 := cx 0 _ (by decide) rfl
   have x1 := cx 1 _ (by decide) rfl
   have x2 := cx 2 _ (by decide) rfl
   have x3 := cx 3 _ (by decide) rfl
   have x4 := cx 4 _ (by decide) rfl
   have x5 := cx 5 _ (by decide) rfl
   rw [Nat.add_zero] at x0
   have lt2 : b1 < wr.heap.size := by omega
   obtain ⟨A1, c1, A2, c2, rfl, rfl, r1, r2, r3⟩ := sx.open
   have hTr : ∀ i, T i → i < wr.heap.size := fun i hi => Nat.lt_of_lt_of_le (HT.out i hi) zw
   have HO := Lib.hid HSt.out.own
   have K := Lib.hid (fun W (hB : Below wr.heap.size wr W) => kx A2 c2 kcs T W fx.2.1 fx.2.2 (fun i hi => Nat.lt_of_lt_of_le (hTr i hi) hB.size) (r2.below hTr hB) (r3.kept (fun i hi => hB.block i (hTr i hi))))
   have HFin := Lib.hid (fun (W0 W1 W9 : World) (o : Obj) (vk : Value) (kcs9 : List Value) (g cap : Nat) (h0 : Below wr.heap.size wr W0) (h1 : Below W0.heap.size W0 W1) => CvSt.app (o := o) (vk := vk) (kcs := kcs9) (W9 := W9) (g := g) (cap := cap) HSt.out HT.out hxl h0 h1 (r1.kept (fun i hi => (below_then h0 h1).block i (hTr i hi))))
   clear hxl fx kx sx cx r1 r2 r3 hTr
   have hkc : ∀ vs vk, keyC vs vk x = [.string (str x.name), .string (str x.text), .string (str x.field), .int .i64 x.n, vs, vk] := fun _ _ => rfl
   simp only [hkc] at HFin
   clear hkc
   generalize x.set.length = n1 at *
   generalize x.kids.length = n2 at *
   generalize str x.name = S1 at *
   generalize str x.text = S2 at *
   generalize str x.field = S3 at *
   generalize x.n = i1 at *
   have hB0 : Below wr.heap.size wr (wr.alloc (Obj.cells #[.string S1, .string S2, .string S3, .int .i64 i1, .slice A1 n1 c1, .slice A2 n2 c2] 51)) := (Below.refl _ _).alloc (Nat.le_refl _) _
   have HBX : Hid ((wr.alloc (Obj.cells #[.string S1, .string S2, .string S3, .int .i64 i1, .slice A1 n1 c1, .slice A2 n2 c2] 51)).drew.heap[wr.heap.size]? = some (Obj.cells #[.string S1, .string S2, .string S3, .int .i64 i1, .slice A1 n1 c1, .slice A2 n2 c2] 51) ∧ wr.heap.size < (wr.alloc (Obj.cells #[.string S1, .string S2, .string S3, .int .i64 i1, .slice A1 n1 c1, .slice A2 n2 c2] 51)).drew.heap.size) := Lib.hid ⟨World.alloc_heap_new wr _, by simp⟩
   have HBd : Hid (Below wr.heap.size wr (wr.alloc (Obj.cells #[.string S1, .string S2, .string S3, .int .i64 i1, .slice A1 n1 c1, .slice A2 n2 c2] 51)).drew) := Lib.hid (below_draws hB0 1)
   have HOd : Hid ((wr.alloc (Obj.cells #[.string S1, .string S2, .string S3, .int .i64 i1, .slice A1 n1 c1, .slice A2 n2 c2] 51)).drew.ownsRow w.heap.size 104 6 u j csj) := Lib.hid (HO.out.alloc _).drew
   clear hB0
   go_wp2_with fail
   refine wp_region_held_drew (S := fun W => W.cell? ⟨wr.heap.size, 0, none⟩ = some (.string S1) ∧ W.cell? ⟨wr.heap.size, 1, none⟩ = some (.string S2) ∧ W.cell? ⟨wr.heap.size, 2, none⟩ = some (.string S3) ∧ W.cell? ⟨wr.heap.size, 3, none⟩ = some (.int .i64 i1) ∧ W.cell? ⟨wr.heap.size, 4, none⟩ = some (.slice A1 n1 c1) ∧ W.cell? ⟨wr.heap.size, 5, none⟩ = some (.slice A2 n2 c2)) (by kernel_rfl) ⟨obj_cell HBX.out.1 0 _ rfl, obj_cell HBX.out.1 1 _ rfl, obj_cell HBX.out.1 2 _ rfl, obj_cell HBX.out.1 3 _ rfl, obj_cell HBX.out.1 4 _ rfl, obj_cell HBX.out.1 5 _ rfl⟩ (fun hHeld => ?_)
   refine wpAnyH_take (i := 0) rfl (by kernel_rfl) (by kernel_rfl) (by kernel_rfl) (fun _ _ _ h => h) (.inl ⟨by rfl, by intro _ h; (try dsimp only at h); go_simp; try with_reducible rfl⟩) hHeld ?_
   try simp only [Act.put, t0, t1, t2, t3, t4, t5]
   refine wpAnyH_take (i := 1) rfl (by kernel_rfl) (by kernel_rfl) (by kernel_rfl) (fun _ _ _ h => h) (.inl ⟨by rfl, by intro _ h; (try dsimp only at h); go_simp; try with_reducible rfl⟩) hHeld ?_
   try simp only [Act.put, t0, t1, t2, t3, t4, t5]
   refine wpAnyH_take (i := 2) rfl (by kernel_rfl) (by kernel_rfl) (by kernel_rfl) (fun _ _ _ h => h) (.inl ⟨by rfl, by intro _ h; (try dsimp only at h); go_simp; try with_reducible rfl⟩) hHeld ?_
   try simp only [Act.put, t0, t1, t2, t3, t4, t5]
   refine wpAnyH_take (i := 3) rfl (by kernel_rfl) (by kernel_rfl) (by kernel_rfl) (fun _ _ _ h => h) (.inl ⟨by rfl, by intro _ h; (try dsimp only at h); go_simp; try with_reducible rfl⟩) hHeld ?_
   try simp only [Act.put, t0, t1, t2, t3, t4, t5]
   refine wpAnyH_take (i := 4) rfl (by kernel_rfl) (by kernel_rfl) (by kernel_rfl) (fun _ _ _ h => h) (.inl ⟨by rfl, by intro _ h; (try dsimp only at h); go_simp; try with_reducible rfl⟩) hHeld ?_
   try simp only [Act.put, t0, t1, t2, t3, t4, t5]
   refine wpAnyH_take (i := 5) rfl (by kernel_rfl) (by kernel_rfl) (by kernel_rfl) (fun _ _ _ h => h) (.inl ⟨by rfl, by intro _ h; (try dsimp only at h); go_simp; try with_reducible rfl⟩) hHeld ?_
   try simp only [Act.put, t0, t1, t2, t3, t4, t5]
   refine wpAnyH_take (i := 6) rfl (by kernel_rfl) (by kernel_rfl) (by kernel_rfl) (fun _ _ _ h => h) (.inl ⟨by rfl, by intro _ h; (try dsimp only at h); go_simp; try with_reducible rfl⟩) hHeld ?_
   try simp only [Act.put, t0, t1, t2, t3, t4, t5]
   refine wpAnyH_take (i := 7) rfl (by kernel_rfl) (by kernel_rfl) (by kernel_rfl) (fun _ _ _ h => h) (.inl ⟨by rfl, by intro _ h; (try dsimp only at h); go_simp; try with_reducible rfl⟩) hHeld ?_
   try simp only [Act.put, t0, t1, t2, t3, t4, t5]
   refine wpAnyH_take (i := 8) rfl (by kernel_rfl) (by kernel_rfl) (by kernel_rfl) (fun _ _ _ h => h) (.inl ⟨by rfl, by intro _ h; (try dsimp only at h); go_simp; try with_reducible rfl⟩) hHeld ?_
   try simp only [Act.put, t0, t1, t2, t3, t4, t5]
   refine wpAnyH_take (i := 9) rfl (by kernel_rfl) (by kernel_rfl) (by kernel_rfl) (fun _ _ _ h => h) (.inl ⟨by rfl, by intro _ h; (try dsimp only at h); go_simp; try with_reducible rfl⟩) hHeld ?_
   try simp only [Act.put, t0, t1, t2, t3, t4, t5]
   refine wpAnyH_take (i := 10) rfl (by kernel_rfl) (by kernel_rfl) (by kernel_rfl) (fun _ _ _ h => h) (.inl ⟨by rfl, by intro _ h; (try dsimp only at h); go_simp; try with_reducible rfl⟩) hHeld ?_
   try simp only [Act.put, t0, t1, t2, t3, t4, t5]
   refine wpAnyH_take (i := 11) rfl (by kernel_rfl) (by kernel_rfl) (by kernel_rfl) (fun _ _ _ h => h) (.inl ⟨by rfl, by intro _ h; (try dsimp only at h); go_simp; try with_reducible rfl⟩) hHeld ?_
   try simp only [Act.put, t0, t1, t2, t3, t4, t5]
   refine wpAnyH_take (i := 12) rfl (by kernel_rfl) (by kernel_rfl) (by kernel_rfl) (fun _ _ _ h => h) (.inl ⟨by rfl, by intro _ h; (try dsimp only at h); go_simp; try with_reducible rfl⟩) hHeld ?_
   try simp only [Act.put, t0, t1, t2, t3, t4, t5]
   refine wpAnyH_ready (rs := [13]) (by kernel_rfl) (by simp) ?_
   refine AllReadyH.cons rfl (fun K9 hK9 => ?_) ?_
   ·
    go_simp
    refine (K.out _ HBd.out).mono ?_
    rintro e w1 ⟨hB1, A9, c9, kcs9, rfl, hR9, hK9'⟩
    have HB1 := Lib.hid hB1
    have HR9 := Lib.hid hR9
    have HK9 := Lib.hid hK9'
    have HBX1 := Lib.hid ((hB1.block _ HBX.out.2).trans HBX.out.1)
    have HO1 := Lib.hid (own_below HOd.out hB1)
    clear hB1 hR9 hK9'
    refine hK9.out _ _ ⟨obj_cell HBX1.out 0 _ rfl, obj_cell HBX1.out 1 _ rfl, obj_cell HBX1.out 2 _ rfl, obj_cell HBX1.out 3 _ rfl, obj_cell HBX1.out 4 _ rfl, obj_cell HBX1.out 5 _ rfl⟩ (fun hHeld => ?_)
    clear hK9 K9
    try simp only [Act.put, t0, t1, t2, t3, t4, t5]
    refine wpAnyH_take (i := 14) rfl (by kernel_rfl) (by kernel_rfl) (by kernel_rfl) (fun _ _ _ h => h) (.inl ⟨by rfl, by intro _ h; (try dsimp only at h); go_simp; try with_reducible rfl⟩) hHeld ?_
    try simp only [Act.put, t0, t1, t2, t3, t4, t5]
    refine wpAnyH_ready (rs := [15]) (by kernel_rfl) (by simp) ?_
    refine AllReadyH.cons rfl (fun K9 hK9 => ?_) ?_
    ·
     go_simp
     refine hK9.out _ _ ⟨obj_cell ((Below.heap_alloc w1 _ _ (Array.getElem?_eq_some_iff.1 HBX1.out).1).trans HBX1.out) 0 _ rfl, obj_cell ((Below.heap_alloc w1 _ _ (Array.getElem?_eq_some_iff.1 HBX1.out).1).trans HBX1.out) 1 _ rfl, obj_cell ((Below.heap_alloc w1 _ _ (Array.getElem?_eq_some_iff.1 HBX1.out).1).trans HBX1.out) 2 _ rfl, obj_cell ((Below.heap_alloc w1 _ _ (Array.getElem?_eq_some_iff.1 HBX1.out).1).trans HBX1.out) 3 _ rfl, obj_cell ((Below.heap_alloc w1 _ _ (Array.getElem?_eq_some_iff.1 HBX1.out).1).trans HBX1.out) 4 _ rfl, obj_cell ((Below.heap_alloc w1 _ _ (Array.getElem?_eq_some_iff.1 HBX1.out).1).trans HBX1.out) 5 _ rfl⟩ (fun hHeld => ?_)
     clear hK9 K9
     try simp only [Act.put, t0, t1, t2, t3, t4, t5]
     refine wpAnyH_ready (rs := [16]) (by kernel_rfl) (by simp) ?_
     refine AllReadyH.cons rfl (fun K9 hK9 => ?_) ?_
     ·
      refine step_append_lies _ (by rfl) _ _ _ (by rfl) w.heap.size 104 i0 (.agg #[.string ⟨#[]⟩, .string ⟨#[]⟩, .string ⟨#[]⟩, .int .i64 0, .slice none 0 0, .slice none 0 0]) 6 104 Tryz.underlying41 hi hz0 hz1 hz2 (by rfl) (by decide) u j csj (by rfl) (HO1.out.alloc _) ⟨w1.heap.size, 0, none⟩ 1 1 [.string S1, .string S2, .string S3, .int .i64 i1, .slice A1 n1 c1, .slice A9 n2 c9] (by rfl) (by rfl) (World.news_of_block (World.alloc_heap_new w1 _)) (by simp [Value.oneCell']) (by decide) (by unfold maxLen; omega) (by omega) (by have := HB1.out.size; have := HBd.out.size; simp; omega) (w1.heap.size + 1) (by simp) ?_
      intro g cap w9 hown hgr hat hlt
      have HOWN := Lib.hid hown
      have HGR := Lib.hid hgr
      have HAT := Lib.hid hat
      have hBX9 := (hgr.block wr.heap.size (by have := (Array.getElem?_eq_some_iff.1 HBX1.out).1; simp; omega) (fun e => by have := (HO.out.lt _ e.symm).2; omega)).trans ((Below.heap_alloc w1 _ _ (Array.getElem?_eq_some_iff.1 HBX1.out).1).trans HBX1.out)
      have HBX9 := Lib.hid hBX9
      clear hown hgr hat hBX9
      refine hK9.out _ _ ⟨obj_cell HBX9.out 0 _ rfl, obj_cell HBX9.out 1 _ rfl, obj_cell HBX9.out 2 _ rfl, obj_cell HBX9.out 3 _ rfl, obj_cell HBX9.out 4 _ rfl, obj_cell HBX9.out 5 _ rfl⟩ (fun hHeld => ?_)
      clear hK9 K9
      try simp only [Act.put, t0, t1, t2, t3, t4, t5]
      refine wpAnyH_take (i := 17) rfl (by kernel_rfl) (by kernel_rfl) (by kernel_rfl) (fun _ _ _ h => h) (.inl ⟨by rfl, by intro _ h; (try dsimp only at h); go_simp; try with_reducible rfl⟩) hHeld ?_
      try simp only [Act.put, t0, t1, t2, t3, t4, t5]
      refine wpAnyH_done (by kernel_rfl) ?_ _
      go_wp2
      go_roundw
      case rel => exact ⟨j + 1, _, _, by omega, by go_num, rfl, Lib.hid (HFin.out _ _ _ _ _ _ _ _ HBd.out HB1.out HR9.out HK9.out HOWN.out HGR.out HAT.out)⟩
      case measure => simp [intOf]; omega
     exact AllReadyH.nil
    exact AllReadyH.nil
   exact AllReadyH.nil
  ·
   obtain rfl : j = n := by omega
   obtain ⟨A9, c9, hu, _⟩ := rowC_own HSt.out.own
   subst hu
   obtain ⟨Tj, hK, hTj⟩ := HSt.out.its
   rw [List.take_of_length_le (by have := HLn.out; omega)] at hK
   have HK := Lib.hid hK
   have HTj := Lib.hid hTj
   clear hK hTj
   go_wp2
   go_ret
   exact ⟨HSt.out.below, A9, c9, rfl, csj, rowC_own HSt.out.own, HK.out.more (fun i hi => (HTj.out i hi).imp id (fun h => ⟨h.1, h.2.1⟩))⟩
theorem cvKeys_all : ∀ (n : Nat) (l : List KeyP), SizeOf.sizeOf l ≤ n → CvKeysCon l := by
 intro n
 induction n with
 | zero => intro l h; cases l <;> simp at h
 | succ n ih =>
  intro l h
  refine cvKeys_of l (fun x hx => ih _ ?_)
  have h1 := List.sizeOf_lt_of_mem hx
  have h2 : SizeOf.sizeOf x.kids < SizeOf.sizeOf x := by cases x; simp [KeyP.kids]; omega
  omega
theorem cvKeys_walk (l : List KeyP) : CvKeysCon l := cvKeys_all _ l (Nat.le_refl _)
open Go.RowKit
open Pl (Bs idxB numOk numN setOk setL)
def CmOk (n C : Nat) (W : World) : Prop := ∃ cs : Array Value, W.heap[C]? = some (Obj.cells cs 33) ∧ cs.size = n
theorem CmOk.step {n B C : Nat} {W W1 : World} (h : CmOk n C W) (hG : W.grownBy W1 (some B)) (hne : B ≠ C) : CmOk n C W1 := by
 obtain ⟨cs, hc, hn⟩ := h
 exact ⟨cs, (hG.block C (Array.getElem?_eq_some_iff.1 hc).1 (fun e => hne (Option.some.inj e).symm)).trans hc, hn⟩
def RestPostS {α : Type} (n : Nat) (w : World) (B C : Nat) (Q : World → α → Array Value → Prop) (o : Option (α × Bs × Nat)) (e : Ending) (w' : World) : Prop :=
 R2 B C w w' ∧ match o with
  | none => e = .panicked [wrongE] ∧ CmOk n C w'
  | some p => e = .returned (.tuple #[]) ∧ Scn w' B p.2.1 p.2.2 ∧ ∃ cs, w'.heap[C]? = some (Obj.cells cs 33) ∧ Q w' p.1 cs
theorem RestPostS.badX {α : Type} {n : Nat} {w w' : World} {B C : Nat} {Q : World → α → Array Value → Prop} {o : Option (α × Bs × Nat)} (h : R2 B C w w' ∧ CmOk n C w') (ho : o = none) : RestPostS n w B C Q o (.panicked [wrongE]) w' := ⟨h.1, by subst ho; exact ⟨rfl, h.2⟩⟩
theorem RsSt.badS {α : Type} {n : Nat} {w W w' : World} {B C k : Nat} {s : Bs} {cs : Array Value} (st : RsSt w B C s k cs W) {Q : World → α → Array Value → Prop} {o : Option (α × Bs × Nat)} (hG : W.grownBy w' (some B)) (hn : cs.size = n) (ho : o = none) : RestPostS n w B C Q o (.panicked [wrongE]) w' :=
 .badX ⟨st.gr.trans (.of hG), CmOk.step ⟨cs, st.cmd, hn⟩ hG st.lt.2.2⟩ ho
theorem RsSt.finS {α : Type} {n : Nat} {w W : World} {B C k : Nat} {s : Bs} {cs : Array Value} (st : RsSt w B C s k cs W) {Q : World → α → Array Value → Prop} {o : Option (α × Bs × Nat)} {x : α} (ho : o = some (x, s, k)) (hQ : Q W x cs) : RestPostS n w B C Q o (.returned (.tuple #[])) W := ⟨st.gr, by subst ho; exact ⟨rfl, st.sc, cs, st.cmd, hQ⟩⟩
open Go.RowKit
open Pl (Bs)
theorem twelve (cs : Array Value) (h : cs.size = 12) : ∃ v0 v1 v2 v3 v4 v5 v6 v7 v8 v9 v10 v11, cs = #[v0, v1, v2, v3, v4, v5, v6, v7, v8, v9, v10, v11] := by
 obtain ⟨l⟩ := cs
 match l, h with
 | [v0, v1, v2, v3, v4, v5, v6, v7, v8, v9, v10, v11], _ => exact ⟨v0, v1, v2, v3, v4, v5, v6, v7, v8, v9, v10, v11, rfl⟩
theorem put12_any {W : World} {b : Nat} {v0 v1 v2 v3 v4 v5 v6 v7 v8 v9 v10 v11 : Value} {t : TypeId} (h : W.heap[b]? = some (Obj.cells #[v0, v1, v2, v3, v4, v5, v6, v7, v8, v9, v10, v11] t)) (c : CmdV) : (put12 W b c).heap[b]? = some (Obj.cells c.cells t) := by
 have h0 := setCell_heap_same (i := 0) (v := .string c.tag) h
 have h1 := setCell_heap_same (i := 1) (v := .string c.name) h0
 have h2 := setCell_heap_same (i := 2) (v := .bool c.uid) h1
 have h3 := setCell_heap_same (i := 3) (v := .slice c.aA c.aN c.aC) h2
 have h4 := setCell_heap_same (i := 4) (v := .slice c.sA c.sN c.sC) h3
 have h5 := setCell_heap_same (i := 5) (v := .int .i64 c.how) h4
 have h6 := setCell_heap_same (i := 6) (v := .int .i64 c.flags) h5
 have h7 := setCell_heap_same (i := 7) (v := .bool c.silent) h6
 have h8 := setCell_heap_same (i := 8) (v := .int .i64 c.date) h7
 have h9 := setCell_heap_same (i := 9) (v := .string c.body) h8
 have h10 := setCell_heap_same (i := 10) (v := .slice c.iA c.iN c.iC) h9
 have h11 := setCell_heap_same (i := 11) (v := .slice c.kA c.kN c.kC) h10
 unfold put12
 rw [h11]
 simp
theorem wrong_yes (v : Value) (W : World) : (Instr.typeAssert (.iface 60 v) 20 60 true).run Tryz.prog W = .ok (.tuple #[v, .bool true]) W := by kernel_rfl
theorem obj_cell3 {w : World} {b : Nat} {cs : Array Value} {t : TypeId} (h : w.heap[b]? = some (Obj.cells cs t)) (i : Nat) (v : Value) (hi : cs[i]? = some v) : w.cell? ⟨b, i, none⟩ = some v := by
 simp [World.cell?, h, hi]
theorem parse_panic (G : Glob) (b : Nat) (w : World) (hok : CmOk 12 b w) (he : w.heap[b + 1]? = some (Obj.cells #[.nilIface] 35)) (hF : w.cell? ⟨0, 0, none⟩ = some G.form) (hfi : ∃ t x, G.form = .iface t x) :
  CallsD Tryz.prog 25 #[.pointer (some ⟨b, 0, none⟩), .pointer (some ⟨b + 1, 0, none⟩)] (.panicking [wrongE]) w fun e u' w' => e = .returned (.tuple #[]) ∧ u' = .panicking [{ v := wrongE.v, recovered := true }] ∧ w'.heap[b]? = some cmdZ.obj ∧ w'.heap[b + 1]? = some (Obj.cells #[G.form] 35) ∧ R2 b (b + 1) w w' := by
 obtain ⟨ft, fx, hf⟩ := hfi
 obtain ⟨cs0, hc, hn⟩ := hok
 obtain ⟨v0, v1, v2, v3, v4, v5, v6, v7, v8, v9, v10, v11, rfl⟩ := twelve cs0 hn
 refine callsD_of_wpS Tryz.func25 rfl fun c₀ cs hu => ?_
 have hF' := hF.trans (congrArg some hf)
 rw [wrongE, hf] at *
 simp only [Tryz.ntmps25, List.size_toArray, List.length_cons, List.length_nil, Nat.reduceAdd, Nat.reduceSub, Array.replicate_succ, Array.replicate_zero, List.push_toArray, List.append_toArray, List.nil_append, List.cons_append]
 apply wpS_seq
 apply wpS_region
 simp [wpOpsS, go_sem, recoverD, hu, Tryz.ntmps25, Exit.thenS]
 have hty := wrong_yes (.agg #[])
 have hl1 := (Array.getElem?_eq_some_iff.1 hc).1
 have hl2 := (Array.getElem?_eq_some_iff.1 he).1
 obtain ⟨w3, hw3⟩ : ∃ x, w.alloc (Obj.cells #[] 60) = x := ⟨_, rfl⟩
 have HB3 := Lib.hid (show Below w.heap.size w w3 by rw [← hw3]; exact (Below.refl _ _).alloc (Nat.le_refl _) _)
 have HC3 := Lib.hid ((HB3.out.block _ hl1).trans hc)
 have HE3 := Lib.hid ((HB3.out.block _ hl2).trans he)
 have c0 : w3.cell? ⟨0, 0, none⟩ = some (.iface ft fx) := (World.cell?_of_block (a := ⟨0, 0, none⟩) (HB3.out.block 0 (World.block_lt_of_cell? w _ hF))).trans hF'
 have a0 := obj_cell3 HC3.out 0 v0 rfl
 have a1 := obj_cell3 HC3.out 1 v1 rfl
 have a2 := obj_cell3 HC3.out 2 v2 rfl
 have a3 := obj_cell3 HC3.out 3 v3 rfl
 have a4 := obj_cell3 HC3.out 4 v4 rfl
 have a5 := obj_cell3 HC3.out 5 v5 rfl
 have a6 := obj_cell3 HC3.out 6 v6 rfl
 have a7 := obj_cell3 HC3.out 7 v7 rfl
 have a8 := obj_cell3 HC3.out 8 v8 rfl
 have a9 := obj_cell3 HC3.out 9 v9 rfl
 have a10 := obj_cell3 HC3.out 10 v10 rfl
 have a11 := obj_cell3 HC3.out 11 v11 rfl
 have af : ∀ i, w3.frozen? ⟨b, i, none⟩ = false := fun i => by simp [World.frozen?, HC3.out]
 obtain ⟨w4, hw4⟩ : ∃ x, put12 w3 b cmdZ = x := ⟨_, rfl⟩
 have HC4 := Lib.hid (show w4.heap[b]? = some cmdZ.obj by rw [← hw4]; exact put12_any HC3.out cmdZ)
 have HG4 := Lib.hid (show w3.grownBy w4 (some b) by rw [← hw4]; exact put12_grown w3 b cmdZ)
 have HE4 := Lib.hid ((HG4.out.block _ (Array.getElem?_eq_some_iff.1 HE3.out).1 (fun e => by have := Option.some.inj e; omega)).trans HE3.out)
 obtain ⟨d2, g2⟩ := one_cells HE4.out
 unfold put12 cmdZ at hw4
 dsimp only at hw4
 refine wpS_of_wp ?_
 go_wp2
 refine ⟨rfl, _, rfl, .tuple #[], ?_, rfl, rfl, ?_, ?_, ?_⟩
 ·
  simp [results, Tryz.results25]
 ·
  exact (Below.heap_setCell _ _ _ _ (by dsimp only; omega)).trans HC4.out
 ·
  exact (setCell_heap_same HE4.out).trans rfl
 ·
  have g1 : R2 b (b + 1) w w3 := ⟨HB3.out.os, HB3.out.tape, HB3.out.output, HB3.out.size, fun i hi _ _ => HB3.out.block i hi⟩
  exact (g1.trans (.of HG4.out)).trans (.ofC (grown_put _ (b + 1) 0 (.iface ft fx)))
end Go.Proofs.YtgmfhldfdnnafaaGreatDoor
