/- The walk of the law SeqsTexts. -/
import Derived.Test.YtfaojafhamhncaaDoorRefText
import Derived.Test.YtfaojafhamhncaaDoorAlive14
import Derived.Test.YtfaojafhamhncaaDoorSameRanges
import Derived.Test.YtfaojafhamhncaaDoorNum
namespace Go.Proofs.YtfaojafhamhncaaDoor
open Go.RowKit
open Pl (setOk setL textOk textB)
set_option linter.unusedSimpArgs false
set_option linter.unusedVariables false
set_option maxHeartbeats 4000000 in
set_option maxRecDepth 100000 in
theorem seqsTexts_walk {a0 a1 a2 a3 a4 a5 a6 a7 a8 a9 a10 a11 a12 : Addr} (A : Option Addr) (n c : Nat) (xs : List (Int × Int)) (w : World) (hA : RangesAt w A n xs) (hT : TabW w) (hE : ErrsAt w a0 a1 a2 a3 a4 a5 a6 a7 a8 a9 a10 a11 a12) :
    Calls Tryd.prog 10 #[.slice A n c] w fun e w' => e = .returned (.bool true) ∧ Below w.heap.size w w' := by
  have HE := Lib.hid hE
  have HA := Lib.hid hA
  have HT := Lib.hid hT
  have hl := hA.1
  have hn9 := hA.2.1
  clear hE hA hT
  have HAl := Lib.hid (alive14 (.iface 130 (.pointer (some a1))) w HE.out.h1.1 ⟨_, _, rfl⟩)
  by_cases hz : n ≤ 200
  · have hX := fun W h1 h2 h3 => seqText_walk A n c xs (.iface 130 (.pointer (some a1))) W h1 hz h2 h3 ⟨_, _, rfl⟩
    have hR := fun W h1 => refText_walk A n c xs W h1 hz
    cases hk : textOk xs with
    | true =>
      obtain ⟨b1, b2⟩ := Pl.text_back hk
      have hb : bs (textS xs) = textB xs := by rw [textS, if_pos hk]
      have hss : (textS xs).size ≤ 140737488351232 := by
        have h1 := joinK_size (xs := xs) xs.length (Nat.le_refl _) (by
          rw [List.take_length]
          simp only [textOk, Bool.and_eq_true] at hk
          exact hk.1.1)
        rw [textS_yes hk]; omega
      have hS := fun W h => set_walk (textS xs) (.iface 130 (.pointer (some a1))) W hss h ⟨_, _, rfl⟩
      rw [hb, b2] at hS
      have hse : setE (textB xs) (.iface 130 (.pointer (some a1))) = .nilIface := by rw [setE, b1]; rfl
      rw [hse] at hS
      have hte : textE xs (.iface 130 (.pointer (some a1))) = .nilIface := by rw [textE, hk]; rfl
      rw [hte] at hX
      rw [hk] at hR
      have HX := Lib.hid hX
      have HR := Lib.hid hR
      have HS := Lib.hid hS
      clear hX hR hS hse hte hb b1 b2 hk hss
      generalize textS xs = T at *
      go_enter Tryd.func10, Tryd.ntmps10
      go_wp2_with fail
      refine HAl.out.mono ?_
      rintro e w1 ⟨rfl, hB1⟩
      have HB1 := Lib.hid hB1
      have HE1 := Lib.hid (HE.out.below hB1)
      have HT1 := Lib.hid (HT.out.then hB1)
      have HA1 := Lib.hid (HA.out.then hB1)
      clear hB1
      go_wp2_with fail
      refine (HX.out w1 HA1.out HT1.out HE1.out.h1.1).mono ?_
      rintro e w2 ⟨rfl, hB2⟩
      have HB2 := Lib.hid (below_then HB1.out hB2)
      have HE2 := Lib.hid (HE1.out.below hB2)
      have HA2 := Lib.hid (HA1.out.then hB2)
      clear hB2
      go_wp2_with fail
      refine (HR.out w2 HA2.out).mono ?_
      rintro e w3 ⟨rfl, hB3⟩
      have HB3 := Lib.hid (below_then HB2.out hB3)
      have HE3 := Lib.hid (HE2.out.below hB3)
      have HA3 := Lib.hid (HA2.out.then hB3)
      clear hB3
      go_wp2_with fail
      refine (HS.out w3 HE3.out.h1.1).mono ?_
      rintro e w4 ⟨r, rfl, ho, hB4⟩
      rw [hl] at ho
      obtain ⟨A2, c2, rfl, hR4⟩ := ranges_own hl (by omega) ho
      have HR4 := Lib.hid hR4
      have HB4 := Lib.hid (below_then HB3.out hB4)
      have HA4 := Lib.hid (HA3.out.then hB4)
      clear hB4 ho hR4
      go_wp2_with fail
      refine (sameR_eq A2 A n c2 c xs w4 HR4.out HA4.out).mono ?_
      rintro e w5 ⟨rfl, q, rfl⟩
      go_wp2
      go_ret
      exact ⟨rfl, below_draws HB4.out q⟩
    | false =>
      have hte : textE xs (.iface 130 (.pointer (some a1))) = .iface 130 (.pointer (some a1)) := by rw [textE, hk]; rfl
      rw [hte, textS_no hk] at hX
      rw [hk, textS_no hk] at hR
      have HX := Lib.hid hX
      have HR := Lib.hid hR
      clear hX hR hte hk
      go_enter Tryd.func10, Tryd.ntmps10
      go_wp2_with fail
      refine HAl.out.mono ?_
      rintro e w1 ⟨rfl, hB1⟩
      have HB1 := Lib.hid hB1
      have HE1 := Lib.hid (HE.out.below hB1)
      have HT1 := Lib.hid (HT.out.then hB1)
      have HA1 := Lib.hid (HA.out.then hB1)
      clear hB1
      go_wp2_with fail
      refine (HX.out w1 HA1.out HT1.out HE1.out.h1.1).mono ?_
      rintro e w2 ⟨rfl, hB2⟩
      have HB2 := Lib.hid (below_then HB1.out hB2)
      have HE2 := Lib.hid (HE1.out.below hB2)
      have HA2 := Lib.hid (HA1.out.then hB2)
      clear hB2
      go_wp2_with fail
      refine (HR.out w2 HA2.out).mono ?_
      rintro e w3 ⟨rfl, hB3⟩
      have HB3 := Lib.hid (below_then HB2.out hB3)
      have HE3 := Lib.hid (HE2.out.below hB3)
      clear hB3
      go_wp2_with fail
      refine (num_form HE3.out).mono ?_
      rintro e w4 ⟨rfl, hB4⟩
      have HB4 := Lib.hid (below_then HB3.out hB4)
      clear hB4
      go_wp2
      go_ret
      exact ⟨rfl, HB4.out⟩
  · go_enter Tryd.func10, Tryd.ntmps10
    go_wp2_with fail
    refine HAl.out.mono ?_
    rintro e w1 ⟨rfl, hB1⟩
    have HB1 := Lib.hid hB1
    clear hB1
    go_wp2
    go_ret
    exact ⟨rfl, HB1.out⟩
end Go.Proofs.YtfaojafhamhncaaDoor
