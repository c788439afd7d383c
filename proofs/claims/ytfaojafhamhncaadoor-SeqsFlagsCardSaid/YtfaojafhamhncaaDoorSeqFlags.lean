/- The walk of the law SeqsFlags. -/
import Derived.Test.YtfaojafhamhncaaDoorRefFlags
import Derived.Test.YtfaojafhamhncaaDoorAlive14
import Derived.Test.YtfaojafhamhncaaDoorNum
namespace Go.Proofs.YtfaojafhamhncaaDoor
open Go.RowKit
set_option linter.unusedSimpArgs false
set_option linter.unusedVariables false
set_option maxHeartbeats 4000000 in
set_option maxRecDepth 100000 in
theorem seqsFlags_walk {a0 a1 a2 a3 a4 a5 a6 a7 a8 a9 a10 a11 a12 : Addr} (s : ByteArray) (w : World) (hs : s.size ≤ 140737488351232) (hE : ErrsAt w a0 a1 a2 a3 a4 a5 a6 a7 a8 a9 a10 a11 a12) :
    Calls Tryd.prog 8 #[.string s] w fun e w' => e = .returned (.bool true) ∧ Below w.heap.size w w' := by
  have HE := Lib.hid hE
  clear hE
  have HAl := Lib.hid (alive14 (.iface 130 (.pointer (some a1))) w HE.out.h1.1 ⟨_, _, rfl⟩)
  by_cases hz : s.size ≤ 2000
  · have hF := fun W h => flags_walk s (.iface 130 (.pointer (some a1))) W (by omega) h ⟨_, _, rfl⟩
    have hR := fun W => refFlags_walk s (by omega) W
    cases hk : flagsOk s with
    | true =>
      rw [flagsE, hk] at hF
      rw [hk] at hR
      have HF := Lib.hid (show ∀ W, W.cell? ⟨0, 0, none⟩ = some (.iface 130 (.pointer (some a1))) → Calls Tryd.prog 14 #[.string s] W fun e w' => e = .returned (.tuple #[.int .i64 (flagsI s), .nilIface]) ∧ Below W.heap.size W w' from hF)
      have HR := Lib.hid hR
      clear hF hR hk
      generalize flagsI s = F at *
      go_enter Tryd.func8, Tryd.ntmps8
      go_wp2_with fail
      refine HAl.out.mono ?_
      rintro e w1 ⟨rfl, hB1⟩
      have HB1 := Lib.hid hB1
      have HE1 := Lib.hid (HE.out.below hB1)
      clear hB1
      go_wp2_with fail
      refine (HF.out w1 HE1.out.h1.1).mono ?_
      rintro e w2 ⟨rfl, hB2⟩
      have HB2 := Lib.hid (below_then HB1.out hB2)
      clear hB2
      go_wp2_with fail
      refine (HR.out w2).mono ?_
      rintro e w3 ⟨rfl, hB3⟩
      have HB3 := Lib.hid (below_then HB2.out hB3)
      clear hB3
      go_wp2
      go_ret
      exact ⟨rfl, HB3.out⟩
    | false =>
      rw [flagsE, hk] at hF
      rw [hk] at hR
      have HF := Lib.hid (show ∀ W, W.cell? ⟨0, 0, none⟩ = some (.iface 130 (.pointer (some a1))) → Calls Tryd.prog 14 #[.string s] W fun e w' => e = .returned (.tuple #[.int .i64 (flagsI s), .iface 130 (.pointer (some a1))]) ∧ Below W.heap.size W w' from hF)
      have HR := Lib.hid hR
      clear hF hR hk
      generalize flagsI s = F at *
      go_enter Tryd.func8, Tryd.ntmps8
      go_wp2_with fail
      refine HAl.out.mono ?_
      rintro e w1 ⟨rfl, hB1⟩
      have HB1 := Lib.hid hB1
      have HE1 := Lib.hid (HE.out.below hB1)
      clear hB1
      go_wp2_with fail
      refine (HF.out w1 HE1.out.h1.1).mono ?_
      rintro e w2 ⟨rfl, hB2⟩
      have HB2 := Lib.hid (below_then HB1.out hB2)
      have HE2 := Lib.hid (HE1.out.below hB2)
      clear hB2
      go_wp2_with fail
      refine (HR.out w2).mono ?_
      rintro e w3 ⟨rfl, hB3⟩
      have HB3 := Lib.hid (below_then HB2.out hB3)
      have HE3 := Lib.hid (HE2.out.below hB3)
      clear hB3
      go_wp2_with fail
      refine (num_form HE3.out).mono ?_
      rintro e w4 ⟨rfl, hB4⟩
      have HB4 := Lib.hid (below_then HB3.out hB4)
      clear hB4
      go_wp2
      go_ret
      exact ⟨rfl, HB4.out⟩
  · go_enter Tryd.func8, Tryd.ntmps8
    go_wp2_with fail
    refine HAl.out.mono ?_
    rintro e w1 ⟨rfl, hB1⟩
    have HB1 := Lib.hid hB1
    clear hB1
    go_wp2
    go_ret
    exact ⟨rfl, HB1.out⟩
end Go.Proofs.YtfaojafhamhncaaDoor
