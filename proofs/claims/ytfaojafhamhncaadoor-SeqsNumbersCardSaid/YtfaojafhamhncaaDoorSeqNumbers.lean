/- The walk of the law SeqsNumbers. -/
import Derived.Test.YtfaojafhamhncaaDoorAlive14
import Derived.Test.YtfaojafhamhncaaDoorNum
namespace Go.Proofs.YtfaojafhamhncaaDoor
open Go.RowKit
open Pl (numOk numN numN_pos numN_zero)
set_option linter.unusedSimpArgs false
set_option linter.unusedVariables false
set_option maxHeartbeats 4000000 in
set_option maxRecDepth 100000 in
theorem seqsNumbers_walk {a0 a1 a2 a3 a4 a5 a6 a7 a8 a9 a10 a11 a12 : Addr} (s : ByteArray) (w : World) (hs : s.size ≤ 140737488351232) (hE : ErrsAt w a0 a1 a2 a3 a4 a5 a6 a7 a8 a9 a10 a11 a12) :
    Calls Tryd.prog 9 #[.string s] w fun e w' => e = .returned (.bool true) ∧ Below w.heap.size w w' := by
  have HE := Lib.hid hE
  clear hE
  have HAl := Lib.hid (alive14 (.iface 130 (.pointer (some a1))) w HE.out.h1.1 ⟨_, _, rfl⟩)
  by_cases hz : s.size ≤ 200
  · cases ho : numOk (bs s) with
    | true =>
      obtain ⟨e1, e2, e3⟩ := numN_pos (bs s) ho
      have HV := Lib.hid (show numV (bs s) (.iface 130 (.pointer (some a1))) = .tuple #[.int .i64 (numN (bs s)), .nilIface] by rw [numV, ho]; rfl)
      have hp : 0 < numN (bs s) := by omega
      clear e1 e2 e3 ho
      generalize hN : numN (bs s) = N at *
      go_enter Tryd.func9, Tryd.ntmps9
      go_wp2_with fail
      refine HAl.out.mono ?_
      rintro e w1 ⟨rfl, hB1⟩
      have HB1 := Lib.hid hB1
      have HE1 := Lib.hid (HE.out.below hB1)
      clear hB1
      go_wp2_with fail
      refine (number_walk s (.iface 130 (.pointer (some a1))) w1 hs HE1.out.h1.1 ⟨_, _, rfl⟩).mono ?_
      rintro e w2 ⟨rfl, hB2⟩
      rw [HV.out]
      have HB2 := Lib.hid (below_then HB1.out hB2)
      clear hB2
      go_wp2_with fail
      refine (refNumber_walk s w2 hs).mono ?_
      rintro e w3 ⟨rfl, rfl⟩
      rw [hN]
      go_wp2
      go_ret
      exact ⟨rfl, HB2.out⟩
    | false =>
      have e0 := numN_zero (bs s) ho
      have HV := Lib.hid (show numV (bs s) (.iface 130 (.pointer (some a1))) = .tuple #[.int .i64 0, .iface 130 (.pointer (some a1))] by rw [numV, ho, e0]; rfl)
      have E0 := Lib.hid e0
      clear ho e0
      go_enter Tryd.func9, Tryd.ntmps9
      go_wp2_with fail
      refine HAl.out.mono ?_
      rintro e w1 ⟨rfl, hB1⟩
      have HB1 := Lib.hid hB1
      have HE1 := Lib.hid (HE.out.below hB1)
      clear hB1
      go_wp2_with fail
      refine (number_walk s (.iface 130 (.pointer (some a1))) w1 hs HE1.out.h1.1 ⟨_, _, rfl⟩).mono ?_
      rintro e w2 ⟨rfl, hB2⟩
      rw [HV.out]
      have HB2 := Lib.hid (below_then HB1.out hB2)
      have HE2 := Lib.hid (HE1.out.below hB2)
      clear hB2
      go_wp2_with fail
      refine (refNumber_walk s w2 hs).mono ?_
      rintro e w3 ⟨rfl, rfl⟩
      rw [E0.out]
      go_wp2_with fail
      refine (num_form HE2.out).mono ?_
      rintro e w4 ⟨rfl, hB4⟩
      have HB4 := Lib.hid (below_then HB2.out hB4)
      clear hB4
      go_wp2
      go_ret
      exact ⟨rfl, HB4.out⟩
  · go_enter Tryd.func9, Tryd.ntmps9
    go_wp2_with fail
    refine HAl.out.mono ?_
    rintro e w1 ⟨rfl, hB1⟩
    have HB1 := Lib.hid hB1
    clear hB1
    go_wp2
    go_ret
    exact ⟨rfl, HB1.out⟩
end Go.Proofs.YtfaojafhamhncaaDoor
