/- The walk of the law SeqsSets. -/
import Derived.Test.YtfaojafhamhncaaDoorRefSet
import Derived.Test.YtfaojafhamhncaaDoorSameRanges
import Derived.Test.YtfaojafhamhncaaDoorNum
namespace Go.Proofs.YtfaojafhamhncaaDoor
open Go.RowKit
open Pl (setOk setL)
set_option linter.unusedSimpArgs false
set_option linter.unusedVariables false
theorem setL_few (l : Pl.Bs) : (setL l).length ≤ 50 := by
  rw [setL]
  split
  · next h => rw [setOk, Bool.and_eq_true, decide_eq_true_eq] at h; rw [List.length_map]; exact h.2
  · simp
set_option maxHeartbeats 4000000 in
set_option maxRecDepth 100000 in
theorem seqsSets_walk {a0 a1 a2 a3 a4 a5 a6 a7 a8 a9 a10 a11 a12 : Addr} (s : ByteArray) (w : World) (hs : s.size ≤ 140737488351232) (hE : ErrsAt w a0 a1 a2 a3 a4 a5 a6 a7 a8 a9 a10 a11 a12) :
    Calls Tryd.prog 7 #[.string s] w fun e w' => e = .returned (.bool true) ∧ Below w.heap.size w w' := by
  have HE := Lib.hid hE
  clear hE
  have HAl := Lib.hid (alive14 (.iface 130 (.pointer (some a1))) w HE.out.h1.1 ⟨_, _, rfl⟩)
  by_cases hz : s.size ≤ 2000
  · have hfew := setL_few (bs s)
    have HS := Lib.hid (fun W h => set_walk s (.iface 130 (.pointer (some a1))) W hs h ⟨_, _, rfl⟩)
    have HR := Lib.hid (fun W => refSet_walk s W (by omega))
    generalize hL : setL (bs s) = L at *
    go_enter Tryd.func7, Tryd.ntmps7
    go_wp2_with fail
    refine HAl.out.mono ?_
    rintro e w1 ⟨rfl, hB1⟩
    have HB1 := Lib.hid hB1
    have HE1 := Lib.hid (HE.out.below hB1)
    clear hB1
    go_wp2_with fail
    refine (HS.out w1 HE1.out.h1.1).mono ?_
    rintro e w2 ⟨r, rfl, ho, hB2⟩
    obtain ⟨A, c, rfl, hR1⟩ := ranges_own rfl (by omega) ho
    have HA1 := Lib.hid hR1
    have HB2 := Lib.hid (below_then HB1.out hB2)
    have HE2 := Lib.hid (HE1.out.below hB2)
    clear hB2 ho hR1
    cases hk : setOk (bs s) with
    | true =>
      have hE : setE (bs s) (.iface 130 (.pointer (some a1))) = .nilIface := by rw [setE, hk]; rfl
      rw [hE]
      rw [hk] at HR
      clear hE hk
      go_wp2_with fail
      refine (HR.out w2).mono ?_
      rintro e w3 ⟨r2, rfl, ho, hB3⟩
      obtain ⟨A2, c2, rfl, hR2⟩ := ranges_own rfl (by omega) ho
      have HA2 := Lib.hid hR2
      have HB3 := Lib.hid (below_then HB2.out hB3)
      have HA3 := Lib.hid (HA1.out.then hB3)
      clear hB3 ho hR2
      go_wp2_with fail
      refine (sameR_eq A A2 L.length c c2 L w3 HA3.out HA2.out).mono ?_
      rintro e w4 ⟨rfl, q, rfl⟩
      go_wp2
      go_ret
      exact ⟨rfl, below_draws HB3.out q⟩
    | false =>
      have hE : setE (bs s) (.iface 130 (.pointer (some a1))) = .iface 130 (.pointer (some a1)) := by rw [setE, hk]; rfl
      rw [hE]
      rw [hk] at HR
      clear hE hk
      go_wp2_with fail
      refine (HR.out w2).mono ?_
      rintro e w3 ⟨r2, rfl, ho, hB3⟩
      obtain ⟨A2, c2, rfl, hR2⟩ := ranges_own rfl (by omega) ho
      have HA2 := Lib.hid hR2
      have HB3 := Lib.hid (below_then HB2.out hB3)
      have HA3 := Lib.hid (HA1.out.then hB3)
      have HE3 := Lib.hid (HE2.out.below hB3)
      clear hB3 ho hR2
      go_wp2_with fail
      refine (sameR_eq A A2 L.length c c2 L w3 HA3.out HA2.out).mono ?_
      rintro e w4 ⟨rfl, q, rfl⟩
      have HE4 := Lib.hid (HE3.out.below (below_draws (Below.refl _ _) q))
      go_wp2_with fail
      refine (num_form HE4.out).mono ?_
      rintro e w5 ⟨rfl, hB5⟩
      have HB5 := Lib.hid (below_then (below_draws HB3.out q) hB5)
      clear hB5
      go_wp2
      go_ret
      exact ⟨rfl, HB5.out⟩
  · go_enter Tryd.func7, Tryd.ntmps7
    go_wp2_with fail
    refine HAl.out.mono ?_
    rintro e w1 ⟨rfl, hB1⟩
    have HB1 := Lib.hid hB1
    clear hB1
    go_wp2
    go_ret
    exact ⟨rfl, HB1.out⟩
end Go.Proofs.YtfaojafhamhncaaDoor
