/- The walks of the statements PathParts and PathDots (printed by wip/bin/genpathlaws.py). -/
import Derived.Test.YtcalbpdcjklffaaDoorPathA
namespace Go.Proofs.YtcalbpdcjklffaaDoor
open Go.RowKit
open Pl (Bs goLocal goDomain ref_goLocal ref_goDomain local_dots domain_dots local_end domain_end local_begin domain_begin local_nil domain_nil)
set_option linter.unusedSimpArgs false
set_option linter.unusedVariables false
theorem bs_app3 (a b : ByteArray) : bs (a ++ ⟨#[46]⟩ ++ b) = bs a ++ [46] ++ bs b := by rw [bs_app, bs_app]
theorem dots_domain {a b : ByteArray} (ha : goDomain (bs a) = true) (hb : goDomain (bs b) = true) : goDomain (bs (a ++ ⟨#[46]⟩ ++ b)) = decide ((a.size : Int) + (b.size : Int) + 1 ≤ 100) := by
  rw [bs_app3, domain_dots _ _ ha hb, bs_size, bs_size, decide_eq_decide]; omega
theorem dots_local {a b : ByteArray} (ha : goLocal (bs a) = true) (hb : goLocal (bs b) = true) : goLocal (bs (a ++ ⟨#[46]⟩ ++ b)) = decide ((a.size : Int) + (b.size : Int) + 1 ≤ 64) := by
  rw [bs_app3, local_dots _ _ ha hb, bs_size, bs_size, decide_eq_decide]; omega
theorem end_domain (a : ByteArray) : goDomain (bs (a ++ ⟨#[46]⟩)) = false := by rw [bs_app]; exact domain_end _
theorem end_local (a : ByteArray) : goLocal (bs (a ++ ⟨#[46]⟩)) = false := by rw [bs_app]; exact local_end _
theorem begin_domain (a : ByteArray) : goDomain (bs (⟨#[46]⟩ ++ a)) = false := by rw [bs_app]; exact domain_begin _
theorem begin_local (a : ByteArray) : goLocal (bs (⟨#[46]⟩ ++ a)) = false := by rw [bs_app]; exact local_begin _
theorem empty_domain : goDomain (bs ⟨#[]⟩) = false := domain_nil
theorem empty_local : goLocal (bs ⟨#[]⟩) = false := local_nil
theorem size_46 : (⟨#[46]⟩ : ByteArray).size = 1 := rfl

set_option maxHeartbeats 4000000 in
set_option maxRecDepth 100000 in
theorem pathParts_walk (s : ByteArray) (v : Value) (w : World) (hs : s.size ≤ 140737488351232) (hc : w.cell? ⟨2, 0, none⟩ = some v) (hv : ∃ t x, v = .iface t x) :
    Calls Tryd.prog 6 #[.string s] w fun e w' => e = .returned (.bool true) ∧ Below w.heap.size w w' := by
  have HC := Lib.hid hc
  have HV := Lib.hid hv
  clear hc hv
  by_cases hz : s.size ≤ 2000
  · cases hL : goLocal (bs s) with
    | true =>
      cases hD : goDomain (bs s) with
      | true =>
        have HL := Lib.hid hL
        have HD := Lib.hid hD
        clear hL hD
        go_enter Tryd.func6, Tryd.ntmps6
        go_wp2_with fail
        refine (alive08 v w HC.out HV.out).mono ?_
        rintro e w1 ⟨rfl, hB1⟩
        have HB1 := Lib.hid hB1
        clear hB1
        go_wp2_with fail
        refine (local_walk _ _ (by first | omega | (simp only [ByteArray.size_append, size_46]; omega) | decide)).mono ?_
        rintro e w2 ⟨rfl, hB2⟩
        rw [dot_local, HL.out]
        have HB2 := Lib.hid (below_then HB1.out hB2)
        clear hB2
        go_wp2_with fail
        refine (refLocal_walk _ _ (by omega)).mono ?_
        rintro e w' ⟨rfl, rfl⟩
        rw [ref_goLocal, HL.out]
        go_wp2_with fail
        refine (domain_walk _ _ (by first | omega | (simp only [ByteArray.size_append, size_46]; omega) | decide)).mono ?_
        rintro e w3 ⟨rfl, hB3⟩
        rw [dot_domain, HD.out]
        have HB3 := Lib.hid (below_then HB2.out hB3)
        clear hB3
        go_wp2_with fail
        refine (refDomain_walk _ _ (by omega)).mono ?_
        rintro e w' ⟨rfl, rfl⟩
        rw [ref_goDomain, HD.out]
        go_wp2
        go_ret
        exact ⟨rfl, HB3.out⟩
      | false =>
        have HL := Lib.hid hL
        have HD := Lib.hid hD
        clear hL hD
        go_enter Tryd.func6, Tryd.ntmps6
        go_wp2_with fail
        refine (alive08 v w HC.out HV.out).mono ?_
        rintro e w1 ⟨rfl, hB1⟩
        have HB1 := Lib.hid hB1
        clear hB1
        go_wp2_with fail
        refine (local_walk _ _ (by first | omega | (simp only [ByteArray.size_append, size_46]; omega) | decide)).mono ?_
        rintro e w2 ⟨rfl, hB2⟩
        rw [dot_local, HL.out]
        have HB2 := Lib.hid (below_then HB1.out hB2)
        clear hB2
        go_wp2_with fail
        refine (refLocal_walk _ _ (by omega)).mono ?_
        rintro e w' ⟨rfl, rfl⟩
        rw [ref_goLocal, HL.out]
        go_wp2_with fail
        refine (domain_walk _ _ (by first | omega | (simp only [ByteArray.size_append, size_46]; omega) | decide)).mono ?_
        rintro e w3 ⟨rfl, hB3⟩
        rw [dot_domain, HD.out]
        have HB3 := Lib.hid (below_then HB2.out hB3)
        clear hB3
        go_wp2_with fail
        refine (refDomain_walk _ _ (by omega)).mono ?_
        rintro e w' ⟨rfl, rfl⟩
        rw [ref_goDomain, HD.out]
        go_wp2
        go_ret
        exact ⟨rfl, HB3.out⟩
    | false =>
      cases hD : goDomain (bs s) with
      | true =>
        have HL := Lib.hid hL
        have HD := Lib.hid hD
        clear hL hD
        go_enter Tryd.func6, Tryd.ntmps6
        go_wp2_with fail
        refine (alive08 v w HC.out HV.out).mono ?_
        rintro e w1 ⟨rfl, hB1⟩
        have HB1 := Lib.hid hB1
        clear hB1
        go_wp2_with fail
        refine (local_walk _ _ (by first | omega | (simp only [ByteArray.size_append, size_46]; omega) | decide)).mono ?_
        rintro e w2 ⟨rfl, hB2⟩
        rw [dot_local, HL.out]
        have HB2 := Lib.hid (below_then HB1.out hB2)
        clear hB2
        go_wp2_with fail
        refine (refLocal_walk _ _ (by omega)).mono ?_
        rintro e w' ⟨rfl, rfl⟩
        rw [ref_goLocal, HL.out]
        go_wp2_with fail
        refine (domain_walk _ _ (by first | omega | (simp only [ByteArray.size_append, size_46]; omega) | decide)).mono ?_
        rintro e w3 ⟨rfl, hB3⟩
        rw [dot_domain, HD.out]
        have HB3 := Lib.hid (below_then HB2.out hB3)
        clear hB3
        go_wp2_with fail
        refine (refDomain_walk _ _ (by omega)).mono ?_
        rintro e w' ⟨rfl, rfl⟩
        rw [ref_goDomain, HD.out]
        go_wp2
        go_ret
        exact ⟨rfl, HB3.out⟩
      | false =>
        have HL := Lib.hid hL
        have HD := Lib.hid hD
        clear hL hD
        go_enter Tryd.func6, Tryd.ntmps6
        go_wp2_with fail
        refine (alive08 v w HC.out HV.out).mono ?_
        rintro e w1 ⟨rfl, hB1⟩
        have HB1 := Lib.hid hB1
        clear hB1
        go_wp2_with fail
        refine (local_walk _ _ (by first | omega | (simp only [ByteArray.size_append, size_46]; omega) | decide)).mono ?_
        rintro e w2 ⟨rfl, hB2⟩
        rw [dot_local, HL.out]
        have HB2 := Lib.hid (below_then HB1.out hB2)
        clear hB2
        go_wp2_with fail
        refine (refLocal_walk _ _ (by omega)).mono ?_
        rintro e w' ⟨rfl, rfl⟩
        rw [ref_goLocal, HL.out]
        go_wp2_with fail
        refine (domain_walk _ _ (by first | omega | (simp only [ByteArray.size_append, size_46]; omega) | decide)).mono ?_
        rintro e w3 ⟨rfl, hB3⟩
        rw [dot_domain, HD.out]
        have HB3 := Lib.hid (below_then HB2.out hB3)
        clear hB3
        go_wp2_with fail
        refine (refDomain_walk _ _ (by omega)).mono ?_
        rintro e w' ⟨rfl, rfl⟩
        rw [ref_goDomain, HD.out]
        go_wp2
        go_ret
        exact ⟨rfl, HB3.out⟩
  · go_enter Tryd.func6, Tryd.ntmps6
    go_wp2_with fail
    refine (alive08 v w HC.out HV.out).mono ?_
    rintro e w1 ⟨rfl, hB1⟩
    have HB1 := Lib.hid hB1
    clear hB1
    go_wp2
    go_ret
    exact ⟨rfl, HB1.out⟩
set_option maxHeartbeats 8000000 in
set_option maxRecDepth 100000 in
theorem pathDots_walk (a b : ByteArray) (v : Value) (w : World) (hs : a.size ≤ 140737488351232) (ht : b.size ≤ 140737488351232) (hc : w.cell? ⟨2, 0, none⟩ = some v) (hv : ∃ t x, v = .iface t x) :
    Calls Tryd.prog 7 #[.string a, .string b] w fun e w' => e = .returned (.bool true) ∧ Below w.heap.size w w' := by
  have HC := Lib.hid hc
  have HV := Lib.hid hv
  clear hc hv
  by_cases hz : a.size ≤ 500 ∧ b.size ≤ 500
  · obtain ⟨z1, z2⟩ := hz
    cases hA : goDomain (bs a) with
    | false =>
      cases hE : goLocal (bs a) with
      | false =>
        have HA := Lib.hid hA
        have HE := Lib.hid hE
        clear hA hE
        go_enter Tryd.func7, Tryd.ntmps7
        go_wp2_with fail
        refine (alive08 v w HC.out HV.out).mono ?_
        rintro e w1 ⟨rfl, hB1⟩
        have HB1 := Lib.hid hB1
        clear hB1
        go_wp2_with fail
        refine (domain_walk _ _ (by first | omega | (simp only [ByteArray.size_append, size_46]; omega) | decide)).mono ?_
        rintro e w2 ⟨rfl, hB2⟩
        rw [dot_domain, HA.out]
        have HB2 := Lib.hid (below_then HB1.out hB2)
        clear hB2
        go_wp2_with fail
        refine (local_walk _ _ (by first | omega | (simp only [ByteArray.size_append, size_46]; omega) | decide)).mono ?_
        rintro e w3 ⟨rfl, hB3⟩
        rw [dot_local, HE.out]
        have HB3 := Lib.hid (below_then HB2.out hB3)
        clear hB3
        go_wp2_with fail
        refine (domain_walk _ _ (by first | omega | (simp only [ByteArray.size_append, size_46]; omega) | decide)).mono ?_
        rintro e w4 ⟨rfl, hB4⟩
        rw [dot_domain, end_domain]
        have HB4 := Lib.hid (below_then HB3.out hB4)
        clear hB4
        go_wp2_with fail
        refine (domain_walk _ _ (by first | omega | (simp only [ByteArray.size_append, size_46]; omega) | decide)).mono ?_
        rintro e w5 ⟨rfl, hB5⟩
        rw [dot_domain, begin_domain]
        have HB5 := Lib.hid (below_then HB4.out hB5)
        clear hB5
        go_wp2_with fail
        refine (local_walk _ _ (by first | omega | (simp only [ByteArray.size_append, size_46]; omega) | decide)).mono ?_
        rintro e w6 ⟨rfl, hB6⟩
        rw [dot_local, end_local]
        have HB6 := Lib.hid (below_then HB5.out hB6)
        clear hB6
        go_wp2_with fail
        refine (local_walk _ _ (by first | omega | (simp only [ByteArray.size_append, size_46]; omega) | decide)).mono ?_
        rintro e w7 ⟨rfl, hB7⟩
        rw [dot_local, begin_local]
        have HB7 := Lib.hid (below_then HB6.out hB7)
        clear hB7
        go_wp2_with fail
        refine (domain_walk ⟨#[]⟩ _ (by decide)).mono ?_
        rintro e w8 ⟨rfl, hB8⟩
        rw [dot_domain, empty_domain]
        have HB8 := Lib.hid (below_then HB7.out hB8)
        clear hB8
        go_wp2_with fail
        refine (local_walk ⟨#[]⟩ _ (by decide)).mono ?_
        rintro e w9 ⟨rfl, hB9⟩
        rw [dot_local, empty_local]
        have HB9 := Lib.hid (below_then HB8.out hB9)
        clear hB9
        go_wp2
        go_ret
        exact ⟨rfl, HB9.out⟩
      | true =>
        cases hF : goLocal (bs b) with
        | false =>
          have HA := Lib.hid hA
          have HE := Lib.hid hE
          have HF := Lib.hid hF
          clear hA hE hF
          go_enter Tryd.func7, Tryd.ntmps7
          go_wp2_with fail
          refine (alive08 v w HC.out HV.out).mono ?_
          rintro e w1 ⟨rfl, hB1⟩
          have HB1 := Lib.hid hB1
          clear hB1
          go_wp2_with fail
          refine (domain_walk _ _ (by first | omega | (simp only [ByteArray.size_append, size_46]; omega) | decide)).mono ?_
          rintro e w2 ⟨rfl, hB2⟩
          rw [dot_domain, HA.out]
          have HB2 := Lib.hid (below_then HB1.out hB2)
          clear hB2
          go_wp2_with fail
          refine (local_walk _ _ (by first | omega | (simp only [ByteArray.size_append, size_46]; omega) | decide)).mono ?_
          rintro e w3 ⟨rfl, hB3⟩
          rw [dot_local, HE.out]
          have HB3 := Lib.hid (below_then HB2.out hB3)
          clear hB3
          go_wp2_with fail
          refine (local_walk _ _ (by first | omega | (simp only [ByteArray.size_append, size_46]; omega) | decide)).mono ?_
          rintro e w4 ⟨rfl, hB4⟩
          rw [dot_local, HF.out]
          have HB4 := Lib.hid (below_then HB3.out hB4)
          clear hB4
          go_wp2_with fail
          refine (domain_walk _ _ (by first | omega | (simp only [ByteArray.size_append, size_46]; omega) | decide)).mono ?_
          rintro e w5 ⟨rfl, hB5⟩
          rw [dot_domain, end_domain]
          have HB5 := Lib.hid (below_then HB4.out hB5)
          clear hB5
          go_wp2_with fail
          refine (domain_walk _ _ (by first | omega | (simp only [ByteArray.size_append, size_46]; omega) | decide)).mono ?_
          rintro e w6 ⟨rfl, hB6⟩
          rw [dot_domain, begin_domain]
          have HB6 := Lib.hid (below_then HB5.out hB6)
          clear hB6
          go_wp2_with fail
          refine (local_walk _ _ (by first | omega | (simp only [ByteArray.size_append, size_46]; omega) | decide)).mono ?_
          rintro e w7 ⟨rfl, hB7⟩
          rw [dot_local, end_local]
          have HB7 := Lib.hid (below_then HB6.out hB7)
          clear hB7
          go_wp2_with fail
          refine (local_walk _ _ (by first | omega | (simp only [ByteArray.size_append, size_46]; omega) | decide)).mono ?_
          rintro e w8 ⟨rfl, hB8⟩
          rw [dot_local, begin_local]
          have HB8 := Lib.hid (below_then HB7.out hB8)
          clear hB8
          go_wp2_with fail
          refine (domain_walk ⟨#[]⟩ _ (by decide)).mono ?_
          rintro e w9 ⟨rfl, hB9⟩
          rw [dot_domain, empty_domain]
          have HB9 := Lib.hid (below_then HB8.out hB9)
          clear hB9
          go_wp2_with fail
          refine (local_walk ⟨#[]⟩ _ (by decide)).mono ?_
          rintro e w10 ⟨rfl, hB10⟩
          rw [dot_local, empty_local]
          have HB10 := Lib.hid (below_then HB9.out hB10)
          clear hB10
          go_wp2
          go_ret
          exact ⟨rfl, HB10.out⟩
        | true =>
          have QL := Lib.hid (dots_local hE hF)
          have HA := Lib.hid hA
          have HE := Lib.hid hE
          have HF := Lib.hid hF
          clear hA hE hF
          go_enter Tryd.func7, Tryd.ntmps7
          go_wp2_with fail
          refine (alive08 v w HC.out HV.out).mono ?_
          rintro e w1 ⟨rfl, hB1⟩
          have HB1 := Lib.hid hB1
          clear hB1
          go_wp2_with fail
          refine (domain_walk _ _ (by first | omega | (simp only [ByteArray.size_append, size_46]; omega) | decide)).mono ?_
          rintro e w2 ⟨rfl, hB2⟩
          rw [dot_domain, HA.out]
          have HB2 := Lib.hid (below_then HB1.out hB2)
          clear hB2
          go_wp2_with fail
          refine (local_walk _ _ (by first | omega | (simp only [ByteArray.size_append, size_46]; omega) | decide)).mono ?_
          rintro e w3 ⟨rfl, hB3⟩
          rw [dot_local, HE.out]
          have HB3 := Lib.hid (below_then HB2.out hB3)
          clear hB3
          go_wp2_with fail
          refine (local_walk _ _ (by first | omega | (simp only [ByteArray.size_append, size_46]; omega) | decide)).mono ?_
          rintro e w4 ⟨rfl, hB4⟩
          rw [dot_local, HF.out]
          have HB4 := Lib.hid (below_then HB3.out hB4)
          clear hB4
          go_wp2_with fail
          refine (local_walk _ _ (by first | omega | (simp only [ByteArray.size_append, size_46]; omega) | decide)).mono ?_
          rintro e w5 ⟨rfl, hB5⟩
          rw [dot_local, QL.out]
          have HB5 := Lib.hid (below_then HB4.out hB5)
          clear hB5
          go_wp2_with fail
          refine (domain_walk _ _ (by first | omega | (simp only [ByteArray.size_append, size_46]; omega) | decide)).mono ?_
          rintro e w6 ⟨rfl, hB6⟩
          rw [dot_domain, end_domain]
          have HB6 := Lib.hid (below_then HB5.out hB6)
          clear hB6
          go_wp2_with fail
          refine (domain_walk _ _ (by first | omega | (simp only [ByteArray.size_append, size_46]; omega) | decide)).mono ?_
          rintro e w7 ⟨rfl, hB7⟩
          rw [dot_domain, begin_domain]
          have HB7 := Lib.hid (below_then HB6.out hB7)
          clear hB7
          go_wp2_with fail
          refine (local_walk _ _ (by first | omega | (simp only [ByteArray.size_append, size_46]; omega) | decide)).mono ?_
          rintro e w8 ⟨rfl, hB8⟩
          rw [dot_local, end_local]
          have HB8 := Lib.hid (below_then HB7.out hB8)
          clear hB8
          go_wp2_with fail
          refine (local_walk _ _ (by first | omega | (simp only [ByteArray.size_append, size_46]; omega) | decide)).mono ?_
          rintro e w9 ⟨rfl, hB9⟩
          rw [dot_local, begin_local]
          have HB9 := Lib.hid (below_then HB8.out hB9)
          clear hB9
          go_wp2_with fail
          refine (domain_walk ⟨#[]⟩ _ (by decide)).mono ?_
          rintro e w10 ⟨rfl, hB10⟩
          rw [dot_domain, empty_domain]
          have HB10 := Lib.hid (below_then HB9.out hB10)
          clear hB10
          go_wp2_with fail
          refine (local_walk ⟨#[]⟩ _ (by decide)).mono ?_
          rintro e w11 ⟨rfl, hB11⟩
          rw [dot_local, empty_local]
          have HB11 := Lib.hid (below_then HB10.out hB11)
          clear hB11
          go_wp2
          go_ret
          exact ⟨rfl, HB11.out⟩
    | true =>
      cases hB : goDomain (bs b) with
      | false =>
        cases hE : goLocal (bs a) with
        | false =>
          have HA := Lib.hid hA
          have HB := Lib.hid hB
          have HE := Lib.hid hE
          clear hA hE hB
          go_enter Tryd.func7, Tryd.ntmps7
          go_wp2_with fail
          refine (alive08 v w HC.out HV.out).mono ?_
          rintro e w1 ⟨rfl, hB1⟩
          have HB1 := Lib.hid hB1
          clear hB1
          go_wp2_with fail
          refine (domain_walk _ _ (by first | omega | (simp only [ByteArray.size_append, size_46]; omega) | decide)).mono ?_
          rintro e w2 ⟨rfl, hB2⟩
          rw [dot_domain, HA.out]
          have HB2 := Lib.hid (below_then HB1.out hB2)
          clear hB2
          go_wp2_with fail
          refine (domain_walk _ _ (by first | omega | (simp only [ByteArray.size_append, size_46]; omega) | decide)).mono ?_
          rintro e w3 ⟨rfl, hB3⟩
          rw [dot_domain, HB.out]
          have HB3 := Lib.hid (below_then HB2.out hB3)
          clear hB3
          go_wp2_with fail
          refine (local_walk _ _ (by first | omega | (simp only [ByteArray.size_append, size_46]; omega) | decide)).mono ?_
          rintro e w4 ⟨rfl, hB4⟩
          rw [dot_local, HE.out]
          have HB4 := Lib.hid (below_then HB3.out hB4)
          clear hB4
          go_wp2_with fail
          refine (domain_walk _ _ (by first | omega | (simp only [ByteArray.size_append, size_46]; omega) | decide)).mono ?_
          rintro e w5 ⟨rfl, hB5⟩
          rw [dot_domain, end_domain]
          have HB5 := Lib.hid (below_then HB4.out hB5)
          clear hB5
          go_wp2_with fail
          refine (domain_walk _ _ (by first | omega | (simp only [ByteArray.size_append, size_46]; omega) | decide)).mono ?_
          rintro e w6 ⟨rfl, hB6⟩
          rw [dot_domain, begin_domain]
          have HB6 := Lib.hid (below_then HB5.out hB6)
          clear hB6
          go_wp2_with fail
          refine (local_walk _ _ (by first | omega | (simp only [ByteArray.size_append, size_46]; omega) | decide)).mono ?_
          rintro e w7 ⟨rfl, hB7⟩
          rw [dot_local, end_local]
          have HB7 := Lib.hid (below_then HB6.out hB7)
          clear hB7
          go_wp2_with fail
          refine (local_walk _ _ (by first | omega | (simp only [ByteArray.size_append, size_46]; omega) | decide)).mono ?_
          rintro e w8 ⟨rfl, hB8⟩
          rw [dot_local, begin_local]
          have HB8 := Lib.hid (below_then HB7.out hB8)
          clear hB8
          go_wp2_with fail
          refine (domain_walk ⟨#[]⟩ _ (by decide)).mono ?_
          rintro e w9 ⟨rfl, hB9⟩
          rw [dot_domain, empty_domain]
          have HB9 := Lib.hid (below_then HB8.out hB9)
          clear hB9
          go_wp2_with fail
          refine (local_walk ⟨#[]⟩ _ (by decide)).mono ?_
          rintro e w10 ⟨rfl, hB10⟩
          rw [dot_local, empty_local]
          have HB10 := Lib.hid (below_then HB9.out hB10)
          clear hB10
          go_wp2
          go_ret
          exact ⟨rfl, HB10.out⟩
        | true =>
          cases hF : goLocal (bs b) with
          | false =>
            have HA := Lib.hid hA
            have HB := Lib.hid hB
            have HE := Lib.hid hE
            have HF := Lib.hid hF
            clear hA hE hB hF
            go_enter Tryd.func7, Tryd.ntmps7
            go_wp2_with fail
            refine (alive08 v w HC.out HV.out).mono ?_
            rintro e w1 ⟨rfl, hB1⟩
            have HB1 := Lib.hid hB1
            clear hB1
            go_wp2_with fail
            refine (domain_walk _ _ (by first | omega | (simp only [ByteArray.size_append, size_46]; omega) | decide)).mono ?_
            rintro e w2 ⟨rfl, hB2⟩
            rw [dot_domain, HA.out]
            have HB2 := Lib.hid (below_then HB1.out hB2)
            clear hB2
            go_wp2_with fail
            refine (domain_walk _ _ (by first | omega | (simp only [ByteArray.size_append, size_46]; omega) | decide)).mono ?_
            rintro e w3 ⟨rfl, hB3⟩
            rw [dot_domain, HB.out]
            have HB3 := Lib.hid (below_then HB2.out hB3)
            clear hB3
            go_wp2_with fail
            refine (local_walk _ _ (by first | omega | (simp only [ByteArray.size_append, size_46]; omega) | decide)).mono ?_
            rintro e w4 ⟨rfl, hB4⟩
            rw [dot_local, HE.out]
            have HB4 := Lib.hid (below_then HB3.out hB4)
            clear hB4
            go_wp2_with fail
            refine (local_walk _ _ (by first | omega | (simp only [ByteArray.size_append, size_46]; omega) | decide)).mono ?_
            rintro e w5 ⟨rfl, hB5⟩
            rw [dot_local, HF.out]
            have HB5 := Lib.hid (below_then HB4.out hB5)
            clear hB5
            go_wp2_with fail
            refine (domain_walk _ _ (by first | omega | (simp only [ByteArray.size_append, size_46]; omega) | decide)).mono ?_
            rintro e w6 ⟨rfl, hB6⟩
            rw [dot_domain, end_domain]
            have HB6 := Lib.hid (below_then HB5.out hB6)
            clear hB6
            go_wp2_with fail
            refine (domain_walk _ _ (by first | omega | (simp only [ByteArray.size_append, size_46]; omega) | decide)).mono ?_
            rintro e w7 ⟨rfl, hB7⟩
            rw [dot_domain, begin_domain]
            have HB7 := Lib.hid (below_then HB6.out hB7)
            clear hB7
            go_wp2_with fail
            refine (local_walk _ _ (by first | omega | (simp only [ByteArray.size_append, size_46]; omega) | decide)).mono ?_
            rintro e w8 ⟨rfl, hB8⟩
            rw [dot_local, end_local]
            have HB8 := Lib.hid (below_then HB7.out hB8)
            clear hB8
            go_wp2_with fail
            refine (local_walk _ _ (by first | omega | (simp only [ByteArray.size_append, size_46]; omega) | decide)).mono ?_
            rintro e w9 ⟨rfl, hB9⟩
            rw [dot_local, begin_local]
            have HB9 := Lib.hid (below_then HB8.out hB9)
            clear hB9
            go_wp2_with fail
            refine (domain_walk ⟨#[]⟩ _ (by decide)).mono ?_
            rintro e w10 ⟨rfl, hB10⟩
            rw [dot_domain, empty_domain]
            have HB10 := Lib.hid (below_then HB9.out hB10)
            clear hB10
            go_wp2_with fail
            refine (local_walk ⟨#[]⟩ _ (by decide)).mono ?_
            rintro e w11 ⟨rfl, hB11⟩
            rw [dot_local, empty_local]
            have HB11 := Lib.hid (below_then HB10.out hB11)
            clear hB11
            go_wp2
            go_ret
            exact ⟨rfl, HB11.out⟩
          | true =>
            have QL := Lib.hid (dots_local hE hF)
            have HA := Lib.hid hA
            have HB := Lib.hid hB
            have HE := Lib.hid hE
            have HF := Lib.hid hF
            clear hA hE hB hF
            go_enter Tryd.func7, Tryd.ntmps7
            go_wp2_with fail
            refine (alive08 v w HC.out HV.out).mono ?_
            rintro e w1 ⟨rfl, hB1⟩
            have HB1 := Lib.hid hB1
            clear hB1
            go_wp2_with fail
            refine (domain_walk _ _ (by first | omega | (simp only [ByteArray.size_append, size_46]; omega) | decide)).mono ?_
            rintro e w2 ⟨rfl, hB2⟩
            rw [dot_domain, HA.out]
            have HB2 := Lib.hid (below_then HB1.out hB2)
            clear hB2
            go_wp2_with fail
            refine (domain_walk _ _ (by first | omega | (simp only [ByteArray.size_append, size_46]; omega) | decide)).mono ?_
            rintro e w3 ⟨rfl, hB3⟩
            rw [dot_domain, HB.out]
            have HB3 := Lib.hid (below_then HB2.out hB3)
            clear hB3
            go_wp2_with fail
            refine (local_walk _ _ (by first | omega | (simp only [ByteArray.size_append, size_46]; omega) | decide)).mono ?_
            rintro e w4 ⟨rfl, hB4⟩
            rw [dot_local, HE.out]
            have HB4 := Lib.hid (below_then HB3.out hB4)
            clear hB4
            go_wp2_with fail
            refine (local_walk _ _ (by first | omega | (simp only [ByteArray.size_append, size_46]; omega) | decide)).mono ?_
            rintro e w5 ⟨rfl, hB5⟩
            rw [dot_local, HF.out]
            have HB5 := Lib.hid (below_then HB4.out hB5)
            clear hB5
            go_wp2_with fail
            refine (local_walk _ _ (by first | omega | (simp only [ByteArray.size_append, size_46]; omega) | decide)).mono ?_
            rintro e w6 ⟨rfl, hB6⟩
            rw [dot_local, QL.out]
            have HB6 := Lib.hid (below_then HB5.out hB6)
            clear hB6
            go_wp2_with fail
            refine (domain_walk _ _ (by first | omega | (simp only [ByteArray.size_append, size_46]; omega) | decide)).mono ?_
            rintro e w7 ⟨rfl, hB7⟩
            rw [dot_domain, end_domain]
            have HB7 := Lib.hid (below_then HB6.out hB7)
            clear hB7
            go_wp2_with fail
            refine (domain_walk _ _ (by first | omega | (simp only [ByteArray.size_append, size_46]; omega) | decide)).mono ?_
            rintro e w8 ⟨rfl, hB8⟩
            rw [dot_domain, begin_domain]
            have HB8 := Lib.hid (below_then HB7.out hB8)
            clear hB8
            go_wp2_with fail
            refine (local_walk _ _ (by first | omega | (simp only [ByteArray.size_append, size_46]; omega) | decide)).mono ?_
            rintro e w9 ⟨rfl, hB9⟩
            rw [dot_local, end_local]
            have HB9 := Lib.hid (below_then HB8.out hB9)
            clear hB9
            go_wp2_with fail
            refine (local_walk _ _ (by first | omega | (simp only [ByteArray.size_append, size_46]; omega) | decide)).mono ?_
            rintro e w10 ⟨rfl, hB10⟩
            rw [dot_local, begin_local]
            have HB10 := Lib.hid (below_then HB9.out hB10)
            clear hB10
            go_wp2_with fail
            refine (domain_walk ⟨#[]⟩ _ (by decide)).mono ?_
            rintro e w11 ⟨rfl, hB11⟩
            rw [dot_domain, empty_domain]
            have HB11 := Lib.hid (below_then HB10.out hB11)
            clear hB11
            go_wp2_with fail
            refine (local_walk ⟨#[]⟩ _ (by decide)).mono ?_
            rintro e w12 ⟨rfl, hB12⟩
            rw [dot_local, empty_local]
            have HB12 := Lib.hid (below_then HB11.out hB12)
            clear hB12
            go_wp2
            go_ret
            exact ⟨rfl, HB12.out⟩
      | true =>
        cases hE : goLocal (bs a) with
        | false =>
          have QD := Lib.hid (dots_domain hA hB)
          have HA := Lib.hid hA
          have HB := Lib.hid hB
          have HE := Lib.hid hE
          clear hA hE hB
          go_enter Tryd.func7, Tryd.ntmps7
          go_wp2_with fail
          refine (alive08 v w HC.out HV.out).mono ?_
          rintro e w1 ⟨rfl, hB1⟩
          have HB1 := Lib.hid hB1
          clear hB1
          go_wp2_with fail
          refine (domain_walk _ _ (by first | omega | (simp only [ByteArray.size_append, size_46]; omega) | decide)).mono ?_
          rintro e w2 ⟨rfl, hB2⟩
          rw [dot_domain, HA.out]
          have HB2 := Lib.hid (below_then HB1.out hB2)
          clear hB2
          go_wp2_with fail
          refine (domain_walk _ _ (by first | omega | (simp only [ByteArray.size_append, size_46]; omega) | decide)).mono ?_
          rintro e w3 ⟨rfl, hB3⟩
          rw [dot_domain, HB.out]
          have HB3 := Lib.hid (below_then HB2.out hB3)
          clear hB3
          go_wp2_with fail
          refine (domain_walk _ _ (by first | omega | (simp only [ByteArray.size_append, size_46]; omega) | decide)).mono ?_
          rintro e w4 ⟨rfl, hB4⟩
          rw [dot_domain, QD.out]
          have HB4 := Lib.hid (below_then HB3.out hB4)
          clear hB4
          go_wp2_with fail
          refine (local_walk _ _ (by first | omega | (simp only [ByteArray.size_append, size_46]; omega) | decide)).mono ?_
          rintro e w5 ⟨rfl, hB5⟩
          rw [dot_local, HE.out]
          have HB5 := Lib.hid (below_then HB4.out hB5)
          clear hB5
          go_wp2_with fail
          refine (domain_walk _ _ (by first | omega | (simp only [ByteArray.size_append, size_46]; omega) | decide)).mono ?_
          rintro e w6 ⟨rfl, hB6⟩
          rw [dot_domain, end_domain]
          have HB6 := Lib.hid (below_then HB5.out hB6)
          clear hB6
          go_wp2_with fail
          refine (domain_walk _ _ (by first | omega | (simp only [ByteArray.size_append, size_46]; omega) | decide)).mono ?_
          rintro e w7 ⟨rfl, hB7⟩
          rw [dot_domain, begin_domain]
          have HB7 := Lib.hid (below_then HB6.out hB7)
          clear hB7
          go_wp2_with fail
          refine (local_walk _ _ (by first | omega | (simp only [ByteArray.size_append, size_46]; omega) | decide)).mono ?_
          rintro e w8 ⟨rfl, hB8⟩
          rw [dot_local, end_local]
          have HB8 := Lib.hid (below_then HB7.out hB8)
          clear hB8
          go_wp2_with fail
          refine (local_walk _ _ (by first | omega | (simp only [ByteArray.size_append, size_46]; omega) | decide)).mono ?_
          rintro e w9 ⟨rfl, hB9⟩
          rw [dot_local, begin_local]
          have HB9 := Lib.hid (below_then HB8.out hB9)
          clear hB9
          go_wp2_with fail
          refine (domain_walk ⟨#[]⟩ _ (by decide)).mono ?_
          rintro e w10 ⟨rfl, hB10⟩
          rw [dot_domain, empty_domain]
          have HB10 := Lib.hid (below_then HB9.out hB10)
          clear hB10
          go_wp2_with fail
          refine (local_walk ⟨#[]⟩ _ (by decide)).mono ?_
          rintro e w11 ⟨rfl, hB11⟩
          rw [dot_local, empty_local]
          have HB11 := Lib.hid (below_then HB10.out hB11)
          clear hB11
          go_wp2
          go_ret
          exact ⟨rfl, HB11.out⟩
        | true =>
          cases hF : goLocal (bs b) with
          | false =>
            have QD := Lib.hid (dots_domain hA hB)
            have HA := Lib.hid hA
            have HB := Lib.hid hB
            have HE := Lib.hid hE
            have HF := Lib.hid hF
            clear hA hE hB hF
            go_enter Tryd.func7, Tryd.ntmps7
            go_wp2_with fail
            refine (alive08 v w HC.out HV.out).mono ?_
            rintro e w1 ⟨rfl, hB1⟩
            have HB1 := Lib.hid hB1
            clear hB1
            go_wp2_with fail
            refine (domain_walk _ _ (by first | omega | (simp only [ByteArray.size_append, size_46]; omega) | decide)).mono ?_
            rintro e w2 ⟨rfl, hB2⟩
            rw [dot_domain, HA.out]
            have HB2 := Lib.hid (below_then HB1.out hB2)
            clear hB2
            go_wp2_with fail
            refine (domain_walk _ _ (by first | omega | (simp only [ByteArray.size_append, size_46]; omega) | decide)).mono ?_
            rintro e w3 ⟨rfl, hB3⟩
            rw [dot_domain, HB.out]
            have HB3 := Lib.hid (below_then HB2.out hB3)
            clear hB3
            go_wp2_with fail
            refine (domain_walk _ _ (by first | omega | (simp only [ByteArray.size_append, size_46]; omega) | decide)).mono ?_
            rintro e w4 ⟨rfl, hB4⟩
            rw [dot_domain, QD.out]
            have HB4 := Lib.hid (below_then HB3.out hB4)
            clear hB4
            go_wp2_with fail
            refine (local_walk _ _ (by first | omega | (simp only [ByteArray.size_append, size_46]; omega) | decide)).mono ?_
            rintro e w5 ⟨rfl, hB5⟩
            rw [dot_local, HE.out]
            have HB5 := Lib.hid (below_then HB4.out hB5)
            clear hB5
            go_wp2_with fail
            refine (local_walk _ _ (by first | omega | (simp only [ByteArray.size_append, size_46]; omega) | decide)).mono ?_
            rintro e w6 ⟨rfl, hB6⟩
            rw [dot_local, HF.out]
            have HB6 := Lib.hid (below_then HB5.out hB6)
            clear hB6
            go_wp2_with fail
            refine (domain_walk _ _ (by first | omega | (simp only [ByteArray.size_append, size_46]; omega) | decide)).mono ?_
            rintro e w7 ⟨rfl, hB7⟩
            rw [dot_domain, end_domain]
            have HB7 := Lib.hid (below_then HB6.out hB7)
            clear hB7
            go_wp2_with fail
            refine (domain_walk _ _ (by first | omega | (simp only [ByteArray.size_append, size_46]; omega) | decide)).mono ?_
            rintro e w8 ⟨rfl, hB8⟩
            rw [dot_domain, begin_domain]
            have HB8 := Lib.hid (below_then HB7.out hB8)
            clear hB8
            go_wp2_with fail
            refine (local_walk _ _ (by first | omega | (simp only [ByteArray.size_append, size_46]; omega) | decide)).mono ?_
            rintro e w9 ⟨rfl, hB9⟩
            rw [dot_local, end_local]
            have HB9 := Lib.hid (below_then HB8.out hB9)
            clear hB9
            go_wp2_with fail
            refine (local_walk _ _ (by first | omega | (simp only [ByteArray.size_append, size_46]; omega) | decide)).mono ?_
            rintro e w10 ⟨rfl, hB10⟩
            rw [dot_local, begin_local]
            have HB10 := Lib.hid (below_then HB9.out hB10)
            clear hB10
            go_wp2_with fail
            refine (domain_walk ⟨#[]⟩ _ (by decide)).mono ?_
            rintro e w11 ⟨rfl, hB11⟩
            rw [dot_domain, empty_domain]
            have HB11 := Lib.hid (below_then HB10.out hB11)
            clear hB11
            go_wp2_with fail
            refine (local_walk ⟨#[]⟩ _ (by decide)).mono ?_
            rintro e w12 ⟨rfl, hB12⟩
            rw [dot_local, empty_local]
            have HB12 := Lib.hid (below_then HB11.out hB12)
            clear hB12
            go_wp2
            go_ret
            exact ⟨rfl, HB12.out⟩
          | true =>
            have QD := Lib.hid (dots_domain hA hB)
            have QL := Lib.hid (dots_local hE hF)
            have HA := Lib.hid hA
            have HB := Lib.hid hB
            have HE := Lib.hid hE
            have HF := Lib.hid hF
            clear hA hE hB hF
            go_enter Tryd.func7, Tryd.ntmps7
            go_wp2_with fail
            refine (alive08 v w HC.out HV.out).mono ?_
            rintro e w1 ⟨rfl, hB1⟩
            have HB1 := Lib.hid hB1
            clear hB1
            go_wp2_with fail
            refine (domain_walk _ _ (by first | omega | (simp only [ByteArray.size_append, size_46]; omega) | decide)).mono ?_
            rintro e w2 ⟨rfl, hB2⟩
            rw [dot_domain, HA.out]
            have HB2 := Lib.hid (below_then HB1.out hB2)
            clear hB2
            go_wp2_with fail
            refine (domain_walk _ _ (by first | omega | (simp only [ByteArray.size_append, size_46]; omega) | decide)).mono ?_
            rintro e w3 ⟨rfl, hB3⟩
            rw [dot_domain, HB.out]
            have HB3 := Lib.hid (below_then HB2.out hB3)
            clear hB3
            go_wp2_with fail
            refine (domain_walk _ _ (by first | omega | (simp only [ByteArray.size_append, size_46]; omega) | decide)).mono ?_
            rintro e w4 ⟨rfl, hB4⟩
            rw [dot_domain, QD.out]
            have HB4 := Lib.hid (below_then HB3.out hB4)
            clear hB4
            go_wp2_with fail
            refine (local_walk _ _ (by first | omega | (simp only [ByteArray.size_append, size_46]; omega) | decide)).mono ?_
            rintro e w5 ⟨rfl, hB5⟩
            rw [dot_local, HE.out]
            have HB5 := Lib.hid (below_then HB4.out hB5)
            clear hB5
            go_wp2_with fail
            refine (local_walk _ _ (by first | omega | (simp only [ByteArray.size_append, size_46]; omega) | decide)).mono ?_
            rintro e w6 ⟨rfl, hB6⟩
            rw [dot_local, HF.out]
            have HB6 := Lib.hid (below_then HB5.out hB6)
            clear hB6
            go_wp2_with fail
            refine (local_walk _ _ (by first | omega | (simp only [ByteArray.size_append, size_46]; omega) | decide)).mono ?_
            rintro e w7 ⟨rfl, hB7⟩
            rw [dot_local, QL.out]
            have HB7 := Lib.hid (below_then HB6.out hB7)
            clear hB7
            go_wp2_with fail
            refine (domain_walk _ _ (by first | omega | (simp only [ByteArray.size_append, size_46]; omega) | decide)).mono ?_
            rintro e w8 ⟨rfl, hB8⟩
            rw [dot_domain, end_domain]
            have HB8 := Lib.hid (below_then HB7.out hB8)
            clear hB8
            go_wp2_with fail
            refine (domain_walk _ _ (by first | omega | (simp only [ByteArray.size_append, size_46]; omega) | decide)).mono ?_
            rintro e w9 ⟨rfl, hB9⟩
            rw [dot_domain, begin_domain]
            have HB9 := Lib.hid (below_then HB8.out hB9)
            clear hB9
            go_wp2_with fail
            refine (local_walk _ _ (by first | omega | (simp only [ByteArray.size_append, size_46]; omega) | decide)).mono ?_
            rintro e w10 ⟨rfl, hB10⟩
            rw [dot_local, end_local]
            have HB10 := Lib.hid (below_then HB9.out hB10)
            clear hB10
            go_wp2_with fail
            refine (local_walk _ _ (by first | omega | (simp only [ByteArray.size_append, size_46]; omega) | decide)).mono ?_
            rintro e w11 ⟨rfl, hB11⟩
            rw [dot_local, begin_local]
            have HB11 := Lib.hid (below_then HB10.out hB11)
            clear hB11
            go_wp2_with fail
            refine (domain_walk ⟨#[]⟩ _ (by decide)).mono ?_
            rintro e w12 ⟨rfl, hB12⟩
            rw [dot_domain, empty_domain]
            have HB12 := Lib.hid (below_then HB11.out hB12)
            clear hB12
            go_wp2_with fail
            refine (local_walk ⟨#[]⟩ _ (by decide)).mono ?_
            rintro e w13 ⟨rfl, hB13⟩
            rw [dot_local, empty_local]
            have HB13 := Lib.hid (below_then HB12.out hB13)
            clear hB13
            go_wp2
            go_ret
            exact ⟨rfl, HB13.out⟩
  · have hz : 500 < a.size ∨ 500 < b.size := by omega
    by_cases h1 : a.size ≤ 500
    · have h2 : 500 < b.size := by omega
      go_enter Tryd.func7, Tryd.ntmps7
      go_wp2_with fail
      refine (alive08 v w HC.out HV.out).mono ?_
      rintro e w1 ⟨rfl, hB1⟩
      have HB1 := Lib.hid hB1
      clear hB1
      go_wp2
      go_ret
      exact ⟨rfl, HB1.out⟩
    · go_enter Tryd.func7, Tryd.ntmps7
      go_wp2_with fail
      refine (alive08 v w HC.out HV.out).mono ?_
      rintro e w1 ⟨rfl, hB1⟩
      have HB1 := Lib.hid hB1
      clear hB1
      go_wp2
      go_ret
      exact ⟨rfl, HB1.out⟩
end Go.Proofs.YtcalbpdcjklffaaDoor
