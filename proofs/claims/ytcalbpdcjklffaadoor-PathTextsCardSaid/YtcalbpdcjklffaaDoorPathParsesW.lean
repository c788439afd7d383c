/- The walks of the statements PathParses and PathTexts (printed by wip/bin/genpathparses.py). -/
import Derived.Test.YtcalbpdcjklffaaDoorPathA
namespace Go.Proofs.YtcalbpdcjklffaaDoor
open Go.RowKit
set_option linter.unusedSimpArgs false
set_option linter.unusedVariables false
theorem extract_nil {s : ByteArray} {n : Nat} (h : s.size ≤ n) : (s.extract n s.size).toList.isEmpty = true := by
  rw [isEmpty_bs, bs_extract, List.isEmpty_iff, List.drop_eq_nil_iff, List.length_take, bs_size]; omega
theorem extract_cons {s : ByteArray} {n : Nat} (h : n < s.size) : (s.extract n s.size).toList.isEmpty = false := by
  rw [isEmpty_bs, bs_extract]
  cases e : List.drop n ((bs s).take s.size) with
  | nil => rw [List.drop_eq_nil_iff, List.length_take, bs_size] at e; omega
  | cons => rfl

set_option maxHeartbeats 8000000 in
set_option maxRecDepth 100000 in
theorem pathParses_walk {a0 a1 a2 a3 a4 a5 a6 a7 a8 a9 a10 a11 a12 : Addr} (s : ByteArray) (w : World) (hs : s.size ≤ 140737488351232) (hE : ErrsAt w a0 a1 a2 a3 a4 a5 a6 a7 a8 a9 a10 a11 a12) :
    Calls Tryd.prog 8 #[.string s] w fun e w' => e = .returned (.bool true) ∧ Below w.heap.size w w' := by
  have HE := Lib.hid hE
  clear hE
  by_cases hz : s.size ≤ 2000
  · generalize hR : takeR s = R
    obtain ⟨rl, rd, n⟩ := R
    by_cases h0 : n = 0
    · subst h0
      have ht := take_no s (by rw [hR])
      have PV : pV s (.iface 146 (.pointer (some a1))) = .tuple #[.agg #[.string ⟨#[]⟩, .string ⟨#[]⟩], (.iface 146 (.pointer (some a1)))] := by rw [pV, pLo, pD, pOk, ht]; rfl
      have TV : tV s (.iface 146 (.pointer (some a1))) = .tuple #[.agg #[.string ⟨#[]⟩, .string ⟨#[]⟩], .string ⟨#[]⟩, (.iface 146 (.pointer (some a1)))] := by rw [tV, ht]; rfl
      have KV : takeV (takeR s) = .tuple #[.agg #[.string rl, .string rd], .int .i64 0] := by rw [hR]; rfl
      have HPV := Lib.hid PV
      have HTV := Lib.hid TV
      have HKV := Lib.hid KV
      clear PV TV KV ht hR
      go_enter Tryd.func8, Tryd.ntmps8
      go_wp2_with fail
      refine (alive08 (.iface 146 (.pointer (some a1))) w HE.out.h1.1 ⟨_, _, rfl⟩).mono ?_
      rintro e w1 ⟨rfl, hB1⟩
      have HB1 := Lib.hid hB1
      have HE1 := Lib.hid (HE.out.below hB1)
      clear hB1
      go_wp2_with fail
      refine (parse_walk s (.iface 146 (.pointer (some a1))) w1 hs HE1.out.h1.1 ⟨_, _, rfl⟩).mono ?_
      rintro e w2 ⟨rfl, hB2⟩
      rw [HPV.out]
      have HB2 := Lib.hid (below_then HB1.out hB2)
      have HE2 := Lib.hid (HE1.out.below hB2)
      clear hB2
      generalize h3 : w2.alloc (Obj.cells #[.string ⟨#[]⟩, .string ⟨#[]⟩] 47) = w3
      generalize h4 : (w3.setCell ⟨w2.heap.size, 0, none⟩ (.string ⟨#[]⟩)).setCell ⟨w2.heap.size, 1, none⟩ (.string ⟨#[]⟩) = w4
      obtain ⟨hB4, hP4, hP3⟩ := path_laid w2 ⟨#[]⟩ ⟨#[]⟩ h3 h4
      obtain ⟨c3a, c3b, c3c, c3d⟩ := two_cells hP3.heap
      have HB4 := Lib.hid (below_then HB2.out hB4)
      have HE4 := Lib.hid (HE2.out.below hB4)
      clear hB4
      have HQ4 := Lib.hid hP4
      clear hP3 hP4
      go_wp2_with fail
      refine (take_walk s (.iface 146 (.pointer (some a1))) w4 hs HE4.out.h1.1 ⟨_, _, rfl⟩).mono ?_
      rintro e w5 ⟨rfl, hB5⟩
      rw [HTV.out]
      have HB5 := Lib.hid (below_then HB4.out hB5)
      have HE5 := Lib.hid (HE4.out.below hB5)
      have HP0_5 := Lib.hid (HQ4.out.then hB5)
      clear hB5
      generalize h6 : w5.alloc (Obj.cells #[.string ⟨#[]⟩, .string ⟨#[]⟩] 47) = w6
      generalize h7 : (w6.setCell ⟨w5.heap.size, 0, none⟩ (.string ⟨#[]⟩)).setCell ⟨w5.heap.size, 1, none⟩ (.string ⟨#[]⟩) = w7
      obtain ⟨hB7, hP7, hP6⟩ := path_laid w5 ⟨#[]⟩ ⟨#[]⟩ h6 h7
      obtain ⟨c6a, c6b, c6c, c6d⟩ := two_cells hP6.heap
      have HB7 := Lib.hid (below_then HB5.out hB7)
      have HE7 := Lib.hid (HE5.out.below hB7)
      have HP0_7 := Lib.hid (HP0_5.out.then hB7)
      clear hB7
      have HQ7 := Lib.hid hP7
      clear hP6 hP7
      go_wp2_with fail
      refine (takeRef_walk s w7 hs).mono ?_
      rintro e w8 ⟨rfl, hB8⟩
      rw [HKV.out]
      have HB8 := Lib.hid (below_then HB7.out hB8)
      have HE8 := Lib.hid (HE7.out.below hB8)
      have HP0_8 := Lib.hid (HP0_7.out.then hB8)
      have HP1_8 := Lib.hid (HQ7.out.then hB8)
      clear hB8
      generalize h9 : w8.alloc (Obj.cells #[.string ⟨#[]⟩, .string ⟨#[]⟩] 47) = w9
      generalize h10 : (w9.setCell ⟨w8.heap.size, 0, none⟩ (.string rl)).setCell ⟨w8.heap.size, 1, none⟩ (.string rd) = w10
      obtain ⟨hB10, hP10, hP9⟩ := path_laid w8 rl rd h9 h10
      obtain ⟨c9a, c9b, c9c, c9d⟩ := two_cells hP9.heap
      have HB10 := Lib.hid (below_then HB8.out hB10)
      have HE10 := Lib.hid (HE8.out.below hB10)
      have HP0_10 := Lib.hid (HP0_8.out.then hB10)
      have HP1_10 := Lib.hid (HP1_8.out.then hB10)
      clear hB10
      have HQ10 := Lib.hid hP10
      clear hP9 hP10
      obtain ⟨d0a, d0b, d0c, d0d⟩ := two_cells HP0_10.out.heap
      obtain ⟨d1a, d1b, d1c, d1d⟩ := two_cells HP1_10.out.heap
      obtain ⟨d2a, d2b, d2c, d2d⟩ := two_cells HQ10.out.heap
      go_wp2_with fail
      refine (num_form HE10.out).mono ?_
      rintro e w11 ⟨rfl, hB11⟩
      have HB11 := Lib.hid (below_then HB10.out hB11)
      have HE11 := Lib.hid (HE10.out.below hB11)
      have HP0_11 := Lib.hid (HP0_10.out.then hB11)
      have HP1_11 := Lib.hid (HP1_10.out.then hB11)
      have HP2_11 := Lib.hid (HQ10.out.then hB11)
      clear hB11
      go_wp2_with fail
      refine (num_form HE11.out).mono ?_
      rintro e w12 ⟨rfl, hB12⟩
      have HB12 := Lib.hid (below_then HB11.out hB12)
      have HE12 := Lib.hid (HE11.out.below hB12)
      have HP0_12 := Lib.hid (HP0_11.out.then hB12)
      have HP1_12 := Lib.hid (HP1_11.out.then hB12)
      have HP2_12 := Lib.hid (HP2_11.out.then hB12)
      clear hB12
      go_wp2
      go_ret
      exact ⟨rfl, HB12.out⟩
    · obtain ⟨ht, h1, h2, h3⟩ := take_yes s (by rw [hR]; exact h0)
      have hle := takeR_le s
      rw [hR] at h1 h2 h3 hle
      simp only at h1 h2 h3 hle
      have n0 : ((n : Int) == 0) = false := by rw [beq_eq_false_iff_ne]; omega
      have n1 : (n : Int) ≤ (s.size : Int) := by omega
      have TV : tV s (.iface 146 (.pointer (some a1))) = .tuple #[.agg #[.string rl, .string rd], .string (s.extract n s.size), .nilIface] := by rw [tV, ht, h1, h2, h3]; rfl
      have KV : takeV (takeR s) = .tuple #[.agg #[.string rl, .string rd], .int .i64 n] := by rw [hR]; rfl
      have HTV := Lib.hid TV
      have HKV := Lib.hid KV
      by_cases hn : n < s.size
      · have hp : pOk s = false := by rw [pOk, h3, extract_cons hn, Bool.and_false]
        have PV : pV s (.iface 146 (.pointer (some a1))) = .tuple #[.agg #[.string ⟨#[]⟩, .string ⟨#[]⟩], (.iface 146 (.pointer (some a1)))] := by rw [pV, pLo, pD, hp]; rfl
        have HPV := Lib.hid PV
        clear PV TV KV ht hR hp h1 h2 h3
        go_enter Tryd.func8, Tryd.ntmps8
        go_wp2_with fail
        refine (alive08 (.iface 146 (.pointer (some a1))) w HE.out.h1.1 ⟨_, _, rfl⟩).mono ?_
        rintro e w1 ⟨rfl, hB1⟩
        have HB1 := Lib.hid hB1
        have HE1 := Lib.hid (HE.out.below hB1)
        clear hB1
        go_wp2_with fail
        refine (parse_walk s (.iface 146 (.pointer (some a1))) w1 hs HE1.out.h1.1 ⟨_, _, rfl⟩).mono ?_
        rintro e w2 ⟨rfl, hB2⟩
        rw [HPV.out]
        have HB2 := Lib.hid (below_then HB1.out hB2)
        have HE2 := Lib.hid (HE1.out.below hB2)
        clear hB2
        generalize h3 : w2.alloc (Obj.cells #[.string ⟨#[]⟩, .string ⟨#[]⟩] 47) = w3
        generalize h4 : (w3.setCell ⟨w2.heap.size, 0, none⟩ (.string ⟨#[]⟩)).setCell ⟨w2.heap.size, 1, none⟩ (.string ⟨#[]⟩) = w4
        obtain ⟨hB4, hP4, hP3⟩ := path_laid w2 ⟨#[]⟩ ⟨#[]⟩ h3 h4
        obtain ⟨c3a, c3b, c3c, c3d⟩ := two_cells hP3.heap
        have HB4 := Lib.hid (below_then HB2.out hB4)
        have HE4 := Lib.hid (HE2.out.below hB4)
        clear hB4
        have HQ4 := Lib.hid hP4
        clear hP3 hP4
        go_wp2_with fail
        refine (take_walk s (.iface 146 (.pointer (some a1))) w4 hs HE4.out.h1.1 ⟨_, _, rfl⟩).mono ?_
        rintro e w5 ⟨rfl, hB5⟩
        rw [HTV.out]
        have HB5 := Lib.hid (below_then HB4.out hB5)
        have HE5 := Lib.hid (HE4.out.below hB5)
        have HP0_5 := Lib.hid (HQ4.out.then hB5)
        clear hB5
        generalize h6 : w5.alloc (Obj.cells #[.string ⟨#[]⟩, .string ⟨#[]⟩] 47) = w6
        generalize h7 : (w6.setCell ⟨w5.heap.size, 0, none⟩ (.string rl)).setCell ⟨w5.heap.size, 1, none⟩ (.string rd) = w7
        obtain ⟨hB7, hP7, hP6⟩ := path_laid w5 rl rd h6 h7
        obtain ⟨c6a, c6b, c6c, c6d⟩ := two_cells hP6.heap
        have HB7 := Lib.hid (below_then HB5.out hB7)
        have HE7 := Lib.hid (HE5.out.below hB7)
        have HP0_7 := Lib.hid (HP0_5.out.then hB7)
        clear hB7
        have HQ7 := Lib.hid hP7
        clear hP6 hP7
        go_wp2_with fail
        refine (takeRef_walk s w7 hs).mono ?_
        rintro e w8 ⟨rfl, hB8⟩
        rw [HKV.out]
        have HB8 := Lib.hid (below_then HB7.out hB8)
        have HE8 := Lib.hid (HE7.out.below hB8)
        have HP0_8 := Lib.hid (HP0_7.out.then hB8)
        have HP1_8 := Lib.hid (HQ7.out.then hB8)
        clear hB8
        generalize h9 : w8.alloc (Obj.cells #[.string ⟨#[]⟩, .string ⟨#[]⟩] 47) = w9
        generalize h10 : (w9.setCell ⟨w8.heap.size, 0, none⟩ (.string rl)).setCell ⟨w8.heap.size, 1, none⟩ (.string rd) = w10
        obtain ⟨hB10, hP10, hP9⟩ := path_laid w8 rl rd h9 h10
        obtain ⟨c9a, c9b, c9c, c9d⟩ := two_cells hP9.heap
        have HB10 := Lib.hid (below_then HB8.out hB10)
        have HE10 := Lib.hid (HE8.out.below hB10)
        have HP0_10 := Lib.hid (HP0_8.out.then hB10)
        have HP1_10 := Lib.hid (HP1_8.out.then hB10)
        clear hB10
        have HQ10 := Lib.hid hP10
        clear hP9 hP10
        obtain ⟨d0a, d0b, d0c, d0d⟩ := two_cells HP0_10.out.heap
        obtain ⟨d1a, d1b, d1c, d1d⟩ := two_cells HP1_10.out.heap
        obtain ⟨d2a, d2b, d2c, d2d⟩ := two_cells HQ10.out.heap
        go_wp2_with fail
        refine (num_form HE10.out).mono ?_
        rintro e w11 ⟨rfl, hB11⟩
        have HB11 := Lib.hid (below_then HB10.out hB11)
        have HE11 := Lib.hid (HE10.out.below hB11)
        have HP0_11 := Lib.hid (HP0_10.out.then hB11)
        have HP1_11 := Lib.hid (HP1_10.out.then hB11)
        have HP2_11 := Lib.hid (HQ10.out.then hB11)
        clear hB11
        go_wp2
        go_ret
        exact ⟨rfl, HB11.out⟩
      · have hp : pOk s = true := by rw [pOk, ht, h3, extract_nil (by omega)]; rfl
        have PV : pV s (.iface 146 (.pointer (some a1))) = .tuple #[.agg #[.string rl, .string rd], .nilIface] := by rw [pV, pLo, pD, hp, if_pos rfl, if_pos rfl, if_pos rfl, h1, h2]
        have HPV := Lib.hid PV
        clear PV TV KV ht hR hp h1 h2 h3
        go_enter Tryd.func8, Tryd.ntmps8
        go_wp2_with fail
        refine (alive08 (.iface 146 (.pointer (some a1))) w HE.out.h1.1 ⟨_, _, rfl⟩).mono ?_
        rintro e w1 ⟨rfl, hB1⟩
        have HB1 := Lib.hid hB1
        have HE1 := Lib.hid (HE.out.below hB1)
        clear hB1
        go_wp2_with fail
        refine (parse_walk s (.iface 146 (.pointer (some a1))) w1 hs HE1.out.h1.1 ⟨_, _, rfl⟩).mono ?_
        rintro e w2 ⟨rfl, hB2⟩
        rw [HPV.out]
        have HB2 := Lib.hid (below_then HB1.out hB2)
        have HE2 := Lib.hid (HE1.out.below hB2)
        clear hB2
        generalize h3 : w2.alloc (Obj.cells #[.string ⟨#[]⟩, .string ⟨#[]⟩] 47) = w3
        generalize h4 : (w3.setCell ⟨w2.heap.size, 0, none⟩ (.string rl)).setCell ⟨w2.heap.size, 1, none⟩ (.string rd) = w4
        obtain ⟨hB4, hP4, hP3⟩ := path_laid w2 rl rd h3 h4
        obtain ⟨c3a, c3b, c3c, c3d⟩ := two_cells hP3.heap
        have HB4 := Lib.hid (below_then HB2.out hB4)
        have HE4 := Lib.hid (HE2.out.below hB4)
        clear hB4
        have HQ4 := Lib.hid hP4
        clear hP3 hP4
        go_wp2_with fail
        refine (take_walk s (.iface 146 (.pointer (some a1))) w4 hs HE4.out.h1.1 ⟨_, _, rfl⟩).mono ?_
        rintro e w5 ⟨rfl, hB5⟩
        rw [HTV.out]
        have HB5 := Lib.hid (below_then HB4.out hB5)
        have HE5 := Lib.hid (HE4.out.below hB5)
        have HP0_5 := Lib.hid (HQ4.out.then hB5)
        clear hB5
        generalize h6 : w5.alloc (Obj.cells #[.string ⟨#[]⟩, .string ⟨#[]⟩] 47) = w6
        generalize h7 : (w6.setCell ⟨w5.heap.size, 0, none⟩ (.string rl)).setCell ⟨w5.heap.size, 1, none⟩ (.string rd) = w7
        obtain ⟨hB7, hP7, hP6⟩ := path_laid w5 rl rd h6 h7
        obtain ⟨c6a, c6b, c6c, c6d⟩ := two_cells hP6.heap
        have HB7 := Lib.hid (below_then HB5.out hB7)
        have HE7 := Lib.hid (HE5.out.below hB7)
        have HP0_7 := Lib.hid (HP0_5.out.then hB7)
        clear hB7
        have HQ7 := Lib.hid hP7
        clear hP6 hP7
        go_wp2_with fail
        refine (takeRef_walk s w7 hs).mono ?_
        rintro e w8 ⟨rfl, hB8⟩
        rw [HKV.out]
        have HB8 := Lib.hid (below_then HB7.out hB8)
        have HE8 := Lib.hid (HE7.out.below hB8)
        have HP0_8 := Lib.hid (HP0_7.out.then hB8)
        have HP1_8 := Lib.hid (HQ7.out.then hB8)
        clear hB8
        generalize h9 : w8.alloc (Obj.cells #[.string ⟨#[]⟩, .string ⟨#[]⟩] 47) = w9
        generalize h10 : (w9.setCell ⟨w8.heap.size, 0, none⟩ (.string rl)).setCell ⟨w8.heap.size, 1, none⟩ (.string rd) = w10
        obtain ⟨hB10, hP10, hP9⟩ := path_laid w8 rl rd h9 h10
        obtain ⟨c9a, c9b, c9c, c9d⟩ := two_cells hP9.heap
        have HB10 := Lib.hid (below_then HB8.out hB10)
        have HE10 := Lib.hid (HE8.out.below hB10)
        have HP0_10 := Lib.hid (HP0_8.out.then hB10)
        have HP1_10 := Lib.hid (HP1_8.out.then hB10)
        clear hB10
        have HQ10 := Lib.hid hP10
        clear hP9 hP10
        obtain ⟨d0a, d0b, d0c, d0d⟩ := two_cells HP0_10.out.heap
        obtain ⟨d1a, d1b, d1c, d1d⟩ := two_cells HP1_10.out.heap
        obtain ⟨d2a, d2b, d2c, d2d⟩ := two_cells HQ10.out.heap
        go_wp2
        go_ret
        exact ⟨rfl, HB10.out⟩
  · go_enter Tryd.func8, Tryd.ntmps8
    go_wp2_with fail
    refine (alive08 (.iface 146 (.pointer (some a1))) w HE.out.h1.1 ⟨_, _, rfl⟩).mono ?_
    rintro e w1 ⟨rfl, hB1⟩
    have HB1 := Lib.hid hB1
    have HE1 := Lib.hid (HE.out.below hB1)
    clear hB1
    go_wp2
    go_ret
    exact ⟨rfl, HB1.out⟩
theorem size_60 : (⟨#[60]⟩ : ByteArray).size = 1 := rfl
theorem size_62 : (⟨#[62]⟩ : ByteArray).size = 1 := rfl
set_option maxHeartbeats 8000000 in
set_option maxRecDepth 100000 in
theorem pathTexts_walk {a0 a1 a2 a3 a4 a5 a6 a7 a8 a9 a10 a11 a12 : Addr} (lo d : ByteArray) (w : World) (hE : ErrsAt w a0 a1 a2 a3 a4 a5 a6 a7 a8 a9 a10 a11 a12) :
    Calls Tryd.prog 9 #[.agg #[.string lo, .string d]] w fun e w' => e = .returned (.bool true) ∧ Below w.heap.size w w' := by
  have hP := PathAt.fresh w lo d
  have hB0 := alloc_below w (Obj.cells #[.string lo, .string d] 47)
  generalize h1 : w.alloc (Obj.cells #[.string lo, .string d] 47) = w1 at hP hB0
  have HE := Lib.hid (hE.below hB0)
  have HB0 := Lib.hid hB0
  have HQ0 := Lib.hid hP
  obtain ⟨p2, p3, p4, p5⟩ := two_cells hP.heap
  clear hE hB0 hP
  have zb := bare_size lo d
  by_cases hz : lo.size ≤ 2000 ∧ d.size ≤ 2000
  · obtain ⟨z1, z2⟩ := hz
    have hlo : lo.size ≤ 140737488351232 := by omega
    have hd : d.size ≤ 140737488351232 := by omega
    cases hr : rightS lo d with
    | false =>
      have b1 : bareE lo d (.iface 146 (.pointer (some a1))) = (.iface 146 (.pointer (some a1))) := by rw [bareE, hr]; rfl
      have b2 : textS lo d = ⟨#[]⟩ := by rw [textS, hr]; rfl
      have b3 : bareS lo d = ⟨#[]⟩ := by rw [bareS, hr]; rfl
      have HBE := Lib.hid b1
      have HTS0 := Lib.hid b2
      have HBS := Lib.hid b3
      have HR := Lib.hid hr
      clear b1 b2 b3 hr zb
      go_enter Tryd.func9, Tryd.ntmps9
      go_wp2_with fail
      try rw [h1]
      refine (alive08 (.iface 146 (.pointer (some a1))) w1 HE.out.h1.1 ⟨_, _, rfl⟩).mono ?_
      rintro e w2 ⟨rfl, hB2⟩
      have HB2 := Lib.hid (below_then HB0.out hB2)
      have HE2 := Lib.hid (HE.out.below hB2)
      have HP0_2 := Lib.hid (HQ0.out.then hB2)
      clear hB2
      obtain ⟨x2a, x2b, x2c, x2d⟩ := two_cells HP0_2.out.heap
      go_wp2_with fail
      refine (text_walk lo d (.iface 146 (.pointer (some a1))) w2 hlo hd HE2.out.h1.1 ⟨_, _, rfl⟩).mono ?_
      rintro e w3 ⟨rfl, hB3⟩
      rw [HTS0.out]
      rw [HBE.out]
      have HB3 := Lib.hid (below_then HB2.out hB3)
      have HE3 := Lib.hid (HE2.out.below hB3)
      have HP0_3 := Lib.hid (HP0_2.out.then hB3)
      clear hB3
      obtain ⟨x3a, x3b, x3c, x3d⟩ := two_cells HP0_3.out.heap
      go_wp2_with fail
      refine (bare_walk lo d (.iface 146 (.pointer (some a1))) w3 hlo hd HE3.out.h1.1 ⟨_, _, rfl⟩).mono ?_
      rintro e w4 ⟨rfl, hB4⟩
      rw [HBE.out]
      rw [HBS.out]
      have HB4 := Lib.hid (below_then HB3.out hB4)
      have HE4 := Lib.hid (HE3.out.below hB4)
      have HP0_4 := Lib.hid (HP0_3.out.then hB4)
      clear hB4
      obtain ⟨x4a, x4b, x4c, x4d⟩ := two_cells HP0_4.out.heap
      go_wp2_with fail
      refine (refBare_walk lo d w4 hlo hd).mono ?_
      rintro e w5 ⟨rfl, hB5⟩
      rw [← bare_ref]
      rw [← right_ref]
      rw [HR.out]
      rw [HBS.out]
      have HB5 := Lib.hid (below_then HB4.out hB5)
      have HE5 := Lib.hid (HE4.out.below hB5)
      have HP0_5 := Lib.hid (HP0_4.out.then hB5)
      clear hB5
      obtain ⟨x5a, x5b, x5c, x5d⟩ := two_cells HP0_5.out.heap
      go_wp2_with fail
      refine (num_form HE5.out).mono ?_
      rintro e w6 ⟨rfl, hB6⟩
      have HB6 := Lib.hid (below_then HB5.out hB6)
      have HE6 := Lib.hid (HE5.out.below hB6)
      have HP0_6 := Lib.hid (HP0_5.out.then hB6)
      clear hB6
      go_wp2_with fail
      refine (num_form HE6.out).mono ?_
      rintro e w7 ⟨rfl, hB7⟩
      have HB7 := Lib.hid (below_then HB6.out hB7)
      have HE7 := Lib.hid (HE6.out.below hB7)
      have HP0_7 := Lib.hid (HP0_6.out.then hB7)
      clear hB7
      go_wp2
      go_ret
      exact ⟨rfl, HB7.out⟩
    | true =>
      have b1 : bareE lo d (.iface 146 (.pointer (some a1))) = .nilIface := by rw [bareE, hr]; rfl
      have b2 : textS lo d = ⟨#[60]⟩ ++ bareS lo d ++ ⟨#[62]⟩ := by rw [textS, hr]; rfl
      obtain ⟨q1, q2, q3⟩ := back_reads lo d hr
      rw [b2] at q1 q2 q3
      have b4 : pV (⟨#[60]⟩ ++ bareS lo d ++ ⟨#[62]⟩) (.iface 146 (.pointer (some a1))) = .tuple #[.agg #[.string lo, .string d], .nilIface] := by rw [pV, q1, q2, q3]; rfl
      have HBE := Lib.hid b1
      have HTS := Lib.hid b2
      have HPV := Lib.hid b4
      have HR := Lib.hid hr
      clear b1 b2 b4 q1 q2 q3 hr
      go_enter Tryd.func9, Tryd.ntmps9
      go_wp2_with fail
      try rw [h1]
      refine (alive08 (.iface 146 (.pointer (some a1))) w1 HE.out.h1.1 ⟨_, _, rfl⟩).mono ?_
      rintro e w2 ⟨rfl, hB2⟩
      have HB2 := Lib.hid (below_then HB0.out hB2)
      have HE2 := Lib.hid (HE.out.below hB2)
      have HP0_2 := Lib.hid (HQ0.out.then hB2)
      clear hB2
      obtain ⟨x2a, x2b, x2c, x2d⟩ := two_cells HP0_2.out.heap
      go_wp2_with fail
      refine (text_walk lo d (.iface 146 (.pointer (some a1))) w2 hlo hd HE2.out.h1.1 ⟨_, _, rfl⟩).mono ?_
      rintro e w3 ⟨rfl, hB3⟩
      rw [HTS.out]
      rw [HBE.out]
      have HB3 := Lib.hid (below_then HB2.out hB3)
      have HE3 := Lib.hid (HE2.out.below hB3)
      have HP0_3 := Lib.hid (HP0_2.out.then hB3)
      clear hB3
      obtain ⟨x3a, x3b, x3c, x3d⟩ := two_cells HP0_3.out.heap
      go_wp2_with fail
      refine (bare_walk lo d (.iface 146 (.pointer (some a1))) w3 hlo hd HE3.out.h1.1 ⟨_, _, rfl⟩).mono ?_
      rintro e w4 ⟨rfl, hB4⟩
      rw [HBE.out]
      have HB4 := Lib.hid (below_then HB3.out hB4)
      have HE4 := Lib.hid (HE3.out.below hB4)
      have HP0_4 := Lib.hid (HP0_3.out.then hB4)
      clear hB4
      obtain ⟨x4a, x4b, x4c, x4d⟩ := two_cells HP0_4.out.heap
      go_wp2_with fail
      refine (refBare_walk lo d w4 hlo hd).mono ?_
      rintro e w5 ⟨rfl, hB5⟩
      rw [← bare_ref]
      rw [← right_ref]
      rw [HR.out]
      have HB5 := Lib.hid (below_then HB4.out hB5)
      have HE5 := Lib.hid (HE4.out.below hB5)
      have HP0_5 := Lib.hid (HP0_4.out.then hB5)
      clear hB5
      obtain ⟨x5a, x5b, x5c, x5d⟩ := two_cells HP0_5.out.heap
      go_wp2_with fail
      refine (parse_walk _ (.iface 146 (.pointer (some a1))) w5 (by simp only [ByteArray.size_append, size_60, size_62]; omega) HE5.out.h1.1 ⟨_, _, rfl⟩).mono ?_
      rintro e w6 ⟨rfl, hB6⟩
      rw [HPV.out]
      have HB6 := Lib.hid (below_then HB5.out hB6)
      have HE6 := Lib.hid (HE5.out.below hB6)
      have HP0_6 := Lib.hid (HP0_5.out.then hB6)
      clear hB6
      generalize h7 : w6.alloc (Obj.cells #[.string ⟨#[]⟩, .string ⟨#[]⟩] 47) = w7
      generalize h8 : (w7.setCell ⟨w6.heap.size, 0, none⟩ (.string lo)).setCell ⟨w6.heap.size, 1, none⟩ (.string d) = w8
      obtain ⟨hB8, hP8, hP7⟩ := path_laid w6 lo d h7 h8
      obtain ⟨c7a, c7b, c7c, c7d⟩ := two_cells hP7.heap
      have HB8 := Lib.hid (below_then HB6.out hB8)
      have HE8 := Lib.hid (HE6.out.below hB8)
      have HP0_8 := Lib.hid (HP0_6.out.then hB8)
      clear hB8
      have HQ8 := Lib.hid hP8
      clear hP7 hP8
      obtain ⟨d0a, d0b, d0c, d0d⟩ := two_cells HP0_8.out.heap
      obtain ⟨d1a, d1b, d1c, d1d⟩ := two_cells HQ8.out.heap
      go_wp2
      go_ret
      exact ⟨rfl, HB8.out⟩
  · by_cases z1 : lo.size ≤ 2000
    · have z2 : 2000 < d.size := by omega
      go_enter Tryd.func9, Tryd.ntmps9
      go_wp2_with fail
      try rw [h1]
      refine (alive08 (.iface 146 (.pointer (some a1))) w1 HE.out.h1.1 ⟨_, _, rfl⟩).mono ?_
      rintro e w2 ⟨rfl, hB2⟩
      have HB2 := Lib.hid (below_then HB0.out hB2)
      have HE2 := Lib.hid (HE.out.below hB2)
      have HP0_2 := Lib.hid (HQ0.out.then hB2)
      clear hB2
      obtain ⟨x2a, x2b, x2c, x2d⟩ := two_cells HP0_2.out.heap
      go_wp2
      go_ret
      exact ⟨rfl, HB2.out⟩
    · have z2 : 2000 < lo.size := by omega
      go_enter Tryd.func9, Tryd.ntmps9
      go_wp2_with fail
      try rw [h1]
      refine (alive08 (.iface 146 (.pointer (some a1))) w1 HE.out.h1.1 ⟨_, _, rfl⟩).mono ?_
      rintro e w2 ⟨rfl, hB2⟩
      have HB2 := Lib.hid (below_then HB0.out hB2)
      have HE2 := Lib.hid (HE.out.below hB2)
      have HP0_2 := Lib.hid (HQ0.out.then hB2)
      clear hB2
      obtain ⟨x2a, x2b, x2c, x2d⟩ := two_cells HP0_2.out.heap
      go_wp2
      go_ret
      exact ⟨rfl, HB2.out⟩
end Go.Proofs.YtcalbpdcjklffaaDoor
