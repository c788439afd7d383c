/- The walks of path.right, Bare and Text. -/
import Derived.Test.YtcalbpdcjklffaaDoorParse
import Derived.Deep.QuietTactic
import Derived.BigQuiet
namespace Go.Proofs.YtcalbpdcjklffaaDoor
open Go.RowKit
open Pl (Bs idxB goLocal goDomain)
set_option linter.unusedSimpArgs false
set_option linter.unusedVariables false
def rightS (lo d : ByteArray) : Bool := refNone lo d || (goLocal (bs lo) && goDomain (bs d))
set_option maxHeartbeats 1000000 in
theorem right_walk (lo d : ByteArray) (w : World) (hl : lo.size ≤ 140737488351232) (hd : d.size ≤ 140737488351232) :
    Calls Tryd.prog 48 #[.agg #[.string lo, .string d]] w fun e w' => e = .returned (.bool (rightS lo d)) ∧ Below w.heap.size w w' := by
  have hP := PathAt.fresh w lo d
  have hB := alloc_below w (Obj.cells #[.string lo, .string d] 47)
  generalize h1 : w.alloc (Obj.cells #[.string lo, .string d] 47) = w1 at hP hB
  have HP := Lib.hid hP
  have HB := Lib.hid hB
  obtain ⟨p2, p3, p4, p5⟩ := two_cells hP.heap
  clear hP hB
  cases e1 : lo.toList.isEmpty with
  | true =>
    cases e2 : d.toList.isEmpty with
    | true =>
      have hV : rightS lo d = true := by rw [rightS, refNone, e1, e2]; rfl
      have HV := Lib.hid hV
      clear hV
      go_enter Tryd.func48, Tryd.ntmps48
      go_wp2
      go_ret
      exact ⟨by rw [HV.out]; rfl, HB.out⟩
    | false =>
      cases hL : goLocal (bs lo) with
      | false =>
        have hV : rightS lo d = false := by rw [rightS, refNone, e1, e2, hL]; rfl
        have HV := Lib.hid hV
        clear hV
        go_enter Tryd.func48, Tryd.ntmps48
        go_wp2_with fail
        try rw [h1]
        refine (local_walk _ _ (by omega)).mono ?_
        rintro e w2 ⟨rfl, hB0⟩
        rw [dot_local, hL]
        have HB2 := Lib.hid (below_then HB.out hB0)
        have HP2 := Lib.hid (HP.out.then hB0)
        clear hB0
        obtain ⟨k02, k03, k04, k05⟩ := two_cells HP2.out.heap
        go_wp2
        go_ret
        exact ⟨by rw [HV.out]; rfl, HB2.out⟩
      | true =>
        cases hD : goDomain (bs d) with
        | false =>
          have hV : rightS lo d = false := by rw [rightS, refNone, e1, e2, hL, hD]; rfl
          have HV := Lib.hid hV
          clear hV
          go_enter Tryd.func48, Tryd.ntmps48
          go_wp2_with fail
          try rw [h1]
          refine (local_walk _ _ (by omega)).mono ?_
          rintro e w2 ⟨rfl, hB0⟩
          rw [dot_local, hL]
          have HB2 := Lib.hid (below_then HB.out hB0)
          have HP2 := Lib.hid (HP.out.then hB0)
          clear hB0
          obtain ⟨k02, k03, k04, k05⟩ := two_cells HP2.out.heap
          go_wp2_with fail
          refine (domain_walk _ _ (by omega)).mono ?_
          rintro e w3 ⟨rfl, hB1⟩
          rw [dot_domain, hD]
          have HB3 := Lib.hid (below_then HB2.out hB1)
          have HP3 := Lib.hid (HP2.out.then hB1)
          clear hB1
          obtain ⟨k12, k13, k14, k15⟩ := two_cells HP3.out.heap
          go_wp2
          go_ret
          exact ⟨by rw [HV.out]; rfl, HB3.out⟩
        | true =>
          have hV : rightS lo d = true := by rw [rightS, refNone, e1, e2, hL, hD]; rfl
          have HV := Lib.hid hV
          clear hV
          go_enter Tryd.func48, Tryd.ntmps48
          go_wp2_with fail
          try rw [h1]
          refine (local_walk _ _ (by omega)).mono ?_
          rintro e w2 ⟨rfl, hB0⟩
          rw [dot_local, hL]
          have HB2 := Lib.hid (below_then HB.out hB0)
          have HP2 := Lib.hid (HP.out.then hB0)
          clear hB0
          obtain ⟨k02, k03, k04, k05⟩ := two_cells HP2.out.heap
          go_wp2_with fail
          refine (domain_walk _ _ (by omega)).mono ?_
          rintro e w3 ⟨rfl, hB1⟩
          rw [dot_domain, hD]
          have HB3 := Lib.hid (below_then HB2.out hB1)
          have HP3 := Lib.hid (HP2.out.then hB1)
          clear hB1
          obtain ⟨k12, k13, k14, k15⟩ := two_cells HP3.out.heap
          go_wp2
          go_ret
          exact ⟨by rw [HV.out]; rfl, HB3.out⟩
  | false =>
    cases hL : goLocal (bs lo) with
    | false =>
      have hV : rightS lo d = false := by rw [rightS, refNone, e1, hL]; rfl
      have HV := Lib.hid hV
      clear hV
      go_enter Tryd.func48, Tryd.ntmps48
      go_wp2_with fail
      try rw [h1]
      refine (local_walk _ _ (by omega)).mono ?_
      rintro e w2 ⟨rfl, hB0⟩
      rw [dot_local, hL]
      have HB2 := Lib.hid (below_then HB.out hB0)
      have HP2 := Lib.hid (HP.out.then hB0)
      clear hB0
      obtain ⟨k02, k03, k04, k05⟩ := two_cells HP2.out.heap
      go_wp2
      go_ret
      exact ⟨by rw [HV.out]; rfl, HB2.out⟩
    | true =>
      cases hD : goDomain (bs d) with
      | false =>
        have hV : rightS lo d = false := by rw [rightS, refNone, e1, hL, hD]; rfl
        have HV := Lib.hid hV
        clear hV
        go_enter Tryd.func48, Tryd.ntmps48
        go_wp2_with fail
        try rw [h1]
        refine (local_walk _ _ (by omega)).mono ?_
        rintro e w2 ⟨rfl, hB0⟩
        rw [dot_local, hL]
        have HB2 := Lib.hid (below_then HB.out hB0)
        have HP2 := Lib.hid (HP.out.then hB0)
        clear hB0
        obtain ⟨k02, k03, k04, k05⟩ := two_cells HP2.out.heap
        go_wp2_with fail
        refine (domain_walk _ _ (by omega)).mono ?_
        rintro e w3 ⟨rfl, hB1⟩
        rw [dot_domain, hD]
        have HB3 := Lib.hid (below_then HB2.out hB1)
        have HP3 := Lib.hid (HP2.out.then hB1)
        clear hB1
        obtain ⟨k12, k13, k14, k15⟩ := two_cells HP3.out.heap
        go_wp2
        go_ret
        exact ⟨by rw [HV.out]; rfl, HB3.out⟩
      | true =>
        have hV : rightS lo d = true := by rw [rightS, refNone, e1, hL, hD]; rfl
        have HV := Lib.hid hV
        clear hV
        go_enter Tryd.func48, Tryd.ntmps48
        go_wp2_with fail
        try rw [h1]
        refine (local_walk _ _ (by omega)).mono ?_
        rintro e w2 ⟨rfl, hB0⟩
        rw [dot_local, hL]
        have HB2 := Lib.hid (below_then HB.out hB0)
        have HP2 := Lib.hid (HP.out.then hB0)
        clear hB0
        obtain ⟨k02, k03, k04, k05⟩ := two_cells HP2.out.heap
        go_wp2_with fail
        refine (domain_walk _ _ (by omega)).mono ?_
        rintro e w3 ⟨rfl, hB1⟩
        rw [dot_domain, hD]
        have HB3 := Lib.hid (below_then HB2.out hB1)
        have HP3 := Lib.hid (HP2.out.then hB1)
        clear hB1
        obtain ⟨k12, k13, k14, k15⟩ := two_cells HP3.out.heap
        go_wp2
        go_ret
        exact ⟨by rw [HV.out]; rfl, HB3.out⟩

/-- the text without brackets: empty where the path has none -/
def bareS (lo d : ByteArray) : ByteArray := if rightS lo d = true then (if refNone lo d = true then ⟨#[]⟩ else at2 lo d) else ⟨#[]⟩
def bareE (lo d : ByteArray) (v : Value) : Value := if rightS lo d = true then .nilIface else v
set_option maxHeartbeats 1000000 in
theorem bare_walk (lo d : ByteArray) (v : Value) (w : World) (hl : lo.size ≤ 140737488351232) (hd : d.size ≤ 140737488351232) (hc : w.cell? ⟨2, 0, none⟩ = some v) (hv : ∃ t x, v = .iface t x) :
    Calls Tryd.prog 29 #[.agg #[.string lo, .string d]] w fun e w' => e = .returned (.tuple #[.string (bareS lo d), bareE lo d v]) ∧ Below w.heap.size w w' := by
  have hP := PathAt.fresh w lo d
  have hB := alloc_below w (Obj.cells #[.string lo, .string d] 47)
  have hS := sent_then hc hB
  obtain ⟨ty, x, rfl⟩ := hv
  generalize h1 : w.alloc (Obj.cells #[.string lo, .string d] 47) = w1 at hP hB hS
  have HP := Lib.hid hP
  have HB := Lib.hid hB
  have HS := Lib.hid hS
  obtain ⟨p2, p3, p4, p5⟩ := two_cells hP.heap
  clear hP hB hS hc
  cases hr : rightS lo d with
  | false =>
    have hV : bareS lo d = ⟨#[]⟩ ∧ bareE lo d (.iface ty x) = .iface ty x := by rw [bareS, bareE, hr]; exact ⟨rfl, rfl⟩
    have HV := Lib.hid hV
    clear hV
    go_enter Tryd.func29, Tryd.ntmps29
    go_wp2_with fail
    try rw [h1]
    refine (right_walk _ _ _ hl hd).mono ?_
    rintro e w2 ⟨rfl, hB2⟩
    rw [hr]
    have HB2 := Lib.hid (below_then HB.out hB2)
    have s2 := sent_then HS.out hB2
    clear hB2
    go_wp2
    go_quiet (fail)
    all_goals
      go_wp2
      go_ret2
      exact ⟨by rw [HV.out.1, HV.out.2]; rfl, below_draws HB2.out _⟩
  | true =>
    cases e1 : refNone lo d with
    | true =>
      obtain ⟨f1, f2⟩ := (Bool.and_eq_true _ _).mp e1
      have hV : bareS lo d = ⟨#[]⟩ ∧ bareE lo d (.iface ty x) = .nilIface := by rw [bareS, bareE, hr, e1]; exact ⟨rfl, rfl⟩
      have HV := Lib.hid hV
      clear hV e1
      go_enter Tryd.func29, Tryd.ntmps29
      go_wp2_with fail
      try rw [h1]
      refine (right_walk _ _ _ hl hd).mono ?_
      rintro e w2 ⟨rfl, hB2⟩
      rw [hr]
      have HB2 := Lib.hid (below_then HB.out hB2)
      obtain ⟨k2, k3, k4, k5⟩ := two_cells (HP.out.then hB2).heap
      clear hB2
      go_wp2
      go_ret2
      exact ⟨by rw [HV.out.1, HV.out.2]; rfl, HB2.out⟩
    | false =>
      have hV : bareS lo d = at2 lo d ∧ bareE lo d (.iface ty x) = .nilIface := by rw [bareS, bareE, hr, e1]; exact ⟨rfl, rfl⟩
      have HV := Lib.hid hV
      clear hV
      cases f1 : lo.toList.isEmpty with
      | true =>
        have f2 : d.toList.isEmpty = false := by rw [refNone, f1] at e1; simpa using e1
        clear e1
        go_enter Tryd.func29, Tryd.ntmps29
        go_wp2_with fail
        try rw [h1]
        refine (right_walk _ _ _ hl hd).mono ?_
        rintro e w2 ⟨rfl, hB2⟩
        rw [hr]
        have HB2 := Lib.hid (below_then HB.out hB2)
        obtain ⟨k2, k3, k4, k5⟩ := two_cells (HP.out.then hB2).heap
        clear hB2
        go_wp2
        go_ret2
        exact ⟨by rw [HV.out.1, HV.out.2]; rfl, HB2.out⟩
      | false =>
        clear e1
        go_enter Tryd.func29, Tryd.ntmps29
        go_wp2_with fail
        try rw [h1]
        refine (right_walk _ _ _ hl hd).mono ?_
        rintro e w2 ⟨rfl, hB2⟩
        rw [hr]
        have HB2 := Lib.hid (below_then HB.out hB2)
        obtain ⟨k2, k3, k4, k5⟩ := two_cells (HP.out.then hB2).heap
        clear hB2
        go_wp2
        go_ret2
        exact ⟨by rw [HV.out.1, HV.out.2]; rfl, HB2.out⟩

theorem bare_size (lo d : ByteArray) : (bareS lo d).size ≤ lo.size + d.size + 1 := by
  rw [bareS]
  split
  · split
    · exact Nat.zero_le _
    · rw [at2]; simp only [ByteArray.size_append]
      have : (⟨#[64]⟩ : ByteArray).size = 1 := rfl
      omega
  · exact Nat.zero_le _
def brack (s : ByteArray) : ByteArray := ⟨#[60]⟩ ++ s ++ ⟨#[62]⟩
def textS (lo d : ByteArray) : ByteArray := if rightS lo d = true then brack (bareS lo d) else ⟨#[]⟩
set_option maxHeartbeats 1000000 in
theorem text_walk (lo d : ByteArray) (v : Value) (w : World) (hl : lo.size ≤ 140737488351232) (hd : d.size ≤ 140737488351232) (hc : w.cell? ⟨2, 0, none⟩ = some v) (hv : ∃ t x, v = .iface t x) :
    Calls Tryd.prog 28 #[.agg #[.string lo, .string d]] w fun e w' => e = .returned (.tuple #[.string (textS lo d), bareE lo d v]) ∧ Below w.heap.size w w' := by
  have hP := PathAt.fresh w lo d
  have hB := alloc_below w (Obj.cells #[.string lo, .string d] 47)
  have hS := sent_then hc hB
  generalize h1 : w.alloc (Obj.cells #[.string lo, .string d] 47) = w1 at hP hB hS
  have hb := bare_walk lo d v w1 hl hd hS hv
  have zb := bare_size lo d
  obtain ⟨ty, x, rfl⟩ := hv
  have Hb := Lib.hid hb
  have HB := Lib.hid hB
  obtain ⟨p2, p3, p4, p5⟩ := two_cells hP.heap
  clear hP hB hS hc hb
  cases hr : rightS lo d with
  | false =>
    have hE : bareE lo d (.iface ty x) = .iface ty x := by rw [bareE, hr]; rfl
    have hV : textS lo d = ⟨#[]⟩ := by rw [textS, hr]; rfl
    rw [hV, hE]
    rw [hE] at Hb
    go_enter Tryd.func28, Tryd.ntmps28
    go_wp2_with fail
    try rw [h1]
    refine Hb.out.mono ?_
    rintro e w2 ⟨rfl, hB2⟩
    have HB2 := Lib.hid (below_then HB.out hB2)
    clear hB2
    go_wp2
    go_ret2
    exact ⟨rfl, HB2.out⟩
  | true =>
    have hE : bareE lo d (.iface ty x) = .nilIface := by rw [bareE, hr]; rfl
    have hV : textS lo d = brack (bareS lo d) := by rw [textS, hr]; rfl
    rw [hV, hE]
    rw [hE] at Hb
    go_enter Tryd.func28, Tryd.ntmps28
    go_wp2_with fail
    try rw [h1]
    refine Hb.out.mono ?_
    rintro e w2 ⟨rfl, hB2⟩
    have HB2 := Lib.hid (below_then HB.out hB2)
    clear hB2
    go_wp2
    go_ret2
    exact ⟨rfl, HB2.out⟩
end Go.Proofs.YtcalbpdcjklffaaDoor
