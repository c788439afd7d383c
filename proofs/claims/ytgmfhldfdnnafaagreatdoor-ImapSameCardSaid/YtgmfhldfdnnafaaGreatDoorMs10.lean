/- A part of the proofs of the statements on chapter 21: walks of functions that they reach, and plain laws. What is proved is stated in the last text. Conditions: none of its own. -/
import Derived.Test.YtgmfhldfdnnafaaGreatDoorMs9
import Derived.Shelf.Vars
import Derived.SizedLaws
import Derived.Handed
import Derived.Deep.QuietTactic
import Derived.BigQuiet
set_option maxHeartbeats 8000000
set_option maxRecDepth 100000
set_option linter.unusedSimpArgs false
set_option linter.unusedVariables false
namespace Go.Proofs.YtgmfhldfdnnafaaGreatDoor
open Go.RowKit
open Pl (Bs)
def moreOf : Value → Value → Nat
 | .string s, .bool true => s.size + 1
 | _, _ => 0
theorem sec_walk (G : Glob) (s : Bs) (B : Nat) (w : World) (hs : s.length ≤ 1000000) (hE : EnvI G w B) : Calls Tryz.prog 151 #[.string (str s)] w (SecPost G w (secB s)) := by
 obtain ⟨ty, vx, hv⟩ := hE.formI
 have HSent : Hid (∀ W, Below w.heap.size w W → W.cell? ⟨0, 0, none⟩ = some (.iface ty vx)) := Lib.hid (fun W hW => by have := (hE.kept (grown_below hW (some B))).form; rw [hv] at this; exact this)
 have HGf := Lib.hid hv
 have zg : 0 < w.heap.size := World.block_lt_of_cell? w _ hE.form
 have zg2 : ¬ (0 = w.heap.size) := by omega
 have HMax : Hid (∀ W, Below w.heap.size w W → W.cell? ⟨13, 0, none⟩ = some (.int .i64 G.max)) := Lib.hid (fun W hW => (hE.kept (grown_below hW (some B))).max)
 obtain ⟨i0, hi, hz0, hz1, hz2⟩ := info_parts infoInt
 obtain ⟨w2, hw2⟩ : ∃ w2, w2 = (w.alloc zeroSpec).alloc zeroSpec := ⟨_, rfl⟩
 have hB2 : Below w.heap.size w w2 := by rw [hw2]; exact ((Below.refl _ _).alloc (Nat.le_refl _) _).alloc (by simp) _
 have hz2' : w2.heap.size = w.heap.size + 2 := by rw [hw2]; simp
 have hx1 : w2.heap[w.heap.size]? = some zeroSpec := by rw [hw2]; exact (Below.heap_alloc _ _ _ (by simp)).trans (World.alloc_heap_new w _)
 have hx2 : w2.heap[w.heap.size + 1]? = some zeroSpec := by
  rw [hw2]; have := World.alloc_heap_new (w.alloc zeroSpec) zeroSpec; rw [World.size_alloc] at this; exact this
 have HST0 : Hid (SecSt w [] (.slice none 0 0) ⟨#[]⟩ (.slice none 0 0) w2) := Lib.hid ⟨hx1, hx2, World.ownsRow_nil _ _ _ _, hB2, by omega⟩
 have HLp := Lib.hid (LoopSt.start s)
 have hne : ((str s).toList != []) = (!s.isEmpty) := by
  rw [Lib.toList_data]
  show (bs (str s) != []) = _
  rw [bs_str]
  cases s <;> rfl
 have hnb : (!(str s).toList.isEmpty) = (!s.isEmpty) := by
  rw [Lib.toList_data]
  show (!(bs (str s)).isEmpty) = _
  rw [bs_str]
 generalize (!s.isEmpty) = m0 at *
 clear hB2 hz2' hx1 hx2 hE hv
 subst hw2
 go_enter Tryz.func151, Tryz.ntmps151
 go_wp2
 go_loopw [5, 6] (fun r m wr => ∃ (acc : List Int) (rest : Bs) (more : Bool) (u : Value), r = .string (str rest) ∧ m = .bool more ∧ Hid (LoopSt s acc rest more) ∧ Hid (SecSt w acc u ⟨#[]⟩ (.slice none 0 0) wr)) (fun r m _ => moreOf r m)
 case atStart => exact ⟨[], s, m0, _, rfl, by first | rfl | rw [hnb] | rw [hne], HLp, HST0⟩
 case round =>
  obtain ⟨acc, rest, more, u, rfl, rfl, HL, HS⟩ := hrel
  have hrl := HL.out.le
  have hfew := HL.out.few
  obtain ⟨A, c, hu, _⟩ := rowC_own HS.out.own
  subst hu
  cases more with
  | false =>
   have HV := Lib.hid HL.out.fin
   have HXS := Lib.hid (HS.out.spec (x := ⟨acc, [], []⟩) rfl (rowC_nil _ _ _))
   have HL1 := Lib.hid (show acc.length ≤ 2000000 by omega)
   have HL2 := Lib.hid (show ([] : List Bs).length ≤ 2000000 by simp)
   have HL3 := Lib.hid (show ∀ y ∈ ([] : List Bs), y.length ≤ 1000000 from fun y hy => by simp at hy)
   obtain ⟨c0, c1, c2⟩ := three_cells HS.out.out
   obtain ⟨b0, b1, b2⟩ := three_cells HS.out.res
   obtain ⟨g0, g1, g2⟩ := three_free HS.out.res
   have KR := Lib.hid (right_walk ⟨acc, [], []⟩ _ _ _ _ HXS.out (fun i hi => hi.2) HL1.out HL2.out HL3.out)
   go_wp2_with fail
   refine KR.out.mono ?_
   rintro e w8 ⟨rfl, hB8⟩
   have ST8 := Lib.hid (HS.out.then hB8)
   have HX8 := Lib.hid (HXS.out.kept (fun i hi => hB8.block i hi.2))
   have HXM := Lib.hid (HX8.out.more (T' := fun i => w.heap.size + 2 ≤ i ∧ i < w8.heap.size) (fun i hi => ⟨hi.1, Nat.lt_of_lt_of_le hi.2 hB8.size⟩))
   have c8 := HSent.out _ ST8.out.below
   clear hB8 c0 c1 c2 b0 b1 b2 g0 g1 g2
   obtain ⟨c0, c1, c2⟩ := three_cells ST8.out.out
   obtain ⟨b0, b1, b2⟩ := three_cells ST8.out.res
   obtain ⟨g0, g1, g2⟩ := three_free ST8.out.res
   cases hr : secRight ⟨acc, [], []⟩ with
   | true =>
    have HO := Lib.hid (show secB s = some ⟨acc, [], []⟩ by rw [HV.out, secFin, if_pos hr])
    go_wp2
    refine bodyPost_ret (v := _) ?_ rfl (SecPost.fin ST8.out.below ST8.out.room (set3 _ _ _ _ _ _ _ _ _ ST8.out.res).2 HO.out HXM.out)
    rw [results_cell_tmp rfl]
    simp [go_sem, b0, b1, b2]
    try rfl
   | false =>
    have HO := Lib.hid (show secB s = none by rw [HV.out, secFin, if_neg (by rw [hr]; decide)])
    go_wp2
    go_region
    all_goals go_wp2
    all_goals
     refine bodyPost_ret (v := _) ?_ rfl (SecPost.bad ST8.out.below ((set3 _ _ _ _ _ _ _ _ _ ST8.out.res).2.trans (grown_drew _ _)) HO.out HGf.out)
     rw [results_cell_tmp rfl]
     simp [go_sem, b0, b1, b2]
  | true =>
   have hcl := cut_fst_len rest [46]
   have K1 : Hid (∀ W, Below w.heap.size w W → Calls Tryz.prog 22 #[.string (str rest), .string ⟨#[46]⟩] W _) := Lib.hid (fun W hW => cut_walk21 rest [46] G.max W (by omega) (HMax.out W hW))
   have K2 := Lib.hid (fun W => snumber_walk (str (Lib.cut rest [46]).1) W (by rw [str_size]; omega))
   rw [bs_str] at K2
   have hn9 := secNum_le (Lib.cut rest [46]).1
   by_cases h0 : secNum (Lib.cut rest [46]).1 = 0
   ·
    have HBk := Lib.hid (HL.out.brk h0)
    rw [h0] at K2
    have hcl2 := cut_fst_len rest [32, 40]
    have hsl2 := cut_snd_len rest [32, 40]
    have K3 : Hid (∀ W, Below w.heap.size w W → Calls Tryz.prog 22 #[.string (str rest), .string ⟨#[32, 40]⟩] W _) := Lib.hid (fun W hW => cut_walk21 rest [32, 40] G.max W (by omega) (HMax.out W hW))
    have K4 : Hid (∀ W, Calls Tryz.prog 164 #[.string (str (Lib.cut rest [32, 40]).1)] W fun e w' => e = .returned (.string (str (largeL (Lib.cut rest [32, 40]).1))) ∧ Below W.heap.size W w') := Lib.hid (fun W => by
     have K := slarge_walk (str (Lib.cut rest [32, 40]).1) (by rw [str_size]; omega) W
     rw [largeS, bs_str] at K
     exact K)
    have hSE : secEnd acc rest = if (Lib.cut rest [32, 40]).1 = [] then none
     else if (Lib.cut rest [32, 40]).2.2 = true then
      if Lib.hasSuffix (Lib.cut rest [32, 40]).2.1 [41] = true then secFin ⟨acc, largeL (Lib.cut rest [32, 40]).1, splitL (Lib.trimSuffix (Lib.cut rest [32, 40]).2.1 [41])⟩ else none
     else secFin ⟨acc, largeL (Lib.cut rest [32, 40]).1, []⟩ := rfl
    have HSE := Lib.hid (HBk.out.trans hSE)
    have K5 := Lib.hid (fun W => cutSuf_yes (l := (Lib.cut rest [32, 40]).2.1) (by omega) W)
    have hcw : ((str (Lib.cut rest [32, 40]).1).toList == []) = decide ((Lib.cut rest [32, 40]).1 = []) := by
     rw [Lib.toList_data]
     show (bs (str _) == []) = _
     rw [bs_str, Bool.eq_iff_iff]; simp
    have hcw2 : (str (Lib.cut rest [32, 40]).1).toList.isEmpty = decide ((Lib.cut rest [32, 40]).1 = []) := by
     rw [Lib.toList_data]
     show (bs (str _)).isEmpty = _
     rw [bs_str, Bool.eq_iff_iff]; simp
    clear hSE
    generalize (Lib.cut rest [32, 40]).1 = X at *
    generalize (Lib.cut rest [32, 40]).2.1 = Y at *
    generalize (Lib.cut rest [32, 40]).2.2 = ok at *
    go_wp2_with fail
    refine (K1.out _ HS.out.below).mono ?_
    rintro e w3 ⟨rfl, q, hw3⟩
    have HS3 : Hid (SecSt w acc _ _ _ w3) := Lib.hid (by rw [hw3]; exact HS.out.then (below_draws (Below.refl _ _) q))
    clear hw3
    go_wp2_with fail
    refine (K2.out _).mono ?_
    rintro e w4 ⟨rfl, hB4⟩
    have HS4 := Lib.hid (HS3.out.then hB4)
    clear hB4
    go_wp2_with fail
    refine (K3.out _ HS4.out.below).mono ?_
    rintro e w5 ⟨rfl, q5, hw5⟩
    have HS5 : Hid (SecSt w acc _ _ _ w5) := Lib.hid (by rw [hw5]; exact HS4.out.then (below_draws (Below.refl _ _) q5))
    clear hw5
    go_wp2_with fail
    refine (K4.out _).mono ?_
    rintro e w6 ⟨rfl, hB6⟩
    have HS6 := Lib.hid (HS5.out.then hB6)
    have HS7 := Lib.hid (HS6.out.setO (i := 1) (v := .string (str (largeL X))) (wt1 := str (largeL X)) (nm1 := .slice none 0 0) rfl)
    clear hB6
    obtain ⟨c0, c1, c2⟩ := three_cells HS6.out.out
    obtain ⟨f0, f1, f2⟩ := three_free HS6.out.out
    obtain ⟨w7, hw7⟩ : ∃ w7, w7 = w6.setCell ⟨w.heap.size + 1, 1, none⟩ (.string (str (largeL X))) := ⟨_, rfl⟩
    have HS7b : Hid (SecSt w acc _ _ _ w7) := Lib.hid (by rw [hw7]; exact HS7.out)
    have hw7' := hw7.symm
    clear hw7 HS7
    cases ok with
    | false =>
     by_cases hX : X = []
     ·
      have hXd : decide (X = []) = true := decide_eq_true hX
      rw [hXd] at hcw hcw2
      have HO := Lib.hid (show secB s = none by rw [HSE.out, if_pos hX])
      have c8 := HSent.out _ HS7b.out.below
      obtain ⟨b0, b1, b2⟩ := three_cells HS7b.out.res
      obtain ⟨g0, g1, g2⟩ := three_free HS7b.out.res
      clear hX hXd HSE
      go_wp2
      go_region
      all_goals go_wp2
      all_goals
       refine bodyPost_ret (v := _) ?_ rfl (SecPost.bad HS7b.out.below ((set3 _ _ _ _ _ _ _ _ _ HS7b.out.res).2.trans (grown_drew _ _)) HO.out HGf.out)
       rw [results_cell_tmp rfl]
       simp [go_sem, b0, b1, b2]
     ·
      have hXd : decide (X = []) = false := decide_eq_false hX
      rw [hXd] at hcw hcw2
      have HV := Lib.hid (show secB s = secFin ⟨acc, largeL X, []⟩ by rw [HSE.out, if_neg hX]; rfl)
      have HXS := Lib.hid (HS7b.out.spec (x := ⟨acc, largeL X, []⟩) rfl (rowC_nil _ _ _))
      have HL1 := Lib.hid (show acc.length ≤ 2000000 by omega)
      have HL2 := Lib.hid (show ([] : List Bs).length ≤ 2000000 by simp)
      have HL3 := Lib.hid (show ∀ y ∈ ([] : List Bs), y.length ≤ 1000000 from fun y hy => by simp at hy)
      clear hX hXd HSE
      obtain ⟨c0, c1, c2⟩ := three_cells HS7b.out.out
      obtain ⟨b0, b1, b2⟩ := three_cells HS7b.out.res
      obtain ⟨g0, g1, g2⟩ := three_free HS7b.out.res
      have KR := Lib.hid (right_walk ⟨acc, largeL X, []⟩ _ _ _ _ HXS.out (fun i hi => hi.2) HL1.out HL2.out HL3.out)
      go_wp2_with fail
      refine KR.out.mono ?_
      rintro e w8 ⟨rfl, hB8⟩
      have ST8 := Lib.hid (HS7b.out.then hB8)
      have HX8 := Lib.hid (HXS.out.kept (fun i hi => hB8.block i hi.2))
      have HXM := Lib.hid (HX8.out.more (T' := fun i => w.heap.size + 2 ≤ i ∧ i < w8.heap.size) (fun i hi => ⟨hi.1, Nat.lt_of_lt_of_le hi.2 hB8.size⟩))
      have c8 := HSent.out _ ST8.out.below
      clear hB8 c0 c1 c2 b0 b1 b2 g0 g1 g2
      obtain ⟨c0, c1, c2⟩ := three_cells ST8.out.out
      obtain ⟨b0, b1, b2⟩ := three_cells ST8.out.res
      obtain ⟨g0, g1, g2⟩ := three_free ST8.out.res
      cases hr : secRight ⟨acc, largeL X, []⟩ with
      | true =>
       have HO := Lib.hid (show secB s = some ⟨acc, largeL X, []⟩ by rw [HV.out, secFin, if_pos hr])
       go_wp2
       refine bodyPost_ret (v := _) ?_ rfl (SecPost.fin ST8.out.below ST8.out.room (set3 _ _ _ _ _ _ _ _ _ ST8.out.res).2 HO.out HXM.out)
       rw [results_cell_tmp rfl]
       simp [go_sem, b0, b1, b2]
       try rfl
      | false =>
       have HO := Lib.hid (show secB s = none by rw [HV.out, secFin, if_neg (by rw [hr]; decide)])
       go_wp2
       go_region
       all_goals go_wp2
       all_goals
        refine bodyPost_ret (v := _) ?_ rfl (SecPost.bad ST8.out.below ((set3 _ _ _ _ _ _ _ _ _ ST8.out.res).2.trans (grown_drew _ _)) HO.out HGf.out)
        rw [results_cell_tmp rfl]
        simp [go_sem, b0, b1, b2]
    | true =>
     go_wp2_with fail
     refine (K5.out _).mono ?_
     rintro e w9 ⟨rfl, rfl⟩
     have htl := trim_len Y
     cases hsf : Lib.hasSuffix Y [41] with
     | false =>
      have HO := Lib.hid (show secB s = none by
       rw [HSE.out]
       by_cases hX : X = []
       ·
        rw [if_pos hX]
       ·
        simp [hX, hsf])
      have c8 := HSent.out _ HS7b.out.below
      obtain ⟨b0, b1, b2⟩ := three_cells HS7b.out.res
      obtain ⟨g0, g1, g2⟩ := three_free HS7b.out.res
      clear HSE hcw hcw2
      go_wp2
      go_region
      all_goals go_wp2
      all_goals
       refine bodyPost_ret (v := _) ?_ rfl (SecPost.bad HS7b.out.below ((set3 _ _ _ _ _ _ _ _ _ HS7b.out.res).2.trans (grown_drew _ _)) HO.out HGf.out)
       rw [results_cell_tmp rfl]
       simp [go_sem, b0, b1, b2]
     | true =>
      have HSp := Lib.hid (splitL_len (Lib.trimSuffix Y [41]))
      have K6 : Hid (∀ W, Below w.heap.size w W → Calls Tryz.prog 165 #[.string (str (Lib.trimSuffix Y [41])), .string ⟨#[32]⟩] W fun e w' => e = .returned (.slice (some ⟨W.heap.size, 0, none⟩) (splitL (Lib.trimSuffix Y [41])).length (splitL (Lib.trimSuffix Y [41])).length) ∧ w' = W.alloc (.cells ((splitL (Lib.trimSuffix Y [41])).map strV).toArray 9)) := Lib.hid (fun W hW => by
       have K := split_walk (str (Lib.trimSuffix Y [41])) ⟨#[32]⟩ G.max W (by rw [str_size]; omega) (HMax.out W hW) (by decide)
       rw [← (splitL_len (Lib.trimSuffix Y [41])).1] at K
       have e : (Lib.splitB ⟨#[32]⟩ 0 (Lib.countB (str (Lib.trimSuffix Y [41])) ⟨#[32]⟩) (str (Lib.trimSuffix Y [41]))).map Value.string = (splitL (Lib.trimSuffix Y [41])).map strV := by
        rw [splitL, List.map_map]
        refine List.map_congr_left (fun z _ => ?_)
        show Value.string z = .string (str (bs z))
        rw [str_bs]
       rw [e] at K
       exact K)
      have HSE2 := Lib.hid (show secB s = if X = [] then none else secFin ⟨acc, largeL X, splitL (Lib.trimSuffix Y [41])⟩ by
       rw [HSE.out]
       by_cases hX : X = []
       ·
        rw [if_pos hX, if_pos hX]
       ·
        simp [hX, hsf])
      have hz7 := HS7b.out.room
      clear HSE
      generalize splitL (Lib.trimSuffix Y [41]) = N at *
      generalize str (Lib.trimSuffix Y [41]) = TS at *
      go_wp2_with fail
      refine (K6.out _ HS7b.out.below).mono ?_
      rintro e w10 ⟨rfl, hw10⟩
      have hB10 : Below w9.heap.size w9 w10 := by rw [hw10]; exact (Below.refl _ _).alloc (Nat.le_refl _) _
      have hz10 : w10.heap.size = w9.heap.size + 1 := by rw [hw10]; simp
      have hx10 : w10.heap[w9.heap.size]? = some (.cells (N.map strV).toArray 9) := by rw [hw10]; exact World.alloc_heap_new _ _
      have HS10 := Lib.hid (HS7b.out.then hB10)
      have HNm : Hid (RowC w10 (fun i => w.heap.size + 2 ≤ i ∧ i < w10.heap.size) (.slice (some ⟨w9.heap.size, 0, none⟩) N.length N.length) N.length (N.map strV)) := Lib.hid ⟨_, _, rfl, fun _ => ⟨_, rfl, ⟨by omega, by omega⟩, fun j x hx => by
       rw [cell_of_row _ _ _ _ _ _ hx10]; simpa using hx⟩⟩
      have HS11 := Lib.hid (HS10.out.setO (i := 2) (v := .slice (some ⟨w9.heap.size, 0, none⟩) N.length N.length) (wt1 := str (largeL X)) (nm1 := .slice (some ⟨w9.heap.size, 0, none⟩) N.length N.length) rfl)
      have HNm11 : Hid (RowC (w10.setCell ⟨w.heap.size + 1, 2, none⟩ (.slice (some ⟨w9.heap.size, 0, none⟩) N.length N.length)) (fun i => w.heap.size + 2 ≤ i ∧ i < (w10.setCell ⟨w.heap.size + 1, 2, none⟩ (.slice (some ⟨w9.heap.size, 0, none⟩) N.length N.length)).heap.size) (.slice (some ⟨w9.heap.size, 0, none⟩) N.length N.length) N.length (N.map strV)) := Lib.hid ((HNm.out.kept (fun i hi => Below.heap_setCell _ _ _ _ (by dsimp only; omega))).more (fun i hi => ⟨hi.1, by simp; exact hi.2⟩))
      obtain ⟨c0, c1, c2⟩ := three_cells HS10.out.out
      obtain ⟨f0, f1, f2⟩ := three_free HS10.out.out
      clear hw10 hB10 hz10 hx10 HS10 HNm
      obtain ⟨w11, hw11⟩ : ∃ w11, w10.setCell ⟨w.heap.size + 1, 2, none⟩ (.slice (some ⟨w9.heap.size, 0, none⟩) N.length N.length) = w11 := ⟨_, rfl⟩
      rw [hw11] at HS11 HNm11
      by_cases hX : X = []
      ·
       have hXd : decide (X = []) = true := decide_eq_true hX
       rw [hXd] at hcw hcw2
       have HO := Lib.hid (show secB s = none by rw [HSE2.out, if_pos hX])
       have c8 := HSent.out _ HS11.out.below
       clear hX hXd HSE2
       obtain ⟨b0, b1, b2⟩ := three_cells HS11.out.res
       obtain ⟨g0, g1, g2⟩ := three_free HS11.out.res
       go_wp2
       go_region
       all_goals go_wp2
       all_goals
        refine bodyPost_ret (v := _) ?_ rfl (SecPost.bad HS11.out.below ((set3 _ _ _ _ _ _ _ _ _ HS11.out.res).2.trans (grown_drew _ _)) HO.out HGf.out)
        rw [results_cell_tmp rfl]
        simp [go_sem, b0, b1, b2]
      ·
       have hXd : decide (X = []) = false := decide_eq_false hX
       rw [hXd] at hcw hcw2
       have HV := Lib.hid (show secB s = secFin ⟨acc, largeL X, N⟩ by rw [HSE2.out, if_neg hX])
       have HXS := Lib.hid (HS11.out.spec (x := ⟨acc, largeL X, N⟩) rfl HNm11.out)
       have HL1 := Lib.hid (show acc.length ≤ 2000000 by omega)
       have HL2 := Lib.hid (show N.length ≤ 2000000 by have := HSp.out.2.1; omega)
       have HL3 := Lib.hid (show ∀ y ∈ N, y.length ≤ 1000000 from fun y hy => by have := HSp.out.2.2 y hy; omega)
       clear hX hXd HSE2
       obtain ⟨c0, c1, c2⟩ := three_cells HS11.out.out
       obtain ⟨b0, b1, b2⟩ := three_cells HS11.out.res
       obtain ⟨g0, g1, g2⟩ := three_free HS11.out.res
       have KR := Lib.hid (right_walk ⟨acc, largeL X, N⟩ _ _ _ _ HXS.out (fun i hi => hi.2) HL1.out HL2.out HL3.out)
       go_wp2_with fail
       refine KR.out.mono ?_
       rintro e w8 ⟨rfl, hB8⟩
       have ST8 := Lib.hid (HS11.out.then hB8)
       have HX8 := Lib.hid (HXS.out.kept (fun i hi => hB8.block i hi.2))
       have HXM := Lib.hid (HX8.out.more (T' := fun i => w.heap.size + 2 ≤ i ∧ i < w8.heap.size) (fun i hi => ⟨hi.1, Nat.lt_of_lt_of_le hi.2 hB8.size⟩))
       have c8 := HSent.out _ ST8.out.below
       clear hB8 c0 c1 c2 b0 b1 b2 g0 g1 g2
       obtain ⟨c0, c1, c2⟩ := three_cells ST8.out.out
       obtain ⟨b0, b1, b2⟩ := three_cells ST8.out.res
       obtain ⟨g0, g1, g2⟩ := three_free ST8.out.res
       cases hr : secRight ⟨acc, largeL X, N⟩ with
       | true =>
        have HO := Lib.hid (show secB s = some ⟨acc, largeL X, N⟩ by rw [HV.out, secFin, if_pos hr])
        go_wp2
        refine bodyPost_ret (v := _) ?_ rfl (SecPost.fin ST8.out.below ST8.out.room (set3 _ _ _ _ _ _ _ _ _ ST8.out.res).2 HO.out HXM.out)
        rw [results_cell_tmp rfl]
        simp [go_sem, b0, b1, b2]
        try rfl
       | false =>
        have HO := Lib.hid (show secB s = none by rw [HV.out, secFin, if_neg (by rw [hr]; decide)])
        go_wp2
        go_region
        all_goals go_wp2
        all_goals
         refine bodyPost_ret (v := _) ?_ rfl (SecPost.bad ST8.out.below ((set3 _ _ _ _ _ _ _ _ _ ST8.out.res).2.trans (grown_drew _ _)) HO.out HGf.out)
         rw [results_cell_tmp rfl]
         simp [go_sem, b0, b1, b2]
   ·
    have HN := Lib.hid (HL.out.next h0)
    have HMs := Lib.hid (show moreOf (.string (str (Lib.cut rest [46]).2.1)) (.bool (Lib.cut rest [46]).2.2) < moreOf (.string (str rest)) (.bool true) by
     cases hm : (Lib.cut rest [46]).2.2 with
     | true => have := cut_less rest hm; simp only [moreOf, str_size]; omega
     | false => simp only [moreOf]; omega)
    generalize hN1 : secNum (Lib.cut rest [46]).1 = N1 at *
    have hN0 : ¬ (N1 : Int) = 0 := by omega
    generalize (Lib.cut rest [46]).1 = X at *
    generalize (Lib.cut rest [46]).2.1 = Y at *
    generalize (Lib.cut rest [46]).2.2 = ok at *
    clear hN1
    go_wp2_with fail
    refine (K1.out _ HS.out.below).mono ?_
    rintro e w3 ⟨rfl, q, hw3⟩
    have HS3 : Hid (SecSt w acc _ _ _ w3) := Lib.hid (by rw [hw3]; exact HS.out.then (below_draws (Below.refl _ _) q))
    clear hw3
    go_wp2_with fail
    refine (K2.out _).mono ?_
    rintro e w4 ⟨rfl, hB4⟩
    have HS4 := Lib.hid (HS3.out.then hB4)
    clear hB4
    obtain ⟨c0, c1, c2⟩ := three_cells HS4.out.out
    obtain ⟨f0, f1, f2⟩ := three_free HS4.out.out
    have hr4 := HS4.out.room
    go_wp2_with (at_builtin; refine wpList_append_lies _ (by rfl) _ _ _ (by rfl) (w.heap.size + 2) 3 i0 (.int .i64 0) 1 8 Tryz.underlying74 hi hz0 hz1 hz2 (by rfl) (by decide) (.slice A acc.length c) acc.length (acc.map intV) (by rfl) (HS4.out.own.alloc _) ⟨w4.heap.size, 0, none⟩ 1 1 [.int .i64 N1] (by rfl) (by rfl) (World.news_of_block (World.alloc_heap_new w4 _)) (by simp [Value.oneCell']) (by decide) (by unfold maxLen; omega) (by omega) (by simp; omega) (w4.heap.size + 1) (by simp) ?_)
    intro g cap w9 hown hgr hat hlt
    obtain ⟨hx9, hst9⟩ := HS4.out.app hown hgr
    have HS9 := Lib.hid hst9
    clear c0 c1 c2 f0 f1 f2 hown hgr hat hlt hst9
    obtain ⟨c0, c1, c2⟩ := three_cells hx9
    obtain ⟨f0, f1, f2⟩ := three_free hx9
    clear hx9
    go_wp2
    go_roundw
    case rel => exact ⟨acc ++ [(N1 : Int)], Y, ok, .slice (some ⟨g, 0, none⟩) (acc.length + 1) cap, rfl, rfl, HN, HS9⟩
    case measure => exact HMs.out
open Go.RowKit
open Pl (Bs)
def exA : Bs := [97, 32, 70, 69, 84, 67, 72, 32, 49, 58, 42, 32, 40, 70, 76, 65, 71, 83, 32, 66, 79, 68, 89, 91, 84, 69, 88, 84, 93, 60, 48, 46, 49, 48, 62, 41]
def exB : Bs := [98, 32, 85, 73, 68, 32, 83, 69, 65, 82, 67, 72, 32, 79, 82, 32, 83, 69, 69, 78, 32, 78, 79, 84, 32, 51]
def exC : Bs := [99, 32, 76, 79, 71, 73, 78, 32, 123, 51, 125, 13, 10, 97, 110, 110, 32, 34, 120, 32, 121, 34]
open Go.RowKit
open Pl (Bs)
def PsEnv (G : Glob) (w : World) : Prop := 20 ≤ w.heap.size ∧ ∀ W, Below w.heap.size w W → w.heap.size + 1 + 1 < W.heap.size → EnvI G W (w.heap.size + 1 + 1)
theorem sec_con (G : Glob) : SecCon G secB := fun X B w hl hE => sec_walk G X B w hl hE
def KidsQ (c : CmdV) (lo : Nat) (W : World) : Prop := c.uid = true ∧ c.kN = 1 ∧ ∃ g Ak ck, c.kA = some ⟨g, 0, none⟩ ∧ lo ≤ g ∧ W.cell? ⟨g, 5, none⟩ = some (.slice Ak 2 ck)
def ArgsEx (c : CmdV) (lo : Nat) (W : World) : Prop := c.aN = 2 ∧ ∃ g, c.aA = some ⟨g, 0, none⟩ ∧ lo ≤ g ∧ W.cell? ⟨g, 0, none⟩ = some (.string ⟨#[97, 110, 110]⟩) ∧ W.cell? ⟨g, 1, none⟩ = some (.string ⟨#[120, 32, 121]⟩)
open Go.RowKit
open Pl (Bs)
theorem PsEnv.then {G : Glob} {w w1 : World} (h : PsEnv G w) (hB : Below w.heap.size w w1) (hE : ∀ W, Below w.heap.size w W → ∀ B, w.heap.size ≤ B → B < W.heap.size → EnvI G W B) : PsEnv G w1 := by
 have hz := hB.size
 exact ⟨Nat.le_trans h.1 hz, fun W hW hl => hE W (hB.trans (hW.mono hz)) _ (by omega) hl⟩
open Go.RowKit
open Pl (Bs numOk numN)
def EnvW (G : Glob) (w : World) : Prop := 21 ≤ w.heap.size ∧ ∀ W, Below w.heap.size w W → ∀ B, 20 ≤ B → B < W.heap.size → EnvI G W B
theorem EnvW.now {G : Glob} {w : World} (h : EnvW G w) : EnvI G w 20 := h.2 w (Below.refl _ _) 20 (Nat.le_refl _) h.1
theorem EnvW.then {G : Glob} {w w1 : World} (h : EnvW G w) (hB : Below w.heap.size w w1) : EnvW G w1 :=
 ⟨Nat.le_trans h.1 hB.size, fun W hW B h1 h2 => h.2 W (hB.trans (hW.mono hB.size)) B h1 h2⟩
theorem str_of (s : ByteArray) : str (bs s) = s := rfl
open Go Go.RowKit
theorem returns_and_shaped {H : Type} {enc : TypeId × Value → H} {a : Assume} {C : Checked} {os : Os} {f : FuncId} {fn : Func} {s : ChangeSpec} {conds : List PathCond} {apart fresh handsOn again : Bool} {X : World → Array Value → Prop}
  (hX : ∀ (w w' : World) (args : Array Value), w.heap = w'.heap → X w args → X w' args)
  (own : ownKnob C.prog.godebug = none) (started : os.Started) (noInit : C.prog.inits.idxOf? f = none) (hfn : C.prog.funcs[f]? = some fn)
  (witness : ∃ (w : World) (tape : Tape) (i : Input), w.os = os ∧ (w.forCall tape i).Shaped C.prog ∧ i.vars = [] ∧ Input.okWide C.prog (w.forCall tape i) .any w.heap.size f i ∧
   ((s.pre enc C.prog fn conds apart (w.forCall tape i).memory i.args ∧ X (w.forCall tape i).memory i.args) ∧ sizedMet enc C.prog fn (OpenSpec.ofChange s) apart (w.forCall tape i).memory i.args) ∧ a.holds C.prog (lone (Frame.enter C.prog f i.args .normal) [] (w.forCall tape i)))
  (contract : ∀ (W : World) (base : Nat) (args : Array Value) (ds gs : List (DataW H)) (before : List MemPlace),
   (∀ (j : Nat) t v, fn.params[j]? = some t → args[j]? = some v → Value.okWide C.prog W .any base t v) →
   DataW.Whole enc C.prog fn.params.toList s.vars apart W args.toList ds gs before →
   conds.all (PathCond.test C.prog ⟨fn.params.toList, ds, s.plain.varTypes C.prog, gs⟩) = true →
   (DataW.weightsEach C.prog (fn.params.toList ++ s.plain.varTypes C.prog) (ds ++ gs)).all (· ≤ reachBytes) = true → X W args → W.ShapedOpen C.prog →
   a.holds C.prog (lone (Frame.enter C.prog f args .normal) [] W) →
   Calls C.prog f args W fun e W' => ∃ v, e = .returned v ∧ s.post enc C.prog fn apart fresh handsOn again W args v W') :
  ReturnsInHanded a C os f .any (fun w args => (s.pre enc C.prog fn conds apart w args ∧ X w args) ∧ sizedMet enc C.prog fn (OpenSpec.ofChange s) apart w args) (s.post enc C.prog fn apart fresh handsOn again) := by
 refine returnsInHanded_of_calls own started noInit witness ?_
 intro w tape i _ hsh _ hok hpre hholds
 obtain ⟨_, _, _, fn', hfn', _, _, _, _, hval⟩ := hok
 have e : fn' = fn := Option.some.inj (hfn'.symm.trans hfn)
 subst e
 obtain ⟨⟨⟨ds, gs, before, hw, hc⟩, hx⟩, hz⟩ := hpre
 have hw' := DataW.Whole.of_heap (w' := w.forCall tape i) (by rfl) hw
 refine (contract (w.forCall tape i) w.heap.size i.args ds gs before hval hw' hc (hz.weights hw) (hX _ _ _ (by rfl) hx) hsh hholds).mono fun e W' ⟨v, he, hp⟩ => ?_
 subst he
 exact ChangeSpec.post_blind hp
theorem max_of {W : World} (h : W.ShapedOpen Tryz.prog) : ∃ m, W.cell? ⟨13, 0, none⟩ = some (.int .i64 m) :=
 cell_of_shapedOpen_int h (t := 3) (zero := #[.int .i64 0]) (of_decide_eq_true (by kernel_rfl)) (by kernel_rfl) rfl (by kernel_rfl) (by kernel_rfl) Tryz.underlying3
theorem room_of {W : World} (h : W.ShapedOpen Tryz.prog) : 21 ≤ W.heap.size := by
 obtain ⟨o, o0, e, _⟩ := h.2 20 (of_decide_eq_true (by kernel_rfl)) (of_decide_eq_true (by kernel_rfl))
 exact (Array.getElem?_eq_some_iff.1 e).1
theorem env_of {W : World} {l : List (String × DataW Unit)} {x1 x2 : List UInt8} (h : laidMet Tryz.prog l W) (i j : Nat) (h1 : l[i]? = some ("postbag/api.ErrRange", .iface "*errors.errorString" (.ptr (.agg [.lit (.string x1)])))) (h2 : l[j]? = some ("postbag/api.ErrForm", .iface "*errors.errorString" (.ptr (.agg [.lit (.string x2)])))) (hs : W.ShapedOpen Tryz.prog) : ∃ G, EnvW G W := by
 obtain ⟨a0, c0, _⟩ := sent_get h i h1 errTypes (g := 1) (by kernel_rfl) (by kernel_rfl)
 obtain ⟨a1, c1, _⟩ := sent_get h j h2 errTypes (g := 0) (by kernel_rfl) (by kernel_rfl)
 obtain ⟨m, hm⟩ := max_of hs
 have hz := room_of hs
 refine ⟨⟨.iface 200 (.pointer (some a1)), .iface 200 (.pointer (some a0)), m⟩, hz, fun W' hB B h20 hlt => ⟨?_, ?_, ?_, h20, hlt, ⟨_, _, rfl⟩, ⟨_, _, rfl⟩⟩⟩
 ·
  exact (hB.cell (p := ⟨0, 0, none⟩) (Nat.lt_of_lt_of_le (by decide) hz)).trans c1
 ·
  exact (hB.cell (p := ⟨1, 0, none⟩) (Nat.lt_of_lt_of_le (by decide) hz)).trans c0
 ·
  exact (hB.cell (p := ⟨13, 0, none⟩) (Nat.lt_of_lt_of_le (by decide) hz)).trans hm
open Go.RowKit
open Pl (Bs)
theorem map_str_eq (xs ys : List Bs) : (xs.map str = ys.map str) ↔ xs = ys := by
 constructor
 ·
  intro h
  have := congrArg (List.map bs) h
  simpa [List.map_map, Function.comp_def, bs_str] using this
 ·
  rintro rfl; rfl
theorem RowC.parts {w : World} {T : Nat → Prop} {A : Option Addr} {n c : Nat} {cells : List Value} (h : RowC w T (.slice A n c) n cells) (hn : 0 < n) : ∃ b, A = some ⟨b, 0, none⟩ ∧ T b ∧ ∀ j x, cells[j]? = some x → w.cell? ⟨b, j, none⟩ = some x := by
 obtain ⟨A', c', e, h⟩ := h
 cases e
 exact h hn
theorem eqS_ne (A B : Option Addr) (n m c d : Nat) (w : World) (h : n ≠ m) :
  Calls Tryz.prog 32 #[.slice A n c, .slice B m d] w fun e w' => e = .returned (.bool false) ∧ w = w' := by
 have hh : ((n : Int) != (m : Int)) = true := by rw [bne_iff_ne]; omega
 go_enter Tryz.func32, Tryz.ntmps32
 go_wp2
 go_ret
 exact ⟨rfl, rfl⟩
theorem eqS_walk (A B : Option Addr) (c d : Nat) (xs ys : List Bs) (T T' : Nat → Prop) (w : World) (hx : RowC w T (.slice A xs.length c) xs.length (xs.map strV)) (hy : RowC w T' (.slice B ys.length d) ys.length (ys.map strV)) (hn : xs.length ≤ 9223372036854775807) (hm : ys.length ≤ 9223372036854775807) :
  Calls Tryz.prog 32 #[.slice A xs.length c, .slice B ys.length d] w fun e w' => e = .returned (.bool (decide (xs = ys))) ∧ ∃ q, w' = w.drewN q := by
 by_cases hl : xs.length = ys.length
 ·
  by_cases h0 : xs.length = 0
  ·
   have K := Any.slices_Equal_string_empty lays193 A B c ys.length d w hm
   rw [← h0] at K
   refine K.mono ?_
   rintro e w' ⟨rfl, rfl⟩
   refine ⟨?_, 0, rfl⟩
   have e1 : xs = [] := List.eq_nil_of_length_eq_zero h0
   have e2 : ys = [] := List.eq_nil_of_length_eq_zero (by omega)
   subst e1; subst e2; simp
  ·
   obtain ⟨b1, rfl, _, h1⟩ := hx.parts (by omega)
   obtain ⟨b2, rfl, _, h2⟩ := hy.parts (by omega)
   refine (Any.slices_Equal_string lays193 b1 0 xs.length c b2 0 ys.length d (xs.map str) (ys.map str) w (by simp) (by simp) hn hm (fun j hj => ?_) (fun j hj => ?_)).mono ?_
   ·
    rw [Nat.zero_add]
    rw [List.length_map] at hj
    exact h1 j _ (by simp [List.getElem?_eq_getElem hj, strV])
   ·
    rw [Nat.zero_add]
    rw [List.length_map] at hj
    exact h2 j _ (by simp [List.getElem?_eq_getElem hj, strV])
   ·
    rintro e w' ⟨rfl, q, rfl⟩
    refine ⟨?_, q, rfl⟩
    rw [List.take_of_length_le (by simp), List.take_of_length_le (by simp)]
    simp only [map_str_eq]
 ·
  refine (eqS_ne A B _ _ c d w hl).mono ?_
  rintro e w' ⟨rfl, rfl⟩
  exact ⟨by rw [decide_eq_false (fun e => hl (by rw [e]))], 0, rfl⟩
theorem eqI_ne (A B : Option Addr) (n m c d : Nat) (w : World) (h : n ≠ m) :
  Calls Tryz.prog 107 #[.slice A n c, .slice B m d] w fun e w' => e = .returned (.bool false) ∧ w = w' := by
 have hh : ((n : Int) != (m : Int)) = true := by rw [bne_iff_ne]; omega
 go_enter Tryz.func107, Tryz.ntmps107
 go_wp2
 go_ret
 exact ⟨rfl, rfl⟩
theorem eqI_walk (A B : Option Addr) (c d : Nat) (xs ys : List Int) (T T' : Nat → Prop) (w : World) (hx : RowC w T (.slice A xs.length c) xs.length (xs.map intV)) (hy : RowC w T' (.slice B ys.length d) ys.length (ys.map intV)) (hn : xs.length ≤ 9223372036854775807) (hm : ys.length ≤ 9223372036854775807) :
  Calls Tryz.prog 107 #[.slice A xs.length c, .slice B ys.length d] w fun e w' => e = .returned (.bool (decide (xs = ys))) ∧ ∃ q, w' = w.drewN q := by
 by_cases hl : xs.length = ys.length
 ·
  by_cases h0 : xs.length = 0
  ·
   have K := Any.slices_Equal_int_empty lays111 A B c ys.length d w hm
   rw [← h0] at K
   refine K.mono ?_
   rintro e w' ⟨rfl, rfl⟩
   refine ⟨?_, 0, rfl⟩
   have e1 : xs = [] := List.eq_nil_of_length_eq_zero h0
   have e2 : ys = [] := List.eq_nil_of_length_eq_zero (by omega)
   subst e1; subst e2; simp
  ·
   obtain ⟨b1, rfl, _, h1⟩ := hx.parts (by omega)
   obtain ⟨b2, rfl, _, h2⟩ := hy.parts (by omega)
   refine (Any.slices_Equal_int lays111 b1 0 xs.length c b2 0 ys.length d xs ys w (Nat.le_refl _) (Nat.le_refl _) hn hm (fun j hj => ?_) (fun j hj => ?_)).mono ?_
   ·
    rw [Nat.zero_add]
    exact h1 j _ (by simp [List.getElem?_eq_getElem hj, intV])
   ·
    rw [Nat.zero_add]
    exact h2 j _ (by simp [List.getElem?_eq_getElem hj, intV])
   ·
    rintro e w' ⟨rfl, q, rfl⟩
    refine ⟨?_, q, rfl⟩
    rw [List.take_of_length_le (Nat.le_refl _), List.take_of_length_le (Nat.le_refl _)]
    first | rfl | (congr 2; rw [Bool.eq_iff_iff, beq_iff_eq, decide_eq_true_iff]) | (congr 2; simp)
 ·
  refine (eqI_ne A B _ _ c d w hl).mono ?_
  rintro e w' ⟨rfl, rfl⟩
  exact ⟨by rw [decide_eq_false (fun e => hl (by rw [e]))], 0, rfl⟩
theorem eqR_ne (A B : Option Addr) (n m c d : Nat) (w : World) (h : n ≠ m) :
  Calls Tryz.prog 33 #[.slice A n c, .slice B m d] w fun e w' => e = .returned (.bool false) ∧ w = w' := by
 have hh : ((n : Int) != (m : Int)) = true := by rw [bne_iff_ne]; omega
 go_enter Tryz.func33, Tryz.ntmps33
 go_wp2
 go_ret
 exact ⟨rfl, rfl⟩
theorem eqR_walk (A B : Option Addr) (c d : Nat) (xs ys : List (Int × Int)) (T T' : Nat → Prop) (w : World) (hx : RowC w T (.slice A xs.length c) xs.length (flat xs)) (hy : RowC w T' (.slice B ys.length d) ys.length (flat ys)) (hn : xs.length ≤ 4611686018427387903) :
  Calls Tryz.prog 33 #[.slice A xs.length c, .slice B ys.length d] w fun e w' => e = .returned (.bool (decide (xs = ys))) ∧ ∃ q, w' = w.drewN q := by
 by_cases hl : xs.length = ys.length
 ·
  have hh : ((xs.length : Int) != (ys.length : Int)) = false := by rw [hl]; simp
  obtain ⟨n, hxn⟩ : ∃ n, xs.length = n := ⟨_, rfl⟩
  rw [← hl, hxn] at hh ⊢
  by_cases h0 : n = 0
  ·
   have HV := Lib.hid (show decide (xs = ys) = true by
    have e1 : xs = [] := List.eq_nil_of_length_eq_zero (by omega)
    have e2 : ys = [] := List.eq_nil_of_length_eq_zero (by omega)
    subst e1; subst e2; simp)
   subst h0
   clear hx hy hl hn hxn
   go_enter Tryz.func33, Tryz.ntmps33
   go_wp2
   refine wp_loop_rounds 1 ?_
   rw [rounds_succ]
   go_wp2
   go_ret
   exact ⟨by rw [HV.out]; rfl, 0, rfl⟩
  ·
   obtain ⟨b1, rfl, _, h1⟩ := hx.parts (by omega)
   obtain ⟨b2, rfl, _, h2⟩ := hy.parts (by omega)
   have CX := Lib.hid (fun k (hk : k < n) => show w.cell? ⟨b1, k * 2, none⟩ = some (.int .i64 (xs.getD k (0, 0)).1) ∧ w.cell? ⟨b1, k * 2 + 1, none⟩ = some (.int .i64 (xs.getD k (0, 0)).2) from ⟨h1 _ _ (flat_at xs k (by omega)).1, h1 _ _ (flat_at xs k (by omega)).2⟩)
   have CY := Lib.hid (fun k (hk : k < n) => show w.cell? ⟨b2, k * 2, none⟩ = some (.int .i64 (ys.getD k (0, 0)).1) ∧ w.cell? ⟨b2, k * 2 + 1, none⟩ = some (.int .i64 (ys.getD k (0, 0)).2) from ⟨h2 _ _ (flat_at ys k (by omega)).1, h2 _ _ (flat_at ys k (by omega)).2⟩)
   have HL := Lib.hid (show xs.length = n ∧ ys.length = n from ⟨hxn, by omega⟩)
   have hn' : n ≤ 4611686018427387903 := by omega
   clear hx hy h1 h2 hl hn hxn
   go_enter Tryz.func33, Tryz.ntmps33
   go_wp2
   go_loopw [13] (fun i wr => ∃ k : Nat, k ≤ n ∧ i = .int .i64 k ∧ Hid (∀ j, j < k → xs.getD j (0, 0) = ys.getD j (0, 0)) ∧ ∃ q, wr = w.drewN q) (fun i _ => n - (intOf i).toNat)
   case atStart => exact ⟨0, Nat.zero_le _, rfl, Lib.hid (fun j hj => absurd hj (Nat.not_lt_zero _)), 0, rfl⟩
   case round =>
    obtain ⟨k, hk, rfl, HA, q, rfl⟩ := hrel
    by_cases hkn : k < n
    ·
     have x1 : (w.drewN q).cell? ⟨b1, k * 2, none⟩ = _ := (CX.out k hkn).1
     have x2 : (w.drewN q).cell? ⟨b1, k * 2 + 1, none⟩ = _ := (CX.out k hkn).2
     have y1 : (w.drewN q).cell? ⟨b2, k * 2, none⟩ = _ := (CY.out k hkn).1
     have y2 : (w.drewN q).cell? ⟨b2, k * 2 + 1, none⟩ = _ := (CY.out k hkn).2
     by_cases he : xs.getD k (0, 0) = ys.getD k (0, 0)
     ·
      have HN := Lib.hid (show ∀ j, j < k + 1 → xs.getD j (0, 0) = ys.getD j (0, 0) from fun j hj => by
       by_cases hjk : j = k
       ·
        rw [hjk]; exact he
       ·
        exact HA.out j (by omega))
      rw [he] at x1 x2
      clear he
      generalize (ys.getD k (0, 0)).1 = f at *
      generalize (ys.getD k (0, 0)).2 = t at *
      generalize hwq : w.drewN q = wq at *
      go_wp2
      go_quiet (fail)
      go_wp2
      go_roundw
      case rel => exact ⟨k + 1, by omega, by go_num, HN, q + nq, by rw [← hwq]; simp [World.drewN, Nat.add_assoc]⟩
      case measure => simp [intOf]; omega
     ·
      have HV := Lib.hid (show decide (xs = ys) = false from decide_eq_false (fun e => he (by rw [e])))
      have hne : ¬ ((xs.getD k (0, 0)).1 = (ys.getD k (0, 0)).1 ∧ (xs.getD k (0, 0)).2 = (ys.getD k (0, 0)).2) := fun h => he (Prod.ext h.1 h.2)
      clear he
      generalize (xs.getD k (0, 0)).1 = f at *
      generalize (xs.getD k (0, 0)).2 = t at *
      generalize (ys.getD k (0, 0)).1 = f2 at *
      generalize (ys.getD k (0, 0)).2 = t2 at *
      generalize hwq : w.drewN q = wq at *
      by_cases hf : f = f2
      ·
       subst hf
       have hb : (t == t2) = false := beq_eq_false_iff_ne.2 (fun e => hne ⟨rfl, e⟩)
       clear hne
       go_wp2
       go_quiet (fail)
       go_wp2
       go_ret
       exact ⟨by rw [HV.out]; rfl, q + nq, by rw [← hwq]; simp [World.drewN, Nat.add_assoc]⟩
      ·
       have hb : (f == f2) = false := beq_eq_false_iff_ne.2 hf
       clear hne hf
       go_wp2
       go_quiet (fail)
       go_wp2
       go_ret
       exact ⟨by rw [HV.out]; rfl, q + nq, by rw [← hwq]; simp [World.drewN, Nat.add_assoc]⟩
    ·
     obtain rfl : k = n := by omega
     have HV := Lib.hid (show decide (xs = ys) = true from decide_eq_true (List.ext_getElem (by rw [HL.out.1, HL.out.2]) (fun j h1 h2 => by
      have := HA.out j (by rw [← HL.out.1]; exact h1)
      simpa [List.getD_eq_getElem?_getD, List.getElem?_eq_getElem h1, List.getElem?_eq_getElem h2] using this)))
     go_wp2
     go_ret
     exact ⟨by rw [HV.out]; rfl, q, rfl⟩
 ·
  refine (eqR_ne A B _ _ c d w hl).mono ?_
  rintro e w' ⟨rfl, rfl⟩
  exact ⟨by rw [decide_eq_false (fun e => hl (by rw [e]))], 0, rfl⟩
open Go.RowKit
open Pl (Bs)
def sameSpec (a b : SpecP) : Bool := decide (a.what = b.what) && (decide (a.path = b.path) && decide (a.names = b.names))
theorem str_beq (a b : Bs) : ((str a).toList == (str b).toList) = decide (a = b) := by
 rw [Lib.toList_data, Lib.toList_data, show (str a).data.toList = a from bs_str a, show (str b).data.toList = b from bs_str b]
 rw [Bool.eq_iff_iff, beq_iff_eq, decide_eq_true_iff]
theorem SpecAt.open {w : World} {T : Nat → Prop} {vp vn : Value} {x : SpecP} (h : SpecAt w T vp vn x) : ∃ A c A2 c2, vp = .slice A x.path.length c ∧ vn = .slice A2 x.names.length c2 ∧ RowC w T (.slice A x.path.length c) x.path.length (x.path.map intV) ∧ RowC w T (.slice A2 x.names.length c2) x.names.length (x.names.map strV) := by
 obtain ⟨h1, h2⟩ := h
 have g1 := h1
 have g2 := h2
 obtain ⟨A, c, rfl, _⟩ := h1
 obtain ⟨A2, c2, rfl, _⟩ := h2
 exact ⟨A, c, A2, c2, rfl, rfl, g1, g2⟩
def SpecFit (x : SpecP) : Prop := x.path.length ≤ 9223372036854775807 ∧ x.names.length ≤ 9223372036854775807
theorem RowC.below {w w1 : World} {T : Nat → Prop} {v : Value} {n : Nat} {cells : List Value} (h : RowC w T v n cells) (hT : ∀ i, T i → i < w.heap.size) (hB : Below w.heap.size w w1) : RowC w1 T v n cells := h.kept (fun i hi => hB.block i (hT i hi))
theorem below_q {w w1 : World} (h : ∃ q, w1 = w.drewN q) : Below w.heap.size w w1 := by obtain ⟨q, rfl⟩ := h; exact below_draws (Below.refl _ _) q
theorem secSame_walk (x y : SpecP) (hx : SpecFit x) (hy : SpecFit y) (T T' : Nat → Prop) (vp vn vp' vn' : Value) (w : World) (hT : ∀ i, T i → i < w.heap.size) (hT' : ∀ i, T' i → i < w.heap.size) (h1 : SpecAt w T vp vn x) (h2 : SpecAt w T' vp' vn' y) :
  Calls Tryz.prog 79 #[.agg #[vp, .string (str x.what), vn], .agg #[vp', .string (str y.what), vn']] w fun e w' => e = .returned (.bool (sameSpec x y)) ∧ Below w.heap.size w w' := by
 obtain ⟨A, c, A2, c2, rfl, rfl, r1, r2⟩ := h1.open
 obtain ⟨B, d, B2, d2, rfl, rfl, s1, s2⟩ := h2.open
 have KI := Lib.hid (fun W (hB : Below w.heap.size w W) => eqI_walk A B c d x.path y.path T T' W (r1.below hT hB) (s1.below hT' hB) hx.1 hy.1)
 have KS := Lib.hid (fun W (hB : Below w.heap.size w W) => eqS_walk A2 B2 c2 d2 x.names y.names T T' W (r2.below hT hB) (s2.below hT' hB) hx.2 hy.2)
 have HV := Lib.hid (show sameSpec x y = (decide (x.what = y.what) && (decide (x.path = y.path) && decide (x.names = y.names))) from rfl)
 have hw := str_beq x.what y.what
 clear r1 r2 s1 s2 h1 h2 hT hT' hx hy
 generalize sameSpec x y = R at *
 generalize decide (x.what = y.what) = b1 at *
 generalize decide (x.path = y.path) = b2 at *
 generalize decide (x.names = y.names) = b3 at *
 generalize str x.what = S1 at *
 generalize str y.what = S2 at *
 generalize x.path.length = n1 at *
 generalize y.path.length = n2 at *
 generalize x.names.length = n3 at *
 generalize y.names.length = n4 at *
 have HB0 := Lib.hid (((Below.refl w.heap.size w).alloc (Nat.le_refl _) (Obj.cells #[.slice A n1 c, .string S1, .slice A2 n3 c2] 76)).alloc (by simp) (Obj.cells #[.slice B n2 d, .string S2, .slice B2 n4 d2] 76))
 cases b1 with
 | false =>
  go_enter Tryz.func79, Tryz.ntmps79
  go_wp2
  go_ret
  exact ⟨by rw [HV.out]; rfl, HB0.out⟩
 | true =>
  cases b2 with
  | false =>
   go_enter Tryz.func79, Tryz.ntmps79
   go_wp2_with fail
   refine (KI.out _ HB0.out).mono ?_
   rintro e w1 ⟨rfl, hq⟩
   have HB1 := Lib.hid (below_then HB0.out (below_q hq))
   clear hq
   go_wp2
   go_ret
   exact ⟨by rw [HV.out]; rfl, HB1.out⟩
  | true =>
   go_enter Tryz.func79, Tryz.ntmps79
   go_wp2_with fail
   refine (KI.out _ HB0.out).mono ?_
   rintro e w1 ⟨rfl, q, hq⟩
   have HB1 := Lib.hid (below_then HB0.out (below_q ⟨q, hq⟩))
   subst hq
   go_wp2_with fail
   refine (KS.out _ HB1.out).mono ?_
   rintro e w2 ⟨rfl, hq2⟩
   have HB2 := Lib.hid (below_then HB1.out (below_q hq2))
   clear hq2
   go_wp2
   go_ret
   exact ⟨by rw [HV.out]; rfl, HB2.out⟩
open Go.RowKit
open Pl (Bs)
def sameL {α : Type} (f : α → α → Bool) : List α → List α → Bool
 | [], [] => true
 | a :: l, b :: m => f a b && sameL f l m
 | [], _ :: _ => false
 | _ :: _, [] => false
theorem sameL_all {α : Type} {f : α → α → Bool} : ∀ {l m : List α}, l.length = m.length → (∀ (j : Nat) x y, l[j]? = some x → m[j]? = some y → f x y = true) → sameL f l m = true
 | [], [], _, _ => rfl
 | a :: l, b :: m, hl, h => by
  rw [sameL, h 0 a b rfl rfl, sameL_all (by simpa using hl) (fun j x y h1 h2 => h (j + 1) x y (by simpa using h1) (by simpa using h2))]; rfl
 | [], _ :: _, hl, _ => by simp at hl
 | _ :: _, [], hl, _ => by simp at hl
theorem sameL_not {α : Type} {f : α → α → Bool} : ∀ {l m : List α} {j : Nat} {x y : α}, l[j]? = some x → m[j]? = some y → f x y = false → sameL f l m = false
 | [], m, j, x, y, h1, _, _ => by simp at h1
 | a :: l, [], j, x, y, _, h2, _ => by simp at h2
 | a :: l, b :: m, 0, x, y, h1, h2, h => by
  simp only [List.getElem?_cons_zero, Option.some.injEq] at h1 h2
  subst h1; subst h2
  rw [sameL, h]; rfl
 | a :: l, b :: m, j + 1, x, y, h1, h2, h => by
  rw [sameL, sameL_not (j := j) (by simpa using h1) (by simpa using h2) h, Bool.and_false]
theorem sameL_len {α : Type} {f : α → α → Bool} : ∀ {l m : List α}, l.length ≠ m.length → sameL f l m = false
 | [], [], h => absurd rfl h
 | a :: l, b :: m, h => by rw [sameL, sameL_len (by simpa using h), Bool.and_false]
 | [], _ :: _, _ => rfl
 | _ :: _, [], _ => rfl
theorem sameL_refl {α : Type} {f : α → α → Bool} : ∀ {l : List α}, (∀ x ∈ l, f x x = true) → sameL f l l = true
 | [], _ => rfl
 | a :: l, h => by rw [sameL, h a (by simp), sameL_refl (fun x hx => h x (by simp [hx]))]; rfl
def sameItemP (a b : ItemP) : Bool := decide (a.name = b.name) && (sameSpec a.spec b.spec && (decide (a.peek = b.peek) && (decide (a.part = b.part) && (decide (a.frm = b.frm) && decide (a.cnt = b.cnt)))))
theorem int_beq (a b : Int) : (a == b) = decide (a = b) := by rw [Bool.eq_iff_iff, beq_iff_eq, decide_eq_true_iff]
theorem bool_beq (a b : Bool) : (a == b) = decide (a = b) := by rw [Bool.eq_iff_iff, beq_iff_eq, decide_eq_true_iff]
theorem obj_cell {w : World} {b : Nat} {cs : Array Value} {t : TypeId} (h : w.heap[b]? = some (Obj.cells cs t)) (i : Nat) (v : Value) (hi : cs[i]? = some v) : w.cell? ⟨b, i, none⟩ = some v := by
 simp [World.cell?, h, hi]
theorem box2 (w : World) (o1 o2 : Obj) : (((w.alloc o1).alloc o2).heap[w.heap.size]? = some o1 ∧ ((w.alloc o1).alloc o2).heap[w.heap.size + 1]? = some o2) ∧ Below w.heap.size w ((w.alloc o1).alloc o2) := by
 refine ⟨⟨(Below.heap_alloc _ _ _ (by simp)).trans (World.alloc_heap_new _ _), ?_⟩, ((Below.refl _ _).alloc (Nat.le_refl _) _).alloc (by simp) _⟩
 have := World.alloc_heap_new (w.alloc o1) o2; rw [World.size_alloc] at this; exact this
theorem box2_kept {W w1 : World} {b : Nat} {o1 o2 : Obj} (h : W.heap[b]? = some o1 ∧ W.heap[b + 1]? = some o2) (hB : Below W.heap.size W w1) : w1.heap[b]? = some o1 ∧ w1.heap[b + 1]? = some o2 :=
 ⟨(hB.block _ (Array.getElem?_eq_some_iff.1 h.1).1).trans h.1, (hB.block _ (Array.getElem?_eq_some_iff.1 h.2).1).trans h.2⟩
theorem sameItem_walk (x y : ItemP) (hx : SpecFit x.spec) (hy : SpecFit y.spec) (T T' : Nat → Prop) (vp vn vp' vn' : Value) (w : World) (hT : ∀ i, T i → i < w.heap.size) (hT' : ∀ i, T' i → i < w.heap.size) (h1 : SpecAt w T vp vn x.spec) (h2 : SpecAt w T' vp' vn' y.spec) :
  Calls Tryz.prog 35 #[.agg #[.string (str x.name), vp, .string (str x.spec.what), vn, .bool x.peek, .bool x.part, .int .i64 x.frm, .int .i64 x.cnt], .agg #[.string (str y.name), vp', .string (str y.spec.what), vn', .bool y.peek, .bool y.part, .int .i64 y.frm, .int .i64 y.cnt]] w fun e w' => e = .returned (.bool (sameItemP x y)) ∧ Below w.heap.size w w' := by
 have K1 := Lib.hid (fun W (hB : Below w.heap.size w W) => secSame_walk x.spec y.spec hx hy T T' vp vn vp' vn' W (fun i hi => Nat.lt_of_lt_of_le (hT i hi) hB.size) (fun i hi => Nat.lt_of_lt_of_le (hT' i hi) hB.size) (h1.kept (fun i hi => hB.block i (hT i hi))) (h2.kept (fun i hi => hB.block i (hT' i hi))))
 obtain ⟨A, c, A2, c2, rfl, rfl, _, _⟩ := h1.open
 obtain ⟨B, d, B2, d2, rfl, rfl, _, _⟩ := h2.open
 have HV := Lib.hid (show sameItemP x y = (decide (x.name = y.name) && (sameSpec x.spec y.spec && (decide (x.peek = y.peek) && (decide (x.part = y.part) && (decide (x.frm = y.frm) && decide (x.cnt = y.cnt)))))) from rfl)
 have e0 := str_beq x.name y.name
 have e2 := bool_beq x.peek y.peek
 have e3 := bool_beq x.part y.part
 have e4 := int_beq x.frm y.frm
 have e5 := int_beq x.cnt y.cnt
 clear h1 h2 hT hT' hx hy
 generalize sameItemP x y = R at *
 generalize decide (x.name = y.name) = b0 at *
 generalize sameSpec x.spec y.spec = b1 at *
 generalize decide (x.peek = y.peek) = b2 at *
 generalize decide (x.part = y.part) = b3 at *
 generalize decide (x.frm = y.frm) = b4 at *
 generalize decide (x.cnt = y.cnt) = b5 at *
 generalize str x.name = S1 at *
 generalize str y.name = S2 at *
 generalize str x.spec.what = S3 at *
 generalize str y.spec.what = S4 at *
 generalize x.spec.path.length = n1 at *
 generalize y.spec.path.length = n2 at *
 generalize x.spec.names.length = n3 at *
 generalize y.spec.names.length = n4 at *
 generalize x.peek = p1 at *
 generalize y.peek = p2 at *
 generalize x.part = p3 at *
 generalize y.part = p4 at *
 generalize x.frm = i1 at *
 generalize y.frm = i2 at *
 generalize x.cnt = i3 at *
 generalize y.cnt = i4 at *
 have HX0 := Lib.hid (box2 w (Obj.cells #[.string S1, .slice A n1 c, .string S3, .slice A2 n3 c2, .bool p1, .bool p3, .int .i64 i1, .int .i64 i3] 78) (Obj.cells #[.string S2, .slice B n2 d, .string S4, .slice B2 n4 d2, .bool p2, .bool p4, .int .i64 i2, .int .i64 i4] 78)).1
 have HB0 := Lib.hid (box2 w (Obj.cells #[.string S1, .slice A n1 c, .string S3, .slice A2 n3 c2, .bool p1, .bool p3, .int .i64 i1, .int .i64 i3] 78) (Obj.cells #[.string S2, .slice B n2 d, .string S4, .slice B2 n4 d2, .bool p2, .bool p4, .int .i64 i2, .int .i64 i4] 78)).2
 cases b0 with
 | false =>
  go_enter Tryz.func35, Tryz.ntmps35
  go_wp2
  go_ret
  exact ⟨by rw [HV.out]; rfl, HB0.out⟩
 | true =>
  cases b1 with
  | false =>
   go_enter Tryz.func35, Tryz.ntmps35
   go_wp2_with fail
   refine (K1.out _ HB0.out).mono ?_
   rintro e w2 ⟨rfl, hB2⟩
   have HB2 := Lib.hid (below_then HB0.out hB2)
   have HX2 := Lib.hid (box2_kept HX0.out hB2)
   clear hB2
   go_wp2
   go_ret
   exact ⟨by rw [HV.out]; rfl, HB2.out⟩
  | true =>
   cases b2 with
   | false =>
    go_enter Tryz.func35, Tryz.ntmps35
    go_wp2_with fail
    refine (K1.out _ HB0.out).mono ?_
    rintro e w2 ⟨rfl, hB2⟩
    have HB2 := Lib.hid (below_then HB0.out hB2)
    have HX2 := Lib.hid (box2_kept HX0.out hB2)
    clear hB2
    have x4 := obj_cell HX2.out.1 4 _ rfl
    have y4 := obj_cell HX2.out.2 4 _ rfl
    go_wp2
    go_ret
    exact ⟨by rw [HV.out]; rfl, HB2.out⟩
   | true =>
    cases b3 with
    | false =>
     go_enter Tryz.func35, Tryz.ntmps35
     go_wp2_with fail
     refine (K1.out _ HB0.out).mono ?_
     rintro e w2 ⟨rfl, hB2⟩
     have HB2 := Lib.hid (below_then HB0.out hB2)
     have HX2 := Lib.hid (box2_kept HX0.out hB2)
     clear hB2
     have x4 := obj_cell HX2.out.1 4 _ rfl
     have y4 := obj_cell HX2.out.2 4 _ rfl
     have x5 := obj_cell HX2.out.1 5 _ rfl
     have y5 := obj_cell HX2.out.2 5 _ rfl
     go_wp2
     go_ret
     exact ⟨by rw [HV.out]; rfl, HB2.out⟩
    | true =>
     cases b4 with
     | false =>
      go_enter Tryz.func35, Tryz.ntmps35
      go_wp2_with fail
      refine (K1.out _ HB0.out).mono ?_
      rintro e w2 ⟨rfl, hB2⟩
      have HB2 := Lib.hid (below_then HB0.out hB2)
      have HX2 := Lib.hid (box2_kept HX0.out hB2)
      clear hB2
      have x4 := obj_cell HX2.out.1 4 _ rfl
      have y4 := obj_cell HX2.out.2 4 _ rfl
      have x5 := obj_cell HX2.out.1 5 _ rfl
      have y5 := obj_cell HX2.out.2 5 _ rfl
      have x6 := obj_cell HX2.out.1 6 _ rfl
      have y6 := obj_cell HX2.out.2 6 _ rfl
      go_wp2
      go_ret
      exact ⟨by rw [HV.out]; rfl, HB2.out⟩
     | true =>
      cases b5 with
      | false =>
       go_enter Tryz.func35, Tryz.ntmps35
       go_wp2_with fail
       refine (K1.out _ HB0.out).mono ?_
       rintro e w2 ⟨rfl, hB2⟩
       have HB2 := Lib.hid (below_then HB0.out hB2)
       have HX2 := Lib.hid (box2_kept HX0.out hB2)
       clear hB2
       have x4 := obj_cell HX2.out.1 4 _ rfl
       have y4 := obj_cell HX2.out.2 4 _ rfl
       have x5 := obj_cell HX2.out.1 5 _ rfl
       have y5 := obj_cell HX2.out.2 5 _ rfl
       have x6 := obj_cell HX2.out.1 6 _ rfl
       have y6 := obj_cell HX2.out.2 6 _ rfl
       have x7 := obj_cell HX2.out.1 7 _ rfl
       have y7 := obj_cell HX2.out.2 7 _ rfl
       go_wp2
       go_ret
       exact ⟨by rw [HV.out]; rfl, HB2.out⟩
      | true =>
       go_enter Tryz.func35, Tryz.ntmps35
       go_wp2_with fail
       refine (K1.out _ HB0.out).mono ?_
       rintro e w2 ⟨rfl, hB2⟩
       have HB2 := Lib.hid (below_then HB0.out hB2)
       have HX2 := Lib.hid (box2_kept HX0.out hB2)
       clear hB2
       have x4 := obj_cell HX2.out.1 4 _ rfl
       have y4 := obj_cell HX2.out.2 4 _ rfl
       have x5 := obj_cell HX2.out.1 5 _ rfl
       have y5 := obj_cell HX2.out.2 5 _ rfl
       have x6 := obj_cell HX2.out.1 6 _ rfl
       have y6 := obj_cell HX2.out.2 6 _ rfl
       have x7 := obj_cell HX2.out.1 7 _ rfl
       have y7 := obj_cell HX2.out.2 7 _ rfl
       go_wp2
       go_ret
       exact ⟨by rw [HV.out]; rfl, HB2.out⟩
open Go.RowKit
open Pl (Bs)
theorem ItemsC.at {w : World} {T : Nat → Prop} : ∀ {l : List ItemP} {cs : List Value}, ItemsC w T l cs → ∀ (k : Nat) (x : ItemP), l[k]? = some x → ∃ vp vn, SpecAt w T vp vn x.spec ∧ ∀ j, j < 8 → cs[k * 8 + j]? = (itemC vp vn x)[j]?
 | _, _, .nil, k, x, h => by simp at h
 | _, _, .cons (x := y) (vp := vp) (vn := vn) (l := l) (cs := cs) h1 h2, 0, x, h => by
  obtain rfl : y = x := by simpa using h
  refine ⟨vp, vn, h1, fun j hj => ?_⟩
  rw [Nat.zero_mul, Nat.zero_add, List.getElem?_append_left (by simpa [itemC] using hj)]
 | _, _, .cons (x := y) (vp := vp) (vn := vn) (l := l) (cs := cs) h1 h2, k + 1, x, h => by
  obtain ⟨vp', vn', g1, g2⟩ := h2.at k x (by simpa using h)
  refine ⟨vp', vn', g1, fun j hj => ?_⟩
  rw [← g2 j hj, List.getElem?_append_right (by simp [itemC]; omega)]
  congr 1
  simp [itemC]; omega
abbrev sameItemsP : List ItemP → List ItemP → Bool := sameL sameItemP
def itemFn : Value := .func (.func 35) #[] #[]
theorem eqItems_ne (A B : Option Addr) (n m c d : Nat) (v : Value) (w : World) (h : n ≠ m) :
  Calls Tryz.prog 34 #[.slice A n c, .slice B m d, v] w fun e w' => e = .returned (.bool false) ∧ w = w' := by
 have hh : ((n : Int) != (m : Int)) = true := by rw [bne_iff_ne]; omega
 go_enter Tryz.func34, Tryz.ntmps34
 go_wp2
 go_ret
 exact ⟨rfl, rfl⟩
abbrev itemO (vp vn : Value) (x : ItemP) : Obj := Obj.cells #[.string (str x.name), vp, .string (str x.spec.what), vn, .bool x.peek, .bool x.part, .int .i64 x.frm, .int .i64 x.cnt] 78
theorem eqItems_walk (A B : Option Addr) (c d : Nat) (l m : List ItemP) (cs cs' : List Value) (T T' : Nat → Prop) (w : World) (hl : l.length ≤ 1000000000) (hf : ∀ x ∈ l, SpecFit x.spec) (hf' : ∀ x ∈ m, SpecFit x.spec) (hT : ∀ i, T i → i < w.heap.size) (hT' : ∀ i, T' i → i < w.heap.size)
  (hR : RowC w T (.slice A l.length c) l.length cs) (hI : ItemsC w T l cs) (hR' : RowC w T' (.slice B m.length d) m.length cs') (hI' : ItemsC w T' m cs') :
  Calls Tryz.prog 34 #[.slice A l.length c, .slice B m.length d, itemFn] w fun e w' => e = .returned (.bool (sameItemsP l m)) ∧ Below w.heap.size w w' := by
 by_cases hlm : l.length = m.length
 ·
  obtain ⟨n, hn⟩ : ∃ n, l.length = n := ⟨_, rfl⟩
  have hh : ((n : Int) != (n : Int)) = false := by simp
  rw [← hlm, hn]
  by_cases h0 : n = 0
  ·
   have HV := Lib.hid (show sameItemsP l m = true from sameL_all hlm (fun j x y h1 h2 => by have := (List.getElem?_eq_some_iff.1 h1).1; omega))
   subst h0
   clear hR hI hR' hI' hf hf' hT hT' hlm hn hl
   rw [itemFn]
   go_enter Tryz.func34, Tryz.ntmps34
   go_wp2
   refine wp_loop_rounds 1 ?_
   rw [rounds_succ]
   go_wp2
   go_ret
   exact ⟨by rw [HV.out]; rfl, Below.refl _ _⟩
  ·
   obtain ⟨b1, rfl, t1, h1⟩ := hR.parts (by omega)
   obtain ⟨b2, rfl, t2, h2⟩ := hR'.parts (by omega)
   have lt1 := hT b1 t1
   have lt2 := hT' b2 t2
   have CX := Lib.hid (fun k (hk : k < n) (wr : World) (hB : Below w.heap.size w wr) => show ∃ x vp vn, l[k]? = some x ∧ SpecFit x.spec ∧ SpecAt wr T vp vn x.spec ∧ ∀ j v, j < 8 → (itemC vp vn x)[j]? = some v → wr.cell? ⟨b1, k * 8 + j, none⟩ = some v by
    have hk' : k < l.length := by omega
    obtain ⟨vp, vn, g1, g2⟩ := hI.at k l[k] (List.getElem?_eq_getElem hk')
    exact ⟨l[k], vp, vn, List.getElem?_eq_getElem hk', hf _ (List.getElem_mem hk'), g1.kept (fun i hi => hB.block i (hT i hi)), fun j v hj hv => (World.cell?_of_block (hB.block b1 lt1)).trans (h1 _ v (by rw [g2 j hj]; exact hv))⟩)
   have CY := Lib.hid (fun k (hk : k < n) (wr : World) (hB : Below w.heap.size w wr) => show ∃ x vp vn, m[k]? = some x ∧ SpecFit x.spec ∧ SpecAt wr T' vp vn x.spec ∧ ∀ j v, j < 8 → (itemC vp vn x)[j]? = some v → wr.cell? ⟨b2, k * 8 + j, none⟩ = some v by
    have hk' : k < m.length := by omega
    obtain ⟨vp, vn, g1, g2⟩ := hI'.at k m[k] (List.getElem?_eq_getElem hk')
    exact ⟨m[k], vp, vn, List.getElem?_eq_getElem hk', hf' _ (List.getElem_mem hk'), g1.kept (fun i hi => hB.block i (hT' i hi)), fun j v hj hv => (World.cell?_of_block (hB.block b2 lt2)).trans (h2 _ v (by rw [g2 j hj]; exact hv))⟩)
   have HL := Lib.hid (show l.length = n ∧ m.length = n from ⟨hn, by omega⟩)
   have HT := Lib.hid hT
   have HT' := Lib.hid hT'
   have hn' : n ≤ 1000000000 := by omega
   clear hR hI hR' hI' hf hf' hT hT' hlm hn hl h1 h2
   rw [itemFn]
   go_enter Tryz.func34, Tryz.ntmps34
   go_wp2
   go_loopw [17] (fun i wr => ∃ k : Nat, k ≤ n ∧ i = .int .i64 k ∧ Hid (∀ j x y, j < k → l[j]? = some x → m[j]? = some y → sameItemP x y = true) ∧ Hid (Below w.heap.size w wr)) (fun i _ => n - (intOf i).toNat)
   case atStart => exact ⟨0, Nat.zero_le _, rfl, Lib.hid (fun j x y hj => absurd hj (Nat.not_lt_zero _)), Lib.hid (Below.refl _ _)⟩
   case round =>
    obtain ⟨k, hk, rfl, HA, HB⟩ := hrel
    by_cases hkn : k < n
    ·
     obtain ⟨x, vp, vn, hx, fx, sx, cx⟩ := CX.out k hkn wr HB.out
     obtain ⟨y, vp', vn', hy, fy, sy, cy⟩ := CY.out k hkn wr HB.out
     have hz := HB.out.size
     have x0 := cx 0 _ (by decide) rfl
     have x1 := cx 1 _ (by decide) rfl
     have x2 := cx 2 _ (by decide) rfl
     have x3 := cx 3 _ (by decide) rfl
     have x4 := cx 4 _ (by decide) rfl
     have x5 := cx 5 _ (by decide) rfl
     have x6 := cx 6 _ (by decide) rfl
     have x7 := cx 7 _ (by decide) rfl
     have y0 := cy 0 _ (by decide) rfl
     have y1 := cy 1 _ (by decide) rfl
     have y2 := cy 2 _ (by decide) rfl
     have y3 := cy 3 _ (by decide) rfl
     have y4 := cy 4 _ (by decide) rfl
     have y5 := cy 5 _ (by decide) rfl
     have y6 := cy 6 _ (by decide) rfl
     have y7 := cy 7 _ (by decide) rfl
     rw [Nat.add_zero] at x0 y0
     have l1 : b1 < wr.heap.size := by omega
     have l2 : b2 < wr.heap.size := by omega
     have HB2 := Lib.hid (box2 wr (itemO vp vn x) (itemO vp' vn' y)).2
     have K := Lib.hid (sameItem_walk x y fx fy T T' vp vn vp' vn' ((wr.alloc (itemO vp vn x)).alloc (itemO vp' vn' y)) (fun i hi => Nat.lt_of_lt_of_le (Nat.lt_of_lt_of_le (HT.out i hi) hz) HB2.out.size) (fun i hi => Nat.lt_of_lt_of_le (Nat.lt_of_lt_of_le (HT'.out i hi) hz) HB2.out.size) (sx.kept (fun i hi => HB2.out.block i (Nat.lt_of_lt_of_le (HT.out i hi) hz))) (sy.kept (fun i hi => HB2.out.block i (Nat.lt_of_lt_of_le (HT'.out i hi) hz))))
     have HX := Lib.hid (show l[k]? = some x ∧ m[k]? = some y from ⟨hx, hy⟩)
     obtain ⟨A1, c1, A2, c2, rfl, rfl, _, _⟩ := sx.open
     obtain ⟨A3, c3, A4, c4, rfl, rfl, _, _⟩ := sy.open
     clear hx hy fx fy sx sy cx cy
     cases hs : sameItemP x y with
     | true =>
      rw [hs] at K
      have HN := Lib.hid (show ∀ j x y, j < k + 1 → l[j]? = some x → m[j]? = some y → sameItemP x y = true from fun j x' y' hj h1 h2 => by
       by_cases hjk : j = k
       ·
        subst hjk
        obtain rfl := Option.some.inj (HX.out.1.symm.trans h1)
        obtain rfl := Option.some.inj (HX.out.2.symm.trans h2)
        exact hs
       ·
        exact HA.out j x' y' (by omega) h1 h2)
      clear hs
      go_wp2_with fail
      refine K.out.mono ?_
      rintro e w2 ⟨rfl, hB3⟩
      have HB3 := Lib.hid (below_then (below_then HB.out HB2.out) hB3)
      clear hB3
      go_wp2
      go_roundw
      case rel => exact ⟨k + 1, by omega, by go_num, HN, HB3⟩
      case measure => simp [intOf]; omega
     | false =>
      rw [hs] at K
      have HV := Lib.hid (show sameItemsP l m = false from sameL_not HX.out.1 HX.out.2 hs)
      clear hs
      go_wp2_with fail
      refine K.out.mono ?_
      rintro e w2 ⟨rfl, hB3⟩
      have HB3 := Lib.hid (below_then (below_then HB.out HB2.out) hB3)
      clear hB3
      go_wp2
      go_ret
      exact ⟨by rw [HV.out]; rfl, HB3.out⟩
    ·
     obtain rfl : k = n := by omega
     have HV := Lib.hid (show sameItemsP l m = true from sameL_all (by rw [HL.out.1, HL.out.2]) (fun j x y h1 h2 => HA.out j x y (by have := (List.getElem?_eq_some_iff.1 h1).1; have := HL.out.1; omega) h1 h2))
     go_wp2
     go_ret
     exact ⟨by rw [HV.out]; rfl, HB.out⟩
 ·
  refine (eqItems_ne A B _ _ c d _ w hlm).mono ?_
  rintro e w' ⟨rfl, rfl⟩
  exact ⟨congrArg (fun b => Ending.returned (.bool b)) (sameL_len hlm).symm, Below.refl _ _⟩
end Go.Proofs.YtgmfhldfdnnafaaGreatDoor
