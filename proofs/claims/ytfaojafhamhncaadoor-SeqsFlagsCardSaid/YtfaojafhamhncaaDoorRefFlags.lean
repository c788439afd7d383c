/- The walks of the document's name and Flags (printed by wip/bin/genrefflags.py). -/
import Derived.Test.YtfaojafhamhncaaDoorRefSmall
import Derived.Test.YtfaojafhamhncaaDoorFlags
import Derived.Test.YtfaojafhamhncaaDoorRefSet
namespace Go.Proofs.YtfaojafhamhncaaDoor
open Go.RowKit
open Pl (Bs splitB)
set_option linter.unusedSimpArgs false
set_option linter.unusedVariables false
theorem five_cells {W w1 : World} {t : TypeId} {a b c d e : Value} (h : W.alloc (Obj.cells #[a, b, c, d, e] t) = w1) :
    w1.cell? ⟨W.heap.size, 0, none⟩ = some a ∧ w1.cell? ⟨W.heap.size, 1, none⟩ = some b ∧ w1.cell? ⟨W.heap.size, 2, none⟩ = some c ∧ w1.cell? ⟨W.heap.size, 3, none⟩ = some d ∧ w1.cell? ⟨W.heap.size, 4, none⟩ = some e := by
  have hP : w1.heap[W.heap.size]? = some (Obj.cells #[a, b, c, d, e] t) := by rw [← h]; exact World.alloc_heap_new W _
  refine ⟨?_, ?_, ?_, ?_, ?_⟩ <;> simp [World.cell?, hP]
set_option maxHeartbeats 2000000 in
set_option maxRecDepth 100000 in
theorem refName_walk (k : Nat) (hk : k < 5) (w : World) : Calls Tryd.prog 40 #[.int .i64 k] w fun e w' => e = .returned (.string (nameS k)) ∧ Below w.heap.size w w' := by
  have hB := (Below.refl w.heap.size w).alloc (Nat.le_refl _) (Obj.cells #[.string (nameS 0), .string (nameS 1), .string (nameS 2), .string (nameS 3), .string (nameS 4)] 9)
  generalize hw : w.alloc (Obj.cells #[.string (nameS 0), .string (nameS 1), .string (nameS 2), .string (nameS 3), .string (nameS 4)] 9) = w1 at hB
  obtain ⟨c0, c1, c2, c3, c4⟩ := five_cells hw
  simp only [nameS] at hw
  have HB := Lib.hid hB
  clear hB
  have h : k = 0 ∨ k = 1 ∨ k = 2 ∨ k = 3 ∨ k = 4 := by omega
  rcases h with rfl | rfl | rfl | rfl | rfl
  all_goals
    go_enter Tryd.func40, Tryd.ntmps40
    go_wp2
    go_ret
    exact ⟨rfl, HB.out⟩
theorem knownK_none {l : Bs} {k : Nat} (hk : k < 5) (h : eqw l k = true) : knownK l k = 0 := by
  have key : ∀ j, j ≤ k → knownK l j = 0 := by
    intro j
    induction j with
    | zero => intro _; rfl
    | succ j ih =>
      intro hj
      rw [knownK, if_neg (fun e => by have := eqw_one (i := j) (j := k) (by omega) hk e h; omega)]
      exact ih (by omega)
  exact key k (Nat.le_refl k)
/-- the flags behind k names -/
def accK (f : Int) (l : Bs) (k : Nat) : Int := if (knownK l k == 0) = true then f else bits .or .i64 f (knownK l k)
theorem accK_hit {f : Int} {l : Bs} {k : Nat} (hk : k < 5) (h : eqw l k = true) : accK f l k = f ∧ accK f l (k + 1) = bits .or .i64 f (2 ^ k) ∧ (!(knownK l (k + 1) == 0)) = true := by
  have e1 := knownK_none hk h
  have e2 : knownK l (k + 1) = 2 ^ k := by rw [knownK, if_pos h]
  have hp : ((2 : Int) ^ k == 0) = false := by
    have : k = 0 ∨ k = 1 ∨ k = 2 ∨ k = 3 ∨ k = 4 := by omega
    rcases this with rfl | rfl | rfl | rfl | rfl <;> decide
  refine ⟨by rw [accK, e1]; rfl, by rw [accK, e2, hp]; rfl, by rw [e2, hp]; rfl⟩
theorem accK_miss {f : Int} {l : Bs} {k : Nat} (h : eqw l k = false) : accK f l (k + 1) = accK f l k ∧ (!(knownK l (k + 1) == 0)) = (!(knownK l k == 0)) := by
  have e : knownK l (k + 1) = knownK l k := by rw [knownK, if_neg (by rw [h]; decide)]
  exact ⟨by rw [accK, e]; rfl, by rw [e]⟩
theorem small_same (p : ByteArray) (k : Nat) : ((smallS p).toList == (smallS (nameS k)).toList) = eqw (bs p) k := by
  rw [Lib.toList_data, Lib.toList_data, show (smallS p).data.toList = (bs p).map smallB from bs_small p, show (smallS (nameS k)).data.toList = (bs (nameS k)).map smallB from bs_small _]
  rw [Bool.eq_iff_iff, beq_iff_eq, eqw, decide_eq_true_iff]
/-- between brackets? -/
theorem brack_raw (s : ByteArray) (h : 2 ≤ s.size) : brackF s = ((s[0]'(by omega)) == 40 && (s[s.size - 1]'(by omega)) == 41) := by
  have hl : (bs s).length = s.size := bs_size s
  have h0 : (bs s)[0]'(by omega) = s[0]'(by omega) := bs_at s 0 (by omega)
  have h1 : (bs s)[s.size - 1]'(by omega) = s[s.size - 1]'(by omega) := bs_at s (s.size - 1) (by omega)
  have hh : (bs s).head? = some (s[0]'(by omega)) := by rw [List.head?_eq_getElem?, List.getElem?_eq_getElem (by omega), h0]
  rw [brackF, sufF, bs_preR]
  by_cases e0 : s[0]'(by omega) = 40
  · have ep : preF 40 s = true := by rw [preF, hh, e0]; rfl
    rw [ep, if_pos rfl]
    have hd : ((bs s).drop 1).getLast? = some (s[s.size - 1]'(by omega)) := by
      rw [List.getLast?_eq_getElem?, List.length_drop, List.getElem?_drop, hl, show 1 + (s.size - 1 - 1) = s.size - 1 by omega, List.getElem?_eq_getElem (by omega), h1]
    rw [hd, e0, Bool.eq_iff_iff]; simp
  · have ep : preF 40 s = false := by rw [preF, hh]; simp [e0]
    rw [ep, Bool.false_and, Bool.eq_iff_iff]; simp [e0]
theorem brack_short (s : ByteArray) (h : s.size < 2) : brackF s = false := by
  cases e : brackF s with
  | false => rfl
  | true =>
    rw [brackF, Bool.and_eq_true] at e
    obtain ⟨e1, e2⟩ := e
    have hp := sufF_pos e2
    rw [← bs_size, bs_preR, if_pos e1, List.length_drop, bs_size] at hp
    omega
theorem inner_raw (s : ByteArray) (h : 2 ≤ s.size) (hb : brackF s = true) : bs (s.extract 1 (s.size - 1)) = bs (innerS s) := by
  rw [brackF, Bool.and_eq_true] at hb
  rw [innerS, bs_sufL, if_pos hb.2, bs_preR, if_pos hb.1, bs_cutout, List.dropLast_eq_take, List.length_drop, bs_size, List.drop_take, show s.size - 1 - 1 = s.size - 1 - 1 from rfl]
theorem isEmptyB (s : ByteArray) : s.toList.isEmpty = (bs s).isEmpty := by rw [Lib.toList_data]
theorem wordsOk_bad {ys : List ByteArray} {l : Bs} (hy : ys.map bs = splitB 32 l) {i : Nat} (hi : i < ys.length) (h : (knownK (bs ys[i]) 5 == 0) = true) : wordsOk (splitB 32 l) = false := by
  cases e : wordsOk (splitB 32 l) with
  | false => rfl
  | true =>
    rw [wordsOk, ← hy] at e
    have := List.all_eq_true.1 e (bs ys[i]) (List.mem_map.2 ⟨ys[i], List.getElem_mem hi, rfl⟩)
    rw [h] at this; cases this
set_option maxHeartbeats 8000000 in
set_option maxRecDepth 100000 in
theorem refFlags_walk (s : ByteArray) (hs : s.size ≤ 1000000) (w : World) :
    Calls Tryd.prog 21 #[.string s] w fun e w' => e = .returned (.tuple #[.int .i64 (flagsI s), .bool (flagsOk s)]) ∧ Below w.heap.size w w' := by
  by_cases h2 : s.size < 2
  · have hk : flagsOk s = false := by rw [flagsOk, brack_short s h2]; rfl
    have HV := Lib.hid (show flagsI s = 0 ∧ flagsOk s = false from ⟨by rw [flagsI, hk]; rfl, hk⟩)
    clear hk
    go_enter Tryd.func21, Tryd.ntmps21
    go_wp2
    go_ret2
    exact ⟨by rw [HV.out.1, HV.out.2]; rfl, Below.refl _ _⟩
  · have hbr := brack_raw s (by omega)
    have n1 : ((s.size : Int) - 1).toNat = s.size - 1 := by omega
    have g0 : 2 ≤ (s.size : Int) := by omega
    by_cases e0 : (s[0]'(by omega)) = 40
    · by_cases e1 : (s[s.size - 1]'(by omega)) = 41
      · have hbk : brackF s = true := by rw [hbr, e0, e1]; rfl
        have hin := inner_raw s (by omega) hbk
        have t0 : (((s[0]'(by omega)).toNat : Int) != 40) = false := by rw [e0]; rfl
        have t1 : (((s[s.size - 1]'(by omega)).toNat : Int) != 41) = false := by rw [e1]; rfl
        by_cases h3 : s.size = 2
        · have hie : (innerS s).toList.isEmpty = true := by
            rw [isEmptyB, List.isEmpty_iff, ← hin, bs_cutout, h3]
            simp
          have hk : flagsOk s = true := by rw [flagsOk, hbk, hie]; rfl
          have HV := Lib.hid (show flagsI s = 0 ∧ flagsOk s = true from ⟨by rw [flagsI, hk, hie]; rfl, hk⟩)
          clear hk hie hin hbk hbr e0 e1
          simp only [h3, Nat.reduceSub] at t1
          go_enter Tryd.func21, Tryd.ntmps21
          go_wp2
          go_ret2
          exact ⟨by rw [HV.out.1, HV.out.2]; rfl, Below.refl _ _⟩
        · have hie : (innerS s).toList.isEmpty = false := by
            rw [isEmptyB, ← hin, bs_cutout]
            have hl : (bs s).length = s.size := bs_size s
            cases e : ((bs s).take (s.size - 1)).drop 1 with
            | nil => rw [List.drop_eq_nil_iff, List.length_take] at e; omega
            | cons => rfl
          have zi : (s.extract 1 (s.size - 1)).size ≤ s.size := by rw [ByteArray.size_extract]; omega
          have HF1 := Lib.hid (show flagsOk s = wordsOk (splitB 32 (bs (innerS s))) by rw [flagsOk, hbk, hie]; rfl)
          have HF2 := Lib.hid (show flagsOk s = true → flagsI s = wordsI (splitB 32 (bs (innerS s))) from fun h => by rw [flagsI, h, hie]; rfl)
          have HF3 := Lib.hid (show flagsOk s = false → flagsI s = 0 from fun h => by rw [flagsI, h]; rfl)
          have HIN := Lib.hid hin
          clear hie hin hbk hbr e0 e1
          generalize hE : s.extract 1 (s.size - 1) = E at *
          go_enter Tryd.func21, Tryd.ntmps21
          go_wp2_with fail
          refine (refCut_walk E 32 w (by omega)).mono ?_
          rintro e w1 ⟨v, ys, rfl, hy, hP, hB1⟩
          rw [HIN.out] at hy
          obtain ⟨_, A, c, rfl, hc, hcells⟩ := own_strings hP
          have hsz : ∀ y ∈ ys, y.size ≤ E.size := fun y hm => by
            have := Pl.split_small 32 (bs (innerS s)) (bs y) (by rw [← hy]; exact List.mem_map.2 ⟨y, hm, rfl⟩)
            rw [← HIN.out, bs_size, bs_size] at this; exact this
          have hln : ys.length ≤ E.size + 1 := by have := Pl.split_few 32 (bs (innerS s)); rw [← hy, List.length_map, ← HIN.out, bs_size] at this; exact this
          have HY := Lib.hid hy
          have HSZ := Lib.hid hsz
          have HP := Lib.hid hP
          have HB1 := Lib.hid hB1
          clear hy hsz hP hB1 hcells
          go_wp2
          go_loopw [4, 35] (fun fv x wr => ∃ i : Nat, i ≤ ys.length ∧ x = .int .i64 i ∧ fv = .int .i64 (wordsI ((ys.take i).map bs)) ∧ Hid (wordsOk ((ys.take i).map bs) = true) ∧ Hid (wr.ownsRow w.heap.size 9 1 (.slice A ys.length c) ys.length (ys.map Value.string)) ∧ Hid (Below w.heap.size w wr)) (fun _ x _ => ys.length - (intOf x).toNat)
          case atStart => exact ⟨0, Nat.zero_le _, rfl, rfl, Lib.hid rfl, HP, HB1⟩
          case round =>
            obtain ⟨i, hi, rfl, rfl, HK, HQ, HB⟩ := hrel
            by_cases hin : i < ys.length
            · obtain ⟨_, A', c', e', _, hcells⟩ := own_strings HQ.out
              obtain ⟨g, rfl, hg, hg0, hx⟩ := hcells (by omega)
              obtain ⟨rfl, _, rfl⟩ : A = some ⟨g, 0, none⟩ ∧ True ∧ c = c' := by cases e'; exact ⟨rfl, trivial, rfl⟩
              have cx := hx i ys[i] (List.getElem?_eq_getElem hin)
              rw [Nat.zero_add] at cx
              have hps := HSZ.out ys[i] (List.getElem_mem hin)
              have HBad := Lib.hid (wordsOk_bad HY.out hin)
              have htk : (ys.take (i + 1)).map bs = (ys.take i).map bs ++ [bs ys[i]] := by rw [List.take_succ_eq_append_getElem hin, List.map_append]; rfl
              have HW1 := Lib.hid (show wordsOk ((ys.take (i + 1)).map bs) = (wordsOk ((ys.take i).map bs) && !(knownK (bs ys[i]) 5 == 0)) by rw [htk]; simp [wordsOk])
              have HW2 := Lib.hid (show wordsI ((ys.take (i + 1)).map bs) = bits .or .i64 (wordsI ((ys.take i).map bs)) (knownK (bs ys[i]) 5) by rw [htk, wordsI_snoc])
              clear hx hcells e' htk
              generalize wordsI ((ys.take i).map bs) = f0 at *
              generalize ys[i] = p at *
              have KS := Lib.hid (fun W => refSmall_walk p (by omega) W)
              go_wp2
              go_loopw [4, 7, 8] (fun fv kn x W => ∃ k : Nat, k ≤ 5 ∧ x = .int .i64 k ∧ fv = .int .i64 (accK f0 (bs p) k) ∧ kn = .bool (!(knownK (bs p) k == 0)) ∧ Hid (Below wr.heap.size wr W)) (fun _ _ x _ => 5 - (intOf x).toNat)
              case atStart => exact ⟨0, by omega, rfl, rfl, rfl, Lib.hid (Below.refl _ _)⟩
              case round =>
                obtain ⟨k, hk, rfl, rfl, rfl, HBk⟩ := hrel
                have hk' : k = 0 ∨ k = 1 ∨ k = 2 ∨ k = 3 ∨ k = 4 ∨ k = 5 := by omega
                rcases hk' with rfl | rfl | rfl | rfl | rfl | rfl
                · have KN := fun W => refName_walk 0 (by decide) W
                  have KM := Lib.hid (fun W => refSmall_walk (nameS 0) (by decide) W)
                  have hsm := small_same p 0
                  cases he : eqw (bs p) 0 with
                  | true =>
                    obtain ⟨a1, a2, a3⟩ := accK_hit (f := f0) (k := 0) (by decide) he
                    have HA2 := Lib.hid (show accK f0 (bs p) (0 + 1) = bits .or .i64 (accK f0 (bs p) 0) (wrap64 (2 ^ ((0 : Nat) : Int).toNat)) by rw [a1, a2, show wrap64 (2 ^ ((0 : Nat) : Int).toNat) = 2 ^ 0 by decide +kernel])
                    have HA3 := Lib.hid a3
                    rw [he] at hsm
                    clear a1 a2 a3 he
                    generalize accK f0 (bs p) 0 = FA at *
                    generalize hkb : (!(knownK (bs p) 0 == 0)) = kb at *
                    generalize hki : ((0 : Nat) : Int) = ki at *
                    have KN := Lib.hid KN
                    go_wp2_with fail
                    refine (KS.out _).mono ?_
                    rintro e W1 ⟨rfl, hb1⟩
                    have HBa := Lib.hid (below_then HBk.out hb1)
                    clear hb1
                    go_wp2_with fail
                    refine (KN.out _).mono ?_
                    rintro e W2 ⟨rfl, hb2⟩
                    have HBb := Lib.hid (below_then HBa.out hb2)
                    clear hb2
                    go_wp2_with fail
                    refine (KM.out _).mono ?_
                    rintro e W3 ⟨rfl, hb3⟩
                    have HBc := Lib.hid (below_then HBb.out hb3)
                    clear hb3
                    go_wp2
                    go_roundw
                    case rel => exact ⟨1, by omega, by go_num, by rw [HA2.out], by rw [HA3.out], HBc⟩
                    case measure => subst hki; simp [intOf]
                  | false =>
                    obtain ⟨a1, a2⟩ := accK_miss (f := f0) he
                    have HA1 := Lib.hid a1
                    have HA2 := Lib.hid a2
                    rw [he] at hsm
                    clear a1 a2 he
                    generalize accK f0 (bs p) 0 = FA at *
                    generalize hkb : (!(knownK (bs p) 0 == 0)) = kb at *
                    generalize hki : ((0 : Nat) : Int) = ki at *
                    have KN := Lib.hid KN
                    go_wp2_with fail
                    refine (KS.out _).mono ?_
                    rintro e W1 ⟨rfl, hb1⟩
                    have HBa := Lib.hid (below_then HBk.out hb1)
                    clear hb1
                    go_wp2_with fail
                    refine (KN.out _).mono ?_
                    rintro e W2 ⟨rfl, hb2⟩
                    have HBb := Lib.hid (below_then HBa.out hb2)
                    clear hb2
                    go_wp2_with fail
                    refine (KM.out _).mono ?_
                    rintro e W3 ⟨rfl, hb3⟩
                    have HBc := Lib.hid (below_then HBb.out hb3)
                    clear hb3
                    go_wp2
                    go_roundw
                    case rel => exact ⟨1, by omega, by go_num, by rw [HA1.out], by rw [HA2.out], HBc⟩
                    case measure => subst hki; simp [intOf]
                · have KN := fun W => refName_walk 1 (by decide) W
                  have KM := Lib.hid (fun W => refSmall_walk (nameS 1) (by decide) W)
                  have hsm := small_same p 1
                  cases he : eqw (bs p) 1 with
                  | true =>
                    obtain ⟨a1, a2, a3⟩ := accK_hit (f := f0) (k := 1) (by decide) he
                    have HA2 := Lib.hid (show accK f0 (bs p) (1 + 1) = bits .or .i64 (accK f0 (bs p) 1) (wrap64 (2 ^ ((1 : Nat) : Int).toNat)) by rw [a1, a2, show wrap64 (2 ^ ((1 : Nat) : Int).toNat) = 2 ^ 1 by decide +kernel])
                    have HA3 := Lib.hid a3
                    rw [he] at hsm
                    clear a1 a2 a3 he
                    generalize accK f0 (bs p) 1 = FA at *
                    generalize hkb : (!(knownK (bs p) 1 == 0)) = kb at *
                    generalize hki : ((1 : Nat) : Int) = ki at *
                    have KN := Lib.hid KN
                    go_wp2_with fail
                    refine (KS.out _).mono ?_
                    rintro e W1 ⟨rfl, hb1⟩
                    have HBa := Lib.hid (below_then HBk.out hb1)
                    clear hb1
                    go_wp2_with fail
                    refine (KN.out _).mono ?_
                    rintro e W2 ⟨rfl, hb2⟩
                    have HBb := Lib.hid (below_then HBa.out hb2)
                    clear hb2
                    go_wp2_with fail
                    refine (KM.out _).mono ?_
                    rintro e W3 ⟨rfl, hb3⟩
                    have HBc := Lib.hid (below_then HBb.out hb3)
                    clear hb3
                    go_wp2
                    go_roundw
                    case rel => exact ⟨2, by omega, by go_num, by rw [HA2.out], by rw [HA3.out], HBc⟩
                    case measure => subst hki; simp [intOf]
                  | false =>
                    obtain ⟨a1, a2⟩ := accK_miss (f := f0) he
                    have HA1 := Lib.hid a1
                    have HA2 := Lib.hid a2
                    rw [he] at hsm
                    clear a1 a2 he
                    generalize accK f0 (bs p) 1 = FA at *
                    generalize hkb : (!(knownK (bs p) 1 == 0)) = kb at *
                    generalize hki : ((1 : Nat) : Int) = ki at *
                    have KN := Lib.hid KN
                    go_wp2_with fail
                    refine (KS.out _).mono ?_
                    rintro e W1 ⟨rfl, hb1⟩
                    have HBa := Lib.hid (below_then HBk.out hb1)
                    clear hb1
                    go_wp2_with fail
                    refine (KN.out _).mono ?_
                    rintro e W2 ⟨rfl, hb2⟩
                    have HBb := Lib.hid (below_then HBa.out hb2)
                    clear hb2
                    go_wp2_with fail
                    refine (KM.out _).mono ?_
                    rintro e W3 ⟨rfl, hb3⟩
                    have HBc := Lib.hid (below_then HBb.out hb3)
                    clear hb3
                    go_wp2
                    go_roundw
                    case rel => exact ⟨2, by omega, by go_num, by rw [HA1.out], by rw [HA2.out], HBc⟩
                    case measure => subst hki; simp [intOf]
                · have KN := fun W => refName_walk 2 (by decide) W
                  have KM := Lib.hid (fun W => refSmall_walk (nameS 2) (by decide) W)
                  have hsm := small_same p 2
                  cases he : eqw (bs p) 2 with
                  | true =>
                    obtain ⟨a1, a2, a3⟩ := accK_hit (f := f0) (k := 2) (by decide) he
                    have HA2 := Lib.hid (show accK f0 (bs p) (2 + 1) = bits .or .i64 (accK f0 (bs p) 2) (wrap64 (2 ^ ((2 : Nat) : Int).toNat)) by rw [a1, a2, show wrap64 (2 ^ ((2 : Nat) : Int).toNat) = 2 ^ 2 by decide +kernel])
                    have HA3 := Lib.hid a3
                    rw [he] at hsm
                    clear a1 a2 a3 he
                    generalize accK f0 (bs p) 2 = FA at *
                    generalize hkb : (!(knownK (bs p) 2 == 0)) = kb at *
                    generalize hki : ((2 : Nat) : Int) = ki at *
                    have KN := Lib.hid KN
                    go_wp2_with fail
                    refine (KS.out _).mono ?_
                    rintro e W1 ⟨rfl, hb1⟩
                    have HBa := Lib.hid (below_then HBk.out hb1)
                    clear hb1
                    go_wp2_with fail
                    refine (KN.out _).mono ?_
                    rintro e W2 ⟨rfl, hb2⟩
                    have HBb := Lib.hid (below_then HBa.out hb2)
                    clear hb2
                    go_wp2_with fail
                    refine (KM.out _).mono ?_
                    rintro e W3 ⟨rfl, hb3⟩
                    have HBc := Lib.hid (below_then HBb.out hb3)
                    clear hb3
                    go_wp2
                    go_roundw
                    case rel => exact ⟨3, by omega, by go_num, by rw [HA2.out], by rw [HA3.out], HBc⟩
                    case measure => subst hki; simp [intOf]
                  | false =>
                    obtain ⟨a1, a2⟩ := accK_miss (f := f0) he
                    have HA1 := Lib.hid a1
                    have HA2 := Lib.hid a2
                    rw [he] at hsm
                    clear a1 a2 he
                    generalize accK f0 (bs p) 2 = FA at *
                    generalize hkb : (!(knownK (bs p) 2 == 0)) = kb at *
                    generalize hki : ((2 : Nat) : Int) = ki at *
                    have KN := Lib.hid KN
                    go_wp2_with fail
                    refine (KS.out _).mono ?_
                    rintro e W1 ⟨rfl, hb1⟩
                    have HBa := Lib.hid (below_then HBk.out hb1)
                    clear hb1
                    go_wp2_with fail
                    refine (KN.out _).mono ?_
                    rintro e W2 ⟨rfl, hb2⟩
                    have HBb := Lib.hid (below_then HBa.out hb2)
                    clear hb2
                    go_wp2_with fail
                    refine (KM.out _).mono ?_
                    rintro e W3 ⟨rfl, hb3⟩
                    have HBc := Lib.hid (below_then HBb.out hb3)
                    clear hb3
                    go_wp2
                    go_roundw
                    case rel => exact ⟨3, by omega, by go_num, by rw [HA1.out], by rw [HA2.out], HBc⟩
                    case measure => subst hki; simp [intOf]
                · have KN := fun W => refName_walk 3 (by decide) W
                  have KM := Lib.hid (fun W => refSmall_walk (nameS 3) (by decide) W)
                  have hsm := small_same p 3
                  cases he : eqw (bs p) 3 with
                  | true =>
                    obtain ⟨a1, a2, a3⟩ := accK_hit (f := f0) (k := 3) (by decide) he
                    have HA2 := Lib.hid (show accK f0 (bs p) (3 + 1) = bits .or .i64 (accK f0 (bs p) 3) (wrap64 (2 ^ ((3 : Nat) : Int).toNat)) by rw [a1, a2, show wrap64 (2 ^ ((3 : Nat) : Int).toNat) = 2 ^ 3 by decide +kernel])
                    have HA3 := Lib.hid a3
                    rw [he] at hsm
                    clear a1 a2 a3 he
                    generalize accK f0 (bs p) 3 = FA at *
                    generalize hkb : (!(knownK (bs p) 3 == 0)) = kb at *
                    generalize hki : ((3 : Nat) : Int) = ki at *
                    have KN := Lib.hid KN
                    go_wp2_with fail
                    refine (KS.out _).mono ?_
                    rintro e W1 ⟨rfl, hb1⟩
                    have HBa := Lib.hid (below_then HBk.out hb1)
                    clear hb1
                    go_wp2_with fail
                    refine (KN.out _).mono ?_
                    rintro e W2 ⟨rfl, hb2⟩
                    have HBb := Lib.hid (below_then HBa.out hb2)
                    clear hb2
                    go_wp2_with fail
                    refine (KM.out _).mono ?_
                    rintro e W3 ⟨rfl, hb3⟩
                    have HBc := Lib.hid (below_then HBb.out hb3)
                    clear hb3
                    go_wp2
                    go_roundw
                    case rel => exact ⟨4, by omega, by go_num, by rw [HA2.out], by rw [HA3.out], HBc⟩
                    case measure => subst hki; simp [intOf]
                  | false =>
                    obtain ⟨a1, a2⟩ := accK_miss (f := f0) he
                    have HA1 := Lib.hid a1
                    have HA2 := Lib.hid a2
                    rw [he] at hsm
                    clear a1 a2 he
                    generalize accK f0 (bs p) 3 = FA at *
                    generalize hkb : (!(knownK (bs p) 3 == 0)) = kb at *
                    generalize hki : ((3 : Nat) : Int) = ki at *
                    have KN := Lib.hid KN
                    go_wp2_with fail
                    refine (KS.out _).mono ?_
                    rintro e W1 ⟨rfl, hb1⟩
                    have HBa := Lib.hid (below_then HBk.out hb1)
                    clear hb1
                    go_wp2_with fail
                    refine (KN.out _).mono ?_
                    rintro e W2 ⟨rfl, hb2⟩
                    have HBb := Lib.hid (below_then HBa.out hb2)
                    clear hb2
                    go_wp2_with fail
                    refine (KM.out _).mono ?_
                    rintro e W3 ⟨rfl, hb3⟩
                    have HBc := Lib.hid (below_then HBb.out hb3)
                    clear hb3
                    go_wp2
                    go_roundw
                    case rel => exact ⟨4, by omega, by go_num, by rw [HA1.out], by rw [HA2.out], HBc⟩
                    case measure => subst hki; simp [intOf]
                · have KN := fun W => refName_walk 4 (by decide) W
                  have KM := Lib.hid (fun W => refSmall_walk (nameS 4) (by decide) W)
                  have hsm := small_same p 4
                  cases he : eqw (bs p) 4 with
                  | true =>
                    obtain ⟨a1, a2, a3⟩ := accK_hit (f := f0) (k := 4) (by decide) he
                    have HA2 := Lib.hid (show accK f0 (bs p) (4 + 1) = bits .or .i64 (accK f0 (bs p) 4) (wrap64 (2 ^ ((4 : Nat) : Int).toNat)) by rw [a1, a2, show wrap64 (2 ^ ((4 : Nat) : Int).toNat) = 2 ^ 4 by decide +kernel])
                    have HA3 := Lib.hid a3
                    rw [he] at hsm
                    clear a1 a2 a3 he
                    generalize accK f0 (bs p) 4 = FA at *
                    generalize hkb : (!(knownK (bs p) 4 == 0)) = kb at *
                    generalize hki : ((4 : Nat) : Int) = ki at *
                    have KN := Lib.hid KN
                    go_wp2_with fail
                    refine (KS.out _).mono ?_
                    rintro e W1 ⟨rfl, hb1⟩
                    have HBa := Lib.hid (below_then HBk.out hb1)
                    clear hb1
                    go_wp2_with fail
                    refine (KN.out _).mono ?_
                    rintro e W2 ⟨rfl, hb2⟩
                    have HBb := Lib.hid (below_then HBa.out hb2)
                    clear hb2
                    go_wp2_with fail
                    refine (KM.out _).mono ?_
                    rintro e W3 ⟨rfl, hb3⟩
                    have HBc := Lib.hid (below_then HBb.out hb3)
                    clear hb3
                    go_wp2
                    go_roundw
                    case rel => exact ⟨5, by omega, by go_num, by rw [HA2.out], by rw [HA3.out], HBc⟩
                    case measure => subst hki; simp [intOf]
                  | false =>
                    obtain ⟨a1, a2⟩ := accK_miss (f := f0) he
                    have HA1 := Lib.hid a1
                    have HA2 := Lib.hid a2
                    rw [he] at hsm
                    clear a1 a2 he
                    generalize accK f0 (bs p) 4 = FA at *
                    generalize hkb : (!(knownK (bs p) 4 == 0)) = kb at *
                    generalize hki : ((4 : Nat) : Int) = ki at *
                    have KN := Lib.hid KN
                    go_wp2_with fail
                    refine (KS.out _).mono ?_
                    rintro e W1 ⟨rfl, hb1⟩
                    have HBa := Lib.hid (below_then HBk.out hb1)
                    clear hb1
                    go_wp2_with fail
                    refine (KN.out _).mono ?_
                    rintro e W2 ⟨rfl, hb2⟩
                    have HBb := Lib.hid (below_then HBa.out hb2)
                    clear hb2
                    go_wp2_with fail
                    refine (KM.out _).mono ?_
                    rintro e W3 ⟨rfl, hb3⟩
                    have HBc := Lib.hid (below_then HBb.out hb3)
                    clear hb3
                    go_wp2
                    go_roundw
                    case rel => exact ⟨5, by omega, by go_num, by rw [HA1.out], by rw [HA2.out], HBc⟩
                    case measure => subst hki; simp [intOf]
                · have HBw := Lib.hid (below_then HB.out HBk.out)
                  have HQw := Lib.hid (own_below HQ.out HBk.out)
                  cases hz : (knownK (bs p) 5 == 0) with
                  | true =>
                    have hbd := HBad.out hz
                    have hfo : flagsOk s = false := by rw [HF1.out]; exact hbd
                    have HV := Lib.hid (show flagsI s = 0 ∧ flagsOk s = false from ⟨HF3.out hfo, hfo⟩)
                    clear hbd hfo
                    generalize accK f0 (bs p) 5 = FA at *
                    go_wp2
                    go_ret2
                    exact ⟨by rw [HV.out.1, HV.out.2]; rfl, HBw.out⟩
                  | false =>
                    have HA5 := Lib.hid (show accK f0 (bs p) 5 = bits .or .i64 f0 (knownK (bs p) 5) by rw [accK, hz]; rfl)
                    have HW3 := Lib.hid (show wordsOk ((ys.take (i + 1)).map bs) = true by rw [HW1.out, HK.out, hz]; rfl)
                    generalize hFA : accK f0 (bs p) 5 = FA at *
                    go_wp2
                    go_roundw
                    case rel => exact ⟨i + 1, by omega, by go_num, by rw [HW2.out, HA5.out], HW3, HQw, HBw⟩
                    case measure => simp [intOf]; omega
            · obtain rfl : i = ys.length := by omega
              have ht : ys.take ys.length = ys := List.take_length
              have hwo := HK.out
              rw [ht] at hwo
              have hfo : flagsOk s = true := by rw [HF1.out, ← HY.out]; exact hwo
              have HV := Lib.hid (show flagsI s = wordsI ((ys.take ys.length).map bs) ∧ flagsOk s = true from ⟨by rw [HF2.out hfo, ht, HY.out], hfo⟩)
              clear hwo hfo ht
              go_wp2
              go_ret2
              exact ⟨by rw [HV.out.1, HV.out.2]; rfl, HB.out⟩
      · have hk : flagsOk s = false := by rw [flagsOk, hbr, e0]; simp [e1]
        have HV := Lib.hid (show flagsI s = 0 ∧ flagsOk s = false from ⟨by rw [flagsI, hk]; rfl, hk⟩)
        have t0 : (((s[0]'(by omega)).toNat : Int) != 40) = false := by rw [e0]; rfl
        have t1 : (((s[s.size - 1]'(by omega)).toNat : Int) != 41) = true := by
          rw [bne_iff_ne]; intro h; exact e1 (UInt8.toNat_inj.1 (by have : (41 : UInt8).toNat = 41 := rfl; omega))
        clear hk hbr e0 e1
        go_enter Tryd.func21, Tryd.ntmps21
        go_wp2
        go_ret2
        exact ⟨by rw [HV.out.1, HV.out.2]; rfl, Below.refl _ _⟩
    · have hk : flagsOk s = false := by rw [flagsOk, hbr]; simp [e0]
      have HV := Lib.hid (show flagsI s = 0 ∧ flagsOk s = false from ⟨by rw [flagsI, hk]; rfl, hk⟩)
      have t0 : (((s[0]'(by omega)).toNat : Int) != 40) = true := by
        rw [bne_iff_ne]; intro h; exact e0 (UInt8.toNat_inj.1 (by have : (40 : UInt8).toNat = 40 := rfl; omega))
      clear hk hbr e0
      go_enter Tryd.func21, Tryd.ntmps21
      go_wp2
      go_ret2
      exact ⟨by rw [HV.out.1, HV.out.2]; rfl, Below.refl _ _⟩
end Go.Proofs.YtfaojafhamhncaaDoor
