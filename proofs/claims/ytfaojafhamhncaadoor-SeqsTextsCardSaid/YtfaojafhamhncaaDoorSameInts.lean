/- The walk of postbagnum.SameInts: whether two lists of numbers are the same. -/
import Derived.Test.YtfaojafhamhncaaDoorRows
import Derived.Test.YtfaojafhamhncaaDoorOwn
import Derived.Handy
import Derived.Lib.Hide
import Derived.Deep.QuietTactic
import Derived.BigQuiet
import Derived.WalkLawsBesides
namespace Go.Proofs.YtfaojafhamhncaaDoor
open Go.RowKit
/-- a slice that reads as a list of numbers -/
def IntsAt (w : World) (A : Option Addr) (n : Nat) (xs : List Int) : Prop :=
  xs.length = n ∧ n ≤ 9223372036854775807 ∧ (0 < n → ∃ g o, A = some ⟨g, o, none⟩ ∧ ∀ j, j < n → w.cell? ⟨g, o + j, none⟩ = some (.int .i64 (xs.getD j 0)))
theorem IntsAt.of_own {w : World} {base n : Nat} {e : TypeId} {v : Value} {xs : List Int} (h : w.ownsRow base e 1 v n (xs.map (Value.int .i64))) (hn : n ≤ 9223372036854775807) : ∃ A c, v = .slice A n c ∧ IntsAt w A n xs := by
  obtain ⟨hl, A, c, rfl, hc⟩ := own_cells h
  refine ⟨A, c, rfl, hl, hn, fun hp => ?_⟩
  obtain ⟨g, rfl, _, _, hg⟩ := hc hp
  exact ⟨g, 0, rfl, fun j hj => by rw [Nat.zero_add]; exact hg j hj⟩

def sameB (xs ys : List Int) : Bool := decide (xs = ys)
theorem same_upto {xs ys : List Int} {k : Nat} (hx : xs.length = ys.length) (hk : k = xs.length) (h : xs.take k = ys.take k) : sameB xs ys = true := by
  subst hk
  rw [List.take_length, hx, List.take_length] at h
  simp [sameB, h]
theorem same_next {xs ys : List Int} {k : Nat} (hk : k < xs.length) (hk' : k < ys.length) (h : xs.take k = ys.take k) (he : xs.getD k 0 = ys.getD k 0) : xs.take (k + 1) = ys.take (k + 1) := by
  rw [List.take_succ_eq_append_getElem hk, List.take_succ_eq_append_getElem hk', h]
  simp only [List.getD_eq_getElem?_getD, List.getElem?_eq_getElem hk, List.getElem?_eq_getElem hk', Option.getD_some] at he
  rw [he]
theorem same_not {xs ys : List Int} {k : Nat} (he : ¬ xs.getD k 0 = ys.getD k 0) : sameB xs ys = false := by
  simp only [sameB, decide_eq_false_iff_not]
  rintro rfl
  exact he rfl

set_option maxHeartbeats 400000 in
theorem same_ne (A B : Option Addr) (n m c d : Nat) (w : World) (h : n ≠ m) :
    Calls Tryd.prog 26 #[.slice A n c, .slice B m d] w fun e w' => e = .returned (.bool false) ∧ w = w' := by
  have hh : ((n : Int) != (m : Int)) = true := by rw [bne_iff_ne]; omega
  go_enter Tryd.func26, Tryd.ntmps26
  go_wp2
  go_ret
  exact ⟨rfl, rfl⟩

set_option maxHeartbeats 1000000 in
theorem same_eq (A B : Option Addr) (n c d : Nat) (xs ys : List Int) (w : World) (hx : IntsAt w A n xs) (hy : IntsAt w B n ys) :
    Calls Tryd.prog 26 #[.slice A n c, .slice B n d] w fun e w' => e = .returned (.bool (sameB xs ys)) ∧ ∃ q, w' = w.drewN q := by
  obtain ⟨lx, hn, hx⟩ := hx
  obtain ⟨ly, _, hy⟩ := hy
  have hh : ((n : Int) != (n : Int)) = false := by simp
  have LX := Lib.hid lx
  have LY := Lib.hid ly
  clear lx ly
  by_cases h0 : n = 0
  · subst h0
    have e : sameB xs ys = true := same_upto (by rw [LX.out, LY.out]) LX.out.symm rfl
    rw [e]
    clear hx hy
    go_enter Tryd.func26, Tryd.ntmps26
    go_wp2
    refine wp_loop_rounds 1 ?_
    rw [rounds_succ]
    go_wp2
    go_ret
    exact ⟨rfl, 0, rfl⟩
  · obtain ⟨g, o, rfl, cx⟩ := hx (by omega)
    obtain ⟨g', o', rfl, cy⟩ := hy (by omega)
    have CX := Lib.hid cx
    have CY := Lib.hid cy
    clear cx cy hx hy
    go_enter Tryd.func26, Tryd.ntmps26
    go_wp2
    go_loopw [13] (fun i wr => ∃ k q : Nat, k ≤ n ∧ i = .int .i64 k ∧ Hid (xs.take k = ys.take k) ∧ wr = w.drewN q) (fun i _ => n - (intOf i).toNat)
    case atStart => exact ⟨0, 0, Nat.zero_le _, rfl, Lib.hid rfl, rfl⟩
    case round =>
      obtain ⟨k, q, hk, rfl, HS, rfl⟩ := hrel
      by_cases hkn : k < n
      · have c1 := CX.out k hkn
        have c2 := CY.out k hkn
        by_cases he : xs.getD k 0 = ys.getD k 0
        · have H2 := Lib.hid (same_next (by rw [LX.out]; exact hkn) (by rw [LY.out]; exact hkn) HS.out he)
          rw [he] at c1
          clear he
          go_wp2
          go_quiet (fail)
          go_wp2
          go_roundw
          case rel => exact ⟨k + 1, _, by omega, by go_num, H2, rfl⟩
          case measure => simp [intOf]; omega
        · have e := same_not he
          have hd : (xs.getD k 0 != ys.getD k 0) = true := by rw [bne_iff_ne]; exact he
          have E := Lib.hid e
          clear e he
          generalize xs.getD k 0 = a at c1 hd
          generalize ys.getD k 0 = b at c2 hd
          go_wp2
          go_quiet (fail)
          go_wp2
          go_ret
          exact ⟨by rw [E.out]; rfl, _, World.drewN_drewN ..⟩
      · obtain rfl : k = n := by omega
        have e := same_upto (by rw [LX.out, LY.out]) LX.out.symm HS.out
        have E := Lib.hid e
        clear e
        go_wp2
        go_ret
        exact ⟨by rw [E.out]; rfl, _, rfl⟩
end Go.Proofs.YtfaojafhamhncaaDoor
