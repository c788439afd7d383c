/- The walk of RetryEnds: whatever the number is, the call answers true, and the world is as it was. -/
import Derived.Test.YtcalbpdcjklffaaDoorRetryA
import Derived.Laws.BitsLemmas
namespace Go.Proofs.YtcalbpdcjklffaaDoor
open Go.RowKit
theorem i64_and31 (n : Int) : bits .and .i64 n 2147483647 = n % 2147483648 := by
  have h1 : (BitVec.ofInt IntKind.i64.bits n).toNat = (n % 18446744073709551616).toNat := by
    simp [BitVec.toNat_ofInt, IntKind.bits]
  have h2 : (BitVec.ofInt IntKind.i64.bits 2147483647).toNat = 2147483647 := by decide
  simp only [bits, BitVec.toNat_and, h1, h2]
  have h3 : (n % 18446744073709551616).toNat &&& 2147483647 = (n % 18446744073709551616).toNat % 2147483648 := Nat.and_two_pow_sub_one_eq_mod _ 31
  rw [h3, IntKind.wrap_i64]
  omega
theorem dueI_low (t n : Int) (n0 : 0 ≤ n) (n1 : n ≤ 3000000000) : n + 60 ≤ dueI t n ∧ dueI t n ≤ n + 7200 := by
  have := waitI_bd t
  unfold dueI; omega
set_option maxHeartbeats 1000000 in
theorem ends_walk (n : Int) (w : World) (hw : Waits w) :
    Calls Tryd.prog 3 #[.int .i64 n] w fun e w' => e = .returned (.bool true) ∧ w = w' := by
  have H := Lib.hid hw
  clear hw
  have hm := i64_and31 n
  obtain ⟨m, em⟩ : ∃ m, m = n % 2147483648 := ⟨_, rfl⟩
  have m0 : 0 ≤ m := by omega
  have m1 : m ≤ 2147483647 := by omega
  rw [← em] at hm
  clear em
  have b0 := dueI_low 0 m m0 (by omega)
  have b1 := dueI_low 1 (dueI 0 m) (by omega) (by omega)
  have b2 := dueI_low 2 (dueI 1 (dueI 0 m)) (by omega) (by omega)
  have b3 := dueI_low 3 (dueI 2 (dueI 1 (dueI 0 m))) (by omega) (by omega)
  have em : mostI m = dueI 3 (dueI 2 (dueI 1 (dueI 0 m))) - m := by rw [mostI, if_pos ⟨by omega, by omega⟩]
  have EM := Lib.hid em
  clear em
  go_enter Tryd.func3, Tryd.ntmps3
  go_wp2_with (go_at_call 12; refine (alive18 _ H.out).mono ?_; rintro e w' ⟨rfl, rfl⟩)
  clear hm
  refine wp_loop_rounds 5 ?_
  rw [rounds_succ]
  go_wp2_with (go_at_call 13; refine (next_ok _ _ _ H.out (by omega) (by omega) (by omega) (by omega)).mono ?_; rintro e w' ⟨rfl, rfl⟩)
  rw [rounds_succ]
  go_wp2_with (go_at_call 13; refine (next_ok _ _ _ H.out (by omega) (by omega) (by omega) (by omega)).mono ?_; rintro e w' ⟨rfl, rfl⟩)
  rw [rounds_succ]
  go_wp2_with (go_at_call 13; refine (next_ok _ _ _ H.out (by omega) (by omega) (by omega) (by omega)).mono ?_; rintro e w' ⟨rfl, rfl⟩)
  rw [rounds_succ]
  go_wp2_with (go_at_call 13; refine (next_ok _ _ _ H.out (by omega) (by omega) (by omega) (by omega)).mono ?_; rintro e w' ⟨rfl, rfl⟩)
  rw [rounds_succ]
  go_wp2_with fail
  refine (next_end _ _ _ rfl (by omega) (by omega)).mono ?_
  rintro e w' ⟨rfl, rfl⟩
  go_wp2_with fail
  refine (most_ok _ _ H.out (by omega) (by omega)).mono ?_
  rintro e w' ⟨rfl, rfl⟩
  rw [EM.out]
  go_wp2
  go_ret
  exact ⟨rfl, rfl⟩
end Go.Proofs.YtcalbpdcjklffaaDoor
