/- The walks of seqs.Apply at numbers below 32 and of the law SeqsBack. -/
import Derived.Test.YtfaojafhamhncaaDoorAlive14
namespace Go.Proofs.YtfaojafhamhncaaDoor
open Go.RowKit
set_option linter.unusedSimpArgs false
set_option linter.unusedVariables false
theorem back_flags : ∀ f : Nat, f < 32 → flagsOk (flagsTextS f) = true ∧ flagsI (flagsTextS f) = f ∧ (flagsTextS f).size ≤ 1000000 := by decide +kernel
theorem bits31 : ∀ a : Nat, a < 32 → bits .and .i64 (a : Int) 31 = a := by decide +kernel
theorem bits_back : ∀ a : Nat, a < 32 → ∀ b : Nat, b < 32 → (bits .and .i64 (bits .or .i64 (a : Int) (b : Int)) b == (b : Int)) = true ∧ (bits .andNot .i64 (bits .or .i64 (a : Int) (b : Int)) b == bits .andNot .i64 (a : Int) (b : Int)) = true := by decide +kernel
set_option maxHeartbeats 1000000 in
theorem apply_walk (f : Int) (b : Nat) (hb : b < 32) (w : World) (how : Int) (r : Int) (h : (how = 0 ∧ r = b) ∨ (how = 1 ∧ r = bits .or .i64 f b) ∨ (how = 2 ∧ r = bits .andNot .i64 f b)) :
    Calls Tryd.prog 16 #[.int .i64 f, .int .i64 how, .int .i64 b] w fun e w' => e = .returned (.int .i64 r) ∧ w = w' := by
  have e := bits31 b hb
  generalize (b : Int) = bi at *
  rcases h with ⟨rfl, rfl⟩ | ⟨rfl, rfl⟩ | ⟨rfl, rfl⟩
  · go_enter Tryd.func16, Tryd.ntmps16
    go_wp2
    go_ret
    exact ⟨rfl, rfl⟩
  · go_enter Tryd.func16, Tryd.ntmps16
    go_wp2
    go_ret
    exact ⟨rfl, rfl⟩
  · go_enter Tryd.func16, Tryd.ntmps16
    go_wp2
    go_ret
    exact ⟨rfl, rfl⟩
set_option maxHeartbeats 4000000 in
set_option maxRecDepth 100000 in
theorem seqsBack_walk (x y : Int) (v : Value) (w : World) (hc : w.cell? ⟨0, 0, none⟩ = some v) (hv : ∃ t x, v = .iface t x) :
    Calls Tryd.prog 6 #[.int .i64 x, .int .i64 y] w fun e w' => e = .returned (.bool true) ∧ Below w.heap.size w w' := by
  have HAl := Lib.hid (alive14 v w hc hv)
  obtain ⟨a, ha, e1⟩ := and31 x
  obtain ⟨b, hb, e2⟩ := and31 y
  obtain ⟨f1, f2, f3⟩ := back_flags a ha
  obtain ⟨g1, g2⟩ := bits_back a ha b hb
  have hE : flagsE (flagsTextS (a : Int)) v = .nilIface := by rw [flagsE, f1]; rfl
  have HF := Lib.hid (fun W hc => flags_walk (flagsTextS (a : Int)) v W f3 hc hv)
  rw [hE, f2] at HF
  have A1 := Lib.hid (fun W => apply_walk (a : Int) b hb W 1 _ (.inr (.inl ⟨rfl, rfl⟩)))
  have A2 := Lib.hid (fun W => apply_walk (bits .or .i64 (a : Int) b) b hb W 2 _ (.inr (.inr ⟨rfl, rfl⟩)))
  have A3 := Lib.hid (fun W => apply_walk (a : Int) b hb W 0 _ (.inl ⟨rfl, rfl⟩))
  have HC := Lib.hid hc
  clear hc hv hE f1 f2 f3
  generalize (a : Int) = ai at *
  generalize (b : Int) = bi at *
  go_enter Tryd.func6, Tryd.ntmps6
  go_wp2_with fail
  refine HAl.out.mono ?_
  rintro e w2 ⟨rfl, hB2⟩
  have HB2 := Lib.hid hB2
  have HC2 := Lib.hid (sent_then HC.out hB2)
  clear hB2
  go_wp2_with fail
  refine (flagsText_walk ai w2).mono ?_
  rintro e w3 ⟨rfl, hB3⟩
  have HB3 := Lib.hid (below_then HB2.out hB3)
  have HC3 := Lib.hid (sent_then HC2.out hB3)
  clear hB3
  go_wp2_with fail
  refine (HF.out w3 HC3.out).mono ?_
  rintro e w4 ⟨rfl, hB4⟩
  have HB4 := Lib.hid (below_then HB3.out hB4)
  clear hB4
  go_wp2_with fail
  refine (A1.out _).mono ?_
  rintro e w5 ⟨rfl, rfl⟩
  go_wp2_with fail
  refine (A2.out _).mono ?_
  rintro e w5 ⟨rfl, rfl⟩
  go_wp2_with fail
  refine (A3.out _).mono ?_
  rintro e w5 ⟨rfl, rfl⟩
  go_wp2
  go_ret
  exact ⟨rfl, HB4.out⟩
end Go.Proofs.YtfaojafhamhncaaDoor
