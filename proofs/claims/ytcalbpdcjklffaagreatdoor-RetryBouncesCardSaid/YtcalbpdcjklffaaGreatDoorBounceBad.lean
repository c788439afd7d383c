/- What retry.Bounce refuses: moments and numbers that aren't in range, domains and paths that are none. -/
import Derived.Test.YtcalbpdcjklffaaGreatDoorBounce
namespace Go.Proofs.YtcalbpdcjklffaaGreatDoor
open Go.RowKit
open Pl (goDomain)
set_option linter.unusedSimpArgs false
set_option linter.unusedVariables false
set_option maxHeartbeats 4000000 in
set_option maxRecDepth 100000 in
theorem bounce_range (dm to msg : ByteArray) (n t : Int) (A : Option Addr) (m c : Nat) (h : (t < 0 ∨ 4102444799 < t) ∨ n < 1) (ty : TypeId) (x : Value) (w : World) (hT : TabW w) (hc : w.cell? ⟨0, 0, none⟩ = some (.iface ty x)) :
    Calls Tryz.prog 6 #[.string dm, .string to, .int .i64 n, .slice A m c, .int .i64 t, .string msg] w fun e w' => e = .returned (.tuple #[.string ⟨#[]⟩, .iface ty x]) ∧ Below w.heap.size w w' := by
  have zg : 0 < w.heap.size := World.block_lt_of_cell? w _ hc
  by_cases ht : t < 0 ∨ 4102444799 < t
  · have KM := Lib.hid (mail_bad t ht ty x w hc)
    have HC := Lib.hid hc
    clear hT hc h ht
    go_enter Tryz.func6, Tryz.ntmps6
    go_wp2_with fail
    refine KM.out.mono ?_
    rintro e w1 ⟨rfl, hB1⟩
    have c1 := (hB1.cell (p := ⟨0, 0, none⟩) zg).trans HC.out
    have HB1 := Lib.hid hB1
    clear hB1
    go_wp2
    go_quiet (fail)
    go_wp2
    go_ret2
    exact ⟨rfl, below_draws HB1.out _⟩
  · have hn : n < 1 := by rcases h with h | h
                          · exact absurd h ht
                          · exact h
    obtain ⟨k, rfl⟩ : ∃ k : Nat, t = (k : Int) := ⟨t.toNat, by omega⟩
    have KM := Lib.hid (mail_walk k (by omega) w hT)
    have HC := Lib.hid hc
    clear hT hc h ht
    go_enter Tryz.func6, Tryz.ntmps6
    go_wp2_with fail
    refine KM.out.mono ?_
    rintro e w1 ⟨rfl, hB1⟩
    have c1 := (hB1.cell (p := ⟨0, 0, none⟩) zg).trans HC.out
    have HB1 := Lib.hid hB1
    clear hB1
    go_wp2
    go_quiet (fail)
    go_wp2
    go_ret2
    exact ⟨rfl, below_draws HB1.out _⟩
set_option maxHeartbeats 4000000 in
set_option maxRecDepth 100000 in
theorem bounce_name (dm to msg : ByteArray) (n : Int) (t : Nat) (A : Option Addr) (m c : Nat) (v : Value) (hn : 1 ≤ n) (ht : t ≤ 4102444799) (hd : dm.size ≤ 1000000) (hto : to.size ≤ 1000000) (h : goDomain (bs dm) = false ∨ bareB to = false) (ty : TypeId) (x : Value) (w : World) (hT : TabW w) (hc : w.cell? ⟨1, 0, none⟩ = some (.iface ty x))
    (hf : w.cell? ⟨2, 0, none⟩ = some v) (hv : ∃ t x, v = .iface t x) :
    Calls Tryz.prog 6 #[.string dm, .string to, .int .i64 n, .slice A m c, .int .i64 t, .string msg] w fun e w' => e = .returned (.tuple #[.string ⟨#[]⟩, .iface ty x]) ∧ Below w.heap.size w w' := by
  have zg : 1 < w.heap.size := World.block_lt_of_cell? w _ hc
  have KM := Lib.hid (mail_walk t ht w hT)
  have HC := Lib.hid hc
  have HF := Lib.hid hf
  have h2 := fun W => domain_walk dm W (by omega)
  rw [dot_domain] at h2
  have KD := Lib.hid h2
  have KB := Lib.hid (fun W h => bare18_walk to v W hto h hv)
  clear hT hc h2 hf hv
  generalize mailT t = MT at *
  cases dd : goDomain (bs dm) with
  | false =>
    rw [dd] at KD
    clear dd h
    go_enter Tryz.func6, Tryz.ntmps6
    go_wp2_with fail
    refine KM.out.mono ?_
    rintro e w1 ⟨rfl, hB1⟩
    have HB1 := Lib.hid hB1
    clear hB1
    go_wp2_with fail
    refine (KD.out _).mono ?_
    rintro e w2 ⟨rfl, hB2⟩
    have HB2 := Lib.hid (below_then HB1.out hB2)
    have c1 := (HB2.out.cell (p := ⟨1, 0, none⟩) zg).trans HC.out
    clear hB2
    go_wp2
    go_quiet (fail)
    go_wp2
    go_ret2
    exact ⟨rfl, below_draws HB2.out _⟩
  | true =>
    have db : bareB to = false := by rcases h with h | h
                                     · rw [dd] at h; cases h
                                     · exact h
    rw [dd] at KD
    rw [db] at KB
    clear dd db h
    go_enter Tryz.func6, Tryz.ntmps6
    go_wp2_with fail
    refine KM.out.mono ?_
    rintro e w1 ⟨rfl, hB1⟩
    have HB1 := Lib.hid hB1
    clear hB1
    go_wp2_with fail
    refine (KD.out _).mono ?_
    rintro e w2 ⟨rfl, hB2⟩
    have HB2 := Lib.hid (below_then HB1.out hB2)
    clear hB2
    go_wp2_with fail
    refine (KB.out _ (sent_then HF.out HB2.out)).mono ?_
    rintro e w3 ⟨rfl, hB3⟩
    have HB3 := Lib.hid (below_then HB2.out hB3)
    have c1 := (HB3.out.cell (p := ⟨1, 0, none⟩) zg).trans HC.out
    clear hB3
    go_wp2
    go_quiet (fail)
    go_wp2
    go_ret2
    exact ⟨rfl, below_draws HB3.out _⟩
end Go.Proofs.YtcalbpdcjklffaaGreatDoor
