/- The walks of retry.Stamp and of the document's Stamp. -/
import Derived.Test.YtcalbpdcjklffaaDoorRefMail
import Derived.Test.YtcalbpdcjklffaaDoorDigits
import Derived.Test.YtcalbpdcjklffaaDoorDotWalk
import Derived.Deep.QuietTactic
import Derived.BigQuiet
namespace Go.Proofs.YtcalbpdcjklffaaDoor
open Go.RowKit
open Pl (goDomain)
set_option linter.unusedSimpArgs false
set_option linter.unusedVariables false
def stampS (g dm : ByteArray) (n t : Nat) (msg : ByteArray) : ByteArray :=
  ⟨#[82, 101, 99, 101, 105, 118, 101, 100, 58, 32, 102, 114, 111, 109, 32]⟩ ++ g ++ ⟨#[32, 98, 121, 32]⟩ ++ dm ++ ⟨#[13, 10]⟩ ++ ⟨#[9, 102, 111, 114, 32, 49, 32, 111, 102, 32]⟩ ++ decS n ++ ⟨#[59, 32]⟩ ++ mailT t ++ ⟨#[13, 10]⟩ ++ msg
theorem stamp_other (g dm D M msg : ByteArray) : ⟨#[82, 101, 99, 101, 105, 118, 101, 100, 58, 32, 102, 114, 111, 109, 32]⟩ ++ g ++ ⟨#[32, 98, 121, 32]⟩ ++ dm ++ ⟨#[13, 10]⟩ ++ ⟨#[9, 102, 111, 114, 32, 49, 32, 111, 102, 32]⟩ ++ D ++ ⟨#[59, 32]⟩ ++ M ++ ⟨#[13, 10]⟩ ++ msg =
    ⟨#[82, 101, 99, 101, 105, 118, 101, 100, 58, 32, 102, 114, 111, 109, 32]⟩ ++ g ++ ⟨#[32, 98, 121, 32]⟩ ++ dm ++ ⟨#[13, 10, 9, 102, 111, 114, 32, 49, 32, 111, 102, 32]⟩ ++ D ++ ⟨#[59, 32]⟩ ++ M ++ ⟨#[13, 10]⟩ ++ msg := by
  apply ByteArray.ext
  simp [ByteArray.data_append]
set_option maxHeartbeats 4000000 in
set_option maxRecDepth 100000 in
theorem stamp_good (g dm msg : ByteArray) (n t : Nat) (hn0 : 1 ≤ n) (hn : n ≤ 9223372036854775807) (ht : t ≤ 4102444799) (hg : g.size ≤ 1000000) (hd : dm.size ≤ 1000000) (hm : msg.size ≤ 1000000) (dg : goDomain (bs g) = true) (dd : goDomain (bs dm) = true) (w : World) (hT : TabW w) :
    Calls Tryd.prog 32 #[.string g, .string dm, .int .i64 n, .int .i64 t, .string msg] w fun e w' => e = .returned (.tuple #[.string (stampS g dm n t msg), .nilIface]) ∧ Below w.heap.size w w' := by
  have HT := Lib.hid hT
  have KM := Lib.hid (fun W => mail_walk t ht W)
  have KI := Lib.hid (fun W => itoa_walk n hn W)
  have h1 := fun W => domain_walk g W (by omega)
  have h2 := fun W => domain_walk dm W (by omega)
  rw [dot_domain, dg] at h1
  rw [dot_domain, dd] at h2
  have KG := Lib.hid h1
  have KD := Lib.hid h2
  have zm := mailT_size t ht
  have zi := decS_few n hn
  have HV := Lib.hid (show stampS g dm n t msg = ⟨#[82, 101, 99, 101, 105, 118, 101, 100, 58, 32, 102, 114, 111, 109, 32]⟩ ++ g ++ ⟨#[32, 98, 121, 32]⟩ ++ dm ++ ⟨#[13, 10]⟩ ++ ⟨#[9, 102, 111, 114, 32, 49, 32, 111, 102, 32]⟩ ++ decS n ++ ⟨#[59, 32]⟩ ++ mailT t ++ ⟨#[13, 10]⟩ ++ msg from rfl)
  clear hT h1 h2 dg dd
  generalize mailT t = MT at *
  generalize decS n = DN at *
  go_enter Tryd.func32, Tryd.ntmps32
  go_wp2_with fail
  refine (KM.out _ HT.out).mono ?_
  rintro e w1 ⟨rfl, hB1⟩
  have HB1 := Lib.hid hB1
  clear hB1
  go_wp2_with fail
  refine (KG.out _).mono ?_
  rintro e w2 ⟨rfl, hB2⟩
  have HB2 := Lib.hid (below_then HB1.out hB2)
  clear hB2
  go_wp2_with fail
  refine (KD.out _).mono ?_
  rintro e w3 ⟨rfl, hB3⟩
  have HB3 := Lib.hid (below_then HB2.out hB3)
  clear hB3
  go_wp2_with fail
  refine (KI.out _ (HT.out.then HB3.out)).mono ?_
  rintro e w4 ⟨rfl, hB4⟩
  have HB4 := Lib.hid (below_then HB3.out hB4)
  clear hB4
  go_wp2
  go_ret2
  exact ⟨by rw [HV.out]; rfl, HB4.out⟩
set_option maxHeartbeats 4000000 in
set_option maxRecDepth 100000 in
/-- a moment that isn't in range, or no deliveries -/
theorem stamp_range (g dm msg : ByteArray) (n t : Int) (h : (t < 0 ∨ 4102444799 < t) ∨ n < 1) (ty : TypeId) (x : Value) (w : World) (hT : TabW w) (hc : w.cell? ⟨0, 0, none⟩ = some (.iface ty x)) :
    Calls Tryd.prog 32 #[.string g, .string dm, .int .i64 n, .int .i64 t, .string msg] w fun e w' => e = .returned (.tuple #[.string ⟨#[]⟩, .iface ty x]) ∧ Below w.heap.size w w' := by
  have zg : 0 < w.heap.size := World.block_lt_of_cell? w _ hc
  by_cases ht : t < 0 ∨ 4102444799 < t
  · have KM := Lib.hid (mail_bad t ht ty x w hc)
    have HC := Lib.hid hc
    clear hT hc h ht
    go_enter Tryd.func32, Tryd.ntmps32
    go_wp2_with fail
    refine KM.out.mono ?_
    rintro e w1 ⟨rfl, hB1⟩
    have c1 := (hB1.cell (p := ⟨0, 0, none⟩) zg).trans HC.out
    have HB1 := Lib.hid hB1
    clear hB1
    go_wp2
    go_quiet (fail)
    go_wp2
    go_ret2
    exact ⟨rfl, below_draws HB1.out _⟩
  · have hn : n < 1 := by rcases h with h | h
                          · exact absurd h ht
                          · exact h
    obtain ⟨k, rfl⟩ : ∃ k : Nat, t = (k : Int) := ⟨t.toNat, by omega⟩
    have KM := Lib.hid (mail_walk k (by omega) w hT)
    have HC := Lib.hid hc
    clear hT hc h ht
    go_enter Tryd.func32, Tryd.ntmps32
    go_wp2_with fail
    refine KM.out.mono ?_
    rintro e w1 ⟨rfl, hB1⟩
    have c1 := (hB1.cell (p := ⟨0, 0, none⟩) zg).trans HC.out
    have HB1 := Lib.hid hB1
    clear hB1
    go_wp2
    go_quiet (fail)
    go_wp2
    go_ret2
    exact ⟨rfl, below_draws HB1.out _⟩
set_option maxHeartbeats 4000000 in
set_option maxRecDepth 100000 in
/-- a greeting or a domain that is none -/
theorem stamp_name (g dm msg : ByteArray) (n : Int) (t : Nat) (hn : 1 ≤ n) (ht : t ≤ 4102444799) (hg : g.size ≤ 1000000) (hd : dm.size ≤ 1000000) (h : goDomain (bs g) = false ∨ goDomain (bs dm) = false) (ty : TypeId) (x : Value) (w : World) (hT : TabW w) (hc : w.cell? ⟨4, 0, none⟩ = some (.iface ty x)) :
    Calls Tryd.prog 32 #[.string g, .string dm, .int .i64 n, .int .i64 t, .string msg] w fun e w' => e = .returned (.tuple #[.string ⟨#[]⟩, .iface ty x]) ∧ Below w.heap.size w w' := by
  have zg : 4 < w.heap.size := World.block_lt_of_cell? w _ hc
  have KM := Lib.hid (mail_walk t ht w hT)
  have HC := Lib.hid hc
  have h1 := fun W => domain_walk g W (by omega)
  have h2 := fun W => domain_walk dm W (by omega)
  rw [dot_domain] at h1 h2
  have KG := Lib.hid h1
  have KD := Lib.hid h2
  clear hT hc h1 h2
  generalize mailT t = MT at *
  cases dg : goDomain (bs g) with
  | false =>
    rw [dg] at KG
    clear dg h
    go_enter Tryd.func32, Tryd.ntmps32
    go_wp2_with fail
    refine KM.out.mono ?_
    rintro e w1 ⟨rfl, hB1⟩
    have HB1 := Lib.hid hB1
    clear hB1
    go_wp2_with fail
    refine (KG.out _).mono ?_
    rintro e w2 ⟨rfl, hB2⟩
    have HB2 := Lib.hid (below_then HB1.out hB2)
    have c1 := (HB2.out.cell (p := ⟨4, 0, none⟩) zg).trans HC.out
    clear hB2
    go_wp2
    go_quiet (fail)
    go_wp2
    go_ret2
    exact ⟨rfl, below_draws HB2.out _⟩
  | true =>
    have dd : goDomain (bs dm) = false := by rcases h with h | h
                                             · rw [dg] at h; cases h
                                             · exact h
    rw [dg] at KG
    rw [dd] at KD
    clear dg dd h
    go_enter Tryd.func32, Tryd.ntmps32
    go_wp2_with fail
    refine KM.out.mono ?_
    rintro e w1 ⟨rfl, hB1⟩
    have HB1 := Lib.hid hB1
    clear hB1
    go_wp2_with fail
    refine (KG.out _).mono ?_
    rintro e w2 ⟨rfl, hB2⟩
    have HB2 := Lib.hid (below_then HB1.out hB2)
    clear hB2
    go_wp2_with fail
    refine (KD.out _).mono ?_
    rintro e w3 ⟨rfl, hB3⟩
    have HB3 := Lib.hid (below_then HB2.out hB3)
    have c1 := (HB3.out.cell (p := ⟨4, 0, none⟩) zg).trans HC.out
    clear hB3
    go_wp2
    go_quiet (fail)
    go_wp2
    go_ret2
    exact ⟨rfl, below_draws HB3.out _⟩
set_option maxHeartbeats 4000000 in
set_option maxRecDepth 100000 in
theorem refStamp_walk (g dm msg : ByteArray) (n t : Nat) (hn : n ≤ 9223372036854775807) (ht : t ≤ 4102444799) (hg : g.size ≤ 1000000) (hd : dm.size ≤ 1000000) (hm : msg.size ≤ 1000000) (w : World) :
    Calls Tryd.prog 34 #[.string g, .string dm, .int .i64 n, .int .i64 t, .string msg] w fun e w' => e = .returned (.string (stampS g dm n t msg)) ∧ Below w.heap.size w w' := by
  have KM := Lib.hid (fun W => refMail_walk t ht W)
  have KI := Lib.hid (fun W => digits10_walk n hn W)
  have zm := mailT_size t ht
  have zi := decS_few n hn
  have HV := Lib.hid (show stampS g dm n t msg = ⟨#[82, 101, 99, 101, 105, 118, 101, 100, 58, 32, 102, 114, 111, 109, 32]⟩ ++ g ++ ⟨#[32, 98, 121, 32]⟩ ++ dm ++ ⟨#[13, 10, 9, 102, 111, 114, 32, 49, 32, 111, 102, 32]⟩ ++ decS n ++ ⟨#[59, 32]⟩ ++ mailT t ++ ⟨#[13, 10]⟩ ++ msg from stamp_other _ _ _ _ _)
  generalize mailT t = MT at *
  generalize decS n = DN at *
  go_enter Tryd.func34, Tryd.ntmps34
  go_wp2_with fail
  refine (KI.out _).mono ?_
  rintro e w1 ⟨rfl, hB1⟩
  have HB1 := Lib.hid hB1
  clear hB1
  go_wp2_with fail
  refine (KM.out _).mono ?_
  rintro e w2 ⟨rfl, hB2⟩
  have HB2 := Lib.hid (below_then HB1.out hB2)
  clear hB2
  go_wp2
  go_ret
  exact ⟨by rw [HV.out]; rfl, HB2.out⟩
end Go.Proofs.YtcalbpdcjklffaaDoor
