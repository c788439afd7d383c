/- The walks of postbaglaw18's Mail.big and moment. -/
import Derived.Test.YtcalbpdcjklffaaGreatDoorMailOpen
import Derived.Test.YtcalbpdcjklffaaGreatDoorDatesA
import Derived.Handy
namespace Go.Proofs.YtcalbpdcjklffaaGreatDoor
open Go.RowKit
set_option linter.unusedSimpArgs false
set_option linter.unusedVariables false
def nsum (ns : List ByteArray) : Nat := (ns.map fun x => 1 + x.size).sum
theorem nsum_next {ns : List ByteArray} {k : Nat} (hk : k < ns.length) : nsum (ns.take (k + 1)) = nsum (ns.take k) + (1 + ns[k].size) := by
  rw [nsum, List.take_succ_eq_append_getElem hk, List.map_append, List.sum_append]; simp [nsum]
abbrev mailV (g dm to : ByteArray) (many id now : Int) (A : Option Addr) (n c : Nat) (msg : ByteArray) : Value := .agg #[.string g, .string dm, .string to, .int .i64 many, .int .i64 id, .int .i64 now, .slice A n c, .string msg]
abbrev mailObj (g dm to : ByteArray) (many id now : Int) (A : Option Addr) (n c : Nat) (msg : ByteArray) : Obj := Obj.cells #[.string g, .string dm, .string to, .int .i64 many, .int .i64 id, .int .i64 now, .slice A n c, .string msg] 24
theorem mail_cells {W : World} {B : Nat} {g dm to : ByteArray} {many id now : Int} {A : Option Addr} {n c : Nat} {msg : ByteArray} (h : W.heap[B]? = some (mailObj g dm to many id now A n c msg)) :
    W.cell? ⟨B, 0, none⟩ = some (.string g) ∧ W.cell? ⟨B, 1, none⟩ = some (.string dm) ∧ W.cell? ⟨B, 2, none⟩ = some (.string to) ∧ W.cell? ⟨B, 3, none⟩ = some (.int .i64 many) ∧ W.cell? ⟨B, 4, none⟩ = some (.int .i64 id) ∧ W.cell? ⟨B, 5, none⟩ = some (.int .i64 now) ∧ W.cell? ⟨B, 6, none⟩ = some (.slice A n c) ∧ W.cell? ⟨B, 7, none⟩ = some (.string msg) := by
  refine ⟨?_, ?_, ?_, ?_, ?_, ?_, ?_, ?_⟩ <;> simp [World.cell?, h]
/-- more than is asked? -/
def bigB (g dm to msg : ByteArray) (ns : List ByteArray) : Bool := decide (1000 < g.size) || decide (1000 < dm.size) || decide (1000 < to.size) || decide (10000 < msg.size) || decide (20000 < nsum ns)
theorem nsum_mono (ns : List ByteArray) (k : Nat) : nsum (ns.take k) ≤ nsum ns := by
  conv => rhs; rw [← List.take_append_drop k ns]
  simp only [nsum, List.map_append, List.sum_append]
  omega
set_option maxHeartbeats 4000000 in
set_option maxRecDepth 100000 in
theorem big_walk (g dm to : ByteArray) (many id now : Int) (A : Option Addr) (n c : Nat) (msg : ByteArray) (ns : List ByteArray) (w : World) (hN : NamesAt w A n ns) (hs : ∀ y ∈ ns, y.size ≤ 140737488355328) :
    Calls Tryz.prog 5 #[mailV g dm to many id now A n c msg] w fun e w' => e = .returned (.bool (bigB g dm to msg ns)) ∧ Below w.heap.size w w' := by
  have hB := (Below.refl w.heap.size w).alloc (Nat.le_refl _) (mailObj g dm to many id now A n c msg)
  have hP : (w.alloc (mailObj g dm to many id now A n c msg)).heap[w.heap.size]? = some (mailObj g dm to many id now A n c msg) := World.alloc_heap_new w _
  generalize hw : w.alloc (mailObj g dm to many id now A n c msg) = w1 at hB hP
  obtain ⟨c0, c1, c2, c3, c4, c5, c6, c7⟩ := mail_cells hP
  have hl := hN.1
  have hn := hN.2.1
  have HN := Lib.hid (hN.then hB)
  have HB := Lib.hid hB
  have HS := Lib.hid hs
  clear hN hB hP hs
  by_cases z0 : g.size ≤ 1000
  · by_cases z1 : dm.size ≤ 1000
    · by_cases z2 : to.size ≤ 1000
      · by_cases z3 : msg.size ≤ 10000
        · have HV := Lib.hid (show bigB g dm to msg ns = decide (20000 < nsum ns) by
            rw [bigB, decide_eq_false (show ¬ 1000 < g.size by omega), decide_eq_false (show ¬ 1000 < dm.size by omega), decide_eq_false (show ¬ 1000 < to.size by omega), decide_eq_false (show ¬ 10000 < msg.size by omega)]; rfl)
          go_enter Tryz.func5, Tryz.ntmps5
          go_wp2
          go_loop [3, 31] (fun s i => ∃ k : Nat, k ≤ n ∧ i = .int .i64 k ∧ s = .int .i64 ((nsum (ns.take k) : Nat) : Int) ∧ nsum (ns.take k) ≤ 20000) (fun _ i => n - (intOf i).toNat)
          case atStart => exact ⟨0, Nat.zero_le _, rfl, rfl, Nat.zero_le _⟩
          case round =>
            obtain ⟨k, hk, rfl, rfl, h20⟩ := hrel
            by_cases hkn : k < n
            · obtain ⟨gb, o, rfl, hg, hcx⟩ := HN.out.2.2 (by omega)
              have hkl : k < ns.length := by omega
              have cx := hcx k ns[k] (List.getElem?_eq_getElem hkl)
              have hsz := HS.out ns[k] (List.getElem_mem hkl)
              have hnx := nsum_next hkl
              have hmo := nsum_mono ns (k + 1)
              have HMo := Lib.hid hmo
              have HNx := Lib.hid hnx
              clear hcx hmo hnx
              generalize ns[k] = y at *
              by_cases hbig : nsum (ns.take k) + (1 + y.size) ≤ 20000
              · go_wp2
                go_round
                case rel => exact ⟨k + 1, by omega, by go_num, by rw [HNx.out]; go_num, by rw [HNx.out]; exact hbig⟩
                case measure => simp [intOf]; omega
              · go_wp2
                go_ret
                exact ⟨retBool (by rw [HV.out, decide_eq_true (show 20000 < nsum ns by have h1 := HMo.out; have h2 := HNx.out; omega)]), HB.out⟩
            · obtain rfl : k = n := by omega
              have ht : ns.take k = ns := List.take_of_length_le (by omega)
              rw [ht] at h20
              go_wp2
              go_ret
              exact ⟨retBool (by rw [HV.out, Bool.eq_iff_iff]; simp; try omega), HB.out⟩
        · have HV := Lib.hid (show bigB g dm to msg ns = true by rw [bigB, decide_eq_true (show 10000 < msg.size by omega)]; simp)
          go_enter Tryz.func5, Tryz.ntmps5
          go_wp2
          go_ret
          exact ⟨retBool (by rw [HV.out]), HB.out⟩
      · have HV := Lib.hid (show bigB g dm to msg ns = true by rw [bigB, decide_eq_true (show 1000 < to.size by omega)]; simp)
        go_enter Tryz.func5, Tryz.ntmps5
        go_wp2
        go_ret
        exact ⟨retBool (by rw [HV.out]), HB.out⟩
    · have HV := Lib.hid (show bigB g dm to msg ns = true by rw [bigB, decide_eq_true (show 1000 < dm.size by omega)]; simp)
      go_enter Tryz.func5, Tryz.ntmps5
      go_wp2
      go_ret
      exact ⟨retBool (by rw [HV.out]), HB.out⟩
  · have HV := Lib.hid (show bigB g dm to msg ns = true by rw [bigB, decide_eq_true (show 1000 < g.size by omega)]; simp)
    go_enter Tryz.func5, Tryz.ntmps5
    go_wp2
    go_ret
    exact ⟨retBool (by rw [HV.out]), HB.out⟩
def momentB (t : Int) : Bool := decide (0 ≤ t) && decide (t ≤ 4102444799)
theorem moment_walk (t : Int) (w : World) : Calls Tryz.prog 7 #[.int .i64 t] w fun e w' => e = .returned (.bool (momentB t)) ∧ w = w' := by
  go_enter Tryz.func7, Tryz.ntmps7
  go_wp2
  all_goals go_ret
  all_goals exact ⟨retBool (by rw [Bool.eq_iff_iff]; simp [momentB]; try omega), rfl⟩
end Go.Proofs.YtcalbpdcjklffaaGreatDoor
