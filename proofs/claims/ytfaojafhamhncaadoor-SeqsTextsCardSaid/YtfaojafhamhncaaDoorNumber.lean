/- The walks of seqs.Number and end, and of the document's Number. -/
import Derived.Test.YtfaojafhamhncaaDoorPlNum
import Derived.Test.YtfaojafhamhncaaDoorSplitLaw
import Derived.Test.YtfaojafhamhncaaDoorOwn
import Derived.Test.YtfaojafhamhncaaDoorRefIn
import Derived.Laws.IdiomStrings
namespace Go.Proofs.YtfaojafhamhncaaDoor
open Go.RowKit
open Pl (Bs digB val val_next val_small numOk numN numN_pos numN_zero num_len num_digit num_zero num_big num_yes endOk endN)
set_option linter.unusedSimpArgs false
set_option linter.unusedVariables false
theorem below_drew {B : Nat} {w W : World} (h : Below B w W) : Below B w W.drew := ⟨h.os, h.tape, h.output, h.size, h.block⟩
theorem sent_then {w w1 : World} {g : Nat} {v : Value} (h : w.cell? ⟨g, 0, none⟩ = some v) (hb : Below w.heap.size w w1) : w1.cell? ⟨g, 0, none⟩ = some v := (hb.cell (p := ⟨g, 0, none⟩) (World.block_lt_of_cell? w _ h)).trans h
/-- '[]byte(s)': new memory with the bytes -/
theorem bytes_laid (w : World) (s : ByteArray) : ∃ (w1 : World) (cap : Nat), (convert 9 72 (.string s)).run Tryd.prog w = .ok (.slice (some ⟨w.heap.size, 0, none⟩) s.size cap) w1 ∧ Below w.heap.size w w1 ∧ ∀ j (hj : j < s.size), w1.cell? ⟨w.heap.size, j, none⟩ = some (.int .u8 (s[j].toNat : Int)) := by
  refine ⟨_, _, run_bytes_of_string w _ _ 5 s Tryd.underlying9 Tryd.underlying72 Tryd.underlying5, ?_, ?_⟩
  · exact (below_drew (Below.refl _ _)).alloc (Nat.le_refl _) _
  · intro j hj
    exact (World.cell?_alloc_mark w.drew _ _ _ j).trans (bytesRow_at s _ j hj)
theorem at_bs (s : ByteArray) (k : Nat) (h : k < s.size) : (bs s)[k]'(by rw [bs_size]; exact h) = s[k] := by simp [bs]; rfl
theorem head_bs (s : ByteArray) (h : 0 < s.size) : (bs s).head? = some s[0] := by
  rw [← at_bs s 0 h]
  exact List.head?_eq_getElem? .. |>.trans (List.getElem?_eq_getElem _)
theorem byte_eq (c : UInt8) (n : Nat) (hn : n < 256) : (c = n.toUInt8) ↔ ((c.toNat : Int) = (n : Int)) := by
  have e : (Nat.toUInt8 n).toNat = n := by simp [Nat.toUInt8, UInt8.toNat_ofNat']; omega
  rw [← UInt8.toNat_inj, e]; omega
theorem size_zero {s : ByteArray} (h : s.size = 0) : s = ⟨#[]⟩ := bs_inj (List.eq_nil_of_length_eq_zero (by rw [bs_size]; exact h))
def numV (l : Bs) (v : Value) : Value := .tuple #[.int .i64 (numN l), if numOk l = true then .nilIface else v]
theorem numV_no {l : Bs} (h : numOk l = false) (v : Value) : numV l v = .tuple #[.int .i64 0, v] := by rw [numV, numN_zero l h, h]; rfl
set_option maxHeartbeats 4000000 in
set_option maxRecDepth 100000 in
theorem number_walk (s : ByteArray) (v : Value) (w : World) (hs : s.size ≤ 140737488351232) (hc : w.cell? ⟨0, 0, none⟩ = some v) (hv : ∃ t x, v = .iface t x) :
    Calls Tryd.prog 22 #[.string s] w fun e w' => e = .returned (numV (bs s) v) ∧ Below w.heap.size w w' := by
  obtain ⟨w1, cap, hcv, hB, hb⟩ := bytes_laid w s
  have hc1 := sent_then hc hB
  have HB := Lib.hid hB
  have HBs := Lib.hid hb
  clear hB hb hc
  obtain ⟨ty, x, rfl⟩ := hv
  by_cases z0 : s.size = 0
  · obtain rfl := size_zero z0
    have HV := Lib.hid (numV_no (num_len (bs ⟨#[]⟩) (.inl rfl)) (.iface ty x))
    clear z0
    go_enter Tryd.func22, Tryd.ntmps22
    go_wp2
    refine wp_loop_rounds 1 ?_
    rw [rounds_succ]
    go_wp2
    go_quiet (fail)
    go_wp2
    go_ret2
    exact ⟨by rw [HV.out]; rfl, below_draws HB.out _⟩
  · by_cases z1 : 10 < s.size
    · have HV := Lib.hid (numV_no (num_len (bs s) (.inr (by rw [bs_size]; exact z1))) (.iface ty x))
      have c0 := HBs.out 0 (by omega)
      go_enter Tryd.func22, Tryd.ntmps22
      go_wp2
      refine wp_loop_rounds 1 ?_
      rw [rounds_succ]
      go_wp2
      all_goals
        go_quiet (fail)
        go_wp2
        go_ret2
        exact ⟨by rw [HV.out]; rfl, below_draws HB.out _⟩
    · have zl : (bs s).length = s.size := bs_size s
      go_enter Tryd.func22, Tryd.ntmps22
      go_wp2
      go_loop [4, 10] (fun n i => ∃ k : Nat, k ≤ s.size ∧ i = .int .i64 k ∧ n = .int .i64 (val ((bs s).take k)) ∧ Hid (∀ c ∈ (bs s).take k, digB c = true)) (fun _ i => s.size - (intOf i).toNat)
      case atStart => exact ⟨0, Nat.zero_le _, rfl, rfl, Lib.hid (fun c h => by simp at h)⟩
      case round =>
        obtain ⟨k, hk, rfl, rfl, HA⟩ := hrel
        have hN : val ((bs s).take k) ≤ 9999999999 := by
          have h1 := val_small _ HA.out
          have h2 : 10 ^ ((bs s).take k).length ≤ 10 ^ 10 := Nat.pow_le_pow_right (by decide) (by rw [List.length_take]; omega)
          have h3 : (10 : Nat) ^ 10 = 10000000000 := by decide
          omega
        by_cases hlt : k < s.size
        · have c0 := HBs.out k hlt
          have hat := at_bs s k hlt
          by_cases hd : digB s[k] = true
          · have hd' := hd
            simp only [digB, Bool.and_eq_true, decide_eq_true_eq] at hd'
            obtain ⟨d1, d2⟩ := hd'
            have hv := val_next (bs s) k (by omega)
            rw [hat] at hv
            have HN := Lib.hid (show ∀ c ∈ (bs s).take (k + 1), digB c = true from fun c hc => by
              rw [List.take_succ_eq_append_getElem (by omega), List.mem_append] at hc
              rcases hc with hc | hc
              · exact HA.out c hc
              · rw [List.mem_singleton.1 hc, hat]; exact hd)
            generalize val ((bs s).take k) = N at *
            have hv' : (val ((bs s).take (k + 1)) : Int) = 10 * (N : Int) + ((s[k].toNat : Int) - 48) := by omega
            have HV := Lib.hid hv'
            clear hv hd hat hv'
            have b1 : (48 : Int) ≤ (s[k].toNat : Int) := by omega
            have b2 : (s[k].toNat : Int) ≤ 57 := by omega
            generalize (s[k].toNat : Int) = C at *
            go_wp2
            go_round
            case rel => exact ⟨k + 1, by omega, by go_num, by rw [HV.out], HN⟩
            case measure => simp [intOf]; omega
          · have HV := Lib.hid (numV_no (num_digit (bs s) k (by omega) (by rw [hat]; simpa using hd)) (.iface ty x))
            have hd' : s[k].toNat < 48 ∨ 57 < s[k].toNat := by
              simp only [digB, Bool.and_eq_true, decide_eq_true_eq] at hd; omega
            clear hd hat
            have b1 : (s[k].toNat : Int) < 48 ∨ 57 < (s[k].toNat : Int) := by omega
            clear hd'
            generalize (s[k].toNat : Int) = C at *
            by_cases b2 : C < 48
            · clear b1
              go_wp2
              go_quiet (fail)
              go_wp2
              go_ret2
              exact ⟨by rw [HV.out]; rfl, below_draws HB.out _⟩
            · have b3 : 57 < C := by omega
              have b4 : 48 ≤ C := by omega
              clear b1 b2
              go_wp2
              go_quiet (fail)
              go_wp2
              go_ret2
              exact ⟨by rw [HV.out]; rfl, below_draws HB.out _⟩
        · obtain rfl : k = s.size := by omega
          have ht : (bs s).take s.size = bs s := List.take_of_length_le (by omega)
          rw [ht] at hN HA ⊢
          have he : s.toList.isEmpty = false := by
            rw [Lib.toList_data]
            show (bs s).isEmpty = false
            cases e : bs s with
            | nil => rw [e] at zl; simp at zl; omega
            | cons => rfl
          have hh := head_bs s (by omega)
          by_cases h48 : (s[0].toNat : Int) = 48
          · have g48 : ((s[0].toNat : Int) == 48) = true := by rw [beq_iff_eq]; exact h48
            have HV := Lib.hid (numV_no (num_zero (bs s) (by rw [hh, (byte_eq s[0] 48 (by decide)).2 h48]; rfl)) (.iface ty x))
            clear h48 hh ht
            generalize val (bs s) = N at *
            go_wp2
            go_quiet (fail)
            go_wp2
            go_ret2
            exact ⟨by rw [HV.out]; rfl, below_draws HB.out _⟩
          · have g48 : ((s[0].toNat : Int) == 48) = false := by rw [beq_eq_false_iff_ne]; exact h48
            have hh' : ¬ (bs s).head? = some 48 := by
              rw [hh]; intro e
              exact h48 ((byte_eq s[0] 48 (by decide)).1 (Option.some.inj e))
            by_cases hbig : 2147483648 < val (bs s)
            · have HV := Lib.hid (numV_no (num_big (bs s) hbig) (.iface ty x))
              clear hh ht hh'
              generalize val (bs s) = N at *
              have hb' : (2147483648 : Int) < (N : Int) := by omega
              go_wp2
              go_quiet (fail)
              go_wp2
              go_ret2
              exact ⟨by rw [HV.out]; rfl, below_draws HB.out _⟩
            · have ho := num_yes (bs s) (by omega) (by omega) hh' HA.out (by omega)
              have HV := Lib.hid (show numV (bs s) (.iface ty x) = .tuple #[.int .i64 (val (bs s)), .nilIface] by rw [numV, numN, ho]; rfl)
              clear hh ht hh' ho
              generalize val (bs s) = N at *
              have hb' : (N : Int) ≤ (2147483648 : Int) := by omega
              go_wp2
              go_ret2
              exact ⟨by rw [HV.out]; rfl, HB.out⟩
end Go.Proofs.YtfaojafhamhncaaDoor
