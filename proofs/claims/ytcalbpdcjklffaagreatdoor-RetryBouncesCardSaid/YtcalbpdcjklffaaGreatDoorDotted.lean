/- The walks of package path's texts: a byte that may stand in an atom, each byte of a text, atoms and labels, parts with dots between; local parts and domains. -/
import Derived.Test.YtcalbpdcjklffaaGreatDoorSplitLaw
namespace Go.Proofs.YtcalbpdcjklffaaGreatDoor
open Go.RowKit Go.Shelf
open Pl (idxB Bs splitB plainB marks atomB partL partD goLocal goDomain)
attribute [local go_sem] Oper.semAt_some

def plainI (c : Int) : Bool := plainB c.toNat.toUInt8
theorem plainI_iff (c : Int) (h0 : 0 ≤ c) (h1 : c < 256) : plainI c = (decide (97 ≤ c) && decide (c ≤ 122) || decide (65 ≤ c) && decide (c ≤ 90) || decide (48 ≤ c) && decide (c ≤ 57)) := by
  obtain ⟨k, rfl⟩ := Int.eq_ofNat_of_zero_le h0
  have hk : k < 256 := by omega
  have e : (Nat.toUInt8 k).toNat = k := by simp [Nat.toUInt8, UInt8.toNat_ofNat']; omega
  simp only [plainI, plainB, Int.toNat_natCast, UInt8.le_iff_toNat_le, e]
  have e2 : ((97 : UInt8).toNat = 97) ∧ ((122 : UInt8).toNat = 122) ∧ ((65 : UInt8).toNat = 65) ∧ ((90 : UInt8).toNat = 90) ∧ ((48 : UInt8).toNat = 48) ∧ ((57 : UInt8).toNat = 57) := by decide
  obtain ⟨a, b, c, d, f, g⟩ := e2
  simp only [a, b, c, d, f, g]
  rw [Bool.eq_iff_iff]
  simp
  omega

theorem ret_bool {a b : Bool} (h : a = b) : Ending.returned (.bool a) = .returned (.bool b) := by rw [h]
set_option maxHeartbeats 400000 in
theorem plain_walk (c : Int) (w : World) (h0 : 0 ≤ c) (h1 : c < 256) :
    Calls Tryz.prog 50 #[.int .u8 c] w fun e w' => e = .returned (.bool (plainI c)) ∧ w = w' := by
  have e := plainI_iff c h0 h1
  have E := Lib.hid e
  clear e
  go_enter Tryz.func50, Tryz.ntmps50
  go_wp2
  all_goals
    go_ret
    refine ⟨?_, rfl⟩
    rw [E.out]
    exact ret_bool (by rw [Bool.eq_iff_iff]; simp; omega)

theorem mark_iff (c : UInt8) (l : Bs) : decide (0 ≤ idxI c l) = l.contains c := by
  have hle := Pl.idxB_le c l
  rw [Bool.eq_iff_iff, decide_eq_true_eq, List.contains_iff_mem, idxI]
  constructor
  · intro h
    by_cases hh : idxB c l < l.length
    · have := Pl.idxB_at c l hh
      rw [← this]; exact List.getElem_mem hh
    · rw [if_neg hh] at h; omega
  · intro h
    by_cases hh : idxB c l < l.length
    · rw [if_pos hh]; omega
    · exfalso
      obtain ⟨i, hi, e⟩ := List.getElem_of_mem h
      exact Pl.idxB_before c l i hi (by omega) e
theorem atom_split (c : Int) : atomB c.toNat.toUInt8 = (plainI c || decide (0 ≤ idxI c.toNat.toUInt8 marks)) := by
  rw [mark_iff]; rfl
set_option maxHeartbeats 400000 in
theorem atomByte_walk (c : Int) (w : World) (h0 : 0 ≤ c) (h1 : c < 256) :
    Calls Tryz.prog 86 #[.int .u8 c] w fun e w' => e = .returned (.bool (atomB c.toNat.toUInt8)) ∧ w = w' := by
  have e := atom_split c
  have E := Lib.hid e
  clear e
  cases hp : plainI c with
  | true =>
    rw [hp] at E
    have HP := Lib.hid hp
    clear hp
    go_enter Tryz.func86, Tryz.ntmps86
    go_wp2_with fail
    refine (plain_walk _ _ h0 h1).mono ?_
    rintro e w' ⟨rfl, rfl⟩
    rw [HP.out]
    go_wp2
    go_ret
    exact ⟨by rw [E.out]; rfl, rfl⟩
  | false =>
    rw [hp] at E
    have HP := Lib.hid hp
    clear hp
    go_enter Tryz.func86, Tryz.ntmps86
    go_wp2_with fail
    refine (plain_walk _ _ h0 h1).mono ?_
    rintro e w' ⟨rfl, rfl⟩
    rw [HP.out]
    go_wp2_with fail
    refine (indexByte_walk _ _ _).mono ?_
    rintro e w' ⟨rfl, rfl⟩
    go_wp2
    go_ret
    exact ⟨by rw [E.out]; rfl, rfl⟩

/-- label's byte: a letter, a digit or '-' -/
def labB (c : UInt8) : Bool := plainB c || c == 45
theorem lab_45 (c : Int) (h0 : 0 ≤ c) (h1 : c < 256) : (c.toNat.toUInt8 == 45) = (c == 45) := by
  obtain ⟨k, rfl⟩ := Int.eq_ofNat_of_zero_le h0
  have hk : k < 256 := by omega
  rw [Bool.eq_iff_iff, beq_iff_eq, beq_iff_eq, ← UInt8.toNat_inj]
  have e : (Nat.toUInt8 k).toNat = k := by simp [Nat.toUInt8, UInt8.toNat_ofNat']; omega
  rw [Int.toNat_natCast, e]
  simp
  omega
set_option maxHeartbeats 400000 in
theorem labByte_walk (c : Int) (w : World) (h0 : 0 ≤ c) (h1 : c < 256) :
    Calls Tryz.prog 49 #[.int .u8 c] w fun e w' => e = .returned (.bool (labB c.toNat.toUInt8)) ∧ w = w' := by
  have e : labB c.toNat.toUInt8 = (plainI c || (c == 45)) := by rw [labB, lab_45 c h0 h1]; rfl
  have E := Lib.hid e
  clear e
  cases hp : plainI c with
  | true =>
    rw [hp] at E
    have HP := Lib.hid hp
    clear hp
    go_enter Tryz.func49, Tryz.ntmps49
    go_wp2_with fail
    refine (plain_walk _ _ h0 h1).mono ?_
    rintro e w' ⟨rfl, rfl⟩
    rw [HP.out]
    go_wp2
    go_ret
    exact ⟨by rw [E.out]; rfl, rfl⟩
  | false =>
    rw [hp] at E
    have HP := Lib.hid hp
    clear hp
    go_enter Tryz.func49, Tryz.ntmps49
    go_wp2_with fail
    refine (plain_walk _ _ h0 h1).mono ?_
    rintro e w' ⟨rfl, rfl⟩
    rw [HP.out]
    go_wp2
    go_ret
    exact ⟨by rw [E.out]; rfl, rfl⟩

/-- each byte of a text is such -/
def allB (q : UInt8 → Bool) (s : ByteArray) : Bool := (bs s).all q
theorem allB_next {q : UInt8 → Bool} {s : ByteArray} {k : Nat} (hk : k < s.size) (h : ((bs s).take k).all q = true) (hq : q s[k] = true) : ((bs s).take (k + 1)).all q = true := by
  have hk' : k < (bs s).length := by rw [bs_size]; exact hk
  rw [List.take_succ_eq_append_getElem hk', List.all_append, h]
  have : (bs s)[k] = s[k] := by simp [bs]; rfl
  simp [this, hq]
theorem allB_not {q : UInt8 → Bool} {s : ByteArray} {k : Nat} (hk : k < s.size) (hq : q s[k] = false) : allB q s = false := by
  have hk' : k < (bs s).length := by rw [bs_size]; exact hk
  rw [allB, List.all_eq_false]
  have : (bs s)[k] = s[k] := by simp [bs]; rfl
  exact ⟨(bs s)[k], List.getElem_mem hk', by rw [this, hq]; simp⟩
theorem toNat_byte (c : UInt8) : ((c.toNat : Int)).toNat.toUInt8 = c := by simp
set_option maxHeartbeats 1000000 in
theorem each_walk (g : Nat) (q : UInt8 → Bool) (eg : ∀ args w, (callFunc g args).run Tryz.prog w = .ok (.enter g args) w)
    (hg : Hid (∀ (c : Int) (w : World), 0 ≤ c → c < 256 → Calls Tryz.prog g #[.int .u8 c] w fun e w' => e = .returned (.bool (q c.toNat.toUInt8)) ∧ w = w'))
    (s : ByteArray) (w : World) (hs : s.size ≤ 9223372036854775807) :
    Calls Tryz.prog 48 #[.string s, .func (.func g) #[] #[]] w fun e w' => e = .returned (.bool (allB q s)) ∧ w = w' := by
  go_enter Tryz.func48, Tryz.ntmps48
  go_wp2
  go_loop [8] (fun i => ∃ k : Nat, k ≤ s.size ∧ i = .int .i64 k ∧ Hid (((bs s).take k).all q = true)) (fun i => s.size - (intOf i).toNat)
  case atStart => exact ⟨0, Nat.zero_le _, rfl, Lib.hid rfl⟩
  case round =>
    obtain ⟨k, hk, rfl, HA⟩ := hrel
    by_cases hlt : k < s.size
    · have hb : (s[k].toNat : Int) < 256 := by have := s[k].toNat_lt; omega
      cases hq : q s[k] with
      | true =>
        have HQ := Lib.hid hq
        clear hq
        go_wp2_with fail
        refine (hg.out _ _ (by omega) hb).mono ?_
        rintro e w' ⟨rfl, rfl⟩
        rw [toNat_byte, HQ.out]
        go_wp2
        go_round
        case rel => exact ⟨k + 1, by omega, by go_num, Lib.hid (allB_next hlt HA.out HQ.out)⟩
        case measure => simp [intOf]; omega
      | false =>
        have HQ := Lib.hid hq
        clear hq
        go_wp2_with fail
        refine (hg.out _ _ (by omega) hb).mono ?_
        rintro e w' ⟨rfl, rfl⟩
        rw [toNat_byte, HQ.out]
        go_wp2
        go_ret
        exact ⟨by rw [allB_not hlt HQ.out]; rfl, rfl⟩
    · obtain rfl : k = s.size := by omega
      have e : allB q s = true := by
        have := HA.out
        rw [allB]
        rwa [List.take_of_length_le (by rw [bs_size]; exact Nat.le_refl _)] at this
      have E := Lib.hid e
      clear e
      go_wp2
      go_ret
      exact ⟨by rw [E.out]; rfl, rfl⟩
end Go.Proofs.YtcalbpdcjklffaaGreatDoor
