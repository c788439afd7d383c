/- The walks of path.atom, path.label, path.dotted, path.Local and path.Domain. -/
import Derived.Test.YtcalbpdcjklffaaGreatDoorDotted
namespace Go.Proofs.YtcalbpdcjklffaaGreatDoor
open Go.RowKit Go.Shelf
open Pl (idxB Bs splitB plainB marks atomB partL partD goLocal goDomain)
attribute [local go_sem] Oper.semAt_some

set_option maxHeartbeats 400000 in
theorem atom_walk (s : ByteArray) (w : World) (hs : s.size ≤ 9223372036854775807) :
    Calls Tryz.prog 77 #[.string s] w fun e w' => e = .returned (.bool (allB atomB s)) ∧ w = w' := by
  go_enter Tryz.func77, Tryz.ntmps77
  go_wp2_with fail
  refine (each_walk 86 atomB (enters_of Tryz.func86 (by kernel_rfl) rfl) (Lib.hid (fun c w h0 h1 => atomByte_walk c w h0 h1)) s _ hs).mono ?_
  rintro e w' ⟨rfl, rfl⟩
  go_wp2
  go_ret
  exact ⟨rfl, rfl⟩

/-- a label, of a text that isn't empty -/
def labelS (s : ByteArray) : Bool := partD (bs s)
theorem labelS_no {s : ByteArray} (h : allB labB s = false) : labelS s = false := by
  unfold labelS partD
  have : (bs s).all (fun c => plainB c || c == 45) = false := h
  rw [this]; simp
theorem byte_ne (c : UInt8) (n : Nat) (hn : n < 256) : (!(c == n.toUInt8)) = ((c.toNat : Int) != (n : Int)) := by
  have e : (Nat.toUInt8 n).toNat = n := by simp [Nat.toUInt8, UInt8.toNat_ofNat']; omega
  rw [Bool.eq_iff_iff]
  simp only [Bool.not_eq_true', beq_eq_false_iff_ne, bne_iff_ne, ne_eq, ← UInt8.toNat_inj, e]
  omega
theorem labelS_yes {s : ByteArray} (h : allB labB s = true) (hp : 0 < s.size) : labelS s = (((s[0].toNat : Int) != 45) && ((s[s.size - 1].toNat : Int) != 45)) := by
  have h1 : (bs s).all (fun c => plainB c || c == 45) = true := h
  have hl : (bs s).length = s.size := bs_size s
  have hne : bs s ≠ [] := fun e => by rw [e] at hl; simp at hl; omega
  have e0 : (bs s).isEmpty = false := by simpa using hne
  have e1 : (bs s).head? = some s[0] := by
    rw [List.head?_eq_getElem?, List.getElem?_eq_getElem (by omega)]; simp [bs]; rfl
  have e2 : (bs s).getLast? = some s[s.size - 1] := by
    rw [List.getLast?_eq_getElem?, hl, List.getElem?_eq_getElem (by omega)]; simp [bs]; rfl
  unfold labelS partD
  rw [h1, e0, e1, e2]
  have a := byte_ne s[0] 45 (by decide)
  have b := byte_ne s[s.size - 1] 45 (by decide)
  have c : (Nat.toUInt8 45) = 45 := by decide
  rw [c] at a b
  have d : ((45 : Nat) : Int) = 45 := rfl
  rw [d] at a b
  rw [← a, ← b]
  simp
set_option maxHeartbeats 400000 in
theorem label_walk (s : ByteArray) (w : World) (hs : s.size ≤ 9223372036854775807) (hp : 0 < s.size) :
    Calls Tryz.prog 32 #[.string s] w fun e w' => e = .returned (.bool (labelS s)) ∧ w = w' := by
  cases ha : allB labB s with
  | false =>
    have e := labelS_no ha
    have E := Lib.hid e
    have HA := Lib.hid ha
    clear e ha
    go_enter Tryz.func32, Tryz.ntmps32
    go_wp2_with fail
    refine (each_walk 49 labB (enters_of Tryz.func49 (by kernel_rfl) rfl) (Lib.hid (fun c w h0 h1 => labByte_walk c w h0 h1)) s _ hs).mono ?_
    rintro e w' ⟨rfl, rfl⟩
    rw [HA.out]
    go_wp2
    go_ret
    exact ⟨by rw [E.out]; rfl, rfl⟩
  | true =>
    have e := labelS_yes ha hp
    have E := Lib.hid e
    have HA := Lib.hid ha
    clear e ha
    go_enter Tryz.func32, Tryz.ntmps32
    go_wp2_with fail
    refine (each_walk 49 labB (enters_of Tryz.func49 (by kernel_rfl) rfl) (Lib.hid (fun c w h0 h1 => labByte_walk c w h0 h1)) s _ hs).mono ?_
    rintro e w' ⟨rfl, rfl⟩
    rw [HA.out]
    go_wp2
    · have h0 : (s[0].toNat : Int) = 45 := by assumption
      go_ret
      refine ⟨?_, rfl⟩
      rw [E.out]
      exact ret_bool (by simp [h0])
    · go_ret
      exact ⟨by rw [E.out]; rfl, rfl⟩
end Go.Proofs.YtcalbpdcjklffaaGreatDoor
