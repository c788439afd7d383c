/- The walk of the document's own Bare. -/
import Derived.Test.YtcalbpdcjklffaaDoorRefDomain
namespace Go.Proofs.YtcalbpdcjklffaaDoor
open Go.RowKit
open Pl (Bs refLocal refDomain rightB)
def at2 (lo d : ByteArray) : ByteArray := lo ++ ⟨#[64]⟩ ++ d
def refRight (lo d : ByteArray) : Bool := refLocal (bs lo) && refDomain (bs d)
def refNone (lo d : ByteArray) : Bool := lo.toList.isEmpty && d.toList.isEmpty
def refBareS (lo d : ByteArray) : ByteArray := if refNone lo d = true then ⟨#[]⟩ else if refRight lo d = true then at2 lo d else ⟨#[]⟩
def refBareB (lo d : ByteArray) : Bool := refNone lo d || refRight lo d
set_option maxHeartbeats 1000000 in
theorem refBare_walk (lo d : ByteArray) (w : World) (hl : lo.size ≤ 140737488351232) (hd : d.size ≤ 140737488351232) :
    Calls Tryd.prog 30 #[.agg #[.string lo, .string d]] w fun e w' => e = .returned (.tuple #[.string (refBareS lo d), .bool (refBareB lo d)]) ∧ Below w.heap.size w w' := by
  by_cases h12 : refNone lo d = true
  · have E1 : refBareS lo d = ⟨#[]⟩ := by rw [refBareS, h12]; rfl
    have E2 : refBareB lo d = true := by rw [refBareB, h12]; rfl
    rw [E1, E2]
    clear E1 E2
    obtain ⟨h1, h2⟩ := (Bool.and_eq_true _ _).mp h12
    clear h12
    go_enter Tryd.func30, Tryd.ntmps30
    go_wp2
    go_ret2
    exact ⟨rfl, (Below.refl _ _).alloc (Nat.le_refl _) _⟩
  · have h12 : refNone lo d = false := by simpa using h12
    cases hL : refLocal (bs lo) with
    | true =>
      cases hD : refDomain (bs d) with
      | true =>
        have R : refRight lo d = true := by rw [refRight, hL, hD]; rfl
        have E1 : refBareS lo d = at2 lo d := by rw [refBareS, h12, R]; rfl
        have E2 : refBareB lo d = true := by rw [refBareB, h12, R]; rfl
        rw [E1, E2]
        have HL := Lib.hid hL
        have HD := Lib.hid hD
        clear E1 E2 R hL hD
        cases h1 : lo.toList.isEmpty with
        | true =>
          have h2 : d.toList.isEmpty = false := by cases h2 : d.toList.isEmpty with | true => (rw [refNone, h1, h2] at h12; exact absurd h12 (by decide)) | false => rfl
          clear h12
          go_enter Tryd.func30, Tryd.ntmps30
          go_wp2_with (first | (go_at_call 22; refine (refLocal_walk _ _ (by omega)).mono ?_; rintro e w' ⟨rfl, rfl⟩; rw [HL.out]) | (go_at_call 24; refine (refDomain_walk _ _ (by omega)).mono ?_; rintro e w' ⟨rfl, rfl⟩; rw [HD.out]))
          go_ret2
          exact ⟨rfl, (Below.refl _ _).alloc (Nat.le_refl _) _⟩
        | false =>
          clear h12
          go_enter Tryd.func30, Tryd.ntmps30
          go_wp2_with (first | (go_at_call 22; refine (refLocal_walk _ _ (by omega)).mono ?_; rintro e w' ⟨rfl, rfl⟩; rw [HL.out]) | (go_at_call 24; refine (refDomain_walk _ _ (by omega)).mono ?_; rintro e w' ⟨rfl, rfl⟩; rw [HD.out]))
          go_ret2
          exact ⟨rfl, (Below.refl _ _).alloc (Nat.le_refl _) _⟩
      | false =>
        have R : refRight lo d = false := by rw [refRight, hL, hD]; rfl
        have E1 : refBareS lo d = ⟨#[]⟩ := by rw [refBareS, h12, R]; rfl
        have E2 : refBareB lo d = false := by rw [refBareB, h12, R]; rfl
        rw [E1, E2]
        have HL := Lib.hid hL
        have HD := Lib.hid hD
        clear E1 E2 R hL hD
        cases h1 : lo.toList.isEmpty with
        | true =>
          have h2 : d.toList.isEmpty = false := by cases h2 : d.toList.isEmpty with | true => (rw [refNone, h1, h2] at h12; exact absurd h12 (by decide)) | false => rfl
          clear h12
          go_enter Tryd.func30, Tryd.ntmps30
          go_wp2_with (first | (go_at_call 22; refine (refLocal_walk _ _ (by omega)).mono ?_; rintro e w' ⟨rfl, rfl⟩; rw [HL.out]) | (go_at_call 24; refine (refDomain_walk _ _ (by omega)).mono ?_; rintro e w' ⟨rfl, rfl⟩; rw [HD.out]))
          go_ret2
          exact ⟨rfl, (Below.refl _ _).alloc (Nat.le_refl _) _⟩
        | false =>
          clear h12
          go_enter Tryd.func30, Tryd.ntmps30
          go_wp2_with (first | (go_at_call 22; refine (refLocal_walk _ _ (by omega)).mono ?_; rintro e w' ⟨rfl, rfl⟩; rw [HL.out]) | (go_at_call 24; refine (refDomain_walk _ _ (by omega)).mono ?_; rintro e w' ⟨rfl, rfl⟩; rw [HD.out]))
          go_ret2
          exact ⟨rfl, (Below.refl _ _).alloc (Nat.le_refl _) _⟩
    | false =>
      have R : refRight lo d = false := by rw [refRight, hL]; rfl
      have E1 : refBareS lo d = ⟨#[]⟩ := by rw [refBareS, h12, R]; rfl
      have E2 : refBareB lo d = false := by rw [refBareB, h12, R]; rfl
      rw [E1, E2]
      have HL := Lib.hid hL
      clear E1 E2 R hL
      cases h1 : lo.toList.isEmpty with
      | true =>
        have h2 : d.toList.isEmpty = false := by cases h2 : d.toList.isEmpty with | true => (rw [refNone, h1, h2] at h12; exact absurd h12 (by decide)) | false => rfl
        clear h12
        go_enter Tryd.func30, Tryd.ntmps30
        go_wp2_with ((go_at_call 22; refine (refLocal_walk _ _ (by omega)).mono ?_; rintro e w' ⟨rfl, rfl⟩; rw [HL.out]))
        go_ret2
        exact ⟨rfl, (Below.refl _ _).alloc (Nat.le_refl _) _⟩
      | false =>
        clear h12
        go_enter Tryd.func30, Tryd.ntmps30
        go_wp2_with ((go_at_call 22; refine (refLocal_walk _ _ (by omega)).mono ?_; rintro e w' ⟨rfl, rfl⟩; rw [HL.out]))
        go_ret2
        exact ⟨rfl, (Below.refl _ _).alloc (Nat.le_refl _) _⟩
end Go.Proofs.YtcalbpdcjklffaaDoor
