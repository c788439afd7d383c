/- strings.CutSuffix at a text of one byte. -/
import Derived.Test.YtfaojafhamhncaaDoorIndex
namespace Go.Proofs.YtfaojafhamhncaaDoor
open Go.RowKit
open Pl (Bs)
set_option linter.unusedSimpArgs false
set_option linter.unusedVariables false
def sufF (x : UInt8) (s : ByteArray) : Bool := (bs s).getLast? == some x
def sufL (x : UInt8) (s : ByteArray) : ByteArray := if sufF x s = true then s.extract 0 (s.size - 1) else s
theorem sufF_raw (x : UInt8) (s : ByteArray) (h : 1 ≤ s.size) : ((s.extract (s.size - 1) s.size).toList == [x]) = sufF x s := by
  have e : (s.extract (s.size - 1) s.size).toList = (bs s).drop (s.size - 1) := by
    rw [Lib.toList_data, Lib.extract_data]
    have : s.size = s.data.toList.length := by simp
    simp only [bs]
    rw [List.take_of_length_le (by simp)]
  have hl : (bs s).length = s.size := bs_size s
  rw [e, sufF]
  have h2 : (bs s).drop (s.size - 1) = [(bs s)[s.size - 1]'(by omega)] := by
    rw [List.drop_eq_getElem_cons (by omega), List.drop_eq_nil_of_le (by omega)]
  have h3 : (bs s).getLast? = some ((bs s)[s.size - 1]'(by omega)) := by
    rw [List.getLast?_eq_getElem?, show (bs s).length - 1 = s.size - 1 by omega]
    exact List.getElem?_eq_getElem _
  rw [h2, h3]
  rw [Bool.eq_iff_iff]; simp
theorem sufF_small (x : UInt8) (s : ByteArray) (h : ¬ 1 ≤ s.size) : sufF x s = false := by
  have hl : (bs s).length = 0 := by rw [bs_size]; omega
  rw [sufF, List.eq_nil_of_length_eq_zero hl]; rfl
theorem sufF_pos {x : UInt8} {s : ByteArray} (h : sufF x s = true) : 1 ≤ s.size := by
  by_cases h1 : 1 ≤ s.size
  · exact h1
  · rw [sufF_small x s h1] at h; cases h
theorem bs_sufL (x : UInt8) (s : ByteArray) : bs (sufL x s) = if sufF x s = true then (bs s).dropLast else bs s := by
  unfold sufL
  split
  · unfold bs; rw [Lib.extract_data, List.dropLast_eq_take]; simp
  · rfl
set_option maxHeartbeats 400000 in
set_option maxRecDepth 100000 in
theorem hasSuf_walk (s : ByteArray) (x : UInt8) (w : World) (hs : s.size ≤ 9223372036854775807) :
    Calls Tryd.prog 55 #[.string s, .string ⟨#[x]⟩] w fun e w' => e = .returned (.bool (sufF x s)) ∧ w = w' := by
  have e1 : ((⟨#[x]⟩ : ByteArray).size : Int) = 1 := rfl
  by_cases h : 1 ≤ s.size
  · have e := sufF_raw x s h
    have E := Lib.hid e
    have n1 : ((s.size : Int) - 1).toNat = s.size - 1 := by omega
    clear e
    go_enter Tryd.func55, Tryd.ntmps55
    go_wp2_with fail
    go_ret
    exact ⟨by rw [← E.out]; rfl, rfl⟩
  · rw [sufF_small x s h]
    go_enter Tryd.func55, Tryd.ntmps55
    go_wp2_with fail
    go_ret
    exact ⟨rfl, rfl⟩
set_option maxHeartbeats 400000 in
set_option maxRecDepth 100000 in
theorem cutSufLite_walk (s : ByteArray) (x : UInt8) (w : World) (hs : s.size ≤ 9223372036854775807) :
    Calls Tryd.prog 44 #[.string s, .string ⟨#[x]⟩] w fun e w' => e = .returned (.tuple #[.string (sufL x s), .bool (sufF x s)]) ∧ w = w' := by
  have e1 : ((⟨#[x]⟩ : ByteArray).size : Int) = 1 := rfl
  by_cases h : sufF x s = true
  · have h1 := sufF_pos h
    have er : sufL x s = s.extract 0 (s.size - 1) := by rw [sufL, if_pos h]
    have n1 : ((s.size : Int) - 1).toNat = s.size - 1 := by omega
    rw [er, h]
    have H := Lib.hid h
    clear h er
    go_enter Tryd.func44, Tryd.ntmps44
    go_wp2_with fail
    refine (hasSuf_walk _ _ _ hs).mono ?_
    rintro e w' ⟨rfl, rfl⟩
    rw [H.out]
    go_wp2
    go_ret2
    exact ⟨rfl, rfl⟩
  · have er : sufL x s = s := by rw [sufL, if_neg h]
    have h : sufF x s = false := by simpa using h
    rw [er, h]
    have H := Lib.hid h
    clear h er
    go_enter Tryd.func44, Tryd.ntmps44
    go_wp2_with fail
    refine (hasSuf_walk _ _ _ hs).mono ?_
    rintro e w' ⟨rfl, rfl⟩
    rw [H.out]
    go_wp2
    go_ret2
    exact ⟨rfl, rfl⟩
set_option maxHeartbeats 400000 in
theorem cutSuf_walk (s : ByteArray) (x : UInt8) (w : World) (hs : s.size ≤ 9223372036854775807) :
    Calls Tryd.prog 30 #[.string s, .string ⟨#[x]⟩] w fun e w' => e = .returned (.tuple #[.string (sufL x s), .bool (sufF x s)]) ∧ w = w' := by
  go_enter Tryd.func30, Tryd.ntmps30
  go_wp2_with fail
  refine (cutSufLite_walk _ _ _ hs).mono ?_
  rintro e w' ⟨rfl, rfl⟩
  go_wp2
  go_ret2
  exact ⟨rfl, rfl⟩
end Go.Proofs.YtfaojafhamhncaaDoor
