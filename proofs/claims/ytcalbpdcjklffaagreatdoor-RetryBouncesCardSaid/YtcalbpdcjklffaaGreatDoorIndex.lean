/- The walks of strings.IndexByte, strings.Index at a text of one byte, strings.Cut at one byte, strings.CutPrefix: what each answers; the world is as it was. -/
import Derived.Test.YtcalbpdcjklffaaGreatDoorChecked
import Derived.Test.YtcalbpdcjklffaaGreatDoorPlTake
import Derived.Lib.Bytealg
import Derived.Lib.Strings
import Derived.Lib.Slices
import Derived.Lib.Walk
import Derived.Lib.Hide
import Derived.WalkKit
import Derived.WalkSpells
import Derived.WalkLawsBesides
import Derived.Handy
import Derived.IntWalk
import Derived.Deep.QuietTactic
import Derived.BigQuiet
namespace Go.Proofs.YtcalbpdcjklffaaGreatDoor
open Go.RowKit
open Pl (idxB Bs)

/-- a text's bytes -/
abbrev bs (s : ByteArray) : Bs := s.data.toList
/-- a byte's place as Go has it -/
def idxI (x : UInt8) (l : Bs) : Int := if idxB x l < l.length then (idxB x l : Int) else -1
theorem idxI_lib (x : UInt8) (l : Bs) : Lib.indexByte l x = idxI x l := by
  induction l with
  | nil => rfl
  | cons c cs ih =>
    have hle := Pl.idxB_le x cs
    by_cases hc : c = x
    · subst hc
      have e : idxB c (c :: cs) = 0 := by simp [idxB]
      simp [Lib.indexByte, idxI, e]
    · have e : idxB x (c :: cs) = idxB x cs + 1 := by simp [idxB, hc]
      simp only [Lib.indexByte, ih, idxI, e, beq_iff_eq, hc, if_false, List.length_cons, Nat.add_lt_add_iff_right]
      by_cases h : idxB x cs < cs.length
      · simp only [h, if_true]
        rw [if_neg (by omega)]
        omega
      · simp only [h, if_false, if_true]

set_option maxHeartbeats 1000000 in
set_option maxRecDepth 100000 in
theorem indexByteLite_walk (s : ByteArray) (c : Int) (w : World) :
    Calls Tryz.prog 90 #[.string s, .int .u8 c] w fun e w' => e = .returned (.int .i64 (idxI c.toNat.toUInt8 (bs s))) ∧ w = w' := by
  go_enter Tryz.func90, Tryz.ntmps90
  go_wp2
  rw [run_callFunc_extern Tryz.func94 (by kernel_rfl) (by kernel_rfl) (by kernel_rfl) (e := Extern.BytealgIndexByte.indexByte) (by kernel_rfl), Lib.run_indexByteString]
  simp only [Result.andThen]
  rw [Oper.upon_value]
  go_wp2
  go_ret
  exact ⟨by rw [← idxI_lib]; rfl, rfl⟩

set_option maxHeartbeats 400000 in
theorem indexByte_walk (s : ByteArray) (c : Int) (w : World) :
    Calls Tryz.prog 87 #[.string s, .int .u8 c] w fun e w' => e = .returned (.int .i64 (idxI c.toNat.toUInt8 (bs s))) ∧ w = w' := by
  go_enter Tryz.func87, Tryz.ntmps87
  go_wp2_with fail
  refine (indexByteLite_walk _ _ _).mono ?_
  rintro e w' ⟨rfl, rfl⟩
  go_wp2
  go_ret
  exact ⟨rfl, rfl⟩

theorem idxI_self (x : UInt8) : idxI x [x] = 0 := by simp [idxI, idxB]

set_option maxHeartbeats 400000 in
set_option maxRecDepth 100000 in
theorem indexLite_walk (s : ByteArray) (x : UInt8) (w : World) :
    Calls Tryz.prog 84 #[.string s, .string ⟨#[x]⟩] w fun e w' => e = .returned (.int .i64 (idxI x (bs s))) ∧ w = w' := by
  have e1 : ((⟨#[x]⟩ : ByteArray).size : Int) = 1 := rfl
  by_cases hs : ([x] == s.toList) = true
  · have e0 : idxI x (bs s) = 0 := by
      have h := (beq_iff_eq.1 hs).symm
      rw [Lib.toList_data] at h
      rw [bs, h, idxI_self]
    rw [e0]
    clear e0
    go_enter Tryz.func84, Tryz.ntmps84
    go_wp2_with fail
    go_ret
    exact ⟨rfl, rfl⟩
  · have hb : ([x] == s.toList) = false := by simpa using hs
    clear hs
    go_enter Tryz.func84, Tryz.ntmps84
    go_wp2_with fail
    refine (indexByteLite_walk _ _ _).mono ?_
    rintro e w' ⟨rfl, rfl⟩
    have e2 : ((({ data := #[x] } : ByteArray)[0].toNat : Int)).toNat.toUInt8 = x := by
      show ((x.toNat : Int)).toNat.toUInt8 = x
      simp
    rw [e2]
    clear e2
    go_wp2
    go_ret
    exact ⟨rfl, rfl⟩

set_option maxHeartbeats 400000 in
theorem index_walk (s : ByteArray) (x : UInt8) (w : World) :
    Calls Tryz.prog 74 #[.string s, .string ⟨#[x]⟩] w fun e w' => e = .returned (.int .i64 (idxI x (bs s))) ∧ w = w' := by
  go_enter Tryz.func74, Tryz.ntmps74
  go_wp2_with fail
  refine (indexLite_walk _ _ _).mono ?_
  rintro e w' ⟨rfl, rfl⟩
  go_wp2
  go_ret
  exact ⟨rfl, rfl⟩

/-! cut at one byte -/
def cutL (x : UInt8) (s : ByteArray) : ByteArray := s.extract 0 (idxB x (bs s))
def cutR (x : UInt8) (s : ByteArray) : ByteArray := s.extract (idxB x (bs s) + 1) s.size
def cutF (x : UInt8) (s : ByteArray) : Bool := decide (idxB x (bs s) < (bs s).length)
theorem bs_size (s : ByteArray) : (bs s).length = s.size := by simp [bs]
theorem bs_cutL (x : UInt8) (s : ByteArray) : bs (cutL x s) = (bs s).take (idxB x (bs s)) := by
  simp [bs, cutL]
theorem bs_cutR (x : UInt8) (s : ByteArray) : bs (cutR x s) = (bs s).drop (idxB x (bs s) + 1) := by
  unfold bs cutR
  rw [Lib.extract_data]
  exact List.take_of_length_le (by simp)
theorem bs_inj {s t : ByteArray} (h : bs s = bs t) : s = t := by
  obtain ⟨⟨l⟩⟩ := s
  obtain ⟨⟨m⟩⟩ := t
  simp only [bs] at h
  subst h
  rfl
theorem cutL_miss {x : UInt8} {s : ByteArray} (h : ¬ idxB x (bs s) < (bs s).length) : cutL x s = s := by
  apply bs_inj
  rw [bs_cutL, List.take_of_length_le (by have := Pl.idxB_le x (bs s); omega)]
theorem cutR_miss {x : UInt8} {s : ByteArray} (h : ¬ idxB x (bs s) < (bs s).length) : cutR x s = ⟨#[]⟩ := by
  apply bs_inj
  rw [bs_cutR, List.drop_of_length_le (by omega)]
set_option maxHeartbeats 400000 in
set_option maxRecDepth 100000 in
theorem cutLite_walk (s : ByteArray) (x : UInt8) (w : World) (hs : s.size ≤ 9223372036854775807) :
    Calls Tryz.prog 75 #[.string s, .string ⟨#[x]⟩] w fun e w' => e = .returned (.tuple #[.string (cutL x s), .string (cutR x s), .bool (cutF x s)]) ∧ ∃ q, w' = w.drewN q := by
  have hle := Pl.idxB_le x (bs s)
  have hz := bs_size s
  by_cases h : idxB x (bs s) < (bs s).length
  · have e0 : idxI x (bs s) = (idxB x (bs s) : Int) := by rw [idxI, if_pos h]
    have e1 : cutF x s = true := by rw [cutF]; exact decide_eq_true h
    have e2 : cutL x s = s.extract 0 (idxB x (bs s)) := rfl
    have e3 : cutR x s = s.extract (idxB x (bs s) + 1) s.size := rfl
    rw [e1, e2, e3]
    rw [hz] at hle h
    clear e1 e2 e3 hz
    generalize idxB x (bs s) = k at e0 hle h ⊢
    have E0 := Lib.hid e0
    clear e0
    go_enter Tryz.func75, Tryz.ntmps75
    go_wp2_with fail
    refine (indexLite_walk _ _ _).mono ?_
    rintro e w' ⟨rfl, rfl⟩
    rw [E0.out]
    clear E0
    have w1 : IntKind.i64.wrap ((k : Int) + 1) = (k : Int) + 1 := IntWalk.i64_in _ (by omega)
    have t1 : ((k : Int) + 1).toNat = k + 1 := by omega
    go_wp2
    go_quiet (fail)
    go_wp2
    go_ret3
    exact ⟨rfl, _, rfl⟩
  · have e0 : idxI x (bs s) = -1 := by rw [idxI, if_neg h]
    have e1 : cutF x s = false := by rw [cutF]; exact decide_eq_false h
    rw [e1, cutL_miss h, cutR_miss h]
    have E0 := Lib.hid e0
    clear e0 e1 hz h hle
    go_enter Tryz.func75, Tryz.ntmps75
    go_wp2_with fail
    refine (indexLite_walk _ _ _).mono ?_
    rintro e w' ⟨rfl, rfl⟩
    rw [E0.out]
    go_wp2
    go_ret3
    exact ⟨rfl, 0, rfl⟩

set_option maxHeartbeats 400000 in
theorem cut_walk (s : ByteArray) (x : UInt8) (w : World) (hs : s.size ≤ 9223372036854775807) :
    Calls Tryz.prog 61 #[.string s, .string ⟨#[x]⟩] w fun e w' => e = .returned (.tuple #[.string (cutL x s), .string (cutR x s), .bool (cutF x s)]) ∧ ∃ q, w' = w.drewN q := by
  go_enter Tryz.func61, Tryz.ntmps61
  go_wp2_with fail
  refine (cutLite_walk _ _ _ hs).mono ?_
  rintro e w' ⟨rfl, q, rfl⟩
  go_wp2
  go_ret3
  exact ⟨rfl, q, rfl⟩

/-! a prefix of one byte -/
def preF (x : UInt8) (s : ByteArray) : Bool := (bs s).head? == some x
def preR (x : UInt8) (s : ByteArray) : ByteArray := if preF x s = true then s.extract 1 s.size else s
theorem preF_raw (x : UInt8) (s : ByteArray) (h : 1 ≤ s.size) : ((s.extract 0 1).toList == [x]) = preF x s := by
  have e : (s.extract 0 1).toList = (bs s).take 1 := by rw [Lib.toList_data, Lib.extract_data]; simp [bs]
  rw [e, preF]
  have hl : 1 ≤ (bs s).length := by rw [bs_size]; exact h
  cases hb : bs s with
  | nil => rw [hb] at hl; simp at hl
  | cons c t => simp
theorem preF_small (x : UInt8) (s : ByteArray) (h : ¬ 1 ≤ s.size) : preF x s = false := by
  have hl : (bs s).length = 0 := by rw [bs_size]; omega
  rw [preF, List.eq_nil_of_length_eq_zero hl]; rfl
set_option maxHeartbeats 400000 in
set_option maxRecDepth 100000 in
theorem hasPre_walk (s : ByteArray) (x : UInt8) (w : World) (hs : s.size ≤ 9223372036854775807) :
    Calls Tryz.prog 85 #[.string s, .string ⟨#[x]⟩] w fun e w' => e = .returned (.bool (preF x s)) ∧ w = w' := by
  have e1 : ((⟨#[x]⟩ : ByteArray).size : Int) = 1 := rfl
  by_cases h : 1 ≤ s.size
  · have e := preF_raw x s h
    have E := Lib.hid e
    clear e
    go_enter Tryz.func85, Tryz.ntmps85
    go_wp2_with fail
    go_ret
    exact ⟨by rw [← E.out]; rfl, rfl⟩
  · rw [preF_small x s h]
    go_enter Tryz.func85, Tryz.ntmps85
    go_wp2_with fail
    go_ret
    exact ⟨rfl, rfl⟩
theorem preF_pos {x : UInt8} {s : ByteArray} (h : preF x s = true) : 1 ≤ s.size := by
  by_cases h1 : 1 ≤ s.size
  · exact h1
  · rw [preF_small x s h1] at h; cases h
theorem bs_preR (x : UInt8) (s : ByteArray) : bs (preR x s) = if preF x s = true then (bs s).drop 1 else bs s := by
  unfold preR
  split
  · unfold bs; rw [Lib.extract_data]; exact List.take_of_length_le (by simp)
  · rfl
set_option maxHeartbeats 400000 in
set_option maxRecDepth 100000 in
theorem cutPreLite_walk (s : ByteArray) (x : UInt8) (w : World) (hs : s.size ≤ 9223372036854775807) :
    Calls Tryz.prog 76 #[.string s, .string ⟨#[x]⟩] w fun e w' => e = .returned (.tuple #[.string (preR x s), .bool (preF x s)]) ∧ w = w' := by
  have e1 : ((⟨#[x]⟩ : ByteArray).size : Int) = 1 := rfl
  by_cases h : preF x s = true
  · have h1 := preF_pos h
    have er : preR x s = s.extract 1 s.size := by rw [preR, if_pos h]
    rw [er, h]
    have H := Lib.hid h
    clear h er
    go_enter Tryz.func76, Tryz.ntmps76
    go_wp2_with fail
    refine (hasPre_walk _ _ _ hs).mono ?_
    rintro e w' ⟨rfl, rfl⟩
    rw [H.out]
    go_wp2
    go_ret2
    exact ⟨rfl, rfl⟩
  · have er : preR x s = s := by rw [preR, if_neg h]
    have h : preF x s = false := by simpa using h
    rw [er, h]
    have H := Lib.hid h
    clear h er
    go_enter Tryz.func76, Tryz.ntmps76
    go_wp2_with fail
    refine (hasPre_walk _ _ _ hs).mono ?_
    rintro e w' ⟨rfl, rfl⟩
    rw [H.out]
    go_wp2
    go_ret2
    exact ⟨rfl, rfl⟩
set_option maxHeartbeats 400000 in
theorem cutPre_walk (s : ByteArray) (x : UInt8) (w : World) (hs : s.size ≤ 9223372036854775807) :
    Calls Tryz.prog 62 #[.string s, .string ⟨#[x]⟩] w fun e w' => e = .returned (.tuple #[.string (preR x s), .bool (preF x s)]) ∧ w = w' := by
  go_enter Tryz.func62, Tryz.ntmps62
  go_wp2_with fail
  refine (cutPreLite_walk _ _ _ hs).mono ?_
  rintro e w' ⟨rfl, rfl⟩
  go_wp2
  go_ret2
  exact ⟨rfl, rfl⟩
end Go.Proofs.YtcalbpdcjklffaaGreatDoor
