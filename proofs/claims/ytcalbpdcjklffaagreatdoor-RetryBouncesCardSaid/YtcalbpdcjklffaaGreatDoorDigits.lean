/- The walk of the document's Digits. -/
import Derived.Test.YtcalbpdcjklffaaGreatDoorItoa
import Derived.Test.YtcalbpdcjklffaaGreatDoorRefDates
import Derived.Laws.IdiomStrings
namespace Go.Proofs.YtcalbpdcjklffaaGreatDoor
open Go.RowKit
open Go.Lib (decDigits)
set_option linter.unusedSimpArgs false
set_option linter.unusedVariables false
theorem byte_text (W w1 : World) (x : UInt8) (h : W.alloc (Obj.cells #[.int .u8 (x.toNat : Int)] 5) = w1) :
    (convert 58 9 (.slice (some ⟨W.heap.size, 0, none⟩) 1 1)).run Tryz.prog w1 = .ok (.string ⟨#[x]⟩) w1 := by
  have hP : w1.heap[W.heap.size]? = some (Obj.cells #[.int .u8 (x.toNat : Int)] 5) := by rw [← h]; exact heap_alloc_new W _
  refine run_convert_bytes_back w1 _ _ 5 _ 1 [x] Tryz.underlying58 Tryz.underlying5 Tryz.underlying9 (fun j hj => ?_)
  obtain rfl : j = 0 := by simpa using hj
  simp [Addr.add, World.cell?, hP]
theorem dec_dig (k : Nat) : ((UInt8.ofNat (48 + k % 10)).toNat : Int) = 48 + (k : Int) % 10 := by
  have h : (UInt8.ofNat (48 + k % 10)).toNat = 48 + k % 10 := by rw [UInt8.toNat_ofNat']; omega
  rw [h]; omega
theorem dec_last {k : Nat} (h : k ≤ 9) : decDigits k = [UInt8.ofNat (48 + k % 10)] := by
  rw [decDigits, dif_pos (by omega), show k % 10 = k by omega]
theorem dec_front {k : Nat} (h : 9 < k) : decDigits k = decDigits (k / 10) ++ [UInt8.ofNat (48 + k % 10)] := by rw [decDigits, dif_neg (by omega)]
theorem dec_long (N : Nat) (hN : N ≤ 9223372036854775807) : (decDigits N).length ≤ 20 := by
  have := decS_size N (by omega)
  rw [decS, ByteArray.size] at this; simpa using this
set_option maxHeartbeats 4000000 in
set_option maxRecDepth 100000 in
theorem digits10_walk (N : Nat) (hN : N ≤ 9223372036854775807) (w : World) :
    Calls Tryz.prog 24 #[.int .i64 N] w fun e w' => e = .returned (.string (decS N)) ∧ Below w.heap.size w w' := by
  have hd20 := dec_long N hN
  go_enter Tryz.func24, Tryz.ntmps24
  go_wp2
  go_loopw [0, 3] (fun nv sv wr => ∃ (k : Nat) (S : ByteArray), k ≤ 9223372036854775807 ∧ nv = .int .i64 k ∧ sv = .string S ∧ S.size ≤ 20 ∧ Hid (decDigits N = decDigits k ++ S.data.toList) ∧ Hid (Below w.heap.size w wr)) (fun nv _ _ => (intOf nv).toNat)
  case atStart => exact ⟨N, ⟨#[]⟩, hN, rfl, rfl, Nat.zero_le _, Lib.hid (by simp), Lib.hid (Below.refl _ _)⟩
  case round =>
    obtain ⟨k, S, hk, rfl, rfl, hS, HS, HB⟩ := hrel
    have zs := HB.out.size
    have hx := dec_dig k
    by_cases h9 : 9 < k
    · have hfr := dec_front h9
      have hlen : S.size + 1 ≤ 20 := by
        have h := HS.out
        rw [hfr] at h
        have hl := congrArg List.length h
        simp only [List.length_append, List.length_singleton] at hl
        have hz : S.data.toList.length = S.size := by simp
        have hp : 0 < (decDigits (k / 10)).length := by
          cases e : decDigits (k / 10) with
          | nil => rw [decDigits] at e; split at e <;> simp at e
          | cons => simp
        omega
      have HN := Lib.hid (show decDigits N = decDigits (k / 10) ++ ((⟨#[UInt8.ofNat (48 + k % 10)]⟩ : ByteArray) ++ S).data.toList by
        rw [HS.out, hfr]; simp [ByteArray.data_append])
      have hb1 := (Below.refl wr.heap.size wr).alloc (Nat.le_refl _) (Obj.cells #[.int .u8 (((UInt8.ofNat (48 + k % 10)).toNat : Nat) : Int)] 5)
      generalize hw : wr.alloc (Obj.cells #[.int .u8 (((UInt8.ofNat (48 + k % 10)).toNat : Nat) : Int)] 5) = w1 at hb1
      have hcv := byte_text wr w1 _ hw
      have HB1 := Lib.hid (below_then HB.out hb1)
      have hz1 : (⟨#[UInt8.ofNat (48 + k % 10)]⟩ : ByteArray).size = 1 := rfl
      have HZ := Lib.hid (show ((⟨#[UInt8.ofNat (48 + k % 10)]⟩ : ByteArray) ++ S).size ≤ 20 by rw [ByteArray.size_append, hz1]; omega)
      rw [hx] at hw
      clear hb1 hfr hx
      generalize UInt8.ofNat (48 + k % 10) = x at *
      go_wp2
      go_roundw
      case rel => exact ⟨k / 10, ⟨#[x]⟩ ++ S, by omega, by go_num, rfl, HZ.out, HN, HB1⟩
      case measure => simp [intOf]; omega
    · have hla := dec_last (k := k) (by omega)
      rw [show (k : Int) % 10 = k by omega] at hx
      have HN := Lib.hid (show decS N = ⟨#[UInt8.ofNat (48 + k % 10)]⟩ ++ S by
        apply ByteArray.ext
        have h := HS.out
        rw [hla] at h
        rw [decS, h]; simp [ByteArray.data_append])
      have hb1 := (Below.refl wr.heap.size wr).alloc (Nat.le_refl _) (Obj.cells #[.int .u8 (((UInt8.ofNat (48 + k % 10)).toNat : Nat) : Int)] 5)
      generalize hw : wr.alloc (Obj.cells #[.int .u8 (((UInt8.ofNat (48 + k % 10)).toNat : Nat) : Int)] 5) = w1 at hb1
      have hcv := byte_text wr w1 _ hw
      have HB1 := Lib.hid (below_then HB.out hb1)
      have hz1 : (⟨#[UInt8.ofNat (48 + k % 10)]⟩ : ByteArray).size = 1 := rfl
      rw [hx] at hw
      clear hb1 hla hx
      generalize UInt8.ofNat (48 + k % 10) = x at *
      go_wp2
      go_ret
      exact ⟨by rw [HN.out]; rfl, HB1.out⟩
end Go.Proofs.YtcalbpdcjklffaaGreatDoor
