/- The walk of RetryKeeps: whatever the message and the moment are, the call answers true. -/
import Derived.Test.YtcalbpdcjklffaaDoorBounce
import Derived.Test.YtcalbpdcjklffaaDoorRetryEndsW
namespace Go.Proofs.YtcalbpdcjklffaaDoor
open Go.RowKit
open Pl (goDomain)
set_option linter.unusedSimpArgs false
set_option linter.unusedVariables false
theorem ends_with {s p m : ByteArray} (h : s = p ++ m) (hp : 0 < p.size) : s.size = p.size + m.size ∧ (s.extract p.size (p.size + m.size)).toList = m.toList := by
  have hz : s.size = p.size + m.size := by rw [h, ByteArray.size_append]
  refine ⟨hz, ?_⟩
  have : s.extract p.size (p.size + m.size) = m := by
    rw [h]; exact ByteArray.extract_append_eq_right rfl rfl
  rw [this]
theorem stamp_size (g dm : ByteArray) (n t : Nat) (msg : ByteArray) (hn : n ≤ 9223372036854775807) (ht : t ≤ 4102444799) (hg : g.size ≤ 1000) (hd : dm.size ≤ 1000) (hm : msg.size ≤ 10000) : (stampS g dm n t msg).size ≤ 100000 := by
  have zm := mailT_size t ht
  have zi := decS_few n hn
  simp only [stampS, ByteArray.size_append]
  rw [show (⟨#[82, 101, 99, 101, 105, 118, 101, 100, 58, 32, 102, 114, 111, 109, 32]⟩ : ByteArray).size = 15 from rfl, show (⟨#[32, 98, 121, 32]⟩ : ByteArray).size = 4 from rfl, show (⟨#[13, 10]⟩ : ByteArray).size = 2 from rfl, show (⟨#[9, 102, 111, 114, 32, 49, 32, 111, 102, 32]⟩ : ByteArray).size = 10 from rfl, show (⟨#[59, 32]⟩ : ByteArray).size = 2 from rfl]
  omega
theorem stamp_ends (g dm : ByteArray) (n t : Nat) (msg : ByteArray) : ∃ p, stampS g dm n t msg = p ++ msg ∧ 0 < p.size :=
  ⟨_, rfl, by simp only [ByteArray.size_append]; rw [show (⟨#[82, 101, 99, 101, 105, 118, 101, 100, 58, 32, 102, 114, 111, 109, 32]⟩ : ByteArray).size = 15 from rfl]; omega⟩
theorem join_last {xs : List (List UInt8)} (h : xs ≠ []) (b sep : List UInt8) : Lib.join (xs ++ [b]) sep = Lib.join xs sep ++ (sep ++ b) := by
  cases xs with
  | nil => exact absurd rfl h
  | cons x r =>
    rw [List.cons_append, Lib.join_cons, Lib.join_cons, List.append_assoc]
    simp [Lib.joinTail]
theorem bounce_ends (dm to : ByteArray) (n t : Nat) (ns : List ByteArray) (msg : ByteArray) : ∃ p, bounceS dm to n t ns msg = p ++ cutM msg ∧ 0 < p.size := by
  refine ⟨joinS (linesS dm to n t ns ++ [⟨#[]⟩]) ⟨#[13, 10]⟩ ++ ⟨#[13, 10]⟩, ?_, ?_⟩
  · have e : linesS dm to n t ns ++ [⟨#[]⟩, cutM msg] = (linesS dm to n t ns ++ [⟨#[]⟩]) ++ [cutM msg] := by simp
    rw [bounceS, e]
    apply ByteArray.ext
    apply Array.toList_inj.1
    rw [joinS, joinS, List.map_append, List.map_cons, List.map_nil, join_last (by simp)]
    simp [ByteArray.data_append]
  · simp only [ByteArray.size_append]; rw [show (⟨#[13, 10]⟩ : ByteArray).size = 2 from rfl]; omega
def sX : ByteArray := ⟨#[120]⟩
def sHost : ByteArray := ⟨#[104, 111, 115, 116]⟩
def sAB : ByteArray := ⟨#[97, 64, 98]⟩
def sAnn : ByteArray := ⟨#[97, 110, 110]⟩
theorem bare_AB : refBare18B sAB = true := by decide +kernel
theorem dom_x : goDomain (bs sX) = true := by decide +kernel
theorem dom_host : goDomain (bs sHost) = true := by decide +kernel
theorem ann_at (w : World) : NamesAt (w.alloc (.cells #[.string sAnn] 9)) (some ⟨w.heap.size, 0, none⟩) 1 [sAnn] := by
  refine ⟨rfl, by omega, fun _ => ⟨_, 0, rfl, by rw [World.size_alloc]; omega, fun j x hj => ?_⟩⟩
  have hb : (w.alloc (.cells #[.string sAnn] 9)).heap[w.heap.size]? = some (.cells #[.string sAnn] 9) := World.alloc_heap_new w _
  rcases j with _ | j
  · simp at hj; subst hj
    simp only [World.cell?]
    rw [hb]; rfl
  · simp at hj
set_option maxHeartbeats 8000000 in
set_option maxRecDepth 100000 in
theorem keeps_walk (msg : ByteArray) (now : Int) (v : Value) (w : World) (hW : Waits w) (hT : TabW w) (hc : w.cell? ⟨2, 0, none⟩ = some v) (hv : ∃ t x, v = .iface t x) :
    Calls Tryd.prog 11 #[.string msg, .int .i64 now] w fun e w' => e = .returned (.bool true) ∧ Below w.heap.size w w' := by
  have HAl := Lib.hid (alive18 w hW)
  have HT := Lib.hid hT
  have HC := Lib.hid hc
  clear hW hT hc
  by_cases h5 : msg.size ≤ 5000
  · have hm := i64_and31 now
    obtain ⟨t, em⟩ : ∃ t : Nat, (t : Int) = now % 2147483648 := ⟨(now % 2147483648).toNat, by omega⟩
    have ht : t ≤ 2147483647 := by omega
    rw [← em] at hm
    clear em
    have KS := Lib.hid (fun W h => stamp_good sX sHost msg 1 t (by omega) (by omega) (by omega) (by decide) (by decide) (by omega) dom_x dom_host W h)
    have KB := Lib.hid (fun A c W h1 h2 h3 => bounce_good sHost sAB msg 1 t A 1 c [sAnn] v (by omega) (by omega) (by omega) (by decide) (by decide) (by omega) (by decide) dom_host ((bare_same _).trans bare_AB) W h1 h2 h3 hv)
    have KR := Lib.hid (fun W => refBare18_walk sAB W (by decide))
    rw [bare_AB] at KR
    obtain ⟨p1, e1, z1⟩ := stamp_ends sX sHost 1 t msg
    obtain ⟨p2, e2, z2⟩ := bounce_ends sHost sAB 1 t [sAnn] msg
    obtain ⟨y1, x1⟩ := ends_with e1 z1
    obtain ⟨y2, x2⟩ := ends_with e2 z2
    have s1 := stamp_size sX sHost 1 t msg (by omega) (by omega) (by decide) (by decide) (by omega)
    have s2 := joinS_size (bounce_size sHost sAB 1 t [sAnn] msg (by omega) (by omega) (by decide) (by decide) (by decide) (by omega))
    rw [← bounceS] at s2
    have hcm := cutM_size msg
    have HM := show cutM msg = msg.extract 0 (min (msg.size : Int) 2000).toNat from rfl
    clear e1 e2
    generalize stampS sX sHost 1 t msg = S1 at *
    generalize bounceS sHost sAB 1 t [sAnn] msg = S2 at *
    rw [hcm] at x2 y2
    rw [HM] at x2
    clear HM hcm
    generalize p1.size = q1 at *
    generalize p2.size = q2 at *
    by_cases h20 : msg.size ≤ 2000
    · rw [if_pos h20] at x2 y2
      have hmin : min (msg.size : Int) 2000 = msg.size := by omega
      rw [hmin, Int.toNat_natCast] at x2
      go_enter Tryd.func11, Tryd.ntmps11
      go_wp2_with fail
      refine HAl.out.mono ?_
      rintro e w2 ⟨rfl, rfl⟩
      go_wp2_with fail
      refine (KS.out _ HT.out).mono ?_
      rintro e w3 ⟨rfl, hB3⟩
      have HB3 := Lib.hid hB3
      clear hB3
      go_wp2_with fail
      have hB4 := alloc_below w3 (Obj.cells #[.string sAnn] 9)
      have HB4 := Lib.hid (below_then HB3.out hB4)
      clear hB4
      refine (KB.out _ _ _ (HT.out.then HB4.out) (ann_at w3) (sent_then HC.out HB4.out)).mono ?_
      rintro e w5 ⟨rfl, hB5⟩
      have HB5 := Lib.hid (below_then HB4.out hB5)
      clear hB5
      go_wp2_with fail
      refine (KR.out _).mono ?_
      rintro e w6 ⟨rfl, hB6⟩
      have HB6 := Lib.hid (below_then HB5.out hB6)
      clear hB6
      go_wp2
      go_ret
      exact ⟨retBool (by simp; try omega), HB6.out⟩
    · rw [if_neg h20] at x2 y2
      have hmin : min (msg.size : Int) 2000 = 2000 := by omega
      have hmin2 : min 2000 msg.size = 2000 := by omega
      rw [hmin, show (2000 : Int).toNat = 2000 from rfl] at x2
      go_enter Tryd.func11, Tryd.ntmps11
      go_wp2_with fail
      refine HAl.out.mono ?_
      rintro e w2 ⟨rfl, rfl⟩
      go_wp2_with fail
      refine (KS.out _ HT.out).mono ?_
      rintro e w3 ⟨rfl, hB3⟩
      have HB3 := Lib.hid hB3
      clear hB3
      go_wp2_with fail
      have hB4 := alloc_below w3 (Obj.cells #[.string sAnn] 9)
      have HB4 := Lib.hid (below_then HB3.out hB4)
      clear hB4
      refine (KB.out _ _ _ (HT.out.then HB4.out) (ann_at w3) (sent_then HC.out HB4.out)).mono ?_
      rintro e w5 ⟨rfl, hB5⟩
      have HB5 := Lib.hid (below_then HB4.out hB5)
      clear hB5
      go_wp2_with fail
      refine (KR.out _).mono ?_
      rintro e w6 ⟨rfl, hB6⟩
      have HB6 := Lib.hid (below_then HB5.out hB6)
      clear hB6
      go_wp2
      go_ret
      exact ⟨retBool (by simp; try omega), HB6.out⟩
  · go_enter Tryd.func11, Tryd.ntmps11
    go_wp2_with fail
    refine HAl.out.mono ?_
    rintro e w2 ⟨rfl, rfl⟩
    go_wp2
    go_ret
    exact ⟨rfl, Below.refl _ _⟩
end Go.Proofs.YtcalbpdcjklffaaDoor
