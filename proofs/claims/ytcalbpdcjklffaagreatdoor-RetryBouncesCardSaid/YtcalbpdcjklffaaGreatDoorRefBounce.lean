/- The walk of the document's Bounce, and that the program's says the same. -/
import Derived.Test.YtcalbpdcjklffaaGreatDoorBounce
import Derived.Handy
namespace Go.Proofs.YtcalbpdcjklffaaGreatDoor
open Go.RowKit
set_option linter.unusedSimpArgs false
set_option linter.unusedVariables false
def preS (dm to : ByteArray) (n t : Nat) : ByteArray := ⟨#[70, 114, 111, 109, 58, 32, 77, 65, 73, 76, 69, 82, 45, 68, 65, 69, 77, 79, 78, 64]⟩ ++ dm ++ ⟨#[13, 10, 84, 111, 58, 32]⟩ ++ to ++ ⟨#[13, 10, 83, 117, 98, 106, 101, 99, 116, 58, 32, 85, 110, 100, 101, 108, 105, 118, 101, 114, 101, 100, 13, 10, 68, 97, 116, 101, 58, 32]⟩ ++ mailT t ++ ⟨#[13, 10, 77, 101, 115, 115, 97, 103, 101, 45, 73, 68, 58, 32, 60, 98, 111, 117, 110, 99, 101, 46]⟩ ++ decS n ++ ⟨#[64]⟩ ++ dm ++ ⟨#[62, 13, 10, 13, 10, 78, 111, 116, 32, 100, 101, 108, 105, 118, 101, 114, 101, 100, 32, 116, 111, 58, 13, 10]⟩
def accS (s : ByteArray) (ns : List ByteArray) : ByteArray := ns.foldl (fun s x => s ++ (⟨#[32]⟩ ++ x ++ ⟨#[13, 10]⟩)) s
def cutR18 (msg : ByteArray) : ByteArray := if 2000 < msg.size then msg.extract 0 2000 else msg
def refBounceS (dm to : ByteArray) (n t : Nat) (ns : List ByteArray) (msg : ByteArray) : ByteArray := accS (preS dm to n t) ns ++ ⟨#[13, 10]⟩ ++ cutR18 msg
theorem acc_next {s : ByteArray} {ns : List ByteArray} {k : Nat} (hk : k < ns.length) : accS s (ns.take (k + 1)) = accS s (ns.take k) ++ (⟨#[32]⟩ ++ ns[k] ++ ⟨#[13, 10]⟩) := by
  rw [accS, accS, List.take_succ_eq_append_getElem hk, List.foldl_append]; rfl
theorem acc_size (s : ByteArray) (ns : List ByteArray) : (accS s ns).size = s.size + nsum ns + 2 * ns.length := by
  induction ns generalizing s with
  | nil => rfl
  | cons x r ih =>
    rw [accS, List.foldl_cons]
    refine (ih _).trans ?_
    simp only [ByteArray.size_append, nsum, List.map_cons, List.sum_cons, List.length_cons]
    rw [show (⟨#[32]⟩ : ByteArray).size = 1 from rfl, show (⟨#[13, 10]⟩ : ByteArray).size = 2 from rfl]
    omega
theorem acc_bytes (s : ByteArray) (ns : List ByteArray) : (accS s ns).data.toList = s.data.toList ++ (ns.map fun x => 32 :: (x.data.toList ++ [13, 10])).flatten := by
  induction ns generalizing s with
  | nil => simp [accS]
  | cons x r ih =>
    rw [accS, List.foldl_cons]
    refine (ih _).trans ?_
    simp [ByteArray.data_append]
theorem shift (sep : List UInt8) (ys : List (List UInt8)) : (ys.map (sep ++ ·)).flatten ++ sep = sep ++ (ys.map (· ++ sep)).flatten := by
  induction ys with
  | nil => simp
  | cons y r ih => simp only [List.map_cons, List.flatten_cons, List.append_assoc, ih]
theorem cut_same (msg : ByteArray) : cutM msg = cutR18 msg := by
  rw [cutM, cutR18]
  split
  · rw [show (min (msg.size : Int) 2000).toNat = 2000 by omega]
  · rw [show (min (msg.size : Int) 2000).toNat = msg.size by omega]; exact ByteArray.extract_zero_size
theorem tail_names (ns : List ByteArray) (M : List UInt8) : Lib.joinTail [13, 10] ((ns.map fun x => (⟨#[32]⟩ : ByteArray) ++ x).map (·.data.toList) ++ [[], M]) = [13, 10] ++ (ns.map fun x => 32 :: (x.data.toList ++ [13, 10])).flatten ++ ([13, 10] ++ M) := by
  have h := shift [13, 10] (ns.map fun x => 32 :: x.data.toList)
  simp only [List.map_map] at h
  have e1 : (ns.map fun x => 32 :: (x.data.toList ++ [13, 10])) = ns.map ((· ++ [13, 10]) ∘ fun x => 32 :: x.data.toList) := by
    apply List.map_congr_left; intro x _; rfl
  have e2 : ((ns.map fun x => (⟨#[32]⟩ : ByteArray) ++ x).map (·.data.toList)).map ([13, 10] ++ ·) = ns.map (([13, 10] ++ ·) ∘ fun x => 32 :: x.data.toList) := by
    rw [List.map_map, List.map_map]
    apply List.map_congr_left; intro x _; simp [ByteArray.data_append]
  rw [e1, ← h, Lib.joinTail, List.map_append, List.flatten_append, e2]
  simp
set_option maxRecDepth 100000 in
theorem bounce_same (dm to : ByteArray) (n t : Nat) (ns : List ByteArray) (msg : ByteArray) : bounceS dm to n t ns msg = refBounceS dm to n t ns msg := by
  apply ByteArray.ext
  apply Array.toList_inj.1
  rw [refBounceS, bounceS, cut_same]
  generalize cutR18 msg = M
  have hb := tail_names ns M.data.toList
  simp only [ByteArray.data_append, Array.toList_append, acc_bytes, joinS, linesS, sevenS, preS, fromS, toS, dateS, midS, List.cons_append, List.nil_append, List.map_cons, List.map_append, List.map_nil, Lib.join_cons] at hb ⊢
  have step : ∀ (x : List UInt8) (r : List (List UInt8)), Lib.joinTail [13, 10] (x :: r) = [13, 10] ++ x ++ Lib.joinTail [13, 10] r := fun x r => by simp [Lib.joinTail]
  simp only [step]
  rw [hb]
  simp only [List.append_assoc, List.cons_append, List.nil_append]
theorem pre_size (dm to : ByteArray) (n t : Nat) (hn : n ≤ 9223372036854775807) (ht : t ≤ 4102444799) (hd : dm.size ≤ 1000000) (hto : to.size ≤ 1000000) : (preS dm to n t).size ≤ 4000000 := by
  have zm := mailT_size t ht
  have zi := decS_few n hn
  simp only [preS, ByteArray.size_append]
  rw [show (⟨#[70, 114, 111, 109, 58, 32, 77, 65, 73, 76, 69, 82, 45, 68, 65, 69, 77, 79, 78, 64]⟩ : ByteArray).size = 20 from rfl, show (⟨#[13, 10, 84, 111, 58, 32]⟩ : ByteArray).size = 6 from rfl, show (⟨#[13, 10, 83, 117, 98, 106, 101, 99, 116, 58, 32, 85, 110, 100, 101, 108, 105, 118, 101, 114, 101, 100, 13, 10, 68, 97, 116, 101, 58, 32]⟩ : ByteArray).size = 30 from rfl, show (⟨#[13, 10, 77, 101, 115, 115, 97, 103, 101, 45, 73, 68, 58, 32, 60, 98, 111, 117, 110, 99, 101, 46]⟩ : ByteArray).size = 22 from rfl, show (⟨#[64]⟩ : ByteArray).size = 1 from rfl, show (⟨#[62, 13, 10, 13, 10, 78, 111, 116, 32, 100, 101, 108, 105, 118, 101, 114, 101, 100, 32, 116, 111, 58, 13, 10]⟩ : ByteArray).size = 24 from rfl]
  omega
set_option maxHeartbeats 8000000 in
set_option maxRecDepth 100000 in
theorem refBounce_walk (dm to msg : ByteArray) (n t : Nat) (A : Option Addr) (m c : Nat) (ns : List ByteArray) (hn : n ≤ 9223372036854775807) (ht : t ≤ 4102444799) (hd : dm.size ≤ 1000000) (hto : to.size ≤ 1000000) (hm : msg.size ≤ 1000000) (hns : nsum ns ≤ 1000000) (w : World)
    (hN : NamesAt w A m ns) :
    Calls Tryz.prog 11 #[.string dm, .string to, .int .i64 n, .slice A m c, .int .i64 t, .string msg] w fun e w' => e = .returned (.string (refBounceS dm to n t ns msg)) ∧ Below w.heap.size w w' := by
  have HN := Lib.hid hN
  have hl := hN.1
  have hlen := length_nsum ns
  have KM := Lib.hid (fun W => refMail_walk t ht W)
  have KI := Lib.hid (fun W => digits10_walk n hn W)
  have zm := mailT_size t ht
  have zi := decS_few n hn
  have hpz := pre_size dm to n t hn ht hd hto
  have HAZ := Lib.hid (fun (k : Nat) => show (accS (preS dm to n t) (ns.take k)).size ≤ 20000000 by
    have h1 := acc_size (preS dm to n t) (ns.take k)
    have h2 := nsum_mono ns k
    rw [List.length_take] at h1
    omega)
  have HXs := Lib.hid (fun (x : ByteArray) (hx : x ∈ ns) => show x.size ≤ 1000000 by
    have := nsum_mem hx
    omega)
  have HNx := Lib.hid (fun (k : Nat) (hk : k < ns.length) => acc_next (s := preS dm to n t) hk)
  have H0 := Lib.hid (show accS (preS dm to n t) (ns.take 0) = ⟨#[70, 114, 111, 109, 58, 32, 77, 65, 73, 76, 69, 82, 45, 68, 65, 69, 77, 79, 78, 64]⟩ ++ dm ++ ⟨#[13, 10, 84, 111, 58, 32]⟩ ++ to ++ ⟨#[13, 10, 83, 117, 98, 106, 101, 99, 116, 58, 32, 85, 110, 100, 101, 108, 105, 118, 101, 114, 101, 100, 13, 10, 68, 97, 116, 101, 58, 32]⟩ ++ mailT t ++ ⟨#[13, 10, 77, 101, 115, 115, 97, 103, 101, 45, 73, 68, 58, 32, 60, 98, 111, 117, 110, 99, 101, 46]⟩ ++ decS n ++ ⟨#[64]⟩ ++ dm ++ ⟨#[62, 13, 10, 13, 10, 78, 111, 116, 32, 100, 101, 108, 105, 118, 101, 114, 101, 100, 32, 116, 111, 58, 13, 10]⟩ from rfl)
  have HV := Lib.hid (show refBounceS dm to n t ns msg = accS (preS dm to n t) ns ++ ⟨#[13, 10]⟩ ++ cutR18 msg from rfl)
  have HAll := Lib.hid (show accS (preS dm to n t) (ns.take ns.length) = accS (preS dm to n t) ns by rw [List.take_length])
  have HC1 := Lib.hid (fun h : 2000 < msg.size => show cutR18 msg = msg.extract 0 2000 by rw [cutR18, if_pos h])
  have HC2 := Lib.hid (fun h : ¬ 2000 < msg.size => show cutR18 msg = msg by rw [cutR18, if_neg h])
  clear hN hpz
  generalize preS dm to n t = PS at *
  generalize mailT t = MT at *
  generalize decS n = DN at *
  go_enter Tryz.func11, Tryz.ntmps11
  go_wp2_with fail
  refine (KM.out _).mono ?_
  rintro e w1 ⟨rfl, hB1⟩
  have HB1 := Lib.hid hB1
  clear hB1
  go_wp2_with fail
  refine (KI.out _).mono ?_
  rintro e w2 ⟨rfl, hB2⟩
  have HB2 := Lib.hid (below_then HB1.out hB2)
  have HN2 := Lib.hid (HN.out.then HB2.out)
  clear hB2
  go_wp2
  go_loop [13, 35] (fun s i => ∃ k : Nat, k ≤ m ∧ i = .int .i64 k ∧ s = .string (accS PS (ns.take k))) (fun _ i => m - (intOf i).toNat)
  case atStart => exact ⟨0, Nat.zero_le _, rfl, by rw [H0.out]⟩
  case round =>
    obtain ⟨k, hk, rfl, rfl⟩ := hrel
    have haz := HAZ.out k
    by_cases hkm : k < m
    · obtain ⟨g, o, rfl, hg, hcx⟩ := HN2.out.2.2 (by omega)
      have hkl : k < ns.length := by omega
      have cx := hcx k ns[k] (List.getElem?_eq_getElem hkl)
      have hsz := HXs.out ns[k] (List.getElem_mem hkl)
      have HNk := Lib.hid (HNx.out k hkl)
      clear hcx
      generalize ns[k] = y at *
      generalize accS PS (ns.take k) = IL at *
      go_wp2
      go_round
      case rel => exact ⟨k + 1, by omega, by go_num, by rw [HNk.out]⟩
      case measure => simp [intOf]; omega
    · obtain rfl : k = m := by omega
      rw [show accS PS (ns.take k) = accS PS ns by rw [← hl]; exact HAll.out] at haz ⊢
      clear HNx HAll HAZ
      generalize accS PS ns = IL at *
      by_cases h20 : 2000 < msg.size
      · have HC := Lib.hid (HC1.out h20)
        clear HC1 HC2
        go_wp2
        go_ret
        exact ⟨by rw [HV.out, HC.out]; rfl, HB2.out⟩
      · have HC := Lib.hid (HC2.out h20)
        clear HC1 HC2
        go_wp2
        go_ret
        exact ⟨by rw [HV.out, HC.out]; rfl, HB2.out⟩
end Go.Proofs.YtcalbpdcjklffaaGreatDoor
