/- The walk of retry.Bounce: what is sent back. -/
import Derived.Test.YtcalbpdcjklffaaGreatDoorRefMail
import Derived.Test.YtcalbpdcjklffaaGreatDoorDigits
import Derived.Test.YtcalbpdcjklffaaGreatDoorDotWalk
import Derived.Deep.QuietTactic
import Derived.BigQuiet
import Derived.Test.YtcalbpdcjklffaaGreatDoorBare18
import Derived.Test.YtcalbpdcjklffaaGreatDoorBig
import Derived.Test.YtcalbpdcjklffaaGreatDoorJoin
import Derived.Laws.AppendOwn
import Derived.Maps.AppendAt
namespace Go.Proofs.YtcalbpdcjklffaaGreatDoor
open Go.RowKit
open Pl (goDomain)
set_option linter.unusedSimpArgs false
set_option linter.unusedVariables false
theorem infoStr18 : (Tryz.prog.info? 9).map (fun i => (i.zero, i.size, i.bytes)) = some (some (.string ⟨#[]⟩), 1, 16) := by kernel_rfl
def cutM (msg : ByteArray) : ByteArray := msg.extract 0 (min (msg.size : Int) 2000).toNat
def fromS (dm : ByteArray) : ByteArray := ⟨#[70, 114, 111, 109, 58, 32, 77, 65, 73, 76, 69, 82, 45, 68, 65, 69, 77, 79, 78, 64]⟩ ++ dm
def toS (to : ByteArray) : ByteArray := ⟨#[84, 111, 58, 32]⟩ ++ to
def dateS (t : Nat) : ByteArray := ⟨#[68, 97, 116, 101, 58, 32]⟩ ++ mailT t
def midS (dm : ByteArray) (n : Nat) : ByteArray := ⟨#[77, 101, 115, 115, 97, 103, 101, 45, 73, 68, 58, 32, 60, 98, 111, 117, 110, 99, 101, 46]⟩ ++ decS n ++ ⟨#[64]⟩ ++ dm ++ ⟨#[62]⟩
def sevenS (dm to : ByteArray) (n t : Nat) : List ByteArray := [fromS dm, toS to, ⟨#[83, 117, 98, 106, 101, 99, 116, 58, 32, 85, 110, 100, 101, 108, 105, 118, 101, 114, 101, 100]⟩, dateS t, midS dm n, ⟨#[]⟩, ⟨#[78, 111, 116, 32, 100, 101, 108, 105, 118, 101, 114, 101, 100, 32, 116, 111, 58]⟩]
def linesS (dm to : ByteArray) (n t : Nat) (ns : List ByteArray) : List ByteArray := sevenS dm to n t ++ ns.map fun x => ⟨#[32]⟩ ++ x
def bounceS (dm to : ByteArray) (n t : Nat) (ns : List ByteArray) (msg : ByteArray) : ByteArray := joinS (linesS dm to n t ns ++ [⟨#[]⟩, cutM msg]) ⟨#[13, 10]⟩
theorem lines_next {dm to : ByteArray} {n t : Nat} {ns : List ByteArray} {k : Nat} (hk : k < ns.length) : linesS dm to n t (ns.take (k + 1)) = linesS dm to n t (ns.take k) ++ [⟨#[32]⟩ ++ ns[k]] := by
  rw [linesS, linesS, List.take_succ_eq_append_getElem hk, List.map_append, List.append_assoc]; rfl
theorem cutM_size (msg : ByteArray) : (cutM msg).size = if msg.size ≤ 2000 then msg.size else 2000 := by
  rw [cutM, ByteArray.size_extract]; split <;> omega
theorem lens_append (a b : List (List UInt8)) : Lib.lens (a ++ b) = Lib.lens a + Lib.lens b := by simp [Lib.lens]
theorem lens_map (ns : List ByteArray) : Lib.lens ((ns.map fun x => (⟨#[32]⟩ : ByteArray) ++ x).map (·.data.toList)) = nsum ns := by
  simp only [Lib.lens, nsum, List.map_map]
  congr 1
  apply List.map_congr_left
  intro x _
  simp [ByteArray.data_append]
  rw [ByteArray.size]; omega
theorem join_le (xs : List (List UInt8)) (sep : List UInt8) : (Lib.join xs sep).length ≤ sep.length * xs.length + Lib.lens xs := by
  cases xs with
  | nil => simp [Lib.join_nil]
  | cons x r => rw [Lib.join_length, List.length_cons, Nat.mul_add]; omega
theorem length_nsum (ns : List ByteArray) : ns.length ≤ nsum ns := by
  induction ns with
  | nil => exact Nat.le_refl _
  | cons x r ih => simp only [nsum, List.map_cons, List.sum_cons, List.length_cons] at *; omega
theorem seven_lens (dm to : ByteArray) (n t : Nat) (hn : n ≤ 9223372036854775807) (ht : t ≤ 4102444799) (hd : dm.size ≤ 1000000) (hto : to.size ≤ 1000000) : Lib.lens ((sevenS dm to n t).map (·.data.toList)) ≤ 4000000 := by
  have zm := mailT_size t ht
  have zi := decS_few n hn
  simp only [sevenS, fromS, toS, dateS, midS, Lib.lens, List.map_cons, List.map_nil, List.sum_cons, List.sum_nil, ByteArray.data_append, Array.toList_append, List.length_append]
  simp only [ByteArray.size] at zm zi hd hto
  simp only [Array.length_toList, List.length_cons, List.length_nil]
  omega
theorem lens_two (x : ByteArray) : Lib.lens (List.map (·.data.toList) [(⟨#[]⟩ : ByteArray), x]) = x.size := by
  show ([].length + (x.data.toList.length + 0) : Nat) = _
  rw [Array.length_toList]; exact Nat.zero_add _
theorem nsum_mem {x : ByteArray} : ∀ {ns : List ByteArray}, x ∈ ns → 1 + x.size ≤ nsum ns
  | y :: r, h => by
    simp only [nsum, List.map_cons, List.sum_cons]
    rcases List.mem_cons.1 h with rfl | h
    · omega
    · have := nsum_mem h
      simp only [nsum] at this
      omega
theorem bounce_size (dm to : ByteArray) (n t : Nat) (ns : List ByteArray) (msg : ByteArray) (hn : n ≤ 9223372036854775807) (ht : t ≤ 4102444799) (hd : dm.size ≤ 1000000) (hto : to.size ≤ 1000000) (hns : nsum ns ≤ 1000000) (hm : msg.size ≤ 1000000) :
    (Lib.join ((linesS dm to n t ns ++ [⟨#[]⟩, cutM msg]).map (·.data.toList)) (⟨#[13, 10]⟩ : ByteArray).data.toList).length ≤ 100000000 := by
  refine Nat.le_trans (join_le _ _) ?_
  have h7 := seven_lens dm to n t hn ht hd hto
  have hl := length_nsum ns
  rw [linesS, List.map_append, List.map_append, lens_append, lens_append, lens_map]
  rw [lens_two, cutM_size]
  have e7 : (sevenS dm to n t).length = 7 := rfl
  simp only [List.length_append, List.length_map, List.length_cons, List.length_nil, e7]
  split <;> omega
/-- a row of its own, as it was written down -/
theorem own_row (w : World) (xs : List Value) (e : TypeId) (base n : Nat) (hb : base ≤ w.heap.size) (hn : xs.length = n) (hm : n ≤ maxLen) : (w.alloc (.cells xs.toArray e)).ownsRow base e 1 (.slice (some ⟨w.heap.size, 0, none⟩) n n) n xs :=
  ⟨by omega, .inr ⟨w.heap.size, n, xs.toArray, rfl, hb, heap_alloc_new w _, Nat.le_refl _, hm, by simp [hn], by rw [Nat.mul_one, ← hn]; simp⟩⟩
theorem cells_two_new (w : World) (x y : Value) (t : TypeId) : ∀ j u, [x, y][j]? = some u → (w.alloc (.cells #[x, y] t)).cell? ((⟨w.heap.size, 0, none⟩ : Addr).add j) = some u := by
  intro j u h
  have hb : (w.alloc (.cells #[x, y] t)).heap[w.heap.size]? = some (.cells #[x, y] t) := World.alloc_heap_new w _
  rw [add_at]
  rcases j with _ | _ | j
  · simp at h; subst h; exact (two_cells hb).1
  · simp at h; subst h; exact (two_cells hb).2.1
  · simp at h
set_option maxHeartbeats 8000000 in
set_option maxRecDepth 100000 in
theorem bounce_good (dm to msg : ByteArray) (n t : Nat) (A : Option Addr) (m c : Nat) (ns : List ByteArray) (v : Value) (hn0 : 1 ≤ n) (hn : n ≤ 9223372036854775807) (ht : t ≤ 4102444799) (hd : dm.size ≤ 1000000) (hto : to.size ≤ 1000000) (hm : msg.size ≤ 1000000) (hns : nsum ns ≤ 1000000) (dd : goDomain (bs dm) = true) (db : bareB to = true) (w : World) (hT : TabW w)
    (hN : NamesAt w A m ns) (hc : w.cell? ⟨2, 0, none⟩ = some v) (hv : ∃ t x, v = .iface t x) :
    Calls Tryz.prog 6 #[.string dm, .string to, .int .i64 n, .slice A m c, .int .i64 t, .string msg] w fun e w' => e = .returned (.tuple #[.string (bounceS dm to n t ns msg), .nilIface]) ∧ Below w.heap.size w w' := by
  obtain ⟨i0, hi, hz0, hz1, hz2⟩ := info_parts infoStr18
  have HT := Lib.hid hT
  have HC := Lib.hid hc
  have HN := Lib.hid hN
  have hl := hN.1
  have hlen := length_nsum ns
  have KM := Lib.hid (fun W => mail_walk t ht W)
  have KI := Lib.hid (fun W => itoa_walk n hn W)
  have h2 := fun W => domain_walk dm W (by omega)
  rw [dot_domain, dd] at h2
  have KD := Lib.hid h2
  have h3 := fun W h => bare18_walk to v W hto h hv
  rw [db] at h3
  have KB := Lib.hid h3
  have zm := mailT_size t ht
  have zi := decS_few n hn
  have HZ := Lib.hid (bounce_size dm to n t ns msg hn ht hd hto hns hm)
  have HV := Lib.hid (show bounceS dm to n t ns msg = joinS (linesS dm to n t ns ++ [⟨#[]⟩, cutM msg]) ⟨#[13, 10]⟩ from rfl)
  have HSev := Lib.hid (show linesS dm to n t (ns.take 0) = [⟨#[70, 114, 111, 109, 58, 32, 77, 65, 73, 76, 69, 82, 45, 68, 65, 69, 77, 79, 78, 64]⟩ ++ dm, ⟨#[84, 111, 58, 32]⟩ ++ to, ⟨#[83, 117, 98, 106, 101, 99, 116, 58, 32, 85, 110, 100, 101, 108, 105, 118, 101, 114, 101, 100]⟩, ⟨#[68, 97, 116, 101, 58, 32]⟩ ++ mailT t, ⟨#[77, 101, 115, 115, 97, 103, 101, 45, 73, 68, 58, 32, 60, 98, 111, 117, 110, 99, 101, 46]⟩ ++ decS n ++ ⟨#[64]⟩ ++ dm ++ ⟨#[62]⟩, ⟨#[]⟩, ⟨#[78, 111, 116, 32, 100, 101, 108, 105, 118, 101, 114, 101, 100, 32, 116, 111, 58]⟩] from rfl)
  have HLn := Lib.hid (fun (j : Nat) => show (linesS dm to n t (ns.take j)).length = 7 + min j ns.length by simp [linesS, sevenS]; omega)
  have HNx := Lib.hid (fun (k : Nat) (hk : k < ns.length) => lines_next (dm := dm) (to := to) (n := n) (t := t) hk)
  have HAll := Lib.hid (show linesS dm to n t (ns.take ns.length) = linesS dm to n t ns by rw [List.take_length])
  have hcs := cutM_size msg
  have HM := Lib.hid (show cutM msg = msg.extract 0 (min (msg.size : Int) 2000).toNat from rfl)
  have HXs := Lib.hid (fun (x : ByteArray) (hx : x ∈ ns) => show x.size ≤ 1000000 by
    have := nsum_mem hx
    omega)
  clear hT hc hN h2 h3 dd db hv
  generalize mailT t = MT at *
  generalize decS n = DN at *
  go_enter Tryz.func6, Tryz.ntmps6
  go_wp2_with fail
  refine (KM.out _ HT.out).mono ?_
  rintro e w1 ⟨rfl, hB1⟩
  have HB1 := Lib.hid hB1
  have HC1 := Lib.hid (sent_then HC.out hB1)
  clear hB1
  go_wp2_with fail
  refine (KD.out _).mono ?_
  rintro e w2 ⟨rfl, hB2⟩
  have HB2 := Lib.hid (below_then HB1.out hB2)
  have HC2 := Lib.hid (sent_then HC1.out hB2)
  clear hB2
  go_wp2_with fail
  refine (KB.out _ HC2.out).mono ?_
  rintro e w3 ⟨rfl, hB3⟩
  have HB3 := Lib.hid (below_then HB2.out hB3)
  clear hB3
  go_wp2_with fail
  refine (KI.out _ (HT.out.then HB3.out)).mono ?_
  rintro e w4 ⟨rfl, hB4⟩
  have HB4 := Lib.hid (below_then HB3.out hB4)
  clear hB4
  have z4 := HB4.out.size
  go_wp2
  go_loopw [16, 58] (fun u x wr => ∃ k : Nat, k ≤ m ∧ x = .int .i64 k ∧ Hid (wr.ownsRow w.heap.size 9 1 u (7 + k) ((linesS dm to n t (ns.take k)).map Value.string)) ∧ Hid (Below w.heap.size w wr)) (fun _ x _ => m - (intOf x).toNat)
  case atStart => exact ⟨0, Nat.zero_le _, rfl, Lib.hid (by rw [HSev.out]; exact own_row w4 _ _ _ 7 z4 rfl (by unfold maxLen; omega)), Lib.hid (HB4.out.alloc z4 _)⟩
  case round =>
    obtain ⟨k, hk, rfl, HO, HB⟩ := hrel
    have zs := HB.out.size
    by_cases hkm : k < m
    · obtain ⟨g, o, rfl, hg, hcx⟩ := (HN.out.then HB.out).2.2 (by omega)
      have hkl : k < ns.length := by omega
      have cx := hcx k ns[k] (List.getElem?_eq_getElem hkl)
      have hsz := HXs.out ns[k] (List.getElem_mem hkl)
      have HNk := Lib.hid (HNx.out k hkl)
      clear hcx
      generalize ns[k] = y at *
      generalize linesS dm to n t (ns.take k) = IL at *
      go_wp2_with (at_builtin; refine wpList_append_own _ rfl _ _ 22 rfl w.heap.size 9 i0 (.string ⟨#[]⟩) 1 16 Tryz.underlying22 hi hz0 hz1 hz2 rfl (by decide) _ (7 + k) _ rfl (HO.out.alloc _) ⟨wr.heap.size, 0, none⟩ 1 1 [.string (⟨#[32]⟩ ++ y)] rfl rfl ?aa ?ab ?ac ?ad ?ae ?_)
      case aa => exact cell_one_new wr (.string (⟨#[32]⟩ ++ y)) 9
      case ab => simp [Value.oneCell']
      case ac => unfold maxLen; omega
      case ad => omega
      case ae => simp; omega
      intro v' w9 hown hgr _
      have HB9 := Lib.hid (below_append (HB.out.alloc zs _) hgr HO.out (Nat.le_refl _) (by simp; omega))
      have HO9 := Lib.hid hown
      clear hown hgr
      go_wp2
      go_roundw
      case rel => exact ⟨k + 1, by omega, by go_num, Lib.hid (by rw [HNk.out, List.map_append]; exact HO9.out), HB9⟩
      case measure => simp [intOf]; omega
    · obtain rfl : k = m := by omega
      have HO2 := HO.out
      rw [show linesS dm to n t (ns.take k) = linesS dm to n t ns by rw [← hl]; exact HAll.out] at HO2
      obtain ⟨hLl, B, f, rfl, hf, _⟩ := own_strings HO2
      have HO3 := Lib.hid HO2
      clear HO2 HNx HAll HLn HSev
      generalize linesS dm to n t ns = IL at *
      by_cases h20 : msg.size ≤ 2000
      · rw [if_pos h20] at hcs
        go_wp2_with (at_builtin; refine wpList_append_own _ rfl _ _ 22 rfl w.heap.size 9 i0 (.string ⟨#[]⟩) 1 16 Tryz.underlying22 hi hz0 hz1 hz2 rfl (by decide) _ (7 + k) _ rfl (HO3.out.alloc _) ⟨wr.heap.size, 0, none⟩ 2 2 [.string ⟨#[]⟩, .string (cutM msg)] rfl rfl ?ba ?bb ?bc ?bd ?be ?_)
        case ba => rw [HM.out]; exact cells_two_new wr _ _ _
        case bb => simp [Value.oneCell']
        case bc => unfold maxLen; omega
        case bd => omega
        case be => simp; omega
        intro v' w9 hown hgr _
        have HB9 := Lib.hid (below_append (HB.out.alloc zs _) hgr HO3.out (Nat.le_refl _) (by simp; omega))
        have hown2 : w9.ownsRow w.heap.size 9 1 v' (IL ++ [⟨#[]⟩, cutM msg]).length ((IL ++ [⟨#[]⟩, cutM msg]).map Value.string) := by
          rw [List.length_append, hLl, List.map_append]; exact hown
        have HJ := Lib.hid (join_walk v' (IL ++ [⟨#[]⟩, cutM msg]) ⟨#[13, 10]⟩ w9 hown2 (by rw [List.length_append, hLl]; simp; omega) (Nat.le_trans HZ.out (by omega)))
        clear hown hown2 hgr
        rw [← HV.out] at HJ
        go_wp2_with fail
        refine HJ.out.mono ?_
        rintro e w10 ⟨rfl, hB10⟩
        have HB10 := Lib.hid (below_then HB9.out hB10)
        clear hB10
        go_wp2
        go_ret2
        exact ⟨rfl, HB10.out⟩
      · rw [if_neg h20] at hcs
        go_wp2_with (at_builtin; refine wpList_append_own _ rfl _ _ 22 rfl w.heap.size 9 i0 (.string ⟨#[]⟩) 1 16 Tryz.underlying22 hi hz0 hz1 hz2 rfl (by decide) _ (7 + k) _ rfl (HO3.out.alloc _) ⟨wr.heap.size, 0, none⟩ 2 2 [.string ⟨#[]⟩, .string (cutM msg)] rfl rfl ?ca ?cb ?cc ?cd ?ce ?_)
        case ca => rw [HM.out]; exact cells_two_new wr _ _ _
        case cb => simp [Value.oneCell']
        case cc => unfold maxLen; omega
        case cd => omega
        case ce => simp; omega
        intro v' w9 hown hgr _
        have HB9 := Lib.hid (below_append (HB.out.alloc zs _) hgr HO3.out (Nat.le_refl _) (by simp; omega))
        have hown2 : w9.ownsRow w.heap.size 9 1 v' (IL ++ [⟨#[]⟩, cutM msg]).length ((IL ++ [⟨#[]⟩, cutM msg]).map Value.string) := by
          rw [List.length_append, hLl, List.map_append]; exact hown
        have HJ := Lib.hid (join_walk v' (IL ++ [⟨#[]⟩, cutM msg]) ⟨#[13, 10]⟩ w9 hown2 (by rw [List.length_append, hLl]; simp; omega) (Nat.le_trans HZ.out (by omega)))
        clear hown hown2 hgr
        rw [← HV.out] at HJ
        go_wp2_with fail
        refine HJ.out.mono ?_
        rintro e w10 ⟨rfl, hB10⟩
        have HB10 := Lib.hid (below_then HB9.out hB10)
        clear hB10
        go_wp2
        go_ret2
        exact ⟨rfl, HB10.out⟩
end Go.Proofs.YtcalbpdcjklffaaGreatDoor
