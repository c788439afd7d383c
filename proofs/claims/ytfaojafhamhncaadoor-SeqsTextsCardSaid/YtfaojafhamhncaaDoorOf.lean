/- The walk of seqs.Of: the numbers that a set has. -/
import Derived.Test.YtfaojafhamhncaaDoorHas
import Derived.Test.YtfaojafhamhncaaDoorSameInts
import Derived.Laws.AppendOwn
import Derived.Maps.AppendAt
namespace Go.Proofs.YtfaojafhamhncaaDoor
open Go.RowKit
set_option linter.unusedSimpArgs false
set_option linter.unusedVariables false
def ofK (xs : List (Int × Int)) (ns : List Int) (last : Int) (k : Nat) : List Int := (ns.take k).filter fun x => inB xs x last
theorem ofK_yes {xs : List (Int × Int)} {ns : List Int} {last : Int} {k : Nat} (hk : k < ns.length) (h : inB xs (ns.getD k 0) last = true) : ofK xs ns last (k + 1) = ofK xs ns last k ++ [ns.getD k 0] := by
  rw [List.getD_eq_getElem?_getD, List.getElem?_eq_getElem hk, Option.getD_some] at *
  rw [ofK, List.take_succ_eq_append_getElem hk, List.filter_append, List.filter_cons, if_pos h]; rfl
theorem ofK_no {xs : List (Int × Int)} {ns : List Int} {last : Int} {k : Nat} (hk : k < ns.length) (h : inB xs (ns.getD k 0) last = false) : ofK xs ns last (k + 1) = ofK xs ns last k := by
  rw [List.getD_eq_getElem?_getD, List.getElem?_eq_getElem hk, Option.getD_some] at h
  rw [ofK, List.take_succ_eq_append_getElem hk, List.filter_append, List.filter_cons, if_neg (by rw [h]; decide)]; simp [ofK]
theorem ofK_length (xs : List (Int × Int)) (ns : List Int) (last : Int) (k : Nat) : (ofK xs ns last k).length ≤ k := by
  unfold ofK
  exact Nat.le_trans (List.length_filter_le _ _) (by rw [List.length_take]; omega)
theorem infoInt : (Tryd.prog.info? 3).map (fun i => (i.zero, i.size, i.bytes)) = some (some (.int .i64 0), 1, 8) := by kernel_rfl
set_option maxHeartbeats 2000000 in
set_option maxRecDepth 100000 in
theorem of_walk (A : Option Addr) (n c g o m d : Nat) (xs : List (Int × Int)) (ns : List Int) (w : World) (hA : RangesAt w A n xs) (hl : ns.length = m) (hm : m ≤ 1000) (h0 : 0 < m) (hg : g < w.heap.size)
    (hB : ∀ j, j < m → w.cell? ⟨g, o + j, none⟩ = some (.int .i64 (ns.getD j 0))) :
    Calls Tryd.prog 27 #[.slice A n c, .slice (some ⟨g, o, none⟩) m d] w fun e w' =>
      ∃ v, e = .returned v ∧ w'.ownsRow w.heap.size 3 1 v (ofK xs ns (ns.getD (m - 1) 0) m).length ((ofK xs ns (ns.getD (m - 1) 0) m).map (Value.int .i64)) ∧ Below w.heap.size w w' := by
  obtain ⟨i0, hi, hz0, hz1, hz2⟩ := info_parts infoInt
  have HA := Lib.hid hA
  have CB := Lib.hid hB
  have HL := Lib.hid hl
  have cL := hB (m - 1) (by omega)
  clear hA hB hl
  generalize ns.getD (m - 1) 0 = last at *
  have HCL := Lib.hid cL
  clear cL
  go_enter Tryd.func27, Tryd.ntmps27
  go_wp2
  go_loopw [5, 10] (fun v i wr => ∃ k : Nat, k ≤ m ∧ i = .int .i64 k ∧ wr.ownsRow w.heap.size 3 1 v (ofK xs ns last k).length ((ofK xs ns last k).map (Value.int .i64)) ∧ Below w.heap.size w wr)
    (fun _ i _ => m - (intOf i).toNat)
  case atStart => exact ⟨0, Nat.zero_le _, rfl, World.ownsRow_nil _ _ _ _, Below.refl _ _⟩
  case round =>
    obtain ⟨k, hk, rfl, hown, hB⟩ := hrel
    have hll := ofK_length xs ns last k
    by_cases hkn : k < m
    · have c1 := (hB.cell (p := ⟨g, o + k, none⟩) hg).trans (CB.out k hkn)
      have c2 := (hB.cell (p := ⟨g, o + (m - 1), none⟩) hg).trans HCL.out
      have HR := Lib.hid (HA.out.then hB)
      have HO := Lib.hid hown
      have HB := Lib.hid hB
      have zs := hB.size
      clear hown hB
      have m1 : ((m : Int) - 1).toNat = m - 1 := by omega
      cases hx : inB xs (ns.getD k 0) last with
      | true =>
        have E := Lib.hid (ofK_yes (by rw [HL.out]; exact hkn) hx)
        have HX := Lib.hid hx
        clear hx
        generalize ns.getD k 0 = x at *
        go_wp2_with fail
        refine (has_walk A n c xs x last _ HR.out).mono ?_
        rintro e w2 ⟨rfl, hB2⟩
        rw [HX.out]
        have HB2 := Lib.hid (below_then HB.out hB2)
        have HO2 := Lib.hid (own_below HO.out hB2)
        have zs2 := HB2.out.size
        clear hB2
        go_wp2_with (at_builtin; refine wpList_append_own _ rfl _ _ 54 rfl w.heap.size 3 i0 (.int .i64 0) 1 8 Tryd.underlying54 hi hz0 hz1 hz2 rfl (by decide) _ _ _ rfl (HO2.out.alloc _) ⟨w2.heap.size, 0, none⟩ 1 1 [.int .i64 x] rfl rfl ?c1 ?c2 ?c3 ?c4 ?c5 ?_)
        case c1 => exact cell_one_new w2 (.int .i64 x) 3
        case c2 => simp [Value.oneCell']
        case c3 => unfold maxLen; omega
        case c4 => omega
        case c5 => simp; omega
        intro v' w1 hown' hgrow _
        have HB1 := Lib.hid (below_append (HB2.out.alloc zs2 _) hgrow HO2.out (Nat.le_refl _) (by simp; omega))
        have HO1 := Lib.hid hown'
        clear hown' hgrow
        go_wp2
        go_roundw
        case rel => exact ⟨k + 1, by omega, by go_num, by rw [E.out]; simpa using HO1.out, HB1.out⟩
        case measure => simp [intOf]; omega
      | false =>
        have E := Lib.hid (ofK_no (by rw [HL.out]; exact hkn) hx)
        have HX := Lib.hid hx
        clear hx
        generalize ns.getD k 0 = x at *
        go_wp2_with fail
        refine (has_walk A n c xs x last _ HR.out).mono ?_
        rintro e w2 ⟨rfl, hB2⟩
        rw [HX.out]
        have HB2 := Lib.hid (below_then HB.out hB2)
        have HO2 := Lib.hid (own_below HO.out hB2)
        clear hB2
        go_wp2
        go_roundw
        case rel => exact ⟨k + 1, by omega, by go_num, by rw [E.out]; exact HO2.out, HB2.out⟩
        case measure => simp [intOf]; omega
    · obtain rfl : k = m := by omega
      go_wp2
      go_ret
      exact ⟨_, rfl, hown, hB⟩
end Go.Proofs.YtfaojafhamhncaaDoor
