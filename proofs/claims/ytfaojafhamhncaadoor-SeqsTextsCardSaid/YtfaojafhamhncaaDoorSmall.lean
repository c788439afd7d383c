/- header.small: a text with small letters, by slices.Collect over a closure. -/
import Derived.Test.YtfaojafhamhncaaDoorSplitMore
import Derived.Test.YtfaojafhamhncaaDoorEnd
import Derived.RangeFuncBox
import Derived.RangeFuncFrom
import Derived.Maps.AppendAt
namespace Go.Proofs.YtfaojafhamhncaaDoor
open Go.RowKit Go.Shelf
open Pl (Bs)
attribute [local go_sem] Oper.semAt_some
set_option linter.unusedSimpArgs false
set_option linter.unusedVariables false
def smallB (c : UInt8) : UInt8 := if 65 ≤ c.toNat ∧ c.toNat ≤ 90 then c + 32 else c
def encB (c : UInt8) : Value := .int .u8 (c.toNat : Int)
/-- the blocks of '[]byte(s)' lie as they lay -/
def KeepsMarked (W W' : World) : Prop := ∀ (k : Nat) (cs : Array Value) (t : TypeId) (fr : Nat × Nat), fr ≠ (0, 0) → W.heap[k]? = some (.cells cs t fr) → W'.heap[k]? = some (.cells cs t fr)
theorem KeepsMarked.refl (W : World) : KeepsMarked W W := fun _ _ _ _ _ h => h
theorem KeepsMarked.trans {A B C : World} (h : KeepsMarked A B) (k : KeepsMarked B C) : KeepsMarked A C := fun i cs t fr hf ho => k i cs t fr hf (h i cs t fr hf ho)
theorem KeepsMarked.cell {W W' : World} (h : KeepsMarked W W') {k : Nat} {cs : Array Value} {t : TypeId} {fr : Nat × Nat} (hf : fr ≠ (0, 0)) (ho : W.heap[k]? = some (.cells cs t fr)) {j : Nat} {v : Value} (hc : W.cell? ⟨k, j, none⟩ = some v) : W'.cell? ⟨k, j, none⟩ = some v := by
  have e := h k cs t fr hf ho
  rw [← hc]
  exact World.cell?_of_block (w := W) (a := ⟨k, j, none⟩) (e.trans ho.symm)
theorem bytes_mark (w : World) (s : ByteArray) : ∃ (w1 : World) (cap : Nat) (cs : Array Value) (fr : Nat × Nat), (convert 9 72 (.string s)).run Tryd.prog w = .ok (.slice (some ⟨w.heap.size, 0, none⟩) s.size cap) w1 ∧ Below w.heap.size w w1 ∧ w1.heap[w.heap.size]? = some (.cells cs 5 fr) ∧ fr ≠ (0, 0) ∧ (∃ W, w1 = W.alloc (.cells cs 5 fr) ∧ W = w.drew) ∧ ∀ j (hj : j < s.size), w1.cell? ⟨w.heap.size, j, none⟩ = some (.int .u8 (s[j].toNat : Int)) := by
  refine ⟨_, _, _, _, run_bytes_of_string w _ _ 5 s Tryd.underlying9 Tryd.underlying72 Tryd.underlying5, ?_, ?_, ?_, ⟨_, rfl, rfl⟩, ?_⟩
  · exact (below_drew (Below.refl _ _)).alloc (Nat.le_refl _) _
  · exact World.alloc_heap_new w.drew _
  · intro e; simp at e
  · intro j hj
    exact (World.cell?_alloc_mark w.drew _ _ _ j).trans (bytesRow_at s _ j hj)
set_option maxRecDepth 100000 in
set_option maxHeartbeats 1000000 in
theorem small1_in (F : Fence) (n : Nat) (h6 : F.fn 60) (hro : F.round = none) (hn : 1 ≤ n) (l Bn : Nat) (s : ByteArray) (J Jx : List UInt8 → World → Prop) (W : World) (hJ : AbidesFrom W.heap.size J)
    (hY : ∀ pre x W, J pre W → pre.length < s.size → YieldAt F (n - 1) Tryd.prog l #[encB x] W fun e W' =>
      (e = .returned (.bool true) ∧ J (pre ++ [x]) W' ∧ KeepsMarked W W') ∨ (e = .returned (.bool false) ∧ Jx (pre ++ [x]) W'))
    (hBn : W.cell? ⟨Bn, 0, none⟩ = some (.string s)) (hs : s.size ≤ 140737488351232) (h0 : J [] W) :
    CallsIn F n Tryd.prog 60 #[.func (.yield l) #[] #[], .pointer (some ⟨Bn, 0, none⟩)] W fun e W' => (∃ v, e = .returned v) ∧
      ((∃ ys, ys = (bs s).map smallB ∧ J ys W') ∨ (∃ pre, pre <+: (bs s).map smallB ∧ Jx pre W')) := by
  obtain ⟨w1, cap, cs, fr, hcv, hB, hcs, hfr, hw1, hb⟩ := bytes_mark W s
  have hJ1 : J [] w1 := hJ [] W w1 none h0 ⟨hB.os, hB.tape, hB.output, hB.size, fun i hi _ => hB.block i hi⟩ (fun r e => by cases e)
  have zl : ((bs s).map smallB).length = s.size := by rw [List.length_map, bs_size]
  have HY := Lib.hid hY
  have HBY := Lib.hid hb
  have HFR := Lib.hid hfr
  have ZL := Lib.hid zl
  clear hY hb hfr hw1 zl hJ hB
  refine callsIn_of_wp Tryd.func60 rfl h6 ?_ hro
  simp only [Tryd.ntmps60, List.size_toArray, List.length_cons, List.length_nil, Nat.reduceAdd, Nat.reduceSub, Array.replicate_succ, Array.replicate_zero, List.push_toArray, List.append_toArray, List.nil_append, List.cons_append]
  gi_wp2
  gi_loopw [8] (fun i wr => ∃ k : Nat, k ≤ s.size ∧ i = .int .i64 k ∧ Hid (J (((bs s).map smallB).take k) wr) ∧ wr.heap[W.heap.size]? = some (.cells cs 5 fr)) (fun i _ => s.size - (intOf i).toNat)
  case atStart => exact ⟨0, Nat.zero_le _, rfl, Lib.hid hJ1, hcs⟩
  case round =>
    obtain ⟨k, hk, rfl, HJ, hM⟩ := hrel
    by_cases hlt : k < s.size
    · have c0 : wr.cell? ⟨W.heap.size, k, none⟩ = some (.int .u8 (s[k].toNat : Int)) := (World.cell?_of_block (w := w1) (a := ⟨W.heap.size, k, none⟩) (hM.trans hcs.symm)).trans (HBY.out k hlt)
      have hT : ((bs s).map smallB).take (k + 1) = ((bs s).map smallB).take k ++ [smallB s[k]] := by
        rw [List.take_succ_eq_append_getElem (by rw [ZL.out]; exact hlt), List.getElem_map, at_bs s k hlt]
      have HT := Lib.hid hT
      clear hT
      obtain ⟨fn, tmps, assign, body, hy, hR⟩ := HY.out _ (smallB s[k]) wr HJ.out (by rw [List.length_take, ZL.out]; omega)
      by_cases hcap : 65 ≤ s[k].toNat ∧ s[k].toNat ≤ 90
      · obtain ⟨b1, b2⟩ := hcap
        have d1 : (65 : Int) ≤ (s[k].toNat : Int) := by omega
        have d2 : (s[k].toNat : Int) ≤ 90 := by omega
        · skip
          have hx : encB (smallB s[k]) = .int .u8 ((s[k].toNat : Int) + 32) := by rw [encB, smallB, if_pos ⟨b1, b2⟩, UInt8.toNat_add]; congr 1; show (((s[k].toNat + 32) % 256 : Nat) : Int) = _; omega
          rw [hx] at hy
          clear hx
          have HR := Lib.hid hR
          gi_wp2
          refine HR.out.mono ?_
          rintro e W3 (⟨rfl, hJ3, hk3⟩ | ⟨rfl, hJx3⟩)
          · have HJ3 := Lib.hid hJ3
            have HM3 := Lib.hid (hk3 _ _ _ _ HFR.out hM)
            clear hJ3 hk3
            gi_wp2
            go_roundw
            case rel => exact ⟨k + 1, by omega, by go_num, by rw [HT.out]; exact HJ3, HM3.out⟩
            case measure => simp [intOf]; omega
          · gi_wp2
            refine bodyPost_ret (results_none rfl _ _ _) rfl ?_
            exact ⟨⟨_, rfl⟩, .inr ⟨_, by rw [← HT.out]; exact List.take_prefix _ _, hJx3⟩⟩
      · have hc2 : s[k].toNat < 65 ∨ 90 < s[k].toNat := by omega
        · skip
          have d1 : (s[k].toNat : Int) < 65 ∨ 90 < (s[k].toNat : Int) := by omega
          by_cases d2 : (s[k].toNat : Int) < 65
          · have hx : encB (smallB s[k]) = .int .u8 (s[k].toNat : Int) := by rw [encB, smallB, if_neg hcap]
            rw [hx] at hy
            clear hx
            have HR := Lib.hid hR
            gi_wp2
            refine HR.out.mono ?_
            rintro e W3 (⟨rfl, hJ3, hk3⟩ | ⟨rfl, hJx3⟩)
            · have HJ3 := Lib.hid hJ3
              have HM3 := Lib.hid (hk3 _ _ _ _ HFR.out hM)
              clear hJ3 hk3
              gi_wp2
              go_roundw
              case rel => exact ⟨k + 1, by omega, by go_num, by rw [HT.out]; exact HJ3, HM3.out⟩
              case measure => simp [intOf]; omega
            · gi_wp2
              refine bodyPost_ret (results_none rfl _ _ _) rfl ?_
              exact ⟨⟨_, rfl⟩, .inr ⟨_, by rw [← HT.out]; exact List.take_prefix _ _, hJx3⟩⟩
          · have d3 : 90 < (s[k].toNat : Int) := by omega
            have d4 : (65 : Int) ≤ (s[k].toNat : Int) := by omega
            have hx : encB (smallB s[k]) = .int .u8 (s[k].toNat : Int) := by rw [encB, smallB, if_neg hcap]
            rw [hx] at hy
            clear hx
            have HR := Lib.hid hR
            gi_wp2
            refine HR.out.mono ?_
            rintro e W3 (⟨rfl, hJ3, hk3⟩ | ⟨rfl, hJx3⟩)
            · have HJ3 := Lib.hid hJ3
              have HM3 := Lib.hid (hk3 _ _ _ _ HFR.out hM)
              clear hJ3 hk3
              gi_wp2
              go_roundw
              case rel => exact ⟨k + 1, by omega, by go_num, by rw [HT.out]; exact HJ3, HM3.out⟩
              case measure => simp [intOf]; omega
            · gi_wp2
              refine bodyPost_ret (results_none rfl _ _ _) rfl ?_
              exact ⟨⟨_, rfl⟩, .inr ⟨_, by rw [← HT.out]; exact List.take_prefix _ _, hJx3⟩⟩
    · obtain rfl : k = s.size := by omega
      have hT : ((bs s).map smallB).take s.size = (bs s).map smallB := List.take_of_length_le (by rw [ZL.out]; omega)
      rw [hT] at HJ
      gi_wp2
      go_end0
      exact ⟨⟨_, rfl⟩, .inl ⟨_, rfl, HJ.out⟩⟩
end Go.Proofs.YtfaojafhamhncaaDoor
