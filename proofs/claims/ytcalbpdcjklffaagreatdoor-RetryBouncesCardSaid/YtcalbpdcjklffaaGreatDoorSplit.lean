/- strings.SplitSeq at one byte, ranged over: what the call makes, what the iterator does at each round, and the law for a loop over it: whatever the loop's body keeps of the iterator's own cells. -/
import Derived.RangeFuncNested
import Derived.RangeFuncBound
import Derived.RangeFuncCalls
import Derived.RangeFuncLeaves
import Derived.Shelf.Abstract
import Derived.Shelf.RegionOpen
import Derived.WalkKit
import Derived.OwnWalkIn
import Derived.TacticsInMore
import Derived.LoopNIn
import Derived.LoopIn
import Derived.OneCell
import Derived.Test.YtcalbpdcjklffaaGreatDoorIndex
namespace Go.Proofs.YtcalbpdcjklffaaGreatDoor
open Go.RowKit Go.Shelf
open Pl (idxB Bs splitB)
attribute [local go_sem] Oper.semAt_some

/-- the iterator's own cells: what is still to be split, the byte, and 0 -/
structure SplitBox (pb sb zb : Nat) (x : UInt8) (s : ByteArray) (W : World) : Prop where
  sep : W.heap[pb]? = some (.cells #[.string ⟨#[x]⟩] 9 (0, 0))
  str : W.heap[sb]? = some (.cells #[.string s] 9 (0, 0))
  zero : W.heap[zb]? = some (.cells #[.int .i64 0] 3 (0, 0))

/-- the world behind 'strings.SplitSeq(s, "x")' -/
def splitWorld (w : World) (x : UInt8) (s : ByteArray) : World := ((w.alloc (.cells #[.string s] 9)).alloc (.cells #[.string ⟨#[x]⟩] 9)).alloc (.cells #[.int .i64 0] 3)
abbrev splitFn (w : World) : Value := .func (.func 72) #[] #[.pointer (some ⟨w.heap.size + 1, 0, none⟩), .pointer (some ⟨w.heap.size, 0, none⟩), .pointer (some ⟨w.heap.size + 2, 0, none⟩)]

set_option maxHeartbeats 400000 in
theorem splitSeq_walk (s : ByteArray) (x : UInt8) (w : World) :
    Calls Tryz.prog 47 #[.string s, .string ⟨#[x]⟩] w fun e w' => e = .returned (splitFn w) ∧ w' = splitWorld w x s := by
  go_enter Tryz.func47, Tryz.ntmps47
  go_wp2
  go_ret
  exact ⟨rfl, rfl⟩

theorem splitB_hit (x : UInt8) (l : Bs) (h : idxB x l < l.length) : splitB x l = l.take (idxB x l) :: splitB x (l.drop (idxB x l + 1)) := by
  induction l with
  | nil => simp at h
  | cons c cs ih =>
    by_cases hc : c = x
    · have e : idxB x (c :: cs) = 0 := by simp [idxB, hc]
      rw [e]; simp [splitB, hc]
    · have e : idxB x (c :: cs) = idxB x cs + 1 := by simp [idxB, hc]
      rw [e] at h ⊢
      have := ih (by simpa using h)
      simp only [splitB, if_neg hc, this, List.take_succ_cons, List.drop_succ_cons]
theorem splitB_miss (x : UInt8) (l : Bs) (h : ¬ idxB x l < l.length) : splitB x l = [l] := by
  induction l with
  | nil => rfl
  | cons c cs ih =>
    by_cases hc : c = x
    · exact absurd (by simp [idxB, hc]) h
    · have e : idxB x (c :: cs) = idxB x cs + 1 := by simp [idxB, hc]
      rw [e] at h
      have := ih (by simpa using h)
      simp only [splitB, if_neg hc, this]

/-- how much is still to be split, read off the world -/
noncomputable def leftOf (sb : Nat) (W : World) : Nat := match W.cell? ⟨sb, 0, none⟩ with
  | some (.string s) => s.size
  | _ => 0

theorem setCell_other {W : World} {b : Nat} {o : Obj} (h : W.heap[b]? = some o) {a : Addr} (u : Value) (hne : b ≠ a.block) : (W.setCell a u).heap[b]? = some o :=
  (Below.heap_setCell W a u b hne).trans h
theorem SplitBox.step {pb sb zb : Nat} {x : UInt8} {s : ByteArray} {W : World} (h : SplitBox pb sb zb x s W) (hp : pb ≠ sb) (hz : zb ≠ sb) (s' : ByteArray) : SplitBox pb sb zb x s' (W.setCell ⟨sb, 0, none⟩ (.string s')) :=
  ⟨setCell_other h.sep _ hp, one_setCell h.str, setCell_other h.zero _ hz⟩
theorem leftOf_box {pb sb zb : Nat} {x : UInt8} {s : ByteArray} {W : World} (h : SplitBox pb sb zb x s W) : leftOf sb W = s.size := by
  unfold leftOf; rw [cell_of_one h.str]

set_option maxRecDepth 100000 in
set_option maxHeartbeats 1000000 in
/-- THE ITERATOR: for every loop body that keeps the iterator's cells. -/
theorem split_iter (n : Nat) (l pb sb zb : Nat) (x : UInt8) (s0 : ByteArray) (J Jx : List Bs → World → Prop) (W : World) (hp : pb ≠ sb) (hz : zb ≠ sb) (hs0 : s0.size ≤ 140737488351232)
    (hJ : ∀ pre W v, J pre W → J pre (W.setCell ⟨sb, 0, none⟩ v))
    (hY : ∀ pre (p : ByteArray) s W1, J pre W1 → SplitBox pb sb zb x s W1 → p.size ≤ s0.size → YieldAt Fence.wide (n - 1) Tryz.prog l #[.string p] W1 fun e W' =>
      (e = .returned (.bool true) ∧ J (pre ++ [bs p]) W' ∧ SplitBox pb sb zb x s W') ∨ (e = .returned (.bool false) ∧ Jx (pre ++ [bs p]) W'))
    (hB : SplitBox pb sb zb x s0 W) (h0 : J [] W) :
    CallsIn Fence.wide n Tryz.prog 72 #[.func (.yield l) #[] #[], .pointer (some ⟨pb, 0, none⟩), .pointer (some ⟨sb, 0, none⟩), .pointer (some ⟨zb, 0, none⟩)] W fun e W' =>
      (∃ v, e = .returned v) ∧ (J (splitB x (bs s0)) W' ∨ ∃ pre, pre <+: splitB x (bs s0) ∧ Jx pre W') := by
  refine callsIn_of_wp Tryz.func72 rfl trivial ?_ rfl
  simp only [Tryz.ntmps72, List.size_toArray, List.length_cons, List.length_nil, Nat.reduceAdd, Nat.reduceSub, Array.replicate_succ, Array.replicate_zero, List.push_toArray, List.append_toArray, List.nil_append, List.cons_append]
  have c1 := cell_of_one hB.sep
  have HB0 := Lib.hid hB
  have H0 := Lib.hid h0
  have HY := Lib.hid hY
  have HJ := Lib.hid hJ
  clear hB h0 hY hJ
  gi_wp2
  gi_loopw [7] (fun _ wr => ∃ (pre : List Bs) (s : ByteArray), Hid (splitB x (bs s0) = pre ++ splitB x (bs s)) ∧ s.size ≤ s0.size ∧ Hid (J pre wr) ∧ Hid (SplitBox pb sb zb x s wr)) (fun _ wr => leftOf sb wr)
  case atStart => exact ⟨[], s0, Lib.hid rfl, Nat.le_refl _, H0, HB0⟩
  case round =>
    obtain ⟨pre, s, HS, hsz, HJ1, HB1⟩ := hrel
    have k1 := cell_of_one HB1.out.sep
    have k2 := cell_of_one HB1.out.str
    have k3 := cell_of_one HB1.out.zero
    have k4 := free_of_one HB1.out.str
    have hle := Pl.idxB_le x (bs s)
    rw [bs_size] at hle
    by_cases hh : idxB x (bs s) < (bs s).length
    · have e0 : idxI x (bs s) = (idxB x (bs s) : Int) := by rw [idxI, if_pos hh]
      have hs1 := splitB_hit x (bs s) hh
      rw [bs_size] at hh
      have hx1 : bs (s.extract 0 (idxB x (bs s))) = (bs s).take (idxB x (bs s)) := bs_cutL x s
      have hx2 : bs (s.extract (idxB x (bs s) + 1) s.size) = (bs s).drop (idxB x (bs s) + 1) := bs_cutR x s
      have E0 := Lib.hid e0
      have HS1 := Lib.hid hs1
      have HX1 := Lib.hid hx1
      have HX2 := Lib.hid hx2
      clear e0 hs1 hx1 hx2
      generalize idxB x (bs s) = k at *
      obtain ⟨fn, tmps, assign, body, hy, hR⟩ := HY.out pre (s.extract 0 k) s wr HJ1.out HB1.out (by simp; omega)
      gi_wp2_with fail
      refine ⟨trivial, fun h => (by cases h), ?_⟩
      refine (callsIn_wide.2 (index_walk _ _ _)).mono ?_
      rintro e w' ⟨rfl, rfl⟩
      rw [E0.out]
      gi_wp2_with fail
      refine ⟨fun h => (by cases h), ?_⟩
      refine hR.mono ?_
      rintro e W3 (⟨rfl, hJ3, hB3⟩ | ⟨rfl, hJx3⟩)
      · clear k1 k2 k3 k4 hy hR
        have k1 := cell_of_one hB3.sep
        have k2 := cell_of_one hB3.str
        have k3 := cell_of_one hB3.zero
        have k4 := free_of_one hB3.str
        have HJ3 := Lib.hid hJ3
        have HB3 := Lib.hid hB3
        clear hJ3 hB3
        have hne : k + 1 ≤ s.size := by omega
        gi_wp2
        go_roundw
        case rel =>
          refine ⟨pre ++ [bs (s.extract 0 k)], s.extract (k + 1) s.size, Lib.hid ?_, ?_, Lib.hid (HJ.out _ _ _ HJ3.out), Lib.hid (HB3.out.step hp hz _)⟩
          · rw [HS.out, HS1.out, HX1.out, HX2.out]; simp
          · simp; omega
        case measure =>
          rw [leftOf_box (HB3.out.step hp hz _), leftOf_box HB1.out]
          simp; omega
      · gi_wp2
        refine bodyPost_ret (results_none rfl _ _ _) rfl ?_
        refine ⟨⟨_, rfl⟩, .inr ⟨pre ++ [bs (s.extract 0 k)], ?_, hJx3⟩⟩
        rw [HS.out, HS1.out, HX1.out]
        exact ⟨splitB x ((bs s).drop (k + 1)), by simp⟩
    · have e0 : idxI x (bs s) = -1 := by rw [idxI, if_neg hh]
      have hs1 := splitB_miss x (bs s) hh
      have E0 := Lib.hid e0
      have HS1 := Lib.hid hs1
      clear e0 hs1 hh hle
      obtain ⟨fn, tmps, assign, body, hy, hR⟩ := HY.out pre s s wr HJ1.out HB1.out hsz
      gi_wp2_with fail
      refine ⟨trivial, fun h => (by cases h), ?_⟩
      refine (callsIn_wide.2 (index_walk _ _ _)).mono ?_
      rintro e w' ⟨rfl, rfl⟩
      rw [E0.out]
      gi_wp2_with fail
      refine ⟨fun h => (by cases h), ?_⟩
      refine hR.mono ?_
      rintro e W3 (⟨rfl, hJ3, hB3⟩ | ⟨rfl, hJx3⟩)
      · have HJ3 := Lib.hid hJ3
        clear hJ3 hB3 k1 k2 k3 k4 hy hR
        gi_wp2
        go_end0
        refine ⟨⟨_, rfl⟩, .inl ?_⟩
        rw [HS.out, HS1.out]
        exact HJ3.out
      · clear k1 k2 k3 k4 hy hR
        have HJ3 := Lib.hid hJx3
        clear hJx3
        gi_wp2
        go_end0
        refine ⟨⟨_, rfl⟩, .inr ⟨pre ++ [bs s], ?_, HJ3.out⟩⟩
        rw [HS.out, HS1.out]
        exact List.prefix_refl _
end Go.Proofs.YtcalbpdcjklffaaGreatDoor
