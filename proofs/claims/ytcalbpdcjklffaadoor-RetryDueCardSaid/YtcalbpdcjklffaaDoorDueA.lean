/- The walk of retry.Due: the numbers of the items whose Due is at most now, in order, in a new slice. -/
import Derived.Test.YtcalbpdcjklffaaDoorRetryA
import Derived.Test.YtcalbpdcjklffaaDoorOwn
import Derived.Laws.AppendOwn
import Derived.Maps.AppendAt
namespace Go.Proofs.YtcalbpdcjklffaaDoor
open Go.RowKit

/-- the numbers of the first k items that are due -/
def dueIds (ids dues : Nat → Int) (now : Int) (k : Nat) : List Int := ((List.range k).filter fun i => decide (dues i ≤ now)).map ids
theorem dueIds_yes {ids dues : Nat → Int} {now : Int} {k : Nat} (h : dues k ≤ now) : dueIds ids dues now (k + 1) = dueIds ids dues now k ++ [ids k] := by
  simp [dueIds, List.range_succ, List.filter_append, h]
theorem dueIds_no {ids dues : Nat → Int} {now : Int} {k : Nat} (h : ¬ dues k ≤ now) : dueIds ids dues now (k + 1) = dueIds ids dues now k := by
  simp [dueIds, List.range_succ, List.filter_append, h]
theorem dueIds_length (ids dues : Nat → Int) (now : Int) (k : Nat) : (dueIds ids dues now k).length ≤ k := by
  unfold dueIds
  rw [List.length_map]
  exact Nat.le_trans (List.length_filter_le _ _) (by simp)

/-- the cells of items that came in: seven an item; the first is its number, the sixth is when it is due -/
structure ItemsAt (w : World) (b off n : Nat) (F : Nat → Nat → Value) (ids dues : Nat → Int) : Prop where
  lt : b < w.heap.size
  cell : ∀ i j, i < n → j < 7 → w.cell? ⟨b, off + i * 7 + j, none⟩ = some (F i j)
  one : ∀ i j, i < n → j < 7 → (F i j).oneCell' = true
  id : ∀ i, i < n → F i 0 = .int .i64 (ids i)
  due : ∀ i, i < n → F i 5 = .int .i64 (dues i)

theorem Tryd.infoInt : (Tryd.prog.info? 3).map (fun i => (i.zero, i.size, i.bytes)) = some (some (.int .i64 0), 1, 8) := by kernel_rfl

set_option maxHeartbeats 400000 in
set_option maxRecDepth 100000 in
theorem due_walk (b off n cap : Nat) (F : Nat → Nat → Value) (ids dues : Nat → Int) (x0 x1 x3 x4 : Value) (now : Int) (w : World) (hn : n ≤ 1000) (hI : ItemsAt w b off n F ids dues) :
    Calls Tryd.prog 16 #[.agg #[x0, x1, .slice (some ⟨b, off, none⟩) n cap, x3, x4], .int .i64 now] w fun e w' =>
      ∃ v, e = .returned v ∧ w'.ownsRow w.heap.size 3 1 v (dueIds ids dues now n).length ((dueIds ids dues now n).map (Value.int .i64)) ∧ Below w.heap.size w w' := by
  obtain ⟨i0, hi, hz0, hz1, hz2⟩ := info_parts Tryd.infoInt
  have hI' := Lib.hid hI
  have hlt := hI.lt
  clear hI
  go_enter Tryd.func16, Tryd.ntmps16
  go_wp2
  go_loopw [5, 11] (fun v i wr => ∃ k : Nat, k ≤ n ∧ i = .int .i64 k ∧ wr.ownsRow w.heap.size 3 1 v (dueIds ids dues now k).length ((dueIds ids dues now k).map (Value.int .i64)) ∧ Below w.heap.size w wr)
    (fun _ i _ => n - (intOf i).toNat)
  case atStart => exact ⟨0, Nat.zero_le _, rfl, World.ownsRow_nil _ _ _ _, (Below.refl _ _).alloc (Nat.le_refl _) _⟩
  case round =>
    obtain ⟨k, hk, rfl, hown, hB⟩ := hrel
    have hl := dueIds_length ids dues now k
    have hs := hB.size
    by_cases hkn : k < n
    · have hI := hI'.out
      have c0 : wr.cell? ⟨b, off + k * 7, none⟩ = some (F k 0) := (hB.cell (p := ⟨b, off + k * 7, none⟩) hlt).trans (hI.cell k 0 hkn (by omega))
      have c1 := (hB.cell (p := ⟨b, off + k * 7 + 1, none⟩) hlt).trans (hI.cell k 1 hkn (by omega))
      have c2 := (hB.cell (p := ⟨b, off + k * 7 + 2, none⟩) hlt).trans (hI.cell k 2 hkn (by omega))
      have c3 := (hB.cell (p := ⟨b, off + k * 7 + 3, none⟩) hlt).trans (hI.cell k 3 hkn (by omega))
      have c4 := (hB.cell (p := ⟨b, off + k * 7 + 4, none⟩) hlt).trans (hI.cell k 4 hkn (by omega))
      have c5 := (hB.cell (p := ⟨b, off + k * 7 + 5, none⟩) hlt).trans (hI.cell k 5 hkn (by omega))
      have c6 := (hB.cell (p := ⟨b, off + k * 7 + 6, none⟩) hlt).trans (hI.cell k 6 hkn (by omega))
      rw [hI.id k hkn] at c0
      rw [hI.due k hkn] at c5
      have o1 := fun (X : World) (a : Addr) (m : Mode) => run_store Tryd.prog X a (F k 1) m (hI.one k 1 hkn (by omega))
      have o2 := fun (X : World) (a : Addr) (m : Mode) => run_store Tryd.prog X a (F k 2) m (hI.one k 2 hkn (by omega))
      have o3 := fun (X : World) (a : Addr) (m : Mode) => run_store Tryd.prog X a (F k 3) m (hI.one k 3 hkn (by omega))
      have o4 := fun (X : World) (a : Addr) (m : Mode) => run_store Tryd.prog X a (F k 4) m (hI.one k 4 hkn (by omega))
      have o6 := fun (X : World) (a : Addr) (m : Mode) => run_store Tryd.prog X a (F k 6) m (hI.one k 6 hkn (by omega))
      clear hI
      have HB := Lib.hid hB
      have HO := Lib.hid hown
      clear hB hown
      by_cases hd : dues k ≤ now
      · have e := dueIds_yes (ids := ids) hd
        have E := Lib.hid e
        clear e
        go_wp2_with (at_builtin; refine wpList_append_own _ rfl _ _ 30 rfl w.heap.size 3 i0 (.int .i64 0) 1 8 Tryd.underlying30 hi hz0 hz1 hz2 rfl (by decide) _ _ _ rfl ((HO.out.alloc _).alloc _) ⟨wr.heap.size + 1, 0, none⟩ 1 1 [.int .i64 (ids k)] rfl rfl ?c1 ?c2 ?c3 ?c4 ?c5 ?_)
        case c1 => have h := cell_one_new (wr.alloc (.cells #[Value.int IntKind.i64 (ids k), F k 1, F k 2, F k 3, F k 4, Value.int IntKind.i64 (dues k), F k 6] 32)) (.int .i64 (ids k)) 3; rw [World.size_alloc] at h; exact h
        case c2 => simp [Value.oneCell']
        case c3 => unfold maxLen; omega
        case c4 => omega
        case c5 => simp; omega
        intro v' w1 hown' hgrow _
        have hB1 := below_append ((HB.out.alloc hs _).alloc (by simp; omega) _) hgrow HO.out (Nat.le_refl _) (by simp; omega)
        have HB1 := Lib.hid hB1
        have HO1 := Lib.hid hown'
        clear hB1 hown' hgrow HO HB
        go_wp2
        go_roundw
        case rel => exact ⟨k + 1, by omega, by go_num, by rw [E.out]; simpa using HO1.out, HB1.out⟩
        case measure => simp [intOf]; omega
      · have e := dueIds_no (ids := ids) hd
        have E := Lib.hid e
        clear e
        go_wp2
        go_roundw
        case rel => exact ⟨k + 1, by omega, by go_num, by rw [E.out]; exact HO.out.alloc _, HB.out.alloc hs _⟩
        case measure => simp [intOf]; omega
    · obtain rfl : k = n := by omega
      go_wp2
      go_ret
      exact ⟨_, rfl, hown, hB⟩

set_option maxHeartbeats 400000 in
theorem due_none (A : Option Addr) (cap : Nat) (x0 x1 x3 x4 : Value) (now : Int) (w : World) :
    Calls Tryd.prog 16 #[.agg #[x0, x1, .slice A 0 cap, x3, x4], .int .i64 now] w fun e w' =>
      e = .returned (.slice none 0 0) ∧ Below w.heap.size w w' := by
  go_enter Tryd.func16, Tryd.ntmps16
  go_wp2
  refine wp_loop_rounds 1 ?_
  rw [rounds_succ]
  go_wp2
  go_ret
  exact ⟨rfl, (Below.refl _ _).alloc (Nat.le_refl _) _⟩
end Go.Proofs.YtcalbpdcjklffaaDoor
