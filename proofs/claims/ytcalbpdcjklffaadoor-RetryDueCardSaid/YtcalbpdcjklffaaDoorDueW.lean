/- The walk of RetryDue: whatever items came in, the call answers true and leaves what lay as it lay. -/
import Derived.Test.YtcalbpdcjklffaaDoorDueA
import Derived.Test.YtcalbpdcjklffaaDoorSameInts
namespace Go.Proofs.YtcalbpdcjklffaaDoor
open Go.RowKit

set_option maxHeartbeats 400000 in
theorem dueLaw_many (A : Option Addr) (n cap : Nat) (now : Int) (w : World) (hw : Waits w) (hn : 1000 < n) (hm : n ≤ 9223372036854775807) :
    Calls Tryd.prog 4 #[.slice A n cap, .int .i64 now] w fun e w' => e = .returned (.bool true) ∧ Below w.heap.size w w' := by
  have H := Lib.hid hw
  clear hw
  go_enter Tryd.func4, Tryd.ntmps4
  go_wp2_with (go_at_call 12; refine (alive18 _ H.out).mono ?_; rintro e w' ⟨rfl, rfl⟩)
  go_ret
  exact ⟨rfl, Below.refl _ _⟩

set_option maxHeartbeats 400000 in
theorem dueLaw_none (A : Option Addr) (cap : Nat) (now : Int) (w : World) (hw : Waits w) :
    Calls Tryd.prog 4 #[.slice A 0 cap, .int .i64 now] w fun e w' => e = .returned (.bool true) ∧ Below w.heap.size w w' := by
  have H := Lib.hid hw
  clear hw
  go_enter Tryd.func4, Tryd.ntmps4
  go_wp2_with (go_at_call 12; refine (alive18 _ H.out).mono ?_; rintro e w' ⟨rfl, rfl⟩)
  refine wp_loop_rounds 1 ?_
  rw [rounds_succ]
  go_wp2_with fail
  refine (due_none _ _ _ _ _ _ _ _).mono ?_
  rintro e w1 ⟨rfl, hB⟩
  go_wp2_with fail
  have hi : ∀ (X : World) (A : Option Addr), IntsAt X A 0 [] := fun _ _ => ⟨rfl, by omega, fun h => absurd h (by omega)⟩
  refine (same_eq _ _ 0 _ _ [] [] _ (hi _ _) (hi _ _)).mono ?_
  rintro e w2 ⟨rfl, q, rfl⟩
  go_wp2
  go_ret
  exact ⟨rfl, below_draws (below_then ((Below.refl _ _).alloc (Nat.le_refl _) _) hB) q⟩

set_option maxRecDepth 100000 in
set_option maxHeartbeats 1000000 in
theorem dueLaw_some (b off n cap : Nat) (F : Nat → Nat → Value) (ids dues : Nat → Int) (now : Int) (w : World) (hw : Waits w) (hn : n ≤ 1000) (hI : ItemsAt w b off n F ids dues) :
    Calls Tryd.prog 4 #[.slice (some ⟨b, off, none⟩) n cap, .int .i64 now] w fun e w' => e = .returned (.bool true) ∧ Below w.heap.size w w' := by
  obtain ⟨i0, hi, hz0, hz1, hz2⟩ := info_parts Tryd.infoInt
  have H := Lib.hid hw
  have hI' := Lib.hid hI
  have hlt := hI.lt
  clear hI hw
  go_enter Tryd.func4, Tryd.ntmps4
  go_wp2_with (go_at_call 12; refine (alive18 _ H.out).mono ?_; rintro e w' ⟨rfl, rfl⟩)
  go_loopw [5, 16] (fun v i wr => ∃ k : Nat, k ≤ n ∧ i = .int .i64 k ∧ wr.ownsRow w.heap.size 3 1 v (dueIds ids dues now k).length ((dueIds ids dues now k).map (Value.int .i64)) ∧ Below w.heap.size w wr)
    (fun _ i _ => n - (intOf i).toNat)
  case atStart =>
    exact ⟨0, Nat.zero_le _, rfl, own_empty _ _ _, (Below.refl _ _).alloc (Nat.le_refl _) _⟩
  case round =>
    obtain ⟨k, hk, rfl, hown, hB⟩ := hrel
    have hl := dueIds_length ids dues now k
    have hs := hB.size
    by_cases hkn : k < n
    · have hI := hI'.out
      have c0 : wr.cell? ⟨b, off + k * 7, none⟩ = some (F k 0) := (hB.cell (p := ⟨b, off + k * 7, none⟩) hlt).trans (hI.cell k 0 hkn (by omega))
      have c1 := (hB.cell (p := ⟨b, off + k * 7 + 1, none⟩) hlt).trans (hI.cell k 1 hkn (by omega))
      have c2 := (hB.cell (p := ⟨b, off + k * 7 + 2, none⟩) hlt).trans (hI.cell k 2 hkn (by omega))
      have c3 := (hB.cell (p := ⟨b, off + k * 7 + 3, none⟩) hlt).trans (hI.cell k 3 hkn (by omega))
      have c4 := (hB.cell (p := ⟨b, off + k * 7 + 4, none⟩) hlt).trans (hI.cell k 4 hkn (by omega))
      have c5 := (hB.cell (p := ⟨b, off + k * 7 + 5, none⟩) hlt).trans (hI.cell k 5 hkn (by omega))
      have c6 := (hB.cell (p := ⟨b, off + k * 7 + 6, none⟩) hlt).trans (hI.cell k 6 hkn (by omega))
      rw [hI.id k hkn] at c0
      rw [hI.due k hkn] at c5
      have o1 := fun (X : World) (a : Addr) (m : Mode) => run_store Tryd.prog X a (F k 1) m (hI.one k 1 hkn (by omega))
      have o2 := fun (X : World) (a : Addr) (m : Mode) => run_store Tryd.prog X a (F k 2) m (hI.one k 2 hkn (by omega))
      have o3 := fun (X : World) (a : Addr) (m : Mode) => run_store Tryd.prog X a (F k 3) m (hI.one k 3 hkn (by omega))
      have o4 := fun (X : World) (a : Addr) (m : Mode) => run_store Tryd.prog X a (F k 4) m (hI.one k 4 hkn (by omega))
      have o6 := fun (X : World) (a : Addr) (m : Mode) => run_store Tryd.prog X a (F k 6) m (hI.one k 6 hkn (by omega))
      clear hI
      have HB := Lib.hid hB
      have HO := Lib.hid hown
      clear hB hown
      by_cases hd : dues k ≤ now
      · have e := dueIds_yes (ids := ids) hd
        have E := Lib.hid e
        clear e
        go_wp2_with (at_builtin; refine wpList_append_own _ rfl _ _ 30 rfl w.heap.size 3 i0 (.int .i64 0) 1 8 Tryd.underlying30 hi hz0 hz1 hz2 rfl (by decide) _ _ _ rfl ((HO.out.alloc _).alloc _) ⟨wr.heap.size + 1, 0, none⟩ 1 1 [.int .i64 (ids k)] rfl rfl ?c1 ?c2 ?c3 ?c4 ?c5 ?_)
        case c1 => have h := cell_one_new (wr.alloc (.cells #[Value.int IntKind.i64 (ids k), F k 1, F k 2, F k 3, F k 4, Value.int IntKind.i64 (dues k), F k 6] 32)) (.int .i64 (ids k)) 3; rw [World.size_alloc] at h; exact h
        case c2 => simp [Value.oneCell']
        case c3 => unfold maxLen; omega
        case c4 => omega
        case c5 => simp; omega
        intro v' w1 hown' hgrow _
        have hB1 := below_append ((HB.out.alloc hs _).alloc (by simp; omega) _) hgrow HO.out (Nat.le_refl _) (by simp; omega)
        have HB1 := Lib.hid hB1
        have HO1 := Lib.hid hown'
        clear hB1 hown' hgrow HO HB
        go_wp2
        go_roundw
        case rel => exact ⟨k + 1, by omega, by go_num, by rw [E.out]; simpa using HO1.out, HB1.out⟩
        case measure => simp [intOf]; omega
      · have e := dueIds_no (ids := ids) hd
        have E := Lib.hid e
        clear e
        go_wp2
        go_roundw
        case rel => exact ⟨k + 1, by omega, by go_num, by rw [E.out]; exact HO.out.alloc _, HB.out.alloc hs _⟩
        case measure => simp [intOf]; omega
    · obtain rfl : k = n := by omega
      have hI2 : ItemsAt wr b off k F ids dues := ⟨by have := hB.size; omega, fun i j hi hj => (hB.cell (p := ⟨b, off + i * 7 + j, none⟩) hlt).trans (hI'.out.cell i j hi hj), hI'.out.one, hI'.out.id, hI'.out.due⟩
      have HI2 := Lib.hid hI2
      have HB := Lib.hid hB
      have HO := Lib.hid hown
      clear hB hown hI2
      go_wp2_with fail
      refine (due_walk b off k cap F ids dues _ _ _ _ now _ hn HI2.out).mono ?_
      rintro e w1 ⟨v, rfl, hown1, hB1⟩
      have hl2 := dueIds_length ids dues now k
      obtain ⟨A1, d1, rfl, h1⟩ := IntsAt.of_own hown1 (by omega)
      obtain ⟨A2, d2, rfl, h2⟩ := IntsAt.of_own (own_below HO.out hB1) (by omega)
      have H1 := Lib.hid h1
      have H2 := Lib.hid h2
      have HB2 := Lib.hid (below_then HB.out hB1)
      clear h1 h2 hown1 hB1 HO HB HI2 hI'
      go_wp2_with fail
      refine (same_eq A1 A2 _ _ _ _ _ _ H1.out H2.out).mono ?_
      rintro e w2 ⟨rfl, q, rfl⟩
      go_wp2
      go_ret
      exact ⟨by simp [sameB], below_draws HB2.out q⟩
end Go.Proofs.YtcalbpdcjklffaaDoor
