/- A part of the proofs of the statements on chapter 21: walks of functions that they reach, and plain laws. What is proved is stated in the last text. Conditions: none of its own. -/
import Derived.Test.YtgmfhldfdnnafaaGreatDoorMg2
import Derived.BigRegionIn
import Derived.Laws.ResultCell
namespace Go.Proofs.YtgmfhldfdnnafaaGreatDoor
open Go.RowKit Go.Shelf
open Pl (idxB Bs splitB)
attribute [local go_sem] Oper.semAt_some
set_option linter.unusedSimpArgs false
set_option linter.unusedVariables false
def innerS (s : ByteArray) : ByteArray := sufL 41 (preR 40 s)
def brackF (s : ByteArray) : Bool := preF 40 s && sufF 41 (preR 40 s)
def flagsOk (s : ByteArray) : Bool := brackF s && ((innerS s).toList.isEmpty || wordsOk (splitB 32 (bs (innerS s))))
def flagsI (s : ByteArray) : Int := if flagsOk s = true then (if (innerS s).toList.isEmpty = true then 0 else wordsI (splitB 32 (bs (innerS s)))) else 0
def flagsE (s : ByteArray) (v : Value) : Value := if flagsOk s = true then .nilIface else v
structure FlagMid (w : World) (v : Value) (pre : List Bs) (W : World) : Prop where
  r0 : W.heap[w.heap.size]? = some (.cells #[.int .i64 0] 3 (0, 0))
  r1 : W.heap[w.heap.size + 1]? = some (.cells #[.nilIface] 35 (0, 0))
  r2 : W.heap[w.heap.size + 2]? = some (.cells #[.int .i64 (wordsI pre)] 3 (0, 0))
  below : Below w.heap.size w W
  sent : W.cell? ⟨0, 0, none⟩ = some v
theorem FlagMid.then {w W W' : World} {v : Value} {pre : List Bs} (h : FlagMid w v pre W) (hb : Below W.heap.size W W') : FlagMid w v pre W' :=
  ⟨Stay.below (T := fun _ => True) hb _ _ trivial h.r0, Stay.below (T := fun _ => True) hb _ _ trivial h.r1, Stay.below (T := fun _ => True) hb _ _ trivial h.r2, below_then h.below hb, sent_then h.sent hb⟩
theorem name_index (k : Nat) (hk : k < 5) (X : World) : (Instr.index 167 (.agg #[.string (nameS 0), .string (nameS 1), .string (nameS 2), .string (nameS 3), .string (nameS 4)]) (.int .i64 k)).run Tryz.prog X = .ok (.string (nameS k)) X := by
  have h : k = 0 ∨ k = 1 ∨ k = 2 ∨ k = 3 ∨ k = 4 := by omega
  rcases h with rfl | rfl | rfl | rfl | rfl <;> simp [Instr.index, run_underlying Tryz.underlying167, asIntOf, go_sem] <;> rfl
structure FlagAt (w : World) (v : Value) (pre : List Bs) (W : World) : Prop where
  ok : wordsOk pre = true
  mid : FlagMid w v pre W
structure FlagEnd (w : World) (v : Value) (pre : List Bs) (W : World) : Prop where
  bad : wordsOk pre = false
  r0 : W.heap[w.heap.size]? = some (.cells #[.int .i64 0] 3 (0, 0))
  r1 : W.heap[w.heap.size + 1]? = some (.cells #[v] 35 (0, 0))
  below : Below w.heap.size w W
theorem FlagAt.cell {w W : World} {v : Value} {pre : List Bs} (h : FlagAt w v pre W) {b : Nat} (u : Value) (h1 : w.heap.size + 2 < b) (zg : 0 < w.heap.size) : FlagAt w v pre (W.setCell ⟨b, 0, none⟩ u) :=
  ⟨h.ok, ⟨setCell_other h.mid.r0 _ (by dsimp only; omega), setCell_other h.mid.r1 _ (by dsimp only; omega), setCell_other h.mid.r2 _ (by dsimp only; omega), h.mid.below.setCell (by dsimp only; omega) _,
    (World.cell?_of_block (w := W) (a := ⟨0, 0, none⟩) (Below.heap_setCell W _ u _ (by dsimp only; omega))).trans h.mid.sent⟩⟩
theorem FlagAt.put {w W : World} {v : Value} {pre : List Bs} (h : FlagAt w v pre W) {b : Nat} (o : Obj) (h1 : w.heap.size + 2 < b) (hz : w.heap.size ≤ W.heap.size) (zg : 0 < w.heap.size) : FlagAt w v pre (W.putObj b o) :=
  ⟨h.ok, ⟨(World.putObj_heap_other (by omega)).trans h.mid.r0, (World.putObj_heap_other (by omega)).trans h.mid.r1, (World.putObj_heap_other (by omega)).trans h.mid.r2, below_putObj h.mid.below _ _ (by omega) hz,
    (World.cell?_of_block (w := W) (a := ⟨0, 0, none⟩) (World.putObj_heap_other (by dsimp only; omega))).trans h.mid.sent⟩⟩
theorem FlagEnd.put {w W : World} {v : Value} {pre : List Bs} (h : FlagEnd w v pre W) {b : Nat} (o : Obj) (h1 : w.heap.size + 2 < b) (hz : w.heap.size ≤ W.heap.size) : FlagEnd w v pre (W.putObj b o) :=
  ⟨h.bad, (World.putObj_heap_other (by omega)).trans h.r0, (World.putObj_heap_other (by omega)).trans h.r1, below_putObj h.below _ _ (by omega) hz⟩
set_option maxRecDepth 100000 in
set_option maxHeartbeats 8000000 in
theorem flags_walk (s : ByteArray) (v : Value) (w : World) (hs : s.size ≤ 1000000) (hc : w.cell? ⟨0, 0, none⟩ = some v) (hv : ∃ t x, v = .iface t x) :
    Calls Tryz.prog 120 #[.string s] w fun e w' => e = .returned (.tuple #[.int .i64 (flagsI s), flagsE s v]) ∧ Below w.heap.size w w' := by
  have c1 : ∀ W, Calls Tryz.prog 96 #[.string s, .string ⟨#[40]⟩] W (fun e w' => e = .returned (.tuple #[.string (preR 40 s), .bool (preF 40 s)]) ∧ W = w') := fun W => cutPre_walk s 40 W (by omega)
  have zp : (preR 40 s).size ≤ s.size := by rw [← bs_size, bs_preR, ← bs_size]; split <;> simp
  have c2 : ∀ W, Calls Tryz.prog 18 #[.string (preR 40 s), .string ⟨#[41]⟩] W (fun e w' => e = .returned (.tuple #[.string (innerS s), .bool (sufF 41 (preR 40 s))]) ∧ W = w') := fun W => cutSuf_walk (preR 40 s) 41 W (by omega)
  have C1 := Lib.hid c1
  have C2 := Lib.hid c2
  have HC := Lib.hid hc
  have zg : 0 < w.heap.size := World.block_lt_of_cell? w _ hc
  obtain ⟨ty, xv, rfl⟩ := hv
  clear c1 c2 hc
  refine (callsIn_wide (n := 3)).1 ?_
  refine callsIn_of_wp_marks Tryz.func120 rfl trivial ?_ rfl
  simp only [Tryz.ntmps120, List.size_toArray, List.length_cons, List.length_nil, Nat.reduceAdd, Nat.reduceSub, Array.replicate_succ, Array.replicate_zero, List.push_toArray, List.append_toArray, List.nil_append, List.cons_append]
  gi_wp2_with fail
  refine ⟨trivial, ?_⟩
  refine (callsIn_wide.2 (C1.out _)).mono ?_
  rintro e w' ⟨rfl, rfl⟩
  gi_wp2_with fail
  refine ⟨trivial, ?_⟩
  refine (callsIn_wide.2 (C2.out _)).mono ?_
  rintro e w' ⟨rfl, rfl⟩
  obtain ⟨W1, hW1⟩ : ∃ W1, W1 = (w.alloc (Obj.cells #[.int .i64 0] 3)).alloc (Obj.cells #[.nilIface] 35) := ⟨_, rfl⟩
  have z1 : W1.heap.size = w.heap.size + 2 := by rw [hW1]; simp
  have q0 : W1.heap[w.heap.size]? = some (.cells #[.int .i64 0] 3 (0, 0)) := by rw [hW1]; exact (Below.heap_alloc _ _ _ (by simp)).trans (World.alloc_heap_new w _)
  have q1 : W1.heap[w.heap.size + 1]? = some (.cells #[.nilIface] 35 (0, 0)) := by
    rw [hW1]; have := World.alloc_heap_new (w.alloc (Obj.cells #[.int .i64 0] 3)) (Obj.cells #[.nilIface] 35); rw [World.size_alloc] at this; exact this
  have qB : Below w.heap.size w W1 := by rw [hW1]; exact ((Below.refl _ _).alloc (Nat.le_refl _) _).alloc (by simp) _
  have qS := sent_then HC.out qB
  rw [← hW1]
  clear hW1
  cases hp : preF 40 s with
  | false =>
    · skip
      have HV := Lib.hid (show flagsI s = 0 ∧ flagsE s (.iface ty xv) = .iface ty xv by
        have h : flagsOk s = false := by rw [flagsOk, brackF, hp]; simp
        rw [flagsI, flagsE, h]; exact ⟨rfl, rfl⟩)
      have k0 := cell_of_one q0
      have k1 := cell_of_one q1
      have f0 := free_of_one q0
      have f1 := free_of_one q1
      have s0 := qS
      gi_wp2
      gi_region
      all_goals
        gi_wp2
        refine ⟨.tuple #[.int .i64 0, .iface ty xv], by simp [results, Tryz.results120, go_sem, k0, k1], ?_⟩
        exact ⟨by rw [HV.out.1, HV.out.2], below_drew ((qB.setCell (Nat.le_refl _) _).setCell (by simp) _)⟩
  | true =>
    cases hf : sufF 41 (preR 40 s) with
    | false =>
      have HV := Lib.hid (show flagsI s = 0 ∧ flagsE s (.iface ty xv) = .iface ty xv by
        have h : flagsOk s = false := by rw [flagsOk, brackF, hp, hf]; simp
        rw [flagsI, flagsE, h]; exact ⟨rfl, rfl⟩)
      have k0 := cell_of_one q0
      have k1 := cell_of_one q1
      have f0 := free_of_one q0
      have f1 := free_of_one q1
      have s0 := qS
      gi_wp2
      gi_region
      all_goals
        gi_wp2
        refine ⟨.tuple #[.int .i64 0, .iface ty xv], by simp [results, Tryz.results120, go_sem, k0, k1], ?_⟩
        exact ⟨by rw [HV.out.1, HV.out.2], below_drew ((qB.setCell (Nat.le_refl _) _).setCell (by simp) _)⟩
    | true =>
      cases hi : (innerS s).toList.isEmpty with
      | true =>
        have HV := Lib.hid (show flagsI s = 0 ∧ flagsE s (.iface ty xv) = .nilIface by
          have h : flagsOk s = true := by rw [flagsOk, brackF, hp, hf, hi]; rfl
          rw [flagsI, flagsE, h, hi]; exact ⟨rfl, rfl⟩)
        have k0 := cell_of_one q0
        have k1 := cell_of_one q1
        have f0 := free_of_one q0
        have f1 := free_of_one q1
        gi_wp2
        refine ⟨.tuple #[.int .i64 0, .nilIface], by simp [results, Tryz.results120, go_sem, k0, k1], ?_⟩
        exact ⟨by rw [HV.out.1, HV.out.2], (qB.setCell (Nat.le_refl _) _).setCell (by simp) _⟩
      | false =>
        have zi : (innerS s).size ≤ s.size := by
          have h1 : (innerS s).size ≤ (preR 40 s).size := by
            rw [innerS, ← bs_size, bs_sufL, ← bs_size]; split <;> simp
          omega
        gi_wp2_with fail
        refine ⟨trivial, ?_⟩
        refine (callsIn_wide.2 (splitSeq_walk _ _ _)).mono ?_
        rintro e w' ⟨rfl, rfl⟩
        gi_wp2_with fail
        obtain ⟨W2, hW2⟩ : ∃ W2, W2 = W1.alloc (Obj.cells #[.int .i64 0] 3) := ⟨_, rfl⟩
        have z2 : W2.heap.size = w.heap.size + 3 := by rw [hW2]; simp; omega
        have hB2 : Below W1.heap.size W1 W2 := by rw [hW2]; exact (Below.refl _ _).alloc (Nat.le_refl _) _
        have q2 : W2.heap[w.heap.size + 2]? = some (.cells #[.int .i64 0] 3 (0, 0)) := by
          rw [hW2, ← z1]; exact World.alloc_heap_new W1 _
        have hM : FlagMid w (.iface ty xv) [] W2 := ⟨Stay.below (T := fun _ => True) hB2 _ _ trivial q0, Stay.below (T := fun _ => True) hB2 _ _ trivial q1, q2, below_then qB hB2, sent_then qS hB2⟩
        rw [← hW2]
        clear hW2 q0 q1 q2 qB qS hB2
        have z0 := splitWorld_size W2 32 (innerS s)
        refine wpIn_split 3 (pb := W2.heap.size + 1) (sb := W2.heap.size) (zb := W2.heap.size + 2) (x := 32) (s0 := innerS s) rfl rfl (by omega) (by omega) (by omega) (splitWorld_box W2 32 (innerS s))
          (fun pre W => FlagAt w (.iface ty xv) pre W) (fun c pre W => c = .ret ∧ FlagEnd w (.iface ty xv) pre W)
          (fun pre W u h => h.cell u (by omega) zg)
          (fun pre W o hz h => h.put o (by omega) (by omega) zg)
          (fun c pre W o hz h => ⟨h.1, h.2.put o (by omega) (by omega)⟩)
          (fun o => ⟨rfl, hM.then ((((splitWorld_below W2 32 (innerS s))).alloc (by omega) _).alloc (by simp; omega) _)⟩)
          (fun p => { tmps := #[.string s, undef, .pointer (some ⟨w.heap.size, 0, none⟩), .pointer (some ⟨w.heap.size + 1, 0, none⟩), .string (innerS s), .bool true, .bool true, .pointer (some ⟨w.heap.size + 2, 0, none⟩), .string p, undef, undef, undef, .tuple #[.string (preR 40 s), .bool true], .string s, .tuple #[.string (preR 40 s), .bool true], .string (preR 40 s), .bool true, .tuple #[.string (innerS s), .bool true], .string (preR 40 s), .tuple #[.string (innerS s), .bool true], .string (innerS s), .bool true, .bool true, .bool false, .bool false, .bool true, .bool false, .bool false, undef, .string (innerS s), .bool false, .string (innerS s), splitFn W2, .string p, undef, undef, undef, undef, undef, undef, undef, undef, undef, undef, undef, undef, undef, undef, undef, undef, undef, undef], defers := [] })
          ?assign ?body ?done ?stop
        case assign =>
          intro l p W K hK
          gi_wp2
          exact hK
        case body =>
          intro l pre p sx W hI hBx hpz hlt
          have hm := hI.mid
          have HOK := Lib.hid hI.ok
          have HM := Lib.hid hm
          clear hI hBx hM hm
          gi_wp2_with fail
          refine ⟨trivial, ?_⟩
          refine (CallsIn.inRound l (callsIn_wide.2 (names_walk _))).mono ?_
          rintro e Wa ⟨rfl, hBa⟩
          have HWa := Lib.hid hBa
          have HMa := Lib.hid (HM.out.then hBa)
          clear hBa
          rw [namesV]
          gi_wp2_with fail
          gi_loopw [9, 35] (fun kn i wr => ∃ k : Nat, k ≤ 5 ∧ i = .int .i64 k ∧ kn = .int .i64 (knownK (bs p) k) ∧ Hid (FlagMid w (.iface ty xv) pre wr) ∧ Hid (Below W.heap.size W wr)) (fun _ i _ => 5 - (intOf i).toNat)
          case atStart => exact ⟨0, by omega, rfl, rfl, HMa, HWa⟩
          case round =>
            obtain ⟨k, hk, rfl, rfl, HMr, HWr⟩ := hrel
            have hk' : k = 0 ∨ k = 1 ∨ k = 2 ∨ k = 3 ∨ k = 4 ∨ k = 5 := by omega
            rcases hk' with rfl | rfl | rfl | rfl | rfl | rfl
            · cases he : eqw (bs p) 0 with
              | true =>
                have E := Lib.hid (show sameS p (nameS 0) = true from he)
                have K := Lib.hid (show knownK (bs p) 1 = 1 by rw [knownK, if_pos he]; rfl)
                clear he
                generalize hkn : knownK (bs p) 0 = kn at *
                have nx := name_index 0 (by decide)
                generalize hki : ((0 : Nat) : Int) = ki at *
                gi_wp2_with fail
                refine ⟨trivial, ?_⟩
                refine (CallsIn.inRound l (callsIn_wide.2 (sameT_walk p (nameS 0) (by omega) (by decide) _))).mono ?_
                rintro e W' ⟨rfl, hb'⟩
                rw [E.out]
                have HW' := Lib.hid (below_then HWr.out hb')
                have HM' := Lib.hid (HMr.out.then hb')
                clear hb'
                gi_wp2
                go_roundw
                case rel => exact ⟨1, by omega, by go_num, by rw [K.out]; try (subst hki; first | rfl | (congr 1; done) | (congr 1; decide) | simp [RowKit.wrap64]), HM', HW'⟩
                case measure => subst hki; simp [intOf]
              | false =>
                have E := Lib.hid (show sameS p (nameS 0) = false from he)
                have K := Lib.hid (show knownK (bs p) 1 = knownK (bs p) 0 by simp only [knownK, he]; rfl)
                clear he
                generalize hkn : knownK (bs p) 0 = kn at *
                have nx := name_index 0 (by decide)
                generalize hki : ((0 : Nat) : Int) = ki at *
                gi_wp2_with fail
                refine ⟨trivial, ?_⟩
                refine (CallsIn.inRound l (callsIn_wide.2 (sameT_walk p (nameS 0) (by omega) (by decide) _))).mono ?_
                rintro e W' ⟨rfl, hb'⟩
                rw [E.out]
                have HW' := Lib.hid (below_then HWr.out hb')
                have HM' := Lib.hid (HMr.out.then hb')
                clear hb'
                gi_wp2
                go_roundw
                case rel => exact ⟨1, by omega, by go_num, by rw [K.out]; try (subst hki; first | rfl | (congr 1; done) | (congr 1; decide) | simp [RowKit.wrap64]), HM', HW'⟩
                case measure => subst hki; simp [intOf]
            · cases he : eqw (bs p) 1 with
              | true =>
                have E := Lib.hid (show sameS p (nameS 1) = true from he)
                have K := Lib.hid (show knownK (bs p) 2 = 2 by rw [knownK, if_pos he]; rfl)
                clear he
                generalize hkn : knownK (bs p) 1 = kn at *
                have nx := name_index 1 (by decide)
                generalize hki : ((1 : Nat) : Int) = ki at *
                gi_wp2_with fail
                refine ⟨trivial, ?_⟩
                refine (CallsIn.inRound l (callsIn_wide.2 (sameT_walk p (nameS 1) (by omega) (by decide) _))).mono ?_
                rintro e W' ⟨rfl, hb'⟩
                rw [E.out]
                have HW' := Lib.hid (below_then HWr.out hb')
                have HM' := Lib.hid (HMr.out.then hb')
                clear hb'
                gi_wp2
                go_roundw
                case rel => exact ⟨2, by omega, by go_num, by rw [K.out]; try (subst hki; first | rfl | (congr 1; done) | (congr 1; decide) | simp [RowKit.wrap64]), HM', HW'⟩
                case measure => subst hki; simp [intOf]
              | false =>
                have E := Lib.hid (show sameS p (nameS 1) = false from he)
                have K := Lib.hid (show knownK (bs p) 2 = knownK (bs p) 1 by simp only [knownK, he]; rfl)
                clear he
                generalize hkn : knownK (bs p) 1 = kn at *
                have nx := name_index 1 (by decide)
                generalize hki : ((1 : Nat) : Int) = ki at *
                gi_wp2_with fail
                refine ⟨trivial, ?_⟩
                refine (CallsIn.inRound l (callsIn_wide.2 (sameT_walk p (nameS 1) (by omega) (by decide) _))).mono ?_
                rintro e W' ⟨rfl, hb'⟩
                rw [E.out]
                have HW' := Lib.hid (below_then HWr.out hb')
                have HM' := Lib.hid (HMr.out.then hb')
                clear hb'
                gi_wp2
                go_roundw
                case rel => exact ⟨2, by omega, by go_num, by rw [K.out]; try (subst hki; first | rfl | (congr 1; done) | (congr 1; decide) | simp [RowKit.wrap64]), HM', HW'⟩
                case measure => subst hki; simp [intOf]
            · cases he : eqw (bs p) 2 with
              | true =>
                have E := Lib.hid (show sameS p (nameS 2) = true from he)
                have K := Lib.hid (show knownK (bs p) 3 = 4 by rw [knownK, if_pos he]; rfl)
                clear he
                generalize hkn : knownK (bs p) 2 = kn at *
                have nx := name_index 2 (by decide)
                generalize hki : ((2 : Nat) : Int) = ki at *
                gi_wp2_with fail
                refine ⟨trivial, ?_⟩
                refine (CallsIn.inRound l (callsIn_wide.2 (sameT_walk p (nameS 2) (by omega) (by decide) _))).mono ?_
                rintro e W' ⟨rfl, hb'⟩
                rw [E.out]
                have HW' := Lib.hid (below_then HWr.out hb')
                have HM' := Lib.hid (HMr.out.then hb')
                clear hb'
                gi_wp2
                go_roundw
                case rel => exact ⟨3, by omega, by go_num, by rw [K.out]; try (subst hki; first | rfl | (congr 1; done) | (congr 1; decide) | simp [RowKit.wrap64]), HM', HW'⟩
                case measure => subst hki; simp [intOf]
              | false =>
                have E := Lib.hid (show sameS p (nameS 2) = false from he)
                have K := Lib.hid (show knownK (bs p) 3 = knownK (bs p) 2 by simp only [knownK, he]; rfl)
                clear he
                generalize hkn : knownK (bs p) 2 = kn at *
                have nx := name_index 2 (by decide)
                generalize hki : ((2 : Nat) : Int) = ki at *
                gi_wp2_with fail
                refine ⟨trivial, ?_⟩
                refine (CallsIn.inRound l (callsIn_wide.2 (sameT_walk p (nameS 2) (by omega) (by decide) _))).mono ?_
                rintro e W' ⟨rfl, hb'⟩
                rw [E.out]
                have HW' := Lib.hid (below_then HWr.out hb')
                have HM' := Lib.hid (HMr.out.then hb')
                clear hb'
                gi_wp2
                go_roundw
                case rel => exact ⟨3, by omega, by go_num, by rw [K.out]; try (subst hki; first | rfl | (congr 1; done) | (congr 1; decide) | simp [RowKit.wrap64]), HM', HW'⟩
                case measure => subst hki; simp [intOf]
            · cases he : eqw (bs p) 3 with
              | true =>
                have E := Lib.hid (show sameS p (nameS 3) = true from he)
                have K := Lib.hid (show knownK (bs p) 4 = 8 by rw [knownK, if_pos he]; rfl)
                clear he
                generalize hkn : knownK (bs p) 3 = kn at *
                have nx := name_index 3 (by decide)
                generalize hki : ((3 : Nat) : Int) = ki at *
                gi_wp2_with fail
                refine ⟨trivial, ?_⟩
                refine (CallsIn.inRound l (callsIn_wide.2 (sameT_walk p (nameS 3) (by omega) (by decide) _))).mono ?_
                rintro e W' ⟨rfl, hb'⟩
                rw [E.out]
                have HW' := Lib.hid (below_then HWr.out hb')
                have HM' := Lib.hid (HMr.out.then hb')
                clear hb'
                gi_wp2
                go_roundw
                case rel => exact ⟨4, by omega, by go_num, by rw [K.out]; try (subst hki; first | rfl | (congr 1; done) | (congr 1; decide) | simp [RowKit.wrap64]), HM', HW'⟩
                case measure => subst hki; simp [intOf]
              | false =>
                have E := Lib.hid (show sameS p (nameS 3) = false from he)
                have K := Lib.hid (show knownK (bs p) 4 = knownK (bs p) 3 by simp only [knownK, he]; rfl)
                clear he
                generalize hkn : knownK (bs p) 3 = kn at *
                have nx := name_index 3 (by decide)
                generalize hki : ((3 : Nat) : Int) = ki at *
                gi_wp2_with fail
                refine ⟨trivial, ?_⟩
                refine (CallsIn.inRound l (callsIn_wide.2 (sameT_walk p (nameS 3) (by omega) (by decide) _))).mono ?_
                rintro e W' ⟨rfl, hb'⟩
                rw [E.out]
                have HW' := Lib.hid (below_then HWr.out hb')
                have HM' := Lib.hid (HMr.out.then hb')
                clear hb'
                gi_wp2
                go_roundw
                case rel => exact ⟨4, by omega, by go_num, by rw [K.out]; try (subst hki; first | rfl | (congr 1; done) | (congr 1; decide) | simp [RowKit.wrap64]), HM', HW'⟩
                case measure => subst hki; simp [intOf]
            · cases he : eqw (bs p) 4 with
              | true =>
                have E := Lib.hid (show sameS p (nameS 4) = true from he)
                have K := Lib.hid (show knownK (bs p) 5 = 16 by rw [knownK, if_pos he]; rfl)
                clear he
                generalize hkn : knownK (bs p) 4 = kn at *
                have nx := name_index 4 (by decide)
                generalize hki : ((4 : Nat) : Int) = ki at *
                gi_wp2_with fail
                refine ⟨trivial, ?_⟩
                refine (CallsIn.inRound l (callsIn_wide.2 (sameT_walk p (nameS 4) (by omega) (by decide) _))).mono ?_
                rintro e W' ⟨rfl, hb'⟩
                rw [E.out]
                have HW' := Lib.hid (below_then HWr.out hb')
                have HM' := Lib.hid (HMr.out.then hb')
                clear hb'
                gi_wp2
                go_roundw
                case rel => exact ⟨5, by omega, by go_num, by rw [K.out]; try (subst hki; first | rfl | (congr 1; done) | (congr 1; decide) | simp [RowKit.wrap64]), HM', HW'⟩
                case measure => subst hki; simp [intOf]
              | false =>
                have E := Lib.hid (show sameS p (nameS 4) = false from he)
                have K := Lib.hid (show knownK (bs p) 5 = knownK (bs p) 4 by simp only [knownK, he]; rfl)
                clear he
                generalize hkn : knownK (bs p) 4 = kn at *
                have nx := name_index 4 (by decide)
                generalize hki : ((4 : Nat) : Int) = ki at *
                gi_wp2_with fail
                refine ⟨trivial, ?_⟩
                refine (CallsIn.inRound l (callsIn_wide.2 (sameT_walk p (nameS 4) (by omega) (by decide) _))).mono ?_
                rintro e W' ⟨rfl, hb'⟩
                rw [E.out]
                have HW' := Lib.hid (below_then HWr.out hb')
                have HM' := Lib.hid (HMr.out.then hb')
                clear hb'
                gi_wp2
                go_roundw
                case rel => exact ⟨5, by omega, by go_num, by rw [K.out]; try (subst hki; first | rfl | (congr 1; done) | (congr 1; decide) | simp [RowKit.wrap64]), HM', HW'⟩
                case measure => subst hki; simp [intOf]
            · have hwa : wordsOk (pre ++ [bs p]) = (wordsOk pre && !(knownK (bs p) 5 == 0)) := by simp [wordsOk]
              have HWN := Lib.hid (wordsI_snoc pre (bs p))
              have hgt : w.heap.size + 8 ≤ W.heap.size := by omega
              have zr : W.heap.size ≤ wr.heap.size := HWr.out.size
              generalize hkn : knownK (bs p) 5 = kn at *
              have r0 := HMr.out.r0
              have r1 := HMr.out.r1
              have r2 := HMr.out.r2
              have k0 := cell_of_one r0
              have k1 := cell_of_one r1
              have k2 := cell_of_one r2
              have f0 := free_of_one r0
              have f1 := free_of_one r1
              have f2 := free_of_one r2
              have s0 := HMr.out.sent
              cases hz : (kn == 0) with
              | true =>
                have HBad := Lib.hid (show wordsOk (pre ++ [bs p]) = false by rw [hwa, hz]; simp)
                have hend : FlagEnd w (.iface ty xv) (pre ++ [bs p]) ((wr.setCell ⟨w.heap.size, 0, none⟩ (.int .i64 0)).setCell ⟨w.heap.size + 1, 0, none⟩ (.iface ty xv)).drew :=
                  ⟨HBad.out, setCell_other (one_setCell r0) _ (by simp), one_setCell (setCell_other r1 _ (by simp)), below_drew ((HMr.out.below.setCell (Nat.le_refl _) _).setCell (by simp) _)⟩
                have HEnd := Lib.hid hend
                clear hend hwa r0 r1 r2 hkn
                gi_wp2
                refine wpIn_three (by kernel_rfl) (by decide +kernel) (by decide +kernel) (by decide +kernel) (by decide +kernel) (by decide +kernel) ?_ ?_
                all_goals
                  gi_wp2
                  exact ⟨(Stay.below HWr.out).trans ((Stay.setCell _ _ (by unfold splitT; dsimp only; omega)).trans (Stay.setCell _ _ (by unfold splitT; dsimp only; omega))), rfl, HEnd.out⟩
              | false =>
                have HOk := Lib.hid (show wordsOk (pre ++ [bs p]) = true by rw [hwa, HOK.out, hz]; rfl)
                have hat : FlagAt w (.iface ty xv) (pre ++ [bs p]) (wr.setCell ⟨w.heap.size + 2, 0, none⟩ (.int .i64 (wordsI (pre ++ [bs p])))) :=
                  ⟨HOk.out, ⟨setCell_other r0 _ (by simp), setCell_other r1 _ (by simp), one_setCell r2, HMr.out.below.setCell (by simp) _,
                    (World.cell?_of_block (w := wr) (a := ⟨0, 0, none⟩) (Below.heap_setCell wr _ _ _ (by dsimp only; omega))).trans s0⟩⟩
                rw [HWN.out] at hat
                have HAt := Lib.hid hat
                clear hat hwa r0 r1 r2 hkn
                gi_wp2
                exact ⟨(Stay.below HWr.out).trans (Stay.setCell _ _ (by unfold splitT; dsimp only; omega)), HAt.out⟩
        case done =>
          intro W hI hK
          have hok : flagsOk s = true := by rw [flagsOk, brackF, hp, hf, hi, hI.ok]; rfl
          have HV := Lib.hid (show flagsI s = wordsI (splitB 32 (bs (innerS s))) ∧ flagsE s (.iface ty xv) = .nilIface by
            rw [flagsI, flagsE, hok, hi]; exact ⟨rfl, rfl⟩)
          have hm := hI.mid
          have R0 := Lib.hid hm.r0
          have R1 := Lib.hid hm.r1
          have HB := Lib.hid hm.below
          have k0 := cell_of_one hm.r0
          have k1 := cell_of_one hm.r1
          have k2 := cell_of_one hm.r2
          have f0 := free_of_one hm.r0
          have f1 := free_of_one hm.r1
          clear hm hI hok hM
          generalize wordsI (splitB 32 (bs (innerS s))) = N at *
          gi_wp2
          have hK2 : ((W.setCell ⟨w.heap.size, 0, none⟩ (.int .i64 N)).setCell ⟨w.heap.size + 1, 0, none⟩ .nilIface).heap[(splitWorld W2 32 (innerS s)).heap.size]? = some (.deferred (some [])) := setCell_other (setCell_other hK _ (by dsimp only; omega)) _ (by dsimp only; omega)
          have c2 : (((W.setCell ⟨w.heap.size, 0, none⟩ (.int .i64 N)).setCell ⟨w.heap.size + 1, 0, none⟩ .nilIface).putObj (splitWorld W2 32 (innerS s)).heap.size (.deferred none)).cell? ⟨w.heap.size, 0, none⟩ = some (.int .i64 N) :=
            cell_of_one ((World.putObj_heap_other (by omega)).trans (setCell_other (one_setCell R0.out) _ (by simp)))
          have c3 : (((W.setCell ⟨w.heap.size, 0, none⟩ (.int .i64 N)).setCell ⟨w.heap.size + 1, 0, none⟩ .nilIface).putObj (splitWorld W2 32 (innerS s)).heap.size (.deferred none)).cell? ⟨w.heap.size + 1, 0, none⟩ = some .nilIface :=
            cell_of_one ((World.putObj_heap_other (by omega)).trans (one_setCell (setCell_other R1.out _ (by simp))))
          refine ⟨by simp, .inl ⟨_, _, rfl, run_takeDeferred hK2, ?_⟩⟩
          refine ⟨.tuple #[.int .i64 N, .nilIface], by simp [results, Tryz.results120, go_sem, c2, c3], ?_⟩
          exact ⟨by rw [HV.out.1, HV.out.2], below_putObj ((HB.out.setCell (Nat.le_refl _) _).setCell (by simp) _) _ _ (by omega) (by simp; have := HB.out.size; omega)⟩
        case stop =>
          rintro c pre W hpre ⟨rfl, hE⟩ hK
          have hok : flagsOk s = false := by
            obtain ⟨t, ht⟩ := hpre
            have hb := hE.bad
            rw [flagsOk, hi, ← ht, wordsOk, List.all_append, ← wordsOk, hb]; simp
          have HV := Lib.hid (show flagsI s = 0 ∧ flagsE s (.iface ty xv) = .iface ty xv by
            rw [flagsI, flagsE, hok]; exact ⟨rfl, rfl⟩)
          clear hok
          gi_wp2
          have c2 : (W.putObj (splitWorld W2 32 (innerS s)).heap.size (.deferred none)).cell? ⟨w.heap.size, 0, none⟩ = some (.int .i64 0) :=
            cell_of_one ((World.putObj_heap_other (by omega)).trans hE.r0)
          have c3 : (W.putObj (splitWorld W2 32 (innerS s)).heap.size (.deferred none)).cell? ⟨w.heap.size + 1, 0, none⟩ = some (.iface ty xv) :=
            cell_of_one ((World.putObj_heap_other (by omega)).trans hE.r1)
          refine ⟨by simp, .inl ⟨_, _, rfl, run_takeDeferred hK, ?_⟩⟩
          refine ⟨.tuple #[.int .i64 0, .iface ty xv], by simp [results, Tryz.results120, go_sem, c2, c3], ?_⟩
          exact ⟨by rw [HV.out.1, HV.out.2], below_putObj hE.below _ _ (by omega) (by have := hE.below.size; omega)⟩
end Go.Proofs.YtgmfhldfdnnafaaGreatDoor
namespace Go.Proofs.YtgmfhldfdnnafaaGreatDoor
open Go.RowKit
open Pl (Bs idxB numOk numN setOk setL)
set_option linter.unusedSimpArgs false
set_option linter.unusedVariables false
def encU (c : UInt8) : Value := .int .u8 (c.toNat : Int)
theorem own_text {w : World} {base n : Nat} {v : Value} {l : Bs} (hl : l.length = n) (h : w.ownsRow base 5 1 v n (l.map encU)) : (convert 46 9 v).run Tryz.prog w = .ok (.string (str l)) w := by
  subst hl
  rcases h.2 with ⟨rfl, h0⟩ | ⟨g, cap, cur, rfl, hb, hh, h1, h2, h3, h4⟩
  · obtain rfl : l = [] := List.eq_nil_of_length_eq_zero h0
    rw [run_convert_bytes_string w _ _ 5 none 0 0 Tryz.underlying46 Tryz.underlying5 Tryz.underlying9]
    first
    | rfl
    | (simp [Conv.bytesToString]; done)
    | (simp [Conv.bytesToString]; rfl)
  · refine run_convert_bytes_back w _ _ 5 _ cap l Tryz.underlying46 Tryz.underlying5 Tryz.underlying9 (fun j hj => ?_)
    exact h.cells (g := g) rfl j (encU l[j]) (by rw [List.getElem?_map, List.getElem?_eq_getElem hj]; rfl)
theorem infoU8 : (Tryz.prog.info? 5).map (fun i => (i.zero, i.size, i.bytes)) = some (some (.int .u8 0), 1, 1) := by kernel_rfl
theorem own_kept {w w1 : World} {base B : Nat} {e : TypeId} {size n : Nat} {v : Value} {xs : List Value} (h : w.ownsRow base e size v n xs) (hg : w.grownBy w1 (some B)) (hB : B < base) : w1.ownsRow base e size v n xs :=
  h.kept hg (by
    rcases hv : v.ownBlock with _ | k
    · exact .inl rfl
    · have := (h.lt k hv).1
      exact .inr (fun e => by have := Option.some.inj e; omega))
/-- what a step that reads a text does -/
def TextPost (w : World) (B k : Nat) (o : Option (Bs × Bs)) (e : Ending) (w' : World) : Prop :=
  w.grownBy w' (some B) ∧ match o with | none => e = .panicked [wrongE] | some p => e = .returned (.string (str p.1)) ∧ Scn w' B p.2 k
theorem TextPost.bad {w w' : World} {B k : Nat} {o : Option (Bs × Bs)} (hG : w.grownBy w' (some B)) (ho : o = none) : TextPost w B k o (.panicked [wrongE]) w' := ⟨hG, by subst ho; rfl⟩
theorem TextPost.fin {w w' : World} {B k : Nat} {o : Option (Bs × Bs)} {x r : Bs} (hG : w.grownBy w' (some B)) (ho : o = some (x, r)) (hS : Scn w' B r k) : TextPost w B k o (.returned (.string (str x))) w' := ⟨hG, by subst ho; exact ⟨rfl, hS⟩⟩
theorem drop_cons {s l : Bs} {c : UInt8} {i : Nat} (h : s.drop i = c :: l) : ∃ hi : i < s.length, s[i] = c ∧ s.drop (i + 1) = l := by
  have hi : i < s.length := by
    refine Nat.lt_of_not_le fun hn => ?_
    rw [List.drop_eq_nil_of_le hn] at h; cases h
  rw [List.drop_eq_getElem_cons hi] at h
  exact ⟨hi, List.cons.inj h⟩
theorem encU_snoc (o : Bs) (c : UInt8) : (o ++ [c]).map encU = o.map encU ++ [.int .u8 (c.toNat : Int)] := by rw [List.map_append]; rfl
/-- how far quoted has come -/
structure QuoSt (s o : Bs) (i : Nat) : Prop where
  le : i ≤ s.length
  few : o.length ≤ i
  spec : quotedB s = (quotedB (s.drop i)).map fun p => (o ++ p.1, p.2)
theorem quo_end (l : Bs) : quotedB (34 :: l) = some ([], l) := by cases l <;> simp [quotedB]
theorem quo_plain {l : Bs} {c : UInt8} (h1 : c ≠ 34) (h2 : c ≠ 92) (h3 : 32 ≤ c.toNat ∧ c.toNat < 127) : quotedB (c :: l) = (quotedB l).map fun p => (c :: p.1, p.2) := by
  rw [quotedB.eq_def]
  simp [h1, h2, h3]
theorem quo_bad2 {l : Bs} {c : UInt8} (h1 : c ≠ 34) (h2 : c ≠ 92) (h3 : ¬ (32 ≤ c.toNat ∧ c.toNat < 127)) : quotedB (c :: l) = none := by
  rw [quotedB.eq_def]
  simp [h1, h2, h3]
theorem QuoSt.fin {s o l : Bs} {i : Nat} (h : QuoSt s o i) (hd : s.drop i = 34 :: l) : quotedB s = some (o, l) := by
  rw [h.spec, hd, quo_end, Option.map_some]; rw [List.append_nil]
theorem QuoSt.bad {s o : Bs} {i : Nat} (h : QuoSt s o i) (hd : quotedB (s.drop i) = none) : quotedB s = none := by rw [h.spec, hd]; rfl
theorem QuoSt.plain {s o l : Bs} {c : UInt8} {i : Nat} (h : QuoSt s o i) (hd : s.drop i = c :: l) (h1 : c ≠ 34) (h2 : c ≠ 92) (h3 : 32 ≤ c.toNat ∧ c.toNat < 127) : QuoSt s (o ++ [c]) (i + 1) := by
  obtain ⟨hi, hc, hn⟩ := drop_cons hd
  refine ⟨by omega, by have := h.few; simp; omega, ?_⟩
  rw [h.spec, hd, hn]
  rw [quo_plain h1 h2 h3, Option.map_map]
  congr 1
  funext p
  simp
theorem QuoSt.esc {s o l : Bs} {d : UInt8} {i : Nat} (h : QuoSt s o i) (hd : s.drop i = 92 :: d :: l) (h3 : d = 34 ∨ d = 92) : QuoSt s (o ++ [d]) (i + 2) := by
  obtain ⟨hi, hc, hn⟩ := drop_cons hd
  obtain ⟨hi2, hc2, hn2⟩ := drop_cons hn
  refine ⟨by omega, by have := h.few; simp; omega, ?_⟩
  rw [h.spec, hd, hn2]
  have e : quotedB (92 :: d :: l) = (quotedB l).map fun p => (d :: p.1, p.2) := by rw [quotedB]; simp [h3]
  rw [e, Option.map_map]
  congr 1
  funext p
  simp
theorem quo_bad1 {l : Bs} {d : UInt8} (h3 : ¬ (d = 34 ∨ d = 92)) : quotedB (92 :: d :: l) = none := by rw [quotedB]; simp [h3]
theorem u8_lit (c : UInt8) (n : Nat) (hn : n < 256) : (c = n.toUInt8) ↔ ((c.toNat : Int) = (n : Int)) := byte_eq c n hn
set_option maxHeartbeats 4000000 in
set_option maxRecDepth 100000 in
theorem quoted_walk (B k : Nat) (s : Bs) (w : World) (h : Scn w B s k) :
    Calls Tryz.prog 97 #[scP B] w (TextPost w B k (quotedB s)) := by
  obtain ⟨i0, hi, hz0, hz1, hz2⟩ := info_parts infoU8
  have hBl := h.lt
  have hsm := h.small
  have zs := str_size s
  have H := Lib.hid h
  clear h
  go_enter Tryz.func97, Tryz.ntmps97
  go_wp2
  go_loopw [3, 4] (fun u i wr => ∃ (j : Nat) (o : Bs), i = .int .i64 j ∧ Hid (QuoSt s o j) ∧ Hid (wr.ownsRow w.heap.size 5 1 u o.length (o.map encU)) ∧ Hid (Scn wr B s k) ∧ Hid (w.grownBy wr (some B))) (fun _ i _ => s.length - (intOf i).toNat)
  case atStart => exact ⟨0, [], rfl, Lib.hid ⟨Nat.zero_le _, Nat.le_refl _, by simp⟩, Lib.hid (World.ownsRow_nil _ _ _ _), H, Lib.hid (grown_refl w _)⟩
  case round =>
    obtain ⟨j, o, rfl, HQ, HO, HS, HG⟩ := hrel
    obtain ⟨c0, c1, f0, f1⟩ := HS.out.cells
    have zw := HG.out.size
    have hjle := HQ.out.le
    have hole := HQ.out.few
    obtain ⟨D, hD⟩ : ∃ D, D = s.drop j := ⟨_, rfl⟩
    cases D with
    | nil =>
      have hjn : ¬ j < s.length := fun hn => by rw [List.drop_eq_getElem_cons hn] at hD; cases hD
      have HB := Lib.hid (HQ.out.bad (by rw [← hD]; rfl))
      clear hD
      go_wp2
      exact ⟨rfl, .bad HG.out HB.out⟩
    | cons c l =>
      obtain ⟨hj, hc, hn⟩ := drop_cons hD.symm
      have hjs : j < (str s).size := by omega
      have hcS : (str s)[j] = c := by rw [str_at]; exact hc
      by_cases e34 : c = 34
      · subst e34
        have HF := Lib.hid (HQ.out.fin hD.symm)
        have HP := Lib.hid (HS.out.put l (by rw [← hn, List.length_drop]; omega))
        have HG2 := Lib.hid (grown_new HG.out (grown_put wr B 0 (.string (str l))) (fun k e => .inr (Option.some.inj e).symm))
        have hr : (str s).extract (j + 1) s.length = str l := by rw [str_drop, hn]
        have hx : ((str s)[j].toNat : Int) = 34 := by rw [hcS]; rfl
        have hcv := own_text rfl (own_kept HO.out (grown_put wr B 0 (.string (str l))) hBl)
        clear hD hn hcS hc
        generalize str l = L at *
        generalize str s = S at *
        go_wp2
        go_ret
        exact .fin HG2.out HF.out HP.out
      · have h34 : ¬ (((str s)[j].toNat : Int) = 34) := by rw [hcS]; exact fun e => e34 ((byte_eq c 34 (by decide)).2 e)
        by_cases e92 : c = 92
        · subst e92
          have hx : ((str s)[j].toNat : Int) = 92 := by rw [hcS]; rfl
          cases l with
          | nil =>
            have HB := Lib.hid (HQ.out.bad (by rw [← hD]; rfl))
            have hz : s.length = j + 1 := by
              have := congrArg List.length hD; simp only [List.length_cons, List.length_nil, List.length_drop] at this; omega
            clear hD hn hcS hc
            generalize str s = S at *
            go_wp2_with fail
            refine (must_no B _).mono ?_
            rintro e w' ⟨rfl, rfl⟩
            exact ⟨rfl, .bad HG.out HB.out⟩
          | cons d l =>
            obtain ⟨hj2, hc2, hn2⟩ := drop_cons hn
            have hj2s : j + 1 < (str s).size := by omega
            have hdS : (str s)[j + 1] = d := by rw [str_at]; exact hc2
            by_cases hd : d = 34 ∨ d = 92
            · have HN := Lib.hid (HQ.out.esc hD.symm hd)
              have HE := Lib.hid (encU_snoc o d)
              have hlo : (o ++ [d]).length = o.length + 1 := by simp
              have HLO := Lib.hid hlo
              rcases hd with rfl | rfl
              · have hx2 : ((str s)[j + 1].toNat : Int) = 34 := by rw [hdS]; rfl
                have hx3 : (str s)[j + 1].toNat = 34 := by rw [hdS]; rfl
                clear hD hn hcS hc hdS hc2 hn2 hlo
                generalize str s = S at *
                go_wp2_with fail
                refine (must_walk B _).mono ?_
                rintro e w' ⟨rfl, rfl⟩
                go_wp2_with (at_builtin; refine wpList_append_own _ rfl _ _ 46 rfl w.heap.size 5 i0 (.int .u8 0) 1 1 Tryz.underlying46 hi hz0 hz1 hz2 rfl (by decide) _ o.length _ rfl (HO.out.alloc _) ⟨wr.heap.size, 0, none⟩ 1 1 [.int .u8 34] rfl rfl ?a0 ?a1 ?a2 ?a3 ?a4 ?_)
                case a0 => exact cell_one_new wr (.int .u8 34) 5
                case a1 => simp [Value.oneCell']
                case a2 => unfold maxLen; omega
                case a3 => omega
                case a4 => simp; omega
                intro u' w9 hown hgr _
                have HO9 := Lib.hid hown
                have hlt := fun k e => (HO.out.lt k e).1
                have HG9 := Lib.hid (grown_new (grown_new HG.out (World.grownBy_alloc wr (Obj.cells #[.int .u8 34] 5) none) (fun k e => by cases e)) hgr (fun k e => .inl (hlt k e)))
                have HS9 := Lib.hid ((HS.out.kept (World.grownBy_alloc wr (Obj.cells #[.int .u8 34] 5) none) (by simp)).kept hgr (fun e => by have := hlt B e.symm; omega))
                clear hown hgr hlt
                go_wp2
                go_roundw
                case rel => exact ⟨j + 2, _, by go_num, HN, Lib.hid (by rw [HLO.out, HE.out]; exact HO9.out), HS9, HG9⟩
                case measure => simp [intOf]; omega
              · have hx2 : ((str s)[j + 1].toNat : Int) = 92 := by rw [hdS]; rfl
                have hx3 : (str s)[j + 1].toNat = 92 := by rw [hdS]; rfl
                clear hD hn hcS hc hdS hc2 hn2 hlo
                generalize str s = S at *
                go_wp2_with fail
                refine (must_walk B _).mono ?_
                rintro e w' ⟨rfl, rfl⟩
                go_wp2_with (at_builtin; refine wpList_append_own _ rfl _ _ 46 rfl w.heap.size 5 i0 (.int .u8 0) 1 1 Tryz.underlying46 hi hz0 hz1 hz2 rfl (by decide) _ o.length _ rfl (HO.out.alloc _) ⟨wr.heap.size, 0, none⟩ 1 1 [.int .u8 92] rfl rfl ?b0 ?b1 ?b2 ?b3 ?b4 ?_)
                case b0 => exact cell_one_new wr (.int .u8 92) 5
                case b1 => simp [Value.oneCell']
                case b2 => unfold maxLen; omega
                case b3 => omega
                case b4 => simp; omega
                intro u' w9 hown hgr _
                have HO9 := Lib.hid hown
                have hlt := fun k e => (HO.out.lt k e).1
                have HG9 := Lib.hid (grown_new (grown_new HG.out (World.grownBy_alloc wr (Obj.cells #[.int .u8 92] 5) none) (fun k e => by cases e)) hgr (fun k e => .inl (hlt k e)))
                have HS9 := Lib.hid ((HS.out.kept (World.grownBy_alloc wr (Obj.cells #[.int .u8 92] 5) none) (by simp)).kept hgr (fun e => by have := hlt B e.symm; omega))
                clear hown hgr hlt
                go_wp2
                go_roundw
                case rel => exact ⟨j + 2, _, by go_num, HN, Lib.hid (by rw [HLO.out, HE.out]; exact HO9.out), HS9, HG9⟩
                case measure => simp [intOf]; omega
            · have HB := Lib.hid (HQ.out.bad (by rw [← hD]; exact quo_bad1 hd))
              have hd1 : (((str s)[j + 1].toNat : Int) == 34) = false := by rw [hdS]; exact beq_eq_false_iff_ne.2 fun e => hd (.inl ((byte_eq d 34 (by decide)).2 e))
              have hd2 : (((str s)[j + 1].toNat : Int) == 92) = false := by rw [hdS]; exact beq_eq_false_iff_ne.2 fun e => hd (.inr ((byte_eq d 92 (by decide)).2 e))
              clear hD hn hcS hc hdS hc2 hn2
              generalize str s = S at *
              go_wp2_with fail
              refine (must_no B _).mono ?_
              rintro e w' ⟨rfl, rfl⟩
              exact ⟨rfl, .bad HG.out HB.out⟩
        · have h92 : ¬ (((str s)[j].toNat : Int) = 92) := by rw [hcS]; exact fun e => e92 ((byte_eq c 92 (by decide)).2 e)
          by_cases h3 : 32 ≤ c.toNat ∧ c.toNat < 127
          · have HN := Lib.hid (HQ.out.plain hD.symm e34 e92 h3)
            have HE := Lib.hid (encU_snoc o c)
            have HLO := Lib.hid (show (o ++ [c]).length = o.length + 1 by simp)
            obtain ⟨h3a, h3b⟩ := h3
            have hx : (str s)[j].toNat = c.toNat := by rw [hcS]
            clear hD hn hcS hc
            generalize str s = S at *
            have i1 : (32 : Int) ≤ (S[j].toNat : Int) := by omega
            have i2 : (S[j].toNat : Int) < 127 := by omega
            have HX := Lib.hid hx
            clear hx h3a h3b
            go_wp2_with fail
            refine (must_walk B _).mono ?_
            rintro e w' ⟨rfl, rfl⟩
            go_wp2_with (at_builtin; refine wpList_append_own _ rfl _ _ 46 rfl w.heap.size 5 i0 (.int .u8 0) 1 1 Tryz.underlying46 hi hz0 hz1 hz2 rfl (by decide) _ o.length _ rfl (HO.out.alloc _) ⟨wr.heap.size, 0, none⟩ 1 1 [.int .u8 (S[j].toNat : Int)] rfl rfl ?c0 ?c1 ?c2 ?c3 ?c4 ?_)
            case c0 => exact cell_one_new wr (.int .u8 (S[j].toNat : Int)) 5
            case c1 => simp [Value.oneCell']
            case c2 => unfold maxLen; omega
            case c3 => omega
            case c4 => simp; omega
            intro u' w9 hown hgr _
            have HO9 := Lib.hid hown
            have hlt := fun k e => (HO.out.lt k e).1
            have HG9 := Lib.hid (grown_new (grown_new HG.out (World.grownBy_alloc wr (Obj.cells #[.int .u8 (S[j].toNat : Int)] 5) none) (fun k e => by cases e)) hgr (fun k e => .inl (hlt k e)))
            have HS9 := Lib.hid ((HS.out.kept (World.grownBy_alloc wr (Obj.cells #[.int .u8 (S[j].toNat : Int)] 5) none) (by simp)).kept hgr (fun e => by have := hlt B e.symm; omega))
            clear hown hgr hlt
            go_wp2
            go_roundw
            case rel => exact ⟨j + 1, _, by go_num, HN, Lib.hid (by rw [HLO.out, HE.out, ← HX.out]; exact HO9.out), HS9, HG9⟩
            case measure => simp [intOf]; omega
          · have HB := Lib.hid (HQ.out.bad (by rw [← hD]; exact quo_bad2 e34 e92 h3))
            have hx : (str s)[j].toNat = c.toNat := by rw [hcS]
            clear hD hn hcS hc
            generalize str s = S at *
            by_cases i1 : (32 : Int) ≤ (S[j].toNat : Int)
            · have i2 : ¬ (S[j].toNat : Int) < 127 := by omega
              clear hx h3
              go_wp2_with fail
              refine (must_no B _).mono ?_
              rintro e w' ⟨rfl, rfl⟩
              exact ⟨rfl, .bad HG.out HB.out⟩
            · clear hx h3
              go_wp2_with fail
              refine (must_no B _).mono ?_
              rintro e w' ⟨rfl, rfl⟩
              exact ⟨rfl, .bad HG.out HB.out⟩
end Go.Proofs.YtgmfhldfdnnafaaGreatDoor
namespace Go.Proofs.YtgmfhldfdnnafaaGreatDoor
open Go.RowKit
set_option linter.unusedSimpArgs false
set_option linter.unusedVariables false
def largeB (c : UInt8) : UInt8 := if 97 ≤ c.toNat ∧ c.toNat ≤ 122 then c - 32 else c
def largeS (s : ByteArray) : ByteArray := ⟨((bs s).map largeB).toArray⟩
/-- the bytes' row behind k rounds -/
structure LargeSt (W : World) (g : Nat) (s : ByteArray) (k : Nat) : Prop where
  row : ∃ (cs : Array Value) (fr : Nat × Nat), W.heap[g]? = some (.cells cs 5 fr) ∧ s.size ≤ fr.1 ∧ s.size ≤ cs.size ∧ ∀ (j : Nat) (hj : j < s.size), cs[j]? = some (.int .u8 (((if j < k then largeB s[j] else s[j]).toNat : Nat) : Int))
theorem LargeSt.cell {W : World} {g k j : Nat} {s : ByteArray} (h : LargeSt W g s k) (hj : j < s.size) : W.cell? ⟨g, j, none⟩ = some (.int .u8 (((if j < k then largeB s[j] else s[j]).toNat : Nat) : Int)) ∧ W.frozen? ⟨g, j, none⟩ = false := by
  obtain ⟨cs, fr, h1, h2, h3, h4⟩ := h.row
  refine ⟨by simp [World.cell?, h1, h4 j hj], ?_⟩
  simp only [World.frozen?, h1]
  simp
  omega
theorem LargeSt.keep {W : World} {g k : Nat} {s : ByteArray} (hk : k < s.size) (h : LargeSt W g s k) (hs : largeB s[k] = s[k]) : LargeSt W g s (k + 1) := by
  obtain ⟨cs, fr, h1, h2, h3, h4⟩ := h.row
  refine ⟨cs, fr, h1, h2, h3, fun j hj => ?_⟩
  rw [h4 j hj]
  by_cases e : j = k
  · subst e; rw [if_neg (by omega), if_pos (by omega), hs]
  · by_cases e2 : j < k
    · rw [if_pos e2, if_pos (by omega)]
    · rw [if_neg e2, if_neg (by omega)]
theorem LargeSt.put {W : World} {g k : Nat} {s : ByteArray} (hk : k < s.size) (h : LargeSt W g s k) : LargeSt (W.setCell ⟨g, k, none⟩ (.int .u8 (((largeB s[k]).toNat : Nat) : Int))) g s (k + 1) := by
  obtain ⟨cs, fr, h1, h2, h3, h4⟩ := h.row
  refine ⟨cs.setIfInBounds k (.int .u8 (((largeB s[k]).toNat : Nat) : Int)), fr, by simp [World.setCell, Array.getElem?_modify, h1], h2, by simpa using h3, fun j hj => ?_⟩
  rw [Array.getElem?_setIfInBounds]
  by_cases e : k = j
  · subst e; rw [if_pos rfl, if_pos (by omega), if_pos (by omega)]
  · rw [if_neg e, h4 j hj]
    by_cases e2 : j < k
    · rw [if_pos e2, if_pos (by omega)]
    · rw [if_neg e2, if_neg (by omega)]
theorem large_up (c : UInt8) (h1 : 97 ≤ c.toNat) (h2 : c.toNat ≤ 122) : ((largeB c).toNat : Int) = (c.toNat : Int) - 97 + 65 := by
  rw [largeB, if_pos ⟨h1, h2⟩, UInt8.toNat_sub]
  have : (32 : UInt8).toNat = 32 := rfl
  omega
theorem large_not (c : UInt8) (h : ¬ (97 ≤ c.toNat ∧ c.toNat ≤ 122)) : largeB c = c := by rw [largeB, if_neg h]
set_option maxHeartbeats 4000000 in
set_option maxRecDepth 100000 in
theorem large_walk (s : ByteArray) (hs : s.size ≤ 1000000) (w : World) :
    Calls Tryz.prog 29 #[.string s] w fun e w' => e = .returned (.string (largeS s)) ∧ Below w.heap.size w w' := by
  obtain ⟨w1, cap, cs, fr, hcv, hB, hh, _, ⟨W, hw, rfl⟩, hcell⟩ := bytes_mark w s
  have hrun := run_bytes_of_string (P := Tryz.prog) w 9 46 5 s Tryz.underlying9 Tryz.underlying46 Tryz.underlying5
  rw [hcv] at hrun
  have hrun' := (Result.ok.inj hrun)
  have HS : LargeSt w1 w.heap.size s 0 := by
    refine ⟨_, _, by rw [hrun'.2]; exact World.alloc_heap_new w.drew _, ?_, ?_, fun j hj => ?_⟩
    · simp [bytesRow]
    · simp [bytesRow]
    · rw [if_neg (by omega)]; exact bytesRow_at s _ j hj
  have HB := Lib.hid hB
  have HS0 := Lib.hid HS
  clear hB HS hrun hrun' hh hw hcell
  go_enter Tryz.func29, Tryz.ntmps29
  go_wp2
  clear hcv
  go_loopw [10] (fun i wr => ∃ k : Nat, k ≤ s.size ∧ i = .int .i64 k ∧ Hid (LargeSt wr w.heap.size s k) ∧ Hid (Below w.heap.size w wr)) (fun i _ => s.size - (intOf i).toNat)
  case atStart => exact ⟨0, Nat.zero_le _, rfl, HS0, HB⟩
  case round =>
    obtain ⟨k, hk, rfl, HS, HB⟩ := hrel
    have zs := HB.out.size
    by_cases hkn : k < s.size
    · obtain ⟨c1, f1⟩ := HS.out.cell hkn
      rw [if_neg (Nat.lt_irrefl k)] at c1
      by_cases hu : 97 ≤ (s[k]'hkn).toNat ∧ (s[k]'hkn).toNat ≤ 122
      · obtain ⟨u1, u2⟩ := hu
        have HN := Lib.hid (HS.out.put hkn)
        have HU := Lib.hid (large_up _ u1 u2)
        have HBn := Lib.hid (HB.out.setCell (p := ⟨w.heap.size, k, none⟩) (Nat.le_refl _) (.int .u8 (((largeB (s[k]'hkn)).toNat : Nat) : Int)))
        rw [HU.out] at HN HBn
        generalize (s[k]'hkn) = c at *
        have i1 : (97 : Int) ≤ (c.toNat : Int) := by omega
        have i2 : (c.toNat : Int) ≤ 122 := by omega
        go_wp2
        go_roundw
        case rel => exact ⟨k + 1, by omega, by go_num, HN, HBn⟩
        case measure => simp [intOf]; omega
      · have HN := Lib.hid (HS.out.keep hkn (large_not _ hu))
        generalize (s[k]'hkn) = c at *
        by_cases i1 : (97 : Int) ≤ (c.toNat : Int)
        · have i2 : ¬ (c.toNat : Int) ≤ 122 := by omega
          go_wp2
          go_roundw
          case rel => exact ⟨k + 1, by omega, by go_num, HN, HB⟩
          case measure => simp [intOf]; omega
        · go_wp2
          go_roundw
          case rel => exact ⟨k + 1, by omega, by go_num, HN, HB⟩
          case measure => simp [intOf]; omega
    · obtain rfl : k = s.size := by omega
      have hcv2 : (convert 46 9 (.slice (some ⟨w.heap.size, 0, none⟩) s.size cap)).run Tryz.prog wr = .ok (.string (largeS s)) wr := by
        have hl : ((bs s).map largeB).length = s.size := by rw [List.length_map, bs_size]
        have h := run_convert_bytes_back wr 46 9 5 ⟨w.heap.size, 0, none⟩ cap ((bs s).map largeB) Tryz.underlying46 Tryz.underlying5 Tryz.underlying9 (fun j hj => by
          have hj' : j < s.size := by omega
          rw [add_at]
          rw [(HS.out.cell hj').1, if_pos hj']
          simp [at_bs s j hj'])
        rw [hl] at h
        exact h
      go_wp2
      go_ret
      exact ⟨rfl, HB.out⟩
end Go.Proofs.YtgmfhldfdnnafaaGreatDoor
namespace Go.Proofs.YtgmfhldfdnnafaaGreatDoor
open Go.RowKit
open Pl (Bs idxB numOk numN setOk setL)
set_option linter.unusedSimpArgs false
set_option linter.unusedVariables false
theorem cut_walk21 (s e : Bs) (m : Int) (w : World) (hs : s.length ≤ 1000000) (hm : w.cell? ⟨13, 0, none⟩ = some (.int .i64 m)) :
    Calls Tryz.prog 22 #[.string (str s), .string (str e)] w fun en w' => en = .returned (.tuple #[.string (str (Lib.cut s e).1), .string (str (Lib.cut s e).2.1), .bool (Lib.cut s e).2.2]) ∧ ∃ n, w' = w.drewN n :=
  cutAny_walk21 (str s) (str e) m w (by rw [str_size]; omega) hm
theorem Scn.draws {w : World} {B : Nat} {s : Bs} {k : Nat} (h : Scn w B s k) (q : Nat) : Scn (w.drewN q) B s k := ⟨h.heap, h.small, h.few⟩
set_option maxHeartbeats 1000000 in
set_option maxRecDepth 100000 in
theorem upTo_walk (G : Glob) (B k : Nat) (s e : Bs) (w : World) (hE : EnvI G w B) (h : Scn w B s k) :
    Calls Tryz.prog 121 #[scP B, .string (str e)] w (TextPost w B k (upToB e s)) := by
  obtain ⟨c0, c1, f0, f1⟩ := h.cells
  have K := Lib.hid (cut_walk21 s e G.max w h.small hE.max)
  have HS := Lib.hid h
  have HL := Lib.hid (cut_len s e)
  have hU : upToB e s = if (Lib.cut s e).2.2 = true then some ((Lib.cut s e).1, (Lib.cut s e).2.1) else none := rfl
  generalize (Lib.cut s e).2.2 = ok at *
  generalize (Lib.cut s e).1 = X at *
  generalize (Lib.cut s e).2.1 = R at *
  generalize str e = E at *
  clear hE h
  cases ok with
  | false =>
    have HB := Lib.hid (show upToB e s = none from hU)
    clear hU HL
    go_enter Tryz.func121, Tryz.ntmps121
    go_wp2_with fail
    refine K.out.mono ?_
    rintro e w' ⟨rfl, q, rfl⟩
    go_wp2_with fail
    refine (must_no B _).mono ?_
    rintro e w'' ⟨rfl, rfl⟩
    exact ⟨rfl, .bad (grown_draws w q _) HB.out⟩
  | true =>
    have HB := Lib.hid (show upToB e s = some (X, R) from hU)
    have hlen := HL.out rfl
    clear hU HL
    go_enter Tryz.func121, Tryz.ntmps121
    go_wp2_with fail
    refine K.out.mono ?_
    rintro e w' ⟨rfl, q, hw'⟩
    have hS1 : Scn w' B s k := by rw [hw']; exact HS.out.draws q
    have hG1 : w.grownBy w' (some B) := by rw [hw']; exact grown_draws w q _
    have HG1 := Lib.hid (grown_new hG1 (grown_put w' B 0 (.string (str R))) (fun k e => .inr (Option.some.inj e).symm))
    have HP := Lib.hid (hS1.put R (by omega))
    obtain ⟨d0, d1, g0, g1⟩ := hS1.cells
    clear hw' hG1 hS1 c0 c1 f0 f1
    go_wp2_with fail
    refine (must_walk B _).mono ?_
    rintro e w'' ⟨rfl, rfl⟩
    go_wp2
    go_ret
    exact .fin HG1.out HB.out HP.out
/-- a count of digits, at most so large -/
def cntN (l : Bs) : Nat := if l = [48] then 0 else numN l
def cntOk (l : Bs) (m : Int) : Bool := (l == [48]) || (numOk l && decide ((numN l : Int) ≤ m))
theorem cnt_ok (l : Bs) (m : Nat) : cntOk l m = (countB l m).isSome := by
  unfold cntOk countB
  by_cases h : l = [48]
  · simp [h]
  · have : (l == [48]) = false := by simpa using h
    rw [this, if_neg h, Bool.false_or]
    by_cases h2 : numOk l = true
    · by_cases h3 : numN l ≤ m
      · rw [if_pos ⟨h2, h3⟩, h2, decide_eq_true (by omega)]; rfl
      · rw [if_neg (fun e => h3 e.2), h2, decide_eq_false (by omega)]; rfl
    · rw [if_neg (fun e => h2 e.1), Bool.eq_false_iff.2 h2]; rfl
theorem cnt_n {l : Bs} {m n : Nat} (h : countB l m = some n) : cntN l = n ∧ cntOk l m = true ∧ n ≤ m := by
  refine ⟨?_, by rw [cnt_ok, h]; rfl, ?_⟩
  · unfold countB at h; unfold cntN
    split at h
    · rename_i e; rw [if_pos e]; exact Option.some.inj h
    · rename_i e; rw [if_neg e]; split at h
      · exact Option.some.inj h
      · cases h
  · unfold countB at h
    split at h
    · cases h; omega
    · split at h
      · rename_i e; cases h; exact e.2
      · cases h
theorem cnt_no {l : Bs} {m : Nat} (h : countB l m = none) : cntOk l m = false := by rw [cnt_ok, h]; rfl
set_option maxHeartbeats 1000000 in
set_option maxRecDepth 100000 in
theorem count_in (s : ByteArray) (m : Int) (v : Value) (w : World) (hs : s.size ≤ 1000000) (hc : w.cell? ⟨0, 0, none⟩ = some v) (hv : ∃ t x, v = .iface t x) :
    Calls Tryz.prog 20 #[.string s, .int .i64 m] w fun e w' => e = .returned (.tuple #[.int .i64 (cntN (bs s)), .bool (cntOk (bs s) m)]) ∧ Below w.heap.size w w' := by
  have K := Lib.hid (number_walk s v w (by omega) hc hv)
  obtain ⟨ty, x, rfl⟩ := hv
  by_cases h0 : s = ⟨#[48]⟩
  · subst h0
    have HV := Lib.hid (show cntN (bs ⟨#[48]⟩) = 0 ∧ cntOk (bs ⟨#[48]⟩) m = true from ⟨rfl, rfl⟩)
    go_enter Tryz.func20, Tryz.ntmps20
    go_wp2
    go_ret2
    exact ⟨by rw [HV.out.1, HV.out.2]; rfl, Below.refl _ _⟩
  · have hne : bs s ≠ [48] := fun e => h0 (bs_inj (e.trans rfl))
    have h0' : ¬ s.toList = [48] := by rw [Lib.toList_data]; exact hne
    have h0'' : (s.toList == [48]) = false := by simpa using h0'
    have hb : (bs s == [48]) = false := by simpa using hne
    have HN := Lib.hid (show cntN (bs s) = numN (bs s) by rw [cntN, if_neg hne])
    have HO := Lib.hid (show cntOk (bs s) m = (numOk (bs s) && decide ((numN (bs s) : Int) ≤ m)) by rw [cntOk, hb, Bool.false_or])
    clear hb hne h0
    rw [numV] at K
    cases hok : numOk (bs s) with
    | false =>
      rw [hok] at HO K
      rw [if_neg (by decide)] at K
      go_enter Tryz.func20, Tryz.ntmps20
      go_wp2_with fail
      refine K.out.mono ?_
      rintro e w1 ⟨rfl, hB⟩
      have HB := Lib.hid hB
      clear hB
      go_wp2
      go_ret2
      exact ⟨by rw [HN.out, HO.out]; rfl, HB.out⟩
    | true =>
      rw [hok] at HO K
      rw [if_pos rfl] at K
      go_enter Tryz.func20, Tryz.ntmps20
      go_wp2_with fail
      refine K.out.mono ?_
      rintro e w1 ⟨rfl, hB⟩
      have HB := Lib.hid hB
      clear hB
      go_wp2
      go_ret2
      exact ⟨by rw [HN.out, HO.out]; rfl, HB.out⟩
theorem count_walk (G : Glob) (B : Nat) (l : Bs) (m : Nat) (w : World) (hs : l.length ≤ 1000000) (hE : EnvI G w B) :
    Calls Tryz.prog 20 #[.string (str l), .int .i64 (m : Int)] w fun e w' => e = .returned (.tuple #[.int .i64 (cntN l), .bool (countB l m).isSome]) ∧ Below w.heap.size w w' := by
  have K := count_in (str l) m G.form w (by rw [str_size]; exact hs) hE.form hE.formI
  rw [bs_str, cnt_ok] at K
  exact K
theorem Scn.grow {w w1 : World} {B : Nat} {s : Bs} {k : Nat} (h : Scn w B s k) (hb : Below w.heap.size w w1) : Scn w1 B s k := h.then hb
theorem grown_then {w w1 w2 : World} {B : Nat} (h : w.grownBy w1 (some B)) (hb : Below w1.heap.size w1 w2) : w.grownBy w2 (some B) := grown_new h (grown_below hb none) (fun k e => by cases e)
theorem bx (n : Nat) (l : Bs) : (l.take n).length + (l.drop n).length = l.length := by rw [← List.length_append, List.take_append_drop]
set_option maxHeartbeats 1000000 in
set_option maxRecDepth 100000 in
theorem literal_walk (G : Glob) (B k : Nat) (s : Bs) (w : World) (hE : EnvI G w B) (h : Scn w B s k) :
    Calls Tryz.prog 98 #[scP B] w (TextPost w B k (literalB s)) := by
  obtain ⟨c0, c1, f0, f1⟩ := h.cells
  have K : Hid (Calls Tryz.prog 22 #[.string (str s), .string ⟨#[125, 13, 10]⟩] w _) := Lib.hid (cut_walk21 s [125, 13, 10] G.max w h.small hE.max)
  have HS := Lib.hid h
  have HE := Lib.hid hE
  have HLen := Lib.hid (cut_len s [125, 13, 10])
  have hsm := h.small
  have hU : upToB [125, 13, 10] s = if (Lib.cut s [125, 13, 10]).2.2 = true then some ((Lib.cut s [125, 13, 10]).1, (Lib.cut s [125, 13, 10]).2.1) else none := rfl
  have hLit : literalB s = match upToB [125, 13, 10] s with
    | none => none
    | some (d, r) => match countB d 100000 with
      | none => none
      | some n => if n ≤ r.length then some (r.take n, r.drop n) else none := rfl
  have hl1 : (Lib.cut s [125, 13, 10]).1.length ≤ 1000000 := by
    unfold Lib.cut
    split
    · simp only [List.length_take]; omega
    · exact hsm
  rw [hU] at hLit
  generalize (Lib.cut s [125, 13, 10]).2.2 = ok at *
  generalize (Lib.cut s [125, 13, 10]).1 = D at *
  generalize (Lib.cut s [125, 13, 10]).2.1 = R at *
  clear hU
  have KC := Lib.hid (fun W (hW : EnvI G W B) => count_walk G B D 100000 W hl1 hW)
  clear hE h
  cases ok with
  | false =>
    have HB := Lib.hid (show literalB s = none from hLit)
    clear hLit
    go_enter Tryz.func98, Tryz.ntmps98
    go_wp2_with fail
    refine K.out.mono ?_
    rintro e w' ⟨rfl, q, hw'⟩
    have hG1 : w.grownBy w' (some B) := by rw [hw']; exact grown_draws w q _
    have HG1 := Lib.hid hG1
    have HE1 := Lib.hid (HE.out.kept hG1)
    clear hw' hG1
    go_wp2_with fail
    refine (KC.out _ HE1.out).mono ?_
    rintro e w2 ⟨rfl, hB2⟩
    have HG2 := Lib.hid (grown_then HG1.out hB2)
    clear hB2
    go_wp2_with fail
    refine (must_no B _).mono ?_
    rintro e w'' ⟨rfl, rfl⟩
    exact ⟨rfl, .bad HG2.out HB.out⟩
  | true =>
    have hlen := HLen.out rfl
    simp only [if_true] at hLit
    cases hc : countB D 100000 with
    | none =>
      rw [hc] at hLit KC
      have HB := Lib.hid (show literalB s = none from hLit)
      clear hLit
      go_enter Tryz.func98, Tryz.ntmps98
      go_wp2_with fail
      refine K.out.mono ?_
      rintro e w' ⟨rfl, q, hw'⟩
      have hG1 : w.grownBy w' (some B) := by rw [hw']; exact grown_draws w q _
      have HG1 := Lib.hid hG1
      have HE1 := Lib.hid (HE.out.kept hG1)
      clear hw' hG1
      go_wp2_with fail
      refine (KC.out _ HE1.out).mono ?_
      rintro e w2 ⟨rfl, hB2⟩
      have HG2 := Lib.hid (grown_then HG1.out hB2)
      clear hB2
      go_wp2_with fail
      refine (must_no B _).mono ?_
      rintro e w'' ⟨rfl, rfl⟩
      exact ⟨rfl, .bad HG2.out HB.out⟩
    | some n =>
      obtain ⟨hn, _, hn2⟩ := cnt_n hc
      rw [hc] at hLit KC
      rw [hn] at KC
      have hzr : (str R).size = R.length := str_size R
      by_cases hle : n ≤ R.length
      · have HB := Lib.hid (show literalB s = some (R.take n, R.drop n) by rw [hLit]; exact if_pos hle)
        have hx1 : (str R).extract 0 n = str (R.take n) := str_take R n
        have hx2 : (str R).extract n R.length = str (R.drop n) := str_drop R n
        have HX1 := Lib.hid hx1
        have HX2 := Lib.hid hx2
        have hb := bx n R
        clear hLit hx1 hx2 hn
        generalize R.take n = Y at *
        generalize R.drop n = Z at *
        go_enter Tryz.func98, Tryz.ntmps98
        go_wp2_with fail
        refine K.out.mono ?_
        rintro e w' ⟨rfl, q, hw'⟩
        have hG1 : w.grownBy w' (some B) := by rw [hw']; exact grown_draws w q _
        have HG1 := Lib.hid hG1
        have HE1 := Lib.hid (HE.out.kept hG1)
        have hS1 : Scn w' B s k := by rw [hw']; exact HS.out.draws q
        have HS1 := Lib.hid hS1
        clear hw' hG1 hS1 c0 c1 f0 f1
        go_wp2_with fail
        refine (KC.out _ HE1.out).mono ?_
        rintro e w2 ⟨rfl, hB2⟩
        have HS2 := Lib.hid (HS1.out.then hB2)
        have HG2 := Lib.hid (grown_then HG1.out hB2)
        clear hB2
        go_wp2_with fail
        refine (must_walk B _).mono ?_
        rintro e w'' ⟨rfl, rfl⟩
        have HG3 := Lib.hid (grown_new HG2.out (grown_put w2 B 0 (.string (str Z))) (fun k e => .inr (Option.some.inj e).symm))
        have HP := Lib.hid (HS2.out.put Z (by omega))
        obtain ⟨d0, d1, g0, g1⟩ := HS2.out.cells
        have hx1 := HX1.out
        have hx2 := HX2.out
        go_wp2
        go_ret
        exact .fin HG3.out HB.out HP.out
      · have HB := Lib.hid (show literalB s = none by rw [hLit]; exact if_neg hle)
        clear hLit hn
        go_enter Tryz.func98, Tryz.ntmps98
        go_wp2_with fail
        refine K.out.mono ?_
        rintro e w' ⟨rfl, q, hw'⟩
        have hG1 : w.grownBy w' (some B) := by rw [hw']; exact grown_draws w q _
        have HG1 := Lib.hid hG1
        have HE1 := Lib.hid (HE.out.kept hG1)
        clear hw' hG1
        go_wp2_with fail
        refine (KC.out _ HE1.out).mono ?_
        rintro e w2 ⟨rfl, hB2⟩
        have HG2 := Lib.hid (grown_then HG1.out hB2)
        clear hB2
        go_wp2_with fail
        refine (must_no B _).mono ?_
        rintro e w'' ⟨rfl, rfl⟩
        exact ⟨rfl, .bad HG2.out HB.out⟩
end Go.Proofs.YtgmfhldfdnnafaaGreatDoor
namespace Go.Proofs.YtgmfhldfdnnafaaGreatDoor
open Go.RowKit
open Pl (Bs idxB numOk numN setOk setL)
set_option linter.unusedSimpArgs false
set_option linter.unusedVariables false
theorem TextPost.then {w w1 w2 : World} {B k : Nat} {o : Option (Bs × Bs)} {e : Ending} (h : TextPost w1 B k o e w2) (hg : w.grownBy w1 (some B)) : TextPost w B k o e w2 := ⟨hg.trans h.1, h.2⟩
set_option maxHeartbeats 1000000 in
set_option maxRecDepth 100000 in
theorem text_walk (G : Glob) (B k : Nat) (more s : Bs) (w : World) (hE : EnvI G w B) (h : Scn w B s k) :
    Calls Tryz.prog 71 #[scP B, .string (str more)] w (TextPost w B k (textB more s)) := by
  have HE := Lib.hid hE
  cases h1 : isB [34] s with
  | some r =>
    have K1 : Hid (Calls Tryz.prog 68 #[scP B, .string ⟨#[34]⟩] w _) := Lib.hid (is_ok B s [34] r k h1 w h)
    have HT : textB more s = quotedB r := by rw [textB, h1]
    have K2 := Lib.hid (fun W hW => quoted_walk B k r W hW)
    rw [← HT] at K2
    generalize str more = M at *
    generalize textB more s = o at *
    clear h1 h hE HT
    go_enter Tryz.func71, Tryz.ntmps71
    go_wp2_with fail
    refine K1.out.mono ?_
    rintro e w1 ⟨rfl, hS1, hG1⟩
    have HS1 := Lib.hid hS1
    have HG1 := Lib.hid hG1
    clear hS1 hG1
    go_wp2_with fail
    refine (K2.out _ HS1.out).mono ?_
    rintro e w2 hP
    have HP := Lib.hid (hP.then HG1.out)
    clear hP
    cases o with
    | none =>
      obtain ⟨hG, rfl⟩ := HP.out
      exact ⟨rfl, hG, rfl⟩
    | some p =>
      obtain ⟨hG, rfl, hS⟩ := HP.out
      have HP := Lib.hid (TextPost.fin (o := some p) hG rfl hS)
      clear hG hS
      go_wp2
      go_ret
      exact HP.out
  | none =>
    have K1 : Hid (Calls Tryz.prog 68 #[scP B, .string ⟨#[34]⟩] w _) := Lib.hid (is_not B s [34] k h1 w h)
    cases h2 : isB [123] s with
    | some r =>
      have HT : textB more s = literalB r := by rw [textB, h1, h2]
      have K2 : Hid (∀ W, Scn W B s k → Calls Tryz.prog 68 #[scP B, .string ⟨#[123]⟩] W _) := Lib.hid (fun W hW => is_ok B s [123] r k h2 W hW)
      have K3 := Lib.hid (fun W hE hW => literal_walk G B k r W hE hW)
      rw [← HT] at K3
      generalize str more = M at *
      generalize textB more s = o at *
      clear h1 h2 h hE HT
      go_enter Tryz.func71, Tryz.ntmps71
      go_wp2_with fail
      refine K1.out.mono ?_
      rintro e w1 ⟨rfl, hS1, hG1⟩
      have HS1 := Lib.hid hS1
      have HG1 := Lib.hid hG1
      clear hS1 hG1
      go_wp2_with fail
      refine (K2.out _ HS1.out).mono ?_
      rintro e w2 ⟨rfl, hS2, hG2⟩
      have HS2 := Lib.hid hS2
      have HG2 := Lib.hid (HG1.out.trans hG2)
      have HE2 := Lib.hid (HE.out.kept HG2.out)
      clear hS2 hG2
      go_wp2_with fail
      refine (K3.out _ HE2.out HS2.out).mono ?_
      rintro e w3 hP
      have HP := Lib.hid (hP.then HG2.out)
      clear hP
      cases o with
      | none =>
        obtain ⟨hG, rfl⟩ := HP.out
        exact ⟨rfl, hG, rfl⟩
      | some p =>
        obtain ⟨hG, rfl, hS⟩ := HP.out
        have HP := Lib.hid (TextPost.fin (o := some p) hG rfl hS)
        clear hG hS
        go_wp2
        go_ret
        exact HP.out
    | none =>
      have HT : textB more s = wordB more s := by rw [textB, h1, h2]
      have K2 : Hid (∀ W, Scn W B s k → Calls Tryz.prog 68 #[scP B, .string ⟨#[123]⟩] W _) := Lib.hid (fun W hW => is_not B s [123] k h2 W hW)
      have K3 : Hid (∀ W, Scn W B s k → Calls Tryz.prog 26 #[scP B, .string (str more)] W (TextPost W B k (wordB more s))) := Lib.hid (fun W hW => by
        cases hw : wordB more s with
        | none => exact (word_no B more s k hw W hW).mono fun e w' ⟨h1, h2⟩ => ⟨h2, h1⟩
        | some p => exact (word_ok B more s p.1 p.2 k hw W hW).mono fun e w' ⟨h1, h2, h3⟩ => ⟨h3, h1, h2⟩)
      rw [← HT] at K3
      generalize str more = M at *
      generalize textB more s = o at *
      clear h1 h2 h hE HT
      go_enter Tryz.func71, Tryz.ntmps71
      go_wp2_with fail
      refine K1.out.mono ?_
      rintro e w1 ⟨rfl, hS1, hG1⟩
      have HS1 := Lib.hid hS1
      have HG1 := Lib.hid hG1
      clear hS1 hG1
      go_wp2_with fail
      refine (K2.out _ HS1.out).mono ?_
      rintro e w2 ⟨rfl, hS2, hG2⟩
      have HS2 := Lib.hid hS2
      have HG2 := Lib.hid (HG1.out.trans hG2)
      clear hS2 hG2
      go_wp2_with fail
      refine (K3.out _ HS2.out).mono ?_
      rintro e w3 hP
      have HP := Lib.hid (hP.then HG2.out)
      clear hP
      cases o with
      | none =>
        obtain ⟨hG, rfl⟩ := HP.out
        exact ⟨rfl, hG, rfl⟩
      | some p =>
        obtain ⟨hG, rfl, hS⟩ := HP.out
        have HP := Lib.hid (TextPost.fin (o := some p) hG rfl hS)
        clear hG hS
        go_wp2
        go_ret
        exact HP.out
theorem infoStr21 : (Tryz.prog.info? 9).map (fun i => (i.zero, i.size, i.bytes)) = some (some (.string ⟨#[]⟩), 1, 16) := by kernel_rfl
def strV (x : Bs) : Value := .string (str x)
/-- what a step that reads a row does -/
def RowPost {α : Type} (w : World) (B k : Nat) (t : TypeId) (sz : Nat) (len : α → Nat) (cells : α → List Value) (o : Option (α × Bs)) (e : Ending) (w' : World) : Prop :=
  w.grownBy w' (some B) ∧ match o with | none => e = .panicked [wrongE] | some p => ∃ u, e = .returned u ∧ w'.ownsRow w.heap.size t sz u (len p.1) (cells p.1) ∧ Scn w' B p.2 k
structure TxtSt (n : Nat) (s : Bs) (pre : List Bs) (j : Nat) (sj : Bs) : Prop where
  le : j ≤ n
  len : pre.length = j
  spec : textsB n s = (textsB (n - j) sj).map fun p => (pre ++ p.1, p.2)
set_option maxHeartbeats 2000000 in
set_option maxRecDepth 100000 in
theorem texts_walk (G : Glob) (B k n : Nat) (hn : n ≤ 1000) (s : Bs) (w : World) (hE : EnvI G w B) (hS : Scn w B s k) :
    Calls Tryz.prog 70 #[scP B, .int .i64 n] w (RowPost w B k 9 1 List.length (List.map strV) (textsB n s)) := by
  obtain ⟨i0, hi, hz0, hz1, hz2⟩ := info_parts infoStr21
  have hBl := hS.lt
  have HS0 := Lib.hid hS
  have HE := Lib.hid hE
  clear hS hE
  go_enter Tryz.func70, Tryz.ntmps70
  go_wp2
  go_loopw [5, 7] (fun u i wr => ∃ (j : Nat) (pre : List Bs) (sj : Bs), i = .int .i64 j ∧ Hid (TxtSt n s pre j sj) ∧ Hid (wr.ownsRow w.heap.size 9 1 u j (pre.map strV)) ∧ Hid (Scn wr B sj k) ∧ Hid (w.grownBy wr (some B))) (fun _ i _ => n - (intOf i).toNat)
  case atStart => exact ⟨0, [], s, rfl, Lib.hid ⟨Nat.zero_le _, rfl, by simp⟩, Lib.hid (World.ownsRow_nil _ _ _ _), HS0, Lib.hid (grown_refl w _)⟩
  case round =>
    obtain ⟨j, pre, sj, rfl, HQ, HO, HS, HG⟩ := hrel
    have hj := HQ.out.le
    by_cases hjn : j < n
    · obtain ⟨r, hr⟩ : ∃ r, n - j = r + 1 := ⟨n - j - 1, by omega⟩
      have hsp := HQ.out.spec
      rw [hr] at hsp
      cases h1 : isB [32] sj with
      | none =>
        have HB := Lib.hid (show textsB n s = none by rw [hsp, textsB, h1]; rfl)
        have K1 := Lib.hid (fun W hW => blank_no B sj k h1 W hW)
        clear hsp h1
        go_wp2_with fail
        refine (K1.out _ HS.out).mono ?_
        rintro e w1 ⟨rfl, hG1⟩
        exact ⟨rfl, HG.out.trans hG1, by rw [HB.out]⟩
      | some s1 =>
        have K1 := Lib.hid (fun W hW => blank_ok B sj s1 k h1 W hW)
        cases h2 : textB [] s1 with
        | none =>
          have HB := Lib.hid (show textsB n s = none by rw [hsp, textsB, h1]; simp only [h2]; rfl)
          have K2 : Hid (∀ W, EnvI G W B → Scn W B s1 k → Calls Tryz.prog 71 #[scP B, .string ⟨#[]⟩] W _) := Lib.hid (fun W hE hW => text_walk G B k [] s1 W hE hW)
          rw [h2] at K2
          clear hsp h1 h2
          go_wp2_with fail
          refine (K1.out _ HS.out).mono ?_
          rintro e w1 ⟨rfl, hS1, hG1⟩
          have HS1 := Lib.hid hS1
          have HG1 := Lib.hid (HG.out.trans hG1)
          have HE1 := Lib.hid (HE.out.kept HG1.out)
          clear hS1 hG1
          go_wp2_with fail
          refine (K2.out _ HE1.out HS1.out).mono ?_
          rintro e w2 ⟨hG2, rfl⟩
          exact ⟨rfl, HG1.out.trans hG2, by rw [HB.out]⟩
        | some p =>
          have HN : Hid (TxtSt n s (pre ++ [p.1]) (j + 1) p.2) := Lib.hid ⟨by omega, by simp [HQ.out.len], by
            rw [hsp, textsB, h1]
            simp only [h2]
            rw [Option.map_map, show n - (j + 1) = r by omega]
            congr 1
            funext z
            simp⟩
          have K2 : Hid (∀ W, EnvI G W B → Scn W B s1 k → Calls Tryz.prog 71 #[scP B, .string ⟨#[]⟩] W _) := Lib.hid (fun W hE hW => text_walk G B k [] s1 W hE hW)
          rw [h2] at K2
          have HNx := Lib.hid (show (pre ++ [p.1]).map strV = pre.map strV ++ [.string (str p.1)] by rw [List.map_append]; rfl)
          clear hsp h1 h2
          go_wp2_with fail
          refine (K1.out _ HS.out).mono ?_
          rintro e w1 ⟨rfl, hS1, hG1⟩
          have HS1 := Lib.hid hS1
          have HO1 := Lib.hid (own_kept HO.out hG1 hBl)
          have HG1 := Lib.hid (HG.out.trans hG1)
          have HE1 := Lib.hid (HE.out.kept HG1.out)
          clear hS1 hG1
          go_wp2_with fail
          refine (K2.out _ HE1.out HS1.out).mono ?_
          rintro e w2 ⟨hG2, rfl, hS2⟩
          have HS2 := Lib.hid hS2
          have HO2 := Lib.hid (own_kept HO1.out hG2 hBl)
          have HG2 := Lib.hid (HG1.out.trans hG2)
          clear hS2 hG2
          have zw2 := HG2.out.size
          generalize str p.1 = Y at *
          go_wp2_with (at_builtin; refine wpList_append_own _ rfl _ _ 28 rfl w.heap.size 9 i0 (.string ⟨#[]⟩) 1 16 Tryz.underlying28 hi hz0 hz1 hz2 rfl (by decide) _ j _ rfl (HO2.out.alloc _) ⟨w2.heap.size, 0, none⟩ 1 1 [.string Y] rfl rfl ?a0 ?b0 ?c0 ?d0 ?e0 ?_)
          case a0 => exact cell_one_new w2 (.string Y) 9
          case b0 => simp [Value.oneCell']
          case c0 => unfold maxLen; omega
          case d0 => omega
          case e0 => simp; omega
          intro u' w9 hown hgr _
          have HO9 := Lib.hid hown
          have hlt := fun k e => (HO2.out.lt k e).1
          have HG9 := Lib.hid (grown_new (grown_new HG2.out (World.grownBy_alloc w2 (Obj.cells #[.string Y] 9) none) (fun k e => by cases e)) hgr (fun k e => .inl (hlt k e)))
          have HS9 := Lib.hid ((HS2.out.kept (World.grownBy_alloc w2 (Obj.cells #[.string Y] 9) none) (by simp)).kept hgr (fun e => by have := hlt B e.symm; omega))
          clear hown hgr hlt
          go_wp2
          go_roundw
          case rel => exact ⟨j + 1, _, _, by go_num, HN, Lib.hid (by rw [HNx.out]; exact HO9.out), HS9, HG9⟩
          case measure => simp [intOf]; omega
    · obtain rfl : j = n := by omega
      have HB := Lib.hid (show textsB j s = some (pre, sj) by rw [HQ.out.spec, Nat.sub_self, textsB]; simp)
      have HLn := Lib.hid HQ.out.len
      go_wp2
      go_ret
      exact ⟨HG.out, by rw [HB.out]; exact ⟨_, rfl, by rw [HLn.out]; exact HO.out, HS.out⟩⟩
end Go.Proofs.YtgmfhldfdnnafaaGreatDoor
namespace Go.Proofs.YtgmfhldfdnnafaaGreatDoor
open Go.RowKit
open Pl (Bs idxB numOk numN setOk setL)
set_option linter.unusedSimpArgs false
set_option linter.unusedVariables false
theorem word_walk (B k : Nat) (more s : Bs) (w : World) (h : Scn w B s k) : Calls Tryz.prog 26 #[scP B, .string (str more)] w (TextPost w B k (wordB more s)) := by
  cases hw : wordB more s with
  | none => exact (word_no B more s k hw w h).mono fun e w' ⟨h1, h2⟩ => ⟨h2, h1⟩
  | some p => exact (word_ok B more s p.1 p.2 k hw w h).mono fun e w' ⟨h1, h2, h3⟩ => ⟨h3, h1, h2⟩
def largeL (l : Bs) : Bs := l.map largeB
theorem large_walk21 (l : Bs) (hl : l.length ≤ 1000000) (w : World) : Calls Tryz.prog 29 #[.string (str l)] w fun e w' => e = .returned (.string (str (largeL l))) ∧ Below w.heap.size w w' := by
  have K := large_walk (str l) (by rw [str_size]; exact hl) w
  rw [largeS, bs_str] at K
  exact K
theorem large_len (l : Bs) : (largeL l).length = l.length := List.length_map ..
theorem own_lower {w : World} {base base' : Nat} {e : TypeId} {size n : Nat} {v : Value} {xs : List Value} (h : w.ownsRow base e size v n xs) (hb : base' ≤ base) : w.ownsRow base' e size v n xs := by
  refine ⟨h.1, h.2.imp id fun ⟨g, cap, cur, e1, e2, r⟩ => ⟨g, cap, cur, e1, by omega, r⟩⟩
theorem setE_no {l : Bs} (h : setOk l = false) (v : Value) : setE l v = v := by rw [setE, h]; rfl
theorem setE_yes {l : Bs} (h : setOk l = true) (v : Value) : setE l v = .nilIface := by rw [setE, if_pos h]
set_option maxHeartbeats 1000000 in
set_option maxRecDepth 100000 in
theorem rset_walk (G : Glob) (B k : Nat) (s : Bs) (w : World) (hE : EnvI G w B) (h : Scn w B s k) :
    Calls Tryz.prog 75 #[scP B] w (RowPost w B k 72 2 List.length flat (setB s)) := by
  have K1 : Hid (Calls Tryz.prog 26 #[scP B, .string ⟨#[37, 42]⟩] w _) := Lib.hid (word_walk B k [37, 42] s w h)
  have HE := Lib.hid hE
  have hsm := h.small
  have hT : setB s = match wordB [37, 42] s with
    | none => none
    | some (w, r) => if setOk w = true then some (setL w, r) else none := rfl
  obtain ⟨t, x, hv⟩ := hE.formI
  have hV := Lib.hid hv
  clear hE h hv
  cases hw : wordB [37, 42] s with
  | none =>
    rw [hw] at K1 hT
    have HB := Lib.hid hT
    clear hT
    go_enter Tryz.func75, Tryz.ntmps75
    go_wp2_with fail
    refine K1.out.mono ?_
    rintro e w1 ⟨hG1, rfl⟩
    exact ⟨rfl, hG1, by rw [HB.out]⟩
  | some p =>
    obtain ⟨X, R⟩ := p
    have hlen := wordB_len hw
    rw [hw] at K1 hT
    have K2 := Lib.hid (fun W (hW : EnvI G W B) => set_walk (str X) G.form W (by rw [str_size]; omega) hW.form hW.formI)
    rw [bs_str] at K2
    cases ho : setOk X with
    | false =>
      have HB := Lib.hid (show setB s = none by rw [hT]; dsimp only; rw [ho]; rfl)
      rw [setE_no ho, hV.out] at K2
      skip
      clear hT hw ho
      go_enter Tryz.func75, Tryz.ntmps75
      go_wp2_with fail
      refine K1.out.mono ?_
      rintro e w1 ⟨hG1, rfl, hS1⟩
      have HG1 := Lib.hid hG1
      have HE1 := Lib.hid (HE.out.kept hG1)
      clear hS1 hG1
      go_wp2_with fail
      refine (K2.out _ HE1.out).mono ?_
      rintro e w2 ⟨r, rfl, hO, hB2⟩
      have HG2 := Lib.hid (grown_then HG1.out hB2)
      clear hO hB2
      go_wp2_with fail
      refine (must_no B _).mono ?_
      rintro e w' ⟨rfl, rfl⟩
      exact ⟨rfl, HG2.out, by rw [HB.out]⟩
    | true =>
      have HB := Lib.hid (show setB s = some (setL X, R) by rw [hT]; dsimp only; rw [if_pos ho])
      rw [setE_yes ho] at K2
      skip
      clear hT hw ho hV
      go_enter Tryz.func75, Tryz.ntmps75
      go_wp2_with fail
      refine K1.out.mono ?_
      rintro e w1 ⟨hG1, rfl, hS1⟩
      have HG1 := Lib.hid hG1
      have HS1 := Lib.hid hS1
      have HE1 := Lib.hid (HE.out.kept hG1)
      clear hS1 hG1
      go_wp2_with fail
      refine (K2.out _ HE1.out).mono ?_
      rintro e w2 ⟨r, rfl, hO, hB2⟩
      have HO := Lib.hid (own_lower hO HG1.out.size)
      have HS2 := Lib.hid (HS1.out.then hB2)
      have HG2 := Lib.hid (grown_then HG1.out hB2)
      clear hO hB2
      go_wp2_with fail
      refine (must_walk B _).mono ?_
      rintro e w' ⟨rfl, rfl⟩
      go_wp2
      go_ret
      exact ⟨HG2.out, by rw [HB.out]; exact ⟨_, rfl, HO.out, HS2.out⟩⟩
/-- what a step that reads a number does -/
def IntPost (w : World) (B k : Nat) (o : Option (Int × Bs)) (e : Ending) (w' : World) : Prop :=
  w.grownBy w' (some B) ∧ match o with | none => e = .panicked [wrongE] | some p => e = .returned (.int .i64 p.1) ∧ Scn w' B p.2 k
theorem IntPost.bad {w w' : World} {B k : Nat} {o : Option (Int × Bs)} (hG : w.grownBy w' (some B)) (ho : o = none) : IntPost w B k o (.panicked [wrongE]) w' := ⟨hG, by subst ho; rfl⟩
theorem IntPost.fin {w w' : World} {B k : Nat} {o : Option (Int × Bs)} {x : Int} {r : Bs} (hG : w.grownBy w' (some B)) (ho : o = some (x, r)) (hS : Scn w' B r k) : IntPost w B k o (.returned (.int .i64 x)) w' := ⟨hG, by subst ho; exact ⟨rfl, hS⟩⟩
def flagsB (s : Bs) : Option (Int × Bs) :=
  match upToB [41] s with
  | none => none
  | some (x, r) => if flagsOk (str (x ++ [41])) = true then some (flagsI (str (x ++ [41])), r) else none
theorem flagsE_no {s : ByteArray} (h : flagsOk s = false) (v : Value) : flagsE s v = v := by rw [flagsE, h]; rfl
theorem flagsE_yes {s : ByteArray} (h : flagsOk s = true) (v : Value) : flagsE s v = .nilIface := by rw [flagsE, if_pos h]
set_option maxHeartbeats 1000000 in
set_option maxRecDepth 100000 in
theorem rflags_walk (G : Glob) (B k : Nat) (s : Bs) (w : World) (hE : EnvI G w B) (h : Scn w B s k) :
    Calls Tryz.prog 100 #[scP B] w (IntPost w B k (flagsB s)) := by
  have K1 : Hid (Calls Tryz.prog 121 #[scP B, .string ⟨#[41]⟩] w _) := Lib.hid (upTo_walk G B k s [41] w hE h)
  have HE := Lib.hid hE
  have hsm := h.small
  have hT : flagsB s = match upToB [41] s with
    | none => none
    | some (x, r) => if flagsOk (str (x ++ [41])) = true then some (flagsI (str (x ++ [41])), r) else none := rfl
  obtain ⟨t, x, hv⟩ := hE.formI
  have hV := Lib.hid hv
  clear hE h hv
  cases hw : upToB [41] s with
  | none =>
    rw [hw] at K1 hT
    have HB := Lib.hid hT
    clear hT
    go_enter Tryz.func100, Tryz.ntmps100
    go_wp2_with fail
    refine K1.out.mono ?_
    rintro e w1 ⟨hG1, rfl⟩
    exact ⟨rfl, .bad hG1 HB.out⟩
  | some p =>
    obtain ⟨X, R⟩ := p
    have hlen := upToB_len hw
    rw [hw] at K1 hT
    have hap : str (X ++ [41]) = str X ++ ⟨#[41]⟩ := by apply bs_inj; simp [bs, str]
    have hz : (str X).size ≤ 1000000 := by rw [str_size]; omega
    have hz1 : (str X ++ ⟨#[41]⟩).size ≤ 1000001 := by rw [ByteArray.size_append]; have : (⟨#[41]⟩ : ByteArray).size = 1 := rfl; omega
    have hz2 : ¬ 9223372036854775807 < (str X).size + 1 := by omega
    dsimp only at hT
    rw [hap] at hT
    by_cases hz3 : (str X ++ ⟨#[41]⟩).size ≤ 1000000
    · have K2 := Lib.hid (fun W (hW : EnvI G W B) => flags_walk (str X ++ ⟨#[41]⟩) G.form W hz3 hW.form hW.formI)
      cases ho : flagsOk (str X ++ ⟨#[41]⟩) with
      | false =>
        have HB := Lib.hid (show flagsB s = none by rw [hT, ho]; rfl)
        rw [flagsE_no ho, hV.out] at K2
        generalize flagsI (str X ++ ⟨#[41]⟩) = F at *
        clear hT hw ho hz1 hz3 hap
        skip
        go_enter Tryz.func100, Tryz.ntmps100
        go_wp2_with fail
        refine K1.out.mono ?_
        rintro e w1 ⟨hG1, rfl, hS1⟩
        have HG1 := Lib.hid hG1
        have HE1 := Lib.hid (HE.out.kept hG1)
        clear hS1 hG1
        go_wp2_with fail
        refine (K2.out _ HE1.out).mono ?_
        rintro e w2 ⟨rfl, hB2⟩
        have HG2 := Lib.hid (grown_then HG1.out hB2)
        clear hB2
        go_wp2_with fail
        refine (must_no B _).mono ?_
        rintro e w' ⟨rfl, rfl⟩
        exact ⟨rfl, .bad HG2.out HB.out⟩
      | true =>
        have HB := Lib.hid (show flagsB s = some (flagsI (str X ++ ⟨#[41]⟩), R) by rw [hT, if_pos ho])
        rw [flagsE_yes ho] at K2
        generalize flagsI (str X ++ ⟨#[41]⟩) = F at *
        clear hT hw ho hz1 hz3 hap
        skip
        go_enter Tryz.func100, Tryz.ntmps100
        go_wp2_with fail
        refine K1.out.mono ?_
        rintro e w1 ⟨hG1, rfl, hS1⟩
        have HG1 := Lib.hid hG1
        have HS1 := Lib.hid hS1
        have HE1 := Lib.hid (HE.out.kept hG1)
        clear hS1 hG1
        go_wp2_with fail
        refine (K2.out _ HE1.out).mono ?_
        rintro e w2 ⟨rfl, hB2⟩
        have HG2 := Lib.hid (grown_then HG1.out hB2)
        have HS2 := Lib.hid (HS1.out.then hB2)
        clear hB2
        go_wp2_with fail
        refine (must_walk B _).mono ?_
        rintro e w' ⟨rfl, rfl⟩
        go_wp2
        go_ret
        exact .fin HG2.out HB.out HS2.out
    · exfalso
      have hX : X.length + 1 ≤ s.length := by
        have hc := hw
        unfold upToB at hc
        split at hc
        · rename_i h2
          simp only [Option.some.injEq, Prod.mk.injEq] at hc
          rw [← hc.1]
          unfold Lib.cut at h2 ⊢
          split at h2
          · rename_i h0
            rw [if_pos h0]
            have h3 := Lib.index_room s [41] h0
            simp only [List.length_singleton] at h3
            simp only [List.length_take]
            omega
          · cases h2
        · cases hc
      rw [ByteArray.size_append, str_size] at hz3
      have e1 : (⟨#[41]⟩ : ByteArray).size = 1 := rfl
      omega
set_option maxHeartbeats 1000000 in
set_option maxRecDepth 100000 in
theorem rnumber_walk (G : Glob) (B : Nat) (l : Bs) (hl : l.length ≤ 1000000) (w : World) (hE : EnvI G w B) :
    Calls Tryz.prog 135 #[scP B, .string (str l)] w fun e w' => Below w.heap.size w w' ∧ match countB l 2147483648 with | none => e = .panicked [wrongE] | some n => e = .returned (.int .i64 n) := by
  have K := Lib.hid (count_walk G B l 2147483648 w hl hE)
  generalize str l = L at *
  clear hE
  cases hc : countB l 2147483648 with
  | none =>
    rw [hc] at K
    clear hc
    go_enter Tryz.func135, Tryz.ntmps135
    go_wp2_with fail
    refine K.out.mono ?_
    rintro e w1 ⟨rfl, hB⟩
    have HB := Lib.hid hB
    clear hB
    go_wp2_with fail
    refine (must_no B _).mono ?_
    rintro e w' ⟨rfl, rfl⟩
    exact ⟨rfl, HB.out, rfl⟩
  | some n =>
    rw [hc, (cnt_n hc).1] at K
    clear hc
    go_enter Tryz.func135, Tryz.ntmps135
    go_wp2_with fail
    refine K.out.mono ?_
    rintro e w1 ⟨rfl, hB⟩
    have HB := Lib.hid hB
    clear hB
    go_wp2_with fail
    refine (must_walk B _).mono ?_
    rintro e w' ⟨rfl, rfl⟩
    go_wp2
    go_ret
    exact ⟨HB.out, rfl⟩
end Go.Proofs.YtgmfhldfdnnafaaGreatDoor
namespace Go.Proofs.YtgmfhldfdnnafaaGreatDoor
open Go.RowKit
open Pl (Bs)
set_option linter.unusedSimpArgs false
set_option linter.unusedVariables false
set_option maxRecDepth 100000 in
theorem parse_idle (p q : Addr) (w : World) :
    CallsD Tryz.prog 25 #[.pointer (some p), .pointer (some q)] .returning w fun e u' w' => e = .returned (.tuple #[]) ∧ u' = .returning ∧ w' = w := by
  refine callsD_of_wpS Tryz.func25 rfl fun c₀ cs hu => ?_
  apply wpS_seq
  apply wpS_region
  simp [wpOpsS, go_sem, recoverD, hu, Tryz.ntmps25, Exit.thenS]
  apply wpS_seq
  apply wpS_region
  simp [wpOpsS, go_sem, Tryz.ntmps25, Exit.thenS]
  refine wpS_cond (t := false) (by simp [Act.eval, Array.replicate]) ?_
  simp only [Bool.false_eq_true, if_false]
  refine wpS_of_wp (wp_skip ?_)
  cases c₀
  simp_all [bodyPostS, results, Tryz.results25]
end Go.Proofs.YtgmfhldfdnnafaaGreatDoor
namespace Go.Proofs.YtgmfhldfdnnafaaGreatDoor
open Go.RowKit
open Pl (Bs)
set_option linter.unusedSimpArgs false
set_option linter.unusedVariables false
def tagC (c : UInt8) : Bool := atomB [] c && !(c == 43)
/-- is a text a tag? -/
def tagB (l : Bs) : Bool := l.all tagC && (decide (1 ≤ l.length) && decide (l.length ≤ 20))
set_option maxHeartbeats 4000000 in
set_option maxRecDepth 100000 in
theorem tag_in (s : ByteArray) (w : World) (hs : s.size ≤ 1000000) :
    Calls Tryz.prog 23 #[.string s] w fun e w' => e = .returned (.bool (tagB (bs s))) ∧ Below w.heap.size w w' := by
  obtain ⟨w1, cap, hcv, hB, hb⟩ := bytes_laid w s
  have HB := Lib.hid hB
  have HBs := Lib.hid hb
  have zl : (bs s).length = s.size := bs_size s
  clear hB hb
  go_enter Tryz.func23, Tryz.ntmps23
  go_wp2
  go_loop [8] (fun i => ∃ k : Nat, k ≤ s.size ∧ i = .int .i64 k ∧ Hid (∀ c ∈ (bs s).take k, tagC c = true)) (fun i => s.size - (intOf i).toNat)
  case atStart => exact ⟨0, Nat.zero_le _, rfl, Lib.hid (fun c h => by simp at h)⟩
  case round =>
    obtain ⟨k, hk, rfl, HA⟩ := hrel
    by_cases hlt : k < s.size
    · have c0 := HBs.out k hlt
      have hat := at_bs s k hlt
      have HBad := Lib.hid (fun (hb : tagC s[k] = false) => show tagB (bs s) = false by
        rw [tagB]
        have : (bs s).all tagC = false := Bool.eq_false_iff.2 fun e => by
          have := List.all_eq_true.1 e _ (List.getElem_mem (show k < (bs s).length by omega))
          rw [hat, hb] at this; cases this
        rw [this]; rfl)
      have HN := Lib.hid (fun (hb : tagC s[k] = true) => show ∀ c ∈ (bs s).take (k + 1), tagC c = true from fun c hc => by
        rw [List.take_succ_eq_append_getElem (by omega), List.mem_append] at hc
        rcases hc with hc | hc
        · exact HA.out c hc
        · rw [List.mem_singleton.1 hc, hat]; exact hb)
      have HD := Lib.hid (show tagC s[k] = (atomI ⟨#[]⟩ (s[k].toNat : Int) && !(s[k] == 43)) from rfl)
      have K := Lib.hid (fun W => atom21_walk (s[k].toNat : Int) ⟨#[]⟩ W)
      clear hat
      generalize s[k] = c at *
      cases ha : atomI ⟨#[]⟩ (c.toNat : Int) with
      | false =>
        have HV := Lib.hid (HBad.out (by rw [HD.out, ha]; rfl))
        rw [ha] at K
        clear ha
        go_wp2_with fail
        refine (K.out _).mono ?_
        rintro e w' ⟨rfl, rfl⟩
        go_wp2
        go_ret
        exact ⟨by rw [HV.out]; rfl, HB.out⟩
      | true =>
        rw [ha] at K
        have hce : (c == 43) = ((c.toNat : Int) == 43) := by
          rw [Bool.eq_iff_iff, beq_iff_eq, beq_iff_eq]
          exact byte_eq c 43 (by decide)
        by_cases h43 : (c.toNat : Int) = 43
        · have HV := Lib.hid (HBad.out (by rw [HD.out, ha, hce, beq_iff_eq.2 h43]; rfl))
          have g43 : ((c.toNat : Int) == 43) = true := beq_iff_eq.2 h43
          clear ha hce h43
          go_wp2_with fail
          refine (K.out _).mono ?_
          rintro e w' ⟨rfl, rfl⟩
          go_wp2
          go_ret
          exact ⟨by rw [HV.out]; rfl, HB.out⟩
        · have HN2 := Lib.hid (HN.out (by rw [HD.out, ha, hce, beq_eq_false_iff_ne.2 h43]; rfl))
          have g43 : ((c.toNat : Int) == 43) = false := beq_eq_false_iff_ne.2 h43
          clear ha hce h43
          go_wp2_with fail
          refine (K.out _).mono ?_
          rintro e w' ⟨rfl, rfl⟩
          go_wp2
          go_round
          case rel => exact ⟨k + 1, by omega, by go_num, HN2⟩
          case measure => simp [intOf]; omega
    · obtain rfl : k = s.size := by omega
      have ht : (bs s).take s.size = bs s := List.take_of_length_le (by omega)
      have HV := Lib.hid (show tagB (bs s) = (decide (1 ≤ s.size) && decide (s.size ≤ 20)) by
        have := HA.out
        rw [ht] at this
        rw [tagB, List.all_eq_true.2 this, Bool.true_and, zl])
      by_cases h1 : 1 ≤ s.size
      · have HV2 := Lib.hid (show tagB (bs s) = decide ((s.size : Int) ≤ 20) by rw [HV.out, decide_eq_true h1, Bool.true_and, decide_eq_decide]; omega)
        have h1i : (1 : Int) ≤ (s.size : Int) := by omega
        go_wp2
        go_ret
        exact ⟨by rw [HV2.out]; rfl, HB.out⟩
      · have HV2 := Lib.hid (show tagB (bs s) = false by rw [HV.out, decide_eq_false h1]; rfl)
        have h1i : ¬ (1 : Int) ≤ (s.size : Int) := by omega
        go_wp2
        go_ret
        exact ⟨by rw [HV2.out]; rfl, HB.out⟩
theorem tag_walk (l : Bs) (hl : l.length ≤ 1000000) (w : World) : Calls Tryz.prog 23 #[.string (str l)] w fun e w' => e = .returned (.bool (tagB l)) ∧ Below w.heap.size w w' := by
  have K := tag_in (str l) w (by rw [str_size]; exact hl)
  rw [bs_str] at K
  exact K
end Go.Proofs.YtgmfhldfdnnafaaGreatDoor
namespace Go.Proofs.YtgmfhldfdnnafaaGreatDoor
open Go.RowKit
open Pl (Bs idxB numOk numN setOk setL)
set_option linter.unusedSimpArgs false
set_option linter.unusedVariables false
/-- a slice whose cells lie in one block, one of these -/
def RowC (w : World) (T : Nat → Prop) (v : Value) (n : Nat) (cells : List Value) : Prop :=
  ∃ A c, v = .slice A n c ∧ (0 < n → ∃ b, A = some ⟨b, 0, none⟩ ∧ T b ∧ ∀ j x, cells[j]? = some x → w.cell? ⟨b, j, none⟩ = some x)
theorem RowC.kept {w w1 : World} {T : Nat → Prop} {v : Value} {n : Nat} {cells : List Value} (h : RowC w T v n cells) (hk : ∀ i, T i → w1.heap[i]? = w.heap[i]?) : RowC w1 T v n cells := by
  obtain ⟨A, c, rfl, h⟩ := h
  refine ⟨A, c, rfl, fun hn => ?_⟩
  obtain ⟨b, rfl, ht, hc⟩ := h hn
  exact ⟨b, rfl, ht, fun j x hx => (World.cell?_of_block (hk b ht)).trans (hc j x hx)⟩
theorem RowC.more {w : World} {T T' : Nat → Prop} {v : Value} {n : Nat} {cells : List Value} (h : RowC w T v n cells) (hk : ∀ i, T i → T' i) : RowC w T' v n cells := by
  obtain ⟨A, c, rfl, h⟩ := h
  refine ⟨A, c, rfl, fun hn => ?_⟩
  obtain ⟨b, rfl, ht, hc⟩ := h hn
  exact ⟨b, rfl, hk _ ht, hc⟩
theorem rowC_nil (w : World) (T : Nat → Prop) (cells : List Value) : RowC w T (.slice none 0 0) 0 cells := ⟨none, 0, rfl, fun h => absurd h (Nat.lt_irrefl 0)⟩
theorem rowC_own {w : World} {base n sz : Nat} {e : TypeId} {v : Value} {xs : List Value} (h : w.ownsRow base e sz v n xs) : RowC w (fun i => base ≤ i ∧ i < w.heap.size) v n xs := by
  rcases h.2 with ⟨rfl, rfl⟩ | ⟨g, cap, cur, rfl, hb, hh, h1, h2, h3, h4⟩
  · exact rowC_nil _ _ _
  · refine ⟨_, _, rfl, fun _ => ⟨g, rfl, ⟨hb, (Array.getElem?_eq_some_iff.1 hh).1⟩, fun j x hx => ?_⟩⟩
    have := h.cells (g := g) rfl j x hx
    rw [add_at] at this
    exact this
/-- new memory between two worlds -/
def Fresh (T : Nat → Prop) (w w' : World) : Prop := ∀ i, T i → w.heap.size ≤ i ∧ i < w'.heap.size
structure SpecP where
  path : List Int
  what : Bs
  names : List Bs
structure ItemP where
  name : Bs
  spec : SpecP
  peek : Bool
  part : Bool
  frm : Int
  cnt : Int
def intV (n : Int) : Value := .int .i64 n
def itemC (vp vn : Value) (x : ItemP) : List Value := [.string (str x.name), vp, .string (str x.spec.what), vn, .bool x.peek, .bool x.part, .int .i64 x.frm, .int .i64 x.cnt]
structure SpecAt (w : World) (T : Nat → Prop) (vp vn : Value) (x : SpecP) : Prop where
  path : RowC w T vp x.path.length (x.path.map intV)
  names : RowC w T vn x.names.length (x.names.map strV)
theorem SpecAt.kept {w w1 : World} {T : Nat → Prop} {vp vn : Value} {x : SpecP} (h : SpecAt w T vp vn x) (hk : ∀ i, T i → w1.heap[i]? = w.heap[i]?) : SpecAt w1 T vp vn x := ⟨h.path.kept hk, h.names.kept hk⟩
theorem SpecAt.more {w : World} {T T' : Nat → Prop} {vp vn : Value} {x : SpecP} (h : SpecAt w T vp vn x) (hk : ∀ i, T i → T' i) : SpecAt w T' vp vn x := ⟨h.path.more hk, h.names.more hk⟩
inductive ItemsC (w : World) (T : Nat → Prop) : List ItemP → List Value → Prop
  | nil : ItemsC w T [] []
  | cons {x : ItemP} {vp vn : Value} {l : List ItemP} {cs : List Value} : SpecAt w T vp vn x.spec → ItemsC w T l cs → ItemsC w T (x :: l) (itemC vp vn x ++ cs)
theorem ItemsC.kept {w w1 : World} {T : Nat → Prop} {l : List ItemP} {cs : List Value} (h : ItemsC w T l cs) (hk : ∀ i, T i → w1.heap[i]? = w.heap[i]?) : ItemsC w1 T l cs := by
  induction h with
  | nil => exact .nil
  | cons h1 _ ih => exact .cons (h1.kept hk) ih
theorem ItemsC.more {w : World} {T T' : Nat → Prop} {l : List ItemP} {cs : List Value} (h : ItemsC w T l cs) (hk : ∀ i, T i → T' i) : ItemsC w T' l cs := by
  induction h with
  | nil => exact .nil
  | cons h1 _ ih => exact .cons (h1.more hk) ih
theorem ItemsC.snoc {w : World} {T : Nat → Prop} {l : List ItemP} {cs : List Value} (h : ItemsC w T l cs) {x : ItemP} {vp vn : Value} (hx : SpecAt w T vp vn x.spec) : ItemsC w T (l ++ [x]) (cs ++ itemC vp vn x) := by
  induction h with
  | nil => have := ItemsC.cons hx (ItemsC.nil (w := w) (T := T)); simpa using this
  | cons h1 _ ih => rw [List.cons_append, List.append_assoc]; exact .cons h1 ih
theorem ItemsC.len {w : World} {T : Nat → Prop} {l : List ItemP} {cs : List Value} (h : ItemsC w T l cs) : cs.length = l.length * 8 := by
  induction h with
  | nil => rfl
  | cons h1 _ ih => simp only [List.length_append, List.length_cons, ih]; simp [itemC]; omega
/-- what reading a section's text does -/
def SecPost (G : Glob) (w : World) (o : Option SpecP) (e : Ending) (w' : World) : Prop :=
  Below w.heap.size w w' ∧ match o with
    | none => e = .returned (.tuple #[.agg #[.slice none 0 0, .string ⟨#[]⟩, .slice none 0 0], G.form])
    | some x => ∃ vp vn T, e = .returned (.tuple #[.agg #[vp, .string (str x.what), vn], .nilIface]) ∧ Fresh T w w' ∧ SpecAt w' T vp vn x
def ItemPost (w : World) (B k : Nat) (o : Option (ItemP × Bs)) (e : Ending) (w' : World) : Prop :=
  w.grownBy w' (some B) ∧ match o with
    | none => e = .panicked [wrongE]
    | some p => ∃ vp vn T, e = .returned (.agg #[.string (str p.1.name), vp, .string (str p.1.spec.what), vn, .bool p.1.peek, .bool p.1.part, .int .i64 p.1.frm, .int .i64 p.1.cnt]) ∧ Fresh T w w' ∧ SpecAt w' T vp vn p.1.spec ∧ Scn w' B p.2 k
def SecCon (G : Glob) (sec : Bs → Option SpecP) : Prop := ∀ (X : Bs) (B : Nat) (w : World), X.length ≤ 1000000 → EnvI G w B → Calls Tryz.prog 151 #[.string (str X)] w (SecPost G w (sec X))
def bodyPart (r : Bs) : Option ((Bool × Int × Int) × Bs) :=
  match isB [60] r with
  | none => some ((false, 0, 0), r)
  | some r2 => match upToB [46] r2 with
    | none => none
    | some (d1, r3) => match countB d1 2147483648 with
      | none => none
      | some n1 => match upToB [62] r3 with
        | none => none
        | some (d2, r4) => match countB d2 2147483648 with
          | none => none
          | some n2 => if 0 < n2 then some ((true, (n1 : Int), (n2 : Int)), r4) else none
def bodyB (sec : Bs → Option SpecP) (peek : Bool) (s : Bs) : Option (ItemP × Bs) :=
  match upToB [93] s with
  | none => none
  | some (X, r) => match sec X with
    | none => none
    | some x => (bodyPart r).map fun p => (⟨[66, 79, 68, 89, 91], x, peek, p.1.1, p.1.2.1, p.1.2.2⟩, p.2)
end Go.Proofs.YtgmfhldfdnnafaaGreatDoor
