/- The walk of seqs.Flags. -/
import Derived.Test.YtfaojafhamhncaaDoorNames
import Derived.Test.YtfaojafhamhncaaDoorThree
import Derived.BigRegionIn
namespace Go.Proofs.YtfaojafhamhncaaDoor
open Go.RowKit Go.Shelf
open Pl (idxB Bs splitB)
attribute [local go_sem] Oper.semAt_some
set_option linter.unusedSimpArgs false
set_option linter.unusedVariables false
def innerS (s : ByteArray) : ByteArray := sufL 41 (preR 40 s)
def brackF (s : ByteArray) : Bool := preF 40 s && sufF 41 (preR 40 s)
def flagsOk (s : ByteArray) : Bool := brackF s && ((innerS s).toList.isEmpty || wordsOk (splitB 32 (bs (innerS s))))
def flagsI (s : ByteArray) : Int := if flagsOk s = true then (if (innerS s).toList.isEmpty = true then 0 else wordsI (splitB 32 (bs (innerS s)))) else 0
def flagsE (s : ByteArray) (v : Value) : Value := if flagsOk s = true then .nilIface else v
structure FlagMid (w : World) (v : Value) (pre : List Bs) (W : World) : Prop where
  r0 : W.heap[w.heap.size]? = some (.cells #[.int .i64 0] 3 (0, 0))
  r1 : W.heap[w.heap.size + 1]? = some (.cells #[.nilIface] 32 (0, 0))
  r2 : W.heap[w.heap.size + 2]? = some (.cells #[.int .i64 (wordsI pre)] 3 (0, 0))
  below : Below w.heap.size w W
  sent : W.cell? ⟨0, 0, none⟩ = some v
theorem FlagMid.then {w W W' : World} {v : Value} {pre : List Bs} (h : FlagMid w v pre W) (hb : Below W.heap.size W W') : FlagMid w v pre W' :=
  ⟨Stay.below (T := fun _ => True) hb _ _ trivial h.r0, Stay.below (T := fun _ => True) hb _ _ trivial h.r1, Stay.below (T := fun _ => True) hb _ _ trivial h.r2, below_then h.below hb, sent_then h.sent hb⟩
theorem name_index (k : Nat) (hk : k < 5) (X : World) : (Instr.index 61 (.agg #[.string (nameS 0), .string (nameS 1), .string (nameS 2), .string (nameS 3), .string (nameS 4)]) (.int .i64 k)).run Tryd.prog X = .ok (.string (nameS k)) X := by
  have h : k = 0 ∨ k = 1 ∨ k = 2 ∨ k = 3 ∨ k = 4 := by omega
  rcases h with rfl | rfl | rfl | rfl | rfl <;> simp [Instr.index, run_underlying Tryd.underlying61, asIntOf, go_sem] <;> rfl
structure FlagAt (w : World) (v : Value) (pre : List Bs) (W : World) : Prop where
  ok : wordsOk pre = true
  mid : FlagMid w v pre W
structure FlagEnd (w : World) (v : Value) (pre : List Bs) (W : World) : Prop where
  bad : wordsOk pre = false
  r0 : W.heap[w.heap.size]? = some (.cells #[.int .i64 0] 3 (0, 0))
  r1 : W.heap[w.heap.size + 1]? = some (.cells #[v] 32 (0, 0))
  below : Below w.heap.size w W
theorem FlagAt.cell {w W : World} {v : Value} {pre : List Bs} (h : FlagAt w v pre W) {b : Nat} (u : Value) (h1 : w.heap.size + 2 < b) (zg : 0 < w.heap.size) : FlagAt w v pre (W.setCell ⟨b, 0, none⟩ u) :=
  ⟨h.ok, ⟨setCell_other h.mid.r0 _ (by dsimp only; omega), setCell_other h.mid.r1 _ (by dsimp only; omega), setCell_other h.mid.r2 _ (by dsimp only; omega), h.mid.below.setCell (by dsimp only; omega) _,
    (World.cell?_of_block (w := W) (a := ⟨0, 0, none⟩) (Below.heap_setCell W _ u _ (by dsimp only; omega))).trans h.mid.sent⟩⟩
theorem FlagAt.put {w W : World} {v : Value} {pre : List Bs} (h : FlagAt w v pre W) {b : Nat} (o : Obj) (h1 : w.heap.size + 2 < b) (hz : w.heap.size ≤ W.heap.size) (zg : 0 < w.heap.size) : FlagAt w v pre (W.putObj b o) :=
  ⟨h.ok, ⟨(World.putObj_heap_other (by omega)).trans h.mid.r0, (World.putObj_heap_other (by omega)).trans h.mid.r1, (World.putObj_heap_other (by omega)).trans h.mid.r2, below_putObj h.mid.below _ _ (by omega) hz,
    (World.cell?_of_block (w := W) (a := ⟨0, 0, none⟩) (World.putObj_heap_other (by dsimp only; omega))).trans h.mid.sent⟩⟩
theorem FlagEnd.put {w W : World} {v : Value} {pre : List Bs} (h : FlagEnd w v pre W) {b : Nat} (o : Obj) (h1 : w.heap.size + 2 < b) (hz : w.heap.size ≤ W.heap.size) : FlagEnd w v pre (W.putObj b o) :=
  ⟨h.bad, (World.putObj_heap_other (by omega)).trans h.r0, (World.putObj_heap_other (by omega)).trans h.r1, below_putObj h.below _ _ (by omega) hz⟩
set_option maxRecDepth 100000 in
set_option maxHeartbeats 8000000 in
theorem flags_walk (s : ByteArray) (v : Value) (w : World) (hs : s.size ≤ 1000000) (hc : w.cell? ⟨0, 0, none⟩ = some v) (hv : ∃ t x, v = .iface t x) :
    Calls Tryd.prog 14 #[.string s] w fun e w' => e = .returned (.tuple #[.int .i64 (flagsI s), flagsE s v]) ∧ Below w.heap.size w w' := by
  have c1 : ∀ W, Calls Tryd.prog 29 #[.string s, .string ⟨#[40]⟩] W (fun e w' => e = .returned (.tuple #[.string (preR 40 s), .bool (preF 40 s)]) ∧ W = w') := fun W => cutPre_walk s 40 W (by omega)
  have zp : (preR 40 s).size ≤ s.size := by rw [← bs_size, bs_preR, ← bs_size]; split <;> simp
  have c2 : ∀ W, Calls Tryd.prog 30 #[.string (preR 40 s), .string ⟨#[41]⟩] W (fun e w' => e = .returned (.tuple #[.string (innerS s), .bool (sufF 41 (preR 40 s))]) ∧ W = w') := fun W => cutSuf_walk (preR 40 s) 41 W (by omega)
  have C1 := Lib.hid c1
  have C2 := Lib.hid c2
  have HC := Lib.hid hc
  have zg : 0 < w.heap.size := World.block_lt_of_cell? w _ hc
  obtain ⟨ty, xv, rfl⟩ := hv
  clear c1 c2 hc
  refine (callsIn_wide (n := 3)).1 ?_
  refine callsIn_of_wp_marks Tryd.func14 rfl trivial ?_ rfl
  simp only [Tryd.ntmps14, List.size_toArray, List.length_cons, List.length_nil, Nat.reduceAdd, Nat.reduceSub, Array.replicate_succ, Array.replicate_zero, List.push_toArray, List.append_toArray, List.nil_append, List.cons_append]
  gi_wp2_with fail
  refine ⟨trivial, ?_⟩
  refine (callsIn_wide.2 (C1.out _)).mono ?_
  rintro e w' ⟨rfl, rfl⟩
  gi_wp2_with fail
  refine ⟨trivial, ?_⟩
  refine (callsIn_wide.2 (C2.out _)).mono ?_
  rintro e w' ⟨rfl, rfl⟩
  obtain ⟨W1, hW1⟩ : ∃ W1, W1 = (w.alloc (Obj.cells #[.int .i64 0] 3)).alloc (Obj.cells #[.nilIface] 32) := ⟨_, rfl⟩
  have z1 : W1.heap.size = w.heap.size + 2 := by rw [hW1]; simp
  have q0 : W1.heap[w.heap.size]? = some (.cells #[.int .i64 0] 3 (0, 0)) := by rw [hW1]; exact (Below.heap_alloc _ _ _ (by simp)).trans (World.alloc_heap_new w _)
  have q1 : W1.heap[w.heap.size + 1]? = some (.cells #[.nilIface] 32 (0, 0)) := by
    rw [hW1]; have := World.alloc_heap_new (w.alloc (Obj.cells #[.int .i64 0] 3)) (Obj.cells #[.nilIface] 32); rw [World.size_alloc] at this; exact this
  have qB : Below w.heap.size w W1 := by rw [hW1]; exact ((Below.refl _ _).alloc (Nat.le_refl _) _).alloc (by simp) _
  have qS := sent_then HC.out qB
  rw [← hW1]
  clear hW1
  cases hp : preF 40 s with
  | false =>
    · skip
      have HV := Lib.hid (show flagsI s = 0 ∧ flagsE s (.iface ty xv) = .iface ty xv by
        have h : flagsOk s = false := by rw [flagsOk, brackF, hp]; simp
        rw [flagsI, flagsE, h]; exact ⟨rfl, rfl⟩)
      have k0 := cell_of_one q0
      have k1 := cell_of_one q1
      have f0 := free_of_one q0
      have f1 := free_of_one q1
      have s0 := qS
      gi_wp2
      gi_region
      all_goals
        gi_wp2
        refine ⟨.tuple #[.int .i64 0, .iface ty xv], by simp [results, Tryd.results14, go_sem, k0, k1], ?_⟩
        exact ⟨by rw [HV.out.1, HV.out.2], below_drew ((qB.setCell (Nat.le_refl _) _).setCell (by simp) _)⟩
  | true =>
    cases hf : sufF 41 (preR 40 s) with
    | false =>
      have HV := Lib.hid (show flagsI s = 0 ∧ flagsE s (.iface ty xv) = .iface ty xv by
        have h : flagsOk s = false := by rw [flagsOk, brackF, hp, hf]; simp
        rw [flagsI, flagsE, h]; exact ⟨rfl, rfl⟩)
      have k0 := cell_of_one q0
      have k1 := cell_of_one q1
      have f0 := free_of_one q0
      have f1 := free_of_one q1
      have s0 := qS
      gi_wp2
      gi_region
      all_goals
        gi_wp2
        refine ⟨.tuple #[.int .i64 0, .iface ty xv], by simp [results, Tryd.results14, go_sem, k0, k1], ?_⟩
        exact ⟨by rw [HV.out.1, HV.out.2], below_drew ((qB.setCell (Nat.le_refl _) _).setCell (by simp) _)⟩
    | true =>
      cases hi : (innerS s).toList.isEmpty with
      | true =>
        have HV := Lib.hid (show flagsI s = 0 ∧ flagsE s (.iface ty xv) = .nilIface by
          have h : flagsOk s = true := by rw [flagsOk, brackF, hp, hf, hi]; rfl
          rw [flagsI, flagsE, h, hi]; exact ⟨rfl, rfl⟩)
        have k0 := cell_of_one q0
        have k1 := cell_of_one q1
        have f0 := free_of_one q0
        have f1 := free_of_one q1
        gi_wp2
        refine ⟨.tuple #[.int .i64 0, .nilIface], by simp [results, Tryd.results14, go_sem, k0, k1], ?_⟩
        exact ⟨by rw [HV.out.1, HV.out.2], (qB.setCell (Nat.le_refl _) _).setCell (by simp) _⟩
      | false =>
        have zi : (innerS s).size ≤ s.size := by
          have h1 : (innerS s).size ≤ (preR 40 s).size := by
            rw [innerS, ← bs_size, bs_sufL, ← bs_size]; split <;> simp
          omega
        gi_wp2_with fail
        refine ⟨trivial, ?_⟩
        refine (callsIn_wide.2 (splitSeq_walk _ _ _)).mono ?_
        rintro e w' ⟨rfl, rfl⟩
        gi_wp2_with fail
        obtain ⟨W2, hW2⟩ : ∃ W2, W2 = W1.alloc (Obj.cells #[.int .i64 0] 3) := ⟨_, rfl⟩
        have z2 : W2.heap.size = w.heap.size + 3 := by rw [hW2]; simp; omega
        have hB2 : Below W1.heap.size W1 W2 := by rw [hW2]; exact (Below.refl _ _).alloc (Nat.le_refl _) _
        have q2 : W2.heap[w.heap.size + 2]? = some (.cells #[.int .i64 0] 3 (0, 0)) := by
          rw [hW2, ← z1]; exact World.alloc_heap_new W1 _
        have hM : FlagMid w (.iface ty xv) [] W2 := ⟨Stay.below (T := fun _ => True) hB2 _ _ trivial q0, Stay.below (T := fun _ => True) hB2 _ _ trivial q1, q2, below_then qB hB2, sent_then qS hB2⟩
        rw [← hW2]
        clear hW2 q0 q1 q2 qB qS hB2
        have z0 := splitWorld_size W2 32 (innerS s)
        refine wpIn_split 3 (pb := W2.heap.size + 1) (sb := W2.heap.size) (zb := W2.heap.size + 2) (x := 32) (s0 := innerS s) rfl rfl (by omega) (by omega) (by omega) (splitWorld_box W2 32 (innerS s))
          (fun pre W => FlagAt w (.iface ty xv) pre W) (fun c pre W => c = .ret ∧ FlagEnd w (.iface ty xv) pre W)
          (fun pre W u h => h.cell u (by omega) zg)
          (fun pre W o hz h => h.put o (by omega) (by omega) zg)
          (fun c pre W o hz h => ⟨h.1, h.2.put o (by omega) (by omega)⟩)
          (fun o => ⟨rfl, hM.then ((((splitWorld_below W2 32 (innerS s))).alloc (by omega) _).alloc (by simp; omega) _)⟩)
          (fun p => { tmps := #[.string s, undef, .pointer (some ⟨w.heap.size, 0, none⟩), .pointer (some ⟨w.heap.size + 1, 0, none⟩), .string (innerS s), .bool true, .bool true, .pointer (some ⟨w.heap.size + 2, 0, none⟩), .string p, undef, undef, undef, .tuple #[.string (preR 40 s), .bool true], .string s, .tuple #[.string (preR 40 s), .bool true], .string (preR 40 s), .bool true, .tuple #[.string (innerS s), .bool true], .string (preR 40 s), .tuple #[.string (innerS s), .bool true], .string (innerS s), .bool true, .bool true, .bool false, .bool false, .bool true, .bool false, .bool false, undef, .string (innerS s), .bool false, .string (innerS s), splitFn W2, .string p, undef, undef, undef, undef, undef, undef, undef, undef, undef, undef, undef, undef, undef, undef, undef, undef, undef, undef], defers := [] })
          ?assign ?body ?done ?stop
        case assign =>
          intro l p W K hK
          gi_wp2
          exact hK
        case body =>
          intro l pre p sx W hI hBx hpz hlt
          have hm := hI.mid
          have HOK := Lib.hid hI.ok
          have HM := Lib.hid hm
          clear hI hBx hM hm
          gi_wp2_with fail
          refine ⟨trivial, ?_⟩
          refine (CallsIn.inRound l (callsIn_wide.2 (names_walk _))).mono ?_
          rintro e Wa ⟨rfl, hBa⟩
          have HWa := Lib.hid hBa
          have HMa := Lib.hid (HM.out.then hBa)
          clear hBa
          rw [namesV]
          gi_wp2_with fail
          gi_loopw [9, 35] (fun kn i wr => ∃ k : Nat, k ≤ 5 ∧ i = .int .i64 k ∧ kn = .int .i64 (knownK (bs p) k) ∧ Hid (FlagMid w (.iface ty xv) pre wr) ∧ Hid (Below W.heap.size W wr)) (fun _ i _ => 5 - (intOf i).toNat)
          case atStart => exact ⟨0, by omega, rfl, rfl, HMa, HWa⟩
          case round =>
            obtain ⟨k, hk, rfl, rfl, HMr, HWr⟩ := hrel
            have hk' : k = 0 ∨ k = 1 ∨ k = 2 ∨ k = 3 ∨ k = 4 ∨ k = 5 := by omega
            rcases hk' with rfl | rfl | rfl | rfl | rfl | rfl
            · cases he : eqw (bs p) 0 with
              | true =>
                have E := Lib.hid (show sameS p (nameS 0) = true from he)
                have K := Lib.hid (show knownK (bs p) 1 = 1 by rw [knownK, if_pos he]; rfl)
                clear he
                generalize hkn : knownK (bs p) 0 = kn at *
                have nx := name_index 0 (by decide)
                generalize hki : ((0 : Nat) : Int) = ki at *
                gi_wp2_with fail
                refine ⟨trivial, ?_⟩
                refine (CallsIn.inRound l (callsIn_wide.2 (sameT_walk p (nameS 0) (by omega) (by decide) _))).mono ?_
                rintro e W' ⟨rfl, hb'⟩
                rw [E.out]
                have HW' := Lib.hid (below_then HWr.out hb')
                have HM' := Lib.hid (HMr.out.then hb')
                clear hb'
                gi_wp2
                go_roundw
                case rel => exact ⟨1, by omega, by go_num, by rw [K.out]; try (subst hki; first | rfl | (congr 1; done) | (congr 1; decide) | simp [RowKit.wrap64]), HM', HW'⟩
                case measure => subst hki; simp [intOf]
              | false =>
                have E := Lib.hid (show sameS p (nameS 0) = false from he)
                have K := Lib.hid (show knownK (bs p) 1 = knownK (bs p) 0 by simp only [knownK, he]; rfl)
                clear he
                generalize hkn : knownK (bs p) 0 = kn at *
                have nx := name_index 0 (by decide)
                generalize hki : ((0 : Nat) : Int) = ki at *
                gi_wp2_with fail
                refine ⟨trivial, ?_⟩
                refine (CallsIn.inRound l (callsIn_wide.2 (sameT_walk p (nameS 0) (by omega) (by decide) _))).mono ?_
                rintro e W' ⟨rfl, hb'⟩
                rw [E.out]
                have HW' := Lib.hid (below_then HWr.out hb')
                have HM' := Lib.hid (HMr.out.then hb')
                clear hb'
                gi_wp2
                go_roundw
                case rel => exact ⟨1, by omega, by go_num, by rw [K.out]; try (subst hki; first | rfl | (congr 1; done) | (congr 1; decide) | simp [RowKit.wrap64]), HM', HW'⟩
                case measure => subst hki; simp [intOf]
            · cases he : eqw (bs p) 1 with
              | true =>
                have E := Lib.hid (show sameS p (nameS 1) = true from he)
                have K := Lib.hid (show knownK (bs p) 2 = 2 by rw [knownK, if_pos he]; rfl)
                clear he
                generalize hkn : knownK (bs p) 1 = kn at *
                have nx := name_index 1 (by decide)
                generalize hki : ((1 : Nat) : Int) = ki at *
                gi_wp2_with fail
                refine ⟨trivial, ?_⟩
                refine (CallsIn.inRound l (callsIn_wide.2 (sameT_walk p (nameS 1) (by omega) (by decide) _))).mono ?_
                rintro e W' ⟨rfl, hb'⟩
                rw [E.out]
                have HW' := Lib.hid (below_then HWr.out hb')
                have HM' := Lib.hid (HMr.out.then hb')
                clear hb'
                gi_wp2
                go_roundw
                case rel => exact ⟨2, by omega, by go_num, by rw [K.out]; try (subst hki; first | rfl | (congr 1; done) | (congr 1; decide) | simp [RowKit.wrap64]), HM', HW'⟩
                case measure => subst hki; simp [intOf]
              | false =>
                have E := Lib.hid (show sameS p (nameS 1) = false from he)
                have K := Lib.hid (show knownK (bs p) 2 = knownK (bs p) 1 by simp only [knownK, he]; rfl)
                clear he
                generalize hkn : knownK (bs p) 1 = kn at *
                have nx := name_index 1 (by decide)
                generalize hki : ((1 : Nat) : Int) = ki at *
                gi_wp2_with fail
                refine ⟨trivial, ?_⟩
                refine (CallsIn.inRound l (callsIn_wide.2 (sameT_walk p (nameS 1) (by omega) (by decide) _))).mono ?_
                rintro e W' ⟨rfl, hb'⟩
                rw [E.out]
                have HW' := Lib.hid (below_then HWr.out hb')
                have HM' := Lib.hid (HMr.out.then hb')
                clear hb'
                gi_wp2
                go_roundw
                case rel => exact ⟨2, by omega, by go_num, by rw [K.out]; try (subst hki; first | rfl | (congr 1; done) | (congr 1; decide) | simp [RowKit.wrap64]), HM', HW'⟩
                case measure => subst hki; simp [intOf]
            · cases he : eqw (bs p) 2 with
              | true =>
                have E := Lib.hid (show sameS p (nameS 2) = true from he)
                have K := Lib.hid (show knownK (bs p) 3 = 4 by rw [knownK, if_pos he]; rfl)
                clear he
                generalize hkn : knownK (bs p) 2 = kn at *
                have nx := name_index 2 (by decide)
                generalize hki : ((2 : Nat) : Int) = ki at *
                gi_wp2_with fail
                refine ⟨trivial, ?_⟩
                refine (CallsIn.inRound l (callsIn_wide.2 (sameT_walk p (nameS 2) (by omega) (by decide) _))).mono ?_
                rintro e W' ⟨rfl, hb'⟩
                rw [E.out]
                have HW' := Lib.hid (below_then HWr.out hb')
                have HM' := Lib.hid (HMr.out.then hb')
                clear hb'
                gi_wp2
                go_roundw
                case rel => exact ⟨3, by omega, by go_num, by rw [K.out]; try (subst hki; first | rfl | (congr 1; done) | (congr 1; decide) | simp [RowKit.wrap64]), HM', HW'⟩
                case measure => subst hki; simp [intOf]
              | false =>
                have E := Lib.hid (show sameS p (nameS 2) = false from he)
                have K := Lib.hid (show knownK (bs p) 3 = knownK (bs p) 2 by simp only [knownK, he]; rfl)
                clear he
                generalize hkn : knownK (bs p) 2 = kn at *
                have nx := name_index 2 (by decide)
                generalize hki : ((2 : Nat) : Int) = ki at *
                gi_wp2_with fail
                refine ⟨trivial, ?_⟩
                refine (CallsIn.inRound l (callsIn_wide.2 (sameT_walk p (nameS 2) (by omega) (by decide) _))).mono ?_
                rintro e W' ⟨rfl, hb'⟩
                rw [E.out]
                have HW' := Lib.hid (below_then HWr.out hb')
                have HM' := Lib.hid (HMr.out.then hb')
                clear hb'
                gi_wp2
                go_roundw
                case rel => exact ⟨3, by omega, by go_num, by rw [K.out]; try (subst hki; first | rfl | (congr 1; done) | (congr 1; decide) | simp [RowKit.wrap64]), HM', HW'⟩
                case measure => subst hki; simp [intOf]
            · cases he : eqw (bs p) 3 with
              | true =>
                have E := Lib.hid (show sameS p (nameS 3) = true from he)
                have K := Lib.hid (show knownK (bs p) 4 = 8 by rw [knownK, if_pos he]; rfl)
                clear he
                generalize hkn : knownK (bs p) 3 = kn at *
                have nx := name_index 3 (by decide)
                generalize hki : ((3 : Nat) : Int) = ki at *
                gi_wp2_with fail
                refine ⟨trivial, ?_⟩
                refine (CallsIn.inRound l (callsIn_wide.2 (sameT_walk p (nameS 3) (by omega) (by decide) _))).mono ?_
                rintro e W' ⟨rfl, hb'⟩
                rw [E.out]
                have HW' := Lib.hid (below_then HWr.out hb')
                have HM' := Lib.hid (HMr.out.then hb')
                clear hb'
                gi_wp2
                go_roundw
                case rel => exact ⟨4, by omega, by go_num, by rw [K.out]; try (subst hki; first | rfl | (congr 1; done) | (congr 1; decide) | simp [RowKit.wrap64]), HM', HW'⟩
                case measure => subst hki; simp [intOf]
              | false =>
                have E := Lib.hid (show sameS p (nameS 3) = false from he)
                have K := Lib.hid (show knownK (bs p) 4 = knownK (bs p) 3 by simp only [knownK, he]; rfl)
                clear he
                generalize hkn : knownK (bs p) 3 = kn at *
                have nx := name_index 3 (by decide)
                generalize hki : ((3 : Nat) : Int) = ki at *
                gi_wp2_with fail
                refine ⟨trivial, ?_⟩
                refine (CallsIn.inRound l (callsIn_wide.2 (sameT_walk p (nameS 3) (by omega) (by decide) _))).mono ?_
                rintro e W' ⟨rfl, hb'⟩
                rw [E.out]
                have HW' := Lib.hid (below_then HWr.out hb')
                have HM' := Lib.hid (HMr.out.then hb')
                clear hb'
                gi_wp2
                go_roundw
                case rel => exact ⟨4, by omega, by go_num, by rw [K.out]; try (subst hki; first | rfl | (congr 1; done) | (congr 1; decide) | simp [RowKit.wrap64]), HM', HW'⟩
                case measure => subst hki; simp [intOf]
            · cases he : eqw (bs p) 4 with
              | true =>
                have E := Lib.hid (show sameS p (nameS 4) = true from he)
                have K := Lib.hid (show knownK (bs p) 5 = 16 by rw [knownK, if_pos he]; rfl)
                clear he
                generalize hkn : knownK (bs p) 4 = kn at *
                have nx := name_index 4 (by decide)
                generalize hki : ((4 : Nat) : Int) = ki at *
                gi_wp2_with fail
                refine ⟨trivial, ?_⟩
                refine (CallsIn.inRound l (callsIn_wide.2 (sameT_walk p (nameS 4) (by omega) (by decide) _))).mono ?_
                rintro e W' ⟨rfl, hb'⟩
                rw [E.out]
                have HW' := Lib.hid (below_then HWr.out hb')
                have HM' := Lib.hid (HMr.out.then hb')
                clear hb'
                gi_wp2
                go_roundw
                case rel => exact ⟨5, by omega, by go_num, by rw [K.out]; try (subst hki; first | rfl | (congr 1; done) | (congr 1; decide) | simp [RowKit.wrap64]), HM', HW'⟩
                case measure => subst hki; simp [intOf]
              | false =>
                have E := Lib.hid (show sameS p (nameS 4) = false from he)
                have K := Lib.hid (show knownK (bs p) 5 = knownK (bs p) 4 by simp only [knownK, he]; rfl)
                clear he
                generalize hkn : knownK (bs p) 4 = kn at *
                have nx := name_index 4 (by decide)
                generalize hki : ((4 : Nat) : Int) = ki at *
                gi_wp2_with fail
                refine ⟨trivial, ?_⟩
                refine (CallsIn.inRound l (callsIn_wide.2 (sameT_walk p (nameS 4) (by omega) (by decide) _))).mono ?_
                rintro e W' ⟨rfl, hb'⟩
                rw [E.out]
                have HW' := Lib.hid (below_then HWr.out hb')
                have HM' := Lib.hid (HMr.out.then hb')
                clear hb'
                gi_wp2
                go_roundw
                case rel => exact ⟨5, by omega, by go_num, by rw [K.out]; try (subst hki; first | rfl | (congr 1; done) | (congr 1; decide) | simp [RowKit.wrap64]), HM', HW'⟩
                case measure => subst hki; simp [intOf]
            · have hwa : wordsOk (pre ++ [bs p]) = (wordsOk pre && !(knownK (bs p) 5 == 0)) := by simp [wordsOk]
              have HWN := Lib.hid (wordsI_snoc pre (bs p))
              have hgt : w.heap.size + 8 ≤ W.heap.size := by omega
              have zr : W.heap.size ≤ wr.heap.size := HWr.out.size
              generalize hkn : knownK (bs p) 5 = kn at *
              have r0 := HMr.out.r0
              have r1 := HMr.out.r1
              have r2 := HMr.out.r2
              have k0 := cell_of_one r0
              have k1 := cell_of_one r1
              have k2 := cell_of_one r2
              have f0 := free_of_one r0
              have f1 := free_of_one r1
              have f2 := free_of_one r2
              have s0 := HMr.out.sent
              cases hz : (kn == 0) with
              | true =>
                have HBad := Lib.hid (show wordsOk (pre ++ [bs p]) = false by rw [hwa, hz]; simp)
                have hend : FlagEnd w (.iface ty xv) (pre ++ [bs p]) ((wr.setCell ⟨w.heap.size, 0, none⟩ (.int .i64 0)).setCell ⟨w.heap.size + 1, 0, none⟩ (.iface ty xv)).drew :=
                  ⟨HBad.out, setCell_other (one_setCell r0) _ (by simp), one_setCell (setCell_other r1 _ (by simp)), below_drew ((HMr.out.below.setCell (Nat.le_refl _) _).setCell (by simp) _)⟩
                have HEnd := Lib.hid hend
                clear hend hwa r0 r1 r2 hkn
                gi_wp2
                refine wpIn_three (by kernel_rfl) (by decide +kernel) (by decide +kernel) (by decide +kernel) (by decide +kernel) (by decide +kernel) ?_ ?_
                all_goals
                  gi_wp2
                  exact ⟨(Stay.below HWr.out).trans ((Stay.setCell _ _ (by unfold splitT; dsimp only; omega)).trans (Stay.setCell _ _ (by unfold splitT; dsimp only; omega))), rfl, HEnd.out⟩
              | false =>
                have HOk := Lib.hid (show wordsOk (pre ++ [bs p]) = true by rw [hwa, HOK.out, hz]; rfl)
                have hat : FlagAt w (.iface ty xv) (pre ++ [bs p]) (wr.setCell ⟨w.heap.size + 2, 0, none⟩ (.int .i64 (wordsI (pre ++ [bs p])))) :=
                  ⟨HOk.out, ⟨setCell_other r0 _ (by simp), setCell_other r1 _ (by simp), one_setCell r2, HMr.out.below.setCell (by simp) _,
                    (World.cell?_of_block (w := wr) (a := ⟨0, 0, none⟩) (Below.heap_setCell wr _ _ _ (by dsimp only; omega))).trans s0⟩⟩
                rw [HWN.out] at hat
                have HAt := Lib.hid hat
                clear hat hwa r0 r1 r2 hkn
                gi_wp2
                exact ⟨(Stay.below HWr.out).trans (Stay.setCell _ _ (by unfold splitT; dsimp only; omega)), HAt.out⟩
        case done =>
          intro W hI hK
          have hok : flagsOk s = true := by rw [flagsOk, brackF, hp, hf, hi, hI.ok]; rfl
          have HV := Lib.hid (show flagsI s = wordsI (splitB 32 (bs (innerS s))) ∧ flagsE s (.iface ty xv) = .nilIface by
            rw [flagsI, flagsE, hok, hi]; exact ⟨rfl, rfl⟩)
          have hm := hI.mid
          have R0 := Lib.hid hm.r0
          have R1 := Lib.hid hm.r1
          have HB := Lib.hid hm.below
          have k0 := cell_of_one hm.r0
          have k1 := cell_of_one hm.r1
          have k2 := cell_of_one hm.r2
          have f0 := free_of_one hm.r0
          have f1 := free_of_one hm.r1
          clear hm hI hok hM
          generalize wordsI (splitB 32 (bs (innerS s))) = N at *
          gi_wp2
          have hK2 : ((W.setCell ⟨w.heap.size, 0, none⟩ (.int .i64 N)).setCell ⟨w.heap.size + 1, 0, none⟩ .nilIface).heap[(splitWorld W2 32 (innerS s)).heap.size]? = some (.deferred (some [])) := setCell_other (setCell_other hK _ (by dsimp only; omega)) _ (by dsimp only; omega)
          have c2 : (((W.setCell ⟨w.heap.size, 0, none⟩ (.int .i64 N)).setCell ⟨w.heap.size + 1, 0, none⟩ .nilIface).putObj (splitWorld W2 32 (innerS s)).heap.size (.deferred none)).cell? ⟨w.heap.size, 0, none⟩ = some (.int .i64 N) :=
            cell_of_one ((World.putObj_heap_other (by omega)).trans (setCell_other (one_setCell R0.out) _ (by simp)))
          have c3 : (((W.setCell ⟨w.heap.size, 0, none⟩ (.int .i64 N)).setCell ⟨w.heap.size + 1, 0, none⟩ .nilIface).putObj (splitWorld W2 32 (innerS s)).heap.size (.deferred none)).cell? ⟨w.heap.size + 1, 0, none⟩ = some .nilIface :=
            cell_of_one ((World.putObj_heap_other (by omega)).trans (one_setCell (setCell_other R1.out _ (by simp))))
          refine ⟨by simp, .inl ⟨_, _, rfl, run_takeDeferred hK2, ?_⟩⟩
          refine ⟨.tuple #[.int .i64 N, .nilIface], by simp [results, Tryd.results14, go_sem, c2, c3], ?_⟩
          exact ⟨by rw [HV.out.1, HV.out.2], below_putObj ((HB.out.setCell (Nat.le_refl _) _).setCell (by simp) _) _ _ (by omega) (by simp; have := HB.out.size; omega)⟩
        case stop =>
          rintro c pre W hpre ⟨rfl, hE⟩ hK
          have hok : flagsOk s = false := by
            obtain ⟨t, ht⟩ := hpre
            have hb := hE.bad
            rw [flagsOk, hi, ← ht, wordsOk, List.all_append, ← wordsOk, hb]; simp
          have HV := Lib.hid (show flagsI s = 0 ∧ flagsE s (.iface ty xv) = .iface ty xv by
            rw [flagsI, flagsE, hok]; exact ⟨rfl, rfl⟩)
          clear hok
          gi_wp2
          have c2 : (W.putObj (splitWorld W2 32 (innerS s)).heap.size (.deferred none)).cell? ⟨w.heap.size, 0, none⟩ = some (.int .i64 0) :=
            cell_of_one ((World.putObj_heap_other (by omega)).trans hE.r0)
          have c3 : (W.putObj (splitWorld W2 32 (innerS s)).heap.size (.deferred none)).cell? ⟨w.heap.size + 1, 0, none⟩ = some (.iface ty xv) :=
            cell_of_one ((World.putObj_heap_other (by omega)).trans hE.r1)
          refine ⟨by simp, .inl ⟨_, _, rfl, run_takeDeferred hK, ?_⟩⟩
          refine ⟨.tuple #[.int .i64 0, .iface ty xv], by simp [results, Tryd.results14, go_sem, c2, c3], ?_⟩
          exact ⟨by rw [HV.out.1, HV.out.2], below_putObj hE.below _ _ (by omega) (by have := hE.below.size; omega)⟩
end Go.Proofs.YtfaojafhamhncaaDoor
