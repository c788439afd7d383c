/- A part of the proofs of the statements on chapter 21: walks of functions that they reach, and plain laws. What is proved is stated in the last text. Conditions: none of its own. -/
import Derived.Test.YtgmfhldfdnnafaaGreatDoorMs2
import Derived.RangeFuncBox
import Derived.RangeFuncFrom
import Derived.Maps.AppendAt
set_option maxHeartbeats 8000000
set_option maxRecDepth 100000
set_option linter.unusedSimpArgs false
set_option linter.unusedVariables false
namespace Go.Proofs.YtgmfhldfdnnafaaGreatDoor
open Go.RowKit Go.Shelf
open Pl (idxB Bs splitB endOk endN fromB toB okItem rangeV items setOk setL set_fails)
attribute [local go_sem] Oper.semAt_some
def flat : List (Int × Int) → List Value
 | [] => []
 | r :: rs => .int .i64 r.1 :: .int .i64 r.2 :: flat rs
theorem flat_append (a b : List (Int × Int)) : flat (a ++ b) = flat a ++ flat b := by
 induction a with
 | nil => rfl
 | cons r rs ih => simp [flat, ih]
theorem flat_at : ∀ (xs : List (Int × Int)) (j : Nat), j < xs.length → (flat xs)[j * 2]? = some (.int .i64 (xs.getD j (0, 0)).1) ∧ (flat xs)[j * 2 + 1]? = some (.int .i64 (xs.getD j (0, 0)).2)
 | r :: rs, 0, _ => ⟨rfl, rfl⟩
 | r :: rs, j + 1, h => by
  have := flat_at rs j (by simpa using h)
  rw [show (j + 1) * 2 = j * 2 + 1 + 1 by omega]
  simpa [flat] using this
theorem ranges_own {w : World} {base n : Nat} {v : Value} {xs : List (Int × Int)} (hl : xs.length = n) (hn : n ≤ 9223372036854775807) (h : w.ownsRow base 72 2 v n (flat xs)) : ∃ A c, v = .slice A n c ∧ RangesAt w A n xs := by
 rcases h.2 with ⟨rfl, rfl⟩ | ⟨g, cap, cur, rfl, hb, hh, h1, h2, h3, h4⟩
 ·
  exact ⟨none, 0, rfl, hl, hn, fun hp => absurd hp (Nat.lt_irrefl 0)⟩
 ·
  refine ⟨_, _, rfl, hl, hn, fun hp => ⟨g, 0, rfl, (Array.getElem?_eq_some_iff.1 hh).1, fun j hj => ?_⟩⟩
  obtain ⟨e1, e2⟩ := flat_at xs j (by omega)
  have c1 := h.cells (g := g) rfl _ _ e1
  have c2 := h.cells (g := g) rfl _ _ e2
  rw [add_at] at c1 c2
  rw [Nat.zero_add]
  exact ⟨c1, c2⟩
theorem stay_grown {T : Nat → Prop} {W W1 : World} {row : Option Nat} (hg : W.grownBy W1 row) (h : ∀ k, T k → some k ≠ row) : Stay T W W1 := fun k o hk ho => (hg.block k (Array.getElem?_eq_some_iff.1 ho).1 (h k hk)).trans ho
theorem stay_less {T T' : Nat → Prop} {W W1 : World} (h : Stay T W W1) (k : ∀ i, T' i → T i) : Stay T' W W1 := fun i o hi ho => h i o (k i hi) ho
theorem infoRange : (Tryz.prog.info? 72).map (fun i => (i.zero, i.size, i.bytes)) = some (some (.agg #[.int .i64 0, .int .i64 0]), 2, 16) := by kernel_rfl
theorem fromB_cut (p : ByteArray) : fromB (bs p) = bs (cutL 58 p) := (bs_cutL 58 p).symm
theorem toB_yes {p : ByteArray} (h : cutF 58 p = true) : toB (bs p) = bs (cutR 58 p) := by
 rw [cutF, decide_eq_true_iff] at h
 rw [Pl.toB, if_pos h, bs_cutR]
theorem toB_no {p : ByteArray} (h : cutF 58 p = false) : toB (bs p) = bs (cutL 58 p) := by
 rw [cutF, decide_eq_false_iff_not] at h
 rw [Pl.toB, if_neg h, fromB_cut]
theorem size_cutL (x : UInt8) (s : ByteArray) : (cutL x s).size ≤ s.size := by rw [← bs_size, bs_cutL, List.length_take, ← bs_size]; omega
theorem size_cutR (x : UInt8) (s : ByteArray) : (cutR x s).size ≤ s.size := by rw [← bs_size, bs_cutR, List.length_drop, ← bs_size]; omega
theorem all_snoc (q : Bs → Bool) (pre : List Bs) (x : Bs) : (pre ++ [x]).all q = (pre.all q && q x) := by simp
structure SetAt (w : World) (v : Value) (pre : List Bs) (W : World) : Prop where
 ok : pre.all okItem = true
 few : pre.length ≤ 50
 r0 : W.heap[w.heap.size]? = some (.cells #[.slice none 0 0] 29 (0, 0))
 r1 : W.heap[w.heap.size + 1]? = some (.cells #[.nilIface] 35 (0, 0))
 own : ∃ u, W.heap[w.heap.size + 1 + 1]? = some (.cells #[u] 29 (0, 0)) ∧ W.ownsRow (w.heap.size + 8) 72 2 u pre.length (flat (pre.map rangeV))
 below : Below w.heap.size w W
structure SetMid (w : World) (v : Value) (pre : List Bs) (u : Value) (W : World) : Prop where
 r0 : W.heap[w.heap.size]? = some (.cells #[.slice none 0 0] 29 (0, 0))
 r1 : W.heap[w.heap.size + 1]? = some (.cells #[.nilIface] 35 (0, 0))
 r2 : W.heap[w.heap.size + 1 + 1]? = some (.cells #[u] 29 (0, 0))
 own : W.ownsRow (w.heap.size + 8) 72 2 u pre.length (flat (pre.map rangeV))
 below : Below w.heap.size w W
 sent : W.cell? ⟨0, 0, none⟩ = some v
theorem SetMid.then {w W W' : World} {v u : Value} {pre : List Bs} (h : SetMid w v pre u W) (hb : Below W.heap.size W W') : SetMid w v pre u W' :=
 ⟨Stay.below (T := fun _ => True) hb _ _ trivial h.r0, Stay.below (T := fun _ => True) hb _ _ trivial h.r1, Stay.below (T := fun _ => True) hb _ _ trivial h.r2, own_below h.own hb, below_then h.below hb, sent_then h.sent hb⟩
def setE (l : Bs) (v : Value) : Value := if setOk l = true then .nilIface else v
structure SetEnd (w : World) (v : Value) (pre : List Bs) (W : World) : Prop where
 bad : (pre.all okItem && decide (pre.length ≤ 50)) = false
 r0 : W.heap[w.heap.size]? = some (.cells #[.slice none 0 0] 29 (0, 0))
 r1 : W.heap[w.heap.size + 1]? = some (.cells #[v] 35 (0, 0))
 below : Below w.heap.size w W
theorem SetAt.cell {w W : World} {v : Value} {pre : List Bs} (h : SetAt w v pre W) {b : Nat} (u : Value) (h1 : w.heap.size + 1 + 1 < b) (h2 : b < w.heap.size + 8) : SetAt w v pre (W.setCell ⟨b, 0, none⟩ u) := by
 obtain ⟨x, hx, ho⟩ := h.own
 exact ⟨h.ok, h.few, setCell_other h.r0 _ (by simp; omega), setCell_other h.r1 _ (by simp; omega), ⟨x, setCell_other hx _ (by simp; omega), ownsRow_setCell_below ho h2 _⟩, h.below.setCell (by simp; omega) _⟩
theorem SetAt.put {w W : World} {v : Value} {pre : List Bs} (h : SetAt w v pre W) {b : Nat} (o : Obj) (h1 : w.heap.size + 1 + 1 < b) (h2 : b < w.heap.size + 8) (hz : w.heap.size ≤ W.heap.size) : SetAt w v pre (W.putObj b o) := by
 obtain ⟨x, hx, ho⟩ := h.own
 exact ⟨h.ok, h.few, (World.putObj_heap_other (by omega)).trans h.r0, (World.putObj_heap_other (by omega)).trans h.r1, ⟨x, (World.putObj_heap_other (by omega)).trans hx, own_putObj ho o h2⟩, below_putObj h.below _ _ (by omega) (by omega)⟩
theorem SetMid.fail {w W : World} {v u : Value} {pre pre' : List Bs} (h : SetMid w v pre u W) (hb : (pre'.all okItem && decide (pre'.length ≤ 50)) = false) :
  SetEnd w v pre' ((W.setCell ⟨w.heap.size, 0, none⟩ (.slice none 0 0)).setCell ⟨w.heap.size + 1, 0, none⟩ v).drew :=
 ⟨hb, setCell_other (one_setCell h.r0) _ (by simp), one_setCell (setCell_other h.r1 _ (by simp)), below_drew ((h.below.setCell (Nat.le_refl _) _).setCell (by simp) _)⟩
theorem own_less {w : World} {base base' : Nat} {e : TypeId} {size n : Nat} {v : Value} {xs : List Value} (h : w.ownsRow base e size v n xs) (hb : base' ≤ base) : w.ownsRow base' e size v n xs := by
 refine ⟨h.1, ?_⟩
 rcases h.2 with h2 | ⟨g, cap, cur, hv, hg, r⟩
 ·
  exact .inl h2
 ·
  exact .inr ⟨g, cap, cur, hv, Nat.le_trans hb hg, r⟩
theorem two_news (W : World) (x y : Value) (t : TypeId) : ∀ (j : Nat) (u : Value), [x, y][j]? = some u → (W.alloc (Obj.cells #[x, y] t)).cell? ((⟨W.heap.size, 0, none⟩ : Addr).add j) = some u := by
 intro j u hu
 obtain ⟨h0, h1, _, _⟩ := two_cells (World.alloc_heap_new W (Obj.cells #[x, y] t))
 rw [add_at]
 match j, hu with
 | 0, hu => rw [h0]; simpa using hu
 | 1, hu => rw [h1]; simpa using hu
theorem SetMid.next {w W3 w4 : World} {v u v' : Value} {pre : List Bs} {x : Bs} {nf nt : Int} (h : SetMid w v pre u W3) (ok : pre.all okItem = true) (few : pre.length < 50) (hx : okItem x = true) (hr : rangeV x = (nf, nt)) (hz : w.heap.size + 8 ≤ W3.heap.size)
  (hown : w4.ownsRow (w.heap.size + 8) 72 2 v' (pre.length + 1) (flat (pre.map rangeV) ++ [.int .i64 nf, .int .i64 nt])) (hg : (W3.alloc (Obj.cells #[.int .i64 nf, .int .i64 nt] 72)).grownBy w4 u.ownBlock) :
  Stay (fun k => k < w.heap.size + 8) W3 w4 ∧ w4.heap[w.heap.size + 1 + 1]? = some (.cells #[u] 29 (0, 0)) ∧ (∃ A c, v' = .slice A (pre.length + 1) c) ∧ SetAt w v (pre ++ [x]) (w4.setCell ⟨w.heap.size + 1 + 1, 0, none⟩ v') := by
 have e1 : flat (pre.map rangeV) ++ [Value.int .i64 nf, .int .i64 nt] = flat ((pre ++ [x]).map rangeV) := by
  rw [List.map_append, flat_append, List.map_singleton, hr]; rfl
 have el : pre.length + 1 = (pre ++ [x]).length := by simp
 rw [e1, el] at hown
 have hst : Stay (fun k => k < w.heap.size + 8) W3 w4 := (Stay.alloc _ _ _).trans (stay_grown hg (fun k hk e => by
  have := own_base h.own k e.symm
  omega))
 have r2 := hst _ _ (show w.heap.size + 1 + 1 < w.heap.size + 8 by omega) h.r2
 obtain ⟨A, c, hv, _⟩ := ranges_own (by simp) (by rw [← el]; omega) hown
 refine ⟨hst, r2, ⟨A, c, by rw [el]; exact hv⟩, ⟨by rw [all_snoc, ok, hx]; rfl, by rw [← el]; omega, setCell_other (hst _ _ (show w.heap.size < w.heap.size + 8 by omega) h.r0) _ (by dsimp only; omega), setCell_other (hst _ _ (show w.heap.size + 1 < w.heap.size + 8 by omega) h.r1) _ (by dsimp only; omega), ⟨v', one_setCell r2, ownsRow_setCell_below hown (by dsimp only; omega) _⟩, ?_⟩⟩
 exact (below_append (h.below.alloc (by omega) _) hg h.own (by omega) (by simp; omega)).setCell (by dsimp only; omega) _
theorem SetEnd.put {w W : World} {v : Value} {pre : List Bs} (h : SetEnd w v pre W) {b : Nat} (o : Obj) (h1 : w.heap.size + 1 + 1 < b) (hz : w.heap.size ≤ W.heap.size) : SetEnd w v pre (W.putObj b o) :=
 ⟨h.bad, (World.putObj_heap_other (by omega)).trans h.r0, (World.putObj_heap_other (by omega)).trans h.r1, below_putObj h.below _ _ (by omega) (by omega)⟩

theorem set_walk (s : ByteArray) (v : Value) (w : World) (hs : s.size ≤ 140737488351232) (hc : w.cell? ⟨0, 0, none⟩ = some v) (hv : ∃ t x, v = .iface t x) :
  Calls Tryz.prog 102 #[.string s] w fun e w' => ∃ r, e = .returned (.tuple #[r, setE (bs s) v]) ∧ w'.ownsRow w.heap.size 72 2 r (setL (bs s)).length (flat (setL (bs s))) ∧ Below w.heap.size w w' := by
 refine (callsIn_wide (n := 3)).1 ?_
 refine callsIn_of_wp_marks Tryz.func102 rfl trivial ?_ rfl
 simp only [Tryz.ntmps102, List.size_toArray, List.length_cons, List.length_nil, Nat.reduceAdd, Nat.reduceSub, Array.replicate_succ, Array.replicate_zero, List.push_toArray, List.append_toArray, List.nil_append, List.cons_append]
 gi_wp2_with fail
 refine ⟨trivial, ?_⟩
 refine (callsIn_wide.2 (splitSeq_walk _ _ _)).mono ?_
 rintro e w' ⟨rfl, rfl⟩
 gi_wp2_with fail
 obtain ⟨W1, hW1⟩ : ∃ W1, W1 = ((w.alloc (Obj.cells #[.slice none 0 0] 29)).alloc (Obj.cells #[.nilIface] 35)).alloc (Obj.cells #[.slice none 0 0] 29) := ⟨_, rfl⟩
 have z1 : W1.heap.size = w.heap.size + 3 := by rw [hW1]; simp
 have q0 : W1.heap[w.heap.size]? = some (.cells #[.slice none 0 0] 29 (0, 0)) := by
  rw [hW1]; exact (Below.heap_alloc _ _ _ (by simp; omega)).trans ((Below.heap_alloc _ _ _ (by simp)).trans (World.alloc_heap_new w _))
 have q1 : W1.heap[w.heap.size + 1]? = some (.cells #[.nilIface] 35 (0, 0)) := by
  rw [hW1]; have := World.alloc_heap_new (w.alloc (Obj.cells #[.slice none 0 0] 29)) (Obj.cells #[.nilIface] 35); rw [World.size_alloc] at this; exact (Below.heap_alloc _ _ _ (by simp)).trans this
 have q2 : W1.heap[w.heap.size + 1 + 1]? = some (.cells #[.slice none 0 0] 29 (0, 0)) := by
  rw [hW1]; have := World.alloc_heap_new ((w.alloc (Obj.cells #[.slice none 0 0] 29)).alloc (Obj.cells #[.nilIface] 35)) (Obj.cells #[.slice none 0 0] 29); rw [World.size_alloc, World.size_alloc] at this; exact this
 have qB : Below w.heap.size w W1 := by rw [hW1]; exact (((Below.refl _ _).alloc (Nat.le_refl _) _).alloc (by simp) _).alloc (by simp; omega) _
 rw [← hW1]
 clear hW1
 have z0 := splitWorld_size W1 44 s
 have hvC := Lib.hid hv
 have HC := Lib.hid hc
 clear hc hv
 refine wpIn_split 3 (pb := W1.heap.size + 1) (sb := W1.heap.size) (zb := W1.heap.size + 2) (x := 44) (s0 := s) rfl rfl (by omega) (by omega) hs (splitWorld_box W1 44 s)
  (fun pre W => SetAt w v pre W) (fun c pre W => c = .ret ∧ SetEnd w v pre W)
  (fun pre W u h => h.cell u (by omega) (by omega))
  (fun pre W o hz h => h.put o (by omega) (by omega) (by omega))
  (fun c pre W o hz h => ⟨h.1, h.2.put o (by omega) (by omega)⟩)
  (fun o => ⟨rfl, Nat.zero_le _, ((splitWorld_stay W1 44 s).trans ((Stay.alloc _ _ _).trans (Stay.alloc _ _ _))) _ _ trivial q0, ((splitWorld_stay W1 44 s).trans ((Stay.alloc _ _ _).trans (Stay.alloc _ _ _))) _ _ trivial q1, ⟨_, ((splitWorld_stay W1 44 s).trans ((Stay.alloc _ _ _).trans (Stay.alloc _ _ _))) _ _ trivial q2, World.ownsRow_nil _ _ _ _⟩,
   ((qB.trans ((splitWorld_below W1 44 s).mono (by omega))).alloc (by omega) _).alloc (by simp; omega) _⟩)
  (fun p => { tmps := #[.string s, undef, .pointer (some ⟨w.heap.size, 0, none⟩), .pointer (some ⟨w.heap.size + 1, 0, none⟩), .pointer (some ⟨w.heap.size + 1 + 1, 0, none⟩), .string p, undef, undef, undef, undef, undef, undef, undef, .string s, splitFn W1, .string p, undef, undef, undef, undef, undef, undef, undef, undef, undef, undef, undef, undef, undef, undef, undef, undef, undef, undef, undef, undef, undef, undef, undef, undef, undef, undef, undef, undef, undef, undef, undef, undef, undef, undef, undef, undef, undef, undef], defers := [] })
  ?assign ?body ?done ?stop
 case assign =>
  intro l p W K hK
  gi_wp2
  exact hK
 case body =>
  intro l pre p sx W hI hBx hpz hlt
  obtain ⟨u, r2, rO⟩ := hI.own
  have hM : SetMid w v pre u W := ⟨hI.r0, hI.r1, r2, rO, hI.below, sent_then HC.out hI.below⟩
  obtain ⟨A, c, rfl, _⟩ := ranges_own (by simp) (by have := hI.few; omega) rO
  have hfew := hI.few
  have HK := Lib.hid hI.ok
  have HM := Lib.hid hM
  have zp1 := size_cutL 58 p
  have zp2 := size_cutR 58 p
  have hgt : w.heap.size + 8 ≤ W.heap.size := by omega
  have zg : 0 < w.heap.size := World.block_lt_of_cell? w _ HC.out
  obtain ⟨ty, xv, hv⟩ := hvC.out
  subst hv
  clear hI r2 rO hM hBx q0 q1 q2 qB
  obtain ⟨i0, hi, hz0, hz1, hz2⟩ := info_parts infoRange
  gi_wp2_with fail
  refine ⟨trivial, ?_⟩
  refine (CallsIn.inRound l (callsIn_wide.2 (cut_walk p 58 _ (by omega)))).mono ?_
  rintro e w' ⟨rfl, q, rfl⟩
  have hb1 := below_draws (Below.refl W.heap.size W) q
  generalize W.drewN q = Wa at hb1
  have HW1 := Lib.hid hb1
  have HM1 := Lib.hid (HM.out.then hb1)
  clear hb1
  cases hT : cutF 58 p with
  | true =>
   have HT := Lib.hid (toB_yes hT)
   have HF := Lib.hid (fromB_cut p)
   have hlen : (pre ++ [bs p]).length = pre.length + 1 := by simp
   have HL := Lib.hid hlen
   clear hlen
   cases e1 : endOk (fromB (bs p)) with
   | false =>
    have E1 := Lib.hid (show endV (bs (cutL 58 p)) (.iface ty xv) = .tuple #[.int .i64 0, (.iface ty xv)] by rw [← HF.out]; exact endV_no e1 _)
    cases e2 : endOk (toB (bs p)) with
    | false =>
     have E2 := Lib.hid (show endV (bs (cutR 58 p)) (.iface ty xv) = .tuple #[.int .i64 0, (.iface ty xv)] by rw [← HT.out]; exact endV_no e2 _)
     gi_wp2_with fail
     refine ⟨trivial, ?_⟩
     refine (CallsIn.inRound l (callsIn_wide.2 (end_walk (cutL 58 p) (.iface ty xv) _ (by omega) HM1.out.sent ⟨_, _, rfl⟩))).mono ?_
     rintro e W2 ⟨rfl, hb2⟩
     rw [E1.out]
     have HW2 := Lib.hid (below_then HW1.out hb2)
     have HM2 := Lib.hid (HM1.out.then hb2)
     clear hb2
     gi_wp2_with fail
     refine ⟨trivial, ?_⟩
     refine (CallsIn.inRound l (callsIn_wide.2 (end_walk (cutR 58 p) (.iface ty xv) _ (by omega) HM2.out.sent ⟨_, _, rfl⟩))).mono ?_
     rintro e W3 ⟨rfl, hb3⟩
     rw [E2.out]
     have HW3 := Lib.hid (below_then HW2.out hb3)
     have HM3 := Lib.hid (HM2.out.then hb3)
     clear hb3
     have s0 := HM3.out.sent
     have k0 := cell_of_one HM3.out.r0
     have k1 := cell_of_one HM3.out.r1
     have f0 := free_of_one HM3.out.r0
     have f1 := free_of_one HM3.out.r1
     have HBad := Lib.hid (show ((pre ++ [bs p]).all okItem && decide ((pre ++ [bs p]).length ≤ 50)) = false by rw [all_snoc, okItem, e1, e2]; simp)
     gi_wp2
     refine wpIn_three (by kernel_rfl) (by decide +kernel) (by decide +kernel) (by decide +kernel) (by decide +kernel) (by decide +kernel) ?_ ?_
     all_goals
      gi_wp2
      exact ⟨(Stay.below HW3.out).trans ((Stay.setCell _ _ (by unfold splitT; dsimp only; omega)).trans (Stay.setCell _ _ (by unfold splitT; dsimp only; omega))), rfl, HM3.out.fail HBad.out⟩
    | true =>
     have E2 := Lib.hid (show endV (bs (cutR 58 p)) (.iface ty xv) = .tuple #[.int .i64 (endN (toB (bs p))), .nilIface] by rw [← HT.out]; exact endV_yes e2 _)
     gi_wp2_with fail
     refine ⟨trivial, ?_⟩
     refine (CallsIn.inRound l (callsIn_wide.2 (end_walk (cutL 58 p) (.iface ty xv) _ (by omega) HM1.out.sent ⟨_, _, rfl⟩))).mono ?_
     rintro e W2 ⟨rfl, hb2⟩
     rw [E1.out]
     have HW2 := Lib.hid (below_then HW1.out hb2)
     have HM2 := Lib.hid (HM1.out.then hb2)
     clear hb2
     gi_wp2_with fail
     refine ⟨trivial, ?_⟩
     refine (CallsIn.inRound l (callsIn_wide.2 (end_walk (cutR 58 p) (.iface ty xv) _ (by omega) HM2.out.sent ⟨_, _, rfl⟩))).mono ?_
     rintro e W3 ⟨rfl, hb3⟩
     rw [E2.out]
     have HW3 := Lib.hid (below_then HW2.out hb3)
     have HM3 := Lib.hid (HM2.out.then hb3)
     clear hb3
     have s0 := HM3.out.sent
     have k0 := cell_of_one HM3.out.r0
     have k1 := cell_of_one HM3.out.r1
     have f0 := free_of_one HM3.out.r0
     have f1 := free_of_one HM3.out.r1
     have HBad := Lib.hid (show ((pre ++ [bs p]).all okItem && decide ((pre ++ [bs p]).length ≤ 50)) = false by rw [all_snoc, okItem, e1, e2]; simp)
     gi_wp2
     refine wpIn_three (by kernel_rfl) (by decide +kernel) (by decide +kernel) (by decide +kernel) (by decide +kernel) (by decide +kernel) ?_ ?_
     all_goals
      gi_wp2
      exact ⟨(Stay.below HW3.out).trans ((Stay.setCell _ _ (by unfold splitT; dsimp only; omega)).trans (Stay.setCell _ _ (by unfold splitT; dsimp only; omega))), rfl, HM3.out.fail HBad.out⟩
   | true =>
    have E1 := Lib.hid (show endV (bs (cutL 58 p)) (.iface ty xv) = .tuple #[.int .i64 (endN (fromB (bs p))), .nilIface] by rw [← HF.out]; exact endV_yes e1 _)
    cases e2 : endOk (toB (bs p)) with
    | false =>
     have E2 := Lib.hid (show endV (bs (cutR 58 p)) (.iface ty xv) = .tuple #[.int .i64 0, (.iface ty xv)] by rw [← HT.out]; exact endV_no e2 _)
     gi_wp2_with fail
     refine ⟨trivial, ?_⟩
     refine (CallsIn.inRound l (callsIn_wide.2 (end_walk (cutL 58 p) (.iface ty xv) _ (by omega) HM1.out.sent ⟨_, _, rfl⟩))).mono ?_
     rintro e W2 ⟨rfl, hb2⟩
     rw [E1.out]
     have HW2 := Lib.hid (below_then HW1.out hb2)
     have HM2 := Lib.hid (HM1.out.then hb2)
     clear hb2
     gi_wp2_with fail
     refine ⟨trivial, ?_⟩
     refine (CallsIn.inRound l (callsIn_wide.2 (end_walk (cutR 58 p) (.iface ty xv) _ (by omega) HM2.out.sent ⟨_, _, rfl⟩))).mono ?_
     rintro e W3 ⟨rfl, hb3⟩
     rw [E2.out]
     have HW3 := Lib.hid (below_then HW2.out hb3)
     have HM3 := Lib.hid (HM2.out.then hb3)
     clear hb3
     have s0 := HM3.out.sent
     have k0 := cell_of_one HM3.out.r0
     have k1 := cell_of_one HM3.out.r1
     have f0 := free_of_one HM3.out.r0
     have f1 := free_of_one HM3.out.r1
     have HBad := Lib.hid (show ((pre ++ [bs p]).all okItem && decide ((pre ++ [bs p]).length ≤ 50)) = false by rw [all_snoc, okItem, e1, e2]; simp)
     gi_wp2
     refine wpIn_three (by kernel_rfl) (by decide +kernel) (by decide +kernel) (by decide +kernel) (by decide +kernel) (by decide +kernel) ?_ ?_
     all_goals
      gi_wp2
      exact ⟨(Stay.below HW3.out).trans ((Stay.setCell _ _ (by unfold splitT; dsimp only; omega)).trans (Stay.setCell _ _ (by unfold splitT; dsimp only; omega))), rfl, HM3.out.fail HBad.out⟩
    | true =>
     have E2 := Lib.hid (show endV (bs (cutR 58 p)) (.iface ty xv) = .tuple #[.int .i64 (endN (toB (bs p))), .nilIface] by rw [← HT.out]; exact endV_yes e2 _)
     by_cases hn : 50 ≤ pre.length
     ·
      have hn' : (50 : Int) ≤ (pre.length : Int) := by omega
      gi_wp2_with fail
      refine ⟨trivial, ?_⟩
      refine (CallsIn.inRound l (callsIn_wide.2 (end_walk (cutL 58 p) (.iface ty xv) _ (by omega) HM1.out.sent ⟨_, _, rfl⟩))).mono ?_
      rintro e W2 ⟨rfl, hb2⟩
      rw [E1.out]
      have HW2 := Lib.hid (below_then HW1.out hb2)
      have HM2 := Lib.hid (HM1.out.then hb2)
      clear hb2
      gi_wp2_with fail
      refine ⟨trivial, ?_⟩
      refine (CallsIn.inRound l (callsIn_wide.2 (end_walk (cutR 58 p) (.iface ty xv) _ (by omega) HM2.out.sent ⟨_, _, rfl⟩))).mono ?_
      rintro e W3 ⟨rfl, hb3⟩
      rw [E2.out]
      have HW3 := Lib.hid (below_then HW2.out hb3)
      have HM3 := Lib.hid (HM2.out.then hb3)
      clear hb3
      have k2 := cell_of_one HM3.out.r2
      have s0 := HM3.out.sent
      have k0 := cell_of_one HM3.out.r0
      have k1 := cell_of_one HM3.out.r1
      have f0 := free_of_one HM3.out.r0
      have f1 := free_of_one HM3.out.r1
      have HBad := Lib.hid (show ((pre ++ [bs p]).all okItem && decide ((pre ++ [bs p]).length ≤ 50)) = false by rw [HL.out, decide_eq_false (by omega), Bool.and_false])
      gi_wp2
      refine wpIn_three (by kernel_rfl) (by decide +kernel) (by decide +kernel) (by decide +kernel) (by decide +kernel) (by decide +kernel) ?_ ?_
      all_goals
       gi_wp2
       exact ⟨(Stay.below HW3.out).trans ((Stay.setCell _ _ (by unfold splitT; dsimp only; omega)).trans (Stay.setCell _ _ (by unfold splitT; dsimp only; omega))), rfl, HM3.out.fail HBad.out⟩
     ·
      have hn' : (pre.length : Int) < 50 := by omega
      gi_wp2_with fail
      refine ⟨trivial, ?_⟩
      refine (CallsIn.inRound l (callsIn_wide.2 (end_walk (cutL 58 p) (.iface ty xv) _ (by omega) HM1.out.sent ⟨_, _, rfl⟩))).mono ?_
      rintro e W2 ⟨rfl, hb2⟩
      rw [E1.out]
      have HW2 := Lib.hid (below_then HW1.out hb2)
      have HM2 := Lib.hid (HM1.out.then hb2)
      clear hb2
      gi_wp2_with fail
      refine ⟨trivial, ?_⟩
      refine (CallsIn.inRound l (callsIn_wide.2 (end_walk (cutR 58 p) (.iface ty xv) _ (by omega) HM2.out.sent ⟨_, _, rfl⟩))).mono ?_
      rintro e W3 ⟨rfl, hb3⟩
      rw [E2.out]
      have HW3 := Lib.hid (below_then HW2.out hb3)
      have HM3 := Lib.hid (HM2.out.then hb3)
      clear hb3
      have k2 := cell_of_one HM3.out.r2
      have f2 := free_of_one HM3.out.r2
      have HR := Lib.hid (show rangeV (bs p) = ((endN (fromB (bs p)) : Int), (endN (toB (bs p)) : Int)) from rfl)
      have HO := Lib.hid (show okItem (bs p) = true by rw [okItem, e1, e2]; rfl)
      have hz3 : w.heap.size + 8 ≤ W3.heap.size := Nat.le_trans hgt HW3.out.size
      generalize (endN (fromB (bs p)) : Int) = nf at *
      generalize (endN (toB (bs p)) : Int) = nt at *
      gi_wp2_with (gi_at_builtin; refine wpListIn_append_own _ rfl _ _ 29 rfl (w.heap.size + 8) 72 i0 (.agg #[.int .i64 0, .int .i64 0]) 2 16 Tryz.underlying29 hi hz0 hz1 hz2 rfl (by decide) _ _ _ rfl (HM3.out.own.alloc _) ⟨W3.heap.size, 0, none⟩ 1 1 [.int .i64 nf, .int .i64 nt] rfl rfl ?a1 ?a2 ?a3 ?a4 ?a5 ?_)
      case a1 => exact two_news _ _ _ _
      case a2 => simp [Value.oneCell']
      case a3 => unfold maxLen; omega
      case a4 => omega
      case a5 => simp; omega
      intro v' w4 hown' hgrow _
      obtain ⟨st4, r4, ⟨A', c', rfl⟩, hat⟩ := HM3.out.next HK.out (by omega) HO.out HR.out hz3 hown' hgrow
      have k4 := cell_of_one r4
      have f4 := free_of_one r4
      have ST4 := Lib.hid st4
      have HAT := Lib.hid hat
      clear st4 r4 hat hown' hgrow
      gi_wp2
      exact ⟨(Stay.below HW3.out).trans ((stay_less ST4.out (fun i hi => by unfold splitT at hi; omega)).trans (Stay.setCell _ _ (by unfold splitT; dsimp only; omega))), HAT.out⟩
  | false =>
   have HT := Lib.hid (toB_no hT)
   have HF := Lib.hid (fromB_cut p)
   have hlen : (pre ++ [bs p]).length = pre.length + 1 := by simp
   have HL := Lib.hid hlen
   clear hlen
   cases e1 : endOk (fromB (bs p)) with
   | false =>
    have E1 := Lib.hid (show endV (bs (cutL 58 p)) (.iface ty xv) = .tuple #[.int .i64 0, (.iface ty xv)] by rw [← HF.out]; exact endV_no e1 _)
    cases e2 : endOk (toB (bs p)) with
    | false =>
     have E2 := Lib.hid (show endV (bs (cutL 58 p)) (.iface ty xv) = .tuple #[.int .i64 0, (.iface ty xv)] by rw [← HT.out]; exact endV_no e2 _)
     gi_wp2_with fail
     refine ⟨trivial, ?_⟩
     refine (CallsIn.inRound l (callsIn_wide.2 (end_walk (cutL 58 p) (.iface ty xv) _ (by omega) HM1.out.sent ⟨_, _, rfl⟩))).mono ?_
     rintro e W2 ⟨rfl, hb2⟩
     rw [E1.out]
     have HW2 := Lib.hid (below_then HW1.out hb2)
     have HM2 := Lib.hid (HM1.out.then hb2)
     clear hb2
     gi_wp2_with fail
     refine ⟨trivial, ?_⟩
     refine (CallsIn.inRound l (callsIn_wide.2 (end_walk (cutL 58 p) (.iface ty xv) _ (by omega) HM2.out.sent ⟨_, _, rfl⟩))).mono ?_
     rintro e W3 ⟨rfl, hb3⟩
     rw [E2.out]
     have HW3 := Lib.hid (below_then HW2.out hb3)
     have HM3 := Lib.hid (HM2.out.then hb3)
     clear hb3
     have s0 := HM3.out.sent
     have k0 := cell_of_one HM3.out.r0
     have k1 := cell_of_one HM3.out.r1
     have f0 := free_of_one HM3.out.r0
     have f1 := free_of_one HM3.out.r1
     have HBad := Lib.hid (show ((pre ++ [bs p]).all okItem && decide ((pre ++ [bs p]).length ≤ 50)) = false by rw [all_snoc, okItem, e1, e2]; simp)
     gi_wp2
     refine wpIn_three (by kernel_rfl) (by decide +kernel) (by decide +kernel) (by decide +kernel) (by decide +kernel) (by decide +kernel) ?_ ?_
     all_goals
      gi_wp2
      exact ⟨(Stay.below HW3.out).trans ((Stay.setCell _ _ (by unfold splitT; dsimp only; omega)).trans (Stay.setCell _ _ (by unfold splitT; dsimp only; omega))), rfl, HM3.out.fail HBad.out⟩
    | true =>
     have E2 := Lib.hid (show endV (bs (cutL 58 p)) (.iface ty xv) = .tuple #[.int .i64 (endN (toB (bs p))), .nilIface] by rw [← HT.out]; exact endV_yes e2 _)
     gi_wp2_with fail
     refine ⟨trivial, ?_⟩
     refine (CallsIn.inRound l (callsIn_wide.2 (end_walk (cutL 58 p) (.iface ty xv) _ (by omega) HM1.out.sent ⟨_, _, rfl⟩))).mono ?_
     rintro e W2 ⟨rfl, hb2⟩
     rw [E1.out]
     have HW2 := Lib.hid (below_then HW1.out hb2)
     have HM2 := Lib.hid (HM1.out.then hb2)
     clear hb2
     gi_wp2_with fail
     refine ⟨trivial, ?_⟩
     refine (CallsIn.inRound l (callsIn_wide.2 (end_walk (cutL 58 p) (.iface ty xv) _ (by omega) HM2.out.sent ⟨_, _, rfl⟩))).mono ?_
     rintro e W3 ⟨rfl, hb3⟩
     rw [E2.out]
     have HW3 := Lib.hid (below_then HW2.out hb3)
     have HM3 := Lib.hid (HM2.out.then hb3)
     clear hb3
     have s0 := HM3.out.sent
     have k0 := cell_of_one HM3.out.r0
     have k1 := cell_of_one HM3.out.r1
     have f0 := free_of_one HM3.out.r0
     have f1 := free_of_one HM3.out.r1
     have HBad := Lib.hid (show ((pre ++ [bs p]).all okItem && decide ((pre ++ [bs p]).length ≤ 50)) = false by rw [all_snoc, okItem, e1, e2]; simp)
     gi_wp2
     refine wpIn_three (by kernel_rfl) (by decide +kernel) (by decide +kernel) (by decide +kernel) (by decide +kernel) (by decide +kernel) ?_ ?_
     all_goals
      gi_wp2
      exact ⟨(Stay.below HW3.out).trans ((Stay.setCell _ _ (by unfold splitT; dsimp only; omega)).trans (Stay.setCell _ _ (by unfold splitT; dsimp only; omega))), rfl, HM3.out.fail HBad.out⟩
   | true =>
    have E1 := Lib.hid (show endV (bs (cutL 58 p)) (.iface ty xv) = .tuple #[.int .i64 (endN (fromB (bs p))), .nilIface] by rw [← HF.out]; exact endV_yes e1 _)
    cases e2 : endOk (toB (bs p)) with
    | false =>
     have E2 := Lib.hid (show endV (bs (cutL 58 p)) (.iface ty xv) = .tuple #[.int .i64 0, (.iface ty xv)] by rw [← HT.out]; exact endV_no e2 _)
     gi_wp2_with fail
     refine ⟨trivial, ?_⟩
     refine (CallsIn.inRound l (callsIn_wide.2 (end_walk (cutL 58 p) (.iface ty xv) _ (by omega) HM1.out.sent ⟨_, _, rfl⟩))).mono ?_
     rintro e W2 ⟨rfl, hb2⟩
     rw [E1.out]
     have HW2 := Lib.hid (below_then HW1.out hb2)
     have HM2 := Lib.hid (HM1.out.then hb2)
     clear hb2
     gi_wp2_with fail
     refine ⟨trivial, ?_⟩
     refine (CallsIn.inRound l (callsIn_wide.2 (end_walk (cutL 58 p) (.iface ty xv) _ (by omega) HM2.out.sent ⟨_, _, rfl⟩))).mono ?_
     rintro e W3 ⟨rfl, hb3⟩
     rw [E2.out]
     have HW3 := Lib.hid (below_then HW2.out hb3)
     have HM3 := Lib.hid (HM2.out.then hb3)
     clear hb3
     have s0 := HM3.out.sent
     have k0 := cell_of_one HM3.out.r0
     have k1 := cell_of_one HM3.out.r1
     have f0 := free_of_one HM3.out.r0
     have f1 := free_of_one HM3.out.r1
     have HBad := Lib.hid (show ((pre ++ [bs p]).all okItem && decide ((pre ++ [bs p]).length ≤ 50)) = false by rw [all_snoc, okItem, e1, e2]; simp)
     gi_wp2
     refine wpIn_three (by kernel_rfl) (by decide +kernel) (by decide +kernel) (by decide +kernel) (by decide +kernel) (by decide +kernel) ?_ ?_
     all_goals
      gi_wp2
      exact ⟨(Stay.below HW3.out).trans ((Stay.setCell _ _ (by unfold splitT; dsimp only; omega)).trans (Stay.setCell _ _ (by unfold splitT; dsimp only; omega))), rfl, HM3.out.fail HBad.out⟩
    | true =>
     have E2 := Lib.hid (show endV (bs (cutL 58 p)) (.iface ty xv) = .tuple #[.int .i64 (endN (toB (bs p))), .nilIface] by rw [← HT.out]; exact endV_yes e2 _)
     by_cases hn : 50 ≤ pre.length
     ·
      have hn' : (50 : Int) ≤ (pre.length : Int) := by omega
      gi_wp2_with fail
      refine ⟨trivial, ?_⟩
      refine (CallsIn.inRound l (callsIn_wide.2 (end_walk (cutL 58 p) (.iface ty xv) _ (by omega) HM1.out.sent ⟨_, _, rfl⟩))).mono ?_
      rintro e W2 ⟨rfl, hb2⟩
      rw [E1.out]
      have HW2 := Lib.hid (below_then HW1.out hb2)
      have HM2 := Lib.hid (HM1.out.then hb2)
      clear hb2
      gi_wp2_with fail
      refine ⟨trivial, ?_⟩
      refine (CallsIn.inRound l (callsIn_wide.2 (end_walk (cutL 58 p) (.iface ty xv) _ (by omega) HM2.out.sent ⟨_, _, rfl⟩))).mono ?_
      rintro e W3 ⟨rfl, hb3⟩
      rw [E2.out]
      have HW3 := Lib.hid (below_then HW2.out hb3)
      have HM3 := Lib.hid (HM2.out.then hb3)
      clear hb3
      have k2 := cell_of_one HM3.out.r2
      have s0 := HM3.out.sent
      have k0 := cell_of_one HM3.out.r0
      have k1 := cell_of_one HM3.out.r1
      have f0 := free_of_one HM3.out.r0
      have f1 := free_of_one HM3.out.r1
      have HBad := Lib.hid (show ((pre ++ [bs p]).all okItem && decide ((pre ++ [bs p]).length ≤ 50)) = false by rw [HL.out, decide_eq_false (by omega), Bool.and_false])
      gi_wp2
      refine wpIn_three (by kernel_rfl) (by decide +kernel) (by decide +kernel) (by decide +kernel) (by decide +kernel) (by decide +kernel) ?_ ?_
      all_goals
       gi_wp2
       exact ⟨(Stay.below HW3.out).trans ((Stay.setCell _ _ (by unfold splitT; dsimp only; omega)).trans (Stay.setCell _ _ (by unfold splitT; dsimp only; omega))), rfl, HM3.out.fail HBad.out⟩
     ·
      have hn' : (pre.length : Int) < 50 := by omega
      gi_wp2_with fail
      refine ⟨trivial, ?_⟩
      refine (CallsIn.inRound l (callsIn_wide.2 (end_walk (cutL 58 p) (.iface ty xv) _ (by omega) HM1.out.sent ⟨_, _, rfl⟩))).mono ?_
      rintro e W2 ⟨rfl, hb2⟩
      rw [E1.out]
      have HW2 := Lib.hid (below_then HW1.out hb2)
      have HM2 := Lib.hid (HM1.out.then hb2)
      clear hb2
      gi_wp2_with fail
      refine ⟨trivial, ?_⟩
      refine (CallsIn.inRound l (callsIn_wide.2 (end_walk (cutL 58 p) (.iface ty xv) _ (by omega) HM2.out.sent ⟨_, _, rfl⟩))).mono ?_
      rintro e W3 ⟨rfl, hb3⟩
      rw [E2.out]
      have HW3 := Lib.hid (below_then HW2.out hb3)
      have HM3 := Lib.hid (HM2.out.then hb3)
      clear hb3
      have k2 := cell_of_one HM3.out.r2
      have f2 := free_of_one HM3.out.r2
      have HR := Lib.hid (show rangeV (bs p) = ((endN (fromB (bs p)) : Int), (endN (toB (bs p)) : Int)) from rfl)
      have HO := Lib.hid (show okItem (bs p) = true by rw [okItem, e1, e2]; rfl)
      have hz3 : w.heap.size + 8 ≤ W3.heap.size := Nat.le_trans hgt HW3.out.size
      generalize (endN (fromB (bs p)) : Int) = nf at *
      generalize (endN (toB (bs p)) : Int) = nt at *
      gi_wp2_with (gi_at_builtin; refine wpListIn_append_own _ rfl _ _ 29 rfl (w.heap.size + 8) 72 i0 (.agg #[.int .i64 0, .int .i64 0]) 2 16 Tryz.underlying29 hi hz0 hz1 hz2 rfl (by decide) _ _ _ rfl (HM3.out.own.alloc _) ⟨W3.heap.size, 0, none⟩ 1 1 [.int .i64 nf, .int .i64 nt] rfl rfl ?b1 ?b2 ?b3 ?b4 ?b5 ?_)
      case b1 => exact two_news _ _ _ _
      case b2 => simp [Value.oneCell']
      case b3 => unfold maxLen; omega
      case b4 => omega
      case b5 => simp; omega
      intro v' w4 hown' hgrow _
      obtain ⟨st4, r4, ⟨A', c', rfl⟩, hat⟩ := HM3.out.next HK.out (by omega) HO.out HR.out hz3 hown' hgrow
      have k4 := cell_of_one r4
      have f4 := free_of_one r4
      have ST4 := Lib.hid st4
      have HAT := Lib.hid hat
      clear st4 r4 hat hown' hgrow
      gi_wp2
      exact ⟨(Stay.below HW3.out).trans ((stay_less ST4.out (fun i hi => by unfold splitT at hi; omega)).trans (Stay.setCell _ _ (by unfold splitT; dsimp only; omega))), HAT.out⟩
 case done =>
  intro W hI hK
  obtain ⟨u, r2, rO⟩ := hI.own
  have hok : setOk (bs s) = true := by rw [setOk]; show ((splitB 44 (bs s)).all okItem && decide ((splitB 44 (bs s)).length ≤ 50)) = true; rw [hI.ok, decide_eq_true hI.few]; rfl
  have hL : setL (bs s) = (splitB 44 (bs s)).map rangeV := by rw [setL, if_pos hok]; rfl
  have hB := hI.below
  obtain ⟨A, c, hu, _⟩ := ranges_own (by simp) (by have := hI.few; omega) rO
  have r0 := hI.r0
  have r1 := hI.r1
  generalize (splitB 44 (bs s)).map rangeV = xs at rO hL
  have HL := Lib.hid hL
  have HOK := Lib.hid (show setE (bs s) v = .nilIface by rw [setE, if_pos hok])
  have hlx : xs.length = (splitB 44 (bs s)).length := by
   have := rO.1
   have key : ∀ l : List (Int × Int), (flat l).length = l.length * 2 := by
    intro l
    induction l with
    | nil => rfl
    | cons r rs ih => simp only [flat, List.length_cons, ih]; omega
   rw [key] at this; omega
  generalize (splitB 44 (bs s)).length = m at *
  subst hlx
  subst hu
  have k0 := cell_of_one r0
  have k1 := cell_of_one r1
  have k2 := cell_of_one r2
  have f0 := free_of_one r0
  have f1 := free_of_one r1
  have R0 := Lib.hid r0
  have R1 := Lib.hid r1
  have RO := Lib.hid rO
  have HB := Lib.hid hB
  clear r0 r1 r2 rO hB hI q0 q1 q2 qB hok hL
  gi_wp2
  have hK2 : ((W.setCell ⟨w.heap.size, 0, none⟩ (.slice A xs.length c)).setCell ⟨w.heap.size + 1, 0, none⟩ .nilIface).heap[(splitWorld W1 44 s).heap.size]? = some (.deferred (some [])) := setCell_other (setCell_other hK _ (by dsimp only; omega)) _ (by dsimp only; omega)
  have c2 : (((W.setCell ⟨w.heap.size, 0, none⟩ (.slice A xs.length c)).setCell ⟨w.heap.size + 1, 0, none⟩ .nilIface).putObj (splitWorld W1 44 s).heap.size (.deferred none)).cell? ⟨w.heap.size, 0, none⟩ = some (.slice A xs.length c) :=
   cell_of_one ((World.putObj_heap_other (by omega)).trans (setCell_other (one_setCell R0.out) _ (by simp)))
  have c3 : (((W.setCell ⟨w.heap.size, 0, none⟩ (.slice A xs.length c)).setCell ⟨w.heap.size + 1, 0, none⟩ .nilIface).putObj (splitWorld W1 44 s).heap.size (.deferred none)).cell? ⟨w.heap.size + 1, 0, none⟩ = some .nilIface :=
   cell_of_one ((World.putObj_heap_other (by omega)).trans (one_setCell (setCell_other R1.out _ (by simp))))
  refine ⟨by simp, .inl ⟨_, _, rfl, run_takeDeferred hK2, ?_⟩⟩
  refine ⟨.tuple #[.slice A xs.length c, .nilIface], by simp [results, Tryz.results102, go_sem, c2, c3], ?_⟩
  refine ⟨_, by rw [HOK.out], ?_, ?_⟩
  ·
   rw [HL.out]
   exact own_putObj (ownsRow_setCell_below (ownsRow_setCell_below RO.out (by dsimp only; omega) _) (by dsimp only; omega) _) _ (by omega) |> fun h => own_less h (by omega)
  ·
   exact below_putObj ((HB.out.setCell (Nat.le_refl _) _).setCell (by simp) _) _ _ (by omega) (by simp; have := HB.out.size; omega)
 case stop =>
  rintro c pre W hpre ⟨rfl, hE⟩ hK
  have hok : setOk (bs s) = false := set_fails hpre hE.bad
  have hL : setL (bs s) = [] := by rw [setL, hok]; rfl
  have HL := Lib.hid hL
  have HOK := Lib.hid (show setE (bs s) v = v by rw [setE, hok]; rfl)
  clear hL hok
  gi_wp2
  have c2 : (W.putObj (splitWorld W1 44 s).heap.size (.deferred none)).cell? ⟨w.heap.size, 0, none⟩ = some (.slice none 0 0) :=
   cell_of_one ((World.putObj_heap_other (by omega)).trans hE.r0)
  have c3 : (W.putObj (splitWorld W1 44 s).heap.size (.deferred none)).cell? ⟨w.heap.size + 1, 0, none⟩ = some v :=
   cell_of_one ((World.putObj_heap_other (by omega)).trans hE.r1)
  refine ⟨by simp, .inl ⟨_, _, rfl, run_takeDeferred hK, ?_⟩⟩
  refine ⟨.tuple #[.slice none 0 0, v], by simp [results, Tryz.results102, go_sem, c2, c3], ?_⟩
  refine ⟨_, by rw [HOK.out], ?_, below_putObj hE.below _ _ (by omega) (by have := hE.below.size; omega)⟩
  rw [HL.out]
  exact World.ownsRow_nil _ _ _ _
open Go.RowKit Go.Shelf
open Pl (Bs)
attribute [local go_sem] Oper.semAt_some
def smallB (c : UInt8) : UInt8 := if 65 ≤ c.toNat ∧ c.toNat ≤ 90 then c + 32 else c
def encB (c : UInt8) : Value := .int .u8 (c.toNat : Int)
def KeepsMarked (W W' : World) : Prop := ∀ (k : Nat) (cs : Array Value) (t : TypeId) (fr : Nat × Nat), fr ≠ (0, 0) → W.heap[k]? = some (.cells cs t fr) → W'.heap[k]? = some (.cells cs t fr)
theorem KeepsMarked.refl (W : World) : KeepsMarked W W := fun _ _ _ _ _ h => h
theorem KeepsMarked.trans {A B C : World} (h : KeepsMarked A B) (k : KeepsMarked B C) : KeepsMarked A C := fun i cs t fr hf ho => k i cs t fr hf (h i cs t fr hf ho)
theorem KeepsMarked.cell {W W' : World} (h : KeepsMarked W W') {k : Nat} {cs : Array Value} {t : TypeId} {fr : Nat × Nat} (hf : fr ≠ (0, 0)) (ho : W.heap[k]? = some (.cells cs t fr)) {j : Nat} {v : Value} (hc : W.cell? ⟨k, j, none⟩ = some v) : W'.cell? ⟨k, j, none⟩ = some v := by
 have e := h k cs t fr hf ho
 rw [← hc]
 exact World.cell?_of_block (w := W) (a := ⟨k, j, none⟩) (e.trans ho.symm)
theorem bytes_mark (w : World) (s : ByteArray) : ∃ (w1 : World) (cap : Nat) (cs : Array Value) (fr : Nat × Nat), (convert 9 46 (.string s)).run Tryz.prog w = .ok (.slice (some ⟨w.heap.size, 0, none⟩) s.size cap) w1 ∧ Below w.heap.size w w1 ∧ w1.heap[w.heap.size]? = some (.cells cs 5 fr) ∧ fr ≠ (0, 0) ∧ (∃ W, w1 = W.alloc (.cells cs 5 fr) ∧ W = w.drew) ∧ ∀ j (hj : j < s.size), w1.cell? ⟨w.heap.size, j, none⟩ = some (.int .u8 (s[j].toNat : Int)) := by
 refine ⟨_, _, _, _, run_bytes_of_string w _ _ 5 s Tryz.underlying9 Tryz.underlying46 Tryz.underlying5, ?_, ?_, ?_, ⟨_, rfl, rfl⟩, ?_⟩
 ·
  exact (below_drew (Below.refl _ _)).alloc (Nat.le_refl _) _
 ·
  exact World.alloc_heap_new w.drew _
 ·
  intro e; simp at e
 ·
  intro j hj
  exact (World.cell?_alloc_mark w.drew _ _ _ j).trans (bytesRow_at s _ j hj)
theorem small1_in (F : Fence) (n : Nat) (h6 : F.fn 170) (hro : F.round = none) (hn : 1 ≤ n) (l Bn : Nat) (s : ByteArray) (J Jx : List UInt8 → World → Prop) (W : World) (hJ : AbidesFrom W.heap.size J)
  (hY : ∀ pre x W, J pre W → pre.length < s.size → YieldAt F (n - 1) Tryz.prog l #[encB x] W fun e W' =>
   (e = .returned (.bool true) ∧ J (pre ++ [x]) W' ∧ KeepsMarked W W') ∨ (e = .returned (.bool false) ∧ Jx (pre ++ [x]) W'))
  (hBn : W.cell? ⟨Bn, 0, none⟩ = some (.string s)) (hs : s.size ≤ 140737488351232) (h0 : J [] W) :
  CallsIn F n Tryz.prog 170 #[.func (.yield l) #[] #[], .pointer (some ⟨Bn, 0, none⟩)] W fun e W' => (∃ v, e = .returned v) ∧
   ((∃ ys, ys = (bs s).map smallB ∧ J ys W') ∨ (∃ pre, pre <+: (bs s).map smallB ∧ Jx pre W')) := by
 obtain ⟨w1, cap, cs, fr, hcv, hB, hcs, hfr, hw1, hb⟩ := bytes_mark W s
 have hJ1 : J [] w1 := hJ [] W w1 none h0 ⟨hB.os, hB.tape, hB.output, hB.size, fun i hi _ => hB.block i hi⟩ (fun r e => by cases e)
 have zl : ((bs s).map smallB).length = s.size := by rw [List.length_map, bs_size]
 have HY := Lib.hid hY
 have HBY := Lib.hid hb
 have HFR := Lib.hid hfr
 have ZL := Lib.hid zl
 clear hY hb hfr hw1 zl hJ hB
 refine callsIn_of_wp Tryz.func170 rfl h6 ?_ hro
 simp only [Tryz.ntmps170, List.size_toArray, List.length_cons, List.length_nil, Nat.reduceAdd, Nat.reduceSub, Array.replicate_succ, Array.replicate_zero, List.push_toArray, List.append_toArray, List.nil_append, List.cons_append]
 gi_wp2
 gi_loopw [8] (fun i wr => ∃ k : Nat, k ≤ s.size ∧ i = .int .i64 k ∧ Hid (J (((bs s).map smallB).take k) wr) ∧ wr.heap[W.heap.size]? = some (.cells cs 5 fr)) (fun i _ => s.size - (intOf i).toNat)
 case atStart => exact ⟨0, Nat.zero_le _, rfl, Lib.hid hJ1, hcs⟩
 case round =>
  obtain ⟨k, hk, rfl, HJ, hM⟩ := hrel
  by_cases hlt : k < s.size
  ·
   have c0 : wr.cell? ⟨W.heap.size, k, none⟩ = some (.int .u8 (s[k].toNat : Int)) := (World.cell?_of_block (w := w1) (a := ⟨W.heap.size, k, none⟩) (hM.trans hcs.symm)).trans (HBY.out k hlt)
   have hT : ((bs s).map smallB).take (k + 1) = ((bs s).map smallB).take k ++ [smallB s[k]] := by
    rw [List.take_succ_eq_append_getElem (by rw [ZL.out]; exact hlt), List.getElem_map, at_bs s k hlt]
   have HT := Lib.hid hT
   clear hT
   obtain ⟨fn, tmps, assign, body, hy, hR⟩ := HY.out _ (smallB s[k]) wr HJ.out (by rw [List.length_take, ZL.out]; omega)
   by_cases hcap : 65 ≤ s[k].toNat ∧ s[k].toNat ≤ 90
   ·
    obtain ⟨b1, b2⟩ := hcap
    have d1 : (65 : Int) ≤ (s[k].toNat : Int) := by omega
    have d2 : (s[k].toNat : Int) ≤ 90 := by omega
    ·
     skip
     have hx : encB (smallB s[k]) = .int .u8 ((s[k].toNat : Int) + 32) := by rw [encB, smallB, if_pos ⟨b1, b2⟩, UInt8.toNat_add]; congr 1; show (((s[k].toNat + 32) % 256 : Nat) : Int) = _; omega
     rw [hx] at hy
     clear hx
     have HR := Lib.hid hR
     gi_wp2
     refine HR.out.mono ?_
     rintro e W3 (⟨rfl, hJ3, hk3⟩ | ⟨rfl, hJx3⟩)
     ·
      have HJ3 := Lib.hid hJ3
      have HM3 := Lib.hid (hk3 _ _ _ _ HFR.out hM)
      clear hJ3 hk3
      gi_wp2
      go_roundw
      case rel => exact ⟨k + 1, by omega, by go_num, by rw [HT.out]; exact HJ3, HM3.out⟩
      case measure => simp [intOf]; omega
     ·
      gi_wp2
      refine bodyPost_ret (results_none rfl _ _ _) rfl ?_
      exact ⟨⟨_, rfl⟩, .inr ⟨_, by rw [← HT.out]; exact List.take_prefix _ _, hJx3⟩⟩
   ·
    have hc2 : s[k].toNat < 65 ∨ 90 < s[k].toNat := by omega
    ·
     skip
     have d1 : (s[k].toNat : Int) < 65 ∨ 90 < (s[k].toNat : Int) := by omega
     by_cases d2 : (s[k].toNat : Int) < 65
     ·
      have hx : encB (smallB s[k]) = .int .u8 (s[k].toNat : Int) := by rw [encB, smallB, if_neg hcap]
      rw [hx] at hy
      clear hx
      have HR := Lib.hid hR
      gi_wp2
      refine HR.out.mono ?_
      rintro e W3 (⟨rfl, hJ3, hk3⟩ | ⟨rfl, hJx3⟩)
      ·
       have HJ3 := Lib.hid hJ3
       have HM3 := Lib.hid (hk3 _ _ _ _ HFR.out hM)
       clear hJ3 hk3
       gi_wp2
       go_roundw
       case rel => exact ⟨k + 1, by omega, by go_num, by rw [HT.out]; exact HJ3, HM3.out⟩
       case measure => simp [intOf]; omega
      ·
       gi_wp2
       refine bodyPost_ret (results_none rfl _ _ _) rfl ?_
       exact ⟨⟨_, rfl⟩, .inr ⟨_, by rw [← HT.out]; exact List.take_prefix _ _, hJx3⟩⟩
     ·
      have d3 : 90 < (s[k].toNat : Int) := by omega
      have d4 : (65 : Int) ≤ (s[k].toNat : Int) := by omega
      have hx : encB (smallB s[k]) = .int .u8 (s[k].toNat : Int) := by rw [encB, smallB, if_neg hcap]
      rw [hx] at hy
      clear hx
      have HR := Lib.hid hR
      gi_wp2
      refine HR.out.mono ?_
      rintro e W3 (⟨rfl, hJ3, hk3⟩ | ⟨rfl, hJx3⟩)
      ·
       have HJ3 := Lib.hid hJ3
       have HM3 := Lib.hid (hk3 _ _ _ _ HFR.out hM)
       clear hJ3 hk3
       gi_wp2
       go_roundw
       case rel => exact ⟨k + 1, by omega, by go_num, by rw [HT.out]; exact HJ3, HM3.out⟩
       case measure => simp [intOf]; omega
      ·
       gi_wp2
       refine bodyPost_ret (results_none rfl _ _ _) rfl ?_
       exact ⟨⟨_, rfl⟩, .inr ⟨_, by rw [← HT.out]; exact List.take_prefix _ _, hJx3⟩⟩
  ·
   obtain rfl : k = s.size := by omega
   have hT : ((bs s).map smallB).take s.size = (bs s).map smallB := List.take_of_length_le (by rw [ZL.out]; omega)
   rw [hT] at HJ
   gi_wp2
   go_end0
   exact ⟨⟨_, rfl⟩, .inl ⟨_, rfl, HJ.out⟩⟩
open Go.RowKit Go.Shelf
open Pl (Bs)
attribute [local go_sem] Oper.semAt_some
theorem small_stops (F : Fence) (n : Nat) (h6 : F.fn 170) (hro : F.round = none) (hn : 1 ≤ n) (Bn : Nat) (s : ByteArray) (hs : s.size ≤ 140737488351232) (w : World) (hBn : Bn < w.heap.size) (hc : w.cell? ⟨Bn, 0, none⟩ = some (.string s)) :
  SeqStopsK F n Tryz.prog 170 #[.pointer (some ⟨Bn, 0, none⟩)] (fun x : UInt8 => #[encB x]) KeepsMarked (fun ys => ys = (bs s).map smallB) (fun pre => pre <+: (bs s).map smallB) s.size w := fun l J Jx W hW hJ _ hY h0 =>
 small1_in F n h6 hro hn l Bn s J Jx W hJ hY ((hW.cell (p := ⟨Bn, 0, none⟩) hBn).trans hc) hs h0
theorem marked_setCell {W : World} {b : Nat} {v u : Value} {t : TypeId} (h : W.heap[b]? = some (.cells #[v] t (0, 0))) : KeepsMarked W (W.setCell ⟨b, 0, none⟩ u) := fun k cs t' fr hf ho => setCell_other ho _ (fun e => by
 dsimp only at e
 subst e
 rw [h] at ho; cases ho; exact hf rfl)
theorem marked_alloc (W : World) (o : Obj) : KeepsMarked W (W.alloc o) := fun k cs t fr _ ho => (Below.heap_alloc W o k (Array.getElem?_eq_some_iff.1 ho).1).trans ho
theorem marked_grown {W W1 : World} {base n size : Nat} {e : TypeId} {v : Value} {xs : List Value} (h : W.ownsRow base e size v n xs) (hg : W.grownBy W1 v.ownBlock) : KeepsMarked W W1 := fun k cs t fr hf ho =>
 (hg.block k (Array.getElem?_eq_some_iff.1 ho).1 (fun e' => by
  rcases h.2 with ⟨rfl, _⟩ | ⟨g, cap, cur, rfl, _, hgb, _⟩
  ·
   simp [Value.ownBlock] at e'
  ·
   have : k = g := by simpa [Value.ownBlock] using e'
   subst this; rw [hgb] at ho; cases ho; exact hf rfl)).trans ho
theorem marked_put (W : World) (l : Nat) (o o' : Obj) (h : W.heap[l]? = some o) (hc : o.isCells = false) : KeepsMarked W (W.putObj l o') := fun k cs t fr hf ho => (World.putObj_heap_other (fun e => by
 subst e
 rw [h] at ho; cases ho; simp [Obj.isCells] at hc)).trans ho
theorem others_grown {W W1 : World} {base n size : Nat} {e : TypeId} {v : Value} {xs : List Value} (h : W.ownsRow base e size v n xs) (hg : W.grownBy W1 v.ownBlock) : KeepsOthers W W1 :=
 KeepsOthers.of_grownBy hg (fun j o hj ho => by
  rcases h.2 with ⟨rfl, _⟩ | ⟨g, cap, cur, rfl, _, hgb, _⟩
  ·
   simp [Value.ownBlock] at hj
  ·
   have : g = j := by simpa [Value.ownBlock] using hj
   subst this; rw [hgb] at ho; cases ho; rfl)
theorem own_turn {W W1 : World} {base n size : Nat} {e : TypeId} {v : Value} {xs : List Value} {row : Option Nat} (h : W.ownsRow base e size v n xs) (hg : W.grownBy W1 row) (hr : ∀ r, row = some r → ∃ o : Obj, W.heap[r]? = some o ∧ o.isCells = false) : W1.ownsRow base e size v n xs :=
 h.kept hg (by
  rcases h.2 with ⟨rfl, _⟩ | ⟨g, cap, cur, rfl, _, hgb, _⟩
  ·
   exact .inl rfl
  ·
   refine .inr (fun e' => ?_)
   obtain ⟨o, ho, hc⟩ := hr g (by rw [← e']; rfl)
   rw [hgb] at ho; cases ho; simp [Obj.isCells] at hc)
theorem box_turn {W W1 : World} {b : Nat} {cs : Array Value} {t : TypeId} {fr : Nat × Nat} {row : Option Nat} (h : W.heap[b]? = some (.cells cs t fr)) (hg : W.grownBy W1 row) (hr : ∀ r, row = some r → ∃ o : Obj, W.heap[r]? = some o ∧ o.isCells = false) : W1.heap[b]? = some (.cells cs t fr) :=
 (hg.block b (Array.getElem?_eq_some_iff.1 h).1 (fun e => by
  obtain ⟨o, ho, hc⟩ := hr b e.symm
  rw [h] at ho; cases ho; simp [Obj.isCells] at hc)).trans h
theorem own_shape {w : World} {base n size : Nat} {e : TypeId} {v : Value} {xs : List Value} (h : w.ownsRow base e size v n xs) : ∃ A c, v = .slice A n c := by
 rcases h.2 with ⟨rfl, rfl⟩ | ⟨g, cap, cur, rfl, _⟩
 ·
  exact ⟨_, _, rfl⟩
 ·
  exact ⟨_, _, rfl⟩
theorem own_less' {w : World} {base base' : Nat} {e : TypeId} {size n : Nat} {v : Value} {xs : List Value} (h : w.ownsRow base e size v n xs) (hb : base' ≤ base) : w.ownsRow base' e size v n xs := by
 refine ⟨h.1, ?_⟩
 rcases h.2 with h2 | ⟨g, cap, cur, hv, hg, r⟩
 ·
  exact .inl h2
 ·
  exact .inr ⟨g, cap, cur, hv, Nat.le_trans hb hg, r⟩
structure ColAt (w : World) (pre : List UInt8) (W : World) : Prop where
 own : ∃ u, W.heap[w.heap.size]? = some (.cells #[u] 46 (0, 0)) ∧ W.ownsRow (w.heap.size + 1) 5 1 u pre.length (pre.map encB)
 below : Below w.heap.size w W
theorem infoByte : (Tryz.prog.info? 5).map (fun i => (i.zero, i.size, i.bytes)) = some (some (.int .u8 0), 1, 1) := by kernel_rfl
theorem appendSeq_walk (Bn : Nat) (s : ByteArray) (hs : s.size ≤ 1000000) (w : World) (hBn : Bn < w.heap.size) (hc : w.cell? ⟨Bn, 0, none⟩ = some (.string s)) :
  Calls Tryz.prog 178 #[.slice none 0 0, .func (.func 170) #[] #[.pointer (some ⟨Bn, 0, none⟩)]] w fun e w' => ∃ v, e = .returned v ∧ w'.ownsRow w.heap.size 5 1 v s.size (((bs s).map smallB).map encB) ∧ Below w.heap.size w w' := by
 refine (callsIn_wide (n := 3)).1 ?_
 refine callsIn_of_wp_marks Tryz.func178 rfl trivial ?_ rfl
 simp only [Tryz.ntmps178, List.size_toArray, List.length_cons, List.length_nil, Nat.reduceAdd, Nat.reduceSub, Array.replicate_succ, Array.replicate_zero, List.push_toArray, List.append_toArray, List.nil_append, List.cons_append]
 gi_wp2_with fail
 obtain ⟨W1, hW1⟩ : ∃ W1, W1 = w.alloc (Obj.cells #[.slice none 0 0] 46) := ⟨_, rfl⟩
 have z1 : W1.heap.size = w.heap.size + 1 := by rw [hW1]; simp
 have q0 : W1.heap[w.heap.size]? = some (.cells #[.slice none 0 0] 46 (0, 0)) := by rw [hW1]; exact World.alloc_heap_new w _
 have qB : Below w.heap.size w W1 := by rw [hW1]; exact (Below.refl _ _).alloc (Nat.le_refl _) _
 rw [← hW1]
 clear hW1
 refine wpIn_rangeFunc_ownF (n := 3) (gf := 170) (lb := #[.pointer (some ⟨Bn, 0, none⟩)]) rfl (by decide) rfl trivial (enters_of Tryz.func170 (by kernel_rfl) rfl)
  (small_stops Fence.wide (3 - 1) trivial rfl (by decide) Bn s (by omega) W1 (by omega) ((qB.cell (p := ⟨Bn, 0, none⟩) hBn).trans hc)) KeepsMarked.trans (fun W l o o' _ h hc _ => marked_put W l o o' h hc) (Below.refl _ _) (fun _ => rfl)
  (fun pre W => ColAt w pre W) (fun _ _ _ => False)
  (fun pre A B row h hg hr => by
   obtain ⟨u, hb, ho⟩ := h.own
   have hr' : ∀ r, row = some r → ∃ o : Obj, A.heap[r]? = some o ∧ o.isCells = false := fun r e => (hr r e).2
   exact ⟨⟨u, box_turn hb hg hr', own_turn ho hg hr'⟩, h.below.grown hg h.below.size (fun k e => by have := (hr k e).1; omega)⟩)
  (fun _ _ _ _ _ h _ _ => h)
  ⟨⟨_, q0, World.ownsRow_nil _ _ _ _⟩, qB⟩
  (fun x => { tmps := #[.slice none 0 0, .func (.func 170) #[] #[.pointer (some ⟨Bn, 0, none⟩)], .pointer (some ⟨w.heap.size, 0, none⟩), undef, .slice none 0 0, encB x, .func (.func 170) #[] #[.pointer (some ⟨Bn, 0, none⟩)], encB x, undef, undef, undef, undef, undef], defers := [] })
  ?assign ?body ?done ?stop
 case assign =>
  intro l x W K hK
  gi_wp2
  exact hK
 case body =>
  intro l pre x W hI hlt
  obtain ⟨i0, hi, hz0, hz1, hz2⟩ := info_parts infoByte
  obtain ⟨u, hb, ho⟩ := hI.own
  obtain ⟨A, c, rfl⟩ := own_shape ho
  have k0 := cell_of_one hb
  have f0 := free_of_one hb
  have hz := hI.below.size
  have hgt : w.heap.size + 1 ≤ W.heap.size := (Array.getElem?_eq_some_iff.1 hb).1
  have HB := Lib.hid hb
  have HO := Lib.hid ho
  have HW := Lib.hid hI.below
  clear hb ho hI q0 qB
  have hx : encB x = .int .u8 (x.toNat : Int) := rfl
  gi_wp2_with (gi_at_builtin; refine wpListIn_append_own _ rfl _ _ 46 rfl (w.heap.size + 1) 5 i0 (.int .u8 0) 1 1 Tryz.underlying46 hi hz0 hz1 hz2 rfl (by decide) _ _ _ rfl (HO.out.alloc _) ⟨W.heap.size, 0, none⟩ 1 1 [.int .u8 (x.toNat : Int)] rfl rfl ?c1 ?c2 ?c3 ?c4 ?c5 ?_)
  case c1 => exact cell_one_new W (.int .u8 (x.toNat : Int)) 5
  case c2 => simp [Value.oneCell']
  case c3 => unfold maxLen; omega
  case c4 => omega
  case c5 => simp; omega
  intro v' w4 hown' hgrow _
  obtain ⟨A', c', rfl⟩ := own_shape hown'
  have hoA := HO.out.alloc (.cells #[.int .u8 (x.toNat : Int)] 5)
  have hb4 : w4.heap[w.heap.size]? = some (.cells #[.slice A pre.length c] 46 (0, 0)) := (hgrow.block _ (by simp; omega) (fun e => by have := own_base HO.out _ e.symm; omega)).trans ((Below.heap_alloc _ _ _ (by omega)).trans HB.out)
  have hB4 := below_append (HW.out.alloc hz (.cells #[.int .u8 (x.toNat : Int)] 5)) hgrow hoA (by omega) (by simp; omega)
  have k4 := cell_of_one hb4
  have f4 := free_of_one hb4
  have m4 := (marked_alloc W (.cells #[.int .u8 (x.toNat : Int)] 5)).trans ((marked_grown hoA hgrow).trans (marked_setCell (u := .slice A' (pre.length + 1) c') hb4))
  have o4 := (KeepsOthers.alloc W (.cells #[.int .u8 (x.toNat : Int)] 5)).trans ((others_grown hoA hgrow).trans (KeepsOthers.setCell w4 ⟨w.heap.size, 0, none⟩ (.slice A' (pre.length + 1) c')))
  have hat : ColAt w (pre ++ [x]) (w4.setCell ⟨w.heap.size, 0, none⟩ (.slice A' (pre.length + 1) c')) :=
   ⟨⟨_, one_setCell hb4, by rw [List.length_append, List.map_append]; exact ownsRow_setCell_below hown' (by dsimp only; omega) _⟩, hB4.setCell (Nat.le_refl _) _⟩
  have M4 := Lib.hid m4
  have O4 := Lib.hid o4
  have HAT := Lib.hid hat
  clear m4 o4 hat hB4 hb4 hoA hown' hgrow
  gi_wp2
  exact ⟨O4.out, M4.out, HAT.out⟩
 case done =>
  rintro D ys W hD rfl hI hK
  obtain ⟨u, hb, ho⟩ := hI.own
  obtain ⟨A, c, rfl⟩ := own_shape ho
  have k0 := cell_of_one hb
  have HO := Lib.hid ho
  have HW := Lib.hid hI.below
  clear hb ho hI q0 qB
  gi_wp2
  refine ⟨by simp, .inl ⟨_, _, rfl, run_takeDeferred hK, ?_⟩⟩
  refine ⟨_, results_tmp rfl _ _ _, _, rfl, ?_, ?_⟩
  ·
   have h := own_turn HO.out (grownBy_putObj' W D (.deferred none)) (fun r e => by cases e; exact ⟨_, hK, rfl⟩)
   have hl : ((bs s).map smallB).length = s.size := by rw [List.length_map, bs_size]
   rw [hl] at h
   exact own_less' h (by omega)
  ·
   exact below_putObj HW.out _ _ (by omega) (by have := HW.out.size; omega)
 case stop =>
  rintro D c pre W _ _ h _
  exact h.elim
open Go.RowKit Go.Shelf
open Pl (Bs)
def smallS (s : ByteArray) : ByteArray := ⟨((bs s).map smallB).toArray⟩
theorem bs_small (s : ByteArray) : bs (smallS s) = (bs s).map smallB := by simp [bs, smallS]
theorem own_string {w : World} {base n : Nat} {v : Value} {l : Bs} (hl : l.length = n) (h : w.ownsRow base 5 1 v n (l.map encB)) : (convert 46 9 v).run Tryz.prog w = .ok (.string ⟨l.toArray⟩) w := by
 subst hl
 rcases h.2 with ⟨rfl, h0⟩ | ⟨g, cap, cur, rfl, hb, hh, h1, h2, h3, h4⟩
 ·
  obtain rfl : l = [] := List.eq_nil_of_length_eq_zero h0
  rw [run_convert_bytes_string w _ _ 5 none 0 0 Tryz.underlying46 Tryz.underlying5 Tryz.underlying9]
  first
  | rfl
  | (simp [Conv.bytesToString]; done)
  | (simp [Conv.bytesToString]; rfl)
 ·
  refine run_convert_bytes_back w _ _ 5 _ cap l Tryz.underlying46 Tryz.underlying5 Tryz.underlying9 (fun j hj => ?_)
  exact h.cells (g := g) rfl j (encB l[j]) (by rw [List.getElem?_map, List.getElem?_eq_getElem hj]; rfl)
theorem collect_walk (Bn : Nat) (s : ByteArray) (hs : s.size ≤ 1000000) (w : World) (hBn : Bn < w.heap.size) (hc : w.cell? ⟨Bn, 0, none⟩ = some (.string s)) :
  Calls Tryz.prog 169 #[.func (.func 170) #[] #[.pointer (some ⟨Bn, 0, none⟩)]] w fun e w' => ∃ v, e = .returned v ∧ w'.ownsRow w.heap.size 5 1 v s.size (((bs s).map smallB).map encB) ∧ Below w.heap.size w w' := by
 have HA := Lib.hid (appendSeq_walk Bn s hs w hBn hc)
 clear hc
 go_enter Tryz.func169, Tryz.ntmps169
 go_wp2_with fail
 refine HA.out.mono ?_
 rintro e w' ⟨v, rfl, ho, hB⟩
 have HO := Lib.hid ho
 have HB := Lib.hid hB
 clear ho hB
 go_wp2
 go_ret
 exact ⟨v, rfl, HO.out, HB.out⟩
theorem small_walk (s : ByteArray) (hs : s.size ≤ 1000000) (w : World) :
  Calls Tryz.prog 156 #[.string s] w fun e w' => e = .returned (.string (smallS s)) ∧ Below w.heap.size w w' := by
 generalize h1 : w.alloc (Obj.cells #[.string s] 9) = w1
 have hB1 : Below w.heap.size w w1 := by rw [← h1]; exact (Below.refl _ _).alloc (Nat.le_refl _) _
 have hb : w1.heap[w.heap.size]? = some (.cells #[.string s] 9 (0, 0)) := by rw [← h1]; exact World.alloc_heap_new w _
 have HC := Lib.hid (collect_walk w.heap.size s hs w1 (Array.getElem?_eq_some_iff.1 hb).1 (cell_of_one hb))
 have HB1 := Lib.hid hB1
 clear hB1 hb
 go_enter Tryz.func156, Tryz.ntmps156
 go_wp2_with fail
 try rw [h1]
 refine HC.out.mono ?_
 rintro e w' ⟨v, rfl, ho, hB⟩
 have hcv := own_string (l := (bs s).map smallB) (by rw [List.length_map, bs_size]) ho
 obtain ⟨A, c, rfl⟩ := own_shape ho
 have HB := Lib.hid (below_then HB1.out hB)
 clear ho hB
 have hcv' : (convert 46 9 (.slice A s.size c)).run Tryz.prog w' = .ok (.string (smallS s)) w' := hcv
 clear hcv
 go_wp2
 go_ret
 exact ⟨rfl, HB.out⟩
def sameS (a b : ByteArray) : Bool := decide ((bs a).map smallB = (bs b).map smallB)
theorem sameT_walk (a b : ByteArray) (ha : a.size ≤ 1000000) (hb : b.size ≤ 1000000) (w : World) :
  Calls Tryz.prog 145 #[.string a, .string b] w fun e w' => e = .returned (.bool (sameS a b)) ∧ Below w.heap.size w w' := by
 have hv : ((smallS a).toList == (smallS b).toList) = sameS a b := by
  rw [Lib.toList_data, Lib.toList_data, show (smallS a).data.toList = (bs a).map smallB from bs_small a, show (smallS b).data.toList = (bs b).map smallB from bs_small b]
  rw [Bool.eq_iff_iff, beq_iff_eq, sameS, decide_eq_true_iff]
 have HV := Lib.hid hv
 clear hv
 go_enter Tryz.func145, Tryz.ntmps145
 go_wp2_with fail
 refine (small_walk a ha _).mono ?_
 rintro e w1 ⟨rfl, hB1⟩
 have HB1 := Lib.hid hB1
 clear hB1
 go_wp2_with fail
 refine (small_walk b hb _).mono ?_
 rintro e w2 ⟨rfl, hB2⟩
 have HB2 := Lib.hid (below_then HB1.out hB2)
 clear hB2
 go_wp2
 go_ret
 exact ⟨by rw [← HV.out]; rfl, HB2.out⟩
end Go.Proofs.YtgmfhldfdnnafaaGreatDoor
