/- The walk of seqs.Set. -/
import Derived.Test.YtfaojafhamhncaaDoorSplitMore
import Derived.Test.YtfaojafhamhncaaDoorPlSet
import Derived.Test.YtfaojafhamhncaaDoorEnd
import Derived.Test.YtfaojafhamhncaaDoorThree
namespace Go.Proofs.YtfaojafhamhncaaDoor
open Go.RowKit Go.Shelf
open Pl (idxB Bs splitB endOk endN fromB toB okItem rangeV items setOk setL set_fails)
attribute [local go_sem] Oper.semAt_some
set_option linter.unusedSimpArgs false
set_option linter.unusedVariables false
/-- the cells of a list of ranges -/
def flat : List (Int × Int) → List Value
  | [] => []
  | r :: rs => .int .i64 r.1 :: .int .i64 r.2 :: flat rs
theorem flat_append (a b : List (Int × Int)) : flat (a ++ b) = flat a ++ flat b := by
  induction a with
  | nil => rfl
  | cons r rs ih => simp [flat, ih]
theorem flat_at : ∀ (xs : List (Int × Int)) (j : Nat), j < xs.length → (flat xs)[j * 2]? = some (.int .i64 (xs.getD j (0, 0)).1) ∧ (flat xs)[j * 2 + 1]? = some (.int .i64 (xs.getD j (0, 0)).2)
  | r :: rs, 0, _ => ⟨rfl, rfl⟩
  | r :: rs, j + 1, h => by
    have := flat_at rs j (by simpa using h)
    rw [show (j + 1) * 2 = j * 2 + 1 + 1 by omega]
    simpa [flat] using this
/-- an owned row of ranges, read as a slice -/
theorem ranges_own {w : World} {base n : Nat} {v : Value} {xs : List (Int × Int)} (hl : xs.length = n) (hn : n ≤ 9223372036854775807) (h : w.ownsRow base 28 2 v n (flat xs)) : ∃ A c, v = .slice A n c ∧ RangesAt w A n xs := by
  rcases h.2 with ⟨rfl, rfl⟩ | ⟨g, cap, cur, rfl, hb, hh, h1, h2, h3, h4⟩
  · exact ⟨none, 0, rfl, hl, hn, fun hp => absurd hp (Nat.lt_irrefl 0)⟩
  · refine ⟨_, _, rfl, hl, hn, fun hp => ⟨g, 0, rfl, (Array.getElem?_eq_some_iff.1 hh).1, fun j hj => ?_⟩⟩
    obtain ⟨e1, e2⟩ := flat_at xs j (by omega)
    have c1 := h.cells (g := g) rfl _ _ e1
    have c2 := h.cells (g := g) rfl _ _ e2
    rw [add_at] at c1 c2
    rw [Nat.zero_add]
    exact ⟨c1, c2⟩
theorem stay_grown {T : Nat → Prop} {W W1 : World} {row : Option Nat} (hg : W.grownBy W1 row) (h : ∀ k, T k → some k ≠ row) : Stay T W W1 := fun k o hk ho => (hg.block k (Array.getElem?_eq_some_iff.1 ho).1 (h k hk)).trans ho
theorem stay_less {T T' : Nat → Prop} {W W1 : World} (h : Stay T W W1) (k : ∀ i, T' i → T i) : Stay T' W W1 := fun i o hi ho => h i o (k i hi) ho
theorem infoRange : (Tryd.prog.info? 28).map (fun i => (i.zero, i.size, i.bytes)) = some (some (.agg #[.int .i64 0, .int .i64 0]), 2, 16) := by kernel_rfl
theorem fromB_cut (p : ByteArray) : fromB (bs p) = bs (cutL 58 p) := (bs_cutL 58 p).symm
theorem toB_yes {p : ByteArray} (h : cutF 58 p = true) : toB (bs p) = bs (cutR 58 p) := by
  rw [cutF, decide_eq_true_iff] at h
  rw [Pl.toB, if_pos h, bs_cutR]
theorem toB_no {p : ByteArray} (h : cutF 58 p = false) : toB (bs p) = bs (cutL 58 p) := by
  rw [cutF, decide_eq_false_iff_not] at h
  rw [Pl.toB, if_neg h, fromB_cut]
theorem size_cutL (x : UInt8) (s : ByteArray) : (cutL x s).size ≤ s.size := by rw [← bs_size, bs_cutL, List.length_take, ← bs_size]; omega
theorem size_cutR (x : UInt8) (s : ByteArray) : (cutR x s).size ≤ s.size := by rw [← bs_size, bs_cutR, List.length_drop, ← bs_size]; omega
theorem all_snoc (q : Bs → Bool) (pre : List Bs) (x : Bs) : (pre ++ [x]).all q = (pre.all q && q x) := by simp
/-- how far Set has come: its items are ranges, its list holds them, and its results' cells lie as they lay -/
structure SetAt (w : World) (v : Value) (pre : List Bs) (W : World) : Prop where
  ok : pre.all okItem = true
  few : pre.length ≤ 50
  r0 : W.heap[w.heap.size]? = some (.cells #[.slice none 0 0] 22 (0, 0))
  r1 : W.heap[w.heap.size + 1]? = some (.cells #[.nilIface] 32 (0, 0))
  own : ∃ u, W.heap[w.heap.size + 1 + 1]? = some (.cells #[u] 22 (0, 0)) ∧ W.ownsRow (w.heap.size + 8) 28 2 u pre.length (flat (pre.map rangeV))
  below : Below w.heap.size w W
structure SetMid (w : World) (v : Value) (pre : List Bs) (u : Value) (W : World) : Prop where
  r0 : W.heap[w.heap.size]? = some (.cells #[.slice none 0 0] 22 (0, 0))
  r1 : W.heap[w.heap.size + 1]? = some (.cells #[.nilIface] 32 (0, 0))
  r2 : W.heap[w.heap.size + 1 + 1]? = some (.cells #[u] 22 (0, 0))
  own : W.ownsRow (w.heap.size + 8) 28 2 u pre.length (flat (pre.map rangeV))
  below : Below w.heap.size w W
  sent : W.cell? ⟨0, 0, none⟩ = some v
theorem SetMid.then {w W W' : World} {v u : Value} {pre : List Bs} (h : SetMid w v pre u W) (hb : Below W.heap.size W W') : SetMid w v pre u W' :=
  ⟨Stay.below (T := fun _ => True) hb _ _ trivial h.r0, Stay.below (T := fun _ => True) hb _ _ trivial h.r1, Stay.below (T := fun _ => True) hb _ _ trivial h.r2, own_below h.own hb, below_then h.below hb, sent_then h.sent hb⟩
def setE (l : Bs) (v : Value) : Value := if setOk l = true then .nilIface else v
structure SetEnd (w : World) (v : Value) (pre : List Bs) (W : World) : Prop where
  bad : (pre.all okItem && decide (pre.length ≤ 50)) = false
  r0 : W.heap[w.heap.size]? = some (.cells #[.slice none 0 0] 22 (0, 0))
  r1 : W.heap[w.heap.size + 1]? = some (.cells #[v] 32 (0, 0))
  below : Below w.heap.size w W
theorem SetAt.cell {w W : World} {v : Value} {pre : List Bs} (h : SetAt w v pre W) {b : Nat} (u : Value) (h1 : w.heap.size + 1 + 1 < b) (h2 : b < w.heap.size + 8) : SetAt w v pre (W.setCell ⟨b, 0, none⟩ u) := by
  obtain ⟨x, hx, ho⟩ := h.own
  exact ⟨h.ok, h.few, setCell_other h.r0 _ (by simp; omega), setCell_other h.r1 _ (by simp; omega), ⟨x, setCell_other hx _ (by simp; omega), ownsRow_setCell_below ho h2 _⟩, h.below.setCell (by simp; omega) _⟩
theorem SetAt.put {w W : World} {v : Value} {pre : List Bs} (h : SetAt w v pre W) {b : Nat} (o : Obj) (h1 : w.heap.size + 1 + 1 < b) (h2 : b < w.heap.size + 8) (hz : w.heap.size ≤ W.heap.size) : SetAt w v pre (W.putObj b o) := by
  obtain ⟨x, hx, ho⟩ := h.own
  exact ⟨h.ok, h.few, (World.putObj_heap_other (by omega)).trans h.r0, (World.putObj_heap_other (by omega)).trans h.r1, ⟨x, (World.putObj_heap_other (by omega)).trans hx, own_putObj ho o h2⟩, below_putObj h.below _ _ (by omega) (by omega)⟩
theorem SetMid.fail {w W : World} {v u : Value} {pre pre' : List Bs} (h : SetMid w v pre u W) (hb : (pre'.all okItem && decide (pre'.length ≤ 50)) = false) :
    SetEnd w v pre' ((W.setCell ⟨w.heap.size, 0, none⟩ (.slice none 0 0)).setCell ⟨w.heap.size + 1, 0, none⟩ v).drew :=
  ⟨hb, setCell_other (one_setCell h.r0) _ (by simp), one_setCell (setCell_other h.r1 _ (by simp)), below_drew ((h.below.setCell (Nat.le_refl _) _).setCell (by simp) _)⟩
theorem own_less {w : World} {base base' : Nat} {e : TypeId} {size n : Nat} {v : Value} {xs : List Value} (h : w.ownsRow base e size v n xs) (hb : base' ≤ base) : w.ownsRow base' e size v n xs := by
  refine ⟨h.1, ?_⟩
  rcases h.2 with h2 | ⟨g, cap, cur, hv, hg, r⟩
  · exact .inl h2
  · exact .inr ⟨g, cap, cur, hv, Nat.le_trans hb hg, r⟩
theorem two_news (W : World) (x y : Value) (t : TypeId) : ∀ (j : Nat) (u : Value), [x, y][j]? = some u → (W.alloc (Obj.cells #[x, y] t)).cell? ((⟨W.heap.size, 0, none⟩ : Addr).add j) = some u := by
  intro j u hu
  obtain ⟨h0, h1, _, _⟩ := two_cells (World.alloc_heap_new W (Obj.cells #[x, y] t))
  rw [add_at]
  match j, hu with
  | 0, hu => rw [h0]; simpa using hu
  | 1, hu => rw [h1]; simpa using hu
theorem SetMid.next {w W3 w4 : World} {v u v' : Value} {pre : List Bs} {x : Bs} {nf nt : Int} (h : SetMid w v pre u W3) (ok : pre.all okItem = true) (few : pre.length < 50) (hx : okItem x = true) (hr : rangeV x = (nf, nt)) (hz : w.heap.size + 8 ≤ W3.heap.size)
    (hown : w4.ownsRow (w.heap.size + 8) 28 2 v' (pre.length + 1) (flat (pre.map rangeV) ++ [.int .i64 nf, .int .i64 nt])) (hg : (W3.alloc (Obj.cells #[.int .i64 nf, .int .i64 nt] 28)).grownBy w4 u.ownBlock) :
    Stay (fun k => k < w.heap.size + 8) W3 w4 ∧ w4.heap[w.heap.size + 1 + 1]? = some (.cells #[u] 22 (0, 0)) ∧ (∃ A c, v' = .slice A (pre.length + 1) c) ∧ SetAt w v (pre ++ [x]) (w4.setCell ⟨w.heap.size + 1 + 1, 0, none⟩ v') := by
  have e1 : flat (pre.map rangeV) ++ [Value.int .i64 nf, .int .i64 nt] = flat ((pre ++ [x]).map rangeV) := by
    rw [List.map_append, flat_append, List.map_singleton, hr]; rfl
  have el : pre.length + 1 = (pre ++ [x]).length := by simp
  rw [e1, el] at hown
  have hst : Stay (fun k => k < w.heap.size + 8) W3 w4 := (Stay.alloc _ _ _).trans (stay_grown hg (fun k hk e => by
    have := own_base h.own k e.symm
    omega))
  have r2 := hst _ _ (show w.heap.size + 1 + 1 < w.heap.size + 8 by omega) h.r2
  obtain ⟨A, c, hv, _⟩ := ranges_own (by simp) (by rw [← el]; omega) hown
  refine ⟨hst, r2, ⟨A, c, by rw [el]; exact hv⟩, ⟨by rw [all_snoc, ok, hx]; rfl, by rw [← el]; omega, setCell_other (hst _ _ (show w.heap.size < w.heap.size + 8 by omega) h.r0) _ (by dsimp only; omega), setCell_other (hst _ _ (show w.heap.size + 1 < w.heap.size + 8 by omega) h.r1) _ (by dsimp only; omega), ⟨v', one_setCell r2, ownsRow_setCell_below hown (by dsimp only; omega) _⟩, ?_⟩⟩
  exact (below_append (h.below.alloc (by omega) _) hg h.own (by omega) (by simp; omega)).setCell (by dsimp only; omega) _
theorem SetEnd.put {w W : World} {v : Value} {pre : List Bs} (h : SetEnd w v pre W) {b : Nat} (o : Obj) (h1 : w.heap.size + 1 + 1 < b) (hz : w.heap.size ≤ W.heap.size) : SetEnd w v pre (W.putObj b o) :=
  ⟨h.bad, (World.putObj_heap_other (by omega)).trans h.r0, (World.putObj_heap_other (by omega)).trans h.r1, below_putObj h.below _ _ (by omega) (by omega)⟩

set_option maxRecDepth 100000 in
set_option maxHeartbeats 8000000 in
theorem set_walk (s : ByteArray) (v : Value) (w : World) (hs : s.size ≤ 140737488351232) (hc : w.cell? ⟨0, 0, none⟩ = some v) (hv : ∃ t x, v = .iface t x) :
    Calls Tryd.prog 17 #[.string s] w fun e w' => ∃ r, e = .returned (.tuple #[r, setE (bs s) v]) ∧ w'.ownsRow w.heap.size 28 2 r (setL (bs s)).length (flat (setL (bs s))) ∧ Below w.heap.size w w' := by
  refine (callsIn_wide (n := 3)).1 ?_
  refine callsIn_of_wp_marks Tryd.func17 rfl trivial ?_ rfl
  simp only [Tryd.ntmps17, List.size_toArray, List.length_cons, List.length_nil, Nat.reduceAdd, Nat.reduceSub, Array.replicate_succ, Array.replicate_zero, List.push_toArray, List.append_toArray, List.nil_append, List.cons_append]
  gi_wp2_with fail
  refine ⟨trivial, ?_⟩
  refine (callsIn_wide.2 (splitSeq_walk _ _ _)).mono ?_
  rintro e w' ⟨rfl, rfl⟩
  gi_wp2_with fail
  obtain ⟨W1, hW1⟩ : ∃ W1, W1 = ((w.alloc (Obj.cells #[.slice none 0 0] 22)).alloc (Obj.cells #[.nilIface] 32)).alloc (Obj.cells #[.slice none 0 0] 22) := ⟨_, rfl⟩
  have z1 : W1.heap.size = w.heap.size + 3 := by rw [hW1]; simp
  have q0 : W1.heap[w.heap.size]? = some (.cells #[.slice none 0 0] 22 (0, 0)) := by
    rw [hW1]; exact (Below.heap_alloc _ _ _ (by simp; omega)).trans ((Below.heap_alloc _ _ _ (by simp)).trans (World.alloc_heap_new w _))
  have q1 : W1.heap[w.heap.size + 1]? = some (.cells #[.nilIface] 32 (0, 0)) := by
    rw [hW1]; have := World.alloc_heap_new (w.alloc (Obj.cells #[.slice none 0 0] 22)) (Obj.cells #[.nilIface] 32); rw [World.size_alloc] at this; exact (Below.heap_alloc _ _ _ (by simp)).trans this
  have q2 : W1.heap[w.heap.size + 1 + 1]? = some (.cells #[.slice none 0 0] 22 (0, 0)) := by
    rw [hW1]; have := World.alloc_heap_new ((w.alloc (Obj.cells #[.slice none 0 0] 22)).alloc (Obj.cells #[.nilIface] 32)) (Obj.cells #[.slice none 0 0] 22); rw [World.size_alloc, World.size_alloc] at this; exact this
  have qB : Below w.heap.size w W1 := by rw [hW1]; exact (((Below.refl _ _).alloc (Nat.le_refl _) _).alloc (by simp) _).alloc (by simp; omega) _
  rw [← hW1]
  clear hW1
  have z0 := splitWorld_size W1 44 s
  have hvC := Lib.hid hv
  have HC := Lib.hid hc
  clear hc hv
  refine wpIn_split 3 (pb := W1.heap.size + 1) (sb := W1.heap.size) (zb := W1.heap.size + 2) (x := 44) (s0 := s) rfl rfl (by omega) (by omega) hs (splitWorld_box W1 44 s)
    (fun pre W => SetAt w v pre W) (fun c pre W => c = .ret ∧ SetEnd w v pre W)
    (fun pre W u h => h.cell u (by omega) (by omega))
    (fun pre W o hz h => h.put o (by omega) (by omega) (by omega))
    (fun c pre W o hz h => ⟨h.1, h.2.put o (by omega) (by omega)⟩)
    (fun o => ⟨rfl, Nat.zero_le _, ((splitWorld_stay W1 44 s).trans ((Stay.alloc _ _ _).trans (Stay.alloc _ _ _))) _ _ trivial q0, ((splitWorld_stay W1 44 s).trans ((Stay.alloc _ _ _).trans (Stay.alloc _ _ _))) _ _ trivial q1, ⟨_, ((splitWorld_stay W1 44 s).trans ((Stay.alloc _ _ _).trans (Stay.alloc _ _ _))) _ _ trivial q2, World.ownsRow_nil _ _ _ _⟩,
      ((qB.trans ((splitWorld_below W1 44 s).mono (by omega))).alloc (by omega) _).alloc (by simp; omega) _⟩)
    (fun p => { tmps := #[.string s, undef, .pointer (some ⟨w.heap.size, 0, none⟩), .pointer (some ⟨w.heap.size + 1, 0, none⟩), .pointer (some ⟨w.heap.size + 1 + 1, 0, none⟩), .string p, undef, undef, undef, undef, undef, undef, undef, .string s, splitFn W1, .string p, undef, undef, undef, undef, undef, undef, undef, undef, undef, undef, undef, undef, undef, undef, undef, undef, undef, undef, undef, undef, undef, undef, undef, undef, undef, undef, undef, undef, undef, undef, undef, undef, undef, undef, undef, undef, undef, undef], defers := [] })
    ?assign ?body ?done ?stop
  case assign =>
    intro l p W K hK
    gi_wp2
    exact hK
  case body =>
    intro l pre p sx W hI hBx hpz hlt
    obtain ⟨u, r2, rO⟩ := hI.own
    have hM : SetMid w v pre u W := ⟨hI.r0, hI.r1, r2, rO, hI.below, sent_then HC.out hI.below⟩
    obtain ⟨A, c, rfl, _⟩ := ranges_own (by simp) (by have := hI.few; omega) rO
    have hfew := hI.few
    have HK := Lib.hid hI.ok
    have HM := Lib.hid hM
    have zp1 := size_cutL 58 p
    have zp2 := size_cutR 58 p
    have hgt : w.heap.size + 8 ≤ W.heap.size := by omega
    have zg : 0 < w.heap.size := World.block_lt_of_cell? w _ HC.out
    obtain ⟨ty, xv, hv⟩ := hvC.out
    subst hv
    clear hI r2 rO hM hBx q0 q1 q2 qB
    obtain ⟨i0, hi, hz0, hz1, hz2⟩ := info_parts infoRange
    gi_wp2_with fail
    refine ⟨trivial, ?_⟩
    refine (CallsIn.inRound l (callsIn_wide.2 (cut_walk p 58 _ (by omega)))).mono ?_
    rintro e w' ⟨rfl, q, rfl⟩
    have hb1 := below_draws (Below.refl W.heap.size W) q
    generalize W.drewN q = Wa at hb1
    have HW1 := Lib.hid hb1
    have HM1 := Lib.hid (HM.out.then hb1)
    clear hb1
    cases hT : cutF 58 p with
    | true =>
      have HT := Lib.hid (toB_yes hT)
      have HF := Lib.hid (fromB_cut p)
      have hlen : (pre ++ [bs p]).length = pre.length + 1 := by simp
      have HL := Lib.hid hlen
      clear hlen
      cases e1 : endOk (fromB (bs p)) with
      | false =>
        have E1 := Lib.hid (show endV (bs (cutL 58 p)) (.iface ty xv) = .tuple #[.int .i64 0, (.iface ty xv)] by rw [← HF.out]; exact endV_no e1 _)
        cases e2 : endOk (toB (bs p)) with
        | false =>
          have E2 := Lib.hid (show endV (bs (cutR 58 p)) (.iface ty xv) = .tuple #[.int .i64 0, (.iface ty xv)] by rw [← HT.out]; exact endV_no e2 _)
          gi_wp2_with fail
          refine ⟨trivial, ?_⟩
          refine (CallsIn.inRound l (callsIn_wide.2 (end_walk (cutL 58 p) (.iface ty xv) _ (by omega) HM1.out.sent ⟨_, _, rfl⟩))).mono ?_
          rintro e W2 ⟨rfl, hb2⟩
          rw [E1.out]
          have HW2 := Lib.hid (below_then HW1.out hb2)
          have HM2 := Lib.hid (HM1.out.then hb2)
          clear hb2
          gi_wp2_with fail
          refine ⟨trivial, ?_⟩
          refine (CallsIn.inRound l (callsIn_wide.2 (end_walk (cutR 58 p) (.iface ty xv) _ (by omega) HM2.out.sent ⟨_, _, rfl⟩))).mono ?_
          rintro e W3 ⟨rfl, hb3⟩
          rw [E2.out]
          have HW3 := Lib.hid (below_then HW2.out hb3)
          have HM3 := Lib.hid (HM2.out.then hb3)
          clear hb3
          have s0 := HM3.out.sent
          have k0 := cell_of_one HM3.out.r0
          have k1 := cell_of_one HM3.out.r1
          have f0 := free_of_one HM3.out.r0
          have f1 := free_of_one HM3.out.r1
          have HBad := Lib.hid (show ((pre ++ [bs p]).all okItem && decide ((pre ++ [bs p]).length ≤ 50)) = false by rw [all_snoc, okItem, e1, e2]; simp)
          gi_wp2
          refine wpIn_three (by kernel_rfl) (by decide +kernel) (by decide +kernel) (by decide +kernel) (by decide +kernel) (by decide +kernel) ?_ ?_
          all_goals
            gi_wp2
            exact ⟨(Stay.below HW3.out).trans ((Stay.setCell _ _ (by unfold splitT; dsimp only; omega)).trans (Stay.setCell _ _ (by unfold splitT; dsimp only; omega))), rfl, HM3.out.fail HBad.out⟩
        | true =>
          have E2 := Lib.hid (show endV (bs (cutR 58 p)) (.iface ty xv) = .tuple #[.int .i64 (endN (toB (bs p))), .nilIface] by rw [← HT.out]; exact endV_yes e2 _)
          gi_wp2_with fail
          refine ⟨trivial, ?_⟩
          refine (CallsIn.inRound l (callsIn_wide.2 (end_walk (cutL 58 p) (.iface ty xv) _ (by omega) HM1.out.sent ⟨_, _, rfl⟩))).mono ?_
          rintro e W2 ⟨rfl, hb2⟩
          rw [E1.out]
          have HW2 := Lib.hid (below_then HW1.out hb2)
          have HM2 := Lib.hid (HM1.out.then hb2)
          clear hb2
          gi_wp2_with fail
          refine ⟨trivial, ?_⟩
          refine (CallsIn.inRound l (callsIn_wide.2 (end_walk (cutR 58 p) (.iface ty xv) _ (by omega) HM2.out.sent ⟨_, _, rfl⟩))).mono ?_
          rintro e W3 ⟨rfl, hb3⟩
          rw [E2.out]
          have HW3 := Lib.hid (below_then HW2.out hb3)
          have HM3 := Lib.hid (HM2.out.then hb3)
          clear hb3
          have s0 := HM3.out.sent
          have k0 := cell_of_one HM3.out.r0
          have k1 := cell_of_one HM3.out.r1
          have f0 := free_of_one HM3.out.r0
          have f1 := free_of_one HM3.out.r1
          have HBad := Lib.hid (show ((pre ++ [bs p]).all okItem && decide ((pre ++ [bs p]).length ≤ 50)) = false by rw [all_snoc, okItem, e1, e2]; simp)
          gi_wp2
          refine wpIn_three (by kernel_rfl) (by decide +kernel) (by decide +kernel) (by decide +kernel) (by decide +kernel) (by decide +kernel) ?_ ?_
          all_goals
            gi_wp2
            exact ⟨(Stay.below HW3.out).trans ((Stay.setCell _ _ (by unfold splitT; dsimp only; omega)).trans (Stay.setCell _ _ (by unfold splitT; dsimp only; omega))), rfl, HM3.out.fail HBad.out⟩
      | true =>
        have E1 := Lib.hid (show endV (bs (cutL 58 p)) (.iface ty xv) = .tuple #[.int .i64 (endN (fromB (bs p))), .nilIface] by rw [← HF.out]; exact endV_yes e1 _)
        cases e2 : endOk (toB (bs p)) with
        | false =>
          have E2 := Lib.hid (show endV (bs (cutR 58 p)) (.iface ty xv) = .tuple #[.int .i64 0, (.iface ty xv)] by rw [← HT.out]; exact endV_no e2 _)
          gi_wp2_with fail
          refine ⟨trivial, ?_⟩
          refine (CallsIn.inRound l (callsIn_wide.2 (end_walk (cutL 58 p) (.iface ty xv) _ (by omega) HM1.out.sent ⟨_, _, rfl⟩))).mono ?_
          rintro e W2 ⟨rfl, hb2⟩
          rw [E1.out]
          have HW2 := Lib.hid (below_then HW1.out hb2)
          have HM2 := Lib.hid (HM1.out.then hb2)
          clear hb2
          gi_wp2_with fail
          refine ⟨trivial, ?_⟩
          refine (CallsIn.inRound l (callsIn_wide.2 (end_walk (cutR 58 p) (.iface ty xv) _ (by omega) HM2.out.sent ⟨_, _, rfl⟩))).mono ?_
          rintro e W3 ⟨rfl, hb3⟩
          rw [E2.out]
          have HW3 := Lib.hid (below_then HW2.out hb3)
          have HM3 := Lib.hid (HM2.out.then hb3)
          clear hb3
          have s0 := HM3.out.sent
          have k0 := cell_of_one HM3.out.r0
          have k1 := cell_of_one HM3.out.r1
          have f0 := free_of_one HM3.out.r0
          have f1 := free_of_one HM3.out.r1
          have HBad := Lib.hid (show ((pre ++ [bs p]).all okItem && decide ((pre ++ [bs p]).length ≤ 50)) = false by rw [all_snoc, okItem, e1, e2]; simp)
          gi_wp2
          refine wpIn_three (by kernel_rfl) (by decide +kernel) (by decide +kernel) (by decide +kernel) (by decide +kernel) (by decide +kernel) ?_ ?_
          all_goals
            gi_wp2
            exact ⟨(Stay.below HW3.out).trans ((Stay.setCell _ _ (by unfold splitT; dsimp only; omega)).trans (Stay.setCell _ _ (by unfold splitT; dsimp only; omega))), rfl, HM3.out.fail HBad.out⟩
        | true =>
          have E2 := Lib.hid (show endV (bs (cutR 58 p)) (.iface ty xv) = .tuple #[.int .i64 (endN (toB (bs p))), .nilIface] by rw [← HT.out]; exact endV_yes e2 _)
          by_cases hn : 50 ≤ pre.length
          · have hn' : (50 : Int) ≤ (pre.length : Int) := by omega
            gi_wp2_with fail
            refine ⟨trivial, ?_⟩
            refine (CallsIn.inRound l (callsIn_wide.2 (end_walk (cutL 58 p) (.iface ty xv) _ (by omega) HM1.out.sent ⟨_, _, rfl⟩))).mono ?_
            rintro e W2 ⟨rfl, hb2⟩
            rw [E1.out]
            have HW2 := Lib.hid (below_then HW1.out hb2)
            have HM2 := Lib.hid (HM1.out.then hb2)
            clear hb2
            gi_wp2_with fail
            refine ⟨trivial, ?_⟩
            refine (CallsIn.inRound l (callsIn_wide.2 (end_walk (cutR 58 p) (.iface ty xv) _ (by omega) HM2.out.sent ⟨_, _, rfl⟩))).mono ?_
            rintro e W3 ⟨rfl, hb3⟩
            rw [E2.out]
            have HW3 := Lib.hid (below_then HW2.out hb3)
            have HM3 := Lib.hid (HM2.out.then hb3)
            clear hb3
            have k2 := cell_of_one HM3.out.r2
            have s0 := HM3.out.sent
            have k0 := cell_of_one HM3.out.r0
            have k1 := cell_of_one HM3.out.r1
            have f0 := free_of_one HM3.out.r0
            have f1 := free_of_one HM3.out.r1
            have HBad := Lib.hid (show ((pre ++ [bs p]).all okItem && decide ((pre ++ [bs p]).length ≤ 50)) = false by rw [HL.out, decide_eq_false (by omega), Bool.and_false])
            gi_wp2
            refine wpIn_three (by kernel_rfl) (by decide +kernel) (by decide +kernel) (by decide +kernel) (by decide +kernel) (by decide +kernel) ?_ ?_
            all_goals
              gi_wp2
              exact ⟨(Stay.below HW3.out).trans ((Stay.setCell _ _ (by unfold splitT; dsimp only; omega)).trans (Stay.setCell _ _ (by unfold splitT; dsimp only; omega))), rfl, HM3.out.fail HBad.out⟩
          · have hn' : (pre.length : Int) < 50 := by omega
            gi_wp2_with fail
            refine ⟨trivial, ?_⟩
            refine (CallsIn.inRound l (callsIn_wide.2 (end_walk (cutL 58 p) (.iface ty xv) _ (by omega) HM1.out.sent ⟨_, _, rfl⟩))).mono ?_
            rintro e W2 ⟨rfl, hb2⟩
            rw [E1.out]
            have HW2 := Lib.hid (below_then HW1.out hb2)
            have HM2 := Lib.hid (HM1.out.then hb2)
            clear hb2
            gi_wp2_with fail
            refine ⟨trivial, ?_⟩
            refine (CallsIn.inRound l (callsIn_wide.2 (end_walk (cutR 58 p) (.iface ty xv) _ (by omega) HM2.out.sent ⟨_, _, rfl⟩))).mono ?_
            rintro e W3 ⟨rfl, hb3⟩
            rw [E2.out]
            have HW3 := Lib.hid (below_then HW2.out hb3)
            have HM3 := Lib.hid (HM2.out.then hb3)
            clear hb3
            have k2 := cell_of_one HM3.out.r2
            have f2 := free_of_one HM3.out.r2
            have HR := Lib.hid (show rangeV (bs p) = ((endN (fromB (bs p)) : Int), (endN (toB (bs p)) : Int)) from rfl)
            have HO := Lib.hid (show okItem (bs p) = true by rw [okItem, e1, e2]; rfl)
            have hz3 : w.heap.size + 8 ≤ W3.heap.size := Nat.le_trans hgt HW3.out.size
            generalize (endN (fromB (bs p)) : Int) = nf at *
            generalize (endN (toB (bs p)) : Int) = nt at *
            gi_wp2_with (gi_at_builtin; refine wpListIn_append_own _ rfl _ _ 22 rfl (w.heap.size + 8) 28 i0 (.agg #[.int .i64 0, .int .i64 0]) 2 16 Tryd.underlying22 hi hz0 hz1 hz2 rfl (by decide) _ _ _ rfl (HM3.out.own.alloc _) ⟨W3.heap.size, 0, none⟩ 1 1 [.int .i64 nf, .int .i64 nt] rfl rfl ?a1 ?a2 ?a3 ?a4 ?a5 ?_)
            case a1 => exact two_news _ _ _ _
            case a2 => simp [Value.oneCell']
            case a3 => unfold maxLen; omega
            case a4 => omega
            case a5 => simp; omega
            intro v' w4 hown' hgrow _
            obtain ⟨st4, r4, ⟨A', c', rfl⟩, hat⟩ := HM3.out.next HK.out (by omega) HO.out HR.out hz3 hown' hgrow
            have k4 := cell_of_one r4
            have f4 := free_of_one r4
            have ST4 := Lib.hid st4
            have HAT := Lib.hid hat
            clear st4 r4 hat hown' hgrow
            gi_wp2
            exact ⟨(Stay.below HW3.out).trans ((stay_less ST4.out (fun i hi => by unfold splitT at hi; omega)).trans (Stay.setCell _ _ (by unfold splitT; dsimp only; omega))), HAT.out⟩
    | false =>
      have HT := Lib.hid (toB_no hT)
      have HF := Lib.hid (fromB_cut p)
      have hlen : (pre ++ [bs p]).length = pre.length + 1 := by simp
      have HL := Lib.hid hlen
      clear hlen
      cases e1 : endOk (fromB (bs p)) with
      | false =>
        have E1 := Lib.hid (show endV (bs (cutL 58 p)) (.iface ty xv) = .tuple #[.int .i64 0, (.iface ty xv)] by rw [← HF.out]; exact endV_no e1 _)
        cases e2 : endOk (toB (bs p)) with
        | false =>
          have E2 := Lib.hid (show endV (bs (cutL 58 p)) (.iface ty xv) = .tuple #[.int .i64 0, (.iface ty xv)] by rw [← HT.out]; exact endV_no e2 _)
          gi_wp2_with fail
          refine ⟨trivial, ?_⟩
          refine (CallsIn.inRound l (callsIn_wide.2 (end_walk (cutL 58 p) (.iface ty xv) _ (by omega) HM1.out.sent ⟨_, _, rfl⟩))).mono ?_
          rintro e W2 ⟨rfl, hb2⟩
          rw [E1.out]
          have HW2 := Lib.hid (below_then HW1.out hb2)
          have HM2 := Lib.hid (HM1.out.then hb2)
          clear hb2
          gi_wp2_with fail
          refine ⟨trivial, ?_⟩
          refine (CallsIn.inRound l (callsIn_wide.2 (end_walk (cutL 58 p) (.iface ty xv) _ (by omega) HM2.out.sent ⟨_, _, rfl⟩))).mono ?_
          rintro e W3 ⟨rfl, hb3⟩
          rw [E2.out]
          have HW3 := Lib.hid (below_then HW2.out hb3)
          have HM3 := Lib.hid (HM2.out.then hb3)
          clear hb3
          have s0 := HM3.out.sent
          have k0 := cell_of_one HM3.out.r0
          have k1 := cell_of_one HM3.out.r1
          have f0 := free_of_one HM3.out.r0
          have f1 := free_of_one HM3.out.r1
          have HBad := Lib.hid (show ((pre ++ [bs p]).all okItem && decide ((pre ++ [bs p]).length ≤ 50)) = false by rw [all_snoc, okItem, e1, e2]; simp)
          gi_wp2
          refine wpIn_three (by kernel_rfl) (by decide +kernel) (by decide +kernel) (by decide +kernel) (by decide +kernel) (by decide +kernel) ?_ ?_
          all_goals
            gi_wp2
            exact ⟨(Stay.below HW3.out).trans ((Stay.setCell _ _ (by unfold splitT; dsimp only; omega)).trans (Stay.setCell _ _ (by unfold splitT; dsimp only; omega))), rfl, HM3.out.fail HBad.out⟩
        | true =>
          have E2 := Lib.hid (show endV (bs (cutL 58 p)) (.iface ty xv) = .tuple #[.int .i64 (endN (toB (bs p))), .nilIface] by rw [← HT.out]; exact endV_yes e2 _)
          gi_wp2_with fail
          refine ⟨trivial, ?_⟩
          refine (CallsIn.inRound l (callsIn_wide.2 (end_walk (cutL 58 p) (.iface ty xv) _ (by omega) HM1.out.sent ⟨_, _, rfl⟩))).mono ?_
          rintro e W2 ⟨rfl, hb2⟩
          rw [E1.out]
          have HW2 := Lib.hid (below_then HW1.out hb2)
          have HM2 := Lib.hid (HM1.out.then hb2)
          clear hb2
          gi_wp2_with fail
          refine ⟨trivial, ?_⟩
          refine (CallsIn.inRound l (callsIn_wide.2 (end_walk (cutL 58 p) (.iface ty xv) _ (by omega) HM2.out.sent ⟨_, _, rfl⟩))).mono ?_
          rintro e W3 ⟨rfl, hb3⟩
          rw [E2.out]
          have HW3 := Lib.hid (below_then HW2.out hb3)
          have HM3 := Lib.hid (HM2.out.then hb3)
          clear hb3
          have s0 := HM3.out.sent
          have k0 := cell_of_one HM3.out.r0
          have k1 := cell_of_one HM3.out.r1
          have f0 := free_of_one HM3.out.r0
          have f1 := free_of_one HM3.out.r1
          have HBad := Lib.hid (show ((pre ++ [bs p]).all okItem && decide ((pre ++ [bs p]).length ≤ 50)) = false by rw [all_snoc, okItem, e1, e2]; simp)
          gi_wp2
          refine wpIn_three (by kernel_rfl) (by decide +kernel) (by decide +kernel) (by decide +kernel) (by decide +kernel) (by decide +kernel) ?_ ?_
          all_goals
            gi_wp2
            exact ⟨(Stay.below HW3.out).trans ((Stay.setCell _ _ (by unfold splitT; dsimp only; omega)).trans (Stay.setCell _ _ (by unfold splitT; dsimp only; omega))), rfl, HM3.out.fail HBad.out⟩
      | true =>
        have E1 := Lib.hid (show endV (bs (cutL 58 p)) (.iface ty xv) = .tuple #[.int .i64 (endN (fromB (bs p))), .nilIface] by rw [← HF.out]; exact endV_yes e1 _)
        cases e2 : endOk (toB (bs p)) with
        | false =>
          have E2 := Lib.hid (show endV (bs (cutL 58 p)) (.iface ty xv) = .tuple #[.int .i64 0, (.iface ty xv)] by rw [← HT.out]; exact endV_no e2 _)
          gi_wp2_with fail
          refine ⟨trivial, ?_⟩
          refine (CallsIn.inRound l (callsIn_wide.2 (end_walk (cutL 58 p) (.iface ty xv) _ (by omega) HM1.out.sent ⟨_, _, rfl⟩))).mono ?_
          rintro e W2 ⟨rfl, hb2⟩
          rw [E1.out]
          have HW2 := Lib.hid (below_then HW1.out hb2)
          have HM2 := Lib.hid (HM1.out.then hb2)
          clear hb2
          gi_wp2_with fail
          refine ⟨trivial, ?_⟩
          refine (CallsIn.inRound l (callsIn_wide.2 (end_walk (cutL 58 p) (.iface ty xv) _ (by omega) HM2.out.sent ⟨_, _, rfl⟩))).mono ?_
          rintro e W3 ⟨rfl, hb3⟩
          rw [E2.out]
          have HW3 := Lib.hid (below_then HW2.out hb3)
          have HM3 := Lib.hid (HM2.out.then hb3)
          clear hb3
          have s0 := HM3.out.sent
          have k0 := cell_of_one HM3.out.r0
          have k1 := cell_of_one HM3.out.r1
          have f0 := free_of_one HM3.out.r0
          have f1 := free_of_one HM3.out.r1
          have HBad := Lib.hid (show ((pre ++ [bs p]).all okItem && decide ((pre ++ [bs p]).length ≤ 50)) = false by rw [all_snoc, okItem, e1, e2]; simp)
          gi_wp2
          refine wpIn_three (by kernel_rfl) (by decide +kernel) (by decide +kernel) (by decide +kernel) (by decide +kernel) (by decide +kernel) ?_ ?_
          all_goals
            gi_wp2
            exact ⟨(Stay.below HW3.out).trans ((Stay.setCell _ _ (by unfold splitT; dsimp only; omega)).trans (Stay.setCell _ _ (by unfold splitT; dsimp only; omega))), rfl, HM3.out.fail HBad.out⟩
        | true =>
          have E2 := Lib.hid (show endV (bs (cutL 58 p)) (.iface ty xv) = .tuple #[.int .i64 (endN (toB (bs p))), .nilIface] by rw [← HT.out]; exact endV_yes e2 _)
          by_cases hn : 50 ≤ pre.length
          · have hn' : (50 : Int) ≤ (pre.length : Int) := by omega
            gi_wp2_with fail
            refine ⟨trivial, ?_⟩
            refine (CallsIn.inRound l (callsIn_wide.2 (end_walk (cutL 58 p) (.iface ty xv) _ (by omega) HM1.out.sent ⟨_, _, rfl⟩))).mono ?_
            rintro e W2 ⟨rfl, hb2⟩
            rw [E1.out]
            have HW2 := Lib.hid (below_then HW1.out hb2)
            have HM2 := Lib.hid (HM1.out.then hb2)
            clear hb2
            gi_wp2_with fail
            refine ⟨trivial, ?_⟩
            refine (CallsIn.inRound l (callsIn_wide.2 (end_walk (cutL 58 p) (.iface ty xv) _ (by omega) HM2.out.sent ⟨_, _, rfl⟩))).mono ?_
            rintro e W3 ⟨rfl, hb3⟩
            rw [E2.out]
            have HW3 := Lib.hid (below_then HW2.out hb3)
            have HM3 := Lib.hid (HM2.out.then hb3)
            clear hb3
            have k2 := cell_of_one HM3.out.r2
            have s0 := HM3.out.sent
            have k0 := cell_of_one HM3.out.r0
            have k1 := cell_of_one HM3.out.r1
            have f0 := free_of_one HM3.out.r0
            have f1 := free_of_one HM3.out.r1
            have HBad := Lib.hid (show ((pre ++ [bs p]).all okItem && decide ((pre ++ [bs p]).length ≤ 50)) = false by rw [HL.out, decide_eq_false (by omega), Bool.and_false])
            gi_wp2
            refine wpIn_three (by kernel_rfl) (by decide +kernel) (by decide +kernel) (by decide +kernel) (by decide +kernel) (by decide +kernel) ?_ ?_
            all_goals
              gi_wp2
              exact ⟨(Stay.below HW3.out).trans ((Stay.setCell _ _ (by unfold splitT; dsimp only; omega)).trans (Stay.setCell _ _ (by unfold splitT; dsimp only; omega))), rfl, HM3.out.fail HBad.out⟩
          · have hn' : (pre.length : Int) < 50 := by omega
            gi_wp2_with fail
            refine ⟨trivial, ?_⟩
            refine (CallsIn.inRound l (callsIn_wide.2 (end_walk (cutL 58 p) (.iface ty xv) _ (by omega) HM1.out.sent ⟨_, _, rfl⟩))).mono ?_
            rintro e W2 ⟨rfl, hb2⟩
            rw [E1.out]
            have HW2 := Lib.hid (below_then HW1.out hb2)
            have HM2 := Lib.hid (HM1.out.then hb2)
            clear hb2
            gi_wp2_with fail
            refine ⟨trivial, ?_⟩
            refine (CallsIn.inRound l (callsIn_wide.2 (end_walk (cutL 58 p) (.iface ty xv) _ (by omega) HM2.out.sent ⟨_, _, rfl⟩))).mono ?_
            rintro e W3 ⟨rfl, hb3⟩
            rw [E2.out]
            have HW3 := Lib.hid (below_then HW2.out hb3)
            have HM3 := Lib.hid (HM2.out.then hb3)
            clear hb3
            have k2 := cell_of_one HM3.out.r2
            have f2 := free_of_one HM3.out.r2
            have HR := Lib.hid (show rangeV (bs p) = ((endN (fromB (bs p)) : Int), (endN (toB (bs p)) : Int)) from rfl)
            have HO := Lib.hid (show okItem (bs p) = true by rw [okItem, e1, e2]; rfl)
            have hz3 : w.heap.size + 8 ≤ W3.heap.size := Nat.le_trans hgt HW3.out.size
            generalize (endN (fromB (bs p)) : Int) = nf at *
            generalize (endN (toB (bs p)) : Int) = nt at *
            gi_wp2_with (gi_at_builtin; refine wpListIn_append_own _ rfl _ _ 22 rfl (w.heap.size + 8) 28 i0 (.agg #[.int .i64 0, .int .i64 0]) 2 16 Tryd.underlying22 hi hz0 hz1 hz2 rfl (by decide) _ _ _ rfl (HM3.out.own.alloc _) ⟨W3.heap.size, 0, none⟩ 1 1 [.int .i64 nf, .int .i64 nt] rfl rfl ?b1 ?b2 ?b3 ?b4 ?b5 ?_)
            case b1 => exact two_news _ _ _ _
            case b2 => simp [Value.oneCell']
            case b3 => unfold maxLen; omega
            case b4 => omega
            case b5 => simp; omega
            intro v' w4 hown' hgrow _
            obtain ⟨st4, r4, ⟨A', c', rfl⟩, hat⟩ := HM3.out.next HK.out (by omega) HO.out HR.out hz3 hown' hgrow
            have k4 := cell_of_one r4
            have f4 := free_of_one r4
            have ST4 := Lib.hid st4
            have HAT := Lib.hid hat
            clear st4 r4 hat hown' hgrow
            gi_wp2
            exact ⟨(Stay.below HW3.out).trans ((stay_less ST4.out (fun i hi => by unfold splitT at hi; omega)).trans (Stay.setCell _ _ (by unfold splitT; dsimp only; omega))), HAT.out⟩
  case done =>
    intro W hI hK
    obtain ⟨u, r2, rO⟩ := hI.own
    have hok : setOk (bs s) = true := by rw [setOk]; show ((splitB 44 (bs s)).all okItem && decide ((splitB 44 (bs s)).length ≤ 50)) = true; rw [hI.ok, decide_eq_true hI.few]; rfl
    have hL : setL (bs s) = (splitB 44 (bs s)).map rangeV := by rw [setL, if_pos hok]; rfl
    have hB := hI.below
    obtain ⟨A, c, hu, _⟩ := ranges_own (by simp) (by have := hI.few; omega) rO
    have r0 := hI.r0
    have r1 := hI.r1
    generalize (splitB 44 (bs s)).map rangeV = xs at rO hL
    have HL := Lib.hid hL
    have HOK := Lib.hid (show setE (bs s) v = .nilIface by rw [setE, if_pos hok])
    have hlx : xs.length = (splitB 44 (bs s)).length := by
      have := rO.1
      have key : ∀ l : List (Int × Int), (flat l).length = l.length * 2 := by
        intro l
        induction l with
        | nil => rfl
        | cons r rs ih => simp only [flat, List.length_cons, ih]; omega
      rw [key] at this; omega
    generalize (splitB 44 (bs s)).length = m at *
    subst hlx
    subst hu
    have k0 := cell_of_one r0
    have k1 := cell_of_one r1
    have k2 := cell_of_one r2
    have f0 := free_of_one r0
    have f1 := free_of_one r1
    have R0 := Lib.hid r0
    have R1 := Lib.hid r1
    have RO := Lib.hid rO
    have HB := Lib.hid hB
    clear r0 r1 r2 rO hB hI q0 q1 q2 qB hok hL
    gi_wp2
    have hK2 : ((W.setCell ⟨w.heap.size, 0, none⟩ (.slice A xs.length c)).setCell ⟨w.heap.size + 1, 0, none⟩ .nilIface).heap[(splitWorld W1 44 s).heap.size]? = some (.deferred (some [])) := setCell_other (setCell_other hK _ (by dsimp only; omega)) _ (by dsimp only; omega)
    have c2 : (((W.setCell ⟨w.heap.size, 0, none⟩ (.slice A xs.length c)).setCell ⟨w.heap.size + 1, 0, none⟩ .nilIface).putObj (splitWorld W1 44 s).heap.size (.deferred none)).cell? ⟨w.heap.size, 0, none⟩ = some (.slice A xs.length c) :=
      cell_of_one ((World.putObj_heap_other (by omega)).trans (setCell_other (one_setCell R0.out) _ (by simp)))
    have c3 : (((W.setCell ⟨w.heap.size, 0, none⟩ (.slice A xs.length c)).setCell ⟨w.heap.size + 1, 0, none⟩ .nilIface).putObj (splitWorld W1 44 s).heap.size (.deferred none)).cell? ⟨w.heap.size + 1, 0, none⟩ = some .nilIface :=
      cell_of_one ((World.putObj_heap_other (by omega)).trans (one_setCell (setCell_other R1.out _ (by simp))))
    refine ⟨by simp, .inl ⟨_, _, rfl, run_takeDeferred hK2, ?_⟩⟩
    refine ⟨.tuple #[.slice A xs.length c, .nilIface], by simp [results, Tryd.results17, go_sem, c2, c3], ?_⟩
    refine ⟨_, by rw [HOK.out], ?_, ?_⟩
    · rw [HL.out]
      exact own_putObj (ownsRow_setCell_below (ownsRow_setCell_below RO.out (by dsimp only; omega) _) (by dsimp only; omega) _) _ (by omega) |> fun h => own_less h (by omega)
    · exact below_putObj ((HB.out.setCell (Nat.le_refl _) _).setCell (by simp) _) _ _ (by omega) (by simp; have := HB.out.size; omega)
  case stop =>
    rintro c pre W hpre ⟨rfl, hE⟩ hK
    have hok : setOk (bs s) = false := set_fails hpre hE.bad
    have hL : setL (bs s) = [] := by rw [setL, hok]; rfl
    have HL := Lib.hid hL
    have HOK := Lib.hid (show setE (bs s) v = v by rw [setE, hok]; rfl)
    clear hL hok
    gi_wp2
    have c2 : (W.putObj (splitWorld W1 44 s).heap.size (.deferred none)).cell? ⟨w.heap.size, 0, none⟩ = some (.slice none 0 0) :=
      cell_of_one ((World.putObj_heap_other (by omega)).trans hE.r0)
    have c3 : (W.putObj (splitWorld W1 44 s).heap.size (.deferred none)).cell? ⟨w.heap.size + 1, 0, none⟩ = some v :=
      cell_of_one ((World.putObj_heap_other (by omega)).trans hE.r1)
    refine ⟨by simp, .inl ⟨_, _, rfl, run_takeDeferred hK, ?_⟩⟩
    refine ⟨.tuple #[.slice none 0 0, v], by simp [results, Tryd.results17, go_sem, c2, c3], ?_⟩
    refine ⟨_, by rw [HOK.out], ?_, below_putObj hE.below _ _ (by omega) (by have := hE.below.size; omega)⟩
    rw [HL.out]
    exact World.ownsRow_nil _ _ _ _
end Go.Proofs.YtfaojafhamhncaaDoor
