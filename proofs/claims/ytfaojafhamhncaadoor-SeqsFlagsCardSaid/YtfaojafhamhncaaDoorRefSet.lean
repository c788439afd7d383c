/- The walk of the document's Set. -/
import Derived.Test.YtfaojafhamhncaaDoorPlSetRef
import Derived.Test.YtfaojafhamhncaaDoorRefCut
import Derived.Test.YtfaojafhamhncaaDoorSeqJoins
import Derived.Deep.RegionLaw
namespace Go.Proofs.YtfaojafhamhncaaDoor
open Go.RowKit
open Pl (Bs splitB okItem rangeV items setOk setL endOk numN item_one item_two item_more endOk_num)
set_option linter.unusedSimpArgs false
set_option linter.unusedVariables false
/-- two rows lie in different blocks -/
def apart (u v : Value) : Prop := ∀ k, u.ownBlock = some k → v.ownBlock ≠ some k
theorem own_grown {w w' : World} {base : Nat} {e : TypeId} {size n : Nat} {u v : Value} {xs : List Value} (h : w.ownsRow base e size v n xs) (hg : w.grownBy w' u.ownBlock) (ha : apart v u) : w'.ownsRow base e size v n xs :=
  h.kept (row := u.ownBlock) hg (by
    cases hb : v.ownBlock with
    | none => exact .inl rfl
    | some k => exact .inr (fun e => ha k hb e.symm))
theorem own_block_lt {w : World} {base : Nat} {e : TypeId} {size n : Nat} {v : Value} {xs : List Value} (h : w.ownsRow base e size v n xs) : ∀ k, v.ownBlock = some k → k < w.heap.size := by
  intro k hk
  rcases h.2 with ⟨rfl, _⟩ | ⟨g, cap, cur, rfl, _, hh, _⟩
  · cases hk
  · have : g = k := by simpa [Value.ownBlock] using hk
    subst this
    exact (Array.getElem?_eq_some_iff.1 hh).1
theorem apart_next {u v v9 : Value} {n m : Nat} (ha : apart u v) (hlt : ∀ k, u.ownBlock = some k → k < n) (h9 : v9.ownBlock = v.ownBlock ∨ v9.ownBlock = some m) (hnm : n ≤ m) : apart u v9 := by
  intro k hk h
  rcases h9 with h9 | h9
  · exact ha k hk (h9.symm.trans h)
  · rw [h9] at h
    have := hlt k hk
    cases h
    omega
def itemsOk (ys : List ByteArray) (i : Nat) : Bool := ((ys.take i).map bs).all okItem
def rangesI (ys : List ByteArray) (i : Nat) : List (Int × Int) := (ys.take i).map fun y => rangeV (bs y)
theorem itemsOk_next {ys : List ByteArray} {i : Nat} (hi : i < ys.length) (h : itemsOk ys i = true) (hy : okItem (bs ys[i]) = true) : itemsOk ys (i + 1) = true := by
  rw [itemsOk, List.take_succ_eq_append_getElem hi, List.map_append, List.all_append, ← itemsOk, h]; simpa using hy
theorem rangesI_next {ys : List ByteArray} {i : Nat} (hi : i < ys.length) : rangesI ys (i + 1) = rangesI ys i ++ [rangeV (bs ys[i])] := by
  rw [rangesI, List.take_succ_eq_append_getElem hi, List.map_append]; rfl
theorem rangesI_length (ys : List ByteArray) {i : Nat} (hi : i ≤ ys.length) : (rangesI ys i).length = i := by rw [rangesI, List.length_map, List.length_take]; omega
/-- a bad item: no set -/
theorem set_bad {s : ByteArray} {ys : List ByteArray} (hy : ys.map bs = splitB 44 (bs s)) {i : Nat} (hi : i < ys.length) (h : okItem (bs ys[i]) = false) : setOk (bs s) = false := by
  cases e : setOk (bs s) with
  | false => rfl
  | true =>
    rw [setOk, items, ← hy, Bool.and_eq_true] at e
    have := List.all_eq_true.1 e.1 (bs ys[i]) (List.mem_map.2 ⟨ys[i], List.getElem_mem hi, rfl⟩)
    rw [h] at this; cases this
theorem set_long {s : ByteArray} {ys : List ByteArray} (hy : ys.map bs = splitB 44 (bs s)) (hi : 50 < ys.length) : setOk (bs s) = false := by
  cases e : setOk (bs s) with
  | false => rfl
  | true =>
    rw [setOk, items, ← hy, Bool.and_eq_true, decide_eq_true_eq, List.length_map] at e
    omega
theorem set_good {s : ByteArray} {ys : List ByteArray} (hy : ys.map bs = splitB 44 (bs s)) (h : itemsOk ys ys.length = true) (hl : ys.length ≤ 50) : setOk (bs s) = true ∧ setL (bs s) = rangesI ys ys.length := by
  rw [itemsOk, List.take_length] at h
  have e : setOk (bs s) = true := by rw [setOk, items, ← hy, h, List.length_map, decide_eq_true hl]; rfl
  refine ⟨e, ?_⟩
  rw [setL, if_pos e, items, ← hy, rangesI, List.take_length, List.map_map]; rfl
theorem set_none {l : Bs} (h : setOk l = false) : setL l = [] := by rw [setL, if_neg (by rw [h]; decide)]
/-- append of one range to a row of the call's own, as a step of a region that draws -/
theorem step_append_one {ops : Array Oper} {o : Oper} {a : Act} {w : World} {K : Act → World → Prop} {Q : Exit → Act → World → Prop} {E : Prop} (hg : o.guard = none) (s x : Operand)
    (ho : o.op = .call { callee := .builtin .append, args := #[s, x], argTypes := #[22, 22] }) (base : Nat) (v : Value) (n : Nat) (xs : List (Int × Int)) (hs : a.eval s = v) (hown : w.ownsRow base 28 2 v n (flat xs))
    (g c : Nat) (p q : Int) (hx : a.eval x = .slice (some ⟨g, 0, none⟩) 1 c) (h0 : w.cell? ⟨g, 0, none⟩ = some (.int .i64 p)) (h1 : w.cell? ⟨g, 1, none⟩ = some (.int .i64 q)) (hn : n ≤ 100000) (hbase : base ≤ w.heap.size)
    (hK : ∀ v' w', w'.ownsRow base 28 2 v' (n + 1) (flat (xs ++ [(p, q)])) → w.grownBy w' v.ownBlock → (v'.ownBlock = v.ownBlock ∨ v'.ownBlock = some w.heap.size) → K (a.put o.dst v') w') :
    if Region.wanted o (yielded ops a.tmps) = true then Oper.wp Tryd.prog o a w K Q else E := by
  have hw : Region.wanted o (yielded ops a.tmps) = true := by simp [Region.wanted, hg]
  rw [if_pos hw]
  obtain ⟨i0, hi, hz0, hz1, hz2⟩ := info_parts infoRange
  obtain ⟨v', w', hr, h2, h3, h4, h5⟩ := run_append_own_at (P := Tryd.prog) w base 22 o.type 28 i0 (.agg #[.int .i64 0, .int .i64 0]) 2 16 Tryd.underlying22 hi hz0 hz1 hz2 rfl (by decide) v n (flat xs) hown ⟨g, 0, none⟩ 1 c [.int .i64 p, .int .i64 q] rfl
    (fun j u hu => by
      match j, hu with
      | 0, hu => rw [add_at]; simp at hu; rw [h0, hu]
      | 1, hu => rw [add_at]; simp at hu; rw [h1, hu]) (by intro u hu; simp at hu; rcases hu with rfl | rfl <;> rfl) (by unfold maxLen; omega) (by omega) hbase
  unfold Oper.wp execOp
  simp only [ho, resolve, invoke, builtin, Sem.run_bind, Sem.run_pure, Result.andThen_ok, List.map_toArray, List.map_cons, List.map_nil, hs, hx, hr]
  exact hK _ _ (by rw [flat_append]; exact h2) h3 h5
theorem row_cell2 {W : World} {a b : Value} {t : TypeId} {w1 : World} (h : w1 = W.alloc (Obj.cells #[a, b] t)) : w1.cell? ⟨W.heap.size, 0, none⟩ = some a := by
  have hP : w1.heap[W.heap.size]? = some (Obj.cells #[a, b] t) := by rw [h]; exact World.alloc_heap_new W _
  exact (two_cells hP).1
theorem row_cell2b {W : World} {a b : Value} {t : TypeId} {w1 : World} (h : w1 = W.alloc (Obj.cells #[a, b] t)) : w1.cell? ⟨W.heap.size, 1, none⟩ = some b := by
  have hP : w1.heap[W.heap.size]? = some (Obj.cells #[a, b] t) := by rw [h]; exact World.alloc_heap_new W _
  exact (two_cells hP).2.1
theorem star_text (z : ByteArray) : (z.toList == [42]) = decide (bs z = [42]) := by rw [Lib.toList_data, Bool.eq_iff_iff]; simp
theorem endOk_text (z : ByteArray) : endOk (bs z) = ((z.toList == [42]) || !decide (numN (bs z) = 0)) := by rw [endOk_num, star_text]
theorem star_num {z : ByteArray} (h : (z.toList == [42]) = true) : numN (bs z) = 0 := by
  rw [star_text, decide_eq_true_iff] at h; rw [h]; exact Pl.numN_star
set_option maxHeartbeats 8000000 in
set_option maxRecDepth 100000 in
theorem refSet_walk (s : ByteArray) (w : World) (hs : s.size ≤ 1000000) :
    Calls Tryd.prog 18 #[.string s] w fun e w' =>
      ∃ r, e = .returned (.tuple #[r, .bool (setOk (bs s))]) ∧ w'.ownsRow w.heap.size 28 2 r (setL (bs s)).length (flat (setL (bs s))) ∧ Below w.heap.size w w' := by
  obtain ⟨i0, hi, hz0, hz1, hz2⟩ := info_parts infoRange
  obtain ⟨j0, hj, hj0, hj1, hj2⟩ := info_parts infoInt
  have HO0 := Lib.hid (own_empty w 28 2)
  have HB0 := Lib.hid ((Below.refl w.heap.size w).alloc (Nat.le_refl _) (Obj.cells #[] 28))
  have z0 : (w.alloc (Obj.cells #[] 28)).heap.size = w.heap.size + 1 := by simp
  generalize hw : w.alloc (Obj.cells #[] 28) = w0 at *
  have Z0 := Lib.hid z0
  clear z0
  go_enter Tryd.func18, Tryd.ntmps18
  go_wp2_with fail
  refine (refCut_walk s 44 w0 hs).mono ?_
  rintro e w1 ⟨v, ys, rfl, hy, hP, hB1⟩
  obtain ⟨_, A, c, rfl, hc, hcells⟩ := own_strings hP
  have hsz : ∀ y ∈ ys, y.size ≤ s.size := fun y hm => by
    have := Pl.split_small 44 (bs s) (bs y) (by rw [← hy]; exact List.mem_map.2 ⟨y, hm, rfl⟩)
    rw [bs_size, bs_size] at this; exact this
  have hln : ys.length ≤ s.size + 1 := by have := Pl.split_few 44 (bs s); rw [← hy, List.length_map, bs_size] at this; exact this
  have HY := Lib.hid hy
  have HSZ := Lib.hid hsz
  have HP := Lib.hid hP
  have HB1 := Lib.hid (HB0.out.trans (hB1.mono (by have := Z0.out; omega)))
  have HO1 := Lib.hid (own_below HO0.out hB1)
  have HAp := Lib.hid (show apart (.slice A ys.length c) (.slice (some ⟨w.heap.size, 0, none⟩) 0 0) by
    intro k hk h
    have h1 := own_base hP k hk
    have h2 : w.heap.size = k := by simpa [Value.ownBlock] using h
    have := Z0.out
    omega)
  clear hy hsz hP hB1 hcells hw HO0 HB0
  go_wp2
  go_loopw [4, 16] (fun u x wr => ∃ i : Nat, i ≤ ys.length ∧ x = .int .i64 i ∧ i ≤ 50 ∧ Hid (itemsOk ys i = true) ∧ Hid (wr.ownsRow w.heap.size 28 2 u i (flat (rangesI ys i))) ∧ Hid (wr.ownsRow w0.heap.size 9 1 (.slice A ys.length c) ys.length (ys.map Value.string)) ∧ Hid (apart (.slice A ys.length c) u) ∧ Hid (Below w.heap.size w wr)) (fun _ x _ => ys.length - (intOf x).toNat)
  case atStart => exact ⟨0, Nat.zero_le _, rfl, Nat.zero_le _, Lib.hid rfl, HO1, HP, HAp, HB1⟩
  case round =>
    obtain ⟨i, hi2, rfl, h50, HK, HO, HQ, HA, HB⟩ := hrel
    obtain ⟨C, f, rfl, _⟩ := ranges_own (rangesI_length ys hi2) (by omega) HO.out
    by_cases hin : i < ys.length
    · obtain ⟨_, A', c', e', _, hcells⟩ := own_strings HQ.out
      obtain ⟨g, rfl, hg, hg0, hx⟩ := hcells (by omega)
      obtain ⟨rfl, _, rfl⟩ : A = some ⟨g, 0, none⟩ ∧ True ∧ c = c' := by cases e'; exact ⟨rfl, trivial, rfl⟩
      have cx := hx i ys[i] (List.getElem?_eq_getElem hin)
      rw [Nat.zero_add] at cx
      have hps := HSZ.out ys[i] (List.getElem_mem hin)
      have HBad := Lib.hid (set_bad HY.out hin)
      have HNx := Lib.hid (itemsOk_next hin HK.out)
      have HRx := Lib.hid (rangesI_next hin)
      clear hx hcells e'
      generalize ys[i] = p at *
      go_wp2_with fail
      refine (refCut_walk p 58 wr (by omega)).mono ?_
      rintro e w2 ⟨v2, zs, rfl, hz, hP2, hB2⟩
      obtain ⟨_, Z, cz, rfl, hcz, hzc⟩ := own_strings hP2
      have HB2 := Lib.hid (below_then HB.out hB2)
      have HO2 := Lib.hid (own_below HO.out hB2)
      have HQ2 := Lib.hid (own_below HQ.out hB2)
      have hzs : ∀ y ∈ zs, y.size ≤ p.size := fun y hm => by
        have := Pl.split_small 58 (bs p) (bs y) (by rw [← hz]; exact List.mem_map.2 ⟨y, hm, rfl⟩)
        rw [bs_size, bs_size] at this; exact this
      clear hB2 hP2 cx
      by_cases hz3 : 2 < zs.length
      · have hbad := HBad.out (item_more (by rw [← hz, List.length_map]; exact hz3))
        have HL := Lib.hid (set_none hbad)
        have HE := Lib.hid hbad
        clear hbad hz hzc hzs
        go_wp2
        go_ret2
        exact ⟨_, by rw [HE.out]; rfl, by rw [HL.out]; exact World.ownsRow_nil _ _ _ _, HB2.out⟩
      · by_cases h5 : i = 50
        · have hbad := set_long HY.out (by omega)
          have HL := Lib.hid (set_none hbad)
          have HE := Lib.hid hbad
          subst h5
          clear hbad hz hzc hzs
          go_wp2
          go_ret2
          exact ⟨_, by rw [HE.out]; rfl, by rw [HL.out]; exact World.ownsRow_nil _ _ _ _, HB2.out⟩
        · match zs, hz, hz3, hzc, hzs, hcz with
          | [], hz, _, _, _, _ =>
            obtain ⟨x, t, e⟩ := Pl.splitB_ne 58 (bs p)
            rw [e] at hz; simp at hz
          | [z0], hz, hz3, hzc, hzs, hcz =>
            obtain ⟨gz, rfl, hgz, _, hzx⟩ := hzc (by simp)
            have K1 := Lib.hid ((item_one (l := bs p) (a := bs z0) hz.symm).1)
            have K2 := Lib.hid ((item_one (l := bs p) (a := bs z0) hz.symm).2)
            have hsz0 := hzs z0 (by simp)
            have X0 := Lib.hid (hzx 0 z0 rfl)
            have hLa : Below w2.heap.size w2 (w2.alloc (Obj.cells #[] 3)) := (Below.refl _ _).alloc (Nat.le_refl _) _
            have HN0 := Lib.hid (own_empty w2 3 1)
            have x0 := (hLa.cell (p := ⟨gz, 0, none⟩) hgz).trans X0.out
            generalize hw3 : w2.alloc (Obj.cells #[] 3) = w3 at *
            have zL0 : w2.heap.size ≤ w3.heap.size := hLa.size
            have HL0 := Lib.hid hLa
            clear hLa hzx hzs hzc hz hz3
            go_wp2
            clear hw3
            refine wp_loop_rounds 2 ?_
            rw [rounds_succ]
            go_wp2_with fail
            refine (refNumber_walk z0 _ (by omega)).mono ?_
            rintro e W ⟨rfl, rfl⟩
            cases hst0 : (z0.toList == [42]) with
            | true =>
              have hK0 : numN (bs z0) = 0 := star_num hst0
              have EOK0 := Lib.hid (show endOk (bs z0) = true by rw [endOk_text, hst0]; rfl)
              have hst : (z0.toList != [42]) = false := by rw [bne, hst0]; rfl
              rw [hK0]
              have HK0 := Lib.hid hK0
              clear hK0
              go_wp2_with (at_builtin; refine wpList_append_own _ rfl _ _ 54 rfl w2.heap.size 3 j0 (.int .i64 0) 1 8 Tryd.underlying54 hj hj0 hj1 hj2 rfl (by decide) _ _ _ rfl (HN0.out.alloc _) ⟨w3.heap.size, 0, none⟩ 1 1 [(.int .i64 (((0 : Nat) : Nat) : Int))] rfl rfl ?c1a ?c1b ?c1c ?c1d ?c1e ?_)
              case c1a => exact cell_one_new w3 (.int .i64 (((0 : Nat) : Nat) : Int)) 3
              case c1b => simp [Value.oneCell']
              case c1c => unfold maxLen; omega
              case c1d => omega
              case c1e => simp; omega
              intro v0 w4 hown hgrow _
              have hL1 := below_append (HL0.out.alloc zL0 _) hgrow HN0.out (Nat.le_refl _) (by simp; omega)
              have HN1 := Lib.hid (show w4.ownsRow w2.heap.size 3 1 v0 1 (([((0 : Nat) : Int)] : List Int).map (Value.int .i64)) by simpa using hown)
              have HL1 := Lib.hid hL1
              have zL1 : w2.heap.size ≤ w4.heap.size := hL1.size
              clear hown hgrow hL1 hst
              obtain ⟨_, An, cn, rfl, hnc⟩ := own_cells HN1.out
              obtain ⟨gn, rfl, hgn, _, hnx⟩ := hnc (by omega)
              have n0 : w4.cell? ⟨gn, 0, none⟩ = some (.int .i64 ((0 : Nat) : Int)) := hnx 0 (by omega)
              clear hnx hnc
              go_wp2
              rw [rounds_succ]
              go_wp2
              have HW := Lib.hid (below_then HB2.out HL1.out)
              have HOd := Lib.hid (show (w4.drew).ownsRow w.heap.size 28 2 (.slice C i f) i (flat (rangesI ys i)) from own_below HO2.out (below_draws HL1.out 1))
              have HQd := Lib.hid (show (w4.drew).ownsRow w0.heap.size 9 1 (.slice (some ⟨g, 0, none⟩) ys.length c) ys.length (ys.map Value.string) from own_below HQ2.out (below_draws HL1.out 1))
              have HWd := Lib.hid (show Below w.heap.size w (w4.drew) from below_draws HW.out 1)
              have zW := HW.out.size
              have zd : (w4.drew).heap.size = w4.heap.size := rfl
              have m0 : (w4.drew).cell? ⟨gn, 0, none⟩ = some (.int .i64 ((0 : Nat) : Int)) := n0
              have m1 : (w4.drew).cell? ⟨gn, 0, none⟩ = some (.int .i64 ((0 : Nat) : Int)) := n0
              have hgd : gn < (w4.drew).heap.size := hgn
              clear zd
              have wr0 : IntKind.i64.wrap 0 = 0 := by decide +kernel
              have wr1 : IntKind.i64.wrap 1 = 1 := by decide +kernel
              generalize hwd : w4.drew = wd at *
              have zdd : w.heap.size ≤ wd.heap.size := HWd.out.size
              go_region_law (refine step_append_one rfl (.tmp 50) (.tmp 61) rfl w.heap.size _ i (rangesI ys i) (by simp [Act.eval, Act.put]) (HOd.out.alloc _) wd.heap.size 1 ((0 : Nat) : Int) ((0 : Nat) : Int) (by simp [Act.eval, Act.put]) (row_cell2 rfl) (row_cell2b rfl) (by omega) (by simp; omega) ?_; intro v9 w9 hown hg9 h9)
              all_goals
                have HA9 := Lib.hid (apart_next HA.out (own_block_lt HQd.out) h9 (by simp))
                have HQ9 := Lib.hid (own_grown (HQd.out.alloc _) hg9 HA.out)
                have HB9 := Lib.hid ((HWd.out.alloc zdd _).grown hg9 (by simp; omega) (fun k hk => own_base HOd.out k hk))
                have HO9 := Lib.hid hown
                clear hown hg9 h9 m0 m1 n0
                go_wp2
                go_roundw
                case rel => exact ⟨i + 1, by omega, by go_num, by omega, Lib.hid (HNx.out (by simp [K1.out, EOK0.out])), Lib.hid (by rw [HRx.out, K2.out, HK0.out]; exact HO9.out), HQ9, HA9, HB9⟩
                case measure => simp [intOf]; omega
            | false =>
              have hst : (z0.toList != [42]) = true := by rw [bne, hst0]; rfl
              by_cases hK : numN (bs z0) = 0
              · rw [hK]
                have hbad := HBad.out (by rw [K1.out]; simp only [endOk_text, hst0, hK]; simp)
                have HL := Lib.hid (set_none hbad)
                have HE := Lib.hid hbad
                clear hbad
                go_wp2
                go_ret2
                exact ⟨_, by rw [HE.out]; rfl, by rw [HL.out]; exact World.ownsRow_nil _ _ _ _, below_then HB2.out HL0.out⟩
              · have EOK0 := Lib.hid (show endOk (bs z0) = true by rw [endOk_text, hst0, decide_eq_false hK]; rfl)
                have hKp0 : 0 < numN (bs z0) := by omega
                clear hK
                generalize hN0 : numN (bs z0) = N0 at *
                go_wp2_with (at_builtin; refine wpList_append_own _ rfl _ _ 54 rfl w2.heap.size 3 j0 (.int .i64 0) 1 8 Tryd.underlying54 hj hj0 hj1 hj2 rfl (by decide) _ _ _ rfl (HN0.out.alloc _) ⟨w3.heap.size, 0, none⟩ 1 1 [(.int .i64 ((N0 : Nat) : Int))] rfl rfl ?c3a ?c3b ?c3c ?c3d ?c3e ?_)
                case c3a => exact cell_one_new w3 (.int .i64 ((N0 : Nat) : Int)) 3
                case c3b => simp [Value.oneCell']
                case c3c => unfold maxLen; omega
                case c3d => omega
                case c3e => simp; omega
                intro v0 w4 hown hgrow _
                have hL1 := below_append (HL0.out.alloc zL0 _) hgrow HN0.out (Nat.le_refl _) (by simp; omega)
                have HN1 := Lib.hid (show w4.ownsRow w2.heap.size 3 1 v0 1 (([((N0 : Nat) : Int)] : List Int).map (Value.int .i64)) by simpa using hown)
                have HL1 := Lib.hid hL1
                have zL1 : w2.heap.size ≤ w4.heap.size := hL1.size
                clear hown hgrow hL1 hst
                obtain ⟨_, An, cn, rfl, hnc⟩ := own_cells HN1.out
                obtain ⟨gn, rfl, hgn, _, hnx⟩ := hnc (by omega)
                have n0 : w4.cell? ⟨gn, 0, none⟩ = some (.int .i64 ((N0 : Nat) : Int)) := hnx 0 (by omega)
                clear hnx hnc
                go_wp2
                rw [rounds_succ]
                go_wp2
                have HW := Lib.hid (below_then HB2.out HL1.out)
                have HOd := Lib.hid (show (w4.drew).ownsRow w.heap.size 28 2 (.slice C i f) i (flat (rangesI ys i)) from own_below HO2.out (below_draws HL1.out 1))
                have HQd := Lib.hid (show (w4.drew).ownsRow w0.heap.size 9 1 (.slice (some ⟨g, 0, none⟩) ys.length c) ys.length (ys.map Value.string) from own_below HQ2.out (below_draws HL1.out 1))
                have HWd := Lib.hid (show Below w.heap.size w (w4.drew) from below_draws HW.out 1)
                have zW := HW.out.size
                have zd : (w4.drew).heap.size = w4.heap.size := rfl
                have m0 : (w4.drew).cell? ⟨gn, 0, none⟩ = some (.int .i64 ((N0 : Nat) : Int)) := n0
                have m1 : (w4.drew).cell? ⟨gn, 0, none⟩ = some (.int .i64 ((N0 : Nat) : Int)) := n0
                have hgd : gn < (w4.drew).heap.size := hgn
                clear zd
                have wr0 : IntKind.i64.wrap 0 = 0 := by decide +kernel
                have wr1 : IntKind.i64.wrap 1 = 1 := by decide +kernel
                generalize hwd : w4.drew = wd at *
                have zdd : w.heap.size ≤ wd.heap.size := HWd.out.size
                go_region_law (refine step_append_one rfl (.tmp 50) (.tmp 61) rfl w.heap.size _ i (rangesI ys i) (by simp [Act.eval, Act.put]) (HOd.out.alloc _) wd.heap.size 1 ((N0 : Nat) : Int) ((N0 : Nat) : Int) (by simp [Act.eval, Act.put]) (row_cell2 rfl) (row_cell2b rfl) (by omega) (by simp; omega) ?_; intro v9 w9 hown hg9 h9)
                all_goals
                  have HA9 := Lib.hid (apart_next HA.out (own_block_lt HQd.out) h9 (by simp))
                  have HQ9 := Lib.hid (own_grown (HQd.out.alloc _) hg9 HA.out)
                  have HB9 := Lib.hid ((HWd.out.alloc zdd _).grown hg9 (by simp; omega) (fun k hk => own_base HOd.out k hk))
                  have HO9 := Lib.hid hown
                  clear hown hg9 h9 m0 m1 n0
                  go_wp2
                  go_roundw
                  case rel => exact ⟨i + 1, by omega, by go_num, by omega, Lib.hid (HNx.out (by simp [K1.out, EOK0.out])), Lib.hid (by rw [HRx.out, K2.out]; exact HO9.out), HQ9, HA9, HB9⟩
                  case measure => simp [intOf]; omega
          | [z0, z1], hz, hz3, hzc, hzs, hcz =>
            obtain ⟨gz, rfl, hgz, _, hzx⟩ := hzc (by simp)
            have K1 := Lib.hid ((item_two (l := bs p) (a := bs z0) (b := bs z1) hz.symm).1)
            have K2 := Lib.hid ((item_two (l := bs p) (a := bs z0) (b := bs z1) hz.symm).2)
            have hsz0 := hzs z0 (by simp)
            have hsz1 := hzs z1 (by simp)
            have X0 := Lib.hid (hzx 0 z0 rfl)
            have X1 := Lib.hid (hzx 1 z1 rfl)
            have hLa : Below w2.heap.size w2 (w2.alloc (Obj.cells #[] 3)) := (Below.refl _ _).alloc (Nat.le_refl _) _
            have HN0 := Lib.hid (own_empty w2 3 1)
            have x0 := (hLa.cell (p := ⟨gz, 0, none⟩) hgz).trans X0.out
            generalize hw3 : w2.alloc (Obj.cells #[] 3) = w3 at *
            have zL0 : w2.heap.size ≤ w3.heap.size := hLa.size
            have HL0 := Lib.hid hLa
            clear hLa hzx hzs hzc hz hz3
            go_wp2
            clear hw3
            refine wp_loop_rounds 3 ?_
            rw [rounds_succ]
            go_wp2_with fail
            refine (refNumber_walk z0 _ (by omega)).mono ?_
            rintro e W ⟨rfl, rfl⟩
            cases hst0 : (z0.toList == [42]) with
            | true =>
              have hK0 : numN (bs z0) = 0 := star_num hst0
              have EOK0 := Lib.hid (show endOk (bs z0) = true by rw [endOk_text, hst0]; rfl)
              have hst : (z0.toList != [42]) = false := by rw [bne, hst0]; rfl
              rw [hK0]
              have HK0 := Lib.hid hK0
              clear hK0
              go_wp2_with (at_builtin; refine wpList_append_own _ rfl _ _ 54 rfl w2.heap.size 3 j0 (.int .i64 0) 1 8 Tryd.underlying54 hj hj0 hj1 hj2 rfl (by decide) _ _ _ rfl (HN0.out.alloc _) ⟨w3.heap.size, 0, none⟩ 1 1 [(.int .i64 (((0 : Nat) : Nat) : Int))] rfl rfl ?c5a ?c5b ?c5c ?c5d ?c5e ?_)
              case c5a => exact cell_one_new w3 (.int .i64 (((0 : Nat) : Nat) : Int)) 3
              case c5b => simp [Value.oneCell']
              case c5c => unfold maxLen; omega
              case c5d => omega
              case c5e => simp; omega
              intro v0 w4 hown hgrow _
              have hL1 := below_append (HL0.out.alloc zL0 _) hgrow HN0.out (Nat.le_refl _) (by simp; omega)
              have HN1 := Lib.hid (show w4.ownsRow w2.heap.size 3 1 v0 1 (([((0 : Nat) : Int)] : List Int).map (Value.int .i64)) by simpa using hown)
              have HL1 := Lib.hid hL1
              have zL1 : w2.heap.size ≤ w4.heap.size := hL1.size
              have x1 := (hL1.cell (p := ⟨gz, 1, none⟩) hgz).trans X1.out
              clear hown hgrow hL1 hst
              clear x0
              obtain ⟨_, An, cn, rfl, _⟩ := own_cells HN1.out
              go_wp2
              rw [rounds_succ]
              go_wp2_with fail
              refine (refNumber_walk z1 _ (by omega)).mono ?_
              rintro e W ⟨rfl, rfl⟩
              cases hst1 : (z1.toList == [42]) with
              | true =>
                have hK1 : numN (bs z1) = 0 := star_num hst1
                have EOK1 := Lib.hid (show endOk (bs z1) = true by rw [endOk_text, hst1]; rfl)
                have hst : (z1.toList != [42]) = false := by rw [bne, hst1]; rfl
                rw [hK1]
                have HK1 := Lib.hid hK1
                clear hK1
                go_wp2_with (at_builtin; refine wpList_append_own _ rfl _ _ 54 rfl w2.heap.size 3 j0 (.int .i64 0) 1 8 Tryd.underlying54 hj hj0 hj1 hj2 rfl (by decide) _ _ _ rfl (HN1.out.alloc _) ⟨w4.heap.size, 0, none⟩ 1 1 [(.int .i64 (((0 : Nat) : Nat) : Int))] rfl rfl ?c6a ?c6b ?c6c ?c6d ?c6e ?_)
                case c6a => exact cell_one_new w4 (.int .i64 (((0 : Nat) : Nat) : Int)) 3
                case c6b => simp [Value.oneCell']
                case c6c => unfold maxLen; omega
                case c6d => omega
                case c6e => simp; omega
                intro v1 w5 hown hgrow _
                have hL2 := below_append (HL1.out.alloc zL1 _) hgrow HN1.out (Nat.le_refl _) (by simp; omega)
                have HN2 := Lib.hid (show w5.ownsRow w2.heap.size 3 1 v1 2 (([((0 : Nat) : Int), ((0 : Nat) : Int)] : List Int).map (Value.int .i64)) by simpa using hown)
                have HL2 := Lib.hid hL2
                have zL2 : w2.heap.size ≤ w5.heap.size := hL2.size
                clear hown hgrow hL2 hst
                obtain ⟨_, An, cn, rfl, hnc⟩ := own_cells HN2.out
                obtain ⟨gn, rfl, hgn, _, hnx⟩ := hnc (by omega)
                have n0 : w5.cell? ⟨gn, 0, none⟩ = some (.int .i64 ((0 : Nat) : Int)) := hnx 0 (by omega)
                have n1 : w5.cell? ⟨gn, 1, none⟩ = some (.int .i64 ((0 : Nat) : Int)) := hnx 1 (by omega)
                clear hnx hnc
                go_wp2
                rw [rounds_succ]
                go_wp2
                have HW := Lib.hid (below_then HB2.out HL2.out)
                have HOd := Lib.hid (show (w5.drew).ownsRow w.heap.size 28 2 (.slice C i f) i (flat (rangesI ys i)) from own_below HO2.out (below_draws HL2.out 1))
                have HQd := Lib.hid (show (w5.drew).ownsRow w0.heap.size 9 1 (.slice (some ⟨g, 0, none⟩) ys.length c) ys.length (ys.map Value.string) from own_below HQ2.out (below_draws HL2.out 1))
                have HWd := Lib.hid (show Below w.heap.size w (w5.drew) from below_draws HW.out 1)
                have zW := HW.out.size
                have zd : (w5.drew).heap.size = w5.heap.size := rfl
                have m0 : (w5.drew).cell? ⟨gn, 0, none⟩ = some (.int .i64 ((0 : Nat) : Int)) := n0
                have m1 : (w5.drew).cell? ⟨gn, 1, none⟩ = some (.int .i64 ((0 : Nat) : Int)) := n1
                have hgd : gn < (w5.drew).heap.size := hgn
                clear zd
                have wr0 : IntKind.i64.wrap 0 = 0 := by decide +kernel
                have wr1 : IntKind.i64.wrap 1 = 1 := by decide +kernel
                generalize hwd : w5.drew = wd at *
                have zdd : w.heap.size ≤ wd.heap.size := HWd.out.size
                go_region_law (refine step_append_one rfl (.tmp 50) (.tmp 61) rfl w.heap.size _ i (rangesI ys i) (by simp [Act.eval, Act.put]) (HOd.out.alloc _) wd.heap.size 1 ((0 : Nat) : Int) ((0 : Nat) : Int) (by simp [Act.eval, Act.put]) (row_cell2 rfl) (row_cell2b rfl) (by omega) (by simp; omega) ?_; intro v9 w9 hown hg9 h9)
                all_goals
                  have HA9 := Lib.hid (apart_next HA.out (own_block_lt HQd.out) h9 (by simp))
                  have HQ9 := Lib.hid (own_grown (HQd.out.alloc _) hg9 HA.out)
                  have HB9 := Lib.hid ((HWd.out.alloc zdd _).grown hg9 (by simp; omega) (fun k hk => own_base HOd.out k hk))
                  have HO9 := Lib.hid hown
                  clear hown hg9 h9 m0 m1 n0 n1
                  go_wp2
                  go_roundw
                  case rel => exact ⟨i + 1, by omega, by go_num, by omega, Lib.hid (HNx.out (by simp [K1.out, EOK0.out, EOK1.out])), Lib.hid (by rw [HRx.out, K2.out, HK0.out, HK1.out]; exact HO9.out), HQ9, HA9, HB9⟩
                  case measure => simp [intOf]; omega
              | false =>
                have hst : (z1.toList != [42]) = true := by rw [bne, hst1]; rfl
                by_cases hK : numN (bs z1) = 0
                · rw [hK]
                  have hbad := HBad.out (by rw [K1.out]; simp only [endOk_text, hst1, hK]; simp)
                  have HL := Lib.hid (set_none hbad)
                  have HE := Lib.hid hbad
                  clear hbad
                  go_wp2
                  go_ret2
                  exact ⟨_, by rw [HE.out]; rfl, by rw [HL.out]; exact World.ownsRow_nil _ _ _ _, below_then HB2.out HL1.out⟩
                · have EOK1 := Lib.hid (show endOk (bs z1) = true by rw [endOk_text, hst1, decide_eq_false hK]; rfl)
                  have hKp1 : 0 < numN (bs z1) := by omega
                  clear hK
                  generalize hN1 : numN (bs z1) = N1 at *
                  go_wp2_with (at_builtin; refine wpList_append_own _ rfl _ _ 54 rfl w2.heap.size 3 j0 (.int .i64 0) 1 8 Tryd.underlying54 hj hj0 hj1 hj2 rfl (by decide) _ _ _ rfl (HN1.out.alloc _) ⟨w4.heap.size, 0, none⟩ 1 1 [(.int .i64 ((N1 : Nat) : Int))] rfl rfl ?c8a ?c8b ?c8c ?c8d ?c8e ?_)
                  case c8a => exact cell_one_new w4 (.int .i64 ((N1 : Nat) : Int)) 3
                  case c8b => simp [Value.oneCell']
                  case c8c => unfold maxLen; omega
                  case c8d => omega
                  case c8e => simp; omega
                  intro v1 w5 hown hgrow _
                  have hL2 := below_append (HL1.out.alloc zL1 _) hgrow HN1.out (Nat.le_refl _) (by simp; omega)
                  have HN2 := Lib.hid (show w5.ownsRow w2.heap.size 3 1 v1 2 (([((0 : Nat) : Int), ((N1 : Nat) : Int)] : List Int).map (Value.int .i64)) by simpa using hown)
                  have HL2 := Lib.hid hL2
                  have zL2 : w2.heap.size ≤ w5.heap.size := hL2.size
                  clear hown hgrow hL2 hst
                  obtain ⟨_, An, cn, rfl, hnc⟩ := own_cells HN2.out
                  obtain ⟨gn, rfl, hgn, _, hnx⟩ := hnc (by omega)
                  have n0 : w5.cell? ⟨gn, 0, none⟩ = some (.int .i64 ((0 : Nat) : Int)) := hnx 0 (by omega)
                  have n1 : w5.cell? ⟨gn, 1, none⟩ = some (.int .i64 ((N1 : Nat) : Int)) := hnx 1 (by omega)
                  clear hnx hnc
                  go_wp2
                  rw [rounds_succ]
                  go_wp2
                  have HW := Lib.hid (below_then HB2.out HL2.out)
                  have HOd := Lib.hid (show (w5.drew).ownsRow w.heap.size 28 2 (.slice C i f) i (flat (rangesI ys i)) from own_below HO2.out (below_draws HL2.out 1))
                  have HQd := Lib.hid (show (w5.drew).ownsRow w0.heap.size 9 1 (.slice (some ⟨g, 0, none⟩) ys.length c) ys.length (ys.map Value.string) from own_below HQ2.out (below_draws HL2.out 1))
                  have HWd := Lib.hid (show Below w.heap.size w (w5.drew) from below_draws HW.out 1)
                  have zW := HW.out.size
                  have zd : (w5.drew).heap.size = w5.heap.size := rfl
                  have m0 : (w5.drew).cell? ⟨gn, 0, none⟩ = some (.int .i64 ((0 : Nat) : Int)) := n0
                  have m1 : (w5.drew).cell? ⟨gn, 1, none⟩ = some (.int .i64 ((N1 : Nat) : Int)) := n1
                  have hgd : gn < (w5.drew).heap.size := hgn
                  clear zd
                  have wr0 : IntKind.i64.wrap 0 = 0 := by decide +kernel
                  have wr1 : IntKind.i64.wrap 1 = 1 := by decide +kernel
                  generalize hwd : w5.drew = wd at *
                  have zdd : w.heap.size ≤ wd.heap.size := HWd.out.size
                  go_region_law (refine step_append_one rfl (.tmp 50) (.tmp 61) rfl w.heap.size _ i (rangesI ys i) (by simp [Act.eval, Act.put]) (HOd.out.alloc _) wd.heap.size 1 ((0 : Nat) : Int) ((N1 : Nat) : Int) (by simp [Act.eval, Act.put]) (row_cell2 rfl) (row_cell2b rfl) (by omega) (by simp; omega) ?_; intro v9 w9 hown hg9 h9)
                  all_goals
                    have HA9 := Lib.hid (apart_next HA.out (own_block_lt HQd.out) h9 (by simp))
                    have HQ9 := Lib.hid (own_grown (HQd.out.alloc _) hg9 HA.out)
                    have HB9 := Lib.hid ((HWd.out.alloc zdd _).grown hg9 (by simp; omega) (fun k hk => own_base HOd.out k hk))
                    have HO9 := Lib.hid hown
                    clear hown hg9 h9 m0 m1 n0 n1
                    go_wp2
                    go_roundw
                    case rel => exact ⟨i + 1, by omega, by go_num, by omega, Lib.hid (HNx.out (by simp [K1.out, EOK0.out, EOK1.out])), Lib.hid (by rw [HRx.out, K2.out, HK0.out]; exact HO9.out), HQ9, HA9, HB9⟩
                    case measure => simp [intOf]; omega
            | false =>
              have hst : (z0.toList != [42]) = true := by rw [bne, hst0]; rfl
              by_cases hK : numN (bs z0) = 0
              · rw [hK]
                have hbad := HBad.out (by rw [K1.out]; simp only [endOk_text, hst0, hK]; simp)
                have HL := Lib.hid (set_none hbad)
                have HE := Lib.hid hbad
                clear hbad
                go_wp2
                go_ret2
                exact ⟨_, by rw [HE.out]; rfl, by rw [HL.out]; exact World.ownsRow_nil _ _ _ _, below_then HB2.out HL0.out⟩
              · have EOK0 := Lib.hid (show endOk (bs z0) = true by rw [endOk_text, hst0, decide_eq_false hK]; rfl)
                have hKp0 : 0 < numN (bs z0) := by omega
                clear hK
                generalize hN0 : numN (bs z0) = N0 at *
                go_wp2_with (at_builtin; refine wpList_append_own _ rfl _ _ 54 rfl w2.heap.size 3 j0 (.int .i64 0) 1 8 Tryd.underlying54 hj hj0 hj1 hj2 rfl (by decide) _ _ _ rfl (HN0.out.alloc _) ⟨w3.heap.size, 0, none⟩ 1 1 [(.int .i64 ((N0 : Nat) : Int))] rfl rfl ?c10a ?c10b ?c10c ?c10d ?c10e ?_)
                case c10a => exact cell_one_new w3 (.int .i64 ((N0 : Nat) : Int)) 3
                case c10b => simp [Value.oneCell']
                case c10c => unfold maxLen; omega
                case c10d => omega
                case c10e => simp; omega
                intro v0 w4 hown hgrow _
                have hL1 := below_append (HL0.out.alloc zL0 _) hgrow HN0.out (Nat.le_refl _) (by simp; omega)
                have HN1 := Lib.hid (show w4.ownsRow w2.heap.size 3 1 v0 1 (([((N0 : Nat) : Int)] : List Int).map (Value.int .i64)) by simpa using hown)
                have HL1 := Lib.hid hL1
                have zL1 : w2.heap.size ≤ w4.heap.size := hL1.size
                have x1 := (hL1.cell (p := ⟨gz, 1, none⟩) hgz).trans X1.out
                clear hown hgrow hL1 hst
                clear x0
                obtain ⟨_, An, cn, rfl, _⟩ := own_cells HN1.out
                go_wp2
                rw [rounds_succ]
                go_wp2_with fail
                refine (refNumber_walk z1 _ (by omega)).mono ?_
                rintro e W ⟨rfl, rfl⟩
                cases hst1 : (z1.toList == [42]) with
                | true =>
                  have hK1 : numN (bs z1) = 0 := star_num hst1
                  have EOK1 := Lib.hid (show endOk (bs z1) = true by rw [endOk_text, hst1]; rfl)
                  have hst : (z1.toList != [42]) = false := by rw [bne, hst1]; rfl
                  rw [hK1]
                  have HK1 := Lib.hid hK1
                  clear hK1
                  go_wp2_with (at_builtin; refine wpList_append_own _ rfl _ _ 54 rfl w2.heap.size 3 j0 (.int .i64 0) 1 8 Tryd.underlying54 hj hj0 hj1 hj2 rfl (by decide) _ _ _ rfl (HN1.out.alloc _) ⟨w4.heap.size, 0, none⟩ 1 1 [(.int .i64 (((0 : Nat) : Nat) : Int))] rfl rfl ?c11a ?c11b ?c11c ?c11d ?c11e ?_)
                  case c11a => exact cell_one_new w4 (.int .i64 (((0 : Nat) : Nat) : Int)) 3
                  case c11b => simp [Value.oneCell']
                  case c11c => unfold maxLen; omega
                  case c11d => omega
                  case c11e => simp; omega
                  intro v1 w5 hown hgrow _
                  have hL2 := below_append (HL1.out.alloc zL1 _) hgrow HN1.out (Nat.le_refl _) (by simp; omega)
                  have HN2 := Lib.hid (show w5.ownsRow w2.heap.size 3 1 v1 2 (([((N0 : Nat) : Int), ((0 : Nat) : Int)] : List Int).map (Value.int .i64)) by simpa using hown)
                  have HL2 := Lib.hid hL2
                  have zL2 : w2.heap.size ≤ w5.heap.size := hL2.size
                  clear hown hgrow hL2 hst
                  obtain ⟨_, An, cn, rfl, hnc⟩ := own_cells HN2.out
                  obtain ⟨gn, rfl, hgn, _, hnx⟩ := hnc (by omega)
                  have n0 : w5.cell? ⟨gn, 0, none⟩ = some (.int .i64 ((N0 : Nat) : Int)) := hnx 0 (by omega)
                  have n1 : w5.cell? ⟨gn, 1, none⟩ = some (.int .i64 ((0 : Nat) : Int)) := hnx 1 (by omega)
                  clear hnx hnc
                  go_wp2
                  rw [rounds_succ]
                  go_wp2
                  have HW := Lib.hid (below_then HB2.out HL2.out)
                  have HOd := Lib.hid (show (w5.drew).ownsRow w.heap.size 28 2 (.slice C i f) i (flat (rangesI ys i)) from own_below HO2.out (below_draws HL2.out 1))
                  have HQd := Lib.hid (show (w5.drew).ownsRow w0.heap.size 9 1 (.slice (some ⟨g, 0, none⟩) ys.length c) ys.length (ys.map Value.string) from own_below HQ2.out (below_draws HL2.out 1))
                  have HWd := Lib.hid (show Below w.heap.size w (w5.drew) from below_draws HW.out 1)
                  have zW := HW.out.size
                  have zd : (w5.drew).heap.size = w5.heap.size := rfl
                  have m0 : (w5.drew).cell? ⟨gn, 0, none⟩ = some (.int .i64 ((N0 : Nat) : Int)) := n0
                  have m1 : (w5.drew).cell? ⟨gn, 1, none⟩ = some (.int .i64 ((0 : Nat) : Int)) := n1
                  have hgd : gn < (w5.drew).heap.size := hgn
                  clear zd
                  have wr0 : IntKind.i64.wrap 0 = 0 := by decide +kernel
                  have wr1 : IntKind.i64.wrap 1 = 1 := by decide +kernel
                  generalize hwd : w5.drew = wd at *
                  have zdd : w.heap.size ≤ wd.heap.size := HWd.out.size
                  go_region_law (refine step_append_one rfl (.tmp 50) (.tmp 61) rfl w.heap.size _ i (rangesI ys i) (by simp [Act.eval, Act.put]) (HOd.out.alloc _) wd.heap.size 1 ((N0 : Nat) : Int) ((0 : Nat) : Int) (by simp [Act.eval, Act.put]) (row_cell2 rfl) (row_cell2b rfl) (by omega) (by simp; omega) ?_; intro v9 w9 hown hg9 h9)
                  all_goals
                    have HA9 := Lib.hid (apart_next HA.out (own_block_lt HQd.out) h9 (by simp))
                    have HQ9 := Lib.hid (own_grown (HQd.out.alloc _) hg9 HA.out)
                    have HB9 := Lib.hid ((HWd.out.alloc zdd _).grown hg9 (by simp; omega) (fun k hk => own_base HOd.out k hk))
                    have HO9 := Lib.hid hown
                    clear hown hg9 h9 m0 m1 n0 n1
                    go_wp2
                    go_roundw
                    case rel => exact ⟨i + 1, by omega, by go_num, by omega, Lib.hid (HNx.out (by simp [K1.out, EOK0.out, EOK1.out])), Lib.hid (by rw [HRx.out, K2.out, HK1.out]; exact HO9.out), HQ9, HA9, HB9⟩
                    case measure => simp [intOf]; omega
                | false =>
                  have hst : (z1.toList != [42]) = true := by rw [bne, hst1]; rfl
                  by_cases hK : numN (bs z1) = 0
                  · rw [hK]
                    have hbad := HBad.out (by rw [K1.out]; simp only [endOk_text, hst1, hK]; simp)
                    have HL := Lib.hid (set_none hbad)
                    have HE := Lib.hid hbad
                    clear hbad
                    go_wp2
                    go_ret2
                    exact ⟨_, by rw [HE.out]; rfl, by rw [HL.out]; exact World.ownsRow_nil _ _ _ _, below_then HB2.out HL1.out⟩
                  · have EOK1 := Lib.hid (show endOk (bs z1) = true by rw [endOk_text, hst1, decide_eq_false hK]; rfl)
                    have hKp1 : 0 < numN (bs z1) := by omega
                    clear hK
                    generalize hN1 : numN (bs z1) = N1 at *
                    go_wp2_with (at_builtin; refine wpList_append_own _ rfl _ _ 54 rfl w2.heap.size 3 j0 (.int .i64 0) 1 8 Tryd.underlying54 hj hj0 hj1 hj2 rfl (by decide) _ _ _ rfl (HN1.out.alloc _) ⟨w4.heap.size, 0, none⟩ 1 1 [(.int .i64 ((N1 : Nat) : Int))] rfl rfl ?c13a ?c13b ?c13c ?c13d ?c13e ?_)
                    case c13a => exact cell_one_new w4 (.int .i64 ((N1 : Nat) : Int)) 3
                    case c13b => simp [Value.oneCell']
                    case c13c => unfold maxLen; omega
                    case c13d => omega
                    case c13e => simp; omega
                    intro v1 w5 hown hgrow _
                    have hL2 := below_append (HL1.out.alloc zL1 _) hgrow HN1.out (Nat.le_refl _) (by simp; omega)
                    have HN2 := Lib.hid (show w5.ownsRow w2.heap.size 3 1 v1 2 (([((N0 : Nat) : Int), ((N1 : Nat) : Int)] : List Int).map (Value.int .i64)) by simpa using hown)
                    have HL2 := Lib.hid hL2
                    have zL2 : w2.heap.size ≤ w5.heap.size := hL2.size
                    clear hown hgrow hL2 hst
                    obtain ⟨_, An, cn, rfl, hnc⟩ := own_cells HN2.out
                    obtain ⟨gn, rfl, hgn, _, hnx⟩ := hnc (by omega)
                    have n0 : w5.cell? ⟨gn, 0, none⟩ = some (.int .i64 ((N0 : Nat) : Int)) := hnx 0 (by omega)
                    have n1 : w5.cell? ⟨gn, 1, none⟩ = some (.int .i64 ((N1 : Nat) : Int)) := hnx 1 (by omega)
                    clear hnx hnc
                    go_wp2
                    rw [rounds_succ]
                    go_wp2
                    have HW := Lib.hid (below_then HB2.out HL2.out)
                    have HOd := Lib.hid (show (w5.drew).ownsRow w.heap.size 28 2 (.slice C i f) i (flat (rangesI ys i)) from own_below HO2.out (below_draws HL2.out 1))
                    have HQd := Lib.hid (show (w5.drew).ownsRow w0.heap.size 9 1 (.slice (some ⟨g, 0, none⟩) ys.length c) ys.length (ys.map Value.string) from own_below HQ2.out (below_draws HL2.out 1))
                    have HWd := Lib.hid (show Below w.heap.size w (w5.drew) from below_draws HW.out 1)
                    have zW := HW.out.size
                    have zd : (w5.drew).heap.size = w5.heap.size := rfl
                    have m0 : (w5.drew).cell? ⟨gn, 0, none⟩ = some (.int .i64 ((N0 : Nat) : Int)) := n0
                    have m1 : (w5.drew).cell? ⟨gn, 1, none⟩ = some (.int .i64 ((N1 : Nat) : Int)) := n1
                    have hgd : gn < (w5.drew).heap.size := hgn
                    clear zd
                    have wr0 : IntKind.i64.wrap 0 = 0 := by decide +kernel
                    have wr1 : IntKind.i64.wrap 1 = 1 := by decide +kernel
                    generalize hwd : w5.drew = wd at *
                    have zdd : w.heap.size ≤ wd.heap.size := HWd.out.size
                    go_region_law (refine step_append_one rfl (.tmp 50) (.tmp 61) rfl w.heap.size _ i (rangesI ys i) (by simp [Act.eval, Act.put]) (HOd.out.alloc _) wd.heap.size 1 ((N0 : Nat) : Int) ((N1 : Nat) : Int) (by simp [Act.eval, Act.put]) (row_cell2 rfl) (row_cell2b rfl) (by omega) (by simp; omega) ?_; intro v9 w9 hown hg9 h9)
                    all_goals
                      have HA9 := Lib.hid (apart_next HA.out (own_block_lt HQd.out) h9 (by simp))
                      have HQ9 := Lib.hid (own_grown (HQd.out.alloc _) hg9 HA.out)
                      have HB9 := Lib.hid ((HWd.out.alloc zdd _).grown hg9 (by simp; omega) (fun k hk => own_base HOd.out k hk))
                      have HO9 := Lib.hid hown
                      clear hown hg9 h9 m0 m1 n0 n1
                      go_wp2
                      go_roundw
                      case rel => exact ⟨i + 1, by omega, by go_num, by omega, Lib.hid (HNx.out (by simp [K1.out, EOK0.out, EOK1.out])), Lib.hid (by rw [HRx.out, K2.out]; exact HO9.out), HQ9, HA9, HB9⟩
                      case measure => simp [intOf]; omega
          | _ :: _ :: _ :: _, _, hz3, _, _, _ => simp at hz3
    · obtain rfl : i = ys.length := by omega
      obtain ⟨g1, g2⟩ := set_good HY.out HK.out h50
      have G1 := Lib.hid g1
      have G2 := Lib.hid g2
      clear g1 g2
      go_wp2
      go_ret2
      exact ⟨_, by rw [G1.out]; rfl, by rw [G2.out, rangesI_length ys (Nat.le_refl _)]; exact HO.out, HB.out⟩
end Go.Proofs.YtfaojafhamhncaaDoor
