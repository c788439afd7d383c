/- The walk of the law SeqsJoins. -/
import Derived.Test.YtfaojafhamhncaaDoorSeqLaws
namespace Go.Proofs.YtfaojafhamhncaaDoor
open Go.RowKit
set_option linter.unusedSimpArgs false
set_option linter.unusedVariables false
/-- the cells of a set, one behind another -/
theorem RangesAt.cells {w : World} {g o n : Nat} {xs : List (Int × Int)} (h : RangesAt w (some ⟨g, o, none⟩) n xs) : ∀ (j : Nat) u, (flat xs)[j]? = some u → w.cell? ((⟨g, o, none⟩ : Addr).add j) = some u := by
  intro j u hu
  have key : ∀ (xs : List (Int × Int)) (o : Nat), (∀ j, j < xs.length → w.cell? ⟨g, o + j * 2, none⟩ = some (.int .i64 (xs.getD j (0, 0)).1) ∧ w.cell? ⟨g, o + j * 2 + 1, none⟩ = some (.int .i64 (xs.getD j (0, 0)).2)) → ∀ (j : Nat) u, (flat xs)[j]? = some u → w.cell? ⟨g, o + j, none⟩ = some u := by
    intro xs
    induction xs with
    | nil => intro o _ j u hu; simp [flat] at hu
    | cons r rs ih =>
      intro o hc j u hu
      match j, hu with
      | 0, hu => simp [flat] at hu; subst hu; simpa using (hc 0 (by simp)).1
      | 1, hu => simp [flat] at hu; subst hu; simpa using (hc 0 (by simp)).2
      | j + 2, hu =>
        have := ih (o + 2) (fun i hi => by
          have := hc (i + 1) (by simpa using hi)
          rw [show o + (i + 1) * 2 = o + 2 + i * 2 by omega] at this
          simpa using this) j u (by simpa [flat] using hu)
        rw [show o + (j + 2) = o + 2 + j by omega]; exact this
  have hn : 0 < n := by
    have h1 := h.1
    cases xs with
    | nil => simp [flat] at hu
    | cons r rs => rw [← h1]; simp
  obtain ⟨g', o', e, _, hc⟩ := h.2.2 hn
  cases e
  have := key xs o (fun j hj => hc j (by have := h.1; omega)) j u hu
  have ha : (⟨g, o, none⟩ : Addr).add j = ⟨g, o + j, none⟩ := by unfold Addr.add; split <;> simp_all
  rw [ha]; exact this
theorem flat_length (xs : List (Int × Int)) : (flat xs).length = xs.length * 2 := by
  induction xs with
  | nil => rfl
  | cons r rs ih => simp [flat, ih]; omega
theorem flat_one (xs : List (Int × Int)) : ∀ u ∈ flat xs, u.oneCell' = true := by
  induction xs with
  | nil => intro u hu; simp [flat] at hu
  | cons r rs ih =>
    intro u hu
    simp only [flat, List.mem_cons] at hu
    rcases hu with rfl | rfl | hu
    · rfl
    · rfl
    · exact ih u hu
/-- append of a set to a row of the call's own -/
theorem append_set {w : World} {ops : Array Oper} {rest : List Oper} {o : Oper} {a : Act} {Q : Exit → Act → World → Prop} (hgd : o.guard = none) (s x : Operand)
    (ho : o.op = .call { callee := .builtin .append, args := #[s, x], argTypes := #[22, 22] }) (base : Nat)
    (v : Value) (n : Nat) (xs : List (Int × Int)) (hs : a.eval s = v) (hown : w.ownsRow base 28 2 v n (flat xs))
    (A : Option Addr) (m c : Nat) (ys : List (Int × Int)) (hx : a.eval x = .slice A m c) (hc : A = none → c = 0) (hY : RangesAt w A m ys) (hn : n ≤ 100000) (hm : m ≤ 100000) (hbase : base ≤ w.heap.size)
    (h : ∀ v' w', w'.ownsRow base 28 2 v' (n + m) (flat (xs ++ ys)) → w.grownBy w' v.ownBlock → wpList Tryd.prog ops Q rest (a.put o.dst v') w') : wpList Tryd.prog ops Q (o :: rest) a w := by
  obtain ⟨i0, hi, hz0, hz1, hz2⟩ := info_parts infoRange
  have hl := hY.1
  by_cases hA : A = none
  · subst hA
    have h0 : m = 0 := by
      by_cases hp : 0 < m
      · obtain ⟨g, o, e, _⟩ := hY.2.2 hp; cases e
      · omega
    subst h0
    obtain rfl : c = 0 := hc rfl
    obtain rfl : ys = [] := List.eq_nil_of_length_eq_zero hl
    refine wpList_append_own_none hgd s x 22 ho base 28 i0 2 Tryd.underlying22 hi v n (flat xs) hs hown hx ?_
    exact h v w (by simpa using hown) (by refine ⟨rfl, rfl, rfl, Nat.le_refl _, fun i _ _ => rfl⟩)
  · obtain ⟨ad, rfl⟩ := Option.ne_none_iff_exists'.1 hA
    refine wpList_append_own w hgd s x 22 ho base 28 i0 (.agg #[.int .i64 0, .int .i64 0]) 2 16 Tryd.underlying22 hi hz0 hz1 hz2 rfl (by decide) v n (flat xs) hs hown ad m c (flat ys) hx (by rw [flat_length, hl]) ?_ (flat_one ys) (by unfold maxLen; omega) (by omega) hbase (fun v' w' h1 h2 _ => h v' w' (by rw [flat_append]; exact h1) h2)
    by_cases hp : 0 < m
    · obtain ⟨g, o, e, _, _⟩ := hY.2.2 hp
      cases e
      exact hY.cells
    · obtain rfl : ys = [] := List.eq_nil_of_length_eq_zero (by omega)
      intro j u hu; simp [flat] at hu
set_option maxHeartbeats 4000000 in
set_option maxRecDepth 100000 in
theorem seqsJoins_walk (A B : Option Addr) (n c m d : Nat) (xs ys : List (Int × Int)) (x : Int) (v : Value) (w : World) (hA : RangesAt w A n xs) (hB : RangesAt w B m ys) (cA : A = none → c = 0) (cB : B = none → d = 0) (hc : w.cell? ⟨0, 0, none⟩ = some v) (hv : ∃ t x, v = .iface t x) :
    Calls Tryd.prog 5 #[.slice A n c, .slice B m d, .int .i64 x] w fun e w' => e = .returned (.bool true) ∧ Below w.heap.size w w' := by
  have HAl := Lib.hid (alive14 v w hc hv)
  have HA := Lib.hid hA
  have HB := Lib.hid hB
  have CA := Lib.hid cA
  have CB := Lib.hid cB
  have zn := hA.2.1
  have zm := hB.2.1
  clear hc hv hA hB cA cB
  by_cases hn : n ≤ 500
  · by_cases hm : m ≤ 500
    · go_enter Tryd.func5, Tryd.ntmps5
      go_wp2_with fail
      refine HAl.out.mono ?_
      rintro e w2 ⟨rfl, hB2⟩
      have HW2 := Lib.hid hB2
      have HA2 := Lib.hid (HA.out.then hB2)
      have HB2 := Lib.hid (HB.out.then hB2)
      clear hB2
      have b3 : Below w2.heap.size w2 (w2.alloc (Obj.cells #[] 28)) := (Below.refl _ _).alloc (Nat.le_refl _) _
      have HA3 := Lib.hid (HA2.out.then b3)
      have HO3 := Lib.hid (own_empty w2 28 2)
      have HB3 := Lib.hid (HB2.out.then b3)
      have HW3 := Lib.hid (below_then HW2.out b3)
      have z3 : w2.heap.size ≤ (w2.alloc (Obj.cells #[] 28)).heap.size := by simp
      have HL3 := Lib.hid b3
      clear b3
      generalize hw3 : w2.alloc (Obj.cells #[] 28) = w3 at *
      go_wp2_with (at_builtin; refine append_set rfl _ _ rfl w2.heap.size _ 0 [] rfl HO3.out A n c xs rfl CA.out HA3.out (by omega) (by omega) z3 ?_)
      intro v1 w4 hown hg
      have hL4 := Below.grown HL3.out hg z3 (fun k hk => own_base HO3.out k hk)
      have HB4 := Lib.hid (HB2.out.then hL4)
      have HA4 := Lib.hid (HA2.out.then hL4)
      have HO4 := Lib.hid hown
      have HL4 := Lib.hid hL4
      have z4 : w2.heap.size ≤ w4.heap.size := hL4.size
      clear hown hg hL4 HO3 HA3 HB3 hw3
      go_wp2_with (at_builtin; refine append_set rfl _ _ rfl w2.heap.size v1 n xs rfl HO4.out B m d ys rfl CB.out HB4.out (by omega) (by omega) z4 ?_)
      intro v2 w5 hown hg
      have hL5 := Below.grown HL4.out hg z4 (fun k hk => own_base HO4.out k hk)
      have HB5 := Lib.hid (HB2.out.then hL5)
      have HA5 := Lib.hid (HA2.out.then hL5)
      have HW5 := Lib.hid (below_then HW2.out hL5)
      obtain ⟨C, f, rfl, hC⟩ := ranges_own (by have h1 := HA2.out.1; have h2 := HB2.out.1; rw [List.length_append]; omega) (by omega) hown
      have HC5 := Lib.hid hC
      clear hown hg hL5 hC HO4 HL4
      go_wp2_with fail
      refine (has_walk C (n + m) f (xs ++ ys) x 9 _ HC5.out).mono ?_
      rintro e w6 ⟨rfl, hB6⟩
      rw [in_both]
      have HW6 := Lib.hid (below_then HW5.out hB6)
      have HA6 := Lib.hid (HA5.out.then hB6)
      have HB6 := Lib.hid (HB5.out.then hB6)
      clear hB6
      go_wp2_with fail
      refine (has_walk A n c xs x 9 _ HA6.out).mono ?_
      rintro e w7 ⟨rfl, hB7⟩
      have HW7 := Lib.hid (below_then HW6.out hB7)
      have HB7 := Lib.hid (HB6.out.then hB7)
      clear hB7
      cases inB xs x 9 with
      | true =>
        rw [Bool.true_or]
        go_wp2
        go_ret
        exact ⟨rfl, HW7.out⟩
      | false =>
        rw [Bool.false_or]
        go_wp2_with fail
        refine (has_walk B m d ys x 9 _ HB7.out).mono ?_
        rintro e w8 ⟨rfl, hB8⟩
        have HW8 := Lib.hid (below_then HW7.out hB8)
        clear hB8
        cases inB ys x 9
        · go_wp2
          go_ret
          exact ⟨rfl, HW8.out⟩
        · go_wp2
          go_ret
          exact ⟨rfl, HW8.out⟩
    · go_enter Tryd.func5, Tryd.ntmps5
      go_wp2_with fail
      refine HAl.out.mono ?_
      rintro e w2 ⟨rfl, hB2⟩
      have HW2 := Lib.hid hB2
      clear hB2
      go_wp2
      go_ret
      exact ⟨rfl, HW2.out⟩
  · go_enter Tryd.func5, Tryd.ntmps5
    go_wp2_with fail
    refine HAl.out.mono ?_
    rintro e w2 ⟨rfl, hB2⟩
    have HW2 := Lib.hid hB2
    clear hB2
    go_wp2
    go_ret
    exact ⟨rfl, HW2.out⟩
end Go.Proofs.YtfaojafhamhncaaDoor
