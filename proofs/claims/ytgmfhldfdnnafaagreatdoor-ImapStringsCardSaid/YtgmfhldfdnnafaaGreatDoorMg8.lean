/- A part of the proofs of the statements on chapter 21: walks of functions that they reach, and plain laws. What is proved is stated in the last text. Conditions: none of its own. -/
import Derived.Test.YtgmfhldfdnnafaaGreatDoorMg7
import Derived.Deep.QuietTactic
import Derived.BigQuiet
namespace Go.Proofs.YtgmfhldfdnnafaaGreatDoor
open Go.RowKit
open Pl (Bs numOk numN dec_numOk dec_numN dec_head dec_digits dec_len dec_ne digB)
open Go.Lib (decDigits)
set_option linter.unusedSimpArgs false
set_option linter.unusedVariables false
theorem tw_app (p : UInt8 → Bool) (W l : Bs) (c : UInt8) (h1 : ∀ x ∈ W, p x = true) (h2 : p c = false) : (W ++ c :: l).takeWhile p = W := by
  induction W with
  | nil => simp [h2]
  | cons a W ih => rw [List.cons_append, List.takeWhile_cons, if_pos (h1 a (by simp)), ih (fun x hx => h1 x (by simp [hx]))]
theorem word_app (more W l : Bs) (c : UInt8) (hne : W ≠ []) (h1 : ∀ x ∈ W, atomB more x = true) (h2 : atomB more c = false) : wordB more (W ++ c :: l) = some (W, c :: l) := by
  simp only [wordB, tw_app _ W l c h1 h2]
  rw [if_neg (by simpa using hne), List.drop_left' rfl]
theorem is_head (c : UInt8) (l : Bs) : isB [c] (c :: l) = some l := by simp [isB, List.isPrefixOf]
theorem is_miss (c d : UInt8) (l : Bs) (h : c ≠ d) : isB [c] (d :: l) = none := by simp [isB, List.isPrefixOf, h]
theorem index_app (D l : Bs) (c : UInt8) (e : Bs) (h : c ∉ D) : Lib.index (D ++ (c :: e ++ l)) (c :: e) = (D.length : Nat) := by
  induction D with
  | nil =>
    have hp : (c :: e).isPrefixOf (c :: e ++ l) = true := List.isPrefixOf_iff_prefix.2 ⟨l, rfl⟩
    rw [List.nil_append, List.cons_append, Lib.index]
    rw [List.cons_append] at hp
    rw [hp]; rfl
  | cons a D ih =>
    have ha : c ≠ a := fun e => h (by simp [e])
    have hp : (c :: e).isPrefixOf (a :: (D ++ (c :: e ++ l))) = false := by simp [List.isPrefixOf, ha]
    rw [List.cons_append, Lib.index, hp, ih (fun hd => h (by simp [hd]))]
    simp only [Bool.false_eq_true, if_false, List.length_cons]
    have hn : ((((D.length : Nat) : Int) == -1) = true) = False := by rw [beq_iff_eq]; simp
    rw [if_neg (by rw [hn]; exact id)]; omega
theorem upTo_app (D l : Bs) (c : UInt8) (e : Bs) (h : c ∉ D) : upToB (c :: e) (D ++ (c :: e ++ l)) = some (D, l) := by
  have hi := index_app D l c e h
  unfold upToB Lib.cut
  rw [hi]
  have h0 : (0 : Int) ≤ ((D.length : Nat) : Int) := by omega
  simp only [if_pos h0, Int.toNat_natCast, if_true]
  rw [List.take_left' rfl, ← List.append_assoc, List.drop_left' (by simp)]
theorem count_dec (n : Nat) (h : n ≤ 100000) : countB (decDigits n) 100000 = some n := by
  unfold countB
  by_cases h0 : n = 0
  · subst h0
    rw [if_pos (by rw [decDigits, dif_pos (by decide)]; rfl)]
  · have hne : ¬ decDigits n = [48] := fun e => dec_head n (by omega) (by rw [e]; rfl)
    rw [if_neg hne, if_pos ⟨dec_numOk n (by omega) (by omega), by rw [dec_numN n (by omega) (by omega)]; exact h⟩, dec_numN n (by omega) (by omega)]
theorem dec_no (n : Nat) : (125 : UInt8) ∉ decDigits n := fun h => by
  have := dec_digits n 125 h
  revert this; decide
/-- a text as a literal is read back -/
theorem lit_back (s : Bs) (h : s.length ≤ 100000) : textsB 1 (32 :: 123 :: (decDigits s.length ++ ([125, 13, 10] ++ s))) = some ([s], []) := by
  have h1 : literalB (decDigits s.length ++ ([125, 13, 10] ++ s)) = some (s, []) := by
    unfold literalB
    rw [upTo_app (decDigits s.length) s 125 [13, 10] (dec_no _)]
    simp only [count_dec s.length h, Nat.le_refl, if_true, List.take_length, List.drop_length]
  have h2 : textB [] (123 :: (decDigits s.length ++ ([125, 13, 10] ++ s))) = some (s, []) := by
    unfold textB
    rw [is_miss 34 123 _ (by decide), is_head]
    exact h1
  unfold textsB
  rw [is_head]
  simp only [h2]
  rfl
def quoteL : Bs → Bs
  | [] => []
  | c :: l => if c = 34 ∨ c = 92 then 92 :: c :: quoteL l else c :: quoteL l
theorem quoteL_snoc (l : Bs) (c : UInt8) : quoteL (l ++ [c]) = quoteL l ++ (if c = 34 ∨ c = 92 then [92, c] else [c]) := by
  induction l with
  | nil => simp only [List.nil_append, quoteL]
  | cons a l ih =>
    rw [List.cons_append, quoteL, quoteL, ih]
    by_cases h : a = 34 ∨ a = 92
    · simp only [if_pos h, List.cons_append]
    · simp only [if_neg h, List.cons_append]
theorem quoteL_len (l : Bs) : (quoteL l).length ≤ 2 * l.length := by
  induction l with
  | nil => simp [quoteL]
  | cons a l ih => rw [quoteL]; split <;> simp only [List.length_cons] <;> omega
theorem quoted_back : ∀ (l : Bs), (∀ c ∈ l, 32 ≤ c.toNat ∧ c.toNat ≤ 126) → quotedB (quoteL l ++ [34]) = some (l, [])
  | [], _ => by simp [quoteL, quotedB]
  | c :: l, h => by
    have ih := quoted_back l (fun x hx => h x (by simp [hx]))
    have hc := h c (by simp)
    by_cases h1 : c = 34 ∨ c = 92
    · rw [quoteL, if_pos h1, List.cons_append, List.cons_append, quotedB]
      rw [if_neg (by decide), if_pos rfl, if_pos h1, ih]; rfl
    · rw [quoteL, if_neg h1, List.cons_append]
      have h34 : c ≠ 34 := fun e => h1 (.inl e)
      have h92 : c ≠ 92 := fun e => h1 (.inr e)
      have e : quotedB (c :: (quoteL l ++ [34])) = (quotedB (quoteL l ++ [34])).map fun p => (c :: p.1, p.2) := by
        have hz : quoteL l ++ [34] ≠ [] := by simp
        generalize quoteL l ++ [34] = z at *
        cases z with
        | nil => exact absurd rfl hz
        | cons d z => rw [quotedB]; rw [if_neg h34, if_neg h92, if_pos (by omega)]
      rw [e, ih]; rfl
theorem quote_back (s : Bs) (h : ∀ c ∈ s, 32 ≤ c.toNat ∧ c.toNat ≤ 126) : textsB 1 (32 :: 34 :: (quoteL s ++ [34])) = some ([s], []) := by
  have h2 : textB [] (34 :: (quoteL s ++ [34])) = some (s, []) := by
    unfold textB
    rw [is_head]
    exact quoted_back s h
  unfold textsB
  rw [is_head]
  simp only [h2]
  rfl
/-- the law's loop over the digits: what is left of a number, and what was written -/
def digSt (m : Nat) (d : Bs) : Bs := if m = 0 ∧ d ≠ [] then d else decDigits m ++ d
theorem digSt_step (m : Nat) (d : Bs) (h : 0 < m ∨ d = []) : digSt (m / 10) (UInt8.ofNat (48 + m % 10) :: d) = digSt m d := by
  unfold digSt
  have hr : ¬ (m = 0 ∧ d ≠ []) := by rintro ⟨h1, h2⟩; rcases h with h | h; omega; exact h2 h
  rw [if_neg hr]
  by_cases h10 : m < 10
  · have e0 : m / 10 = 0 := by omega
    have e1 : m % 10 = m := by omega
    rw [e0, e1, if_pos ⟨rfl, by simp⟩, Pl.dec_one h10]; rfl
  · rw [if_neg (by omega), Pl.dec_more h10]
    simp
end Go.Proofs.YtgmfhldfdnnafaaGreatDoor
namespace Go.Proofs.YtgmfhldfdnnafaaGreatDoor
open Go.RowKit
open Pl (Bs)
set_option linter.unusedSimpArgs false
set_option linter.unusedVariables false
theorem map_str_eq (xs ys : List Bs) : (xs.map str = ys.map str) ↔ xs = ys := by
  constructor
  · intro h
    have := congrArg (List.map bs) h
    simpa [List.map_map, Function.comp_def, bs_str] using this
  · rintro rfl; rfl
theorem RowC.parts {w : World} {T : Nat → Prop} {A : Option Addr} {n c : Nat} {cells : List Value} (h : RowC w T (.slice A n c) n cells) (hn : 0 < n) : ∃ b, A = some ⟨b, 0, none⟩ ∧ T b ∧ ∀ j x, cells[j]? = some x → w.cell? ⟨b, j, none⟩ = some x := by
  obtain ⟨A', c', e, h⟩ := h
  cases e
  exact h hn
set_option maxHeartbeats 400000 in
theorem eqS_ne (A B : Option Addr) (n m c d : Nat) (w : World) (h : n ≠ m) :
    Calls Tryz.prog 32 #[.slice A n c, .slice B m d] w fun e w' => e = .returned (.bool false) ∧ w = w' := by
  have hh : ((n : Int) != (m : Int)) = true := by rw [bne_iff_ne]; omega
  go_enter Tryz.func32, Tryz.ntmps32
  go_wp2
  go_ret
  exact ⟨rfl, rfl⟩
theorem eqS_walk (A B : Option Addr) (c d : Nat) (xs ys : List Bs) (T T' : Nat → Prop) (w : World) (hx : RowC w T (.slice A xs.length c) xs.length (xs.map strV)) (hy : RowC w T' (.slice B ys.length d) ys.length (ys.map strV)) (hn : xs.length ≤ 9223372036854775807) (hm : ys.length ≤ 9223372036854775807) :
    Calls Tryz.prog 32 #[.slice A xs.length c, .slice B ys.length d] w fun e w' => e = .returned (.bool (decide (xs = ys))) ∧ ∃ q, w' = w.drewN q := by
  by_cases hl : xs.length = ys.length
  · by_cases h0 : xs.length = 0
    · have K := Any.slices_Equal_string_empty lays193 A B c ys.length d w hm
      rw [← h0] at K
      refine K.mono ?_
      rintro e w' ⟨rfl, rfl⟩
      refine ⟨?_, 0, rfl⟩
      have e1 : xs = [] := List.eq_nil_of_length_eq_zero h0
      have e2 : ys = [] := List.eq_nil_of_length_eq_zero (by omega)
      subst e1; subst e2; simp
    · obtain ⟨b1, rfl, _, h1⟩ := hx.parts (by omega)
      obtain ⟨b2, rfl, _, h2⟩ := hy.parts (by omega)
      refine (Any.slices_Equal_string lays193 b1 0 xs.length c b2 0 ys.length d (xs.map str) (ys.map str) w (by simp) (by simp) hn hm (fun j hj => ?_) (fun j hj => ?_)).mono ?_
      · rw [Nat.zero_add]
        rw [List.length_map] at hj
        exact h1 j _ (by simp [List.getElem?_eq_getElem hj, strV])
      · rw [Nat.zero_add]
        rw [List.length_map] at hj
        exact h2 j _ (by simp [List.getElem?_eq_getElem hj, strV])
      · rintro e w' ⟨rfl, q, rfl⟩
        refine ⟨?_, q, rfl⟩
        rw [List.take_of_length_le (by simp), List.take_of_length_le (by simp)]
        simp only [map_str_eq]
  · refine (eqS_ne A B _ _ c d w hl).mono ?_
    rintro e w' ⟨rfl, rfl⟩
    exact ⟨by rw [decide_eq_false (fun e => hl (by rw [e]))], 0, rfl⟩
set_option maxHeartbeats 400000 in
theorem eqI_ne (A B : Option Addr) (n m c d : Nat) (w : World) (h : n ≠ m) :
    Calls Tryz.prog 107 #[.slice A n c, .slice B m d] w fun e w' => e = .returned (.bool false) ∧ w = w' := by
  have hh : ((n : Int) != (m : Int)) = true := by rw [bne_iff_ne]; omega
  go_enter Tryz.func107, Tryz.ntmps107
  go_wp2
  go_ret
  exact ⟨rfl, rfl⟩
theorem eqI_walk (A B : Option Addr) (c d : Nat) (xs ys : List Int) (T T' : Nat → Prop) (w : World) (hx : RowC w T (.slice A xs.length c) xs.length (xs.map intV)) (hy : RowC w T' (.slice B ys.length d) ys.length (ys.map intV)) (hn : xs.length ≤ 9223372036854775807) (hm : ys.length ≤ 9223372036854775807) :
    Calls Tryz.prog 107 #[.slice A xs.length c, .slice B ys.length d] w fun e w' => e = .returned (.bool (decide (xs = ys))) ∧ ∃ q, w' = w.drewN q := by
  by_cases hl : xs.length = ys.length
  · by_cases h0 : xs.length = 0
    · have K := Any.slices_Equal_int_empty lays111 A B c ys.length d w hm
      rw [← h0] at K
      refine K.mono ?_
      rintro e w' ⟨rfl, rfl⟩
      refine ⟨?_, 0, rfl⟩
      have e1 : xs = [] := List.eq_nil_of_length_eq_zero h0
      have e2 : ys = [] := List.eq_nil_of_length_eq_zero (by omega)
      subst e1; subst e2; simp
    · obtain ⟨b1, rfl, _, h1⟩ := hx.parts (by omega)
      obtain ⟨b2, rfl, _, h2⟩ := hy.parts (by omega)
      refine (Any.slices_Equal_int lays111 b1 0 xs.length c b2 0 ys.length d xs ys w (Nat.le_refl _) (Nat.le_refl _) hn hm (fun j hj => ?_) (fun j hj => ?_)).mono ?_
      · rw [Nat.zero_add]
        exact h1 j _ (by simp [List.getElem?_eq_getElem hj, intV])
      · rw [Nat.zero_add]
        exact h2 j _ (by simp [List.getElem?_eq_getElem hj, intV])
      · rintro e w' ⟨rfl, q, rfl⟩
        refine ⟨?_, q, rfl⟩
        rw [List.take_of_length_le (Nat.le_refl _), List.take_of_length_le (Nat.le_refl _)]
        first | rfl | (congr 2; rw [Bool.eq_iff_iff, beq_iff_eq, decide_eq_true_iff]) | (congr 2; simp)
  · refine (eqI_ne A B _ _ c d w hl).mono ?_
    rintro e w' ⟨rfl, rfl⟩
    exact ⟨by rw [decide_eq_false (fun e => hl (by rw [e]))], 0, rfl⟩
set_option maxHeartbeats 400000 in
theorem eqR_ne (A B : Option Addr) (n m c d : Nat) (w : World) (h : n ≠ m) :
    Calls Tryz.prog 33 #[.slice A n c, .slice B m d] w fun e w' => e = .returned (.bool false) ∧ w = w' := by
  have hh : ((n : Int) != (m : Int)) = true := by rw [bne_iff_ne]; omega
  go_enter Tryz.func33, Tryz.ntmps33
  go_wp2
  go_ret
  exact ⟨rfl, rfl⟩
set_option maxHeartbeats 4000000 in
set_option maxRecDepth 100000 in
theorem eqR_walk (A B : Option Addr) (c d : Nat) (xs ys : List (Int × Int)) (T T' : Nat → Prop) (w : World) (hx : RowC w T (.slice A xs.length c) xs.length (flat xs)) (hy : RowC w T' (.slice B ys.length d) ys.length (flat ys)) (hn : xs.length ≤ 4611686018427387903) :
    Calls Tryz.prog 33 #[.slice A xs.length c, .slice B ys.length d] w fun e w' => e = .returned (.bool (decide (xs = ys))) ∧ ∃ q, w' = w.drewN q := by
  by_cases hl : xs.length = ys.length
  · have hh : ((xs.length : Int) != (ys.length : Int)) = false := by rw [hl]; simp
    obtain ⟨n, hxn⟩ : ∃ n, xs.length = n := ⟨_, rfl⟩
    rw [← hl, hxn] at hh ⊢
    by_cases h0 : n = 0
    · have HV := Lib.hid (show decide (xs = ys) = true by
        have e1 : xs = [] := List.eq_nil_of_length_eq_zero (by omega)
        have e2 : ys = [] := List.eq_nil_of_length_eq_zero (by omega)
        subst e1; subst e2; simp)
      subst h0
      clear hx hy hl hn hxn
      go_enter Tryz.func33, Tryz.ntmps33
      go_wp2
      refine wp_loop_rounds 1 ?_
      rw [rounds_succ]
      go_wp2
      go_ret
      exact ⟨by rw [HV.out]; rfl, 0, rfl⟩
    · obtain ⟨b1, rfl, _, h1⟩ := hx.parts (by omega)
      obtain ⟨b2, rfl, _, h2⟩ := hy.parts (by omega)
      have CX := Lib.hid (fun k (hk : k < n) => show w.cell? ⟨b1, k * 2, none⟩ = some (.int .i64 (xs.getD k (0, 0)).1) ∧ w.cell? ⟨b1, k * 2 + 1, none⟩ = some (.int .i64 (xs.getD k (0, 0)).2) from ⟨h1 _ _ (flat_at xs k (by omega)).1, h1 _ _ (flat_at xs k (by omega)).2⟩)
      have CY := Lib.hid (fun k (hk : k < n) => show w.cell? ⟨b2, k * 2, none⟩ = some (.int .i64 (ys.getD k (0, 0)).1) ∧ w.cell? ⟨b2, k * 2 + 1, none⟩ = some (.int .i64 (ys.getD k (0, 0)).2) from ⟨h2 _ _ (flat_at ys k (by omega)).1, h2 _ _ (flat_at ys k (by omega)).2⟩)
      have HL := Lib.hid (show xs.length = n ∧ ys.length = n from ⟨hxn, by omega⟩)
      have hn' : n ≤ 4611686018427387903 := by omega
      clear hx hy h1 h2 hl hn hxn
      go_enter Tryz.func33, Tryz.ntmps33
      go_wp2
      go_loopw [13] (fun i wr => ∃ k : Nat, k ≤ n ∧ i = .int .i64 k ∧ Hid (∀ j, j < k → xs.getD j (0, 0) = ys.getD j (0, 0)) ∧ ∃ q, wr = w.drewN q) (fun i _ => n - (intOf i).toNat)
      case atStart => exact ⟨0, Nat.zero_le _, rfl, Lib.hid (fun j hj => absurd hj (Nat.not_lt_zero _)), 0, rfl⟩
      case round =>
        obtain ⟨k, hk, rfl, HA, q, rfl⟩ := hrel
        by_cases hkn : k < n
        · have x1 : (w.drewN q).cell? ⟨b1, k * 2, none⟩ = _ := (CX.out k hkn).1
          have x2 : (w.drewN q).cell? ⟨b1, k * 2 + 1, none⟩ = _ := (CX.out k hkn).2
          have y1 : (w.drewN q).cell? ⟨b2, k * 2, none⟩ = _ := (CY.out k hkn).1
          have y2 : (w.drewN q).cell? ⟨b2, k * 2 + 1, none⟩ = _ := (CY.out k hkn).2
          by_cases he : xs.getD k (0, 0) = ys.getD k (0, 0)
          · have HN := Lib.hid (show ∀ j, j < k + 1 → xs.getD j (0, 0) = ys.getD j (0, 0) from fun j hj => by
              by_cases hjk : j = k
              · rw [hjk]; exact he
              · exact HA.out j (by omega))
            rw [he] at x1 x2
            clear he
            generalize (ys.getD k (0, 0)).1 = f at *
            generalize (ys.getD k (0, 0)).2 = t at *
            generalize hwq : w.drewN q = wq at *
            go_wp2
            go_quiet (fail)
            go_wp2
            go_roundw
            case rel => exact ⟨k + 1, by omega, by go_num, HN, q + nq, by rw [← hwq]; simp [World.drewN, Nat.add_assoc]⟩
            case measure => simp [intOf]; omega
          · have HV := Lib.hid (show decide (xs = ys) = false from decide_eq_false (fun e => he (by rw [e])))
            have hne : ¬ ((xs.getD k (0, 0)).1 = (ys.getD k (0, 0)).1 ∧ (xs.getD k (0, 0)).2 = (ys.getD k (0, 0)).2) := fun h => he (Prod.ext h.1 h.2)
            clear he
            generalize (xs.getD k (0, 0)).1 = f at *
            generalize (xs.getD k (0, 0)).2 = t at *
            generalize (ys.getD k (0, 0)).1 = f2 at *
            generalize (ys.getD k (0, 0)).2 = t2 at *
            generalize hwq : w.drewN q = wq at *
            by_cases hf : f = f2
            · subst hf
              have hb : (t == t2) = false := beq_eq_false_iff_ne.2 (fun e => hne ⟨rfl, e⟩)
              clear hne
              go_wp2
              go_quiet (fail)
              go_wp2
              go_ret
              exact ⟨by rw [HV.out]; rfl, q + nq, by rw [← hwq]; simp [World.drewN, Nat.add_assoc]⟩
            · have hb : (f == f2) = false := beq_eq_false_iff_ne.2 hf
              clear hne hf
              go_wp2
              go_quiet (fail)
              go_wp2
              go_ret
              exact ⟨by rw [HV.out]; rfl, q + nq, by rw [← hwq]; simp [World.drewN, Nat.add_assoc]⟩
        · obtain rfl : k = n := by omega
          have HV := Lib.hid (show decide (xs = ys) = true from decide_eq_true (List.ext_getElem (by rw [HL.out.1, HL.out.2]) (fun j h1 h2 => by
            have := HA.out j (by rw [← HL.out.1]; exact h1)
            simpa [List.getD_eq_getElem?_getD, List.getElem?_eq_getElem h1, List.getElem?_eq_getElem h2] using this)))
          go_wp2
          go_ret
          exact ⟨by rw [HV.out]; rfl, q, rfl⟩
  · refine (eqR_ne A B _ _ c d w hl).mono ?_
    rintro e w' ⟨rfl, rfl⟩
    exact ⟨by rw [decide_eq_false (fun e => hl (by rw [e]))], 0, rfl⟩
end Go.Proofs.YtgmfhldfdnnafaaGreatDoor
namespace Go.Proofs.YtgmfhldfdnnafaaGreatDoor
open Go.RowKit
open Pl (Bs)
set_option linter.unusedSimpArgs false
set_option linter.unusedVariables false
def sameSpec (a b : SpecP) : Bool := decide (a.what = b.what) && (decide (a.path = b.path) && decide (a.names = b.names))
theorem str_beq (a b : Bs) : ((str a).toList == (str b).toList) = decide (a = b) := by
  rw [Lib.toList_data, Lib.toList_data, show (str a).data.toList = a from bs_str a, show (str b).data.toList = b from bs_str b]
  rw [Bool.eq_iff_iff, beq_iff_eq, decide_eq_true_iff]
/-- a section's three cells, its slices laid open -/
theorem SpecAt.open {w : World} {T : Nat → Prop} {vp vn : Value} {x : SpecP} (h : SpecAt w T vp vn x) : ∃ A c A2 c2, vp = .slice A x.path.length c ∧ vn = .slice A2 x.names.length c2 ∧ RowC w T (.slice A x.path.length c) x.path.length (x.path.map intV) ∧ RowC w T (.slice A2 x.names.length c2) x.names.length (x.names.map strV) := by
  obtain ⟨h1, h2⟩ := h
  have g1 := h1
  have g2 := h2
  obtain ⟨A, c, rfl, _⟩ := h1
  obtain ⟨A2, c2, rfl, _⟩ := h2
  exact ⟨A, c, A2, c2, rfl, rfl, g1, g2⟩
/-- short enough for a machine -/
def SpecFit (x : SpecP) : Prop := x.path.length ≤ 9223372036854775807 ∧ x.names.length ≤ 9223372036854775807
theorem RowC.below {w w1 : World} {T : Nat → Prop} {v : Value} {n : Nat} {cells : List Value} (h : RowC w T v n cells) (hT : ∀ i, T i → i < w.heap.size) (hB : Below w.heap.size w w1) : RowC w1 T v n cells := h.kept (fun i hi => hB.block i (hT i hi))
theorem below_q {w w1 : World} (h : ∃ q, w1 = w.drewN q) : Below w.heap.size w w1 := by obtain ⟨q, rfl⟩ := h; exact below_draws (Below.refl _ _) q
set_option maxHeartbeats 2000000 in
set_option maxRecDepth 100000 in
theorem secSame_walk (x y : SpecP) (hx : SpecFit x) (hy : SpecFit y) (T T' : Nat → Prop) (vp vn vp' vn' : Value) (w : World) (hT : ∀ i, T i → i < w.heap.size) (hT' : ∀ i, T' i → i < w.heap.size) (h1 : SpecAt w T vp vn x) (h2 : SpecAt w T' vp' vn' y) :
    Calls Tryz.prog 79 #[.agg #[vp, .string (str x.what), vn], .agg #[vp', .string (str y.what), vn']] w fun e w' => e = .returned (.bool (sameSpec x y)) ∧ Below w.heap.size w w' := by
  obtain ⟨A, c, A2, c2, rfl, rfl, r1, r2⟩ := h1.open
  obtain ⟨B, d, B2, d2, rfl, rfl, s1, s2⟩ := h2.open
  have KI := Lib.hid (fun W (hB : Below w.heap.size w W) => eqI_walk A B c d x.path y.path T T' W (r1.below hT hB) (s1.below hT' hB) hx.1 hy.1)
  have KS := Lib.hid (fun W (hB : Below w.heap.size w W) => eqS_walk A2 B2 c2 d2 x.names y.names T T' W (r2.below hT hB) (s2.below hT' hB) hx.2 hy.2)
  have HV := Lib.hid (show sameSpec x y = (decide (x.what = y.what) && (decide (x.path = y.path) && decide (x.names = y.names))) from rfl)
  have hw := str_beq x.what y.what
  clear r1 r2 s1 s2 h1 h2 hT hT' hx hy
  generalize sameSpec x y = R at *
  generalize decide (x.what = y.what) = b1 at *
  generalize decide (x.path = y.path) = b2 at *
  generalize decide (x.names = y.names) = b3 at *
  generalize str x.what = S1 at *
  generalize str y.what = S2 at *
  generalize x.path.length = n1 at *
  generalize y.path.length = n2 at *
  generalize x.names.length = n3 at *
  generalize y.names.length = n4 at *
  have HB0 := Lib.hid (((Below.refl w.heap.size w).alloc (Nat.le_refl _) (Obj.cells #[.slice A n1 c, .string S1, .slice A2 n3 c2] 76)).alloc (by simp) (Obj.cells #[.slice B n2 d, .string S2, .slice B2 n4 d2] 76))
  cases b1 with
  | false =>
    go_enter Tryz.func79, Tryz.ntmps79
    go_wp2
    go_ret
    exact ⟨by rw [HV.out]; rfl, HB0.out⟩
  | true =>
    cases b2 with
    | false =>
      go_enter Tryz.func79, Tryz.ntmps79
      go_wp2_with fail
      refine (KI.out _ HB0.out).mono ?_
      rintro e w1 ⟨rfl, hq⟩
      have HB1 := Lib.hid (below_then HB0.out (below_q hq))
      clear hq
      go_wp2
      go_ret
      exact ⟨by rw [HV.out]; rfl, HB1.out⟩
    | true =>
      go_enter Tryz.func79, Tryz.ntmps79
      go_wp2_with fail
      refine (KI.out _ HB0.out).mono ?_
      rintro e w1 ⟨rfl, q, hq⟩
      have HB1 := Lib.hid (below_then HB0.out (below_q ⟨q, hq⟩))
      subst hq
      go_wp2_with fail
      refine (KS.out _ HB1.out).mono ?_
      rintro e w2 ⟨rfl, hq2⟩
      have HB2 := Lib.hid (below_then HB1.out (below_q hq2))
      clear hq2
      go_wp2
      go_ret
      exact ⟨by rw [HV.out]; rfl, HB2.out⟩
end Go.Proofs.YtgmfhldfdnnafaaGreatDoor
namespace Go.Proofs.YtgmfhldfdnnafaaGreatDoor
open Go.RowKit
open Pl (Bs)
set_option linter.unusedSimpArgs false
set_option linter.unusedVariables false
/-- two rows, one by one -/
def sameL {α : Type} (f : α → α → Bool) : List α → List α → Bool
  | [], [] => true
  | a :: l, b :: m => f a b && sameL f l m
  | [], _ :: _ => false
  | _ :: _, [] => false
theorem sameL_all {α : Type} {f : α → α → Bool} : ∀ {l m : List α}, l.length = m.length → (∀ (j : Nat) x y, l[j]? = some x → m[j]? = some y → f x y = true) → sameL f l m = true
  | [], [], _, _ => rfl
  | a :: l, b :: m, hl, h => by
    rw [sameL, h 0 a b rfl rfl, sameL_all (by simpa using hl) (fun j x y h1 h2 => h (j + 1) x y (by simpa using h1) (by simpa using h2))]; rfl
  | [], _ :: _, hl, _ => by simp at hl
  | _ :: _, [], hl, _ => by simp at hl
theorem sameL_not {α : Type} {f : α → α → Bool} : ∀ {l m : List α} {j : Nat} {x y : α}, l[j]? = some x → m[j]? = some y → f x y = false → sameL f l m = false
  | [], m, j, x, y, h1, _, _ => by simp at h1
  | a :: l, [], j, x, y, _, h2, _ => by simp at h2
  | a :: l, b :: m, 0, x, y, h1, h2, h => by
    simp only [List.getElem?_cons_zero, Option.some.injEq] at h1 h2
    subst h1; subst h2
    rw [sameL, h]; rfl
  | a :: l, b :: m, j + 1, x, y, h1, h2, h => by
    rw [sameL, sameL_not (j := j) (by simpa using h1) (by simpa using h2) h, Bool.and_false]
theorem sameL_len {α : Type} {f : α → α → Bool} : ∀ {l m : List α}, l.length ≠ m.length → sameL f l m = false
  | [], [], h => absurd rfl h
  | a :: l, b :: m, h => by rw [sameL, sameL_len (by simpa using h), Bool.and_false]
  | [], _ :: _, _ => rfl
  | _ :: _, [], _ => rfl
theorem sameL_refl {α : Type} {f : α → α → Bool} : ∀ {l : List α}, (∀ x ∈ l, f x x = true) → sameL f l l = true
  | [], _ => rfl
  | a :: l, h => by rw [sameL, h a (by simp), sameL_refl (fun x hx => h x (by simp [hx]))]; rfl
def sameItemP (a b : ItemP) : Bool := decide (a.name = b.name) && (sameSpec a.spec b.spec && (decide (a.peek = b.peek) && (decide (a.part = b.part) && (decide (a.frm = b.frm) && decide (a.cnt = b.cnt)))))
theorem int_beq (a b : Int) : (a == b) = decide (a = b) := by rw [Bool.eq_iff_iff, beq_iff_eq, decide_eq_true_iff]
theorem bool_beq (a b : Bool) : (a == b) = decide (a = b) := by rw [Bool.eq_iff_iff, beq_iff_eq, decide_eq_true_iff]
theorem obj_cell {w : World} {b : Nat} {cs : Array Value} {t : TypeId} (h : w.heap[b]? = some (Obj.cells cs t)) (i : Nat) (v : Value) (hi : cs[i]? = some v) : w.cell? ⟨b, i, none⟩ = some v := by
  simp [World.cell?, h, hi]
theorem box2 (w : World) (o1 o2 : Obj) : (((w.alloc o1).alloc o2).heap[w.heap.size]? = some o1 ∧ ((w.alloc o1).alloc o2).heap[w.heap.size + 1]? = some o2) ∧ Below w.heap.size w ((w.alloc o1).alloc o2) := by
  refine ⟨⟨(Below.heap_alloc _ _ _ (by simp)).trans (World.alloc_heap_new _ _), ?_⟩, ((Below.refl _ _).alloc (Nat.le_refl _) _).alloc (by simp) _⟩
  have := World.alloc_heap_new (w.alloc o1) o2; rw [World.size_alloc] at this; exact this
theorem box2_kept {W w1 : World} {b : Nat} {o1 o2 : Obj} (h : W.heap[b]? = some o1 ∧ W.heap[b + 1]? = some o2) (hB : Below W.heap.size W w1) : w1.heap[b]? = some o1 ∧ w1.heap[b + 1]? = some o2 :=
  ⟨(hB.block _ (Array.getElem?_eq_some_iff.1 h.1).1).trans h.1, (hB.block _ (Array.getElem?_eq_some_iff.1 h.2).1).trans h.2⟩
set_option maxHeartbeats 4000000 in
set_option maxRecDepth 100000 in
theorem sameItem_walk (x y : ItemP) (hx : SpecFit x.spec) (hy : SpecFit y.spec) (T T' : Nat → Prop) (vp vn vp' vn' : Value) (w : World) (hT : ∀ i, T i → i < w.heap.size) (hT' : ∀ i, T' i → i < w.heap.size) (h1 : SpecAt w T vp vn x.spec) (h2 : SpecAt w T' vp' vn' y.spec) :
    Calls Tryz.prog 35 #[.agg #[.string (str x.name), vp, .string (str x.spec.what), vn, .bool x.peek, .bool x.part, .int .i64 x.frm, .int .i64 x.cnt], .agg #[.string (str y.name), vp', .string (str y.spec.what), vn', .bool y.peek, .bool y.part, .int .i64 y.frm, .int .i64 y.cnt]] w fun e w' => e = .returned (.bool (sameItemP x y)) ∧ Below w.heap.size w w' := by
  have K1 := Lib.hid (fun W (hB : Below w.heap.size w W) => secSame_walk x.spec y.spec hx hy T T' vp vn vp' vn' W (fun i hi => Nat.lt_of_lt_of_le (hT i hi) hB.size) (fun i hi => Nat.lt_of_lt_of_le (hT' i hi) hB.size) (h1.kept (fun i hi => hB.block i (hT i hi))) (h2.kept (fun i hi => hB.block i (hT' i hi))))
  obtain ⟨A, c, A2, c2, rfl, rfl, _, _⟩ := h1.open
  obtain ⟨B, d, B2, d2, rfl, rfl, _, _⟩ := h2.open
  have HV := Lib.hid (show sameItemP x y = (decide (x.name = y.name) && (sameSpec x.spec y.spec && (decide (x.peek = y.peek) && (decide (x.part = y.part) && (decide (x.frm = y.frm) && decide (x.cnt = y.cnt)))))) from rfl)
  have e0 := str_beq x.name y.name
  have e2 := bool_beq x.peek y.peek
  have e3 := bool_beq x.part y.part
  have e4 := int_beq x.frm y.frm
  have e5 := int_beq x.cnt y.cnt
  clear h1 h2 hT hT' hx hy
  generalize sameItemP x y = R at *
  generalize decide (x.name = y.name) = b0 at *
  generalize sameSpec x.spec y.spec = b1 at *
  generalize decide (x.peek = y.peek) = b2 at *
  generalize decide (x.part = y.part) = b3 at *
  generalize decide (x.frm = y.frm) = b4 at *
  generalize decide (x.cnt = y.cnt) = b5 at *
  generalize str x.name = S1 at *
  generalize str y.name = S2 at *
  generalize str x.spec.what = S3 at *
  generalize str y.spec.what = S4 at *
  generalize x.spec.path.length = n1 at *
  generalize y.spec.path.length = n2 at *
  generalize x.spec.names.length = n3 at *
  generalize y.spec.names.length = n4 at *
  generalize x.peek = p1 at *
  generalize y.peek = p2 at *
  generalize x.part = p3 at *
  generalize y.part = p4 at *
  generalize x.frm = i1 at *
  generalize y.frm = i2 at *
  generalize x.cnt = i3 at *
  generalize y.cnt = i4 at *
  have HX0 := Lib.hid (box2 w (Obj.cells #[.string S1, .slice A n1 c, .string S3, .slice A2 n3 c2, .bool p1, .bool p3, .int .i64 i1, .int .i64 i3] 78) (Obj.cells #[.string S2, .slice B n2 d, .string S4, .slice B2 n4 d2, .bool p2, .bool p4, .int .i64 i2, .int .i64 i4] 78)).1
  have HB0 := Lib.hid (box2 w (Obj.cells #[.string S1, .slice A n1 c, .string S3, .slice A2 n3 c2, .bool p1, .bool p3, .int .i64 i1, .int .i64 i3] 78) (Obj.cells #[.string S2, .slice B n2 d, .string S4, .slice B2 n4 d2, .bool p2, .bool p4, .int .i64 i2, .int .i64 i4] 78)).2
  cases b0 with
  | false =>
    go_enter Tryz.func35, Tryz.ntmps35
    go_wp2
    go_ret
    exact ⟨by rw [HV.out]; rfl, HB0.out⟩
  | true =>
    cases b1 with
    | false =>
      go_enter Tryz.func35, Tryz.ntmps35
      go_wp2_with fail
      refine (K1.out _ HB0.out).mono ?_
      rintro e w2 ⟨rfl, hB2⟩
      have HB2 := Lib.hid (below_then HB0.out hB2)
      have HX2 := Lib.hid (box2_kept HX0.out hB2)
      clear hB2
      go_wp2
      go_ret
      exact ⟨by rw [HV.out]; rfl, HB2.out⟩
    | true =>
      cases b2 with
      | false =>
        go_enter Tryz.func35, Tryz.ntmps35
        go_wp2_with fail
        refine (K1.out _ HB0.out).mono ?_
        rintro e w2 ⟨rfl, hB2⟩
        have HB2 := Lib.hid (below_then HB0.out hB2)
        have HX2 := Lib.hid (box2_kept HX0.out hB2)
        clear hB2
        have x4 := obj_cell HX2.out.1 4 _ rfl
        have y4 := obj_cell HX2.out.2 4 _ rfl
        go_wp2
        go_ret
        exact ⟨by rw [HV.out]; rfl, HB2.out⟩
      | true =>
        cases b3 with
        | false =>
          go_enter Tryz.func35, Tryz.ntmps35
          go_wp2_with fail
          refine (K1.out _ HB0.out).mono ?_
          rintro e w2 ⟨rfl, hB2⟩
          have HB2 := Lib.hid (below_then HB0.out hB2)
          have HX2 := Lib.hid (box2_kept HX0.out hB2)
          clear hB2
          have x4 := obj_cell HX2.out.1 4 _ rfl
          have y4 := obj_cell HX2.out.2 4 _ rfl
          have x5 := obj_cell HX2.out.1 5 _ rfl
          have y5 := obj_cell HX2.out.2 5 _ rfl
          go_wp2
          go_ret
          exact ⟨by rw [HV.out]; rfl, HB2.out⟩
        | true =>
          cases b4 with
          | false =>
            go_enter Tryz.func35, Tryz.ntmps35
            go_wp2_with fail
            refine (K1.out _ HB0.out).mono ?_
            rintro e w2 ⟨rfl, hB2⟩
            have HB2 := Lib.hid (below_then HB0.out hB2)
            have HX2 := Lib.hid (box2_kept HX0.out hB2)
            clear hB2
            have x4 := obj_cell HX2.out.1 4 _ rfl
            have y4 := obj_cell HX2.out.2 4 _ rfl
            have x5 := obj_cell HX2.out.1 5 _ rfl
            have y5 := obj_cell HX2.out.2 5 _ rfl
            have x6 := obj_cell HX2.out.1 6 _ rfl
            have y6 := obj_cell HX2.out.2 6 _ rfl
            go_wp2
            go_ret
            exact ⟨by rw [HV.out]; rfl, HB2.out⟩
          | true =>
            cases b5 with
            | false =>
              go_enter Tryz.func35, Tryz.ntmps35
              go_wp2_with fail
              refine (K1.out _ HB0.out).mono ?_
              rintro e w2 ⟨rfl, hB2⟩
              have HB2 := Lib.hid (below_then HB0.out hB2)
              have HX2 := Lib.hid (box2_kept HX0.out hB2)
              clear hB2
              have x4 := obj_cell HX2.out.1 4 _ rfl
              have y4 := obj_cell HX2.out.2 4 _ rfl
              have x5 := obj_cell HX2.out.1 5 _ rfl
              have y5 := obj_cell HX2.out.2 5 _ rfl
              have x6 := obj_cell HX2.out.1 6 _ rfl
              have y6 := obj_cell HX2.out.2 6 _ rfl
              have x7 := obj_cell HX2.out.1 7 _ rfl
              have y7 := obj_cell HX2.out.2 7 _ rfl
              go_wp2
              go_ret
              exact ⟨by rw [HV.out]; rfl, HB2.out⟩
            | true =>
              go_enter Tryz.func35, Tryz.ntmps35
              go_wp2_with fail
              refine (K1.out _ HB0.out).mono ?_
              rintro e w2 ⟨rfl, hB2⟩
              have HB2 := Lib.hid (below_then HB0.out hB2)
              have HX2 := Lib.hid (box2_kept HX0.out hB2)
              clear hB2
              have x4 := obj_cell HX2.out.1 4 _ rfl
              have y4 := obj_cell HX2.out.2 4 _ rfl
              have x5 := obj_cell HX2.out.1 5 _ rfl
              have y5 := obj_cell HX2.out.2 5 _ rfl
              have x6 := obj_cell HX2.out.1 6 _ rfl
              have y6 := obj_cell HX2.out.2 6 _ rfl
              have x7 := obj_cell HX2.out.1 7 _ rfl
              have y7 := obj_cell HX2.out.2 7 _ rfl
              go_wp2
              go_ret
              exact ⟨by rw [HV.out]; rfl, HB2.out⟩
end Go.Proofs.YtgmfhldfdnnafaaGreatDoor
namespace Go.Proofs.YtgmfhldfdnnafaaGreatDoor
open Go.RowKit
open Pl (Bs)
set_option linter.unusedSimpArgs false
set_option linter.unusedVariables false
theorem getElem?_mid {α : Type} (p q : List α) (r : List α) (j : Nat) (hj : j < q.length) : (p ++ (q ++ r))[p.length + j]? = q[j]? := by
  rw [List.getElem?_append_right (by omega), Nat.add_sub_cancel_left, List.getElem?_append_left hj]
/-- one item of a row, its cells -/
theorem ItemsC.at {w : World} {T : Nat → Prop} : ∀ {l : List ItemP} {cs : List Value}, ItemsC w T l cs → ∀ (k : Nat) (x : ItemP), l[k]? = some x → ∃ vp vn, SpecAt w T vp vn x.spec ∧ ∀ j, j < 8 → cs[k * 8 + j]? = (itemC vp vn x)[j]?
  | _, _, .nil, k, x, h => by simp at h
  | _, _, .cons (x := y) (vp := vp) (vn := vn) (l := l) (cs := cs) h1 h2, 0, x, h => by
    obtain rfl : y = x := by simpa using h
    refine ⟨vp, vn, h1, fun j hj => ?_⟩
    rw [Nat.zero_mul, Nat.zero_add, List.getElem?_append_left (by simpa [itemC] using hj)]
  | _, _, .cons (x := y) (vp := vp) (vn := vn) (l := l) (cs := cs) h1 h2, k + 1, x, h => by
    obtain ⟨vp', vn', g1, g2⟩ := h2.at k x (by simpa using h)
    refine ⟨vp', vn', g1, fun j hj => ?_⟩
    rw [← g2 j hj, List.getElem?_append_right (by simp [itemC]; omega)]
    congr 1
    simp [itemC]; omega
abbrev sameItemsP : List ItemP → List ItemP → Bool := sameL sameItemP
def itemFn : Value := .func (.func 35) #[] #[]
set_option maxHeartbeats 400000 in
theorem eqItems_ne (A B : Option Addr) (n m c d : Nat) (v : Value) (w : World) (h : n ≠ m) :
    Calls Tryz.prog 34 #[.slice A n c, .slice B m d, v] w fun e w' => e = .returned (.bool false) ∧ w = w' := by
  have hh : ((n : Int) != (m : Int)) = true := by rw [bne_iff_ne]; omega
  go_enter Tryz.func34, Tryz.ntmps34
  go_wp2
  go_ret
  exact ⟨rfl, rfl⟩
abbrev itemO (vp vn : Value) (x : ItemP) : Obj := Obj.cells #[.string (str x.name), vp, .string (str x.spec.what), vn, .bool x.peek, .bool x.part, .int .i64 x.frm, .int .i64 x.cnt] 78
set_option maxHeartbeats 4000000 in
set_option maxRecDepth 100000 in
theorem eqItems_walk (A B : Option Addr) (c d : Nat) (l m : List ItemP) (cs cs' : List Value) (T T' : Nat → Prop) (w : World) (hl : l.length ≤ 1000000000) (hf : ∀ x ∈ l, SpecFit x.spec) (hf' : ∀ x ∈ m, SpecFit x.spec) (hT : ∀ i, T i → i < w.heap.size) (hT' : ∀ i, T' i → i < w.heap.size)
    (hR : RowC w T (.slice A l.length c) l.length cs) (hI : ItemsC w T l cs) (hR' : RowC w T' (.slice B m.length d) m.length cs') (hI' : ItemsC w T' m cs') :
    Calls Tryz.prog 34 #[.slice A l.length c, .slice B m.length d, itemFn] w fun e w' => e = .returned (.bool (sameItemsP l m)) ∧ Below w.heap.size w w' := by
  by_cases hlm : l.length = m.length
  · obtain ⟨n, hn⟩ : ∃ n, l.length = n := ⟨_, rfl⟩
    have hh : ((n : Int) != (n : Int)) = false := by simp
    rw [← hlm, hn]
    by_cases h0 : n = 0
    · have HV := Lib.hid (show sameItemsP l m = true from sameL_all hlm (fun j x y h1 h2 => by have := (List.getElem?_eq_some_iff.1 h1).1; omega))
      subst h0
      clear hR hI hR' hI' hf hf' hT hT' hlm hn hl
      rw [itemFn]
      go_enter Tryz.func34, Tryz.ntmps34
      go_wp2
      refine wp_loop_rounds 1 ?_
      rw [rounds_succ]
      go_wp2
      go_ret
      exact ⟨by rw [HV.out]; rfl, Below.refl _ _⟩
    · obtain ⟨b1, rfl, t1, h1⟩ := hR.parts (by omega)
      obtain ⟨b2, rfl, t2, h2⟩ := hR'.parts (by omega)
      have lt1 := hT b1 t1
      have lt2 := hT' b2 t2
      have CX := Lib.hid (fun k (hk : k < n) (wr : World) (hB : Below w.heap.size w wr) => show ∃ x vp vn, l[k]? = some x ∧ SpecFit x.spec ∧ SpecAt wr T vp vn x.spec ∧ ∀ j v, j < 8 → (itemC vp vn x)[j]? = some v → wr.cell? ⟨b1, k * 8 + j, none⟩ = some v by
        have hk' : k < l.length := by omega
        obtain ⟨vp, vn, g1, g2⟩ := hI.at k l[k] (List.getElem?_eq_getElem hk')
        exact ⟨l[k], vp, vn, List.getElem?_eq_getElem hk', hf _ (List.getElem_mem hk'), g1.kept (fun i hi => hB.block i (hT i hi)), fun j v hj hv => (World.cell?_of_block (hB.block b1 lt1)).trans (h1 _ v (by rw [g2 j hj]; exact hv))⟩)
      have CY := Lib.hid (fun k (hk : k < n) (wr : World) (hB : Below w.heap.size w wr) => show ∃ x vp vn, m[k]? = some x ∧ SpecFit x.spec ∧ SpecAt wr T' vp vn x.spec ∧ ∀ j v, j < 8 → (itemC vp vn x)[j]? = some v → wr.cell? ⟨b2, k * 8 + j, none⟩ = some v by
        have hk' : k < m.length := by omega
        obtain ⟨vp, vn, g1, g2⟩ := hI'.at k m[k] (List.getElem?_eq_getElem hk')
        exact ⟨m[k], vp, vn, List.getElem?_eq_getElem hk', hf' _ (List.getElem_mem hk'), g1.kept (fun i hi => hB.block i (hT' i hi)), fun j v hj hv => (World.cell?_of_block (hB.block b2 lt2)).trans (h2 _ v (by rw [g2 j hj]; exact hv))⟩)
      have HL := Lib.hid (show l.length = n ∧ m.length = n from ⟨hn, by omega⟩)
      have HT := Lib.hid hT
      have HT' := Lib.hid hT'
      have hn' : n ≤ 1000000000 := by omega
      clear hR hI hR' hI' hf hf' hT hT' hlm hn hl h1 h2
      rw [itemFn]
      go_enter Tryz.func34, Tryz.ntmps34
      go_wp2
      go_loopw [17] (fun i wr => ∃ k : Nat, k ≤ n ∧ i = .int .i64 k ∧ Hid (∀ j x y, j < k → l[j]? = some x → m[j]? = some y → sameItemP x y = true) ∧ Hid (Below w.heap.size w wr)) (fun i _ => n - (intOf i).toNat)
      case atStart => exact ⟨0, Nat.zero_le _, rfl, Lib.hid (fun j x y hj => absurd hj (Nat.not_lt_zero _)), Lib.hid (Below.refl _ _)⟩
      case round =>
        obtain ⟨k, hk, rfl, HA, HB⟩ := hrel
        by_cases hkn : k < n
        · obtain ⟨x, vp, vn, hx, fx, sx, cx⟩ := CX.out k hkn wr HB.out
          obtain ⟨y, vp', vn', hy, fy, sy, cy⟩ := CY.out k hkn wr HB.out
          have hz := HB.out.size
          have x0 := cx 0 _ (by decide) rfl
          have x1 := cx 1 _ (by decide) rfl
          have x2 := cx 2 _ (by decide) rfl
          have x3 := cx 3 _ (by decide) rfl
          have x4 := cx 4 _ (by decide) rfl
          have x5 := cx 5 _ (by decide) rfl
          have x6 := cx 6 _ (by decide) rfl
          have x7 := cx 7 _ (by decide) rfl
          have y0 := cy 0 _ (by decide) rfl
          have y1 := cy 1 _ (by decide) rfl
          have y2 := cy 2 _ (by decide) rfl
          have y3 := cy 3 _ (by decide) rfl
          have y4 := cy 4 _ (by decide) rfl
          have y5 := cy 5 _ (by decide) rfl
          have y6 := cy 6 _ (by decide) rfl
          have y7 := cy 7 _ (by decide) rfl
          rw [Nat.add_zero] at x0 y0
          have l1 : b1 < wr.heap.size := by omega
          have l2 : b2 < wr.heap.size := by omega
          have HB2 := Lib.hid (box2 wr (itemO vp vn x) (itemO vp' vn' y)).2
          have K := Lib.hid (sameItem_walk x y fx fy T T' vp vn vp' vn' ((wr.alloc (itemO vp vn x)).alloc (itemO vp' vn' y)) (fun i hi => Nat.lt_of_lt_of_le (Nat.lt_of_lt_of_le (HT.out i hi) hz) HB2.out.size) (fun i hi => Nat.lt_of_lt_of_le (Nat.lt_of_lt_of_le (HT'.out i hi) hz) HB2.out.size) (sx.kept (fun i hi => HB2.out.block i (Nat.lt_of_lt_of_le (HT.out i hi) hz))) (sy.kept (fun i hi => HB2.out.block i (Nat.lt_of_lt_of_le (HT'.out i hi) hz))))
          have HX := Lib.hid (show l[k]? = some x ∧ m[k]? = some y from ⟨hx, hy⟩)
          obtain ⟨A1, c1, A2, c2, rfl, rfl, _, _⟩ := sx.open
          obtain ⟨A3, c3, A4, c4, rfl, rfl, _, _⟩ := sy.open
          clear hx hy fx fy sx sy cx cy
          cases hs : sameItemP x y with
          | true =>
            rw [hs] at K
            have HN := Lib.hid (show ∀ j x y, j < k + 1 → l[j]? = some x → m[j]? = some y → sameItemP x y = true from fun j x' y' hj h1 h2 => by
              by_cases hjk : j = k
              · subst hjk
                obtain rfl := Option.some.inj (HX.out.1.symm.trans h1)
                obtain rfl := Option.some.inj (HX.out.2.symm.trans h2)
                exact hs
              · exact HA.out j x' y' (by omega) h1 h2)
            clear hs
            go_wp2_with fail
            refine K.out.mono ?_
            rintro e w2 ⟨rfl, hB3⟩
            have HB3 := Lib.hid (below_then (below_then HB.out HB2.out) hB3)
            clear hB3
            go_wp2
            go_roundw
            case rel => exact ⟨k + 1, by omega, by go_num, HN, HB3⟩
            case measure => simp [intOf]; omega
          | false =>
            rw [hs] at K
            have HV := Lib.hid (show sameItemsP l m = false from sameL_not HX.out.1 HX.out.2 hs)
            clear hs
            go_wp2_with fail
            refine K.out.mono ?_
            rintro e w2 ⟨rfl, hB3⟩
            have HB3 := Lib.hid (below_then (below_then HB.out HB2.out) hB3)
            clear hB3
            go_wp2
            go_ret
            exact ⟨by rw [HV.out]; rfl, HB3.out⟩
        · obtain rfl : k = n := by omega
          have HV := Lib.hid (show sameItemsP l m = true from sameL_all (by rw [HL.out.1, HL.out.2]) (fun j x y h1 h2 => HA.out j x y (by have := (List.getElem?_eq_some_iff.1 h1).1; have := HL.out.1; omega) h1 h2))
          go_wp2
          go_ret
          exact ⟨by rw [HV.out]; rfl, HB.out⟩
  · refine (eqItems_ne A B _ _ c d _ w hlm).mono ?_
    rintro e w' ⟨rfl, rfl⟩
    exact ⟨congrArg (fun b => Ending.returned (.bool b)) (sameL_len hlm).symm, Below.refl _ _⟩
end Go.Proofs.YtgmfhldfdnnafaaGreatDoor
namespace Go.Proofs.YtgmfhldfdnnafaaGreatDoor
open Go.RowKit
open Pl (Bs)
set_option linter.unusedSimpArgs false
set_option linter.unusedVariables false
mutual
def sameKeyP : KeyP → KeyP → Bool
  | .mk a1 a2 a3 a4 a5 a6, .mk b1 b2 b3 b4 b5 b6 => decide (a1 = b1) && (decide (a2 = b2) && (decide (a3 = b3) && (decide (a4 = b4) && (decide (a5 = b5) && sameKeysP a6 b6))))
def sameKeysP : List KeyP → List KeyP → Bool
  | [], [] => true
  | a :: l, b :: m => sameKeyP a b && sameKeysP l m
  | [], _ :: _ => false
  | _ :: _, [] => false
end
theorem sameKeysP_eq : ∀ l m : List KeyP, sameKeysP l m = sameL sameKeyP l m
  | [], [] => by rw [sameKeysP, sameL]
  | a :: l, b :: m => by rw [sameKeysP, sameL, sameKeysP_eq l m]
  | [], _ :: _ => by rw [sameKeysP, sameL]
  | _ :: _, [] => by rw [sameKeysP, sameL]
theorem sameKeyP_eq (x y : KeyP) : sameKeyP x y = (decide (x.name = y.name) && (decide (x.text = y.text) && (decide (x.field = y.field) && (decide (x.n = y.n) && (decide (x.set = y.set) && sameKeysP x.kids y.kids))))) := by
  cases x; cases y; rw [sameKeyP]; rfl
/-- keys short enough for a machine, all the way down -/
inductive KeysFit : List KeyP → Prop
  | nil : KeysFit []
  | cons {x : KeyP} {l : List KeyP} : x.set.length ≤ 1000000000 → x.kids.length ≤ 1000000000 → KeysFit x.kids → KeysFit l → KeysFit (x :: l)
theorem KeysFit.at : ∀ {l : List KeyP}, KeysFit l → ∀ x ∈ l, x.set.length ≤ 1000000000 ∧ x.kids.length ≤ 1000000000 ∧ KeysFit x.kids
  | _, .nil, x, h => by simp at h
  | _, .cons a b c d, x, h => by
    rcases List.mem_cons.1 h with rfl | h
    · exact ⟨a, b, c⟩
    · exact d.at x h
/-- one key of a row, its cells -/
theorem KeysC.at {w : World} {T : Nat → Prop} : ∀ {l : List KeyP} {cs : List Value}, KeysC w T l cs → ∀ (k : Nat) (x : KeyP), l[k]? = some x → ∃ vs vk kcs, KeyAt w T vs vk kcs x ∧ ∀ j, j < 6 → cs[k * 6 + j]? = (keyC vs vk x)[j]?
  | _, _, .nil, k, x, h => by simp at h
  | _, _, .cons (x := y) (vs := vs) (vk := vk) (kcs := kcs) (l := l) (cs := cs) h1 h2 h3 h4, 0, x, h => by
    obtain rfl : y = x := by simpa using h
    refine ⟨vs, vk, kcs, ⟨h1, h2, h3⟩, fun j hj => ?_⟩
    rw [Nat.zero_mul, Nat.zero_add, List.getElem?_append_left (by simpa [keyC] using hj)]
  | _, _, .cons (x := y) (vs := vs) (vk := vk) (kcs := kcs) (l := l) (cs := cs) h1 h2 h3 h4, k + 1, x, h => by
    obtain ⟨vs', vk', kcs', g1, g2⟩ := h4.at k x (by simpa using h)
    refine ⟨vs', vk', kcs', g1, fun j hj => ?_⟩
    rw [← g2 j hj, List.getElem?_append_right (by simp [keyC]; omega)]
    congr 1
    simp [keyC]; omega
theorem KeyAt.open {w : World} {T : Nat → Prop} {vs vk : Value} {kcs : List Value} {x : KeyP} (h : KeyAt w T vs vk kcs x) : ∃ A c A2 c2, vs = .slice A x.set.length c ∧ vk = .slice A2 x.kids.length c2 ∧ RowC w T (.slice A x.set.length c) x.set.length (flat x.set) ∧ RowC w T (.slice A2 x.kids.length c2) x.kids.length kcs ∧ KeysC w T x.kids kcs := by
  obtain ⟨h1, h2, h3⟩ := h
  have g1 := h1
  have g2 := h2
  obtain ⟨A, c, rfl, _⟩ := h1
  obtain ⟨A2, c2, rfl, _⟩ := h2
  exact ⟨A, c, A2, c2, rfl, rfl, g1, g2, h3⟩
abbrev EqK : FuncId := 36
def keyFn : Value := .func (.func 37) #[] #[]
/-- what is said of a row of keys -/
def EqKeysCon (l : List KeyP) : Prop := ∀ (m : List KeyP) (A B : Option Addr) (c d : Nat) (cs cs' : List Value) (T T' : Nat → Prop) (w : World), l.length ≤ 1000000000 → KeysFit l → KeysFit m → (∀ i, T i → i < w.heap.size) → (∀ i, T' i → i < w.heap.size) →
    RowC w T (.slice A l.length c) l.length cs → KeysC w T l cs → RowC w T' (.slice B m.length d) m.length cs' → KeysC w T' m cs' →
    Calls Tryz.prog 36 #[.slice A l.length c, .slice B m.length d, keyFn] w fun e w' => e = .returned (.bool (sameKeysP l m)) ∧ Below w.heap.size w w'
def SameKeyCon (x : KeyP) : Prop := ∀ (y : KeyP) (vs vk vs' vk' : Value) (kcs kcs' : List Value) (T T' : Nat → Prop) (w : World), x.set.length ≤ 1000000000 → x.kids.length ≤ 1000000000 → KeysFit x.kids → KeysFit y.kids → (∀ i, T i → i < w.heap.size) → (∀ i, T' i → i < w.heap.size) →
    KeyAt w T vs vk kcs x → KeyAt w T' vs' vk' kcs' y →
    Calls Tryz.prog 37 #[.agg #[.string (str x.name), .string (str x.text), .string (str x.field), .int .i64 x.n, vs, vk], .agg #[.string (str y.name), .string (str y.text), .string (str y.field), .int .i64 y.n, vs', vk']] w fun e w' => e = .returned (.bool (sameKeyP x y)) ∧ Below w.heap.size w w'
set_option maxHeartbeats 4000000 in
set_option maxRecDepth 100000 in
theorem sameKey_of (x : KeyP) (hK : EqKeysCon x.kids) : SameKeyCon x := by
  intro y vs vk vs' vk' kcs kcs' T T' w fx1 fx2 fx fy hT hT' h1 h2
  obtain ⟨A, c, A2, c2, rfl, rfl, r1, r2, r3⟩ := h1.open
  obtain ⟨B, d, B2, d2, rfl, rfl, s1, s2, s3⟩ := h2.open
  have K4 : Hid (∀ W, Below w.heap.size w W → Calls Tryz.prog 33 #[.slice A x.set.length c, .slice B y.set.length d] W fun e w' => e = .returned (.bool (decide (x.set = y.set))) ∧ Below W.heap.size W w') := Lib.hid (fun W hB => (eqR_walk A B c d x.set y.set T T' W (r1.below hT hB) (s1.below hT' hB) (by omega)).mono fun e w' ⟨h1, h2⟩ => ⟨h1, below_q h2⟩)
  have K5 : Hid (∀ W, Below w.heap.size w W → Calls Tryz.prog 36 #[.slice A2 x.kids.length c2, .slice B2 y.kids.length d2, .func (.func 37) #[] #[]] W fun e w' => e = .returned (.bool (sameKeysP x.kids y.kids)) ∧ Below W.heap.size W w') := Lib.hid (fun W hB => hK y.kids A2 B2 c2 d2 kcs kcs' T T' W fx2 fx fy (fun i hi => Nat.lt_of_lt_of_le (hT i hi) hB.size) (fun i hi => Nat.lt_of_lt_of_le (hT' i hi) hB.size) (r2.below hT hB) (r3.kept (fun i hi => hB.block i (hT i hi))) (s2.below hT' hB) (s3.kept (fun i hi => hB.block i (hT' i hi))))
  have HV := Lib.hid (sameKeyP_eq x y)
  have e0 := str_beq x.name y.name
  have e1 := str_beq x.text y.text
  have e2 := str_beq x.field y.field
  have e3 := int_beq x.n y.n
  clear h1 h2 hT hT' fx1 fx2 fx fy r1 r2 r3 s1 s2 s3 hK
  generalize sameKeyP x y = R at *
  generalize decide (x.name = y.name) = b0 at *
  generalize decide (x.text = y.text) = b1 at *
  generalize decide (x.field = y.field) = b2 at *
  generalize decide (x.n = y.n) = b3 at *
  generalize decide (x.set = y.set) = b4 at *
  generalize sameKeysP x.kids y.kids = b5 at *
  generalize str x.name = S1 at *
  generalize str y.name = S2 at *
  generalize str x.text = S3 at *
  generalize str y.text = S4 at *
  generalize str x.field = S5 at *
  generalize str y.field = S6 at *
  generalize x.n = i1 at *
  generalize y.n = i2 at *
  generalize x.set.length = n1 at *
  generalize y.set.length = n2 at *
  generalize x.kids.length = n3 at *
  generalize y.kids.length = n4 at *
  have HX0 := Lib.hid (box2 w (Obj.cells #[.string S1, .string S3, .string S5, .int .i64 i1, .slice A n1 c, .slice A2 n3 c2] 51) (Obj.cells #[.string S2, .string S4, .string S6, .int .i64 i2, .slice B n2 d, .slice B2 n4 d2] 51)).1
  have HB0 := Lib.hid (box2 w (Obj.cells #[.string S1, .string S3, .string S5, .int .i64 i1, .slice A n1 c, .slice A2 n3 c2] 51) (Obj.cells #[.string S2, .string S4, .string S6, .int .i64 i2, .slice B n2 d, .slice B2 n4 d2] 51)).2
  cases b0 with
  | false =>
    go_enter Tryz.func37, Tryz.ntmps37
    go_wp2
    go_ret
    exact ⟨by rw [HV.out]; rfl, HB0.out⟩
  | true =>
    cases b1 with
    | false =>
      go_enter Tryz.func37, Tryz.ntmps37
      go_wp2
      go_ret
      exact ⟨by rw [HV.out]; rfl, HB0.out⟩
    | true =>
      cases b2 with
      | false =>
        go_enter Tryz.func37, Tryz.ntmps37
        go_wp2
        go_ret
        exact ⟨by rw [HV.out]; rfl, HB0.out⟩
      | true =>
        cases b3 with
        | false =>
          go_enter Tryz.func37, Tryz.ntmps37
          go_wp2
          go_ret
          exact ⟨by rw [HV.out]; rfl, HB0.out⟩
        | true =>
          cases b4 with
          | false =>
            go_enter Tryz.func37, Tryz.ntmps37
            go_wp2_with fail
            refine (K4.out _ HB0.out).mono ?_
            rintro e w5 ⟨rfl, hB5⟩
            have HB5 := Lib.hid (below_then HB0.out hB5)
            have HX5 := Lib.hid (box2_kept HX0.out hB5)
            clear hB5
            go_wp2
            go_ret
            exact ⟨by rw [HV.out]; rfl, HB5.out⟩
          | true =>
            cases b5 with
            | false =>
              go_enter Tryz.func37, Tryz.ntmps37
              go_wp2_with fail
              refine (K4.out _ HB0.out).mono ?_
              rintro e w5 ⟨rfl, hB5⟩
              have HB5 := Lib.hid (below_then HB0.out hB5)
              have HX5 := Lib.hid (box2_kept HX0.out hB5)
              clear hB5
              have x5 := obj_cell HX5.out.1 5 _ rfl
              have y5 := obj_cell HX5.out.2 5 _ rfl
              go_wp2_with fail
              refine (K5.out _ HB5.out).mono ?_
              rintro e w6 ⟨rfl, hB6⟩
              have HB6 := Lib.hid (below_then HB5.out hB6)
              have HX6 := Lib.hid (box2_kept HX5.out hB6)
              clear x5 y5
              clear hB6
              go_wp2
              go_ret
              exact ⟨by rw [HV.out]; rfl, HB6.out⟩
            | true =>
              go_enter Tryz.func37, Tryz.ntmps37
              go_wp2_with fail
              refine (K4.out _ HB0.out).mono ?_
              rintro e w5 ⟨rfl, hB5⟩
              have HB5 := Lib.hid (below_then HB0.out hB5)
              have HX5 := Lib.hid (box2_kept HX0.out hB5)
              clear hB5
              have x5 := obj_cell HX5.out.1 5 _ rfl
              have y5 := obj_cell HX5.out.2 5 _ rfl
              go_wp2_with fail
              refine (K5.out _ HB5.out).mono ?_
              rintro e w6 ⟨rfl, hB6⟩
              have HB6 := Lib.hid (below_then HB5.out hB6)
              have HX6 := Lib.hid (box2_kept HX5.out hB6)
              clear x5 y5
              clear hB6
              go_wp2
              go_ret
              exact ⟨by rw [HV.out]; rfl, HB6.out⟩
end Go.Proofs.YtgmfhldfdnnafaaGreatDoor
namespace Go.Proofs.YtgmfhldfdnnafaaGreatDoor
open Go.RowKit
open Pl (Bs)
set_option linter.unusedSimpArgs false
set_option linter.unusedVariables false
set_option maxHeartbeats 400000 in
theorem eqKeys_ne (A B : Option Addr) (n m c d : Nat) (v : Value) (w : World) (h : n ≠ m) :
    Calls Tryz.prog 36 #[.slice A n c, .slice B m d, v] w fun e w' => e = .returned (.bool false) ∧ w = w' := by
  have hh : ((n : Int) != (m : Int)) = true := by rw [bne_iff_ne]; omega
  go_enter Tryz.func36, Tryz.ntmps36
  go_wp2
  go_ret
  exact ⟨rfl, rfl⟩
abbrev keyO (vs vk : Value) (x : KeyP) : Obj := Obj.cells #[.string (str x.name), .string (str x.text), .string (str x.field), .int .i64 x.n, vs, vk] 51
set_option maxHeartbeats 4000000 in
set_option maxRecDepth 100000 in
theorem eqKeys_of (l : List KeyP) (hS : ∀ x ∈ l, SameKeyCon x) : EqKeysCon l := by
  intro m A B c d cs cs' T T' w hl hf hf' hT hT' hR hI hR' hI'
  rw [sameKeysP_eq]
  by_cases hlm : l.length = m.length
  · obtain ⟨n, hn⟩ : ∃ n, l.length = n := ⟨_, rfl⟩
    have hh : ((n : Int) != (n : Int)) = false := by simp
    rw [← hlm, hn]
    by_cases h0 : n = 0
    · have HV := Lib.hid (show sameL sameKeyP l m = true from sameL_all hlm (fun j x y h1 h2 => by have := (List.getElem?_eq_some_iff.1 h1).1; omega))
      subst h0
      clear hR hI hR' hI' hf hf' hT hT' hlm hn hl hS
      rw [keyFn]
      go_enter Tryz.func36, Tryz.ntmps36
      go_wp2
      refine wp_loop_rounds 1 ?_
      rw [rounds_succ]
      go_wp2
      go_ret
      exact ⟨by rw [HV.out]; rfl, Below.refl _ _⟩
    · obtain ⟨b1, rfl, t1, h1⟩ := hR.parts (by omega)
      obtain ⟨b2, rfl, t2, h2⟩ := hR'.parts (by omega)
      have lt1 := hT b1 t1
      have lt2 := hT' b2 t2
      have CX := Lib.hid (fun k (hk : k < n) (wr : World) (hB : Below w.heap.size w wr) => show ∃ x vp vn kcs, l[k]? = some x ∧ (x.set.length ≤ 1000000000 ∧ x.kids.length ≤ 1000000000 ∧ KeysFit x.kids) ∧ SameKeyCon x ∧ KeyAt wr T vp vn kcs x ∧ ∀ j v, j < 6 → (keyC vp vn x)[j]? = some v → wr.cell? ⟨b1, k * 6 + j, none⟩ = some v by
        have hk' : k < l.length := by omega
        obtain ⟨vp, vn, kcs, g1, g2⟩ := hI.at k l[k] (List.getElem?_eq_getElem hk')
        exact ⟨l[k], vp, vn, kcs, List.getElem?_eq_getElem hk', hf.at _ (List.getElem_mem hk'), hS _ (List.getElem_mem hk'), g1.kept (fun i hi => hB.block i (hT i hi)), fun j v hj hv => (World.cell?_of_block (hB.block b1 lt1)).trans (h1 _ v (by rw [g2 j hj]; exact hv))⟩)
      have CY := Lib.hid (fun k (hk : k < n) (wr : World) (hB : Below w.heap.size w wr) => show ∃ x vp vn kcs, m[k]? = some x ∧ KeysFit x.kids ∧ KeyAt wr T' vp vn kcs x ∧ ∀ j v, j < 6 → (keyC vp vn x)[j]? = some v → wr.cell? ⟨b2, k * 6 + j, none⟩ = some v by
        have hk' : k < m.length := by omega
        obtain ⟨vp, vn, kcs, g1, g2⟩ := hI'.at k m[k] (List.getElem?_eq_getElem hk')
        exact ⟨m[k], vp, vn, kcs, List.getElem?_eq_getElem hk', (hf'.at _ (List.getElem_mem hk')).2.2, g1.kept (fun i hi => hB.block i (hT' i hi)), fun j v hj hv => (World.cell?_of_block (hB.block b2 lt2)).trans (h2 _ v (by rw [g2 j hj]; exact hv))⟩)
      have HL := Lib.hid (show l.length = n ∧ m.length = n from ⟨hn, by omega⟩)
      have HT := Lib.hid hT
      have HT' := Lib.hid hT'
      have hn' : n ≤ 1000000000 := by omega
      clear hR hI hR' hI' hf hf' hT hT' hlm hn hl h1 h2 hS
      rw [keyFn]
      go_enter Tryz.func36, Tryz.ntmps36
      go_wp2
      go_loopw [17] (fun i wr => ∃ k : Nat, k ≤ n ∧ i = .int .i64 k ∧ Hid (∀ j x y, j < k → l[j]? = some x → m[j]? = some y → sameKeyP x y = true) ∧ Hid (Below w.heap.size w wr)) (fun i _ => n - (intOf i).toNat)
      case atStart => exact ⟨0, Nat.zero_le _, rfl, Lib.hid (fun j x y hj => absurd hj (Nat.not_lt_zero _)), Lib.hid (Below.refl _ _)⟩
      case round =>
        obtain ⟨k, hk, rfl, HA, HB⟩ := hrel
        by_cases hkn : k < n
        · obtain ⟨x, vp, vn, kcs, hx, fx, kx, sx, cx⟩ := CX.out k hkn wr HB.out
          obtain ⟨y, vp', vn', kcs', hy, fy, sy, cy⟩ := CY.out k hkn wr HB.out
          have hz := HB.out.size
          have x0 := cx 0 _ (by decide) rfl
          have x1 := cx 1 _ (by decide) rfl
          have x2 := cx 2 _ (by decide) rfl
          have x3 := cx 3 _ (by decide) rfl
          have x4 := cx 4 _ (by decide) rfl
          have x5 := cx 5 _ (by decide) rfl
          have y0 := cy 0 _ (by decide) rfl
          have y1 := cy 1 _ (by decide) rfl
          have y2 := cy 2 _ (by decide) rfl
          have y3 := cy 3 _ (by decide) rfl
          have y4 := cy 4 _ (by decide) rfl
          have y5 := cy 5 _ (by decide) rfl
          rw [Nat.add_zero] at x0 y0
          have l1 : b1 < wr.heap.size := by omega
          have l2 : b2 < wr.heap.size := by omega
          have HB2 := Lib.hid (box2 wr (keyO vp vn x) (keyO vp' vn' y)).2
          have K := Lib.hid (kx y vp vn vp' vn' kcs kcs' T T' ((wr.alloc (keyO vp vn x)).alloc (keyO vp' vn' y)) fx.1 fx.2.1 fx.2.2 fy (fun i hi => Nat.lt_of_lt_of_le (Nat.lt_of_lt_of_le (HT.out i hi) hz) HB2.out.size) (fun i hi => Nat.lt_of_lt_of_le (Nat.lt_of_lt_of_le (HT'.out i hi) hz) HB2.out.size) (sx.kept (fun i hi => HB2.out.block i (Nat.lt_of_lt_of_le (HT.out i hi) hz))) (sy.kept (fun i hi => HB2.out.block i (Nat.lt_of_lt_of_le (HT'.out i hi) hz))))
          have HX := Lib.hid (show l[k]? = some x ∧ m[k]? = some y from ⟨hx, hy⟩)
          obtain ⟨A1, c1, A2, c2, rfl, rfl, _, _, _⟩ := sx.open
          obtain ⟨A3, c3, A4, c4, rfl, rfl, _, _, _⟩ := sy.open
          clear hx hy fx fy sx sy cx cy kx
          cases hs : sameKeyP x y with
          | true =>
            rw [hs] at K
            have HN := Lib.hid (show ∀ j x y, j < k + 1 → l[j]? = some x → m[j]? = some y → sameKeyP x y = true from fun j x' y' hj h1 h2 => by
              by_cases hjk : j = k
              · subst hjk
                obtain rfl := Option.some.inj (HX.out.1.symm.trans h1)
                obtain rfl := Option.some.inj (HX.out.2.symm.trans h2)
                exact hs
              · exact HA.out j x' y' (by omega) h1 h2)
            clear hs
            go_wp2_with fail
            refine K.out.mono ?_
            rintro e w2 ⟨rfl, hB3⟩
            have HB3 := Lib.hid (below_then (below_then HB.out HB2.out) hB3)
            clear hB3
            go_wp2
            go_roundw
            case rel => exact ⟨k + 1, by omega, by go_num, HN, HB3⟩
            case measure => simp [intOf]; omega
          | false =>
            rw [hs] at K
            have HV := Lib.hid (show sameL sameKeyP l m = false from sameL_not HX.out.1 HX.out.2 hs)
            clear hs
            go_wp2_with fail
            refine K.out.mono ?_
            rintro e w2 ⟨rfl, hB3⟩
            have HB3 := Lib.hid (below_then (below_then HB.out HB2.out) hB3)
            clear hB3
            go_wp2
            go_ret
            exact ⟨by rw [HV.out]; rfl, HB3.out⟩
        · obtain rfl : k = n := by omega
          have HV := Lib.hid (show sameL sameKeyP l m = true from sameL_all (by rw [HL.out.1, HL.out.2]) (fun j x y h1 h2 => HA.out j x y (by have := (List.getElem?_eq_some_iff.1 h1).1; have := HL.out.1; omega) h1 h2))
          go_wp2
          go_ret
          exact ⟨by rw [HV.out]; rfl, HB.out⟩
  · refine (eqKeys_ne A B _ _ c d _ w hlm).mono ?_
    rintro e w' ⟨rfl, rfl⟩
    exact ⟨congrArg (fun b => Ending.returned (.bool b)) (sameL_len hlm).symm, Below.refl _ _⟩
/-- how deep keys go: a bound for the induction -/
theorem eqKeys_all : ∀ (n : Nat) (l : List KeyP), SizeOf.sizeOf l ≤ n → EqKeysCon l := by
  intro n
  induction n with
  | zero => intro l h; cases l <;> simp at h
  | succ n ih =>
    intro l h
    refine eqKeys_of l (fun x hx => sameKey_of x (ih _ ?_))
    have h1 := List.sizeOf_lt_of_mem hx
    have h2 : SizeOf.sizeOf x.kids < SizeOf.sizeOf x := by cases x; simp [KeyP.kids]; omega
    omega
theorem eqKeys_walk (l : List KeyP) : EqKeysCon l := eqKeys_all _ l (Nat.le_refl _)
theorem sameKeys_refl : ∀ (n : Nat) (l : List KeyP), SizeOf.sizeOf l ≤ n → sameKeysP l l = true := by
  intro n
  induction n with
  | zero => intro l h; cases l <;> simp at h
  | succ n ih =>
    intro l h
    rw [sameKeysP_eq]
    refine sameL_refl (fun x hx => ?_)
    have h1 := List.sizeOf_lt_of_mem hx
    have h2 : SizeOf.sizeOf x.kids < SizeOf.sizeOf x := by cases x; simp [KeyP.kids]; omega
    rw [sameKeyP_eq, ih _ (by omega)]
    simp
end Go.Proofs.YtgmfhldfdnnafaaGreatDoor
namespace Go.Proofs.YtgmfhldfdnnafaaGreatDoor
open Go.RowKit
open Pl (Bs)
set_option linter.unusedSimpArgs false
set_option linter.unusedVariables false
structure CmdP where
  tag : Bs
  name : Bs
  uid : Bool
  args : List Bs
  set : List (Int × Int)
  how : Int
  flags : Int
  silent : Bool
  date : Int
  body : Bs
  items : List ItemP
  keys : List KeyP
/-- a command's cells -/
structure CmdAt (w : World) (T : Nat → Prop) (c : CmdV) (x : CmdP) : Prop where
  tag : c.tag = str x.tag
  name : c.name = str x.name
  uid : c.uid = x.uid
  args : c.aN = x.args.length ∧ RowC w T (.slice c.aA x.args.length c.aC) x.args.length (x.args.map strV)
  set : c.sN = x.set.length ∧ RowC w T (.slice c.sA x.set.length c.sC) x.set.length (flat x.set)
  how : c.how = x.how
  flags : c.flags = x.flags
  silent : c.silent = x.silent
  date : c.date = x.date
  body : c.body = str x.body
  items : c.iN = x.items.length ∧ ∃ cs, RowC w T (.slice c.iA x.items.length c.iC) x.items.length cs ∧ ItemsC w T x.items cs
  keys : c.kN = x.keys.length ∧ ∃ cs, RowC w T (.slice c.kA x.keys.length c.kC) x.keys.length cs ∧ KeysC w T x.keys cs
theorem CmdAt.kept {w w1 : World} {T : Nat → Prop} {c : CmdV} {x : CmdP} (h : CmdAt w T c x) (hk : ∀ i, T i → w1.heap[i]? = w.heap[i]?) : CmdAt w1 T c x := by
  obtain ⟨h1, h2, h3, ⟨h4, g4⟩, ⟨h5, g5⟩, h6, h7, h8, h9, h10, ⟨h11, cs, g11, k11⟩, ⟨h12, cs', g12, k12⟩⟩ := h
  exact ⟨h1, h2, h3, ⟨h4, g4.kept hk⟩, ⟨h5, g5.kept hk⟩, h6, h7, h8, h9, h10, ⟨h11, cs, g11.kept hk, k11.kept hk⟩, ⟨h12, cs', g12.kept hk, k12.kept hk⟩⟩
theorem CmdAt.more {w : World} {T T' : Nat → Prop} {c : CmdV} {x : CmdP} (h : CmdAt w T c x) (hk : ∀ i, T i → T' i) : CmdAt w T' c x := by
  obtain ⟨h1, h2, h3, ⟨h4, g4⟩, ⟨h5, g5⟩, h6, h7, h8, h9, h10, ⟨h11, cs, g11, k11⟩, ⟨h12, cs', g12, k12⟩⟩ := h
  exact ⟨h1, h2, h3, ⟨h4, g4.more hk⟩, ⟨h5, g5.more hk⟩, h6, h7, h8, h9, h10, ⟨h11, cs, g11.more hk, k11.more hk⟩, ⟨h12, cs', g12.more hk, k12.more hk⟩⟩
/-- short enough for a machine -/
structure CmdFit (x : CmdP) : Prop where
  args : x.args.length ≤ 1000000000
  set : x.set.length ≤ 1000000000
  items : x.items.length ≤ 1000000000
  each : ∀ y ∈ x.items, SpecFit y.spec
  keys : x.keys.length ≤ 1000000000
  deep : KeysFit x.keys
def sameC (x y : CmdP) : Bool := decide (x.tag = y.tag) && (decide (x.name = y.name) && (decide (x.uid = y.uid) && (decide (x.args = y.args) && (decide (x.set = y.set) && (decide (x.how = y.how) && (decide (x.flags = y.flags) && (decide (x.silent = y.silent) && (decide (x.date = y.date) && (decide (x.body = y.body) && (sameItemsP x.items y.items && (sameKeysP x.keys y.keys)))))))))))
theorem sameSpec_refl (x : SpecP) : sameSpec x x = true := by simp [sameSpec]
theorem sameItemP_refl (x : ItemP) : sameItemP x x = true := by simp [sameItemP, sameSpec_refl]
theorem sameC_refl (x : CmdP) : sameC x x = true := by
  have h1 := sameKeys_refl _ x.keys (Nat.le_refl _)
  have h2 : sameItemsP x.items x.items = true := sameL_refl (fun y _ => sameItemP_refl y)
  simp only [sameC, h1, h2, decide_true, Bool.and_self]
set_option maxHeartbeats 8000000 in
set_option maxRecDepth 100000 in
theorem same_walk (x y : CmdP) (hx : CmdFit x) (hy : CmdFit y) (c d : CmdV) (T T' : Nat → Prop) (w : World) (hT : ∀ i, T i → i < w.heap.size) (hT' : ∀ i, T' i → i < w.heap.size) (h1 : CmdAt w T c x) (h2 : CmdAt w T' d y) :
    Calls Tryz.prog 13 #[.agg c.cells, .agg d.cells] w fun e w' => e = .returned (.bool (sameC x y)) ∧ Below w.heap.size w w' := by
  obtain ⟨e0, e1, e2, ⟨en3, r3⟩, ⟨en4, r4⟩, e5, e6, e7, e8, e9, ⟨en10, cs, r10, k10⟩, ⟨en11, cs', r11, k11⟩⟩ := h1
  obtain ⟨f0, f1, f2, ⟨fn3, s3⟩, ⟨fn4, s4⟩, f5, f6, f7, f8, f9, ⟨fn10, ds, s10, m10⟩, ⟨fn11, ds', s11, m11⟩⟩ := h2
  obtain ⟨ctag, cname, cuid, caA, caN, caC, csA, csN, csC, chow, cflags, csilent, cdate, cbody, ciA, ciN, ciC, ckA, ckN, ckC⟩ := c
  obtain ⟨dtag, dname, duid, daA, daN, daC, dsA, dsN, dsC, dhow, dflags, dsilent, ddate, dbody, diA, diN, diC, dkA, dkN, dkC⟩ := d
  dsimp only at *
  subst e0 e1 e2 en3 en4 e5 e6 e7 e8 e9 en10 en11 f0 f1 f2 fn3 fn4 f5 f6 f7 f8 f9 fn10 fn11
  have hM : ∀ {W : World}, Below w.heap.size w W → ∀ i, T i → i < W.heap.size := fun hB i hi => Nat.lt_of_lt_of_le (hT i hi) hB.size
  have hM' : ∀ {W : World}, Below w.heap.size w W → ∀ i, T' i → i < W.heap.size := fun hB i hi => Nat.lt_of_lt_of_le (hT' i hi) hB.size
  have K3 : Hid (∀ W, Below w.heap.size w W → Calls Tryz.prog 32 #[.slice caA x.args.length caC, .slice daA y.args.length daC] W fun e w' => e = .returned (.bool (decide (x.args = y.args))) ∧ Below W.heap.size W w') := Lib.hid (fun W hB => (eqS_walk caA daA caC daC x.args y.args T T' W (r3.below hT hB) (s3.below hT' hB) (by have := hx.args; omega) (by have := hy.args; omega)).mono fun e w' ⟨h1, h2⟩ => ⟨h1, below_q h2⟩)
  have K4 : Hid (∀ W, Below w.heap.size w W → Calls Tryz.prog 33 #[.slice csA x.set.length csC, .slice dsA y.set.length dsC] W fun e w' => e = .returned (.bool (decide (x.set = y.set))) ∧ Below W.heap.size W w') := Lib.hid (fun W hB => (eqR_walk csA dsA csC dsC x.set y.set T T' W (r4.below hT hB) (s4.below hT' hB) (by have := hx.set; omega)).mono fun e w' ⟨h1, h2⟩ => ⟨h1, below_q h2⟩)
  have K10 : Hid (∀ W, Below w.heap.size w W → Calls Tryz.prog 34 #[.slice ciA x.items.length ciC, .slice diA y.items.length diC, .func (.func 35) #[] #[]] W fun e w' => e = .returned (.bool (sameItemsP x.items y.items)) ∧ Below W.heap.size W w') := Lib.hid (fun W hB => eqItems_walk ciA diA ciC diC x.items y.items cs ds T T' W hx.items hx.each hy.each (hM hB) (hM' hB) (r10.below hT hB) (k10.kept (fun i hi => hB.block i (hT i hi))) (s10.below hT' hB) (m10.kept (fun i hi => hB.block i (hT' i hi))))
  have K11 : Hid (∀ W, Below w.heap.size w W → Calls Tryz.prog 36 #[.slice ckA x.keys.length ckC, .slice dkA y.keys.length dkC, .func (.func 37) #[] #[]] W fun e w' => e = .returned (.bool (sameKeysP x.keys y.keys)) ∧ Below W.heap.size W w') := Lib.hid (fun W hB => eqKeys_walk x.keys y.keys ckA dkA ckC dkC cs' ds' T T' W hx.keys hx.deep hy.deep (hM hB) (hM' hB) (r11.below hT hB) (k11.kept (fun i hi => hB.block i (hT i hi))) (s11.below hT' hB) (m11.kept (fun i hi => hB.block i (hT' i hi))))
  have HV := Lib.hid (show sameC x y = (decide (x.tag = y.tag) && (decide (x.name = y.name) && (decide (x.uid = y.uid) && (decide (x.args = y.args) && (decide (x.set = y.set) && (decide (x.how = y.how) && (decide (x.flags = y.flags) && (decide (x.silent = y.silent) && (decide (x.date = y.date) && (decide (x.body = y.body) && (sameItemsP x.items y.items && (sameKeysP x.keys y.keys)))))))))))) from rfl)
  have e0 := str_beq x.tag y.tag
  have e1 := str_beq x.name y.name
  have e2 := bool_beq x.uid y.uid
  have e5 := int_beq x.how y.how
  have e6 := int_beq x.flags y.flags
  have e7 := bool_beq x.silent y.silent
  have e8 := int_beq x.date y.date
  have e9 := str_beq x.body y.body
  clear hT hT' hx hy hM hM' r3 s3 r4 s4 r10 s10 k10 m10 r11 s11 k11 m11
  generalize sameC x y = R at *
  generalize decide (x.tag = y.tag) = b0 at *
  generalize decide (x.name = y.name) = b1 at *
  generalize decide (x.uid = y.uid) = b2 at *
  generalize decide (x.args = y.args) = b3 at *
  generalize decide (x.set = y.set) = b4 at *
  generalize decide (x.how = y.how) = b5 at *
  generalize decide (x.flags = y.flags) = b6 at *
  generalize decide (x.silent = y.silent) = b7 at *
  generalize decide (x.date = y.date) = b8 at *
  generalize decide (x.body = y.body) = b9 at *
  generalize sameItemsP x.items y.items = b10 at *
  generalize sameKeysP x.keys y.keys = b11 at *
  generalize str x.tag = t0x at *
  generalize str x.name = n1x at *
  generalize x.uid = u2x at *
  generalize x.args.length = a3x at *
  generalize x.set.length = s4x at *
  generalize x.how = h5x at *
  generalize x.flags = f6x at *
  generalize x.silent = s7x at *
  generalize x.date = d8x at *
  generalize str x.body = b9x at *
  generalize x.items.length = i10x at *
  generalize x.keys.length = k11x at *
  generalize str y.tag = t0y at *
  generalize str y.name = n1y at *
  generalize y.uid = u2y at *
  generalize y.args.length = a3y at *
  generalize y.set.length = s4y at *
  generalize y.how = h5y at *
  generalize y.flags = f6y at *
  generalize y.silent = s7y at *
  generalize y.date = d8y at *
  generalize str y.body = b9y at *
  generalize y.items.length = i10y at *
  generalize y.keys.length = k11y at *
  have HX0 := Lib.hid (box2 w (Obj.cells #[.string t0x, .string n1x, .bool u2x, .slice caA a3x caC, .slice csA s4x csC, .int .i64 h5x, .int .i64 f6x, .bool s7x, .int .i64 d8x, .string b9x, .slice ciA i10x ciC, .slice ckA k11x ckC] 33) (Obj.cells #[.string t0y, .string n1y, .bool u2y, .slice daA a3y daC, .slice dsA s4y dsC, .int .i64 h5y, .int .i64 f6y, .bool s7y, .int .i64 d8y, .string b9y, .slice diA i10y diC, .slice dkA k11y dkC] 33)).1
  have HB0 := Lib.hid (box2 w (Obj.cells #[.string t0x, .string n1x, .bool u2x, .slice caA a3x caC, .slice csA s4x csC, .int .i64 h5x, .int .i64 f6x, .bool s7x, .int .i64 d8x, .string b9x, .slice ciA i10x ciC, .slice ckA k11x ckC] 33) (Obj.cells #[.string t0y, .string n1y, .bool u2y, .slice daA a3y daC, .slice dsA s4y dsC, .int .i64 h5y, .int .i64 f6y, .bool s7y, .int .i64 d8y, .string b9y, .slice diA i10y diC, .slice dkA k11y dkC] 33)).2
  simp only [CmdV.cells]
  cases b0 with
  | false =>
    go_enter Tryz.func13, Tryz.ntmps13
    go_wp2
    go_ret
    exact ⟨by rw [HV.out]; rfl, HB0.out⟩
  | true =>
    cases b1 with
    | false =>
      go_enter Tryz.func13, Tryz.ntmps13
      go_wp2
      go_ret
      exact ⟨by rw [HV.out]; rfl, HB0.out⟩
    | true =>
      cases b2 with
      | false =>
        go_enter Tryz.func13, Tryz.ntmps13
        go_wp2
        go_ret
        exact ⟨by rw [HV.out]; rfl, HB0.out⟩
      | true =>
        cases b3 with
        | false =>
          go_enter Tryz.func13, Tryz.ntmps13
          go_wp2_with fail
          refine (K3.out _ HB0.out).mono ?_
          rintro e w4 ⟨rfl, hB4⟩
          have HB4 := Lib.hid (below_then HB0.out hB4)
          have HX4 := Lib.hid (box2_kept HX0.out hB4)
          clear hB4
          go_wp2
          go_ret
          exact ⟨by rw [HV.out]; rfl, HB4.out⟩
        | true =>
          cases b4 with
          | false =>
            go_enter Tryz.func13, Tryz.ntmps13
            go_wp2_with fail
            refine (K3.out _ HB0.out).mono ?_
            rintro e w4 ⟨rfl, hB4⟩
            have HB4 := Lib.hid (below_then HB0.out hB4)
            have HX4 := Lib.hid (box2_kept HX0.out hB4)
            clear hB4
            have x4 := obj_cell HX4.out.1 4 _ rfl
            have y4 := obj_cell HX4.out.2 4 _ rfl
            go_wp2_with fail
            refine (K4.out _ HB4.out).mono ?_
            rintro e w5 ⟨rfl, hB5⟩
            have HB5 := Lib.hid (below_then HB4.out hB5)
            have HX5 := Lib.hid (box2_kept HX4.out hB5)
            clear x4 y4
            clear hB5
            go_wp2
            go_ret
            exact ⟨by rw [HV.out]; rfl, HB5.out⟩
          | true =>
            cases b5 with
            | false =>
              go_enter Tryz.func13, Tryz.ntmps13
              go_wp2_with fail
              refine (K3.out _ HB0.out).mono ?_
              rintro e w4 ⟨rfl, hB4⟩
              have HB4 := Lib.hid (below_then HB0.out hB4)
              have HX4 := Lib.hid (box2_kept HX0.out hB4)
              clear hB4
              have x4 := obj_cell HX4.out.1 4 _ rfl
              have y4 := obj_cell HX4.out.2 4 _ rfl
              have x5 := obj_cell HX4.out.1 5 _ rfl
              have y5 := obj_cell HX4.out.2 5 _ rfl
              go_wp2_with fail
              refine (K4.out _ HB4.out).mono ?_
              rintro e w5 ⟨rfl, hB5⟩
              have HB5 := Lib.hid (below_then HB4.out hB5)
              have HX5 := Lib.hid (box2_kept HX4.out hB5)
              clear x4 y4 x5 y5
              clear hB5
              have x5 := obj_cell HX5.out.1 5 _ rfl
              have y5 := obj_cell HX5.out.2 5 _ rfl
              go_wp2
              go_ret
              exact ⟨by rw [HV.out]; rfl, HB5.out⟩
            | true =>
              cases b6 with
              | false =>
                go_enter Tryz.func13, Tryz.ntmps13
                go_wp2_with fail
                refine (K3.out _ HB0.out).mono ?_
                rintro e w4 ⟨rfl, hB4⟩
                have HB4 := Lib.hid (below_then HB0.out hB4)
                have HX4 := Lib.hid (box2_kept HX0.out hB4)
                clear hB4
                have x4 := obj_cell HX4.out.1 4 _ rfl
                have y4 := obj_cell HX4.out.2 4 _ rfl
                have x5 := obj_cell HX4.out.1 5 _ rfl
                have y5 := obj_cell HX4.out.2 5 _ rfl
                have x6 := obj_cell HX4.out.1 6 _ rfl
                have y6 := obj_cell HX4.out.2 6 _ rfl
                go_wp2_with fail
                refine (K4.out _ HB4.out).mono ?_
                rintro e w5 ⟨rfl, hB5⟩
                have HB5 := Lib.hid (below_then HB4.out hB5)
                have HX5 := Lib.hid (box2_kept HX4.out hB5)
                clear x4 y4 x5 y5 x6 y6
                clear hB5
                have x5 := obj_cell HX5.out.1 5 _ rfl
                have y5 := obj_cell HX5.out.2 5 _ rfl
                have x6 := obj_cell HX5.out.1 6 _ rfl
                have y6 := obj_cell HX5.out.2 6 _ rfl
                go_wp2
                go_ret
                exact ⟨by rw [HV.out]; rfl, HB5.out⟩
              | true =>
                cases b7 with
                | false =>
                  go_enter Tryz.func13, Tryz.ntmps13
                  go_wp2_with fail
                  refine (K3.out _ HB0.out).mono ?_
                  rintro e w4 ⟨rfl, hB4⟩
                  have HB4 := Lib.hid (below_then HB0.out hB4)
                  have HX4 := Lib.hid (box2_kept HX0.out hB4)
                  clear hB4
                  have x4 := obj_cell HX4.out.1 4 _ rfl
                  have y4 := obj_cell HX4.out.2 4 _ rfl
                  have x5 := obj_cell HX4.out.1 5 _ rfl
                  have y5 := obj_cell HX4.out.2 5 _ rfl
                  have x6 := obj_cell HX4.out.1 6 _ rfl
                  have y6 := obj_cell HX4.out.2 6 _ rfl
                  have x7 := obj_cell HX4.out.1 7 _ rfl
                  have y7 := obj_cell HX4.out.2 7 _ rfl
                  go_wp2_with fail
                  refine (K4.out _ HB4.out).mono ?_
                  rintro e w5 ⟨rfl, hB5⟩
                  have HB5 := Lib.hid (below_then HB4.out hB5)
                  have HX5 := Lib.hid (box2_kept HX4.out hB5)
                  clear x4 y4 x5 y5 x6 y6 x7 y7
                  clear hB5
                  have x5 := obj_cell HX5.out.1 5 _ rfl
                  have y5 := obj_cell HX5.out.2 5 _ rfl
                  have x6 := obj_cell HX5.out.1 6 _ rfl
                  have y6 := obj_cell HX5.out.2 6 _ rfl
                  have x7 := obj_cell HX5.out.1 7 _ rfl
                  have y7 := obj_cell HX5.out.2 7 _ rfl
                  go_wp2
                  go_ret
                  exact ⟨by rw [HV.out]; rfl, HB5.out⟩
                | true =>
                  cases b8 with
                  | false =>
                    go_enter Tryz.func13, Tryz.ntmps13
                    go_wp2_with fail
                    refine (K3.out _ HB0.out).mono ?_
                    rintro e w4 ⟨rfl, hB4⟩
                    have HB4 := Lib.hid (below_then HB0.out hB4)
                    have HX4 := Lib.hid (box2_kept HX0.out hB4)
                    clear hB4
                    have x4 := obj_cell HX4.out.1 4 _ rfl
                    have y4 := obj_cell HX4.out.2 4 _ rfl
                    have x5 := obj_cell HX4.out.1 5 _ rfl
                    have y5 := obj_cell HX4.out.2 5 _ rfl
                    have x6 := obj_cell HX4.out.1 6 _ rfl
                    have y6 := obj_cell HX4.out.2 6 _ rfl
                    have x7 := obj_cell HX4.out.1 7 _ rfl
                    have y7 := obj_cell HX4.out.2 7 _ rfl
                    have x8 := obj_cell HX4.out.1 8 _ rfl
                    have y8 := obj_cell HX4.out.2 8 _ rfl
                    go_wp2_with fail
                    refine (K4.out _ HB4.out).mono ?_
                    rintro e w5 ⟨rfl, hB5⟩
                    have HB5 := Lib.hid (below_then HB4.out hB5)
                    have HX5 := Lib.hid (box2_kept HX4.out hB5)
                    clear x4 y4 x5 y5 x6 y6 x7 y7 x8 y8
                    clear hB5
                    have x5 := obj_cell HX5.out.1 5 _ rfl
                    have y5 := obj_cell HX5.out.2 5 _ rfl
                    have x6 := obj_cell HX5.out.1 6 _ rfl
                    have y6 := obj_cell HX5.out.2 6 _ rfl
                    have x7 := obj_cell HX5.out.1 7 _ rfl
                    have y7 := obj_cell HX5.out.2 7 _ rfl
                    have x8 := obj_cell HX5.out.1 8 _ rfl
                    have y8 := obj_cell HX5.out.2 8 _ rfl
                    go_wp2
                    go_ret
                    exact ⟨by rw [HV.out]; rfl, HB5.out⟩
                  | true =>
                    cases b9 with
                    | false =>
                      go_enter Tryz.func13, Tryz.ntmps13
                      go_wp2_with fail
                      refine (K3.out _ HB0.out).mono ?_
                      rintro e w4 ⟨rfl, hB4⟩
                      have HB4 := Lib.hid (below_then HB0.out hB4)
                      have HX4 := Lib.hid (box2_kept HX0.out hB4)
                      clear hB4
                      have x4 := obj_cell HX4.out.1 4 _ rfl
                      have y4 := obj_cell HX4.out.2 4 _ rfl
                      have x5 := obj_cell HX4.out.1 5 _ rfl
                      have y5 := obj_cell HX4.out.2 5 _ rfl
                      have x6 := obj_cell HX4.out.1 6 _ rfl
                      have y6 := obj_cell HX4.out.2 6 _ rfl
                      have x7 := obj_cell HX4.out.1 7 _ rfl
                      have y7 := obj_cell HX4.out.2 7 _ rfl
                      have x8 := obj_cell HX4.out.1 8 _ rfl
                      have y8 := obj_cell HX4.out.2 8 _ rfl
                      have x9 := obj_cell HX4.out.1 9 _ rfl
                      have y9 := obj_cell HX4.out.2 9 _ rfl
                      go_wp2_with fail
                      refine (K4.out _ HB4.out).mono ?_
                      rintro e w5 ⟨rfl, hB5⟩
                      have HB5 := Lib.hid (below_then HB4.out hB5)
                      have HX5 := Lib.hid (box2_kept HX4.out hB5)
                      clear x4 y4 x5 y5 x6 y6 x7 y7 x8 y8 x9 y9
                      clear hB5
                      have x5 := obj_cell HX5.out.1 5 _ rfl
                      have y5 := obj_cell HX5.out.2 5 _ rfl
                      have x6 := obj_cell HX5.out.1 6 _ rfl
                      have y6 := obj_cell HX5.out.2 6 _ rfl
                      have x7 := obj_cell HX5.out.1 7 _ rfl
                      have y7 := obj_cell HX5.out.2 7 _ rfl
                      have x8 := obj_cell HX5.out.1 8 _ rfl
                      have y8 := obj_cell HX5.out.2 8 _ rfl
                      have x9 := obj_cell HX5.out.1 9 _ rfl
                      have y9 := obj_cell HX5.out.2 9 _ rfl
                      go_wp2
                      go_ret
                      exact ⟨by rw [HV.out]; rfl, HB5.out⟩
                    | true =>
                      cases b10 with
                      | false =>
                        go_enter Tryz.func13, Tryz.ntmps13
                        go_wp2_with fail
                        refine (K3.out _ HB0.out).mono ?_
                        rintro e w4 ⟨rfl, hB4⟩
                        have HB4 := Lib.hid (below_then HB0.out hB4)
                        have HX4 := Lib.hid (box2_kept HX0.out hB4)
                        clear hB4
                        have x4 := obj_cell HX4.out.1 4 _ rfl
                        have y4 := obj_cell HX4.out.2 4 _ rfl
                        have x5 := obj_cell HX4.out.1 5 _ rfl
                        have y5 := obj_cell HX4.out.2 5 _ rfl
                        have x6 := obj_cell HX4.out.1 6 _ rfl
                        have y6 := obj_cell HX4.out.2 6 _ rfl
                        have x7 := obj_cell HX4.out.1 7 _ rfl
                        have y7 := obj_cell HX4.out.2 7 _ rfl
                        have x8 := obj_cell HX4.out.1 8 _ rfl
                        have y8 := obj_cell HX4.out.2 8 _ rfl
                        have x9 := obj_cell HX4.out.1 9 _ rfl
                        have y9 := obj_cell HX4.out.2 9 _ rfl
                        have x10 := obj_cell HX4.out.1 10 _ rfl
                        have y10 := obj_cell HX4.out.2 10 _ rfl
                        go_wp2_with fail
                        refine (K4.out _ HB4.out).mono ?_
                        rintro e w5 ⟨rfl, hB5⟩
                        have HB5 := Lib.hid (below_then HB4.out hB5)
                        have HX5 := Lib.hid (box2_kept HX4.out hB5)
                        clear x4 y4 x5 y5 x6 y6 x7 y7 x8 y8 x9 y9 x10 y10
                        clear hB5
                        have x5 := obj_cell HX5.out.1 5 _ rfl
                        have y5 := obj_cell HX5.out.2 5 _ rfl
                        have x6 := obj_cell HX5.out.1 6 _ rfl
                        have y6 := obj_cell HX5.out.2 6 _ rfl
                        have x7 := obj_cell HX5.out.1 7 _ rfl
                        have y7 := obj_cell HX5.out.2 7 _ rfl
                        have x8 := obj_cell HX5.out.1 8 _ rfl
                        have y8 := obj_cell HX5.out.2 8 _ rfl
                        have x9 := obj_cell HX5.out.1 9 _ rfl
                        have y9 := obj_cell HX5.out.2 9 _ rfl
                        have x10 := obj_cell HX5.out.1 10 _ rfl
                        have y10 := obj_cell HX5.out.2 10 _ rfl
                        go_wp2_with fail
                        refine (K10.out _ HB5.out).mono ?_
                        rintro e w11 ⟨rfl, hB11⟩
                        have HB11 := Lib.hid (below_then HB5.out hB11)
                        have HX11 := Lib.hid (box2_kept HX5.out hB11)
                        clear x5 y5 x6 y6 x7 y7 x8 y8 x9 y9 x10 y10
                        clear hB11
                        go_wp2
                        go_ret
                        exact ⟨by rw [HV.out]; rfl, HB11.out⟩
                      | true =>
                        cases b11 with
                        | false =>
                          go_enter Tryz.func13, Tryz.ntmps13
                          go_wp2_with fail
                          refine (K3.out _ HB0.out).mono ?_
                          rintro e w4 ⟨rfl, hB4⟩
                          have HB4 := Lib.hid (below_then HB0.out hB4)
                          have HX4 := Lib.hid (box2_kept HX0.out hB4)
                          clear hB4
                          have x4 := obj_cell HX4.out.1 4 _ rfl
                          have y4 := obj_cell HX4.out.2 4 _ rfl
                          have x5 := obj_cell HX4.out.1 5 _ rfl
                          have y5 := obj_cell HX4.out.2 5 _ rfl
                          have x6 := obj_cell HX4.out.1 6 _ rfl
                          have y6 := obj_cell HX4.out.2 6 _ rfl
                          have x7 := obj_cell HX4.out.1 7 _ rfl
                          have y7 := obj_cell HX4.out.2 7 _ rfl
                          have x8 := obj_cell HX4.out.1 8 _ rfl
                          have y8 := obj_cell HX4.out.2 8 _ rfl
                          have x9 := obj_cell HX4.out.1 9 _ rfl
                          have y9 := obj_cell HX4.out.2 9 _ rfl
                          have x10 := obj_cell HX4.out.1 10 _ rfl
                          have y10 := obj_cell HX4.out.2 10 _ rfl
                          have x11 := obj_cell HX4.out.1 11 _ rfl
                          have y11 := obj_cell HX4.out.2 11 _ rfl
                          go_wp2_with fail
                          refine (K4.out _ HB4.out).mono ?_
                          rintro e w5 ⟨rfl, hB5⟩
                          have HB5 := Lib.hid (below_then HB4.out hB5)
                          have HX5 := Lib.hid (box2_kept HX4.out hB5)
                          clear x4 y4 x5 y5 x6 y6 x7 y7 x8 y8 x9 y9 x10 y10 x11 y11
                          clear hB5
                          have x5 := obj_cell HX5.out.1 5 _ rfl
                          have y5 := obj_cell HX5.out.2 5 _ rfl
                          have x6 := obj_cell HX5.out.1 6 _ rfl
                          have y6 := obj_cell HX5.out.2 6 _ rfl
                          have x7 := obj_cell HX5.out.1 7 _ rfl
                          have y7 := obj_cell HX5.out.2 7 _ rfl
                          have x8 := obj_cell HX5.out.1 8 _ rfl
                          have y8 := obj_cell HX5.out.2 8 _ rfl
                          have x9 := obj_cell HX5.out.1 9 _ rfl
                          have y9 := obj_cell HX5.out.2 9 _ rfl
                          have x10 := obj_cell HX5.out.1 10 _ rfl
                          have y10 := obj_cell HX5.out.2 10 _ rfl
                          have x11 := obj_cell HX5.out.1 11 _ rfl
                          have y11 := obj_cell HX5.out.2 11 _ rfl
                          go_wp2_with fail
                          refine (K10.out _ HB5.out).mono ?_
                          rintro e w11 ⟨rfl, hB11⟩
                          have HB11 := Lib.hid (below_then HB5.out hB11)
                          have HX11 := Lib.hid (box2_kept HX5.out hB11)
                          clear x5 y5 x6 y6 x7 y7 x8 y8 x9 y9 x10 y10 x11 y11
                          clear hB11
                          have x11 := obj_cell HX11.out.1 11 _ rfl
                          have y11 := obj_cell HX11.out.2 11 _ rfl
                          go_wp2_with fail
                          refine (K11.out _ HB11.out).mono ?_
                          rintro e w12 ⟨rfl, hB12⟩
                          have HB12 := Lib.hid (below_then HB11.out hB12)
                          have HX12 := Lib.hid (box2_kept HX11.out hB12)
                          clear x11 y11
                          clear hB12
                          go_wp2
                          go_ret
                          exact ⟨by rw [HV.out]; rfl, HB12.out⟩
                        | true =>
                          go_enter Tryz.func13, Tryz.ntmps13
                          go_wp2_with fail
                          refine (K3.out _ HB0.out).mono ?_
                          rintro e w4 ⟨rfl, hB4⟩
                          have HB4 := Lib.hid (below_then HB0.out hB4)
                          have HX4 := Lib.hid (box2_kept HX0.out hB4)
                          clear hB4
                          have x4 := obj_cell HX4.out.1 4 _ rfl
                          have y4 := obj_cell HX4.out.2 4 _ rfl
                          have x5 := obj_cell HX4.out.1 5 _ rfl
                          have y5 := obj_cell HX4.out.2 5 _ rfl
                          have x6 := obj_cell HX4.out.1 6 _ rfl
                          have y6 := obj_cell HX4.out.2 6 _ rfl
                          have x7 := obj_cell HX4.out.1 7 _ rfl
                          have y7 := obj_cell HX4.out.2 7 _ rfl
                          have x8 := obj_cell HX4.out.1 8 _ rfl
                          have y8 := obj_cell HX4.out.2 8 _ rfl
                          have x9 := obj_cell HX4.out.1 9 _ rfl
                          have y9 := obj_cell HX4.out.2 9 _ rfl
                          have x10 := obj_cell HX4.out.1 10 _ rfl
                          have y10 := obj_cell HX4.out.2 10 _ rfl
                          have x11 := obj_cell HX4.out.1 11 _ rfl
                          have y11 := obj_cell HX4.out.2 11 _ rfl
                          go_wp2_with fail
                          refine (K4.out _ HB4.out).mono ?_
                          rintro e w5 ⟨rfl, hB5⟩
                          have HB5 := Lib.hid (below_then HB4.out hB5)
                          have HX5 := Lib.hid (box2_kept HX4.out hB5)
                          clear x4 y4 x5 y5 x6 y6 x7 y7 x8 y8 x9 y9 x10 y10 x11 y11
                          clear hB5
                          have x5 := obj_cell HX5.out.1 5 _ rfl
                          have y5 := obj_cell HX5.out.2 5 _ rfl
                          have x6 := obj_cell HX5.out.1 6 _ rfl
                          have y6 := obj_cell HX5.out.2 6 _ rfl
                          have x7 := obj_cell HX5.out.1 7 _ rfl
                          have y7 := obj_cell HX5.out.2 7 _ rfl
                          have x8 := obj_cell HX5.out.1 8 _ rfl
                          have y8 := obj_cell HX5.out.2 8 _ rfl
                          have x9 := obj_cell HX5.out.1 9 _ rfl
                          have y9 := obj_cell HX5.out.2 9 _ rfl
                          have x10 := obj_cell HX5.out.1 10 _ rfl
                          have y10 := obj_cell HX5.out.2 10 _ rfl
                          have x11 := obj_cell HX5.out.1 11 _ rfl
                          have y11 := obj_cell HX5.out.2 11 _ rfl
                          go_wp2_with fail
                          refine (K10.out _ HB5.out).mono ?_
                          rintro e w11 ⟨rfl, hB11⟩
                          have HB11 := Lib.hid (below_then HB5.out hB11)
                          have HX11 := Lib.hid (box2_kept HX5.out hB11)
                          clear x5 y5 x6 y6 x7 y7 x8 y8 x9 y9 x10 y10 x11 y11
                          clear hB11
                          have x11 := obj_cell HX11.out.1 11 _ rfl
                          have y11 := obj_cell HX11.out.2 11 _ rfl
                          go_wp2_with fail
                          refine (K11.out _ HB11.out).mono ?_
                          rintro e w12 ⟨rfl, hB12⟩
                          have HB12 := Lib.hid (below_then HB11.out hB12)
                          have HX12 := Lib.hid (box2_kept HX11.out hB12)
                          clear x11 y11
                          clear hB12
                          go_wp2
                          go_ret
                          exact ⟨by rw [HV.out]; rfl, HB12.out⟩
end Go.Proofs.YtgmfhldfdnnafaaGreatDoor
namespace Go.Proofs.YtgmfhldfdnnafaaGreatDoor
open Go.RowKit
open Pl (Bs)
set_option linter.unusedSimpArgs false
set_option linter.unusedVariables false
def createP (x : Bs) : CmdP := ⟨[97], [67, 82, 69, 65, 84, 69], false, [x], [], 0, 0, false, -1, [], [], []⟩
theorem createFit (x : Bs) : CmdFit (createP x) := ⟨by simp [createP], by simp [createP], by simp [createP], fun y h => by simp [createP] at h, by simp [createP], .nil⟩
theorem crA (X : Bs) : wordB [] ([97, 32, 67, 82, 69, 65, 84, 69, 32] ++ X) = some ([97], 32 :: ([67, 82, 69, 65, 84, 69, 32] ++ X)) := by
  have h := word_app [] [97] ([67, 82, 69, 65, 84, 69, 32] ++ X) 32 (by decide) (fun x h => by
    have : ([97] : Bs).all (atomB []) = true := by kernel_rfl
    exact List.all_eq_true.1 this x h) (by kernel_rfl)
  simp only [List.cons_append, List.nil_append] at h ⊢
  exact h
theorem crB (X : Bs) : wordB [] ([67, 82, 69, 65, 84, 69, 32] ++ X) = some ([67, 82, 69, 65, 84, 69], 32 :: X) := by
  have h := word_app [] [67, 82, 69, 65, 84, 69] X 32 (by decide) (fun x h => by
    have : ([67, 82, 69, 65, 84, 69] : Bs).all (atomB []) = true := by kernel_rfl
    exact List.all_eq_true.1 this x h) (by kernel_rfl)
  simp only [List.cons_append, List.nil_append] at h ⊢
  exact h
theorem crTag : tagB [97] = true := by kernel_rfl
theorem crNm : largeL [67, 82, 69, 65, 84, 69] = [67, 82, 69, 65, 84, 69] := by kernel_rfl
/-- what parse_plain asks of the package's variables -/
theorem EnvW.ps {G : Glob} {w : World} (h : EnvW G w) : 20 ≤ w.heap.size ∧ ∀ W, Below w.heap.size w W → w.heap.size + 1 + 1 < W.heap.size → EnvI G W (w.heap.size + 1 + 1) :=
  ⟨by have := h.1; omega, fun W hB hl => h.2 W hB _ (by have := h.1; omega) hl⟩
theorem parse_create (G : Glob) (X x : Bs) (hx : textsB 1 (32 :: X) = some ([x], [])) (hX : X.length ≤ 900000) (w : World) (hE : EnvW G w) :
    Calls Tryz.prog 12 #[.string (str ([97, 32, 67, 82, 69, 65, 84, 69, 32] ++ X))] w fun e w' => Below w.heap.size w w' ∧ ∃ c : CmdV, e = .returned (.tuple #[.agg c.cells, .nilIface]) ∧ CmdAt w' (newT w w') c (createP x) := by
  refine (parse_plain G ([97, 32, 67, 82, 69, 65, 84, 69, 32] ++ X) [97] (32 :: ([67, 82, 69, 65, 84, 69, 32] ++ X)) ([67, 82, 69, 65, 84, 69, 32] ++ X) [67, 82, 69, 65, 84, 69] (32 :: X) (by simp; omega) (crA X) crTag (is_head _ _) (crB X) (by decide) w hE.ps.1 hE.ps.2 (fun W0 c W => CmdAt W (fun i => w.heap.size + 2 ≤ i ∧ i < W.heap.size) c (createP x)) ?_).mono (fun e w' h => ?_)
  · intro W hC hEW hS
    have hr := rest_create G (w.heap.size + 1 + 1) w.heap.size 0 _ _ (.slice none 0 0) (by kernel_rfl) rfl (by omega) hE.ps.1 W hC hEW hS
    rw [hx] at hr
    refine hr.mono ?_
    rintro e W' ⟨hR, rfl, hS', cs', hcmd, A, c, hcs, hrow⟩
    refine ⟨rfl, hR, { cmd0 [97] (largeL [67, 82, 69, 65, 84, 69]) false with aA := A, aN := 1, aC := c }, 0, hS', ?_, ⟨rfl, congrArg str crNm, rfl, ⟨rfl, ?_⟩, ⟨rfl, rowC_nil _ _ _⟩, rfl, rfl, rfl, rfl, rfl, ⟨rfl, [], rowC_nil _ _ _, .nil⟩, ⟨rfl, [], rowC_nil _ _ _, .nil⟩⟩⟩
    · rw [hcmd, hcs]
      rfl
    · have hW := (Array.getElem?_eq_some_iff.1 hS.heap).1
      exact hrow.more (fun i hi => ⟨by have := hi.1; omega, hi.2⟩)
  · obtain ⟨h1, c, W0, W, h2, hQ, hR⟩ := h
    exact ⟨h1, c, h2, (hQ.kept (fun i hi => hR.block i hi.2 (by omega) (by omega))).more (fun i hi => ⟨by omega, Nat.lt_of_lt_of_le hi.2 hR.size⟩)⟩
end Go.Proofs.YtgmfhldfdnnafaaGreatDoor
