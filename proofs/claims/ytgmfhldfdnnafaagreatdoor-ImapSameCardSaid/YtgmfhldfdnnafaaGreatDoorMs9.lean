/- A part of the proofs of the statements on chapter 21: walks of functions that they reach, and plain laws. What is proved is stated in the last text. Conditions: none of its own. -/
import Derived.Test.YtgmfhldfdnnafaaGreatDoorMs8
import Derived.Deep.AppendLies
set_option maxHeartbeats 8000000
set_option maxRecDepth 100000
set_option linter.unusedSimpArgs false
set_option linter.unusedVariables false
namespace Go.Proofs.YtgmfhldfdnnafaaGreatDoor
open Go.RowKit
open Pl (Bs digB val val_next val_small)
theorem slarge_walk (s : ByteArray) (hs : s.size ≤ 1000000) (w : World) :
  Calls Tryz.prog 164 #[.string s] w fun e w' => e = .returned (.string (largeS s)) ∧ Below w.heap.size w w' := by
 obtain ⟨w1, cap, cs, fr, hcv, hB, hh, _, ⟨W, hw, rfl⟩, hcell⟩ := bytes_mark w s
 have hrun := run_bytes_of_string (P := Tryz.prog) w 9 46 5 s Tryz.underlying9 Tryz.underlying46 Tryz.underlying5
 rw [hcv] at hrun
 have hrun' := (Result.ok.inj hrun)
 have HS : LargeSt w1 w.heap.size s 0 := by
  refine ⟨_, _, by rw [hrun'.2]; exact World.alloc_heap_new w.drew _, ?_, ?_, fun j hj => ?_⟩
  ·
   simp [bytesRow]
  ·
   simp [bytesRow]
  ·
   rw [if_neg (by omega)]; exact bytesRow_at s _ j hj
 have HB := Lib.hid hB
 have HS0 := Lib.hid HS
 clear hB HS hrun hrun' hh hw hcell
 go_enter Tryz.func164, Tryz.ntmps164
 go_wp2
 clear hcv
 go_loopw [10] (fun i wr => ∃ k : Nat, k ≤ s.size ∧ i = .int .i64 k ∧ Hid (LargeSt wr w.heap.size s k) ∧ Hid (Below w.heap.size w wr)) (fun i _ => s.size - (intOf i).toNat)
 case atStart => exact ⟨0, Nat.zero_le _, rfl, HS0, HB⟩
 case round =>
  obtain ⟨k, hk, rfl, HS, HB⟩ := hrel
  have zs := HB.out.size
  by_cases hkn : k < s.size
  ·
   obtain ⟨c1, f1⟩ := HS.out.cell hkn
   rw [if_neg (Nat.lt_irrefl k)] at c1
   by_cases hu : 97 ≤ (s[k]'hkn).toNat ∧ (s[k]'hkn).toNat ≤ 122
   ·
    obtain ⟨u1, u2⟩ := hu
    have HN := Lib.hid (HS.out.put hkn)
    have HU := Lib.hid (large_up _ u1 u2)
    have HBn := Lib.hid (HB.out.setCell (p := ⟨w.heap.size, k, none⟩) (Nat.le_refl _) (.int .u8 (((largeB (s[k]'hkn)).toNat : Nat) : Int)))
    rw [HU.out] at HN HBn
    generalize (s[k]'hkn) = c at *
    have i1 : (97 : Int) ≤ (c.toNat : Int) := by omega
    have i2 : (c.toNat : Int) ≤ 122 := by omega
    go_wp2
    go_roundw
    case rel => exact ⟨k + 1, by omega, by go_num, HN, HBn⟩
    case measure => simp [intOf]; omega
   ·
    have HN := Lib.hid (HS.out.keep hkn (large_not _ hu))
    generalize (s[k]'hkn) = c at *
    by_cases i1 : (97 : Int) ≤ (c.toNat : Int)
    ·
     have i2 : ¬ (c.toNat : Int) ≤ 122 := by omega
     go_wp2
     go_roundw
     case rel => exact ⟨k + 1, by omega, by go_num, HN, HB⟩
     case measure => simp [intOf]; omega
    ·
     go_wp2
     go_roundw
     case rel => exact ⟨k + 1, by omega, by go_num, HN, HB⟩
     case measure => simp [intOf]; omega
  ·
   obtain rfl : k = s.size := by omega
   have hcv2 : (convert 46 9 (.slice (some ⟨w.heap.size, 0, none⟩) s.size cap)).run Tryz.prog wr = .ok (.string (largeS s)) wr := by
    have hl : ((bs s).map largeB).length = s.size := by rw [List.length_map, bs_size]
    have h := run_convert_bytes_back wr 46 9 5 ⟨w.heap.size, 0, none⟩ cap ((bs s).map largeB) Tryz.underlying46 Tryz.underlying5 Tryz.underlying9 (fun j hj => by
     have hj' : j < s.size := by omega
     rw [add_at]
     rw [(HS.out.cell hj').1, if_pos hj']
     simp [at_bs s j hj'])
    rw [hl] at h
    exact h
   go_wp2
   go_ret
   exact ⟨rfl, HB.out⟩
def secNum (l : Bs) : Nat := if l.length = 0 ∨ l.head? = some 48 ∨ 3 < l.length ∨ l.all digB = false then 0 else val l
theorem secNum_len {l : Bs} (h : l.length = 0 ∨ 3 < l.length) : secNum l = 0 := by rw [secNum, if_pos]; rcases h with h | h; exact .inl h; exact .inr (.inr (.inl h))
theorem secNum_zero {l : Bs} (h : l.head? = some 48) : secNum l = 0 := by rw [secNum, if_pos (.inr (.inl h))]
theorem secNum_digit {l : Bs} (j : Nat) (hj : j < l.length) (h : digB l[j] = false) : secNum l = 0 := by
 rw [secNum, if_pos]
 refine .inr (.inr (.inr (Bool.eq_false_iff.2 fun e => ?_)))
 have := List.all_eq_true.1 e l[j] (List.getElem_mem hj)
 rw [h] at this; cases this
theorem secNum_yes {l : Bs} (h1 : l.length ≠ 0) (h2 : ¬ l.head? = some 48) (h3 : l.length ≤ 3) (h4 : ∀ c ∈ l, digB c = true) : secNum l = val l := by
 rw [secNum, if_neg]
 rintro (h | h | h | h)
 ·
  exact h1 h
 ·
  exact h2 h
 ·
  omega
 ·
  rw [List.all_eq_true.2 h4] at h; cases h
theorem secNum_le (l : Bs) : secNum l ≤ 999 := by
 unfold secNum
 split
 ·
  omega
 ·
  rename_i h
  have h3 : l.length ≤ 3 := by
   refine Nat.le_of_not_lt fun e => h (.inr (.inr (.inl e)))
  have h4 : ∀ c ∈ l, digB c = true := by
   cases e : l.all digB with
   | true => exact List.all_eq_true.1 e
   | false => exact absurd (.inr (.inr (.inr e))) h
  have h5 := val_small l h4
  have h6 : 10 ^ l.length ≤ 10 ^ 3 := Nat.pow_le_pow_right (by decide) h3
  have h7 : (10 : Nat) ^ 3 = 1000 := by decide
  omega
theorem snumber_walk (s : ByteArray) (w : World) (hs : s.size ≤ 1000000) :
  Calls Tryz.prog 163 #[.string s] w fun e w' => e = .returned (.int .i64 (secNum (bs s))) ∧ Below w.heap.size w w' := by
 obtain ⟨w1, cap, hcv, hB, hb⟩ := bytes_laid w s
 have HB := Lib.hid hB
 have HBs := Lib.hid hb
 clear hB hb
 by_cases z0 : s.size = 0
 ·
  obtain rfl := size_zero z0
  have HV := Lib.hid (secNum_len (l := bs ⟨#[]⟩) (.inl rfl))
  clear z0
  go_enter Tryz.func163, Tryz.ntmps163
  go_wp2
  go_ret
  exact ⟨by rw [HV.out]; rfl, Below.refl _ _⟩
 ·
  have zl : (bs s).length = s.size := bs_size s
  have he : s.toList.isEmpty = false := by
   rw [Lib.toList_data]
   show (bs s).isEmpty = false
   cases e : bs s with
   | nil => rw [e] at zl; simp at zl; omega
   | cons => rfl
  have hh := head_bs s (by omega)
  have h0 : 0 < s.size := by omega
  by_cases h48 : (s[0].toNat : Int) = 48
  ·
   have g48 : ((s[0].toNat : Int) == 48) = true := by rw [beq_iff_eq]; exact h48
   have HV := Lib.hid (secNum_zero (l := bs s) (by rw [hh, (byte_eq s[0] 48 (by decide)).2 h48]; rfl))
   clear h48 hh
   go_enter Tryz.func163, Tryz.ntmps163
   go_wp2
   go_ret
   exact ⟨by rw [HV.out]; rfl, Below.refl _ _⟩
  ·
   have g48 : ((s[0].toNat : Int) == 48) = false := by rw [beq_eq_false_iff_ne]; exact h48
   have HH := Lib.hid (show ¬ (bs s).head? = some 48 by
    rw [hh]; intro e; exact h48 ((byte_eq s[0] 48 (by decide)).1 (Option.some.inj e)))
   clear hh
   by_cases z3 : 3 < s.size
   ·
    have HV := Lib.hid (secNum_len (l := bs s) (.inr (by omega)))
    go_enter Tryz.func163, Tryz.ntmps163
    go_wp2
    go_ret
    exact ⟨by rw [HV.out]; rfl, Below.refl _ _⟩
   ·
    go_enter Tryz.func163, Tryz.ntmps163
    go_wp2
    go_loop [3, 21] (fun n i => ∃ k : Nat, k ≤ s.size ∧ i = .int .i64 k ∧ n = .int .i64 (val ((bs s).take k)) ∧ Hid (∀ c ∈ (bs s).take k, digB c = true)) (fun _ i => s.size - (intOf i).toNat)
    case atStart => exact ⟨0, Nat.zero_le _, rfl, rfl, Lib.hid (fun c h => by simp at h)⟩
    case round =>
     obtain ⟨k, hk, rfl, rfl, HA⟩ := hrel
     have hN : val ((bs s).take k) ≤ 999 := by
      have h1 := val_small _ HA.out
      have h2 : 10 ^ ((bs s).take k).length ≤ 10 ^ 3 := Nat.pow_le_pow_right (by decide) (by rw [List.length_take]; omega)
      have h3 : (10 : Nat) ^ 3 = 1000 := by decide
      omega
     by_cases hlt : k < s.size
     ·
      have c0 := HBs.out k hlt
      have hat := at_bs s k hlt
      by_cases hd : digB s[k] = true
      ·
       have hd' := hd
       simp only [digB, Bool.and_eq_true, decide_eq_true_eq] at hd'
       obtain ⟨d1, d2⟩ := hd'
       have hv := val_next (bs s) k (by omega)
       rw [hat] at hv
       have HN := Lib.hid (show ∀ c ∈ (bs s).take (k + 1), digB c = true from fun c hc => by
        rw [List.take_succ_eq_append_getElem (by omega), List.mem_append] at hc
        rcases hc with hc | hc
        ·
         exact HA.out c hc
        ·
         rw [List.mem_singleton.1 hc, hat]; exact hd)
       generalize val ((bs s).take k) = N at *
       have hv' : (val ((bs s).take (k + 1)) : Int) = 10 * (N : Int) + ((s[k].toNat : Int) - 48) := by omega
       have HV := Lib.hid hv'
       clear hv hd hat hv'
       have b1 : (48 : Int) ≤ (s[k].toNat : Int) := by omega
       have b2 : (s[k].toNat : Int) ≤ 57 := by omega
       generalize (s[k].toNat : Int) = C at *
       go_wp2
       go_round
       case rel => exact ⟨k + 1, by omega, by go_num, by rw [HV.out], HN⟩
       case measure => simp [intOf]; omega
      ·
       have HV := Lib.hid (secNum_digit (l := bs s) k (by omega) (by rw [hat]; simpa using hd))
       have hd' : s[k].toNat < 48 ∨ 57 < s[k].toNat := by
        simp only [digB, Bool.and_eq_true, decide_eq_true_eq] at hd; omega
       clear hd hat
       have b1 : (s[k].toNat : Int) < 48 ∨ 57 < (s[k].toNat : Int) := by omega
       clear hd'
       generalize (s[k].toNat : Int) = C at *
       by_cases b2 : C < 48
       ·
        clear b1
        go_wp2
        go_ret
        exact ⟨by rw [HV.out]; rfl, HB.out⟩
       ·
        have b3 : 57 < C := by omega
        have b4 : 48 ≤ C := by omega
        clear b1 b2
        go_wp2
        go_ret
        exact ⟨by rw [HV.out]; rfl, HB.out⟩
     ·
      obtain rfl : k = s.size := by omega
      have ht : (bs s).take s.size = bs s := List.take_of_length_le (by omega)
      have HV := Lib.hid (secNum_yes (l := bs s) (by omega) HH.out (by omega) (by rw [← ht]; exact HA.out))
      rw [ht] at hN ⊢
      generalize val (bs s) = N at *
      go_wp2
      go_ret
      exact ⟨by rw [HV.out]; rfl, HB.out⟩
def nameSpec : Bs := [40, 41, 58, 34, 123, 92]
def secNameC (c : UInt8) : Bool := decide (33 ≤ c.toNat) && decide (c.toNat ≤ 126) && decide (idxI c nameSpec < 0)
def secName (l : Bs) : Bool := l.all secNameC && !l.isEmpty
theorem sname_walk (s : ByteArray) (w : World) (hs : s.size ≤ 1000000) :
  Calls Tryz.prog 177 #[.string s] w fun e w' => e = .returned (.bool (secName (bs s))) ∧ Below w.heap.size w w' := by
 obtain ⟨w1, cap, hcv, hB, hb⟩ := bytes_laid w s
 have HB := Lib.hid hB
 have HBs := Lib.hid hb
 have zl : (bs s).length = s.size := bs_size s
 clear hB hb
 go_enter Tryz.func177, Tryz.ntmps177
 go_wp2
 go_loop [8] (fun i => ∃ k : Nat, k ≤ s.size ∧ i = .int .i64 k ∧ Hid (∀ c ∈ (bs s).take k, secNameC c = true)) (fun i => s.size - (intOf i).toNat)
 case atStart => exact ⟨0, Nat.zero_le _, rfl, Lib.hid (fun c h => by simp at h)⟩
 case round =>
  obtain ⟨k, hk, rfl, HA⟩ := hrel
  by_cases hlt : k < s.size
  ·
   have c0 := HBs.out k hlt
   have hat := at_bs s k hlt
   have HBad := Lib.hid (fun (hb : secNameC s[k] = false) => show secName (bs s) = false by
    rw [secName]
    have : (bs s).all secNameC = false := Bool.eq_false_iff.2 fun e => by
     have := List.all_eq_true.1 e _ (List.getElem_mem (show k < (bs s).length by omega))
     rw [hat, hb] at this; cases this
    rw [this]; rfl)
   have HN := Lib.hid (fun (hb : secNameC s[k] = true) => show ∀ c ∈ (bs s).take (k + 1), secNameC c = true from fun c hc => by
    rw [List.take_succ_eq_append_getElem (by omega), List.mem_append] at hc
    rcases hc with hc | hc
    ·
     exact HA.out c hc
    ·
     rw [List.mem_singleton.1 hc, hat]; exact hb)
   have HD := Lib.hid (show secNameC s[k] = (decide (33 ≤ s[k].toNat) && decide (s[k].toNat ≤ 126) && decide (idxI s[k] nameSpec < 0)) from rfl)
   have K : Hid (∀ W, Calls Tryz.prog 95 #[.string ⟨#[40, 41, 58, 34, 123, 92]⟩, .int .u8 (s[k].toNat : Int)] W fun e w' => e = .returned (.int .i64 (idxI s[k] nameSpec)) ∧ W = w') := Lib.hid (fun W => by
    have := indexByte_walk ⟨#[40, 41, 58, 34, 123, 92]⟩ (s[k].toNat : Int) W
    have e : (s[k].toNat : Int).toNat.toUInt8 = s[k] := by simp
    rw [e] at this
    exact this)
   clear hat
   generalize s[k] = c at *
   by_cases h1 : c.toNat < 33
   ·
    have HV := Lib.hid (HBad.out (by rw [HD.out, decide_eq_false (by omega)]; rfl))
    have b1 : (c.toNat : Int) < 33 := by omega
    go_wp2
    go_ret
    exact ⟨by rw [HV.out]; rfl, HB.out⟩
   ·
    have b1 : ¬ (c.toNat : Int) < 33 := by omega
    by_cases h2 : 126 < c.toNat
    ·
     have HV := Lib.hid (HBad.out (by rw [HD.out, decide_eq_false (show ¬ c.toNat ≤ 126 by omega)]; simp))
     have b2 : 126 < (c.toNat : Int) := by omega
     go_wp2
     go_ret
     exact ⟨by rw [HV.out]; rfl, HB.out⟩
    ·
     have b2 : ¬ 126 < (c.toNat : Int) := by omega
     have HD1 := Lib.hid (show secNameC c = decide (idxI c nameSpec < 0) by rw [HD.out, decide_eq_true (show 33 ≤ c.toNat by omega), decide_eq_true (show c.toNat ≤ 126 by omega)]; rfl)
     generalize idxI c nameSpec = ix at *
     by_cases h3 : ix < 0
     ·
      have HN2 := Lib.hid (HN.out (by rw [HD1.out, decide_eq_true h3]))
      have b3 : ¬ 0 ≤ ix := by omega
      go_wp2_with fail
      refine (K.out _).mono ?_
      rintro e w' ⟨rfl, rfl⟩
      go_wp2
      go_round
      case rel => exact ⟨k + 1, by omega, by go_num, HN2⟩
      case measure => simp [intOf]; omega
     ·
      have HV := Lib.hid (HBad.out (by rw [HD1.out, decide_eq_false h3]))
      have b3 : 0 ≤ ix := by omega
      go_wp2_with fail
      refine (K.out _).mono ?_
      rintro e w' ⟨rfl, rfl⟩
      go_wp2
      go_ret
      exact ⟨by rw [HV.out]; rfl, HB.out⟩
  ·
   obtain rfl : k = s.size := by omega
   have ht : (bs s).take s.size = bs s := List.take_of_length_le (by omega)
   have HV := Lib.hid (show secName (bs s) = !(s.toList.isEmpty) by
    have := HA.out
    rw [ht] at this
    rw [secName, List.all_eq_true.2 this, Bool.true_and, Lib.toList_data])
   go_wp2
   go_ret
   exact ⟨by rw [HV.out]; rfl, HB.out⟩
def numBad (n : Int) : Bool := decide (n < 1) || decide (999 < n)
theorem right1_walk (n : Int) (w : World) : Calls Tryz.prog 174 #[.int .i64 n] w fun e w' => e = .returned (.bool (numBad n)) ∧ w = w' := by
 have HD := Lib.hid (show numBad n = (decide (n < 1) || decide (999 < n)) from rfl)
 by_cases h : n < 1
 ·
  have HV := Lib.hid (show numBad n = true by rw [HD.out, decide_eq_true h]; rfl)
  go_enter Tryz.func174, Tryz.ntmps174
  go_wp2
  go_ret
  exact ⟨by rw [HV.out]; rfl, rfl⟩
 ·
  have HV := Lib.hid (show numBad n = decide (999 < n) by rw [HD.out, decide_eq_false h]; rfl)
  go_enter Tryz.func174, Tryz.ntmps174
  go_wp2
  go_ret
  exact ⟨by rw [HV.out]; rfl, rfl⟩
def nameBad (l : Bs) : Bool := !(secName l)
theorem right2_walk (l : Bs) (hl : l.length ≤ 1000000) (w : World) : Calls Tryz.prog 176 #[.string (str l)] w fun e w' => e = .returned (.bool (nameBad l)) ∧ Below w.heap.size w w' := by
 have K := Lib.hid (sname_walk (str l) w (by rw [str_size]; exact hl))
 rw [bs_str] at K
 have HD := Lib.hid (show nameBad l = !(secName l) from rfl)
 go_enter Tryz.func176, Tryz.ntmps176
 go_wp2_with fail
 refine K.out.mono ?_
 rintro e w1 ⟨rfl, hB⟩
 have HB := Lib.hid hB
 clear hB
 go_wp2
 go_ret
 exact ⟨by rw [HD.out]; rfl, HB.out⟩
theorem indexF_ints (xs : List Int) (T : Nat → Prop) (v : Value) (w : World) (hx : xs.length ≤ 2000000) (hv : RowC w T v xs.length (xs.map intV)) (hT : ∀ i, T i → i < w.heap.size) :
  Calls Tryz.prog 181 #[v, .func (.func 174) #[] #[]] w fun e w' => ∃ i : Int, e = .returned (.int .i64 i) ∧ decide (0 ≤ i) = xs.any numBad ∧ Below w.heap.size w w' := by
 obtain ⟨A, c, rfl, hc⟩ := hv
 have HC := Lib.hid hc
 have HT := Lib.hid hT
 have HB := Lib.hid (Below.refl w.heap.size w)
 clear hc hT
 go_enter Tryz.func181, Tryz.ntmps181
 go_wp2
 go_loopw [8] (fun i wr => ∃ j : Nat, j ≤ xs.length ∧ i = .int .i64 j ∧ Hid (∀ x ∈ xs.take j, numBad x = false) ∧ Hid (Below w.heap.size w wr)) (fun i _ => xs.length - (intOf i).toNat)
 case atStart => exact ⟨0, Nat.zero_le _, rfl, Lib.hid (fun x h => by simp at h), HB⟩
 case round =>
  obtain ⟨j, hj, rfl, HA, HB⟩ := hrel
  by_cases hlt : j < xs.length
  ·
   obtain ⟨b, rfl, hTb, hcell⟩ := HC.out (by omega)
   have c0 : wr.cell? ⟨b, j, none⟩ = some (intV xs[j]) := ((HB.out.cell (p := ⟨b, j, none⟩) (HT.out b hTb))).trans (hcell j _ (by rw [List.getElem?_map, List.getElem?_eq_getElem hlt]; rfl))
   unfold intV at c0
   have HY := Lib.hid (fun (h : numBad xs[j] = true) => show true = xs.any numBad from (List.any_eq_true.2 ⟨xs[j], List.getElem_mem hlt, h⟩).symm)
   have HN := Lib.hid (fun (h : numBad xs[j] = false) => show ∀ x ∈ xs.take (j + 1), numBad x = false from fun x hx => by
    rw [List.take_succ_eq_append_getElem hlt, List.mem_append] at hx
    rcases hx with hx | hx
    ·
     exact HA.out x hx
    ·
     rw [List.mem_singleton.1 hx]; exact h)
   have K := Lib.hid (fun W => ((right1_walk xs[j] W).mono fun e w1 h => (⟨h.1, by rw [← h.2]; exact Below.refl _ _⟩ : _ ∧ Below W.heap.size W w1)))
   generalize xs[j] = y at *
   cases hp : numBad y with
   | true =>
    rw [hp] at K
    have HV := Lib.hid (HY.out hp)
    clear hcell
    go_wp2_with fail
    refine (K.out _).mono ?_
    rintro e w1 ⟨rfl, hB1⟩
    have HB1 := Lib.hid (below_then HB.out hB1)
    clear hB1
    go_wp2
    go_ret
    exact ⟨_, rfl, by rw [← HV.out]; exact decide_eq_true (by omega), HB1.out⟩
   | false =>
    rw [hp] at K
    have HN2 := Lib.hid (HN.out hp)
    clear hcell
    go_wp2_with fail
    refine (K.out _).mono ?_
    rintro e w1 ⟨rfl, hB1⟩
    have HB1 := Lib.hid (below_then HB.out hB1)
    clear hB1
    go_wp2
    go_roundw
    case rel => exact ⟨j + 1, by omega, by go_num, HN2, HB1⟩
    case measure => simp [intOf]; omega
  ·
   obtain rfl : j = xs.length := by omega
   have HV := Lib.hid (show xs.any numBad = false from List.any_eq_false.2 fun x hx => by rw [HA.out x (by rw [List.take_of_length_le (Nat.le_refl _)]; exact hx)]; decide)
   go_wp2
   go_ret
   exact ⟨_, rfl, by rw [HV.out]; rfl, HB.out⟩
theorem containsF_ints (xs : List Int) (T : Nat → Prop) (v : Value) (w : World) (hx : xs.length ≤ 2000000) (hv : RowC w T v xs.length (xs.map intV)) (hT : ∀ i, T i → i < w.heap.size) :
  Calls Tryz.prog 173 #[v, .func (.func 174) #[] #[]] w fun e w' => e = .returned (.bool (xs.any numBad)) ∧ Below w.heap.size w w' := by
 have K := Lib.hid (indexF_ints xs T v w hx hv hT)
 clear hv hT
 go_enter Tryz.func173, Tryz.ntmps173
 go_wp2_with fail
 refine K.out.mono ?_
 rintro e w1 ⟨i, rfl, hi, hB⟩
 have HI := Lib.hid hi
 have HB := Lib.hid hB
 clear hi hB
 go_wp2
 go_ret
 exact ⟨by rw [← HI.out]; rfl, HB.out⟩
theorem indexF_strs (xs : List Bs) (T : Nat → Prop) (v : Value) (w : World) (hx : xs.length ≤ 2000000) (hv : RowC w T v xs.length (xs.map strV)) (hT : ∀ i, T i → i < w.heap.size) (hl : ∀ x ∈ xs, x.length ≤ 1000000) :
  Calls Tryz.prog 182 #[v, .func (.func 176) #[] #[]] w fun e w' => ∃ i : Int, e = .returned (.int .i64 i) ∧ decide (0 ≤ i) = xs.any nameBad ∧ Below w.heap.size w w' := by
 obtain ⟨A, c, rfl, hc⟩ := hv
 have HC := Lib.hid hc
 have HT := Lib.hid hT
 have HB := Lib.hid (Below.refl w.heap.size w)
 clear hc hT
 go_enter Tryz.func182, Tryz.ntmps182
 go_wp2
 go_loopw [8] (fun i wr => ∃ j : Nat, j ≤ xs.length ∧ i = .int .i64 j ∧ Hid (∀ x ∈ xs.take j, nameBad x = false) ∧ Hid (Below w.heap.size w wr)) (fun i _ => xs.length - (intOf i).toNat)
 case atStart => exact ⟨0, Nat.zero_le _, rfl, Lib.hid (fun x h => by simp at h), HB⟩
 case round =>
  obtain ⟨j, hj, rfl, HA, HB⟩ := hrel
  by_cases hlt : j < xs.length
  ·
   obtain ⟨b, rfl, hTb, hcell⟩ := HC.out (by omega)
   have c0 : wr.cell? ⟨b, j, none⟩ = some (strV xs[j]) := ((HB.out.cell (p := ⟨b, j, none⟩) (HT.out b hTb))).trans (hcell j _ (by rw [List.getElem?_map, List.getElem?_eq_getElem hlt]; rfl))
   unfold strV at c0
   have HY := Lib.hid (fun (h : nameBad xs[j] = true) => show true = xs.any nameBad from (List.any_eq_true.2 ⟨xs[j], List.getElem_mem hlt, h⟩).symm)
   have HN := Lib.hid (fun (h : nameBad xs[j] = false) => show ∀ x ∈ xs.take (j + 1), nameBad x = false from fun x hx => by
    rw [List.take_succ_eq_append_getElem hlt, List.mem_append] at hx
    rcases hx with hx | hx
    ·
     exact HA.out x hx
    ·
     rw [List.mem_singleton.1 hx]; exact h)
   have K := Lib.hid (fun W => right2_walk xs[j] (hl _ (List.getElem_mem hlt)) W)
   generalize xs[j] = y at *
   cases hp : nameBad y with
   | true =>
    rw [hp] at K
    have HV := Lib.hid (HY.out hp)
    clear hcell
    go_wp2_with fail
    refine (K.out _).mono ?_
    rintro e w1 ⟨rfl, hB1⟩
    have HB1 := Lib.hid (below_then HB.out hB1)
    clear hB1
    go_wp2
    go_ret
    exact ⟨_, rfl, by rw [← HV.out]; exact decide_eq_true (by omega), HB1.out⟩
   | false =>
    rw [hp] at K
    have HN2 := Lib.hid (HN.out hp)
    clear hcell
    go_wp2_with fail
    refine (K.out _).mono ?_
    rintro e w1 ⟨rfl, hB1⟩
    have HB1 := Lib.hid (below_then HB.out hB1)
    clear hB1
    go_wp2
    go_roundw
    case rel => exact ⟨j + 1, by omega, by go_num, HN2, HB1⟩
    case measure => simp [intOf]; omega
  ·
   obtain rfl : j = xs.length := by omega
   have HV := Lib.hid (show xs.any nameBad = false from List.any_eq_false.2 fun x hx => by rw [HA.out x (by rw [List.take_of_length_le (Nat.le_refl _)]; exact hx)]; decide)
   go_wp2
   go_ret
   exact ⟨_, rfl, by rw [HV.out]; rfl, HB.out⟩
theorem containsF_strs (xs : List Bs) (T : Nat → Prop) (v : Value) (w : World) (hx : xs.length ≤ 2000000) (hv : RowC w T v xs.length (xs.map strV)) (hT : ∀ i, T i → i < w.heap.size) (hl : ∀ x ∈ xs, x.length ≤ 1000000) :
  Calls Tryz.prog 175 #[v, .func (.func 176) #[] #[]] w fun e w' => e = .returned (.bool (xs.any nameBad)) ∧ Below w.heap.size w w' := by
 have K := Lib.hid (indexF_strs xs T v w hx hv hT hl)
 clear hv hT
 go_enter Tryz.func175, Tryz.ntmps175
 go_wp2_with fail
 refine K.out.mono ?_
 rintro e w1 ⟨i, rfl, hi, hB⟩
 have HI := Lib.hid hi
 have HB := Lib.hid hB
 clear hi hB
 go_wp2
 go_ret
 exact ⟨by rw [← HI.out]; rfl, HB.out⟩
open Go.RowKit
open Pl (Bs)
def headN : Bs := [72, 69, 65, 68, 69, 82]
def textN : Bs := [84, 69, 88, 84]
def mimeN : Bs := [77, 73, 77, 69]
def fieldsN : Bs := [72, 69, 65, 68, 69, 82, 46, 70, 73, 69, 76, 68, 83]
def othersN : Bs := [72, 69, 65, 68, 69, 82, 46, 70, 73, 69, 76, 68, 83, 46, 78, 79, 84]
def secRight (x : SpecP) : Bool :=
 if 20 < x.path.length ∨ 20 < x.names.length ∨ x.path.any numBad = true then false
 else if x.what = [] ∨ x.what = headN ∨ x.what = textN then decide (x.names.length = 0)
 else if x.what = mimeN then decide (x.names.length = 0) && decide (0 < x.path.length)
 else if x.what = fieldsN ∨ x.what = othersN then decide (0 < x.names.length) && !(x.names.any nameBad)
 else false
theorem len0 (n : Nat) : decide (n = 0) = ((n : Int) == 0) := by rw [Bool.eq_iff_iff]; simp
theorem right_walk (x : SpecP) (T : Nat → Prop) (vp vn : Value) (w : World) (hx : SpecAt w T vp vn x) (hT : ∀ i, T i → i < w.heap.size) (hl1 : x.path.length ≤ 2000000) (hl2 : x.names.length ≤ 2000000) (hl3 : ∀ y ∈ x.names, y.length ≤ 1000000) :
  Calls Tryz.prog 166 #[.agg #[vp, .string (str x.what), vn]] w fun e w' => e = .returned (.bool (secRight x)) ∧ Below w.heap.size w w' := by
 obtain ⟨path, what, names⟩ := x
 obtain ⟨Ap, cp, rfl, _⟩ := id hx.path
 obtain ⟨An, cn, rfl, _⟩ := id hx.names
 dsimp only at *
 have hR : secRight ⟨path, what, names⟩ = if 20 < path.length ∨ 20 < names.length ∨ path.any numBad = true then false
 else if what = [] ∨ what = headN ∨ what = textN then decide (names.length = 0)
 else if what = mimeN then decide (names.length = 0) && decide (0 < path.length)
 else if what = fieldsN ∨ what = othersN then decide (0 < names.length) && !(names.any nameBad)
 else false := rfl
 have HB0 := Lib.hid ((Below.refl w.heap.size w).alloc (Nat.le_refl _) (Obj.cells #[.slice Ap path.length cp, .string (str what), .slice An names.length cn] 76))
 have HX0 := Lib.hid (World.alloc_heap_new w (Obj.cells #[.slice Ap path.length cp, .string (str what), .slice An names.length cn] 76))
 have HP := Lib.hid (fun W1 (hB : Below (w.alloc (Obj.cells #[.slice Ap path.length cp, .string (str what), .slice An names.length cn] 76)).heap.size (w.alloc (Obj.cells #[.slice Ap path.length cp, .string (str what), .slice An names.length cn] 76)) W1) => show SpecAt W1 T (.slice Ap path.length cp) (.slice An names.length cn) ⟨path, what, names⟩ from hx.kept (fun i hi => by
  have := hT i hi
  exact (hB.block i (by simp; omega)).trans (Below.heap_alloc _ _ _ (by omega))))
 have HTl := Lib.hid (fun W1 (hB : Below (w.alloc (Obj.cells #[.slice Ap path.length cp, .string (str what), .slice An names.length cn] 76)).heap.size (w.alloc (Obj.cells #[.slice Ap path.length cp, .string (str what), .slice An names.length cn] 76)) W1) => show ∀ i, T i → i < W1.heap.size from fun i hi => by
  have := hT i hi; have := hB.size; simp at this; omega)
 have K1 := Lib.hid (fun W (h1 : RowC W T (.slice Ap path.length cp) path.length (path.map intV)) (h2 : ∀ i, T i → i < W.heap.size) => containsF_ints path T _ W hl1 h1 h2)
 have K2 := Lib.hid (fun W (h1 : RowC W T (.slice An names.length cn) names.length (names.map strV)) (h2 : ∀ i, T i → i < W.heap.size) => containsF_strs names T _ W hl2 h1 h2 hl3)
 generalize secRight ⟨path, what, names⟩ = o at *
 have HR := Lib.hid hR
 clear hx hT hR
 by_cases h1 : 20 < path.length
 ·
  have HV := Lib.hid (show o = false by rw [HR.out, if_pos (.inl h1)])
  have h1' : (20 : Int) < (path.length : Int) := by omega
  clear HR
  go_enter Tryz.func166, Tryz.ntmps166
  go_wp2
  go_ret
  exact ⟨by rw [HV.out]; rfl, HB0.out⟩
 ·
  by_cases h2 : 20 < names.length
  ·
   have HV := Lib.hid (show o = false by rw [HR.out, if_pos (.inr (.inl h2))])
   clear HR
   go_enter Tryz.func166, Tryz.ntmps166
   go_wp2
   go_ret
   exact ⟨by rw [HV.out]; rfl, HB0.out⟩
  ·
   cases h3 : path.any numBad with
   | true =>
    rw [h3] at K1
    have HV := Lib.hid (show o = false by rw [HR.out, if_pos (.inr (.inr h3))])
    clear HR h3
    go_enter Tryz.func166, Tryz.ntmps166
    go_wp2_with fail
    refine (K1.out _ (HP.out _ (Below.refl _ _)).path (HTl.out _ (Below.refl _ _))).mono ?_
    rintro e w1 ⟨rfl, hB1⟩
    have HB1 := Lib.hid (HB0.out.trans (hB1.mono (by simp)))
    clear hB1
    go_wp2
    go_ret
    exact ⟨by rw [HV.out]; rfl, HB1.out⟩
   | false =>
    rw [h3] at K1
    have HR1 := Lib.hid (show o = _ from HR.out.trans (if_neg (by rintro (h | h | h); exact h1 h; exact h2 h; rw [h3] at h; cases h)))
    clear HR h3
    by_cases e0 : what = []
    ·
     have hs : str what = ⟨#[]⟩ := by rw [e0]; rfl
     have HV := Lib.hid (show o = ((names.length : Int) == 0) from (HR1.out.trans (if_pos (.inl e0))).trans (len0 _))
     have HXs := HX0.out
     clear HR1
     rw [hs] at HB0 HX0 HP HTl ⊢
     clear hs HXs
     go_enter Tryz.func166, Tryz.ntmps166
     go_wp2_with fail
     refine (K1.out _ (HP.out _ (Below.refl _ _)).path (HTl.out _ (Below.refl _ _))).mono ?_
     rintro e w1 ⟨rfl, hB1⟩
     have HB1 := Lib.hid (HB0.out.trans (hB1.mono (by simp)))
     have HP1 := Lib.hid (HP.out _ hB1).names
     have HT1 := Lib.hid (HTl.out _ hB1)
     obtain ⟨c0, c1, c2⟩ := three_cells ((hB1.block _ (by simp)).trans HX0.out)
     clear hB1
     go_wp2
     go_ret
     exact ⟨by rw [HV.out]; simp [Act.put], HB1.out⟩
    ·
     skip
     by_cases e1 : what = headN
     ·
      have hs : str what = ⟨#[72, 69, 65, 68, 69, 82]⟩ := by rw [e1]; rfl
      have HV := Lib.hid (show o = ((names.length : Int) == 0) from (HR1.out.trans (if_pos (.inr (.inl e1)))).trans (len0 _))
      have HXs := HX0.out
      clear HR1
      rw [hs] at HB0 HX0 HP HTl ⊢
      clear hs HXs
      go_enter Tryz.func166, Tryz.ntmps166
      go_wp2_with fail
      refine (K1.out _ (HP.out _ (Below.refl _ _)).path (HTl.out _ (Below.refl _ _))).mono ?_
      rintro e w1 ⟨rfl, hB1⟩
      have HB1 := Lib.hid (HB0.out.trans (hB1.mono (by simp)))
      have HP1 := Lib.hid (HP.out _ hB1).names
      have HT1 := Lib.hid (HTl.out _ hB1)
      obtain ⟨c0, c1, c2⟩ := three_cells ((hB1.block _ (by simp)).trans HX0.out)
      clear hB1
      go_wp2
      go_ret
      exact ⟨by rw [HV.out]; simp [Act.put], HB1.out⟩
     ·
      skip
      by_cases e2 : what = textN
      ·
       have hs : str what = ⟨#[84, 69, 88, 84]⟩ := by rw [e2]; rfl
       have HV := Lib.hid (show o = ((names.length : Int) == 0) from (HR1.out.trans (if_pos (.inr (.inr e2)))).trans (len0 _))
       have HXs := HX0.out
       clear HR1
       rw [hs] at HB0 HX0 HP HTl ⊢
       clear hs HXs
       go_enter Tryz.func166, Tryz.ntmps166
       go_wp2_with fail
       refine (K1.out _ (HP.out _ (Below.refl _ _)).path (HTl.out _ (Below.refl _ _))).mono ?_
       rintro e w1 ⟨rfl, hB1⟩
       have HB1 := Lib.hid (HB0.out.trans (hB1.mono (by simp)))
       have HP1 := Lib.hid (HP.out _ hB1).names
       have HT1 := Lib.hid (HTl.out _ hB1)
       obtain ⟨c0, c1, c2⟩ := three_cells ((hB1.block _ (by simp)).trans HX0.out)
       clear hB1
       go_wp2
       go_ret
       exact ⟨by rw [HV.out]; simp [Act.put], HB1.out⟩
      ·
       skip
       by_cases e3 : what = mimeN
       ·
        have hs : str what = ⟨#[77, 73, 77, 69]⟩ := by rw [e3]; rfl
        have HV := Lib.hid (show o = (decide (names.length = 0) && decide (0 < path.length)) from HR1.out.trans ((if_neg (by rintro (h | h | h); exact e0 h; exact e1 h; exact e2 h)).trans (if_pos e3)))
        have HXs := HX0.out
        clear HR1
        rw [hs] at HB0 HX0 HP HTl ⊢
        clear hs HXs
        by_cases hn : names.length = 0
        ·
         have HV2 := Lib.hid (show o = decide (0 < path.length) by rw [HV.out, decide_eq_true hn]; rfl)
         have hni : (names.length : Int) = 0 := by omega
         have HNI := Lib.hid hni
         clear hn hni
         go_enter Tryz.func166, Tryz.ntmps166
         go_wp2_with fail
         refine (K1.out _ (HP.out _ (Below.refl _ _)).path (HTl.out _ (Below.refl _ _))).mono ?_
         rintro e w1 ⟨rfl, hB1⟩
         have HB1 := Lib.hid (HB0.out.trans (hB1.mono (by simp)))
         have HP1 := Lib.hid (HP.out _ hB1).names
         have HT1 := Lib.hid (HTl.out _ hB1)
         obtain ⟨c0, c1, c2⟩ := three_cells ((hB1.block _ (by simp)).trans HX0.out)
         clear hB1
         have hni := HNI.out
         go_wp2
         go_ret
         exact ⟨by rw [HV2.out]; simp [Act.put], HB1.out⟩
        ·
         have HV2 := Lib.hid (show o = false by rw [HV.out, decide_eq_false hn]; rfl)
         have hni : ((names.length : Int) == 0) = false := by rw [← len0]; exact decide_eq_false hn
         have HNI := Lib.hid hni
         clear hn hni
         go_enter Tryz.func166, Tryz.ntmps166
         go_wp2_with fail
         refine (K1.out _ (HP.out _ (Below.refl _ _)).path (HTl.out _ (Below.refl _ _))).mono ?_
         rintro e w1 ⟨rfl, hB1⟩
         have HB1 := Lib.hid (HB0.out.trans (hB1.mono (by simp)))
         have HP1 := Lib.hid (HP.out _ hB1).names
         have HT1 := Lib.hid (HTl.out _ hB1)
         obtain ⟨c0, c1, c2⟩ := three_cells ((hB1.block _ (by simp)).trans HX0.out)
         clear hB1
         have hni := HNI.out
         go_wp2
         go_ret
         exact ⟨by rw [HV2.out]; simp [Act.put], HB1.out⟩
       ·
        skip
        by_cases e4 : what = fieldsN
        ·
         have hs : str what = ⟨#[72, 69, 65, 68, 69, 82, 46, 70, 73, 69, 76, 68, 83]⟩ := by rw [e4]; rfl
         have HV := Lib.hid (show o = (decide (0 < names.length) && !(names.any nameBad)) from HR1.out.trans ((if_neg (by rintro (h | h | h); exact e0 h; exact e1 h; exact e2 h)).trans ((if_neg e3).trans (if_pos (.inl e4)))))
         have HXs := HX0.out
         clear HR1
         rw [hs] at HB0 HX0 HP HTl ⊢
         clear hs HXs
         by_cases hn : 0 < names.length
         ·
          have HV2 := Lib.hid (show o = !(names.any nameBad) by rw [HV.out, decide_eq_true hn]; rfl)
          have hni : (0 : Int) < (names.length : Int) := by omega
          go_enter Tryz.func166, Tryz.ntmps166
          go_wp2_with fail
          refine (K1.out _ (HP.out _ (Below.refl _ _)).path (HTl.out _ (Below.refl _ _))).mono ?_
          rintro e w1 ⟨rfl, hB1⟩
          have HB1 := Lib.hid (HB0.out.trans (hB1.mono (by simp)))
          have HP1 := Lib.hid (HP.out _ hB1).names
          have HT1 := Lib.hid (HTl.out _ hB1)
          obtain ⟨c0, c1, c2⟩ := three_cells ((hB1.block _ (by simp)).trans HX0.out)
          clear hB1
          go_wp2_with fail
          refine (K2.out _ HP1.out HT1.out).mono ?_
          rintro e w2 ⟨rfl, hB2⟩
          have HB2 := Lib.hid (below_then HB1.out hB2)
          clear hB2
          go_wp2
          go_ret
          exact ⟨by rw [HV2.out]; simp [Act.put], HB2.out⟩
         ·
          have HV2 := Lib.hid (show o = false by rw [HV.out, decide_eq_false hn]; rfl)
          have hni : ¬ (0 : Int) < (names.length : Int) := by omega
          go_enter Tryz.func166, Tryz.ntmps166
          go_wp2_with fail
          refine (K1.out _ (HP.out _ (Below.refl _ _)).path (HTl.out _ (Below.refl _ _))).mono ?_
          rintro e w1 ⟨rfl, hB1⟩
          have HB1 := Lib.hid (HB0.out.trans (hB1.mono (by simp)))
          have HP1 := Lib.hid (HP.out _ hB1).names
          have HT1 := Lib.hid (HTl.out _ hB1)
          obtain ⟨c0, c1, c2⟩ := three_cells ((hB1.block _ (by simp)).trans HX0.out)
          clear hB1
          go_wp2
          go_ret
          exact ⟨by rw [HV2.out]; simp [Act.put], HB1.out⟩
        ·
         skip
         by_cases e5 : what = othersN
         ·
          have hs : str what = ⟨#[72, 69, 65, 68, 69, 82, 46, 70, 73, 69, 76, 68, 83, 46, 78, 79, 84]⟩ := by rw [e5]; rfl
          have HV := Lib.hid (show o = (decide (0 < names.length) && !(names.any nameBad)) from HR1.out.trans ((if_neg (by rintro (h | h | h); exact e0 h; exact e1 h; exact e2 h)).trans ((if_neg e3).trans (if_pos (.inr e5)))))
          have HXs := HX0.out
          clear HR1
          rw [hs] at HB0 HX0 HP HTl ⊢
          clear hs HXs
          by_cases hn : 0 < names.length
          ·
           have HV2 := Lib.hid (show o = !(names.any nameBad) by rw [HV.out, decide_eq_true hn]; rfl)
           have hni : (0 : Int) < (names.length : Int) := by omega
           go_enter Tryz.func166, Tryz.ntmps166
           go_wp2_with fail
           refine (K1.out _ (HP.out _ (Below.refl _ _)).path (HTl.out _ (Below.refl _ _))).mono ?_
           rintro e w1 ⟨rfl, hB1⟩
           have HB1 := Lib.hid (HB0.out.trans (hB1.mono (by simp)))
           have HP1 := Lib.hid (HP.out _ hB1).names
           have HT1 := Lib.hid (HTl.out _ hB1)
           obtain ⟨c0, c1, c2⟩ := three_cells ((hB1.block _ (by simp)).trans HX0.out)
           clear hB1
           go_wp2_with fail
           refine (K2.out _ HP1.out HT1.out).mono ?_
           rintro e w2 ⟨rfl, hB2⟩
           have HB2 := Lib.hid (below_then HB1.out hB2)
           clear hB2
           go_wp2
           go_ret
           exact ⟨by rw [HV2.out]; simp [Act.put], HB2.out⟩
          ·
           have HV2 := Lib.hid (show o = false by rw [HV.out, decide_eq_false hn]; rfl)
           have hni : ¬ (0 : Int) < (names.length : Int) := by omega
           go_enter Tryz.func166, Tryz.ntmps166
           go_wp2_with fail
           refine (K1.out _ (HP.out _ (Below.refl _ _)).path (HTl.out _ (Below.refl _ _))).mono ?_
           rintro e w1 ⟨rfl, hB1⟩
           have HB1 := Lib.hid (HB0.out.trans (hB1.mono (by simp)))
           have HP1 := Lib.hid (HP.out _ hB1).names
           have HT1 := Lib.hid (HTl.out _ hB1)
           obtain ⟨c0, c1, c2⟩ := three_cells ((hB1.block _ (by simp)).trans HX0.out)
           clear hB1
           go_wp2
           go_ret
           exact ⟨by rw [HV2.out]; simp [Act.put], HB1.out⟩
         ·
          skip
          have HV := Lib.hid (show o = false from HR1.out.trans ((if_neg (by rintro (h | h | h); exact e0 h; exact e1 h; exact e2 h)).trans ((if_neg e3).trans (if_neg (by rintro (h | h); exact e4 h; exact e5 h)))))
          have n0 : ((str what).toList == []) = false := str_neb e0
          have m0 : ¬ (str what).toList = [] := str_ne e0
          have n1 : ((str what).toList == [72, 69, 65, 68, 69, 82]) = false := str_neb e1
          have m1 : ¬ (str what).toList = [72, 69, 65, 68, 69, 82] := str_ne e1
          have n2 : ((str what).toList == [84, 69, 88, 84]) = false := str_neb e2
          have m2 : ¬ (str what).toList = [84, 69, 88, 84] := str_ne e2
          have n3 : ((str what).toList == [77, 73, 77, 69]) = false := str_neb e3
          have m3 : ¬ (str what).toList = [77, 73, 77, 69] := str_ne e3
          have n4 : ((str what).toList == [72, 69, 65, 68, 69, 82, 46, 70, 73, 69, 76, 68, 83]) = false := str_neb e4
          have m4 : ¬ (str what).toList = [72, 69, 65, 68, 69, 82, 46, 70, 73, 69, 76, 68, 83] := str_ne e4
          have n5 : ((str what).toList == [72, 69, 65, 68, 69, 82, 46, 70, 73, 69, 76, 68, 83, 46, 78, 79, 84]) = false := str_neb e5
          have m5 : ¬ (str what).toList = [72, 69, 65, 68, 69, 82, 46, 70, 73, 69, 76, 68, 83, 46, 78, 79, 84] := str_ne e5
          have m6 : (str what).toList.isEmpty = false := by
           cases hq : (str what).toList with
           | nil => exact absurd hq m0
           | cons => rfl
          clear HR1
          go_enter Tryz.func166, Tryz.ntmps166
          go_wp2_with fail
          refine (K1.out _ (HP.out _ (Below.refl _ _)).path (HTl.out _ (Below.refl _ _))).mono ?_
          rintro e w1 ⟨rfl, hB1⟩
          have HB1 := Lib.hid (HB0.out.trans (hB1.mono (by simp)))
          have HP1 := Lib.hid (HP.out _ hB1).names
          have HT1 := Lib.hid (HTl.out _ hB1)
          obtain ⟨c0, c1, c2⟩ := three_cells ((hB1.block _ (by simp)).trans HX0.out)
          clear hB1
          go_wp2
          go_ret
          exact ⟨by rw [HV.out]; simp [Act.put], HB1.out⟩
open Go.RowKit
open Pl (Bs)
def secLoop : Nat → Bs → Bool → List Int × Bs × Bool
 | _, rest, false => ([], rest, false)
 | 0, rest, true => ([], rest, true)
 | f + 1, rest, true => if secNum (Lib.cut rest [46]).1 = 0 then ([], rest, true) else (((secNum (Lib.cut rest [46]).1 : Nat) : Int) :: (secLoop f (Lib.cut rest [46]).2.1 (Lib.cut rest [46]).2.2).1, (secLoop f (Lib.cut rest [46]).2.1 (Lib.cut rest [46]).2.2).2)
def splitL (l : Bs) : List Bs := (Lib.splitB ⟨#[32]⟩ 0 (Lib.countB (str l) ⟨#[32]⟩) (str l)).map bs
def secFin (x : SpecP) : Option SpecP := if secRight x = true then some x else none
def secEnd (path : List Int) (rest : Bs) : Option SpecP :=
 if (Lib.cut rest [32, 40]).1 = [] then none
 else if (Lib.cut rest [32, 40]).2.2 = true then
  if Lib.hasSuffix (Lib.cut rest [32, 40]).2.1 [41] = true then secFin ⟨path, largeL (Lib.cut rest [32, 40]).1, splitL (Lib.trimSuffix (Lib.cut rest [32, 40]).2.1 [41])⟩ else none
 else secFin ⟨path, largeL (Lib.cut rest [32, 40]).1, []⟩
def secB (s : Bs) : Option SpecP :=
 if (secLoop (s.length + 1) s (!s.isEmpty)).2.2 = true then secEnd (secLoop (s.length + 1) s (!s.isEmpty)).1 (secLoop (s.length + 1) s (!s.isEmpty)).2.1
 else secFin ⟨(secLoop (s.length + 1) s (!s.isEmpty)).1, [], []⟩
theorem cut_fst_len (l e : Bs) : (Lib.cut l e).1.length ≤ l.length := by
 unfold Lib.cut
 split
 ·
  simp only [List.length_take]; omega
 ·
  exact Nat.le_refl _
theorem cut_snd_len (l e : Bs) : (Lib.cut l e).2.1.length ≤ l.length := by
 unfold Lib.cut
 split
 ·
  simp only [List.length_drop]; omega
 ·
  simp
theorem cut_less (l : Bs) (h : (Lib.cut l [46]).2.2 = true) : (Lib.cut l [46]).2.1.length < l.length := by
 unfold Lib.cut at h ⊢
 split at h
 ·
  rename_i h0
  rw [if_pos h0]
  have := Lib.index_room l [46] h0
  simp only [List.length_singleton] at this
  simp only [List.length_drop, List.length_singleton]
  omega
 ·
  cases h
theorem piece_len (sep : ByteArray) : ∀ (k : Nat) (s y : ByteArray), y ∈ Lib.splitB sep 0 k s → y.size ≤ s.size
 | 0, s, y, h => by rw [Lib.splitB_zero, List.mem_singleton] at h; subst h; exact Nat.le_refl _
 | k + 1, s, y, h => by
  unfold Lib.splitB at h
  split at h
  ·
   rw [List.mem_singleton] at h; subst h; exact Nat.le_refl _
  ·
   rcases List.mem_cons.1 h with rfl | h
   ·
    rw [ByteArray.size_extract]; omega
   ·
    have := piece_len sep k _ y h
    rw [ByteArray.size_extract] at this
    omega
theorem splitL_len (l : Bs) : (splitL l).length = Lib.countB (str l) ⟨#[32]⟩ + 1 ∧ (splitL l).length ≤ l.length + 1 ∧ ∀ y ∈ splitL l, y.length ≤ l.length := by
 have h1 : 1 ≤ (⟨#[32]⟩ : ByteArray).size := by decide
 have e := Lib.splitB_all ⟨#[32]⟩ h1 0 _ (str l) rfl
 have hc := Lib.countB_le ⟨#[32]⟩ h1 _ (str l) (Nat.le_refl _)
 rw [str_size] at hc
 refine ⟨by rw [splitL, List.length_map, e], by rw [splitL, List.length_map, e]; omega, fun y hy => ?_⟩
 rw [splitL, List.mem_map] at hy
 obtain ⟨z, hz, rfl⟩ := hy
 have := piece_len _ _ _ _ hz
 rw [str_size] at this
 rw [bs_size]; exact this
abbrev zeroSpec : Obj := Obj.cells #[.slice none 0 0, .string ⟨#[]⟩, .slice none 0 0] 76
theorem three_free {w : World} {b : Nat} {t : TypeId} {x y z : Value} (h : w.heap[b]? = some (Obj.cells #[x, y, z] t)) : w.frozen? ⟨b, 0, none⟩ = false ∧ w.frozen? ⟨b, 1, none⟩ = false ∧ w.frozen? ⟨b, 2, none⟩ = false := by
 refine ⟨?_, ?_, ?_⟩ <;> simp [World.frozen?, h]
structure SecSt (w : World) (acc : List Int) (u : Value) (wt : ByteArray) (nm : Value) (W : World) : Prop where
 res : W.heap[w.heap.size]? = some zeroSpec
 out : W.heap[w.heap.size + 1]? = some (Obj.cells #[u, .string wt, nm] 76)
 own : W.ownsRow (w.heap.size + 2) 3 1 u acc.length (acc.map intV)
 below : Below w.heap.size w W
 room : w.heap.size + 2 ≤ W.heap.size
theorem SecSt.then {w : World} {acc : List Int} {u : Value} {wt : ByteArray} {nm : Value} {W W1 : World} (st : SecSt w acc u wt nm W) (hB : Below W.heap.size W W1) : SecSt w acc u wt nm W1 :=
 ⟨(hB.block _ (Array.getElem?_eq_some_iff.1 st.res).1).trans st.res, (hB.block _ (Array.getElem?_eq_some_iff.1 st.out).1).trans st.out, own_below st.own hB, below_then st.below hB, Nat.le_trans st.room hB.size⟩
theorem SecSt.setO {w : World} {acc : List Int} {u : Value} {wt wt1 : ByteArray} {nm nm1 : Value} {W : World} (st : SecSt w acc u wt nm W) {i : Nat} {v : Value} (hi : (Obj.cells (#[u, .string wt, nm].setIfInBounds i v) 76 : Obj) = Obj.cells #[u, .string wt1, nm1] 76) : SecSt w acc u wt1 nm1 (W.setCell ⟨w.heap.size + 1, i, none⟩ v) := by
 have hr := st.room
 exact ⟨(Below.heap_setCell W _ v _ (by dsimp only; omega)).trans st.res, (setCell_heap_same st.out).trans (congrArg some hi), ownsRow_setCell_below st.own (by dsimp only; omega) _, st.below.setCell (by dsimp only; omega) _, by simp; omega⟩
theorem set3 (W : World) (b : Nat) (t : TypeId) (o0 o1 o2 v0 v1 v2 : Value) (h : W.heap[b]? = some (Obj.cells #[o0, o1, o2] t)) :
  (((W.setCell ⟨b, 0, none⟩ v0).setCell ⟨b, 1, none⟩ v1).setCell ⟨b, 2, none⟩ v2).heap[b]? = some (Obj.cells #[v0, v1, v2] t) ∧ W.grownBy (((W.setCell ⟨b, 0, none⟩ v0).setCell ⟨b, 1, none⟩ v1).setCell ⟨b, 2, none⟩ v2) (some b) := by
 refine ⟨?_, ?_⟩
 ·
  have h0 := setCell_heap_same (i := 0) (v := v0) h
  have h1 := setCell_heap_same (i := 1) (v := v1) h0
  have h2 := setCell_heap_same (i := 2) (v := v2) h1
  rw [h2]
  simp
 ·
  exact ((grown_put W b 0 v0).trans (grown_put _ b 1 v1)).trans (grown_put _ b 2 v2)
theorem SecPost.bad {G : Glob} {w W W' : World} {o : Option SpecP} (hB : Below w.heap.size w W) (hg : W.grownBy W' (some w.heap.size)) (ho : o = none) {v : Value} (hv : G.form = v) : SecPost G w o (.returned (.tuple #[.agg #[.slice none 0 0, .string ⟨#[]⟩, .slice none 0 0], v])) W' := by
 subst ho
 subst hv
 exact ⟨hB.grown hg hB.size (fun k e => by rw [← Option.some.inj e]; exact Nat.le_refl _), rfl⟩
theorem SecPost.fin {G : Glob} {w W W' : World} {o : Option SpecP} {x : SpecP} {vp vn : Value} (hB : Below w.heap.size w W) (hr : w.heap.size + 2 ≤ W.heap.size) (hg : W.grownBy W' (some w.heap.size)) (ho : o = some x) (hP : SpecAt W (fun i => w.heap.size + 2 ≤ i ∧ i < W.heap.size) vp vn x) : SecPost G w o (.returned (.tuple #[.agg #[vp, .string (str x.what), vn], .nilIface])) W' := by
 subst ho
 refine ⟨hB.grown hg hB.size (fun k e => by rw [← Option.some.inj e]; exact Nat.le_refl _), vp, vn, _, rfl, fun i hi => ⟨by omega, by have := hg.size; omega⟩, hP.kept (fun i hi => hg.block i hi.2 (fun e => by have := Option.some.inj e; omega))⟩
theorem SecSt.spec {w : World} {acc : List Int} {u : Value} {wt : ByteArray} {nm : Value} {W : World} (st : SecSt w acc u wt nm W) {x : SpecP} (hp : x.path = acc) (hn : RowC W (fun i => w.heap.size + 2 ≤ i ∧ i < W.heap.size) nm x.names.length (x.names.map strV)) : SpecAt W (fun i => w.heap.size + 2 ≤ i ∧ i < W.heap.size) u nm x := by
 refine ⟨?_, hn⟩
 rw [hp]
 exact rowC_own st.own
theorem grown_drew (w : World) (row : Option Nat) : w.grownBy w.drew row := ⟨rfl, rfl, rfl, Nat.le_refl _, fun _ _ _ => rfl⟩
theorem SecSt.app {w : World} {acc : List Int} {u : Value} {wt : ByteArray} {nm : Value} {W1 W9 : World} {o : Obj} {g cap : Nat} {n : Int} (st : SecSt w acc u wt nm W1)
  (hown : W9.ownsRow (w.heap.size + 2) 3 1 (.slice (some ⟨g, 0, none⟩) (acc.length + 1) cap) (acc.length + 1) (acc.map intV ++ [.int .i64 n])) (hgr : (W1.alloc o).grownBy W9 u.ownBlock) :
  W9.heap[w.heap.size + 1]? = some (Obj.cells #[u, .string wt, nm] 76) ∧ SecSt w (acc ++ [n]) (.slice (some ⟨g, 0, none⟩) (acc.length + 1) cap) wt nm (W9.setCell ⟨w.heap.size + 1, 0, none⟩ (.slice (some ⟨g, 0, none⟩) (acc.length + 1) cap)) := by
 have hr := st.room
 have hz := hgr.size
 simp at hz
 have hu : ∀ k, u.ownBlock = some k → w.heap.size + 2 ≤ k := fun k e => (st.own.lt k e).1
 have hk : ∀ i x, W1.heap[i]? = some x → i < w.heap.size + 2 → W9.heap[i]? = some x := fun i x hi hlt =>
  have hl := (Array.getElem?_eq_some_iff.1 hi).1
  (hgr.block i (by simp; omega) (fun e => by have := hu i e.symm; omega)).trans ((Below.heap_alloc W1 o _ hl).trans hi)
 have h1 := hk _ _ st.out (by omega)
 refine ⟨h1, ?_, ?_, ?_, ?_, by simp; omega⟩
 ·
  exact (Below.heap_setCell W9 _ _ _ (by dsimp only; omega)).trans (hk _ _ st.res (by omega))
 ·
  exact (setCell_heap_same h1).trans rfl
 ·
  rw [List.length_append, List.map_append]
  exact ownsRow_setCell_below hown (by dsimp only; omega) _
 ·
  exact ((st.below.alloc (by omega) o).grown hgr (by simp; omega) (fun k e => by have := hu k e; omega)).setCell (by dsimp only; omega) _
theorem cutSuf_yes {l : Bs} (hs : l.length ≤ 1000000) (w : World) : Calls Tryz.prog 18 #[.string (str l), .string ⟨#[41]⟩] w fun e w' => e = .returned (.tuple #[.string (str (Lib.trimSuffix l [41])), .bool (Lib.hasSuffix l [41])]) ∧ w' = w := cutSuf_walk21 (str l) ⟨#[41]⟩ w (by rw [str_size]; omega)
theorem infoInt : (Tryz.prog.info? 3).map (fun i => (i.zero, i.size, i.bytes)) = some (some (.int .i64 0), 1, 8) := by kernel_rfl
theorem trim_len (l : Bs) : (Lib.trimSuffix l [41]).length ≤ l.length := by
 unfold Lib.trimSuffix
 split
 ·
  rw [List.length_take]; omega
 ·
  exact Nat.le_refl _
structure LoopSt (s : Bs) (acc : List Int) (rest : Bs) (more : Bool) : Prop where
 spec : ∃ f, rest.length < f ∧ secLoop (s.length + 1) s (!s.isEmpty) = (acc ++ (secLoop f rest more).1, (secLoop f rest more).2)
 few : acc.length + rest.length ≤ s.length + 1
 le : rest.length ≤ s.length
theorem LoopSt.start (s : Bs) : LoopSt s [] s (!s.isEmpty) := ⟨⟨_, Nat.lt_succ_self _, by simp⟩, by simp, Nat.le_refl _⟩
theorem LoopSt.brk {s : Bs} {acc : List Int} {rest : Bs} (h : LoopSt s acc rest true) (h0 : secNum (Lib.cut rest [46]).1 = 0) : secB s = secEnd acc rest := by
 obtain ⟨f, hf, e⟩ := h.spec
 cases f with
 | zero => omega
 | succ f =>
  rw [secLoop, if_pos h0] at e
  rw [secB, e]
  simp
theorem LoopSt.fin {s : Bs} {acc : List Int} {rest : Bs} (h : LoopSt s acc rest false) : secB s = secFin ⟨acc, [], []⟩ := by
 obtain ⟨f, hf, e⟩ := h.spec
 have e2 : secLoop f rest false = ([], rest, false) := by cases f <;> rfl
 rw [e2] at e
 rw [secB, e]
 simp
theorem LoopSt.next {s : Bs} {acc : List Int} {rest : Bs} (h : LoopSt s acc rest true) (h0 : secNum (Lib.cut rest [46]).1 ≠ 0) : LoopSt s (acc ++ [((secNum (Lib.cut rest [46]).1 : Nat) : Int)]) (Lib.cut rest [46]).2.1 (Lib.cut rest [46]).2.2 := by
 obtain ⟨f, hf, e⟩ := h.spec
 have hl := h.le
 have hs := cut_snd_len rest [46]
 cases f with
 | zero => omega
 | succ f =>
  rw [secLoop, if_neg h0] at e
  cases hm : (Lib.cut rest [46]).2.2 with
  | true =>
   have hlt := cut_less rest hm
   rw [hm] at e
   exact ⟨⟨f, by omega, by rw [e]; simp⟩, by have := h.few; rw [List.length_append, List.length_singleton]; omega, by omega⟩
  | false =>
   rw [hm] at e
   have e3 : (Lib.cut rest [46]).2.1 = [] := by
    unfold Lib.cut at hm ⊢
    split at hm
    ·
     cases hm
    ·
     rename_i h1; rw [if_neg h1]
   rw [e3] at e ⊢
   refine ⟨⟨f + 1, by simp, ?_⟩, ?_, by simp⟩
   ·
    rw [e]; cases f <;> simp [secLoop]
   ·
    have := h.few
    have hr : 0 < rest.length := by
     cases hr : rest with
     | nil => rw [hr] at h0; exact absurd rfl h0
     | cons => simp
    rw [List.length_append, List.length_singleton]; simp only [List.length_nil]; omega
end Go.Proofs.YtgmfhldfdnnafaaGreatDoor
