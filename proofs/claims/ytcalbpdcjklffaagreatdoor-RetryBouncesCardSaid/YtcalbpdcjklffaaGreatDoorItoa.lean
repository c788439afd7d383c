/- strconv.Itoa: the kit's contract for base 10 laid at this seat in plain declarations (printed by wip/bin/genlay.py), and its use. -/
import Derived.Shelf.Strconv.Itoa4
import Derived.Test.YtcalbpdcjklffaaGreatDoorOwn
import Derived.Test.YtcalbpdcjklffaaGreatDoorLaid
import Derived.Test.YtcalbpdcjklffaaGreatDoorChecked
import Derived.Lib.Hide
namespace Go.Proofs.YtcalbpdcjklffaaGreatDoor
open Go.Shelf Go.RowKit
def lays246_ren : Go.Shelf.Ren := ⟨fun | 129 => 79 | 246 => 52 | 283 => 64 | 284 => 65 | 285 => 66 | 286 => 67 | 317 => 78 | 318 => 80 | 319 => 81 | 320 => 82 | 337 => 88 | 338 => 89 | n => n, fun | 0 => 0 | 2 => 2 | 3 => 3 | 4 => 4 | 5 => 5 | 9 => 9 | 20 => 20 | 37 => 58 | 46 => 115 | 51 => 113 | 53 => 99 | 171 => 98 | 173 => 102 | 212 => 112 | 213 => 114 | 232 => 124 | 233 => 125 | n => n, fun | 17 => 14 | 18 => 18 | 19 => 19 | n => n⟩
theorem lays246 : LaysM.n246 Tryz.prog lays246_ren := {
  mixed := by kernel_rfl,
  f129 := by kernel_rfl,
  f246 := by kernel_rfl,
  f283 := by kernel_rfl,
  f284 := by kernel_rfl,
  f285 := by kernel_rfl,
  f286 := by kernel_rfl,
  f317 := by kernel_rfl,
  f318 := by kernel_rfl,
  f319 := by kernel_rfl,
  f320 := by kernel_rfl,
  f337 := by kernel_rfl,
  f338 := by kernel_rfl,
  t0 := Tryz.underlying0,
  a0 := Tryz.isAgg0,
  z0 := Tryz.sizeOf0,
  v0 := Tryz.zeroValue0,
  t2 := Tryz.underlying2,
  a2 := Tryz.isAgg2,
  z2 := Tryz.sizeOf2,
  v2 := Tryz.zeroValue2,
  t3 := Tryz.underlying3,
  a3 := Tryz.isAgg3,
  z3 := Tryz.sizeOf3,
  v3 := Tryz.zeroValue3,
  t4 := Tryz.underlying4,
  a4 := Tryz.isAgg4,
  z4 := Tryz.sizeOf4,
  v4 := Tryz.zeroValue4,
  t5 := Tryz.underlying5,
  a5 := Tryz.isAgg5,
  z5 := Tryz.sizeOf5,
  v5 := Tryz.zeroValue5,
  t9 := Tryz.underlying9,
  a9 := Tryz.isAgg9,
  z9 := Tryz.sizeOf9,
  v9 := Tryz.zeroValue9,
  t20 := Tryz.underlying20,
  a20 := Tryz.isAgg20,
  z20 := Tryz.sizeOf20,
  v20 := Tryz.zeroValue20,
  t37 := Tryz.underlying58,
  a37 := Tryz.isAgg58,
  z37 := Tryz.sizeOf58,
  v37 := Tryz.zeroValue58,
  t46 := Tryz.underlying115,
  a46 := Tryz.isAgg115,
  z46 := Tryz.sizeOf115,
  v46 := Tryz.zeroValue115,
  t51 := Tryz.underlying113,
  a51 := Tryz.isAgg113,
  z51 := Tryz.sizeOf113,
  v51 := Tryz.zeroValue113,
  t53 := Tryz.underlying99,
  a53 := Tryz.isAgg99,
  z53 := Tryz.sizeOf99,
  v53 := Tryz.zeroValue99,
  t171 := Tryz.underlying98,
  a171 := Tryz.isAgg98,
  z171 := Tryz.sizeOf98,
  v171 := Tryz.zeroValue98,
  t173 := Tryz.underlying102,
  a173 := Tryz.isAgg102,
  z173 := Tryz.sizeOf102,
  v173 := Tryz.zeroValue102,
  t212 := Tryz.underlying112,
  a212 := Tryz.isAgg112,
  z212 := Tryz.sizeOf112,
  v212 := Tryz.zeroValue112,
  t213 := Tryz.underlying114,
  a213 := Tryz.isAgg114,
  z213 := Tryz.sizeOf114,
  t232 := Tryz.underlying124,
  a232 := Tryz.isAgg124,
  z232 := Tryz.sizeOf124,
  v232 := Tryz.zeroValue124,
  t233 := Tryz.underlying125,
  a233 := Tryz.isAgg125,
  z233 := Tryz.sizeOf125,
  v233 := Tryz.zeroValue125,
  g17 := by kernel_rfl,
  g18 := by kernel_rfl,
  g19 := by kernel_rfl,
  i0 := by kernel_rfl,
  i2 := by kernel_rfl,
  i3 := by kernel_rfl,
  i4 := by kernel_rfl,
  i5 := by kernel_rfl,
  i9 := by kernel_rfl,
  i20 := by kernel_rfl,
  i37 := by kernel_rfl,
  i46 := by kernel_rfl,
  i51 := by kernel_rfl,
  i53 := by kernel_rfl,
  i171 := by kernel_rfl,
  i173 := by kernel_rfl,
  i212 := by kernel_rfl,
  i232 := by kernel_rfl,
  i233 := by kernel_rfl,
  m17 := by kernel_rfl,
  m18 := by kernel_rfl,
  m19 := by kernel_rfl }
def decS (n : Nat) : ByteArray := ⟨(Lib.decDigits n).toArray⟩
/-- the table of powers of ten lies as the program lays it -/
def TabW (W : World) : Prop := Lib.TabIs Tryz.prog W "internal/strconv.uint64pow10" .u64 Lib.pow10Tab
theorem TabW.then {W W1 : World} (h : TabW W) (hb : Below W.heap.size W W1) : TabW W1 := by
  unfold TabW Lib.TabIs World.var? at *
  have hg : Tryz.prog.globalNamed "internal/strconv.uint64pow10" = some 14 := by kernel_rfl
  rw [hg] at h ⊢
  simp only [Option.bind_some] at h ⊢
  have hl : 14 < W.heap.size := by
    by_cases hl : 14 < W.heap.size
    · exact hl
    · rw [Array.getElem?_eq_none (by omega)] at h; cases h
  rw [hb.block _ hl]; exact h
theorem tab_of {W : World} {l : List (String × DataW Unit)} (h : laidMet Tryz.prog l W) (i : Nat) (hi : l[i]? = some ("internal/strconv.uint64pow10", Lib.tabData .u64 Lib.pow10Tab)) : TabW W := by
  obtain ⟨ps, hv, _, _⟩ := h
  obtain ⟨g', t', cs, fuel, p, e1, e2, e3, e4, _⟩ := laid_part hv hi
  have hg : Tryz.prog.globalNamed "internal/strconv.uint64pow10" = some 14 := by kernel_rfl
  have hty : (Tryz.prog.globals[14]?).map (·.type) = some 112 := by kernel_rfl
  obtain rfl := Option.some.inj (hg.symm.trans e1)
  obtain rfl := Option.some.inj (hty.symm.trans e2)
  unfold TabW Lib.TabIs
  rw [e3, ← Lib.cells_of_tab Tryz.underlying112 Tryz.underlying99 (by kernel_rfl) (by kernel_rfl) e4]
theorem below_grow (w : World) (k : Nat) (os : Array Obj) : Below w.heap.size w (Go.Sort.grow (w.drewN k) os) :=
  ⟨rfl, rfl, rfl, by simp [Go.Sort.grow, World.drewN], fun i hi => by simp [Go.Sort.grow, World.drewN, Array.getElem?_append, hi]⟩
theorem formatInt_walk (n : Nat) (hn : n ≤ 9223372036854775807) (w : World) (ht : TabW w) :
    Calls Tryz.prog 52 #[.int .i64 n, .int .i64 10] w fun e w' => e = .returned (.string (decS n)) ∧ Below w.heap.size w w' := by
  refine (Any.internal_strconv_FormatInt_10 lays246 n (by omega) (by omega) w ht).mono ?_
  rintro e w' ⟨rfl, k, os, rfl⟩
  exact ⟨by rw [Lib.itoa_nonneg]; rfl, below_grow w k os⟩
set_option maxHeartbeats 400000 in
theorem itoaIn_walk (n : Nat) (hn : n ≤ 9223372036854775807) (w : World) (ht : TabW w) :
    Calls Tryz.prog 34 #[.int .i64 n] w fun e w' => e = .returned (.string (decS n)) ∧ Below w.heap.size w w' := by
  have HF := Lib.hid (formatInt_walk n hn w ht)
  clear ht
  go_enter Tryz.func34, Tryz.ntmps34
  go_wp2_with fail
  refine HF.out.mono ?_
  rintro e w' ⟨rfl, hB⟩
  have HB := Lib.hid hB
  clear hB
  go_wp2
  go_ret
  exact ⟨rfl, HB.out⟩
set_option maxHeartbeats 400000 in
theorem itoa_walk (n : Nat) (hn : n ≤ 9223372036854775807) (w : World) (ht : TabW w) :
    Calls Tryz.prog 17 #[.int .i64 n] w fun e w' => e = .returned (.string (decS n)) ∧ Below w.heap.size w w' := by
  have HF := Lib.hid (itoaIn_walk n hn w ht)
  clear ht
  go_enter Tryz.func17, Tryz.ntmps17
  go_wp2_with fail
  refine HF.out.mono ?_
  rintro e w' ⟨rfl, hB⟩
  have HB := Lib.hid hB
  clear hB
  go_wp2
  go_ret
  exact ⟨rfl, HB.out⟩
theorem decS_size (n : Nat) (hn : n < 10 ^ 20) : (decS n).size ≤ 20 := by
  have h : ∀ k u, u < 10 ^ (k + 1) → (Lib.decDigits u).length ≤ k + 1 := by
    intro k
    induction k with
    | zero => intro u hu; rw [Lib.decDigits, dif_pos (by simpa using hu)]; simp
    | succ k ih =>
      intro u hu
      by_cases h : u < 10
      · rw [Lib.decDigits, dif_pos h]; simp
      · rw [Lib.decDigits, dif_neg h, List.length_append]
        have := ih (u / 10) (by rw [Nat.div_lt_iff_lt_mul (by decide)]; rw [Nat.pow_succ] at hu; exact hu)
        simp only [List.length_singleton]; omega
  have := h 19 n hn
  rw [decS, ByteArray.size]; simpa using this
end Go.Proofs.YtcalbpdcjklffaaGreatDoor
