/- strconv.Itoa: the kit's contract for base 10 laid at this seat in plain declarations (printed by wip/bin/genlay.py), and its use. -/
import Derived.Shelf.Strconv.Itoa4
import Derived.Test.YtcalbpdcjklffaaDoorOwn
import Derived.Test.YtcalbpdcjklffaaDoorLaid
import Derived.Test.YtcalbpdcjklffaaDoorChecked
import Derived.Lib.Hide
namespace Go.Proofs.YtcalbpdcjklffaaDoor
open Go.Shelf Go.RowKit
def lays246_ren : Go.Shelf.Ren := ⟨fun | 129 => 110 | 246 => 85 | 283 => 99 | 284 => 100 | 285 => 101 | 286 => 102 | 317 => 109 | 318 => 111 | 319 => 112 | 320 => 113 | 337 => 114 | 338 => 115 | n => n, fun | 0 => 0 | 2 => 2 | 3 => 3 | 4 => 4 | 5 => 5 | 9 => 9 | 20 => 20 | 37 => 92 | 46 => 122 | 51 => 132 | 53 => 124 | 171 => 123 | 173 => 127 | 212 => 136 | 213 => 137 | 232 => 144 | 233 => 145 | n => n, fun | 17 => 15 | 18 => 18 | 19 => 19 | n => n⟩
theorem lays246 : LaysM.n246 Tryd.prog lays246_ren := {
  mixed := by kernel_rfl,
  f129 := by kernel_rfl,
  f246 := by kernel_rfl,
  f283 := by kernel_rfl,
  f284 := by kernel_rfl,
  f285 := by kernel_rfl,
  f286 := by kernel_rfl,
  f317 := by kernel_rfl,
  f318 := by kernel_rfl,
  f319 := by kernel_rfl,
  f320 := by kernel_rfl,
  f337 := by kernel_rfl,
  f338 := by kernel_rfl,
  t0 := Tryd.underlying0,
  a0 := Tryd.isAgg0,
  z0 := Tryd.sizeOf0,
  v0 := Tryd.zeroValue0,
  t2 := Tryd.underlying2,
  a2 := Tryd.isAgg2,
  z2 := Tryd.sizeOf2,
  v2 := Tryd.zeroValue2,
  t3 := Tryd.underlying3,
  a3 := Tryd.isAgg3,
  z3 := Tryd.sizeOf3,
  v3 := Tryd.zeroValue3,
  t4 := Tryd.underlying4,
  a4 := Tryd.isAgg4,
  z4 := Tryd.sizeOf4,
  v4 := Tryd.zeroValue4,
  t5 := Tryd.underlying5,
  a5 := Tryd.isAgg5,
  z5 := Tryd.sizeOf5,
  v5 := Tryd.zeroValue5,
  t9 := Tryd.underlying9,
  a9 := Tryd.isAgg9,
  z9 := Tryd.sizeOf9,
  v9 := Tryd.zeroValue9,
  t20 := Tryd.underlying20,
  a20 := Tryd.isAgg20,
  z20 := Tryd.sizeOf20,
  v20 := Tryd.zeroValue20,
  t37 := Tryd.underlying92,
  a37 := Tryd.isAgg92,
  z37 := Tryd.sizeOf92,
  v37 := Tryd.zeroValue92,
  t46 := Tryd.underlying122,
  a46 := Tryd.isAgg122,
  z46 := Tryd.sizeOf122,
  v46 := Tryd.zeroValue122,
  t51 := Tryd.underlying132,
  a51 := Tryd.isAgg132,
  z51 := Tryd.sizeOf132,
  v51 := Tryd.zeroValue132,
  t53 := Tryd.underlying124,
  a53 := Tryd.isAgg124,
  z53 := Tryd.sizeOf124,
  v53 := Tryd.zeroValue124,
  t171 := Tryd.underlying123,
  a171 := Tryd.isAgg123,
  z171 := Tryd.sizeOf123,
  v171 := Tryd.zeroValue123,
  t173 := Tryd.underlying127,
  a173 := Tryd.isAgg127,
  z173 := Tryd.sizeOf127,
  v173 := Tryd.zeroValue127,
  t212 := Tryd.underlying136,
  a212 := Tryd.isAgg136,
  z212 := Tryd.sizeOf136,
  v212 := Tryd.zeroValue136,
  t213 := Tryd.underlying137,
  a213 := Tryd.isAgg137,
  z213 := Tryd.sizeOf137,
  t232 := Tryd.underlying144,
  a232 := Tryd.isAgg144,
  z232 := Tryd.sizeOf144,
  v232 := Tryd.zeroValue144,
  t233 := Tryd.underlying145,
  a233 := Tryd.isAgg145,
  z233 := Tryd.sizeOf145,
  v233 := Tryd.zeroValue145,
  g17 := by kernel_rfl,
  g18 := by kernel_rfl,
  g19 := by kernel_rfl,
  i0 := by kernel_rfl,
  i2 := by kernel_rfl,
  i3 := by kernel_rfl,
  i4 := by kernel_rfl,
  i5 := by kernel_rfl,
  i9 := by kernel_rfl,
  i20 := by kernel_rfl,
  i37 := by kernel_rfl,
  i46 := by kernel_rfl,
  i51 := by kernel_rfl,
  i53 := by kernel_rfl,
  i171 := by kernel_rfl,
  i173 := by kernel_rfl,
  i212 := by kernel_rfl,
  i232 := by kernel_rfl,
  i233 := by kernel_rfl,
  m17 := by kernel_rfl,
  m18 := by kernel_rfl,
  m19 := by kernel_rfl }
def decS (n : Nat) : ByteArray := ⟨(Lib.decDigits n).toArray⟩
/-- the table of powers of ten lies as the program lays it -/
def TabW (W : World) : Prop := Lib.TabIs Tryd.prog W "internal/strconv.uint64pow10" .u64 Lib.pow10Tab
theorem TabW.then {W W1 : World} (h : TabW W) (hb : Below W.heap.size W W1) : TabW W1 := by
  unfold TabW Lib.TabIs World.var? at *
  have hg : Tryd.prog.globalNamed "internal/strconv.uint64pow10" = some 15 := by kernel_rfl
  rw [hg] at h ⊢
  simp only [Option.bind_some] at h ⊢
  have hl : 15 < W.heap.size := by
    by_cases hl : 15 < W.heap.size
    · exact hl
    · rw [Array.getElem?_eq_none (by omega)] at h; cases h
  rw [hb.block _ hl]; exact h
theorem tab_of {W : World} {l : List (String × DataW Unit)} (h : laidMet Tryd.prog l W) (i : Nat) (hi : l[i]? = some ("internal/strconv.uint64pow10", Lib.tabData .u64 Lib.pow10Tab)) : TabW W := by
  obtain ⟨ps, hv, _, _⟩ := h
  obtain ⟨g', t', cs, fuel, p, e1, e2, e3, e4, _⟩ := laid_part hv hi
  have hg : Tryd.prog.globalNamed "internal/strconv.uint64pow10" = some 15 := by kernel_rfl
  have hty : (Tryd.prog.globals[15]?).map (·.type) = some 136 := by kernel_rfl
  obtain rfl := Option.some.inj (hg.symm.trans e1)
  obtain rfl := Option.some.inj (hty.symm.trans e2)
  unfold TabW Lib.TabIs
  rw [e3, ← Lib.cells_of_tab Tryd.underlying136 Tryd.underlying124 (by kernel_rfl) (by kernel_rfl) e4]
theorem below_grow (w : World) (k : Nat) (os : Array Obj) : Below w.heap.size w (Go.Sort.grow (w.drewN k) os) :=
  ⟨rfl, rfl, rfl, by simp [Go.Sort.grow, World.drewN], fun i hi => by simp [Go.Sort.grow, World.drewN, Array.getElem?_append, hi]⟩
theorem formatInt_walk (n : Nat) (hn : n ≤ 9223372036854775807) (w : World) (ht : TabW w) :
    Calls Tryd.prog 85 #[.int .i64 n, .int .i64 10] w fun e w' => e = .returned (.string (decS n)) ∧ Below w.heap.size w w' := by
  refine (Any.internal_strconv_FormatInt_10 lays246 n (by omega) (by omega) w ht).mono ?_
  rintro e w' ⟨rfl, k, os, rfl⟩
  exact ⟨by rw [Lib.itoa_nonneg]; rfl, below_grow w k os⟩
set_option maxHeartbeats 400000 in
theorem itoaIn_walk (n : Nat) (hn : n ≤ 9223372036854775807) (w : World) (ht : TabW w) :
    Calls Tryd.prog 71 #[.int .i64 n] w fun e w' => e = .returned (.string (decS n)) ∧ Below w.heap.size w w' := by
  have HF := Lib.hid (formatInt_walk n hn w ht)
  clear ht
  go_enter Tryd.func71, Tryd.ntmps71
  go_wp2_with fail
  refine HF.out.mono ?_
  rintro e w' ⟨rfl, hB⟩
  have HB := Lib.hid hB
  clear hB
  go_wp2
  go_ret
  exact ⟨rfl, HB.out⟩
set_option maxHeartbeats 400000 in
theorem itoa_walk (n : Nat) (hn : n ≤ 9223372036854775807) (w : World) (ht : TabW w) :
    Calls Tryd.prog 50 #[.int .i64 n] w fun e w' => e = .returned (.string (decS n)) ∧ Below w.heap.size w w' := by
  have HF := Lib.hid (itoaIn_walk n hn w ht)
  clear ht
  go_enter Tryd.func50, Tryd.ntmps50
  go_wp2_with fail
  refine HF.out.mono ?_
  rintro e w' ⟨rfl, hB⟩
  have HB := Lib.hid hB
  clear hB
  go_wp2
  go_ret
  exact ⟨rfl, HB.out⟩
theorem decS_size (n : Nat) (hn : n < 10 ^ 20) : (decS n).size ≤ 20 := by
  have h : ∀ k u, u < 10 ^ (k + 1) → (Lib.decDigits u).length ≤ k + 1 := by
    intro k
    induction k with
    | zero => intro u hu; rw [Lib.decDigits, dif_pos (by simpa using hu)]; simp
    | succ k ih =>
      intro u hu
      by_cases h : u < 10
      · rw [Lib.decDigits, dif_pos h]; simp
      · rw [Lib.decDigits, dif_neg h, List.length_append]
        have := ih (u / 10) (by rw [Nat.div_lt_iff_lt_mul (by decide)]; rw [Nat.pow_succ] at hu; exact hu)
        simp only [List.length_singleton]; omega
  have := h 19 n hn
  rw [decS, ByteArray.size]; simpa using this
end Go.Proofs.YtcalbpdcjklffaaDoor
