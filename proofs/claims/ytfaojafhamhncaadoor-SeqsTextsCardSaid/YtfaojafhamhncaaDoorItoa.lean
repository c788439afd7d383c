/- strconv.Itoa: the kit's contract for base 10 laid at this seat in plain declarations (printed by wip/bin/genlay.py), and its use. -/
import Derived.Shelf.Strconv.Itoa4
import Derived.Test.YtfaojafhamhncaaDoorOwn
import Derived.Test.YtfaojafhamhncaaDoorLaid
import Derived.Test.YtfaojafhamhncaaDoorChecked
import Derived.Lib.Hide
namespace Go.Proofs.YtfaojafhamhncaaDoor
open Go.Shelf Go.RowKit
def lays246_ren : Go.Shelf.Ren := ⟨fun | 129 => 81 | 246 => 73 | 283 => 76 | 284 => 77 | 285 => 78 | 286 => 79 | 317 => 80 | 318 => 82 | 319 => 83 | 320 => 84 | 337 => 85 | 338 => 86 | n => n, fun | 0 => 0 | 2 => 2 | 3 => 3 | 4 => 4 | 5 => 5 | 9 => 9 | 20 => 20 | 37 => 72 | 46 => 107 | 51 => 113 | 53 => 117 | 171 => 116 | 173 => 120 | 212 => 123 | 213 => 124 | 232 => 128 | 233 => 129 | n => n, fun | 17 => 16 | 18 => 17 | 19 => 18 | n => n⟩
theorem lays246 : LaysM.n246 Tryd.prog lays246_ren := {
  mixed := by kernel_rfl,
  f129 := by kernel_rfl,
  f246 := by kernel_rfl,
  f283 := by kernel_rfl,
  f284 := by kernel_rfl,
  f285 := by kernel_rfl,
  f286 := by kernel_rfl,
  f317 := by kernel_rfl,
  f318 := by kernel_rfl,
  f319 := by kernel_rfl,
  f320 := by kernel_rfl,
  f337 := by kernel_rfl,
  f338 := by kernel_rfl,
  t0 := Tryd.underlying0,
  a0 := Tryd.isAgg0,
  z0 := Tryd.sizeOf0,
  v0 := Tryd.zeroValue0,
  t2 := Tryd.underlying2,
  a2 := Tryd.isAgg2,
  z2 := Tryd.sizeOf2,
  v2 := Tryd.zeroValue2,
  t3 := Tryd.underlying3,
  a3 := Tryd.isAgg3,
  z3 := Tryd.sizeOf3,
  v3 := Tryd.zeroValue3,
  t4 := Tryd.underlying4,
  a4 := Tryd.isAgg4,
  z4 := Tryd.sizeOf4,
  v4 := Tryd.zeroValue4,
  t5 := Tryd.underlying5,
  a5 := Tryd.isAgg5,
  z5 := Tryd.sizeOf5,
  v5 := Tryd.zeroValue5,
  t9 := Tryd.underlying9,
  a9 := Tryd.isAgg9,
  z9 := Tryd.sizeOf9,
  v9 := Tryd.zeroValue9,
  t20 := Tryd.underlying20,
  a20 := Tryd.isAgg20,
  z20 := Tryd.sizeOf20,
  v20 := Tryd.zeroValue20,
  t37 := Tryd.underlying72,
  a37 := Tryd.isAgg72,
  z37 := Tryd.sizeOf72,
  v37 := Tryd.zeroValue72,
  t46 := Tryd.underlying107,
  a46 := Tryd.isAgg107,
  z46 := Tryd.sizeOf107,
  v46 := Tryd.zeroValue107,
  t51 := Tryd.underlying113,
  a51 := Tryd.isAgg113,
  z51 := Tryd.sizeOf113,
  v51 := Tryd.zeroValue113,
  t53 := Tryd.underlying117,
  a53 := Tryd.isAgg117,
  z53 := Tryd.sizeOf117,
  v53 := Tryd.zeroValue117,
  t171 := Tryd.underlying116,
  a171 := Tryd.isAgg116,
  z171 := Tryd.sizeOf116,
  v171 := Tryd.zeroValue116,
  t173 := Tryd.underlying120,
  a173 := Tryd.isAgg120,
  z173 := Tryd.sizeOf120,
  v173 := Tryd.zeroValue120,
  t212 := Tryd.underlying123,
  a212 := Tryd.isAgg123,
  z212 := Tryd.sizeOf123,
  v212 := Tryd.zeroValue123,
  t213 := Tryd.underlying124,
  a213 := Tryd.isAgg124,
  z213 := Tryd.sizeOf124,
  t232 := Tryd.underlying128,
  a232 := Tryd.isAgg128,
  z232 := Tryd.sizeOf128,
  v232 := Tryd.zeroValue128,
  t233 := Tryd.underlying129,
  a233 := Tryd.isAgg129,
  z233 := Tryd.sizeOf129,
  v233 := Tryd.zeroValue129,
  g17 := by kernel_rfl,
  g18 := by kernel_rfl,
  g19 := by kernel_rfl,
  i0 := by kernel_rfl,
  i2 := by kernel_rfl,
  i3 := by kernel_rfl,
  i4 := by kernel_rfl,
  i5 := by kernel_rfl,
  i9 := by kernel_rfl,
  i20 := by kernel_rfl,
  i37 := by kernel_rfl,
  i46 := by kernel_rfl,
  i51 := by kernel_rfl,
  i53 := by kernel_rfl,
  i171 := by kernel_rfl,
  i173 := by kernel_rfl,
  i212 := by kernel_rfl,
  i232 := by kernel_rfl,
  i233 := by kernel_rfl,
  m17 := by kernel_rfl,
  m18 := by kernel_rfl,
  m19 := by kernel_rfl }
def decS (n : Nat) : ByteArray := ⟨(Lib.decDigits n).toArray⟩
/-- the table of powers of ten lies as the program lays it -/
def TabW (W : World) : Prop := Lib.TabIs Tryd.prog W "internal/strconv.uint64pow10" .u64 Lib.pow10Tab
theorem TabW.then {W W1 : World} (h : TabW W) (hb : Below W.heap.size W W1) : TabW W1 := by
  unfold TabW Lib.TabIs World.var? at *
  have hg : Tryd.prog.globalNamed "internal/strconv.uint64pow10" = some 16 := by kernel_rfl
  rw [hg] at h ⊢
  simp only [Option.bind_some] at h ⊢
  have hl : 16 < W.heap.size := by
    by_cases hl : 16 < W.heap.size
    · exact hl
    · rw [Array.getElem?_eq_none (by omega)] at h; cases h
  rw [hb.block _ hl]; exact h
theorem tab_of {W : World} {l : List (String × DataW Unit)} (h : laidMet Tryd.prog l W) (i : Nat) (hi : l[i]? = some ("internal/strconv.uint64pow10", Lib.tabData .u64 Lib.pow10Tab)) : TabW W := by
  obtain ⟨ps, hv, _, _⟩ := h
  obtain ⟨g', t', cs, fuel, p, e1, e2, e3, e4, _⟩ := laid_part hv hi
  have hg : Tryd.prog.globalNamed "internal/strconv.uint64pow10" = some 16 := by kernel_rfl
  have hty : (Tryd.prog.globals[16]?).map (·.type) = some 123 := by kernel_rfl
  obtain rfl := Option.some.inj (hg.symm.trans e1)
  obtain rfl := Option.some.inj (hty.symm.trans e2)
  unfold TabW Lib.TabIs
  rw [e3, ← Lib.cells_of_tab Tryd.underlying123 Tryd.underlying117 (by kernel_rfl) (by kernel_rfl) e4]
theorem below_grow (w : World) (k : Nat) (os : Array Obj) : Below w.heap.size w (Go.Sort.grow (w.drewN k) os) :=
  ⟨rfl, rfl, rfl, by simp [Go.Sort.grow, World.drewN], fun i hi => by simp [Go.Sort.grow, World.drewN, Array.getElem?_append, hi]⟩
theorem formatInt_walk (n : Nat) (hn : n ≤ 9223372036854775807) (w : World) (ht : TabW w) :
    Calls Tryd.prog 73 #[.int .i64 n, .int .i64 10] w fun e w' => e = .returned (.string (decS n)) ∧ Below w.heap.size w w' := by
  refine (Any.internal_strconv_FormatInt_10 lays246 n (by omega) (by omega) w ht).mono ?_
  rintro e w' ⟨rfl, k, os, rfl⟩
  exact ⟨by rw [Lib.itoa_nonneg]; rfl, below_grow w k os⟩
set_option maxHeartbeats 400000 in
theorem itoaIn_walk (n : Nat) (hn : n ≤ 9223372036854775807) (w : World) (ht : TabW w) :
    Calls Tryd.prog 64 #[.int .i64 n] w fun e w' => e = .returned (.string (decS n)) ∧ Below w.heap.size w w' := by
  have HF := Lib.hid (formatInt_walk n hn w ht)
  clear ht
  go_enter Tryd.func64, Tryd.ntmps64
  go_wp2_with fail
  refine HF.out.mono ?_
  rintro e w' ⟨rfl, hB⟩
  have HB := Lib.hid hB
  clear hB
  go_wp2
  go_ret
  exact ⟨rfl, HB.out⟩
set_option maxHeartbeats 400000 in
theorem itoa_walk (n : Nat) (hn : n ≤ 9223372036854775807) (w : World) (ht : TabW w) :
    Calls Tryd.prog 53 #[.int .i64 n] w fun e w' => e = .returned (.string (decS n)) ∧ Below w.heap.size w w' := by
  have HF := Lib.hid (itoaIn_walk n hn w ht)
  clear ht
  go_enter Tryd.func53, Tryd.ntmps53
  go_wp2_with fail
  refine HF.out.mono ?_
  rintro e w' ⟨rfl, hB⟩
  have HB := Lib.hid hB
  clear hB
  go_wp2
  go_ret
  exact ⟨rfl, HB.out⟩
theorem decS_size (n : Nat) (hn : n < 10 ^ 20) : (decS n).size ≤ 20 := by
  have h : ∀ k u, u < 10 ^ (k + 1) → (Lib.decDigits u).length ≤ k + 1 := by
    intro k
    induction k with
    | zero => intro u hu; rw [Lib.decDigits, dif_pos (by simpa using hu)]; simp
    | succ k ih =>
      intro u hu
      by_cases h : u < 10
      · rw [Lib.decDigits, dif_pos h]; simp
      · rw [Lib.decDigits, dif_neg h, List.length_append]
        have := ih (u / 10) (by rw [Nat.div_lt_iff_lt_mul (by decide)]; rw [Nat.pow_succ] at hu; exact hu)
        simp only [List.length_singleton]; omega
  have := h 19 n hn
  rw [decS, ByteArray.size]; simpa using this
end Go.Proofs.YtfaojafhamhncaaDoor
