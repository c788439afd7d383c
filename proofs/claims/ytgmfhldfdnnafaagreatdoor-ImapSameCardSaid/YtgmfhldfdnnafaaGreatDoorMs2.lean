/- A part of the proofs of the statements on chapter 21: walks of functions that they reach, and plain laws. What is proved is stated in the last text. Conditions: none of its own. -/
import Derived.Test.YtgmfhldfdnnafaaGreatDoorMs1
import Derived.Lib.ItoaNum
import Derived.Lib.IndexMore
import Derived.Laws.AppendOwn
import Derived.Maps.AppendAt
import Derived.Recover
import Derived.WalkLawsBesides
import Derived.OrdersIn
import Derived.TacticsIn
set_option maxHeartbeats 8000000
set_option maxRecDepth 100000
set_option linter.unusedSimpArgs false
set_option linter.unusedVariables false
namespace Go.Proofs.YtgmfhldfdnnafaaGreatDoor
open Go.RowKit
open Pl (Bs idxB)
structure ScanAt (w : World) (B : Nat) (s : ByteArray) (k : Int) : Prop where
 heap : w.heap[B]? = some (Obj.cells #[.string s, .int .i64 k] 64)
theorem ScanAt.lt {w : World} {B : Nat} {s : ByteArray} {k : Int} (h : ScanAt w B s k) : B < w.heap.size := (Array.getElem?_eq_some_iff.1 h.heap).1
theorem ScanAt.cells {w : World} {B : Nat} {s : ByteArray} {k : Int} (h : ScanAt w B s k) : w.cell? ⟨B, 0, none⟩ = some (.string s) ∧ w.cell? ⟨B, 1, none⟩ = some (.int .i64 k) ∧ w.frozen? ⟨B, 0, none⟩ = false ∧ w.frozen? ⟨B, 1, none⟩ = false := two_cells h.heap
theorem ScanAt.put {w : World} {B : Nat} {s : ByteArray} {k : Int} (h : ScanAt w B s k) (r : ByteArray) : ScanAt (w.setCell ⟨B, 0, none⟩ (.string r)) B r k := by
 exact ⟨by simp [World.setCell, Array.getElem?_modify, h.heap]⟩
theorem ScanAt.kept {w w1 : World} {B : Nat} {s : ByteArray} {k : Int} {row : Option Nat} (h : ScanAt w B s k) (hg : w.grownBy w1 row) (hne : some B ≠ row) : ScanAt w1 B s k := ⟨(hg.block B h.lt hne).trans h.heap⟩
theorem ScanAt.then {w w1 : World} {B : Nat} {s : ByteArray} {k : Int} (h : ScanAt w B s k) (hb : Below w.heap.size w w1) : ScanAt w1 B s k := ⟨(hb.block _ h.lt).trans h.heap⟩
theorem grown_put (w : World) (B i : Nat) (v : Value) : w.grownBy (w.setCell ⟨B, i, none⟩ v) (some B) :=
 ⟨rfl, rfl, rfl, by rw [World.size_setCell]; exact Nat.le_refl _, fun k hk hne => Below.heap_setCell w _ v k (fun e => hne (by rw [e]))⟩
theorem grown_below {w w1 : World} (hb : Below w.heap.size w w1) (row : Option Nat) : w.grownBy w1 row := ⟨hb.os, hb.tape, hb.output, hb.size, fun i hi _ => hb.block i hi⟩
theorem grown_refl (w : World) (row : Option Nat) : w.grownBy w row := ⟨rfl, rfl, rfl, Nat.le_refl _, fun _ _ _ => rfl⟩
theorem grown_draws (w : World) (q : Nat) (row : Option Nat) : w.grownBy (w.drewN q) row := ⟨rfl, rfl, rfl, Nat.le_refl _, fun _ _ _ => rfl⟩
abbrev scP (B : Nat) : Value := .pointer (some ⟨B, 0, none⟩)
theorem pre_yes {s t r : ByteArray} (h : s = t ++ r) : (⟨(Lib.trimPrefix s.data.toList t.data.toList).toArray⟩ : ByteArray) = r ∧ Lib.hasPrefix s.data.toList t.data.toList = true := by
 subst h
 have h1 : Lib.hasPrefix (t ++ r).data.toList t.data.toList = true := by
  rw [Lib.hasPrefix, List.isPrefixOf_iff_prefix, ByteArray.data_append, Array.toList_append]; exact List.prefix_append _ _
 refine ⟨?_, h1⟩
 rw [Lib.trimPrefix, h1, if_pos rfl, ByteArray.data_append, Array.toList_append, List.drop_left']
 rfl
theorem pre_no {s t : ByteArray} (h : Lib.hasPrefix s.data.toList t.data.toList = false) : (⟨(Lib.trimPrefix s.data.toList t.data.toList).toArray⟩ : ByteArray) = s := by
 rw [Lib.trimPrefix, h]; rfl
theorem must_walk (B : Nat) (w : World) : Calls Tryz.prog 27 #[scP B, .bool true] w fun e w' => e = .returned (.tuple #[]) ∧ w = w' := by
 go_enter Tryz.func27, Tryz.ntmps27
 go_wp2
 go_end0
 exact ⟨rfl, rfl⟩
def specB : Bs := [40, 41, 123, 37, 42, 34, 92]
def atomI (more : ByteArray) (c : Int) : Bool := decide (32 < c) && decide (c < 127) && (decide (idxI c.toNat.toUInt8 specB < 0) || decide (0 ≤ idxI c.toNat.toUInt8 (bs more)))
theorem atom21_walk (c : Int) (more : ByteArray) (w : World) :
  Calls Tryz.prog 66 #[.int .u8 c, .string more] w fun e w' => e = .returned (.bool (atomI more c)) ∧ w = w' := by
 have K1 := Lib.hid (indexByte_walk ⟨#[40, 41, 123, 37, 42, 34, 92]⟩ c w)
 have K2 := Lib.hid (indexByte_walk more c w)
 rw [show bs ⟨#[40, 41, 123, 37, 42, 34, 92]⟩ = specB from rfl] at K1
 have HD := Lib.hid (show atomI more c = (decide (32 < c) && decide (c < 127) && (decide (idxI c.toNat.toUInt8 specB < 0) || decide (0 ≤ idxI c.toNat.toUInt8 (bs more)))) from rfl)
 generalize idxI c.toNat.toUInt8 specB = i1 at *
 generalize idxI c.toNat.toUInt8 (bs more) = i2 at *
 by_cases h1 : 32 < c
 ·
  by_cases h2 : c < 127
  ·
   by_cases h3 : i1 < 0
   ·
    have HV := Lib.hid (show atomI more c = true by rw [HD.out, decide_eq_true h1, decide_eq_true h2, decide_eq_true h3]; rfl)
    go_enter Tryz.func66, Tryz.ntmps66
    go_wp2_with fail
    refine K1.out.mono ?_
    rintro e w' ⟨rfl, rfl⟩
    go_wp2
    go_ret
    exact ⟨by rw [HV.out]; rfl, rfl⟩
   ·
    have HV := Lib.hid (show atomI more c = (decide (i1 < 0) || decide (0 ≤ i2)) by rw [HD.out, decide_eq_true h1, decide_eq_true h2]; rfl)
    go_enter Tryz.func66, Tryz.ntmps66
    go_wp2_with fail
    refine K1.out.mono ?_
    rintro e w' ⟨rfl, rfl⟩
    go_wp2_with fail
    refine K2.out.mono ?_
    rintro e w' ⟨rfl, rfl⟩
    go_wp2
    go_ret
    exact ⟨by rw [HV.out]; rfl, rfl⟩
  ·
   have HV := Lib.hid (show atomI more c = false by rw [HD.out, decide_eq_false h2]; simp)
   go_enter Tryz.func66, Tryz.ntmps66
   go_wp2
   go_ret
   exact ⟨by rw [HV.out]; rfl, rfl⟩
 ·
  have HV := Lib.hid (show atomI more c = false by rw [HD.out, decide_eq_false h1]; simp)
  go_enter Tryz.func66, Tryz.ntmps66
  go_wp2
  go_ret
  exact ⟨by rw [HV.out]; rfl, rfl⟩
end Go.Proofs.YtgmfhldfdnnafaaGreatDoor
namespace Go.Proofs.YtgmfhldfdnnafaaGreatDoor.Pl
open Go.Lib (decDigits)
theorem dec_one {u : Nat} (h : u < 10) : decDigits u = [UInt8.ofNat (48 + u)] := by rw [decDigits, dif_pos h]
theorem dec_more {u : Nat} (h : ¬ u < 10) : decDigits u = decDigits (u / 10) ++ [UInt8.ofNat (48 + u % 10)] := by rw [decDigits, dif_neg h]
theorem dig_nat {k : Nat} (h : k < 10) : (UInt8.ofNat (48 + k)).toNat = 48 + k := by
 rw [UInt8.toNat_ofNat']; omega
theorem dec_ne (u : Nat) : decDigits u ≠ [] := by
 by_cases h : u < 10
 ·
  rw [dec_one h]; simp
 ·
  rw [dec_more h]; simp
theorem val_snoc (l : List UInt8) (c : UInt8) : val (l ++ [c]) = 10 * val l + (c.toNat - 48) := by rw [val, List.foldl_append]; rfl
theorem dec_val : ∀ u, val (decDigits u) = u := by
 intro u
 induction u using Nat.strongRecOn with
 | _ u ih =>
  by_cases h : u < 10
  ·
   rw [dec_one h]
   show 10 * 0 + ((UInt8.ofNat (48 + u)).toNat - 48) = u
   rw [dig_nat h]; omega
  ·
   rw [dec_more h, val_snoc, ih (u / 10) (by omega), dig_nat (by omega)]; omega
theorem dec_digits : ∀ u, ∀ c ∈ decDigits u, digB c = true := by
 intro u
 induction u using Nat.strongRecOn with
 | _ u ih =>
  have one : ∀ k, k < 10 → digB (UInt8.ofNat (48 + k)) = true := fun k hk => by
   simp only [digB, Bool.and_eq_true, decide_eq_true_eq, dig_nat hk]; omega
  by_cases h : u < 10
  ·
   rw [dec_one h]; intro c hc; simp only [List.mem_singleton] at hc; subst hc; exact one u h
  ·
   rw [dec_more h]; intro c hc
   rcases List.mem_append.1 hc with hc | hc
   ·
    exact ih (u / 10) (by omega) c hc
   ·
    simp only [List.mem_singleton] at hc; subst hc; exact one _ (by omega)
theorem dec_len : ∀ k u, u < 10 ^ (k + 1) → (decDigits u).length ≤ k + 1 := by
 intro k
 induction k with
 | zero => intro u hu; rw [dec_one (by simpa using hu)]; simp
 | succ k ih =>
  intro u hu
  by_cases h : u < 10
  ·
   rw [dec_one h]; simp
  ·
   rw [dec_more h, List.length_append]
   have := ih (u / 10) (by rw [Nat.div_lt_iff_lt_mul (by decide)]; rw [Nat.pow_succ] at hu; exact hu)
   simp only [List.length_singleton]; omega
theorem dec_head : ∀ u, 0 < u → ¬ (decDigits u).head? = some 48 := by
 intro u
 induction u using Nat.strongRecOn with
 | _ u ih =>
  intro h0
  by_cases h : u < 10
  ·
   rw [dec_one h]
   intro e
   simp only [List.head?_cons, Option.some.injEq] at e
   have := congrArg UInt8.toNat e
   rw [dig_nat h] at this
   have h48 : (48 : UInt8).toNat = 48 := rfl
   omega
  ·
   rw [dec_more h, List.head?_append]
   have := ih (u / 10) (by omega) (by omega)
   cases e : (decDigits (u / 10)).head? with
   | none => rw [List.head?_eq_none_iff] at e; exact absurd e (dec_ne _)
   | some c => rw [e] at this; simpa using this
theorem dec_numOk (u : Nat) (h0 : 0 < u) (h1 : u ≤ 2147483648) : numOk (decDigits u) = true := by
 refine num_yes _ ?_ (dec_len 9 u (by omega)) (dec_head u h0) (dec_digits u) (by rw [dec_val]; exact h1)
 have := dec_ne u
 cases e : decDigits u with
 | nil => exact absurd e this
 | cons => simp
theorem dec_numN (u : Nat) (h0 : 0 < u) (h1 : u ≤ 2147483648) : numN (decDigits u) = u := by
 rw [numN, if_pos (dec_numOk u h0 h1), dec_val]
end Go.Proofs.YtgmfhldfdnnafaaGreatDoor.Pl
namespace Go.Proofs.YtgmfhldfdnnafaaGreatDoor.Pl
def fromB (l : Bs) : Bs := l.take (idxB 58 l)
def toB (l : Bs) : Bs := if idxB 58 l < l.length then l.drop (idxB 58 l + 1) else fromB l
def okItem (l : Bs) : Bool := endOk (fromB l) && endOk (toB l)
def rangeV (l : Bs) : Int × Int := ((endN (fromB l) : Int), (endN (toB l) : Int))
def items (l : Bs) : List Bs := splitB 44 l
def setOk (l : Bs) : Bool := (items l).all okItem && decide ((items l).length ≤ 50)
def setL (l : Bs) : List (Int × Int) := if setOk l = true then (items l).map rangeV else []
theorem set_fails {l : Bs} {pre : List Bs} (hp : pre <+: items l) (h : (pre.all okItem && decide (pre.length ≤ 50)) = false) : setOk l = false := by
 obtain ⟨t, ht⟩ := hp
 cases e : setOk l with
 | false => rfl
 | true =>
  rw [setOk, ← ht, List.all_append, List.length_append] at e
  simp only [Bool.and_eq_true, decide_eq_true_eq] at e
  rw [e.1.1, decide_eq_true (by omega)] at h
  exact absurd h (by decide)
end Go.Proofs.YtgmfhldfdnnafaaGreatDoor.Pl
namespace Go.Proofs.YtgmfhldfdnnafaaGreatDoor
open Go.RowKit
open Pl (Bs idxB numOk numN setOk setL)
def str (l : Bs) : ByteArray := ⟨l.toArray⟩
theorem bs_str (l : Bs) : bs (str l) = l := by simp [bs, str]
theorem str_bs (s : ByteArray) : str (bs s) = s := by simp [bs, str]
theorem str_size (l : Bs) : (str l).size = l.length := by simp [str, ByteArray.size]
theorem str_at (l : Bs) (j : Nat) (h : j < (str l).size) : (str l)[j] = l[j]'(by rw [← str_size]; exact h) := by
 have := at_bs (str l) j h
 simp only [bs_str] at this
 exact this.symm
def isB (t l : Bs) : Option Bs := if t.isPrefixOf l = true then some (l.drop t.length) else none
theorem isB_some {t l r : Bs} (h : isB t l = some r) : l = t ++ r := by
 unfold isB at h
 split at h
 ·
  rename_i hp
  obtain ⟨z, hz⟩ := List.isPrefixOf_iff_prefix.1 hp
  cases h
  rw [← hz, List.drop_left' rfl]
 ·
  cases h
def atomB (more : Bs) (c : UInt8) : Bool := atomI (str more) (c.toNat : Int)
def wordB (more l : Bs) : Option (Bs × Bs) := let w := l.takeWhile (atomB more); if w.isEmpty = true then none else some (w, l.drop w.length)
def quotedB : Bs → Option (Bs × Bs)
 | [] => none
 | c :: l =>
  if c = 34 then some ([], l)
  else if c = 92 then match l with
   | [] => none
   | d :: r => if d = 34 ∨ d = 92 then (quotedB r).map fun p => (d :: p.1, p.2) else none
  else if 32 ≤ c.toNat ∧ c.toNat < 127 then (quotedB l).map fun p => (c :: p.1, p.2)
  else none
def upToB (e l : Bs) : Option (Bs × Bs) := if (Lib.cut l e).2.2 = true then some ((Lib.cut l e).1, (Lib.cut l e).2.1) else none
def countB (l : Bs) (m : Nat) : Option Nat := if l = [48] then some 0 else if numOk l = true ∧ numN l ≤ m then some (numN l) else none
def literalB (l : Bs) : Option (Bs × Bs) :=
 match upToB [125, 13, 10] l with
 | none => none
 | some (d, r) => match countB d 100000 with
  | none => none
  | some n => if n ≤ r.length then some (r.take n, r.drop n) else none
def textB (more l : Bs) : Option (Bs × Bs) :=
 match isB [34] l with
 | some r => quotedB r
 | none => match isB [123] l with
  | some r => literalB r
  | none => wordB more l
def textsB : Nat → Bs → Option (List Bs × Bs)
 | 0, l => some ([], l)
 | n + 1, l => match isB [32] l with
  | none => none
  | some l1 => match textB [] l1 with
   | none => none
   | some (x, l2) => (textsB n l2).map fun p => (x :: p.1, p.2)
def setB (l : Bs) : Option (List (Int × Int) × Bs) :=
 match wordB [37, 42] l with
 | none => none
 | some (w, r) => if setOk w = true then some (setL w, r) else none
theorem wordB_app {more l w r : Bs} (h : wordB more l = some (w, r)) : l = w ++ r := by
 simp only [wordB] at h
 split at h
 ·
  cases h
 ·
  simp only [Option.some.injEq, Prod.mk.injEq] at h
  obtain ⟨rfl, rfl⟩ := h
  exact (List.prefix_iff_eq_append.1 (List.takeWhile_prefix _)).symm
theorem wordB_len {more l w r : Bs} (h : wordB more l = some (w, r)) : w.length + r.length = l.length := by rw [wordB_app h, List.length_append]
theorem isB_len {t l r : Bs} (h : isB t l = some r) : t.length + r.length = l.length := by rw [isB_some h, List.length_append]
theorem quotedB_len : ∀ (l w r : Bs), quotedB l = some (w, r) → w.length + r.length + 1 ≤ l.length
 | [], w, r, h => by simp [quotedB] at h
 | [c], w, r, h => by
  by_cases h1 : c = 34
  ·
   subst h1; simp [quotedB] at h; obtain ⟨rfl, rfl⟩ := h; simp
  ·
   by_cases h2 : c = 92
   ·
    subst h2; simp [quotedB] at h
   ·
    simp [quotedB, h1, h2] at h
 | c :: d :: l, w, r, h => by
  by_cases h1 : c = 34
  ·
   subst h1; simp [quotedB] at h; obtain ⟨rfl, rfl⟩ := h; simp
  ·
   by_cases h2 : c = 92
   ·
    subst h2
    by_cases h3 : d = 34 ∨ d = 92
    ·
     have e : quotedB (92 :: d :: l) = (quotedB l).map fun p => (d :: p.1, p.2) := by rw [quotedB]; simp [h3]
     rw [e] at h
     cases hq : quotedB l with
     | none => rw [hq] at h; cases h
     | some p =>
      rw [hq] at h
      simp only [Option.map_some, Option.some.injEq, Prod.mk.injEq] at h
      obtain ⟨rfl, rfl⟩ := h
      have := quotedB_len l p.1 p.2 hq
      simp only [List.length_cons]; omega
    ·
     have e : quotedB (92 :: d :: l) = none := by rw [quotedB]; simp [h3]
     rw [e] at h; cases h
   ·
    by_cases h3 : 32 ≤ c.toNat ∧ c.toNat < 127
    ·
     have e : quotedB (c :: d :: l) = (quotedB (d :: l)).map fun p => (c :: p.1, p.2) := by rw [quotedB]; simp only [h1, h2, h3]; simp
     rw [e] at h
     cases hq : quotedB (d :: l) with
     | none => rw [hq] at h; cases h
     | some p =>
      rw [hq] at h
      simp only [Option.map_some, Option.some.injEq, Prod.mk.injEq] at h
      obtain ⟨rfl, rfl⟩ := h
      have := quotedB_len (d :: l) p.1 p.2 hq
      simp only [List.length_cons] at this ⊢; omega
    ·
     have e : quotedB (c :: d :: l) = none := by rw [quotedB]; simp only [h1, h2, h3]; simp
     rw [e] at h; cases h
 termination_by l => l.length
theorem cut_len (l e : Bs) : (Lib.cut l e).2.2 = true → (Lib.cut l e).1.length + (Lib.cut l e).2.1.length ≤ l.length := by
 unfold Lib.cut
 split
 ·
  intro _; simp only [List.length_take, List.length_drop]; omega
 ·
  intro h; cases h
theorem upToB_len {e l w r : Bs} (h : upToB e l = some (w, r)) : w.length + r.length ≤ l.length := by
 unfold upToB at h
 split at h
 ·
  rename_i hc
  have := cut_len l e hc
  simp only [Option.some.injEq, Prod.mk.injEq] at h
  obtain ⟨rfl, rfl⟩ := h
  exact this
 ·
  cases h
theorem literalB_len {l w r : Bs} (h : literalB l = some (w, r)) : w.length + r.length ≤ l.length := by
 unfold literalB at h
 split at h
 ·
  cases h
 ·
  rename_i d r1 h1
  split at h
  ·
   cases h
  ·
   rename_i n hn
   split at h
   ·
    have := upToB_len h1
    simp only [Option.some.injEq, Prod.mk.injEq] at h
    obtain ⟨rfl, rfl⟩ := h
    simp only [List.length_take, List.length_drop]; omega
   ·
    cases h
theorem textB_len {more l w r : Bs} (h : textB more l = some (w, r)) : w.length + r.length ≤ l.length := by
 unfold textB at h
 split at h
 ·
  rename_i r1 h1
  have := isB_len h1
  have := quotedB_len _ _ _ h
  omega
 ·
  split at h
  ·
   rename_i r1 h1
   have := isB_len h1
   have := literalB_len h
   omega
  ·
   have := wordB_len h
   omega
theorem textsB_len : ∀ {n : Nat} {l : Bs} {x : List Bs} {r : Bs}, textsB n l = some (x, r) → r.length ≤ l.length ∧ x.length = n ∧ ∀ y ∈ x, y.length ≤ l.length
 | 0, l, x, r, h => by simp [textsB] at h; obtain ⟨rfl, rfl⟩ := h; simp
 | n + 1, l, x, r, h => by
  unfold textsB at h
  split at h
  ·
   cases h
  ·
   rename_i l1 h1
   split at h
   ·
    cases h
   ·
    rename_i y l2 h2
    simp at h
    obtain ⟨z, hz, rfl⟩ := h
    have e1 := isB_len h1
    have e2 := textB_len h2
    obtain ⟨e3, e4, e5⟩ := textsB_len hz
    refine ⟨by omega, by simp [e4], fun u hu => ?_⟩
    rcases List.mem_cons.1 hu with rfl | hu
    ·
     omega
    ·
     have := e5 u hu; omega
open Go.RowKit
open Pl (Bs idxB numOk numN setOk setL)
structure Glob where
 form : Value
 range : Value
 max : Int
structure EnvI (G : Glob) (w : World) (B : Nat) : Prop where
 form : w.cell? ⟨0, 0, none⟩ = some G.form
 range : w.cell? ⟨1, 0, none⟩ = some G.range
 max : w.cell? ⟨13, 0, none⟩ = some (.int .i64 G.max)
 old : 20 ≤ B
 lt : B < w.heap.size
 formI : ∃ t x, G.form = .iface t x
 rangeI : ∃ t x, G.range = .iface t x
theorem EnvI.kept {G : Glob} {w w1 : World} {B : Nat} (h : EnvI G w B) (hg : w.grownBy w1 (some B)) : EnvI G w1 B :=
 have ne : ∀ i : Nat, i < 20 → some i ≠ some B := fun i hi e => by have := Option.some.inj e; have := h.old; omega
 ⟨hg.cell (a := ⟨_, 0, none⟩) h.form (ne _ (by decide)), hg.cell (a := ⟨_, 0, none⟩) h.range (ne _ (by decide)), hg.cell (a := ⟨_, 0, none⟩) h.max (ne _ (by decide)), h.old, Nat.lt_of_lt_of_le h.lt hg.size, h.formI, h.rangeI⟩
structure Scn (w : World) (B : Nat) (s : Bs) (k : Nat) : Prop where
 heap : w.heap[B]? = some (Obj.cells #[.string (str s), .int .i64 (k : Int)] 64)
 small : s.length ≤ 1000000
 few : k ≤ 60
theorem Scn.lt {w : World} {B : Nat} {s : Bs} {k : Nat} (h : Scn w B s k) : B < w.heap.size := (Array.getElem?_eq_some_iff.1 h.heap).1
theorem Scn.cells {w : World} {B : Nat} {s : Bs} {k : Nat} (h : Scn w B s k) : w.cell? ⟨B, 0, none⟩ = some (.string (str s)) ∧ w.cell? ⟨B, 1, none⟩ = some (.int .i64 (k : Int)) ∧ w.frozen? ⟨B, 0, none⟩ = false ∧ w.frozen? ⟨B, 1, none⟩ = false := two_cells h.heap
theorem Scn.put {w : World} {B : Nat} {s : Bs} {k : Nat} (h : Scn w B s k) (r : Bs) (hr : r.length ≤ s.length) : Scn (w.setCell ⟨B, 0, none⟩ (.string (str r))) B r k := by
 exact ⟨by simp [World.setCell, Array.getElem?_modify, h.heap], Nat.le_trans hr h.small, h.few⟩
theorem Scn.kept {w w1 : World} {B : Nat} {s : Bs} {k : Nat} {row : Option Nat} (h : Scn w B s k) (hg : w.grownBy w1 row) (hne : some B ≠ row) : Scn w1 B s k := ⟨(hg.block B h.lt hne).trans h.heap, h.small, h.few⟩
theorem Scn.then {w w1 : World} {B : Nat} {s : Bs} {k : Nat} (h : Scn w B s k) (hb : Below w.heap.size w w1) : Scn w1 B s k := ⟨(hb.block _ h.lt).trans h.heap, h.small, h.few⟩
theorem grown_new {wr w w1 : World} {B : Nat} {row : Option Nat} (h : w.grownBy wr (some B)) (hg : wr.grownBy w1 row) (hr : ∀ k, row = some k → w.heap.size ≤ k ∨ k = B) : w.grownBy w1 (some B) :=
 ⟨hg.os.trans h.os, hg.tape.trans h.tape, hg.output.trans h.output, Nat.le_trans h.size hg.size, fun k hk hne => (hg.block k (Nat.lt_of_lt_of_le hk h.size) (fun e => by
  rcases hr k e.symm with h1 | h1
  ·
   omega
  ·
   exact hne (by rw [h1]))).trans (h.block k hk hne)⟩
def wrongE : PanicEntry := { v := .iface 60 (.agg #[]), recovered := false }
theorem must_no (B : Nat) (w : World) : Calls Tryz.prog 27 #[scP B, .bool false] w fun e w' => e = .panicked [wrongE] ∧ w = w' := by
 go_enter Tryz.func27, Tryz.ntmps27
 go_wp2
 exact ⟨rfl, rfl, rfl⟩
theorem cutPre_yes {t l r : Bs} (h : isB t l = some r) (w : World) : Calls Tryz.prog 96 #[.string (str l), .string (str t)] w fun e w' => e = .returned (.tuple #[.string (str r), .bool true]) ∧ w' = w := by
 have K := cutPre_walk21 (str l) (str t) w
 have e := isB_some h
 obtain ⟨p0, p1⟩ := pre_yes (s := str l) (t := str t) (r := str r) (by rw [e]; apply bs_inj; simp [bs, str])
 rw [p0, p1] at K
 exact K
theorem pre_isB {t l : Bs} : Lib.hasPrefix (str l).data.toList (str t).data.toList = (isB t l).isSome := by
 have e : Lib.hasPrefix (str l).data.toList (str t).data.toList = t.isPrefixOf l := by simp [Lib.hasPrefix, str]
 rw [e, isB]
 split
 ·
  rename_i h; rw [h]; rfl
 ·
  rename_i h; rw [Bool.eq_false_iff.2 h]; rfl
theorem cutPre_no {t l : Bs} (h : isB t l = none) (w : World) : Calls Tryz.prog 96 #[.string (str l), .string (str t)] w fun e w' => e = .returned (.tuple #[.string (str l), .bool false]) ∧ w' = w := by
 have K := cutPre_walk21 (str l) (str t) w
 have p1 : Lib.hasPrefix (str l).data.toList (str t).data.toList = false := by rw [pre_isB, h]; rfl
 have p0 := pre_no p1
 rw [p0, p1] at K
 exact K
theorem is_ok (B : Nat) (s t r : Bs) (k : Nat) (hs : isB t s = some r) (w : World) (h : Scn w B s k) :
  Calls Tryz.prog 68 #[scP B, .string (str t)] w fun e w' => e = .returned (.bool true) ∧ Scn w' B r k ∧ w.grownBy w' (some B) := by
 obtain ⟨c0, c1, f0, f1⟩ := h.cells
 have HP := Lib.hid (h.put r (by have := isB_len hs; omega))
 have HG := Lib.hid (grown_put w B 0 (.string (str r)))
 have K := Lib.hid (cutPre_yes hs w)
 clear hs h
 generalize str t = T at *
 generalize str s = S at *
 go_enter Tryz.func68, Tryz.ntmps68
 go_wp2_with fail
 refine K.out.mono ?_
 rintro e w' ⟨rfl, rfl⟩
 go_wp2
 go_ret
 exact ⟨rfl, HP.out, HG.out⟩
theorem is_not (B : Nat) (s t : Bs) (k : Nat) (hs : isB t s = none) (w : World) (h : Scn w B s k) :
  Calls Tryz.prog 68 #[scP B, .string (str t)] w fun e w' => e = .returned (.bool false) ∧ Scn w' B s k ∧ w.grownBy w' (some B) := by
 obtain ⟨c0, c1, f0, f1⟩ := h.cells
 have HP := Lib.hid (h.put s (Nat.le_refl _))
 have HG := Lib.hid (grown_put w B 0 (.string (str s)))
 have K := Lib.hid (cutPre_no hs w)
 clear hs h
 generalize str t = T at *
 generalize str s = S at *
 go_enter Tryz.func68, Tryz.ntmps68
 go_wp2_with fail
 refine K.out.mono ?_
 rintro e w' ⟨rfl, rfl⟩
 go_wp2
 go_ret
 exact ⟨rfl, HP.out, HG.out⟩
theorem blank_ok (B : Nat) (s r : Bs) (k : Nat) (hs : isB [32] s = some r) (w : World) (h : Scn w B s k) :
  Calls Tryz.prog 28 #[scP B] w fun e w' => e = .returned (.tuple #[]) ∧ Scn w' B r k ∧ w.grownBy w' (some B) := by
 have K : Hid (Calls Tryz.prog 68 #[scP B, .string ⟨#[32]⟩] w _) := Lib.hid (is_ok B s [32] r k hs w h)
 clear hs h
 go_enter Tryz.func28, Tryz.ntmps28
 go_wp2_with fail
 refine K.out.mono ?_
 rintro e w1 ⟨rfl, hS, hG⟩
 have HS := Lib.hid hS
 have HG := Lib.hid hG
 clear hS hG
 go_wp2_with fail
 refine (must_walk B _).mono ?_
 rintro e w' ⟨rfl, rfl⟩
 go_wp2
 go_end0
 exact ⟨rfl, HS.out, HG.out⟩
theorem blank_no (B : Nat) (s : Bs) (k : Nat) (hs : isB [32] s = none) (w : World) (h : Scn w B s k) :
  Calls Tryz.prog 28 #[scP B] w fun e w' => e = .panicked [wrongE] ∧ w.grownBy w' (some B) := by
 have K : Hid (Calls Tryz.prog 68 #[scP B, .string ⟨#[32]⟩] w _) := Lib.hid (is_not B s [32] k hs w h)
 clear hs h
 go_enter Tryz.func28, Tryz.ntmps28
 go_wp2_with fail
 refine K.out.mono ?_
 rintro e w1 ⟨rfl, hS, hG⟩
 have HG := Lib.hid hG
 clear hS hG
 go_wp2_with fail
 refine (must_no B _).mono ?_
 rintro e w' ⟨rfl, rfl⟩
 exact ⟨rfl, rfl, HG.out⟩
theorem tw_in (p : UInt8 → Bool) : ∀ (l : Bs) (j : Nat) (h : j < (l.takeWhile p).length) (h2 : j < l.length), p l[j] = true
 | [], j, h, h2 => by simp at h2
 | c :: l, j, h, h2 => by
  rw [List.takeWhile_cons] at h
  cases hc : p c with
  | false => simp [hc] at h
  | true =>
   cases j with
   | zero => simpa using hc
   | succ j =>
    simp only [hc, if_true, List.length_cons, Nat.add_lt_add_iff_right] at h
    simpa using tw_in p l j h (by simpa using h2)
theorem tw_out (p : UInt8 → Bool) : ∀ (l : Bs) (h : (l.takeWhile p).length < l.length), p (l[(l.takeWhile p).length]'h) = false
 | [], h => by simp at h
 | c :: l, h => by
  cases hc : p c with
  | false => simp [List.takeWhile_cons, hc]
  | true =>
   have e : ((c :: l).takeWhile p).length = (l.takeWhile p).length + 1 := by simp [List.takeWhile_cons, hc]
   simp only [e, List.getElem_cons_succ]
   exact tw_out p l _
theorem str_take (l : Bs) (n : Nat) : (str l).extract 0 n = str (l.take n) := by
 apply bs_inj
 simp [bs, str]
theorem str_drop (l : Bs) (n : Nat) : (str l).extract n l.length = str (l.drop n) := by
 apply bs_inj
 simp [bs, str, List.extract_eq_take_drop]
 rw [List.take_of_length_le (by simp)]
theorem word_ok (B : Nat) (more s W R : Bs) (k : Nat) (hw : wordB more s = some (W, R)) (w : World) (h : Scn w B s k) :
  Calls Tryz.prog 26 #[scP B, .string (str more)] w fun e w' => e = .returned (.string (str W)) ∧ Scn w' B R k ∧ w.grownBy w' (some B) := by
 obtain ⟨c0, c1, f0, f1⟩ := h.cells
 have hlen := wordB_len hw
 have HP := Lib.hid (h.put R (by omega))
 have HG := Lib.hid (grown_put w B 0 (.string (str R)))
 have hsm := h.small
 obtain ⟨n, hn⟩ : ∃ n, n = (s.takeWhile (atomB more)).length := ⟨_, rfl⟩
 have hle : n ≤ s.length := by rw [hn]; exact (List.takeWhile_prefix _).length_le
 have HI := Lib.hid (fun (j : Nat) (hj : j < n) (h : j < (str s).size) => show atomI (str more) ((str s)[j].toNat : Int) = true by
  rw [str_at]
  exact tw_in (atomB more) s j (by rw [← hn]; exact hj) _)
 have HO := Lib.hid (fun (h : n < (str s).size) => show atomI (str more) ((str s)[n].toNat : Int) = false by
  subst hn
  rw [str_at]
  exact tw_out (atomB more) s _)
 simp only [wordB] at hw
 split at hw
 ·
  cases hw
 ·
  rename_i hne
  simp only [Option.some.injEq, Prod.mk.injEq] at hw
  obtain ⟨rfl, rfl⟩ := hw
  have hpos : 0 < n := by rw [hn]; exact List.length_pos_iff.2 (fun e => hne (by rw [e]; rfl))
  have HL := Lib.hid (show (str s).extract 0 n = str (s.takeWhile (atomB more)) by rw [str_take, hn, List.prefix_iff_eq_take.1 (List.takeWhile_prefix (atomB more)) |>.symm])
  have HR := Lib.hid (show (str s).extract n s.length = str (s.drop (s.takeWhile (atomB more)).length) by rw [str_drop, hn])
  have zs := str_size s
  rw [← zs] at HR hle hsm
  clear hn hne hlen h
  generalize str (s.drop (s.takeWhile (atomB more)).length) = R' at *
  generalize str (s.takeWhile (atomB more)) = W' at *
  generalize str s = S at *
  generalize str more = M at *
  clear zs
  go_enter Tryz.func26, Tryz.ntmps26
  go_wp2
  go_loop [5] (fun i => ∃ j : Nat, j ≤ n ∧ i = .int .i64 j) (fun i => n - (intOf i).toNat)
  case atStart => exact ⟨0, Nat.zero_le _, rfl⟩
  case round =>
   obtain ⟨j, hj, rfl⟩ := hrel
   by_cases hjw : j < n
   ·
    have hjs : j < S.size := by omega
    have K := Lib.hid (atom21_walk (S[j].toNat : Int) M w)
    rw [HI.out j hjw hjs] at K
    go_wp2_with fail
    refine K.out.mono ?_
    rintro e w' ⟨rfl, rfl⟩
    go_wp2
    go_round
    case rel => exact ⟨j + 1, by omega, by go_num⟩
    case measure => simp [intOf]; omega
   ·
    obtain rfl : j = n := by omega
    by_cases hjs : j < S.size
    ·
     have K := Lib.hid (atom21_walk (S[j].toNat : Int) M w)
     rw [HO.out hjs] at K
     go_wp2_with fail
     refine K.out.mono ?_
     rintro e w' ⟨rfl, rfl⟩
     go_wp2_with fail
     refine (must_walk B _).mono ?_
     rintro e w' ⟨rfl, rfl⟩
     have hl := HL.out
     have hr := HR.out
     go_wp2
     go_ret
     exact ⟨rfl, HP.out, HG.out⟩
    ·
     go_wp2_with fail
     refine (must_walk B _).mono ?_
     rintro e w' ⟨rfl, rfl⟩
     have hl := HL.out
     have hr := HR.out
     go_wp2
     go_ret
     exact ⟨rfl, HP.out, HG.out⟩
theorem word_no (B : Nat) (more s : Bs) (k : Nat) (hw : wordB more s = none) (w : World) (h : Scn w B s k) :
  Calls Tryz.prog 26 #[scP B, .string (str more)] w fun e w' => e = .panicked [wrongE] ∧ w.grownBy w' (some B) := by
 obtain ⟨c0, c1, f0, f1⟩ := h.cells
 have HG := Lib.hid (grown_refl w (some B))
 have HO := Lib.hid (fun (h : 0 < (str s).size) => show atomI (str more) ((str s)[0].toNat : Int) = false by
  simp only [wordB] at hw
  split at hw
  ·
   rename_i he
   have e0 : s.takeWhile (atomB more) = [] := List.isEmpty_iff.1 he
   have := tw_out (atomB more) s (by rw [e0]; rw [str_size] at h; exact h)
   simp only [e0, List.length_nil] at this
   rw [str_at]
   exact this
  ·
   cases hw)
 have hsm : (str s).size ≤ 1000000 := by rw [str_size]; exact h.small
 clear hw h
 generalize str s = S at *
 generalize str more = M at *
 go_enter Tryz.func26, Tryz.ntmps26
 go_wp2
 refine wp_loop_rounds 1 ?_
 rw [rounds_succ]
 by_cases hjs : 0 < S.size
 ·
  have K := Lib.hid (atom21_walk (S[0].toNat : Int) M w)
  rw [HO.out hjs] at K
  go_wp2_with fail
  refine K.out.mono ?_
  rintro e w' ⟨rfl, rfl⟩
  go_wp2_with fail
  refine (must_no B _).mono ?_
  rintro e w' ⟨rfl, rfl⟩
  exact ⟨rfl, rfl, HG.out⟩
 ·
  have hz : S.size = 0 := by omega
  go_wp2_with fail
  refine (must_no B _).mono ?_
  rintro e w' ⟨rfl, rfl⟩
  exact ⟨rfl, rfl, HG.out⟩
open Go.RowKit Go.Shelf
open Pl (idxB Bs splitB)
theorem below_putObj {B : Nat} {w W : World} (h : Below B w W) (l : Nat) (o : Obj) (hl : B ≤ l) (hs : B ≤ W.heap.size) : Below B w (W.putObj l o) := h.grown (grownBy_putObj' W l o) hs (fun k e => by cases e; exact hl)
theorem splitWorld_size (w : World) (x : UInt8) (s : ByteArray) : (splitWorld w x s).heap.size = w.heap.size + 3 := by simp [splitWorld]
theorem splitWorld_stay (w : World) (x : UInt8) (s : ByteArray) : Stay (fun _ => True) w (splitWorld w x s) := (Stay.alloc _ _ _).trans ((Stay.alloc _ _ _).trans (Stay.alloc _ _ _))
theorem splitWorld_below (w : World) (x : UInt8) (s : ByteArray) : Below w.heap.size w (splitWorld w x s) := (((Below.refl _ _).alloc (Nat.le_refl _) _).alloc (by simp) _).alloc (by simp; omega) _
theorem splitWorld_box (w : World) (x : UInt8) (s : ByteArray) : SplitBox (w.heap.size + 1) w.heap.size (w.heap.size + 2) x s (splitWorld w x s) := by
 refine ⟨?_, ?_, ?_⟩
 ·
  have := World.alloc_heap_new (w.alloc (.cells #[.string s] 9)) (.cells #[.string ⟨#[x]⟩] 9)
  rw [World.size_alloc] at this
  exact (Below.heap_alloc _ _ _ (by simp)).trans this
 ·
  exact (Below.heap_alloc _ _ _ (by simp; omega)).trans ((Below.heap_alloc _ _ _ (by simp)).trans (World.alloc_heap_new w _))
 ·
  have := World.alloc_heap_new ((w.alloc (.cells #[.string s] 9)).alloc (.cells #[.string ⟨#[x]⟩] 9)) (.cells #[.int .i64 0] 3)
  rw [World.size_alloc, World.size_alloc] at this
  exact this

theorem own_putObj {w : World} {base : Nat} {e : TypeId} {size n : Nat} {v : Value} {xs : List Value} (h : w.ownsRow base e size v n xs) {l : Nat} (o : Obj) (hl : l < base) : (w.putObj l o).ownsRow base e size v n xs :=
 h.kept (row := some l) (grownBy_putObj' w l o) (by
  cases hb : v.ownBlock with
  | none => exact .inl rfl
  | some k =>
   refine .inr (fun e => ?_)
   have := own_base h k hb
   cases e
   omega)
open Go.RowKit
open Pl (Bs digB val val_next val_small numOk numN numN_pos numN_zero num_len num_digit num_zero num_big num_yes endOk endN)
def endV (l : Bs) (v : Value) : Value := .tuple #[.int .i64 (endN l), if endOk l = true then .nilIface else v]
theorem endV_no {l : Bs} (h : endOk l = false) (v : Value) : endV l v = .tuple #[.int .i64 0, v] := by
 have h1 : (l == [42]) = false := by cases e : (l == [42]) with | false => rfl | true => rw [endOk, e] at h; exact absurd h (by simp)
 have h2 : numOk l = false := by cases e : numOk l with | false => rfl | true => rw [endOk, e] at h; exact absurd h (by simp)
 rw [endV, endN, if_neg (fun e => by rw [e] at h1; exact absurd h1 (by decide)), numN_zero l h2, h]; rfl
theorem endV_yes {l : Bs} (h : endOk l = true) (v : Value) : endV l v = .tuple #[.int .i64 (endN l), .nilIface] := by rw [endV, if_pos h]
theorem end_walk (s : ByteArray) (v : Value) (w : World) (hs : s.size ≤ 140737488351232) (hc : w.cell? ⟨0, 0, none⟩ = some v) (hv : ∃ t x, v = .iface t x) :
  Calls Tryz.prog 131 #[.string s] w fun e w' => e = .returned (endV (bs s) v) ∧ Below w.heap.size w w' := by
 have hn := number_walk s v w hs hc hv
 have HN := Lib.hid hn
 clear hn hc
 cases h42 : (s.toList == [42]) with
 | true =>
  have hb : bs s = [42] := by rw [Lib.toList_data] at h42; simpa using h42
  have HV := Lib.hid (show endV (bs s) v = .tuple #[.int .i64 0, .nilIface] by rw [hb]; rfl)
  clear hb
  go_enter Tryz.func131, Tryz.ntmps131
  go_wp2
  go_ret2
  exact ⟨by rw [HV.out]; rfl, Below.refl _ _⟩
 | false =>
  have hb : ¬ bs s = [42] := fun e => by rw [Lib.toList_data] at h42; rw [show s.data.toList = [42] from e] at h42; exact absurd h42 (by decide)
  have HV := Lib.hid (show endV (bs s) v = numV (bs s) v by
   rw [endV, numV, endN, if_neg hb, endOk, show ((bs s) == [42]) = false by rw [beq_eq_false_iff_ne]; exact hb, Bool.false_or])
  clear hb
  have HW : numV (bs s) v = .tuple #[.int .i64 (numN (bs s)), if numOk (bs s) = true then .nilIface else v] := rfl
  rw [HW] at HN HV
  generalize (if numOk (bs s) = true then Value.nilIface else v) = E at HN HV
  clear HW
  go_enter Tryz.func131, Tryz.ntmps131
  go_wp2_with fail
  refine HN.out.mono ?_
  rintro e w' ⟨rfl, hB⟩
  have HB := Lib.hid hB
  clear hB
  go_wp2
  go_ret2
  exact ⟨by rw [HV.out]; rfl, HB.out⟩
open Go
theorem list_op {F : Fence} {n : Nat} {P : Program} {ops : Array Oper} {Q : Exit → Act → World → Prop} {i : Nat} {o : Oper} {rest : List Oper} {K : Act → World → Prop} {a : Act} {w : World} (ho : ops[i]? = some o)
  (hk : ∀ a w, wpListIn F n P ops Q rest a w → K a w) (h : wpListIn F n P ops Q (o :: rest) a w) : wpOpIn F n P ops Q i K a w := by
 unfold wpOpIn
 rw [ho]
 unfold wpListIn at h
 show if _ then _ else _
 by_cases hw : Region.wanted o (yielded ops a.tmps) = true
 ·
  rw [if_pos hw] at h ⊢
  exact Oper.wpIn_mono hk h
 ·
  rw [if_neg hw] at h ⊢
  exact ⟨h.1, hk _ _ h.2⟩
theorem wpIn_three {F : Fence} {n : Nat} {P : Program} {id : Nat} {Q : Exit → Act → World → Prop} {a : Act} {w : World} {o0 o1 o2 : Oper} (hm : P.follows .mixedOrders = true)
  (r1 : Region.ready .any #[o0, o1, o2] #[false, false, false] = [0, 1]) (r2 : Region.ready .any #[o0, o1, o2] #[true, false, false] = [1]) (r3 : Region.ready .any #[o0, o1, o2] #[false, true, false] = [0])
  (r4 : Region.ready .any #[o0, o1, o2] #[true, true, false] = [2]) (r5 : Region.ready .any #[o0, o1, o2] #[true, true, true] = [])
  (hx : wpListIn F n P #[o0, o1, o2] Q [o0, o1, o2] a w.drew) (hy : wpListIn F n P #[o0, o1, o2] Q [o1, o0, o2] a w.drew) : (Code.region id #[o0, o1, o2] true).wpIn F n P Q a w := by
 refine wpIn_region_any hm ?_
 have last : ∀ a w, wpListIn F n P #[o0, o1, o2] Q [] a w → wpAnyIn F n P .any #[o0, o1, o2] Q 0 #[true, true, true] a w := fun a w h => ⟨r5, h⟩
 have two : ∀ a w, wpListIn F n P #[o0, o1, o2] Q [o2] a w → wpAnyIn F n P .any #[o0, o1, o2] Q 1 #[true, true, false] a w := fun a w h =>
  wpAnyIn_all r4 (by simp) (fun i hi => by obtain rfl := List.mem_singleton.1 hi; exact list_op rfl last h)
 show wpAnyIn F n P .any #[o0, o1, o2] Q 3 #[false, false, false] a w.drew
 refine wpAnyIn_all r1 (by simp) (fun i hi => ?_)
 rcases List.mem_cons.1 hi with rfl | hi
 ·
  refine list_op rfl (fun a w h => ?_) hx
  exact wpAnyIn_all r2 (by simp) (fun i hi => by obtain rfl := List.mem_singleton.1 hi; exact list_op rfl two h)
 ·
  obtain rfl := List.mem_singleton.1 hi
  refine list_op rfl (fun a w h => ?_) hy
  exact wpAnyIn_all r3 (by simp) (fun i hi => by obtain rfl := List.mem_singleton.1 hi; exact list_op rfl two h)
end Go.Proofs.YtgmfhldfdnnafaaGreatDoor
