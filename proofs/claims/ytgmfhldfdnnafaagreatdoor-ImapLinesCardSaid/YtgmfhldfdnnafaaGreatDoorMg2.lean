/- A part of the proofs of the statements on chapter 21: walks of functions that they reach, and plain laws. What is proved is stated in the last text. Conditions: none of its own. -/
import Derived.Test.YtgmfhldfdnnafaaGreatDoorMg1
import Derived.Lib.IndexMore
import Derived.Laws.AppendOwn
import Derived.Maps.AppendAt
import Derived.Recover
import Derived.WalkLawsBesides
import Derived.OrdersIn
import Derived.TacticsIn
import Derived.RangeFuncBox
import Derived.RangeFuncFrom
import Derived.Laws.ResultCell
namespace Go.Proofs.YtgmfhldfdnnafaaGreatDoor
open Go.RowKit
open Pl (Bs idxB numOk numN setOk setL)
set_option linter.unusedSimpArgs false
set_option linter.unusedVariables false
def str (l : Bs) : ByteArray := ⟨l.toArray⟩
theorem bs_str (l : Bs) : bs (str l) = l := by simp [bs, str]
theorem str_bs (s : ByteArray) : str (bs s) = s := by simp [bs, str]
theorem str_size (l : Bs) : (str l).size = l.length := by simp [str, ByteArray.size]
theorem str_at (l : Bs) (j : Nat) (h : j < (str l).size) : (str l)[j] = l[j]'(by rw [← str_size]; exact h) := by
  have := at_bs (str l) j h
  simp only [bs_str] at this
  exact this.symm
def isB (t l : Bs) : Option Bs := if t.isPrefixOf l = true then some (l.drop t.length) else none
theorem isB_some {t l r : Bs} (h : isB t l = some r) : l = t ++ r := by
  unfold isB at h
  split at h
  · rename_i hp
    obtain ⟨z, hz⟩ := List.isPrefixOf_iff_prefix.1 hp
    cases h
    rw [← hz, List.drop_left' rfl]
  · cases h
def atomB (more : Bs) (c : UInt8) : Bool := atomI (str more) (c.toNat : Int)
def wordB (more l : Bs) : Option (Bs × Bs) := let w := l.takeWhile (atomB more); if w.isEmpty = true then none else some (w, l.drop w.length)
def quotedB : Bs → Option (Bs × Bs)
  | [] => none
  | c :: l =>
    if c = 34 then some ([], l)
    else if c = 92 then match l with
      | [] => none
      | d :: r => if d = 34 ∨ d = 92 then (quotedB r).map fun p => (d :: p.1, p.2) else none
    else if 32 ≤ c.toNat ∧ c.toNat < 127 then (quotedB l).map fun p => (c :: p.1, p.2)
    else none
def upToB (e l : Bs) : Option (Bs × Bs) := if (Lib.cut l e).2.2 = true then some ((Lib.cut l e).1, (Lib.cut l e).2.1) else none
def countB (l : Bs) (m : Nat) : Option Nat := if l = [48] then some 0 else if numOk l = true ∧ numN l ≤ m then some (numN l) else none
def literalB (l : Bs) : Option (Bs × Bs) :=
  match upToB [125, 13, 10] l with
  | none => none
  | some (d, r) => match countB d 100000 with
    | none => none
    | some n => if n ≤ r.length then some (r.take n, r.drop n) else none
def textB (more l : Bs) : Option (Bs × Bs) :=
  match isB [34] l with
  | some r => quotedB r
  | none => match isB [123] l with
    | some r => literalB r
    | none => wordB more l
def textsB : Nat → Bs → Option (List Bs × Bs)
  | 0, l => some ([], l)
  | n + 1, l => match isB [32] l with
    | none => none
    | some l1 => match textB [] l1 with
      | none => none
      | some (x, l2) => (textsB n l2).map fun p => (x :: p.1, p.2)
def setB (l : Bs) : Option (List (Int × Int) × Bs) :=
  match wordB [37, 42] l with
  | none => none
  | some (w, r) => if setOk w = true then some (setL w, r) else none
theorem wordB_app {more l w r : Bs} (h : wordB more l = some (w, r)) : l = w ++ r := by
  simp only [wordB] at h
  split at h
  · cases h
  · simp only [Option.some.injEq, Prod.mk.injEq] at h
    obtain ⟨rfl, rfl⟩ := h
    exact (List.prefix_iff_eq_append.1 (List.takeWhile_prefix _)).symm
theorem wordB_len {more l w r : Bs} (h : wordB more l = some (w, r)) : w.length + r.length = l.length := by rw [wordB_app h, List.length_append]
theorem isB_len {t l r : Bs} (h : isB t l = some r) : t.length + r.length = l.length := by rw [isB_some h, List.length_append]
theorem quotedB_len : ∀ (l w r : Bs), quotedB l = some (w, r) → w.length + r.length + 1 ≤ l.length
  | [], w, r, h => by simp [quotedB] at h
  | [c], w, r, h => by
    by_cases h1 : c = 34
    · subst h1; simp [quotedB] at h; obtain ⟨rfl, rfl⟩ := h; simp
    · by_cases h2 : c = 92
      · subst h2; simp [quotedB] at h
      · simp [quotedB, h1, h2] at h
  | c :: d :: l, w, r, h => by
    by_cases h1 : c = 34
    · subst h1; simp [quotedB] at h; obtain ⟨rfl, rfl⟩ := h; simp
    · by_cases h2 : c = 92
      · subst h2
        by_cases h3 : d = 34 ∨ d = 92
        · have e : quotedB (92 :: d :: l) = (quotedB l).map fun p => (d :: p.1, p.2) := by rw [quotedB]; simp [h3]
          rw [e] at h
          cases hq : quotedB l with
          | none => rw [hq] at h; cases h
          | some p =>
            rw [hq] at h
            simp only [Option.map_some, Option.some.injEq, Prod.mk.injEq] at h
            obtain ⟨rfl, rfl⟩ := h
            have := quotedB_len l p.1 p.2 hq
            simp only [List.length_cons]; omega
        · have e : quotedB (92 :: d :: l) = none := by rw [quotedB]; simp [h3]
          rw [e] at h; cases h
      · by_cases h3 : 32 ≤ c.toNat ∧ c.toNat < 127
        · have e : quotedB (c :: d :: l) = (quotedB (d :: l)).map fun p => (c :: p.1, p.2) := by rw [quotedB]; simp only [h1, h2, h3]; simp
          rw [e] at h
          cases hq : quotedB (d :: l) with
          | none => rw [hq] at h; cases h
          | some p =>
            rw [hq] at h
            simp only [Option.map_some, Option.some.injEq, Prod.mk.injEq] at h
            obtain ⟨rfl, rfl⟩ := h
            have := quotedB_len (d :: l) p.1 p.2 hq
            simp only [List.length_cons] at this ⊢; omega
        · have e : quotedB (c :: d :: l) = none := by rw [quotedB]; simp only [h1, h2, h3]; simp
          rw [e] at h; cases h
  termination_by l => l.length
theorem cut_len (l e : Bs) : (Lib.cut l e).2.2 = true → (Lib.cut l e).1.length + (Lib.cut l e).2.1.length ≤ l.length := by
  unfold Lib.cut
  split
  · intro _; simp only [List.length_take, List.length_drop]; omega
  · intro h; cases h
theorem upToB_len {e l w r : Bs} (h : upToB e l = some (w, r)) : w.length + r.length ≤ l.length := by
  unfold upToB at h
  split at h
  · rename_i hc
    have := cut_len l e hc
    simp only [Option.some.injEq, Prod.mk.injEq] at h
    obtain ⟨rfl, rfl⟩ := h
    exact this
  · cases h
theorem literalB_len {l w r : Bs} (h : literalB l = some (w, r)) : w.length + r.length ≤ l.length := by
  unfold literalB at h
  split at h
  · cases h
  · rename_i d r1 h1
    split at h
    · cases h
    · rename_i n hn
      split at h
      · have := upToB_len h1
        simp only [Option.some.injEq, Prod.mk.injEq] at h
        obtain ⟨rfl, rfl⟩ := h
        simp only [List.length_take, List.length_drop]; omega
      · cases h
theorem textB_len {more l w r : Bs} (h : textB more l = some (w, r)) : w.length + r.length ≤ l.length := by
  unfold textB at h
  split at h
  · rename_i r1 h1
    have := isB_len h1
    have := quotedB_len _ _ _ h
    omega
  · split at h
    · rename_i r1 h1
      have := isB_len h1
      have := literalB_len h
      omega
    · have := wordB_len h
      omega
theorem textsB_len : ∀ {n : Nat} {l : Bs} {x : List Bs} {r : Bs}, textsB n l = some (x, r) → r.length ≤ l.length ∧ x.length = n ∧ ∀ y ∈ x, y.length ≤ l.length
  | 0, l, x, r, h => by simp [textsB] at h; obtain ⟨rfl, rfl⟩ := h; simp
  | n + 1, l, x, r, h => by
    unfold textsB at h
    split at h
    · cases h
    · rename_i l1 h1
      split at h
      · cases h
      · rename_i y l2 h2
        simp at h
        obtain ⟨z, hz, rfl⟩ := h
        have e1 := isB_len h1
        have e2 := textB_len h2
        obtain ⟨e3, e4, e5⟩ := textsB_len hz
        refine ⟨by omega, by simp [e4], fun u hu => ?_⟩
        rcases List.mem_cons.1 hu with rfl | hu
        · omega
        · have := e5 u hu; omega
end Go.Proofs.YtgmfhldfdnnafaaGreatDoor
namespace Go.Proofs.YtgmfhldfdnnafaaGreatDoor
open Go.RowKit
open Pl (Bs idxB numOk numN setOk setL)
set_option linter.unusedSimpArgs false
set_option linter.unusedVariables false
/-- what the steps need of the package's variables -/
structure Glob where
  form : Value
  range : Value
  max : Int
structure EnvI (G : Glob) (w : World) (B : Nat) : Prop where
  form : w.cell? ⟨0, 0, none⟩ = some G.form
  range : w.cell? ⟨1, 0, none⟩ = some G.range
  max : w.cell? ⟨13, 0, none⟩ = some (.int .i64 G.max)
  old : 20 ≤ B
  lt : B < w.heap.size
  formI : ∃ t x, G.form = .iface t x
  rangeI : ∃ t x, G.range = .iface t x
theorem EnvI.kept {G : Glob} {w w1 : World} {B : Nat} (h : EnvI G w B) (hg : w.grownBy w1 (some B)) : EnvI G w1 B :=
  have ne : ∀ i : Nat, i < 20 → some i ≠ some B := fun i hi e => by have := Option.some.inj e; have := h.old; omega
  ⟨hg.cell (a := ⟨_, 0, none⟩) h.form (ne _ (by decide)), hg.cell (a := ⟨_, 0, none⟩) h.range (ne _ (by decide)), hg.cell (a := ⟨_, 0, none⟩) h.max (ne _ (by decide)), h.old, Nat.lt_of_lt_of_le h.lt hg.size, h.formI, h.rangeI⟩
/-- a scanner at a block: what is left, and how many keys were read -/
structure Scn (w : World) (B : Nat) (s : Bs) (k : Nat) : Prop where
  heap : w.heap[B]? = some (Obj.cells #[.string (str s), .int .i64 (k : Int)] 64)
  small : s.length ≤ 1000000
  few : k ≤ 60
theorem Scn.lt {w : World} {B : Nat} {s : Bs} {k : Nat} (h : Scn w B s k) : B < w.heap.size := (Array.getElem?_eq_some_iff.1 h.heap).1
theorem Scn.cells {w : World} {B : Nat} {s : Bs} {k : Nat} (h : Scn w B s k) : w.cell? ⟨B, 0, none⟩ = some (.string (str s)) ∧ w.cell? ⟨B, 1, none⟩ = some (.int .i64 (k : Int)) ∧ w.frozen? ⟨B, 0, none⟩ = false ∧ w.frozen? ⟨B, 1, none⟩ = false := two_cells h.heap
theorem Scn.put {w : World} {B : Nat} {s : Bs} {k : Nat} (h : Scn w B s k) (r : Bs) (hr : r.length ≤ s.length) : Scn (w.setCell ⟨B, 0, none⟩ (.string (str r))) B r k := by
  exact ⟨by simp [World.setCell, Array.getElem?_modify, h.heap], Nat.le_trans hr h.small, h.few⟩
theorem Scn.kept {w w1 : World} {B : Nat} {s : Bs} {k : Nat} {row : Option Nat} (h : Scn w B s k) (hg : w.grownBy w1 row) (hne : some B ≠ row) : Scn w1 B s k := ⟨(hg.block B h.lt hne).trans h.heap, h.small, h.few⟩
theorem Scn.then {w w1 : World} {B : Nat} {s : Bs} {k : Nat} (h : Scn w B s k) (hb : Below w.heap.size w w1) : Scn w1 B s k := ⟨(hb.block _ h.lt).trans h.heap, h.small, h.few⟩
theorem grown_new {wr w w1 : World} {B : Nat} {row : Option Nat} (h : w.grownBy wr (some B)) (hg : wr.grownBy w1 row) (hr : ∀ k, row = some k → w.heap.size ≤ k ∨ k = B) : w.grownBy w1 (some B) :=
  ⟨hg.os.trans h.os, hg.tape.trans h.tape, hg.output.trans h.output, Nat.le_trans h.size hg.size, fun k hk hne => (hg.block k (Nat.lt_of_lt_of_le hk h.size) (fun e => by
    rcases hr k e.symm with h1 | h1
    · omega
    · exact hne (by rw [h1]))).trans (h.block k hk hne)⟩
def wrongE : PanicEntry := { v := .iface 60 (.agg #[]), recovered := false }
theorem must_no (B : Nat) (w : World) : Calls Tryz.prog 27 #[scP B, .bool false] w fun e w' => e = .panicked [wrongE] ∧ w = w' := by
  go_enter Tryz.func27, Tryz.ntmps27
  go_wp2
  exact ⟨rfl, rfl, rfl⟩
theorem cutPre_yes {t l r : Bs} (h : isB t l = some r) (w : World) : Calls Tryz.prog 96 #[.string (str l), .string (str t)] w fun e w' => e = .returned (.tuple #[.string (str r), .bool true]) ∧ w' = w := by
  have K := cutPre_walk21 (str l) (str t) w
  have e := isB_some h
  obtain ⟨p0, p1⟩ := pre_yes (s := str l) (t := str t) (r := str r) (by rw [e]; apply bs_inj; simp [bs, str])
  rw [p0, p1] at K
  exact K
theorem pre_isB {t l : Bs} : Lib.hasPrefix (str l).data.toList (str t).data.toList = (isB t l).isSome := by
  have e : Lib.hasPrefix (str l).data.toList (str t).data.toList = t.isPrefixOf l := by simp [Lib.hasPrefix, str]
  rw [e, isB]
  split
  · rename_i h; rw [h]; rfl
  · rename_i h; rw [Bool.eq_false_iff.2 h]; rfl
theorem cutPre_no {t l : Bs} (h : isB t l = none) (w : World) : Calls Tryz.prog 96 #[.string (str l), .string (str t)] w fun e w' => e = .returned (.tuple #[.string (str l), .bool false]) ∧ w' = w := by
  have K := cutPre_walk21 (str l) (str t) w
  have p1 : Lib.hasPrefix (str l).data.toList (str t).data.toList = false := by rw [pre_isB, h]; rfl
  have p0 := pre_no p1
  rw [p0, p1] at K
  exact K
set_option maxRecDepth 100000 in
theorem is_ok (B : Nat) (s t r : Bs) (k : Nat) (hs : isB t s = some r) (w : World) (h : Scn w B s k) :
    Calls Tryz.prog 68 #[scP B, .string (str t)] w fun e w' => e = .returned (.bool true) ∧ Scn w' B r k ∧ w.grownBy w' (some B) := by
  obtain ⟨c0, c1, f0, f1⟩ := h.cells
  have HP := Lib.hid (h.put r (by have := isB_len hs; omega))
  have HG := Lib.hid (grown_put w B 0 (.string (str r)))
  have K := Lib.hid (cutPre_yes hs w)
  clear hs h
  generalize str t = T at *
  generalize str s = S at *
  go_enter Tryz.func68, Tryz.ntmps68
  go_wp2_with fail
  refine K.out.mono ?_
  rintro e w' ⟨rfl, rfl⟩
  go_wp2
  go_ret
  exact ⟨rfl, HP.out, HG.out⟩
set_option maxRecDepth 100000 in
theorem is_not (B : Nat) (s t : Bs) (k : Nat) (hs : isB t s = none) (w : World) (h : Scn w B s k) :
    Calls Tryz.prog 68 #[scP B, .string (str t)] w fun e w' => e = .returned (.bool false) ∧ Scn w' B s k ∧ w.grownBy w' (some B) := by
  obtain ⟨c0, c1, f0, f1⟩ := h.cells
  have HP := Lib.hid (h.put s (Nat.le_refl _))
  have HG := Lib.hid (grown_put w B 0 (.string (str s)))
  have K := Lib.hid (cutPre_no hs w)
  clear hs h
  generalize str t = T at *
  generalize str s = S at *
  go_enter Tryz.func68, Tryz.ntmps68
  go_wp2_with fail
  refine K.out.mono ?_
  rintro e w' ⟨rfl, rfl⟩
  go_wp2
  go_ret
  exact ⟨rfl, HP.out, HG.out⟩
set_option maxRecDepth 100000 in
theorem blank_ok (B : Nat) (s r : Bs) (k : Nat) (hs : isB [32] s = some r) (w : World) (h : Scn w B s k) :
    Calls Tryz.prog 28 #[scP B] w fun e w' => e = .returned (.tuple #[]) ∧ Scn w' B r k ∧ w.grownBy w' (some B) := by
  have K : Hid (Calls Tryz.prog 68 #[scP B, .string ⟨#[32]⟩] w _) := Lib.hid (is_ok B s [32] r k hs w h)
  clear hs h
  go_enter Tryz.func28, Tryz.ntmps28
  go_wp2_with fail
  refine K.out.mono ?_
  rintro e w1 ⟨rfl, hS, hG⟩
  have HS := Lib.hid hS
  have HG := Lib.hid hG
  clear hS hG
  go_wp2_with fail
  refine (must_walk B _).mono ?_
  rintro e w' ⟨rfl, rfl⟩
  go_wp2
  go_end0
  exact ⟨rfl, HS.out, HG.out⟩
set_option maxRecDepth 100000 in
theorem blank_no (B : Nat) (s : Bs) (k : Nat) (hs : isB [32] s = none) (w : World) (h : Scn w B s k) :
    Calls Tryz.prog 28 #[scP B] w fun e w' => e = .panicked [wrongE] ∧ w.grownBy w' (some B) := by
  have K : Hid (Calls Tryz.prog 68 #[scP B, .string ⟨#[32]⟩] w _) := Lib.hid (is_not B s [32] k hs w h)
  clear hs h
  go_enter Tryz.func28, Tryz.ntmps28
  go_wp2_with fail
  refine K.out.mono ?_
  rintro e w1 ⟨rfl, hS, hG⟩
  have HG := Lib.hid hG
  clear hS hG
  go_wp2_with fail
  refine (must_no B _).mono ?_
  rintro e w' ⟨rfl, rfl⟩
  exact ⟨rfl, rfl, HG.out⟩
theorem tw_in (p : UInt8 → Bool) : ∀ (l : Bs) (j : Nat) (h : j < (l.takeWhile p).length) (h2 : j < l.length), p l[j] = true
  | [], j, h, h2 => by simp at h2
  | c :: l, j, h, h2 => by
    rw [List.takeWhile_cons] at h
    cases hc : p c with
    | false => simp [hc] at h
    | true =>
      cases j with
      | zero => simpa using hc
      | succ j =>
        simp only [hc, if_true, List.length_cons, Nat.add_lt_add_iff_right] at h
        simpa using tw_in p l j h (by simpa using h2)
theorem tw_out (p : UInt8 → Bool) : ∀ (l : Bs) (h : (l.takeWhile p).length < l.length), p (l[(l.takeWhile p).length]'h) = false
  | [], h => by simp at h
  | c :: l, h => by
    cases hc : p c with
    | false => simp [List.takeWhile_cons, hc]
    | true =>
      have e : ((c :: l).takeWhile p).length = (l.takeWhile p).length + 1 := by simp [List.takeWhile_cons, hc]
      simp only [e, List.getElem_cons_succ]
      exact tw_out p l _
theorem str_take (l : Bs) (n : Nat) : (str l).extract 0 n = str (l.take n) := by
  apply bs_inj
  simp [bs, str]
theorem str_drop (l : Bs) (n : Nat) : (str l).extract n l.length = str (l.drop n) := by
  apply bs_inj
  simp [bs, str, List.extract_eq_take_drop]
  rw [List.take_of_length_le (by simp)]
set_option maxHeartbeats 1000000 in
set_option maxRecDepth 100000 in
theorem word_ok (B : Nat) (more s W R : Bs) (k : Nat) (hw : wordB more s = some (W, R)) (w : World) (h : Scn w B s k) :
    Calls Tryz.prog 26 #[scP B, .string (str more)] w fun e w' => e = .returned (.string (str W)) ∧ Scn w' B R k ∧ w.grownBy w' (some B) := by
  obtain ⟨c0, c1, f0, f1⟩ := h.cells
  have hlen := wordB_len hw
  have HP := Lib.hid (h.put R (by omega))
  have HG := Lib.hid (grown_put w B 0 (.string (str R)))
  have hsm := h.small
  obtain ⟨n, hn⟩ : ∃ n, n = (s.takeWhile (atomB more)).length := ⟨_, rfl⟩
  have hle : n ≤ s.length := by rw [hn]; exact (List.takeWhile_prefix _).length_le
  have HI := Lib.hid (fun (j : Nat) (hj : j < n) (h : j < (str s).size) => show atomI (str more) ((str s)[j].toNat : Int) = true by
    rw [str_at]
    exact tw_in (atomB more) s j (by rw [← hn]; exact hj) _)
  have HO := Lib.hid (fun (h : n < (str s).size) => show atomI (str more) ((str s)[n].toNat : Int) = false by
    subst hn
    rw [str_at]
    exact tw_out (atomB more) s _)
  simp only [wordB] at hw
  split at hw
  · cases hw
  · rename_i hne
    simp only [Option.some.injEq, Prod.mk.injEq] at hw
    obtain ⟨rfl, rfl⟩ := hw
    have hpos : 0 < n := by rw [hn]; exact List.length_pos_iff.2 (fun e => hne (by rw [e]; rfl))
    have HL := Lib.hid (show (str s).extract 0 n = str (s.takeWhile (atomB more)) by rw [str_take, hn, List.prefix_iff_eq_take.1 (List.takeWhile_prefix (atomB more)) |>.symm])
    have HR := Lib.hid (show (str s).extract n s.length = str (s.drop (s.takeWhile (atomB more)).length) by rw [str_drop, hn])
    have zs := str_size s
    rw [← zs] at HR hle hsm
    clear hn hne hlen h
    generalize str (s.drop (s.takeWhile (atomB more)).length) = R' at *
    generalize str (s.takeWhile (atomB more)) = W' at *
    generalize str s = S at *
    generalize str more = M at *
    clear zs
    go_enter Tryz.func26, Tryz.ntmps26
    go_wp2
    go_loop [5] (fun i => ∃ j : Nat, j ≤ n ∧ i = .int .i64 j) (fun i => n - (intOf i).toNat)
    case atStart => exact ⟨0, Nat.zero_le _, rfl⟩
    case round =>
      obtain ⟨j, hj, rfl⟩ := hrel
      by_cases hjw : j < n
      · have hjs : j < S.size := by omega
        have K := Lib.hid (atom21_walk (S[j].toNat : Int) M w)
        rw [HI.out j hjw hjs] at K
        go_wp2_with fail
        refine K.out.mono ?_
        rintro e w' ⟨rfl, rfl⟩
        go_wp2
        go_round
        case rel => exact ⟨j + 1, by omega, by go_num⟩
        case measure => simp [intOf]; omega
      · obtain rfl : j = n := by omega
        by_cases hjs : j < S.size
        · have K := Lib.hid (atom21_walk (S[j].toNat : Int) M w)
          rw [HO.out hjs] at K
          go_wp2_with fail
          refine K.out.mono ?_
          rintro e w' ⟨rfl, rfl⟩
          go_wp2_with fail
          refine (must_walk B _).mono ?_
          rintro e w' ⟨rfl, rfl⟩
          have hl := HL.out
          have hr := HR.out
          go_wp2
          go_ret
          exact ⟨rfl, HP.out, HG.out⟩
        · go_wp2_with fail
          refine (must_walk B _).mono ?_
          rintro e w' ⟨rfl, rfl⟩
          have hl := HL.out
          have hr := HR.out
          go_wp2
          go_ret
          exact ⟨rfl, HP.out, HG.out⟩
set_option maxHeartbeats 1000000 in
set_option maxRecDepth 100000 in
theorem word_no (B : Nat) (more s : Bs) (k : Nat) (hw : wordB more s = none) (w : World) (h : Scn w B s k) :
    Calls Tryz.prog 26 #[scP B, .string (str more)] w fun e w' => e = .panicked [wrongE] ∧ w.grownBy w' (some B) := by
  obtain ⟨c0, c1, f0, f1⟩ := h.cells
  have HG := Lib.hid (grown_refl w (some B))
  have HO := Lib.hid (fun (h : 0 < (str s).size) => show atomI (str more) ((str s)[0].toNat : Int) = false by
    simp only [wordB] at hw
    split at hw
    · rename_i he
      have e0 : s.takeWhile (atomB more) = [] := List.isEmpty_iff.1 he
      have := tw_out (atomB more) s (by rw [e0]; rw [str_size] at h; exact h)
      simp only [e0, List.length_nil] at this
      rw [str_at]
      exact this
    · cases hw)
  have hsm : (str s).size ≤ 1000000 := by rw [str_size]; exact h.small
  clear hw h
  generalize str s = S at *
  generalize str more = M at *
  go_enter Tryz.func26, Tryz.ntmps26
  go_wp2
  refine wp_loop_rounds 1 ?_
  rw [rounds_succ]
  by_cases hjs : 0 < S.size
  · have K := Lib.hid (atom21_walk (S[0].toNat : Int) M w)
    rw [HO.out hjs] at K
    go_wp2_with fail
    refine K.out.mono ?_
    rintro e w' ⟨rfl, rfl⟩
    go_wp2_with fail
    refine (must_no B _).mono ?_
    rintro e w' ⟨rfl, rfl⟩
    exact ⟨rfl, rfl, HG.out⟩
  · have hz : S.size = 0 := by omega
    go_wp2_with fail
    refine (must_no B _).mono ?_
    rintro e w' ⟨rfl, rfl⟩
    exact ⟨rfl, rfl, HG.out⟩
end Go.Proofs.YtgmfhldfdnnafaaGreatDoor
namespace Go.Proofs.YtgmfhldfdnnafaaGreatDoor
open Go.RowKit Go.Shelf
open Pl (idxB Bs splitB)
theorem below_putObj {B : Nat} {w W : World} (h : Below B w W) (l : Nat) (o : Obj) (hl : B ≤ l) (hs : B ≤ W.heap.size) : Below B w (W.putObj l o) := h.grown (grownBy_putObj' W l o) hs (fun k e => by cases e; exact hl)
theorem splitWorld_size (w : World) (x : UInt8) (s : ByteArray) : (splitWorld w x s).heap.size = w.heap.size + 3 := by simp [splitWorld]
theorem splitWorld_stay (w : World) (x : UInt8) (s : ByteArray) : Stay (fun _ => True) w (splitWorld w x s) := (Stay.alloc _ _ _).trans ((Stay.alloc _ _ _).trans (Stay.alloc _ _ _))
theorem splitWorld_below (w : World) (x : UInt8) (s : ByteArray) : Below w.heap.size w (splitWorld w x s) := (((Below.refl _ _).alloc (Nat.le_refl _) _).alloc (by simp) _).alloc (by simp; omega) _
theorem splitWorld_box (w : World) (x : UInt8) (s : ByteArray) : SplitBox (w.heap.size + 1) w.heap.size (w.heap.size + 2) x s (splitWorld w x s) := by
  refine ⟨?_, ?_, ?_⟩
  · have := World.alloc_heap_new (w.alloc (.cells #[.string s] 9)) (.cells #[.string ⟨#[x]⟩] 9)
    rw [World.size_alloc] at this
    exact (Below.heap_alloc _ _ _ (by simp)).trans this
  · exact (Below.heap_alloc _ _ _ (by simp; omega)).trans ((Below.heap_alloc _ _ _ (by simp)).trans (World.alloc_heap_new w _))
  · have := World.alloc_heap_new ((w.alloc (.cells #[.string s] 9)).alloc (.cells #[.string ⟨#[x]⟩] 9)) (.cells #[.int .i64 0] 3)
    rw [World.size_alloc, World.size_alloc] at this
    exact this

theorem own_putObj {w : World} {base : Nat} {e : TypeId} {size n : Nat} {v : Value} {xs : List Value} (h : w.ownsRow base e size v n xs) {l : Nat} (o : Obj) (hl : l < base) : (w.putObj l o).ownsRow base e size v n xs :=
  h.kept (row := some l) (grownBy_putObj' w l o) (by
    cases hb : v.ownBlock with
    | none => exact .inl rfl
    | some k =>
      refine .inr (fun e => ?_)
      have := own_base h k hb
      cases e
      omega)
end Go.Proofs.YtgmfhldfdnnafaaGreatDoor
namespace Go.Proofs.YtgmfhldfdnnafaaGreatDoor
open Go.RowKit
open Pl (Bs digB val val_next val_small numOk numN numN_pos numN_zero num_len num_digit num_zero num_big num_yes endOk endN)
set_option linter.unusedSimpArgs false
set_option linter.unusedVariables false
def endV (l : Bs) (v : Value) : Value := .tuple #[.int .i64 (endN l), if endOk l = true then .nilIface else v]
theorem endV_no {l : Bs} (h : endOk l = false) (v : Value) : endV l v = .tuple #[.int .i64 0, v] := by
  have h1 : (l == [42]) = false := by cases e : (l == [42]) with | false => rfl | true => rw [endOk, e] at h; exact absurd h (by simp)
  have h2 : numOk l = false := by cases e : numOk l with | false => rfl | true => rw [endOk, e] at h; exact absurd h (by simp)
  rw [endV, endN, if_neg (fun e => by rw [e] at h1; exact absurd h1 (by decide)), numN_zero l h2, h]; rfl
theorem endV_yes {l : Bs} (h : endOk l = true) (v : Value) : endV l v = .tuple #[.int .i64 (endN l), .nilIface] := by rw [endV, if_pos h]
set_option maxHeartbeats 1000000 in
theorem end_walk (s : ByteArray) (v : Value) (w : World) (hs : s.size ≤ 140737488351232) (hc : w.cell? ⟨0, 0, none⟩ = some v) (hv : ∃ t x, v = .iface t x) :
    Calls Tryz.prog 131 #[.string s] w fun e w' => e = .returned (endV (bs s) v) ∧ Below w.heap.size w w' := by
  have hn := number_walk s v w hs hc hv
  have HN := Lib.hid hn
  clear hn hc
  cases h42 : (s.toList == [42]) with
  | true =>
    have hb : bs s = [42] := by rw [Lib.toList_data] at h42; simpa using h42
    have HV := Lib.hid (show endV (bs s) v = .tuple #[.int .i64 0, .nilIface] by rw [hb]; rfl)
    clear hb
    go_enter Tryz.func131, Tryz.ntmps131
    go_wp2
    go_ret2
    exact ⟨by rw [HV.out]; rfl, Below.refl _ _⟩
  | false =>
    have hb : ¬ bs s = [42] := fun e => by rw [Lib.toList_data] at h42; rw [show s.data.toList = [42] from e] at h42; exact absurd h42 (by decide)
    have HV := Lib.hid (show endV (bs s) v = numV (bs s) v by
      rw [endV, numV, endN, if_neg hb, endOk, show ((bs s) == [42]) = false by rw [beq_eq_false_iff_ne]; exact hb, Bool.false_or])
    clear hb
    have HW : numV (bs s) v = .tuple #[.int .i64 (numN (bs s)), if numOk (bs s) = true then .nilIface else v] := rfl
    rw [HW] at HN HV
    generalize (if numOk (bs s) = true then Value.nilIface else v) = E at HN HV
    clear HW
    go_enter Tryz.func131, Tryz.ntmps131
    go_wp2_with fail
    refine HN.out.mono ?_
    rintro e w' ⟨rfl, hB⟩
    have HB := Lib.hid hB
    clear hB
    go_wp2
    go_ret2
    exact ⟨by rw [HV.out]; rfl, HB.out⟩
set_option maxHeartbeats 4000000 in
set_option maxRecDepth 100000 in
theorem refNumber_walk (s : ByteArray) (w : World) (hs : s.size ≤ 140737488351232) :
    Calls Tryz.prog 64 #[.string s] w fun e w' => e = .returned (.int .i64 (numN (bs s))) ∧ w = w' := by
  have zl : (bs s).length = s.size := bs_size s
  by_cases z0 : s.size = 0
  · have HV := Lib.hid (numN_zero _ (num_len (bs s) (.inl (by omega))))
    go_enter Tryz.func64, Tryz.ntmps64
    go_wp2
    go_ret
    exact ⟨by rw [HV.out]; rfl, rfl⟩
  · by_cases z1 : 10 < s.size
    · have HV := Lib.hid (numN_zero _ (num_len (bs s) (.inr (by omega))))
      have g1 : (1 : Int) ≤ (s.size : Int) := by omega
      have g2 : (10 : Int) < (s.size : Int) := by omega
      go_enter Tryz.func64, Tryz.ntmps64
      go_wp2
      go_ret
      exact ⟨by rw [HV.out]; rfl, rfl⟩
    · have g1 : (1 : Int) ≤ (s.size : Int) := by omega
      have g2 : (s.size : Int) ≤ 10 := by omega
      have z2 : 0 < s.size := by omega
      have hh := head_bs s z2
      by_cases h48 : (s[0].toNat : Int) = 48
      · have g48 : ((s[0].toNat : Int) == 48) = true := by rw [beq_iff_eq]; exact h48
        have HV := Lib.hid (numN_zero _ (num_zero (bs s) (by rw [hh, (byte_eq s[0] 48 (by decide)).2 h48]; rfl)))
        clear h48 hh
        go_enter Tryz.func64, Tryz.ntmps64
        go_wp2
        go_ret
        exact ⟨by rw [HV.out]; rfl, rfl⟩
      · have g48 : ((s[0].toNat : Int) == 48) = false := by rw [beq_eq_false_iff_ne]; exact h48
        have hh' : ¬ (bs s).head? = some 48 := by
          rw [hh]; intro e
          exact h48 ((byte_eq s[0] 48 (by decide)).1 (Option.some.inj e))
        have HH := Lib.hid hh'
        clear hh hh'
        go_enter Tryz.func64, Tryz.ntmps64
        go_wp2
        go_loop [3, 4] (fun n i => ∃ k : Nat, k ≤ s.size ∧ i = .int .i64 k ∧ n = .int .i64 (val ((bs s).take k)) ∧ Hid (∀ c ∈ (bs s).take k, digB c = true)) (fun _ i => s.size - (intOf i).toNat)
        case atStart => exact ⟨0, Nat.zero_le _, rfl, rfl, Lib.hid (fun c h => by simp at h)⟩
        case round =>
          obtain ⟨k, hk, rfl, rfl, HA⟩ := hrel
          have hN : val ((bs s).take k) ≤ 9999999999 := by
            have h1 := val_small _ HA.out
            have h2 : 10 ^ ((bs s).take k).length ≤ 10 ^ 10 := Nat.pow_le_pow_right (by decide) (by rw [List.length_take]; omega)
            have h3 : (10 : Nat) ^ 10 = 10000000000 := by decide
            omega
          by_cases hlt : k < s.size
          · have hat := at_bs s k hlt
            by_cases hd : digB s[k] = true
            · have hd' := hd
              simp only [digB, Bool.and_eq_true, decide_eq_true_eq] at hd'
              obtain ⟨d1, d2⟩ := hd'
              have hv := val_next (bs s) k (by omega)
              rw [hat] at hv
              have HN := Lib.hid (show ∀ c ∈ (bs s).take (k + 1), digB c = true from fun c hc => by
                rw [List.take_succ_eq_append_getElem (by omega), List.mem_append] at hc
                rcases hc with hc | hc
                · exact HA.out c hc
                · rw [List.mem_singleton.1 hc, hat]; exact hd)
              generalize val ((bs s).take k) = N at *
              have hv' : (val ((bs s).take (k + 1)) : Int) = 10 * (N : Int) + ((s[k].toNat : Int) - 48) := by omega
              have HV := Lib.hid hv'
              clear hv hd hat hv'
              have b1 : (48 : Int) ≤ (s[k].toNat : Int) := by omega
              have b2 : (s[k].toNat : Int) ≤ 57 := by omega
              clear d1 d2 h48 g48
              generalize hC : (s[k].toNat : Int) = C at *
              go_wp2
              go_round
              case rel => exact ⟨k + 1, by omega, by go_num, by rw [HV.out], HN⟩
              case measure => simp [intOf]; omega
            · have HV := Lib.hid (numN_zero _ (num_digit (bs s) k (by omega) (by rw [hat]; simpa using hd)))
              have hd' : s[k].toNat < 48 ∨ 57 < s[k].toNat := by
                simp only [digB, Bool.and_eq_true, decide_eq_true_eq] at hd; omega
              clear hd hat
              have b1 : (s[k].toNat : Int) < 48 ∨ 57 < (s[k].toNat : Int) := by omega
              clear hd' h48 g48
              generalize hC : (s[k].toNat : Int) = C at *
              by_cases b2 : C < 48
              · clear b1
                go_wp2
                go_ret
                exact ⟨by rw [HV.out]; rfl, rfl⟩
              · have b3 : 57 < C := by omega
                have b4 : 48 ≤ C := by omega
                clear b1 b2
                go_wp2
                go_ret
                exact ⟨by rw [HV.out]; rfl, rfl⟩
          · obtain rfl : k = s.size := by omega
            have ht : (bs s).take s.size = bs s := List.take_of_length_le (by omega)
            rw [ht] at hN HA ⊢
            by_cases hbig : 2147483648 < val (bs s)
            · have HV := Lib.hid (numN_zero _ (num_big (bs s) hbig))
              clear ht
              generalize val (bs s) = N at *
              have hb' : (2147483648 : Int) < (N : Int) := by omega
              go_wp2
              go_ret
              exact ⟨by rw [HV.out]; rfl, rfl⟩
            · have ho := num_yes (bs s) (by omega) (by omega) HH.out HA.out (by omega)
              have HV := Lib.hid (show numN (bs s) = val (bs s) by rw [numN, ho]; rfl)
              clear ht ho
              generalize val (bs s) = N at *
              have hb' : (N : Int) ≤ (2147483648 : Int) := by omega
              go_wp2
              go_ret
              exact ⟨by rw [HV.out]; rfl, rfl⟩
end Go.Proofs.YtgmfhldfdnnafaaGreatDoor
namespace Go.Proofs.YtgmfhldfdnnafaaGreatDoor
open Go
theorem list_op {F : Fence} {n : Nat} {P : Program} {ops : Array Oper} {Q : Exit → Act → World → Prop} {i : Nat} {o : Oper} {rest : List Oper} {K : Act → World → Prop} {a : Act} {w : World} (ho : ops[i]? = some o)
    (hk : ∀ a w, wpListIn F n P ops Q rest a w → K a w) (h : wpListIn F n P ops Q (o :: rest) a w) : wpOpIn F n P ops Q i K a w := by
  unfold wpOpIn
  rw [ho]
  unfold wpListIn at h
  show if _ then _ else _
  by_cases hw : Region.wanted o (yielded ops a.tmps) = true
  · rw [if_pos hw] at h ⊢
    exact Oper.wpIn_mono hk h
  · rw [if_neg hw] at h ⊢
    exact ⟨h.1, hk _ _ h.2⟩
theorem wpIn_three {F : Fence} {n : Nat} {P : Program} {id : Nat} {Q : Exit → Act → World → Prop} {a : Act} {w : World} {o0 o1 o2 : Oper} (hm : P.follows .mixedOrders = true)
    (r1 : Region.ready .any #[o0, o1, o2] #[false, false, false] = [0, 1]) (r2 : Region.ready .any #[o0, o1, o2] #[true, false, false] = [1]) (r3 : Region.ready .any #[o0, o1, o2] #[false, true, false] = [0])
    (r4 : Region.ready .any #[o0, o1, o2] #[true, true, false] = [2]) (r5 : Region.ready .any #[o0, o1, o2] #[true, true, true] = [])
    (hx : wpListIn F n P #[o0, o1, o2] Q [o0, o1, o2] a w.drew) (hy : wpListIn F n P #[o0, o1, o2] Q [o1, o0, o2] a w.drew) : (Code.region id #[o0, o1, o2] true).wpIn F n P Q a w := by
  refine wpIn_region_any hm ?_
  have last : ∀ a w, wpListIn F n P #[o0, o1, o2] Q [] a w → wpAnyIn F n P .any #[o0, o1, o2] Q 0 #[true, true, true] a w := fun a w h => ⟨r5, h⟩
  have two : ∀ a w, wpListIn F n P #[o0, o1, o2] Q [o2] a w → wpAnyIn F n P .any #[o0, o1, o2] Q 1 #[true, true, false] a w := fun a w h =>
    wpAnyIn_all r4 (by simp) (fun i hi => by obtain rfl := List.mem_singleton.1 hi; exact list_op rfl last h)
  show wpAnyIn F n P .any #[o0, o1, o2] Q 3 #[false, false, false] a w.drew
  refine wpAnyIn_all r1 (by simp) (fun i hi => ?_)
  rcases List.mem_cons.1 hi with rfl | hi
  · refine list_op rfl (fun a w h => ?_) hx
    exact wpAnyIn_all r2 (by simp) (fun i hi => by obtain rfl := List.mem_singleton.1 hi; exact list_op rfl two h)
  · obtain rfl := List.mem_singleton.1 hi
    refine list_op rfl (fun a w h => ?_) hy
    exact wpAnyIn_all r3 (by simp) (fun i hi => by obtain rfl := List.mem_singleton.1 hi; exact list_op rfl two h)
end Go.Proofs.YtgmfhldfdnnafaaGreatDoor
namespace Go.Proofs.YtgmfhldfdnnafaaGreatDoor
open Go.RowKit Go.Shelf
open Pl (idxB Bs splitB endOk endN fromB toB okItem rangeV items setOk setL set_fails)
attribute [local go_sem] Oper.semAt_some
set_option linter.unusedSimpArgs false
set_option linter.unusedVariables false
/-- the cells of a list of ranges -/
def flat : List (Int × Int) → List Value
  | [] => []
  | r :: rs => .int .i64 r.1 :: .int .i64 r.2 :: flat rs
theorem flat_append (a b : List (Int × Int)) : flat (a ++ b) = flat a ++ flat b := by
  induction a with
  | nil => rfl
  | cons r rs ih => simp [flat, ih]
theorem flat_at : ∀ (xs : List (Int × Int)) (j : Nat), j < xs.length → (flat xs)[j * 2]? = some (.int .i64 (xs.getD j (0, 0)).1) ∧ (flat xs)[j * 2 + 1]? = some (.int .i64 (xs.getD j (0, 0)).2)
  | r :: rs, 0, _ => ⟨rfl, rfl⟩
  | r :: rs, j + 1, h => by
    have := flat_at rs j (by simpa using h)
    rw [show (j + 1) * 2 = j * 2 + 1 + 1 by omega]
    simpa [flat] using this
/-- an owned row of ranges, read as a slice -/
theorem ranges_own {w : World} {base n : Nat} {v : Value} {xs : List (Int × Int)} (hl : xs.length = n) (hn : n ≤ 9223372036854775807) (h : w.ownsRow base 72 2 v n (flat xs)) : ∃ A c, v = .slice A n c ∧ RangesAt w A n xs := by
  rcases h.2 with ⟨rfl, rfl⟩ | ⟨g, cap, cur, rfl, hb, hh, h1, h2, h3, h4⟩
  · exact ⟨none, 0, rfl, hl, hn, fun hp => absurd hp (Nat.lt_irrefl 0)⟩
  · refine ⟨_, _, rfl, hl, hn, fun hp => ⟨g, 0, rfl, (Array.getElem?_eq_some_iff.1 hh).1, fun j hj => ?_⟩⟩
    obtain ⟨e1, e2⟩ := flat_at xs j (by omega)
    have c1 := h.cells (g := g) rfl _ _ e1
    have c2 := h.cells (g := g) rfl _ _ e2
    rw [add_at] at c1 c2
    rw [Nat.zero_add]
    exact ⟨c1, c2⟩
theorem stay_grown {T : Nat → Prop} {W W1 : World} {row : Option Nat} (hg : W.grownBy W1 row) (h : ∀ k, T k → some k ≠ row) : Stay T W W1 := fun k o hk ho => (hg.block k (Array.getElem?_eq_some_iff.1 ho).1 (h k hk)).trans ho
theorem stay_less {T T' : Nat → Prop} {W W1 : World} (h : Stay T W W1) (k : ∀ i, T' i → T i) : Stay T' W W1 := fun i o hi ho => h i o (k i hi) ho
theorem infoRange : (Tryz.prog.info? 72).map (fun i => (i.zero, i.size, i.bytes)) = some (some (.agg #[.int .i64 0, .int .i64 0]), 2, 16) := by kernel_rfl
theorem fromB_cut (p : ByteArray) : fromB (bs p) = bs (cutL 58 p) := (bs_cutL 58 p).symm
theorem toB_yes {p : ByteArray} (h : cutF 58 p = true) : toB (bs p) = bs (cutR 58 p) := by
  rw [cutF, decide_eq_true_iff] at h
  rw [Pl.toB, if_pos h, bs_cutR]
theorem toB_no {p : ByteArray} (h : cutF 58 p = false) : toB (bs p) = bs (cutL 58 p) := by
  rw [cutF, decide_eq_false_iff_not] at h
  rw [Pl.toB, if_neg h, fromB_cut]
theorem size_cutL (x : UInt8) (s : ByteArray) : (cutL x s).size ≤ s.size := by rw [← bs_size, bs_cutL, List.length_take, ← bs_size]; omega
theorem size_cutR (x : UInt8) (s : ByteArray) : (cutR x s).size ≤ s.size := by rw [← bs_size, bs_cutR, List.length_drop, ← bs_size]; omega
theorem all_snoc (q : Bs → Bool) (pre : List Bs) (x : Bs) : (pre ++ [x]).all q = (pre.all q && q x) := by simp
/-- how far Set has come: its items are ranges, its list holds them, and its results' cells lie as they lay -/
structure SetAt (w : World) (v : Value) (pre : List Bs) (W : World) : Prop where
  ok : pre.all okItem = true
  few : pre.length ≤ 50
  r0 : W.heap[w.heap.size]? = some (.cells #[.slice none 0 0] 29 (0, 0))
  r1 : W.heap[w.heap.size + 1]? = some (.cells #[.nilIface] 35 (0, 0))
  own : ∃ u, W.heap[w.heap.size + 1 + 1]? = some (.cells #[u] 29 (0, 0)) ∧ W.ownsRow (w.heap.size + 8) 72 2 u pre.length (flat (pre.map rangeV))
  below : Below w.heap.size w W
structure SetMid (w : World) (v : Value) (pre : List Bs) (u : Value) (W : World) : Prop where
  r0 : W.heap[w.heap.size]? = some (.cells #[.slice none 0 0] 29 (0, 0))
  r1 : W.heap[w.heap.size + 1]? = some (.cells #[.nilIface] 35 (0, 0))
  r2 : W.heap[w.heap.size + 1 + 1]? = some (.cells #[u] 29 (0, 0))
  own : W.ownsRow (w.heap.size + 8) 72 2 u pre.length (flat (pre.map rangeV))
  below : Below w.heap.size w W
  sent : W.cell? ⟨0, 0, none⟩ = some v
theorem SetMid.then {w W W' : World} {v u : Value} {pre : List Bs} (h : SetMid w v pre u W) (hb : Below W.heap.size W W') : SetMid w v pre u W' :=
  ⟨Stay.below (T := fun _ => True) hb _ _ trivial h.r0, Stay.below (T := fun _ => True) hb _ _ trivial h.r1, Stay.below (T := fun _ => True) hb _ _ trivial h.r2, own_below h.own hb, below_then h.below hb, sent_then h.sent hb⟩
def setE (l : Bs) (v : Value) : Value := if setOk l = true then .nilIface else v
structure SetEnd (w : World) (v : Value) (pre : List Bs) (W : World) : Prop where
  bad : (pre.all okItem && decide (pre.length ≤ 50)) = false
  r0 : W.heap[w.heap.size]? = some (.cells #[.slice none 0 0] 29 (0, 0))
  r1 : W.heap[w.heap.size + 1]? = some (.cells #[v] 35 (0, 0))
  below : Below w.heap.size w W
theorem SetAt.cell {w W : World} {v : Value} {pre : List Bs} (h : SetAt w v pre W) {b : Nat} (u : Value) (h1 : w.heap.size + 1 + 1 < b) (h2 : b < w.heap.size + 8) : SetAt w v pre (W.setCell ⟨b, 0, none⟩ u) := by
  obtain ⟨x, hx, ho⟩ := h.own
  exact ⟨h.ok, h.few, setCell_other h.r0 _ (by simp; omega), setCell_other h.r1 _ (by simp; omega), ⟨x, setCell_other hx _ (by simp; omega), ownsRow_setCell_below ho h2 _⟩, h.below.setCell (by simp; omega) _⟩
theorem SetAt.put {w W : World} {v : Value} {pre : List Bs} (h : SetAt w v pre W) {b : Nat} (o : Obj) (h1 : w.heap.size + 1 + 1 < b) (h2 : b < w.heap.size + 8) (hz : w.heap.size ≤ W.heap.size) : SetAt w v pre (W.putObj b o) := by
  obtain ⟨x, hx, ho⟩ := h.own
  exact ⟨h.ok, h.few, (World.putObj_heap_other (by omega)).trans h.r0, (World.putObj_heap_other (by omega)).trans h.r1, ⟨x, (World.putObj_heap_other (by omega)).trans hx, own_putObj ho o h2⟩, below_putObj h.below _ _ (by omega) (by omega)⟩
theorem SetMid.fail {w W : World} {v u : Value} {pre pre' : List Bs} (h : SetMid w v pre u W) (hb : (pre'.all okItem && decide (pre'.length ≤ 50)) = false) :
    SetEnd w v pre' ((W.setCell ⟨w.heap.size, 0, none⟩ (.slice none 0 0)).setCell ⟨w.heap.size + 1, 0, none⟩ v).drew :=
  ⟨hb, setCell_other (one_setCell h.r0) _ (by simp), one_setCell (setCell_other h.r1 _ (by simp)), below_drew ((h.below.setCell (Nat.le_refl _) _).setCell (by simp) _)⟩
theorem own_less {w : World} {base base' : Nat} {e : TypeId} {size n : Nat} {v : Value} {xs : List Value} (h : w.ownsRow base e size v n xs) (hb : base' ≤ base) : w.ownsRow base' e size v n xs := by
  refine ⟨h.1, ?_⟩
  rcases h.2 with h2 | ⟨g, cap, cur, hv, hg, r⟩
  · exact .inl h2
  · exact .inr ⟨g, cap, cur, hv, Nat.le_trans hb hg, r⟩
theorem two_news (W : World) (x y : Value) (t : TypeId) : ∀ (j : Nat) (u : Value), [x, y][j]? = some u → (W.alloc (Obj.cells #[x, y] t)).cell? ((⟨W.heap.size, 0, none⟩ : Addr).add j) = some u := by
  intro j u hu
  obtain ⟨h0, h1, _, _⟩ := two_cells (World.alloc_heap_new W (Obj.cells #[x, y] t))
  rw [add_at]
  match j, hu with
  | 0, hu => rw [h0]; simpa using hu
  | 1, hu => rw [h1]; simpa using hu
theorem SetMid.next {w W3 w4 : World} {v u v' : Value} {pre : List Bs} {x : Bs} {nf nt : Int} (h : SetMid w v pre u W3) (ok : pre.all okItem = true) (few : pre.length < 50) (hx : okItem x = true) (hr : rangeV x = (nf, nt)) (hz : w.heap.size + 8 ≤ W3.heap.size)
    (hown : w4.ownsRow (w.heap.size + 8) 72 2 v' (pre.length + 1) (flat (pre.map rangeV) ++ [.int .i64 nf, .int .i64 nt])) (hg : (W3.alloc (Obj.cells #[.int .i64 nf, .int .i64 nt] 72)).grownBy w4 u.ownBlock) :
    Stay (fun k => k < w.heap.size + 8) W3 w4 ∧ w4.heap[w.heap.size + 1 + 1]? = some (.cells #[u] 29 (0, 0)) ∧ (∃ A c, v' = .slice A (pre.length + 1) c) ∧ SetAt w v (pre ++ [x]) (w4.setCell ⟨w.heap.size + 1 + 1, 0, none⟩ v') := by
  have e1 : flat (pre.map rangeV) ++ [Value.int .i64 nf, .int .i64 nt] = flat ((pre ++ [x]).map rangeV) := by
    rw [List.map_append, flat_append, List.map_singleton, hr]; rfl
  have el : pre.length + 1 = (pre ++ [x]).length := by simp
  rw [e1, el] at hown
  have hst : Stay (fun k => k < w.heap.size + 8) W3 w4 := (Stay.alloc _ _ _).trans (stay_grown hg (fun k hk e => by
    have := own_base h.own k e.symm
    omega))
  have r2 := hst _ _ (show w.heap.size + 1 + 1 < w.heap.size + 8 by omega) h.r2
  obtain ⟨A, c, hv, _⟩ := ranges_own (by simp) (by rw [← el]; omega) hown
  refine ⟨hst, r2, ⟨A, c, by rw [el]; exact hv⟩, ⟨by rw [all_snoc, ok, hx]; rfl, by rw [← el]; omega, setCell_other (hst _ _ (show w.heap.size < w.heap.size + 8 by omega) h.r0) _ (by dsimp only; omega), setCell_other (hst _ _ (show w.heap.size + 1 < w.heap.size + 8 by omega) h.r1) _ (by dsimp only; omega), ⟨v', one_setCell r2, ownsRow_setCell_below hown (by dsimp only; omega) _⟩, ?_⟩⟩
  exact (below_append (h.below.alloc (by omega) _) hg h.own (by omega) (by simp; omega)).setCell (by dsimp only; omega) _
theorem SetEnd.put {w W : World} {v : Value} {pre : List Bs} (h : SetEnd w v pre W) {b : Nat} (o : Obj) (h1 : w.heap.size + 1 + 1 < b) (hz : w.heap.size ≤ W.heap.size) : SetEnd w v pre (W.putObj b o) :=
  ⟨h.bad, (World.putObj_heap_other (by omega)).trans h.r0, (World.putObj_heap_other (by omega)).trans h.r1, below_putObj h.below _ _ (by omega) (by omega)⟩

set_option maxRecDepth 100000 in
set_option maxHeartbeats 8000000 in
theorem set_walk (s : ByteArray) (v : Value) (w : World) (hs : s.size ≤ 140737488351232) (hc : w.cell? ⟨0, 0, none⟩ = some v) (hv : ∃ t x, v = .iface t x) :
    Calls Tryz.prog 102 #[.string s] w fun e w' => ∃ r, e = .returned (.tuple #[r, setE (bs s) v]) ∧ w'.ownsRow w.heap.size 72 2 r (setL (bs s)).length (flat (setL (bs s))) ∧ Below w.heap.size w w' := by
  refine (callsIn_wide (n := 3)).1 ?_
  refine callsIn_of_wp_marks Tryz.func102 rfl trivial ?_ rfl
  simp only [Tryz.ntmps102, List.size_toArray, List.length_cons, List.length_nil, Nat.reduceAdd, Nat.reduceSub, Array.replicate_succ, Array.replicate_zero, List.push_toArray, List.append_toArray, List.nil_append, List.cons_append]
  gi_wp2_with fail
  refine ⟨trivial, ?_⟩
  refine (callsIn_wide.2 (splitSeq_walk _ _ _)).mono ?_
  rintro e w' ⟨rfl, rfl⟩
  gi_wp2_with fail
  obtain ⟨W1, hW1⟩ : ∃ W1, W1 = ((w.alloc (Obj.cells #[.slice none 0 0] 29)).alloc (Obj.cells #[.nilIface] 35)).alloc (Obj.cells #[.slice none 0 0] 29) := ⟨_, rfl⟩
  have z1 : W1.heap.size = w.heap.size + 3 := by rw [hW1]; simp
  have q0 : W1.heap[w.heap.size]? = some (.cells #[.slice none 0 0] 29 (0, 0)) := by
    rw [hW1]; exact (Below.heap_alloc _ _ _ (by simp; omega)).trans ((Below.heap_alloc _ _ _ (by simp)).trans (World.alloc_heap_new w _))
  have q1 : W1.heap[w.heap.size + 1]? = some (.cells #[.nilIface] 35 (0, 0)) := by
    rw [hW1]; have := World.alloc_heap_new (w.alloc (Obj.cells #[.slice none 0 0] 29)) (Obj.cells #[.nilIface] 35); rw [World.size_alloc] at this; exact (Below.heap_alloc _ _ _ (by simp)).trans this
  have q2 : W1.heap[w.heap.size + 1 + 1]? = some (.cells #[.slice none 0 0] 29 (0, 0)) := by
    rw [hW1]; have := World.alloc_heap_new ((w.alloc (Obj.cells #[.slice none 0 0] 29)).alloc (Obj.cells #[.nilIface] 35)) (Obj.cells #[.slice none 0 0] 29); rw [World.size_alloc, World.size_alloc] at this; exact this
  have qB : Below w.heap.size w W1 := by rw [hW1]; exact (((Below.refl _ _).alloc (Nat.le_refl _) _).alloc (by simp) _).alloc (by simp; omega) _
  rw [← hW1]
  clear hW1
  have z0 := splitWorld_size W1 44 s
  have hvC := Lib.hid hv
  have HC := Lib.hid hc
  clear hc hv
  refine wpIn_split 3 (pb := W1.heap.size + 1) (sb := W1.heap.size) (zb := W1.heap.size + 2) (x := 44) (s0 := s) rfl rfl (by omega) (by omega) hs (splitWorld_box W1 44 s)
    (fun pre W => SetAt w v pre W) (fun c pre W => c = .ret ∧ SetEnd w v pre W)
    (fun pre W u h => h.cell u (by omega) (by omega))
    (fun pre W o hz h => h.put o (by omega) (by omega) (by omega))
    (fun c pre W o hz h => ⟨h.1, h.2.put o (by omega) (by omega)⟩)
    (fun o => ⟨rfl, Nat.zero_le _, ((splitWorld_stay W1 44 s).trans ((Stay.alloc _ _ _).trans (Stay.alloc _ _ _))) _ _ trivial q0, ((splitWorld_stay W1 44 s).trans ((Stay.alloc _ _ _).trans (Stay.alloc _ _ _))) _ _ trivial q1, ⟨_, ((splitWorld_stay W1 44 s).trans ((Stay.alloc _ _ _).trans (Stay.alloc _ _ _))) _ _ trivial q2, World.ownsRow_nil _ _ _ _⟩,
      ((qB.trans ((splitWorld_below W1 44 s).mono (by omega))).alloc (by omega) _).alloc (by simp; omega) _⟩)
    (fun p => { tmps := #[.string s, undef, .pointer (some ⟨w.heap.size, 0, none⟩), .pointer (some ⟨w.heap.size + 1, 0, none⟩), .pointer (some ⟨w.heap.size + 1 + 1, 0, none⟩), .string p, undef, undef, undef, undef, undef, undef, undef, .string s, splitFn W1, .string p, undef, undef, undef, undef, undef, undef, undef, undef, undef, undef, undef, undef, undef, undef, undef, undef, undef, undef, undef, undef, undef, undef, undef, undef, undef, undef, undef, undef, undef, undef, undef, undef, undef, undef, undef, undef, undef, undef], defers := [] })
    ?assign ?body ?done ?stop
  case assign =>
    intro l p W K hK
    gi_wp2
    exact hK
  case body =>
    intro l pre p sx W hI hBx hpz hlt
    obtain ⟨u, r2, rO⟩ := hI.own
    have hM : SetMid w v pre u W := ⟨hI.r0, hI.r1, r2, rO, hI.below, sent_then HC.out hI.below⟩
    obtain ⟨A, c, rfl, _⟩ := ranges_own (by simp) (by have := hI.few; omega) rO
    have hfew := hI.few
    have HK := Lib.hid hI.ok
    have HM := Lib.hid hM
    have zp1 := size_cutL 58 p
    have zp2 := size_cutR 58 p
    have hgt : w.heap.size + 8 ≤ W.heap.size := by omega
    have zg : 0 < w.heap.size := World.block_lt_of_cell? w _ HC.out
    obtain ⟨ty, xv, hv⟩ := hvC.out
    subst hv
    clear hI r2 rO hM hBx q0 q1 q2 qB
    obtain ⟨i0, hi, hz0, hz1, hz2⟩ := info_parts infoRange
    gi_wp2_with fail
    refine ⟨trivial, ?_⟩
    refine (CallsIn.inRound l (callsIn_wide.2 (cut_walk p 58 _ (by omega)))).mono ?_
    rintro e w' ⟨rfl, q, rfl⟩
    have hb1 := below_draws (Below.refl W.heap.size W) q
    generalize W.drewN q = Wa at hb1
    have HW1 := Lib.hid hb1
    have HM1 := Lib.hid (HM.out.then hb1)
    clear hb1
    cases hT : cutF 58 p with
    | true =>
      have HT := Lib.hid (toB_yes hT)
      have HF := Lib.hid (fromB_cut p)
      have hlen : (pre ++ [bs p]).length = pre.length + 1 := by simp
      have HL := Lib.hid hlen
      clear hlen
      cases e1 : endOk (fromB (bs p)) with
      | false =>
        have E1 := Lib.hid (show endV (bs (cutL 58 p)) (.iface ty xv) = .tuple #[.int .i64 0, (.iface ty xv)] by rw [← HF.out]; exact endV_no e1 _)
        cases e2 : endOk (toB (bs p)) with
        | false =>
          have E2 := Lib.hid (show endV (bs (cutR 58 p)) (.iface ty xv) = .tuple #[.int .i64 0, (.iface ty xv)] by rw [← HT.out]; exact endV_no e2 _)
          gi_wp2_with fail
          refine ⟨trivial, ?_⟩
          refine (CallsIn.inRound l (callsIn_wide.2 (end_walk (cutL 58 p) (.iface ty xv) _ (by omega) HM1.out.sent ⟨_, _, rfl⟩))).mono ?_
          rintro e W2 ⟨rfl, hb2⟩
          rw [E1.out]
          have HW2 := Lib.hid (below_then HW1.out hb2)
          have HM2 := Lib.hid (HM1.out.then hb2)
          clear hb2
          gi_wp2_with fail
          refine ⟨trivial, ?_⟩
          refine (CallsIn.inRound l (callsIn_wide.2 (end_walk (cutR 58 p) (.iface ty xv) _ (by omega) HM2.out.sent ⟨_, _, rfl⟩))).mono ?_
          rintro e W3 ⟨rfl, hb3⟩
          rw [E2.out]
          have HW3 := Lib.hid (below_then HW2.out hb3)
          have HM3 := Lib.hid (HM2.out.then hb3)
          clear hb3
          have s0 := HM3.out.sent
          have k0 := cell_of_one HM3.out.r0
          have k1 := cell_of_one HM3.out.r1
          have f0 := free_of_one HM3.out.r0
          have f1 := free_of_one HM3.out.r1
          have HBad := Lib.hid (show ((pre ++ [bs p]).all okItem && decide ((pre ++ [bs p]).length ≤ 50)) = false by rw [all_snoc, okItem, e1, e2]; simp)
          gi_wp2
          refine wpIn_three (by kernel_rfl) (by decide +kernel) (by decide +kernel) (by decide +kernel) (by decide +kernel) (by decide +kernel) ?_ ?_
          all_goals
            gi_wp2
            exact ⟨(Stay.below HW3.out).trans ((Stay.setCell _ _ (by unfold splitT; dsimp only; omega)).trans (Stay.setCell _ _ (by unfold splitT; dsimp only; omega))), rfl, HM3.out.fail HBad.out⟩
        | true =>
          have E2 := Lib.hid (show endV (bs (cutR 58 p)) (.iface ty xv) = .tuple #[.int .i64 (endN (toB (bs p))), .nilIface] by rw [← HT.out]; exact endV_yes e2 _)
          gi_wp2_with fail
          refine ⟨trivial, ?_⟩
          refine (CallsIn.inRound l (callsIn_wide.2 (end_walk (cutL 58 p) (.iface ty xv) _ (by omega) HM1.out.sent ⟨_, _, rfl⟩))).mono ?_
          rintro e W2 ⟨rfl, hb2⟩
          rw [E1.out]
          have HW2 := Lib.hid (below_then HW1.out hb2)
          have HM2 := Lib.hid (HM1.out.then hb2)
          clear hb2
          gi_wp2_with fail
          refine ⟨trivial, ?_⟩
          refine (CallsIn.inRound l (callsIn_wide.2 (end_walk (cutR 58 p) (.iface ty xv) _ (by omega) HM2.out.sent ⟨_, _, rfl⟩))).mono ?_
          rintro e W3 ⟨rfl, hb3⟩
          rw [E2.out]
          have HW3 := Lib.hid (below_then HW2.out hb3)
          have HM3 := Lib.hid (HM2.out.then hb3)
          clear hb3
          have s0 := HM3.out.sent
          have k0 := cell_of_one HM3.out.r0
          have k1 := cell_of_one HM3.out.r1
          have f0 := free_of_one HM3.out.r0
          have f1 := free_of_one HM3.out.r1
          have HBad := Lib.hid (show ((pre ++ [bs p]).all okItem && decide ((pre ++ [bs p]).length ≤ 50)) = false by rw [all_snoc, okItem, e1, e2]; simp)
          gi_wp2
          refine wpIn_three (by kernel_rfl) (by decide +kernel) (by decide +kernel) (by decide +kernel) (by decide +kernel) (by decide +kernel) ?_ ?_
          all_goals
            gi_wp2
            exact ⟨(Stay.below HW3.out).trans ((Stay.setCell _ _ (by unfold splitT; dsimp only; omega)).trans (Stay.setCell _ _ (by unfold splitT; dsimp only; omega))), rfl, HM3.out.fail HBad.out⟩
      | true =>
        have E1 := Lib.hid (show endV (bs (cutL 58 p)) (.iface ty xv) = .tuple #[.int .i64 (endN (fromB (bs p))), .nilIface] by rw [← HF.out]; exact endV_yes e1 _)
        cases e2 : endOk (toB (bs p)) with
        | false =>
          have E2 := Lib.hid (show endV (bs (cutR 58 p)) (.iface ty xv) = .tuple #[.int .i64 0, (.iface ty xv)] by rw [← HT.out]; exact endV_no e2 _)
          gi_wp2_with fail
          refine ⟨trivial, ?_⟩
          refine (CallsIn.inRound l (callsIn_wide.2 (end_walk (cutL 58 p) (.iface ty xv) _ (by omega) HM1.out.sent ⟨_, _, rfl⟩))).mono ?_
          rintro e W2 ⟨rfl, hb2⟩
          rw [E1.out]
          have HW2 := Lib.hid (below_then HW1.out hb2)
          have HM2 := Lib.hid (HM1.out.then hb2)
          clear hb2
          gi_wp2_with fail
          refine ⟨trivial, ?_⟩
          refine (CallsIn.inRound l (callsIn_wide.2 (end_walk (cutR 58 p) (.iface ty xv) _ (by omega) HM2.out.sent ⟨_, _, rfl⟩))).mono ?_
          rintro e W3 ⟨rfl, hb3⟩
          rw [E2.out]
          have HW3 := Lib.hid (below_then HW2.out hb3)
          have HM3 := Lib.hid (HM2.out.then hb3)
          clear hb3
          have s0 := HM3.out.sent
          have k0 := cell_of_one HM3.out.r0
          have k1 := cell_of_one HM3.out.r1
          have f0 := free_of_one HM3.out.r0
          have f1 := free_of_one HM3.out.r1
          have HBad := Lib.hid (show ((pre ++ [bs p]).all okItem && decide ((pre ++ [bs p]).length ≤ 50)) = false by rw [all_snoc, okItem, e1, e2]; simp)
          gi_wp2
          refine wpIn_three (by kernel_rfl) (by decide +kernel) (by decide +kernel) (by decide +kernel) (by decide +kernel) (by decide +kernel) ?_ ?_
          all_goals
            gi_wp2
            exact ⟨(Stay.below HW3.out).trans ((Stay.setCell _ _ (by unfold splitT; dsimp only; omega)).trans (Stay.setCell _ _ (by unfold splitT; dsimp only; omega))), rfl, HM3.out.fail HBad.out⟩
        | true =>
          have E2 := Lib.hid (show endV (bs (cutR 58 p)) (.iface ty xv) = .tuple #[.int .i64 (endN (toB (bs p))), .nilIface] by rw [← HT.out]; exact endV_yes e2 _)
          by_cases hn : 50 ≤ pre.length
          · have hn' : (50 : Int) ≤ (pre.length : Int) := by omega
            gi_wp2_with fail
            refine ⟨trivial, ?_⟩
            refine (CallsIn.inRound l (callsIn_wide.2 (end_walk (cutL 58 p) (.iface ty xv) _ (by omega) HM1.out.sent ⟨_, _, rfl⟩))).mono ?_
            rintro e W2 ⟨rfl, hb2⟩
            rw [E1.out]
            have HW2 := Lib.hid (below_then HW1.out hb2)
            have HM2 := Lib.hid (HM1.out.then hb2)
            clear hb2
            gi_wp2_with fail
            refine ⟨trivial, ?_⟩
            refine (CallsIn.inRound l (callsIn_wide.2 (end_walk (cutR 58 p) (.iface ty xv) _ (by omega) HM2.out.sent ⟨_, _, rfl⟩))).mono ?_
            rintro e W3 ⟨rfl, hb3⟩
            rw [E2.out]
            have HW3 := Lib.hid (below_then HW2.out hb3)
            have HM3 := Lib.hid (HM2.out.then hb3)
            clear hb3
            have k2 := cell_of_one HM3.out.r2
            have s0 := HM3.out.sent
            have k0 := cell_of_one HM3.out.r0
            have k1 := cell_of_one HM3.out.r1
            have f0 := free_of_one HM3.out.r0
            have f1 := free_of_one HM3.out.r1
            have HBad := Lib.hid (show ((pre ++ [bs p]).all okItem && decide ((pre ++ [bs p]).length ≤ 50)) = false by rw [HL.out, decide_eq_false (by omega), Bool.and_false])
            gi_wp2
            refine wpIn_three (by kernel_rfl) (by decide +kernel) (by decide +kernel) (by decide +kernel) (by decide +kernel) (by decide +kernel) ?_ ?_
            all_goals
              gi_wp2
              exact ⟨(Stay.below HW3.out).trans ((Stay.setCell _ _ (by unfold splitT; dsimp only; omega)).trans (Stay.setCell _ _ (by unfold splitT; dsimp only; omega))), rfl, HM3.out.fail HBad.out⟩
          · have hn' : (pre.length : Int) < 50 := by omega
            gi_wp2_with fail
            refine ⟨trivial, ?_⟩
            refine (CallsIn.inRound l (callsIn_wide.2 (end_walk (cutL 58 p) (.iface ty xv) _ (by omega) HM1.out.sent ⟨_, _, rfl⟩))).mono ?_
            rintro e W2 ⟨rfl, hb2⟩
            rw [E1.out]
            have HW2 := Lib.hid (below_then HW1.out hb2)
            have HM2 := Lib.hid (HM1.out.then hb2)
            clear hb2
            gi_wp2_with fail
            refine ⟨trivial, ?_⟩
            refine (CallsIn.inRound l (callsIn_wide.2 (end_walk (cutR 58 p) (.iface ty xv) _ (by omega) HM2.out.sent ⟨_, _, rfl⟩))).mono ?_
            rintro e W3 ⟨rfl, hb3⟩
            rw [E2.out]
            have HW3 := Lib.hid (below_then HW2.out hb3)
            have HM3 := Lib.hid (HM2.out.then hb3)
            clear hb3
            have k2 := cell_of_one HM3.out.r2
            have f2 := free_of_one HM3.out.r2
            have HR := Lib.hid (show rangeV (bs p) = ((endN (fromB (bs p)) : Int), (endN (toB (bs p)) : Int)) from rfl)
            have HO := Lib.hid (show okItem (bs p) = true by rw [okItem, e1, e2]; rfl)
            have hz3 : w.heap.size + 8 ≤ W3.heap.size := Nat.le_trans hgt HW3.out.size
            generalize (endN (fromB (bs p)) : Int) = nf at *
            generalize (endN (toB (bs p)) : Int) = nt at *
            gi_wp2_with (gi_at_builtin; refine wpListIn_append_own _ rfl _ _ 29 rfl (w.heap.size + 8) 72 i0 (.agg #[.int .i64 0, .int .i64 0]) 2 16 Tryz.underlying29 hi hz0 hz1 hz2 rfl (by decide) _ _ _ rfl (HM3.out.own.alloc _) ⟨W3.heap.size, 0, none⟩ 1 1 [.int .i64 nf, .int .i64 nt] rfl rfl ?a1 ?a2 ?a3 ?a4 ?a5 ?_)
            case a1 => exact two_news _ _ _ _
            case a2 => simp [Value.oneCell']
            case a3 => unfold maxLen; omega
            case a4 => omega
            case a5 => simp; omega
            intro v' w4 hown' hgrow _
            obtain ⟨st4, r4, ⟨A', c', rfl⟩, hat⟩ := HM3.out.next HK.out (by omega) HO.out HR.out hz3 hown' hgrow
            have k4 := cell_of_one r4
            have f4 := free_of_one r4
            have ST4 := Lib.hid st4
            have HAT := Lib.hid hat
            clear st4 r4 hat hown' hgrow
            gi_wp2
            exact ⟨(Stay.below HW3.out).trans ((stay_less ST4.out (fun i hi => by unfold splitT at hi; omega)).trans (Stay.setCell _ _ (by unfold splitT; dsimp only; omega))), HAT.out⟩
    | false =>
      have HT := Lib.hid (toB_no hT)
      have HF := Lib.hid (fromB_cut p)
      have hlen : (pre ++ [bs p]).length = pre.length + 1 := by simp
      have HL := Lib.hid hlen
      clear hlen
      cases e1 : endOk (fromB (bs p)) with
      | false =>
        have E1 := Lib.hid (show endV (bs (cutL 58 p)) (.iface ty xv) = .tuple #[.int .i64 0, (.iface ty xv)] by rw [← HF.out]; exact endV_no e1 _)
        cases e2 : endOk (toB (bs p)) with
        | false =>
          have E2 := Lib.hid (show endV (bs (cutL 58 p)) (.iface ty xv) = .tuple #[.int .i64 0, (.iface ty xv)] by rw [← HT.out]; exact endV_no e2 _)
          gi_wp2_with fail
          refine ⟨trivial, ?_⟩
          refine (CallsIn.inRound l (callsIn_wide.2 (end_walk (cutL 58 p) (.iface ty xv) _ (by omega) HM1.out.sent ⟨_, _, rfl⟩))).mono ?_
          rintro e W2 ⟨rfl, hb2⟩
          rw [E1.out]
          have HW2 := Lib.hid (below_then HW1.out hb2)
          have HM2 := Lib.hid (HM1.out.then hb2)
          clear hb2
          gi_wp2_with fail
          refine ⟨trivial, ?_⟩
          refine (CallsIn.inRound l (callsIn_wide.2 (end_walk (cutL 58 p) (.iface ty xv) _ (by omega) HM2.out.sent ⟨_, _, rfl⟩))).mono ?_
          rintro e W3 ⟨rfl, hb3⟩
          rw [E2.out]
          have HW3 := Lib.hid (below_then HW2.out hb3)
          have HM3 := Lib.hid (HM2.out.then hb3)
          clear hb3
          have s0 := HM3.out.sent
          have k0 := cell_of_one HM3.out.r0
          have k1 := cell_of_one HM3.out.r1
          have f0 := free_of_one HM3.out.r0
          have f1 := free_of_one HM3.out.r1
          have HBad := Lib.hid (show ((pre ++ [bs p]).all okItem && decide ((pre ++ [bs p]).length ≤ 50)) = false by rw [all_snoc, okItem, e1, e2]; simp)
          gi_wp2
          refine wpIn_three (by kernel_rfl) (by decide +kernel) (by decide +kernel) (by decide +kernel) (by decide +kernel) (by decide +kernel) ?_ ?_
          all_goals
            gi_wp2
            exact ⟨(Stay.below HW3.out).trans ((Stay.setCell _ _ (by unfold splitT; dsimp only; omega)).trans (Stay.setCell _ _ (by unfold splitT; dsimp only; omega))), rfl, HM3.out.fail HBad.out⟩
        | true =>
          have E2 := Lib.hid (show endV (bs (cutL 58 p)) (.iface ty xv) = .tuple #[.int .i64 (endN (toB (bs p))), .nilIface] by rw [← HT.out]; exact endV_yes e2 _)
          gi_wp2_with fail
          refine ⟨trivial, ?_⟩
          refine (CallsIn.inRound l (callsIn_wide.2 (end_walk (cutL 58 p) (.iface ty xv) _ (by omega) HM1.out.sent ⟨_, _, rfl⟩))).mono ?_
          rintro e W2 ⟨rfl, hb2⟩
          rw [E1.out]
          have HW2 := Lib.hid (below_then HW1.out hb2)
          have HM2 := Lib.hid (HM1.out.then hb2)
          clear hb2
          gi_wp2_with fail
          refine ⟨trivial, ?_⟩
          refine (CallsIn.inRound l (callsIn_wide.2 (end_walk (cutL 58 p) (.iface ty xv) _ (by omega) HM2.out.sent ⟨_, _, rfl⟩))).mono ?_
          rintro e W3 ⟨rfl, hb3⟩
          rw [E2.out]
          have HW3 := Lib.hid (below_then HW2.out hb3)
          have HM3 := Lib.hid (HM2.out.then hb3)
          clear hb3
          have s0 := HM3.out.sent
          have k0 := cell_of_one HM3.out.r0
          have k1 := cell_of_one HM3.out.r1
          have f0 := free_of_one HM3.out.r0
          have f1 := free_of_one HM3.out.r1
          have HBad := Lib.hid (show ((pre ++ [bs p]).all okItem && decide ((pre ++ [bs p]).length ≤ 50)) = false by rw [all_snoc, okItem, e1, e2]; simp)
          gi_wp2
          refine wpIn_three (by kernel_rfl) (by decide +kernel) (by decide +kernel) (by decide +kernel) (by decide +kernel) (by decide +kernel) ?_ ?_
          all_goals
            gi_wp2
            exact ⟨(Stay.below HW3.out).trans ((Stay.setCell _ _ (by unfold splitT; dsimp only; omega)).trans (Stay.setCell _ _ (by unfold splitT; dsimp only; omega))), rfl, HM3.out.fail HBad.out⟩
      | true =>
        have E1 := Lib.hid (show endV (bs (cutL 58 p)) (.iface ty xv) = .tuple #[.int .i64 (endN (fromB (bs p))), .nilIface] by rw [← HF.out]; exact endV_yes e1 _)
        cases e2 : endOk (toB (bs p)) with
        | false =>
          have E2 := Lib.hid (show endV (bs (cutL 58 p)) (.iface ty xv) = .tuple #[.int .i64 0, (.iface ty xv)] by rw [← HT.out]; exact endV_no e2 _)
          gi_wp2_with fail
          refine ⟨trivial, ?_⟩
          refine (CallsIn.inRound l (callsIn_wide.2 (end_walk (cutL 58 p) (.iface ty xv) _ (by omega) HM1.out.sent ⟨_, _, rfl⟩))).mono ?_
          rintro e W2 ⟨rfl, hb2⟩
          rw [E1.out]
          have HW2 := Lib.hid (below_then HW1.out hb2)
          have HM2 := Lib.hid (HM1.out.then hb2)
          clear hb2
          gi_wp2_with fail
          refine ⟨trivial, ?_⟩
          refine (CallsIn.inRound l (callsIn_wide.2 (end_walk (cutL 58 p) (.iface ty xv) _ (by omega) HM2.out.sent ⟨_, _, rfl⟩))).mono ?_
          rintro e W3 ⟨rfl, hb3⟩
          rw [E2.out]
          have HW3 := Lib.hid (below_then HW2.out hb3)
          have HM3 := Lib.hid (HM2.out.then hb3)
          clear hb3
          have s0 := HM3.out.sent
          have k0 := cell_of_one HM3.out.r0
          have k1 := cell_of_one HM3.out.r1
          have f0 := free_of_one HM3.out.r0
          have f1 := free_of_one HM3.out.r1
          have HBad := Lib.hid (show ((pre ++ [bs p]).all okItem && decide ((pre ++ [bs p]).length ≤ 50)) = false by rw [all_snoc, okItem, e1, e2]; simp)
          gi_wp2
          refine wpIn_three (by kernel_rfl) (by decide +kernel) (by decide +kernel) (by decide +kernel) (by decide +kernel) (by decide +kernel) ?_ ?_
          all_goals
            gi_wp2
            exact ⟨(Stay.below HW3.out).trans ((Stay.setCell _ _ (by unfold splitT; dsimp only; omega)).trans (Stay.setCell _ _ (by unfold splitT; dsimp only; omega))), rfl, HM3.out.fail HBad.out⟩
        | true =>
          have E2 := Lib.hid (show endV (bs (cutL 58 p)) (.iface ty xv) = .tuple #[.int .i64 (endN (toB (bs p))), .nilIface] by rw [← HT.out]; exact endV_yes e2 _)
          by_cases hn : 50 ≤ pre.length
          · have hn' : (50 : Int) ≤ (pre.length : Int) := by omega
            gi_wp2_with fail
            refine ⟨trivial, ?_⟩
            refine (CallsIn.inRound l (callsIn_wide.2 (end_walk (cutL 58 p) (.iface ty xv) _ (by omega) HM1.out.sent ⟨_, _, rfl⟩))).mono ?_
            rintro e W2 ⟨rfl, hb2⟩
            rw [E1.out]
            have HW2 := Lib.hid (below_then HW1.out hb2)
            have HM2 := Lib.hid (HM1.out.then hb2)
            clear hb2
            gi_wp2_with fail
            refine ⟨trivial, ?_⟩
            refine (CallsIn.inRound l (callsIn_wide.2 (end_walk (cutL 58 p) (.iface ty xv) _ (by omega) HM2.out.sent ⟨_, _, rfl⟩))).mono ?_
            rintro e W3 ⟨rfl, hb3⟩
            rw [E2.out]
            have HW3 := Lib.hid (below_then HW2.out hb3)
            have HM3 := Lib.hid (HM2.out.then hb3)
            clear hb3
            have k2 := cell_of_one HM3.out.r2
            have s0 := HM3.out.sent
            have k0 := cell_of_one HM3.out.r0
            have k1 := cell_of_one HM3.out.r1
            have f0 := free_of_one HM3.out.r0
            have f1 := free_of_one HM3.out.r1
            have HBad := Lib.hid (show ((pre ++ [bs p]).all okItem && decide ((pre ++ [bs p]).length ≤ 50)) = false by rw [HL.out, decide_eq_false (by omega), Bool.and_false])
            gi_wp2
            refine wpIn_three (by kernel_rfl) (by decide +kernel) (by decide +kernel) (by decide +kernel) (by decide +kernel) (by decide +kernel) ?_ ?_
            all_goals
              gi_wp2
              exact ⟨(Stay.below HW3.out).trans ((Stay.setCell _ _ (by unfold splitT; dsimp only; omega)).trans (Stay.setCell _ _ (by unfold splitT; dsimp only; omega))), rfl, HM3.out.fail HBad.out⟩
          · have hn' : (pre.length : Int) < 50 := by omega
            gi_wp2_with fail
            refine ⟨trivial, ?_⟩
            refine (CallsIn.inRound l (callsIn_wide.2 (end_walk (cutL 58 p) (.iface ty xv) _ (by omega) HM1.out.sent ⟨_, _, rfl⟩))).mono ?_
            rintro e W2 ⟨rfl, hb2⟩
            rw [E1.out]
            have HW2 := Lib.hid (below_then HW1.out hb2)
            have HM2 := Lib.hid (HM1.out.then hb2)
            clear hb2
            gi_wp2_with fail
            refine ⟨trivial, ?_⟩
            refine (CallsIn.inRound l (callsIn_wide.2 (end_walk (cutL 58 p) (.iface ty xv) _ (by omega) HM2.out.sent ⟨_, _, rfl⟩))).mono ?_
            rintro e W3 ⟨rfl, hb3⟩
            rw [E2.out]
            have HW3 := Lib.hid (below_then HW2.out hb3)
            have HM3 := Lib.hid (HM2.out.then hb3)
            clear hb3
            have k2 := cell_of_one HM3.out.r2
            have f2 := free_of_one HM3.out.r2
            have HR := Lib.hid (show rangeV (bs p) = ((endN (fromB (bs p)) : Int), (endN (toB (bs p)) : Int)) from rfl)
            have HO := Lib.hid (show okItem (bs p) = true by rw [okItem, e1, e2]; rfl)
            have hz3 : w.heap.size + 8 ≤ W3.heap.size := Nat.le_trans hgt HW3.out.size
            generalize (endN (fromB (bs p)) : Int) = nf at *
            generalize (endN (toB (bs p)) : Int) = nt at *
            gi_wp2_with (gi_at_builtin; refine wpListIn_append_own _ rfl _ _ 29 rfl (w.heap.size + 8) 72 i0 (.agg #[.int .i64 0, .int .i64 0]) 2 16 Tryz.underlying29 hi hz0 hz1 hz2 rfl (by decide) _ _ _ rfl (HM3.out.own.alloc _) ⟨W3.heap.size, 0, none⟩ 1 1 [.int .i64 nf, .int .i64 nt] rfl rfl ?b1 ?b2 ?b3 ?b4 ?b5 ?_)
            case b1 => exact two_news _ _ _ _
            case b2 => simp [Value.oneCell']
            case b3 => unfold maxLen; omega
            case b4 => omega
            case b5 => simp; omega
            intro v' w4 hown' hgrow _
            obtain ⟨st4, r4, ⟨A', c', rfl⟩, hat⟩ := HM3.out.next HK.out (by omega) HO.out HR.out hz3 hown' hgrow
            have k4 := cell_of_one r4
            have f4 := free_of_one r4
            have ST4 := Lib.hid st4
            have HAT := Lib.hid hat
            clear st4 r4 hat hown' hgrow
            gi_wp2
            exact ⟨(Stay.below HW3.out).trans ((stay_less ST4.out (fun i hi => by unfold splitT at hi; omega)).trans (Stay.setCell _ _ (by unfold splitT; dsimp only; omega))), HAT.out⟩
  case done =>
    intro W hI hK
    obtain ⟨u, r2, rO⟩ := hI.own
    have hok : setOk (bs s) = true := by rw [setOk]; show ((splitB 44 (bs s)).all okItem && decide ((splitB 44 (bs s)).length ≤ 50)) = true; rw [hI.ok, decide_eq_true hI.few]; rfl
    have hL : setL (bs s) = (splitB 44 (bs s)).map rangeV := by rw [setL, if_pos hok]; rfl
    have hB := hI.below
    obtain ⟨A, c, hu, _⟩ := ranges_own (by simp) (by have := hI.few; omega) rO
    have r0 := hI.r0
    have r1 := hI.r1
    generalize (splitB 44 (bs s)).map rangeV = xs at rO hL
    have HL := Lib.hid hL
    have HOK := Lib.hid (show setE (bs s) v = .nilIface by rw [setE, if_pos hok])
    have hlx : xs.length = (splitB 44 (bs s)).length := by
      have := rO.1
      have key : ∀ l : List (Int × Int), (flat l).length = l.length * 2 := by
        intro l
        induction l with
        | nil => rfl
        | cons r rs ih => simp only [flat, List.length_cons, ih]; omega
      rw [key] at this; omega
    generalize (splitB 44 (bs s)).length = m at *
    subst hlx
    subst hu
    have k0 := cell_of_one r0
    have k1 := cell_of_one r1
    have k2 := cell_of_one r2
    have f0 := free_of_one r0
    have f1 := free_of_one r1
    have R0 := Lib.hid r0
    have R1 := Lib.hid r1
    have RO := Lib.hid rO
    have HB := Lib.hid hB
    clear r0 r1 r2 rO hB hI q0 q1 q2 qB hok hL
    gi_wp2
    have hK2 : ((W.setCell ⟨w.heap.size, 0, none⟩ (.slice A xs.length c)).setCell ⟨w.heap.size + 1, 0, none⟩ .nilIface).heap[(splitWorld W1 44 s).heap.size]? = some (.deferred (some [])) := setCell_other (setCell_other hK _ (by dsimp only; omega)) _ (by dsimp only; omega)
    have c2 : (((W.setCell ⟨w.heap.size, 0, none⟩ (.slice A xs.length c)).setCell ⟨w.heap.size + 1, 0, none⟩ .nilIface).putObj (splitWorld W1 44 s).heap.size (.deferred none)).cell? ⟨w.heap.size, 0, none⟩ = some (.slice A xs.length c) :=
      cell_of_one ((World.putObj_heap_other (by omega)).trans (setCell_other (one_setCell R0.out) _ (by simp)))
    have c3 : (((W.setCell ⟨w.heap.size, 0, none⟩ (.slice A xs.length c)).setCell ⟨w.heap.size + 1, 0, none⟩ .nilIface).putObj (splitWorld W1 44 s).heap.size (.deferred none)).cell? ⟨w.heap.size + 1, 0, none⟩ = some .nilIface :=
      cell_of_one ((World.putObj_heap_other (by omega)).trans (one_setCell (setCell_other R1.out _ (by simp))))
    refine ⟨by simp, .inl ⟨_, _, rfl, run_takeDeferred hK2, ?_⟩⟩
    refine ⟨.tuple #[.slice A xs.length c, .nilIface], by simp [results, Tryz.results102, go_sem, c2, c3], ?_⟩
    refine ⟨_, by rw [HOK.out], ?_, ?_⟩
    · rw [HL.out]
      exact own_putObj (ownsRow_setCell_below (ownsRow_setCell_below RO.out (by dsimp only; omega) _) (by dsimp only; omega) _) _ (by omega) |> fun h => own_less h (by omega)
    · exact below_putObj ((HB.out.setCell (Nat.le_refl _) _).setCell (by simp) _) _ _ (by omega) (by simp; have := HB.out.size; omega)
  case stop =>
    rintro c pre W hpre ⟨rfl, hE⟩ hK
    have hok : setOk (bs s) = false := set_fails hpre hE.bad
    have hL : setL (bs s) = [] := by rw [setL, hok]; rfl
    have HL := Lib.hid hL
    have HOK := Lib.hid (show setE (bs s) v = v by rw [setE, hok]; rfl)
    clear hL hok
    gi_wp2
    have c2 : (W.putObj (splitWorld W1 44 s).heap.size (.deferred none)).cell? ⟨w.heap.size, 0, none⟩ = some (.slice none 0 0) :=
      cell_of_one ((World.putObj_heap_other (by omega)).trans hE.r0)
    have c3 : (W.putObj (splitWorld W1 44 s).heap.size (.deferred none)).cell? ⟨w.heap.size + 1, 0, none⟩ = some v :=
      cell_of_one ((World.putObj_heap_other (by omega)).trans hE.r1)
    refine ⟨by simp, .inl ⟨_, _, rfl, run_takeDeferred hK, ?_⟩⟩
    refine ⟨.tuple #[.slice none 0 0, v], by simp [results, Tryz.results102, go_sem, c2, c3], ?_⟩
    refine ⟨_, by rw [HOK.out], ?_, below_putObj hE.below _ _ (by omega) (by have := hE.below.size; omega)⟩
    rw [HL.out]
    exact World.ownsRow_nil _ _ _ _
end Go.Proofs.YtgmfhldfdnnafaaGreatDoor
namespace Go.Proofs.YtgmfhldfdnnafaaGreatDoor
open Go.RowKit Go.Shelf
open Pl (Bs)
attribute [local go_sem] Oper.semAt_some
set_option linter.unusedSimpArgs false
set_option linter.unusedVariables false
def smallB (c : UInt8) : UInt8 := if 65 ≤ c.toNat ∧ c.toNat ≤ 90 then c + 32 else c
def encB (c : UInt8) : Value := .int .u8 (c.toNat : Int)
/-- the blocks of '[]byte(s)' lie as they lay -/
def KeepsMarked (W W' : World) : Prop := ∀ (k : Nat) (cs : Array Value) (t : TypeId) (fr : Nat × Nat), fr ≠ (0, 0) → W.heap[k]? = some (.cells cs t fr) → W'.heap[k]? = some (.cells cs t fr)
theorem KeepsMarked.refl (W : World) : KeepsMarked W W := fun _ _ _ _ _ h => h
theorem KeepsMarked.trans {A B C : World} (h : KeepsMarked A B) (k : KeepsMarked B C) : KeepsMarked A C := fun i cs t fr hf ho => k i cs t fr hf (h i cs t fr hf ho)
theorem KeepsMarked.cell {W W' : World} (h : KeepsMarked W W') {k : Nat} {cs : Array Value} {t : TypeId} {fr : Nat × Nat} (hf : fr ≠ (0, 0)) (ho : W.heap[k]? = some (.cells cs t fr)) {j : Nat} {v : Value} (hc : W.cell? ⟨k, j, none⟩ = some v) : W'.cell? ⟨k, j, none⟩ = some v := by
  have e := h k cs t fr hf ho
  rw [← hc]
  exact World.cell?_of_block (w := W) (a := ⟨k, j, none⟩) (e.trans ho.symm)
theorem bytes_mark (w : World) (s : ByteArray) : ∃ (w1 : World) (cap : Nat) (cs : Array Value) (fr : Nat × Nat), (convert 9 46 (.string s)).run Tryz.prog w = .ok (.slice (some ⟨w.heap.size, 0, none⟩) s.size cap) w1 ∧ Below w.heap.size w w1 ∧ w1.heap[w.heap.size]? = some (.cells cs 5 fr) ∧ fr ≠ (0, 0) ∧ (∃ W, w1 = W.alloc (.cells cs 5 fr) ∧ W = w.drew) ∧ ∀ j (hj : j < s.size), w1.cell? ⟨w.heap.size, j, none⟩ = some (.int .u8 (s[j].toNat : Int)) := by
  refine ⟨_, _, _, _, run_bytes_of_string w _ _ 5 s Tryz.underlying9 Tryz.underlying46 Tryz.underlying5, ?_, ?_, ?_, ⟨_, rfl, rfl⟩, ?_⟩
  · exact (below_drew (Below.refl _ _)).alloc (Nat.le_refl _) _
  · exact World.alloc_heap_new w.drew _
  · intro e; simp at e
  · intro j hj
    exact (World.cell?_alloc_mark w.drew _ _ _ j).trans (bytesRow_at s _ j hj)
set_option maxRecDepth 100000 in
set_option maxHeartbeats 1000000 in
theorem small1_in (F : Fence) (n : Nat) (h6 : F.fn 170) (hro : F.round = none) (hn : 1 ≤ n) (l Bn : Nat) (s : ByteArray) (J Jx : List UInt8 → World → Prop) (W : World) (hJ : AbidesFrom W.heap.size J)
    (hY : ∀ pre x W, J pre W → pre.length < s.size → YieldAt F (n - 1) Tryz.prog l #[encB x] W fun e W' =>
      (e = .returned (.bool true) ∧ J (pre ++ [x]) W' ∧ KeepsMarked W W') ∨ (e = .returned (.bool false) ∧ Jx (pre ++ [x]) W'))
    (hBn : W.cell? ⟨Bn, 0, none⟩ = some (.string s)) (hs : s.size ≤ 140737488351232) (h0 : J [] W) :
    CallsIn F n Tryz.prog 170 #[.func (.yield l) #[] #[], .pointer (some ⟨Bn, 0, none⟩)] W fun e W' => (∃ v, e = .returned v) ∧
      ((∃ ys, ys = (bs s).map smallB ∧ J ys W') ∨ (∃ pre, pre <+: (bs s).map smallB ∧ Jx pre W')) := by
  obtain ⟨w1, cap, cs, fr, hcv, hB, hcs, hfr, hw1, hb⟩ := bytes_mark W s
  have hJ1 : J [] w1 := hJ [] W w1 none h0 ⟨hB.os, hB.tape, hB.output, hB.size, fun i hi _ => hB.block i hi⟩ (fun r e => by cases e)
  have zl : ((bs s).map smallB).length = s.size := by rw [List.length_map, bs_size]
  have HY := Lib.hid hY
  have HBY := Lib.hid hb
  have HFR := Lib.hid hfr
  have ZL := Lib.hid zl
  clear hY hb hfr hw1 zl hJ hB
  refine callsIn_of_wp Tryz.func170 rfl h6 ?_ hro
  simp only [Tryz.ntmps170, List.size_toArray, List.length_cons, List.length_nil, Nat.reduceAdd, Nat.reduceSub, Array.replicate_succ, Array.replicate_zero, List.push_toArray, List.append_toArray, List.nil_append, List.cons_append]
  gi_wp2
  gi_loopw [8] (fun i wr => ∃ k : Nat, k ≤ s.size ∧ i = .int .i64 k ∧ Hid (J (((bs s).map smallB).take k) wr) ∧ wr.heap[W.heap.size]? = some (.cells cs 5 fr)) (fun i _ => s.size - (intOf i).toNat)
  case atStart => exact ⟨0, Nat.zero_le _, rfl, Lib.hid hJ1, hcs⟩
  case round =>
    obtain ⟨k, hk, rfl, HJ, hM⟩ := hrel
    by_cases hlt : k < s.size
    · have c0 : wr.cell? ⟨W.heap.size, k, none⟩ = some (.int .u8 (s[k].toNat : Int)) := (World.cell?_of_block (w := w1) (a := ⟨W.heap.size, k, none⟩) (hM.trans hcs.symm)).trans (HBY.out k hlt)
      have hT : ((bs s).map smallB).take (k + 1) = ((bs s).map smallB).take k ++ [smallB s[k]] := by
        rw [List.take_succ_eq_append_getElem (by rw [ZL.out]; exact hlt), List.getElem_map, at_bs s k hlt]
      have HT := Lib.hid hT
      clear hT
      obtain ⟨fn, tmps, assign, body, hy, hR⟩ := HY.out _ (smallB s[k]) wr HJ.out (by rw [List.length_take, ZL.out]; omega)
      by_cases hcap : 65 ≤ s[k].toNat ∧ s[k].toNat ≤ 90
      · obtain ⟨b1, b2⟩ := hcap
        have d1 : (65 : Int) ≤ (s[k].toNat : Int) := by omega
        have d2 : (s[k].toNat : Int) ≤ 90 := by omega
        · skip
          have hx : encB (smallB s[k]) = .int .u8 ((s[k].toNat : Int) + 32) := by rw [encB, smallB, if_pos ⟨b1, b2⟩, UInt8.toNat_add]; congr 1; show (((s[k].toNat + 32) % 256 : Nat) : Int) = _; omega
          rw [hx] at hy
          clear hx
          have HR := Lib.hid hR
          gi_wp2
          refine HR.out.mono ?_
          rintro e W3 (⟨rfl, hJ3, hk3⟩ | ⟨rfl, hJx3⟩)
          · have HJ3 := Lib.hid hJ3
            have HM3 := Lib.hid (hk3 _ _ _ _ HFR.out hM)
            clear hJ3 hk3
            gi_wp2
            go_roundw
            case rel => exact ⟨k + 1, by omega, by go_num, by rw [HT.out]; exact HJ3, HM3.out⟩
            case measure => simp [intOf]; omega
          · gi_wp2
            refine bodyPost_ret (results_none rfl _ _ _) rfl ?_
            exact ⟨⟨_, rfl⟩, .inr ⟨_, by rw [← HT.out]; exact List.take_prefix _ _, hJx3⟩⟩
      · have hc2 : s[k].toNat < 65 ∨ 90 < s[k].toNat := by omega
        · skip
          have d1 : (s[k].toNat : Int) < 65 ∨ 90 < (s[k].toNat : Int) := by omega
          by_cases d2 : (s[k].toNat : Int) < 65
          · have hx : encB (smallB s[k]) = .int .u8 (s[k].toNat : Int) := by rw [encB, smallB, if_neg hcap]
            rw [hx] at hy
            clear hx
            have HR := Lib.hid hR
            gi_wp2
            refine HR.out.mono ?_
            rintro e W3 (⟨rfl, hJ3, hk3⟩ | ⟨rfl, hJx3⟩)
            · have HJ3 := Lib.hid hJ3
              have HM3 := Lib.hid (hk3 _ _ _ _ HFR.out hM)
              clear hJ3 hk3
              gi_wp2
              go_roundw
              case rel => exact ⟨k + 1, by omega, by go_num, by rw [HT.out]; exact HJ3, HM3.out⟩
              case measure => simp [intOf]; omega
            · gi_wp2
              refine bodyPost_ret (results_none rfl _ _ _) rfl ?_
              exact ⟨⟨_, rfl⟩, .inr ⟨_, by rw [← HT.out]; exact List.take_prefix _ _, hJx3⟩⟩
          · have d3 : 90 < (s[k].toNat : Int) := by omega
            have d4 : (65 : Int) ≤ (s[k].toNat : Int) := by omega
            have hx : encB (smallB s[k]) = .int .u8 (s[k].toNat : Int) := by rw [encB, smallB, if_neg hcap]
            rw [hx] at hy
            clear hx
            have HR := Lib.hid hR
            gi_wp2
            refine HR.out.mono ?_
            rintro e W3 (⟨rfl, hJ3, hk3⟩ | ⟨rfl, hJx3⟩)
            · have HJ3 := Lib.hid hJ3
              have HM3 := Lib.hid (hk3 _ _ _ _ HFR.out hM)
              clear hJ3 hk3
              gi_wp2
              go_roundw
              case rel => exact ⟨k + 1, by omega, by go_num, by rw [HT.out]; exact HJ3, HM3.out⟩
              case measure => simp [intOf]; omega
            · gi_wp2
              refine bodyPost_ret (results_none rfl _ _ _) rfl ?_
              exact ⟨⟨_, rfl⟩, .inr ⟨_, by rw [← HT.out]; exact List.take_prefix _ _, hJx3⟩⟩
    · obtain rfl : k = s.size := by omega
      have hT : ((bs s).map smallB).take s.size = (bs s).map smallB := List.take_of_length_le (by rw [ZL.out]; omega)
      rw [hT] at HJ
      gi_wp2
      go_end0
      exact ⟨⟨_, rfl⟩, .inl ⟨_, rfl, HJ.out⟩⟩
end Go.Proofs.YtgmfhldfdnnafaaGreatDoor
namespace Go.Proofs.YtgmfhldfdnnafaaGreatDoor
open Go.RowKit Go.Shelf
open Pl (Bs)
attribute [local go_sem] Oper.semAt_some
set_option linter.unusedSimpArgs false
set_option linter.unusedVariables false
theorem small_stops (F : Fence) (n : Nat) (h6 : F.fn 170) (hro : F.round = none) (hn : 1 ≤ n) (Bn : Nat) (s : ByteArray) (hs : s.size ≤ 140737488351232) (w : World) (hBn : Bn < w.heap.size) (hc : w.cell? ⟨Bn, 0, none⟩ = some (.string s)) :
    SeqStopsK F n Tryz.prog 170 #[.pointer (some ⟨Bn, 0, none⟩)] (fun x : UInt8 => #[encB x]) KeepsMarked (fun ys => ys = (bs s).map smallB) (fun pre => pre <+: (bs s).map smallB) s.size w := fun l J Jx W hW hJ _ hY h0 =>
  small1_in F n h6 hro hn l Bn s J Jx W hJ hY ((hW.cell (p := ⟨Bn, 0, none⟩) hBn).trans hc) hs h0
theorem marked_setCell {W : World} {b : Nat} {v u : Value} {t : TypeId} (h : W.heap[b]? = some (.cells #[v] t (0, 0))) : KeepsMarked W (W.setCell ⟨b, 0, none⟩ u) := fun k cs t' fr hf ho => setCell_other ho _ (fun e => by
  dsimp only at e
  subst e
  rw [h] at ho; cases ho; exact hf rfl)
theorem marked_alloc (W : World) (o : Obj) : KeepsMarked W (W.alloc o) := fun k cs t fr _ ho => (Below.heap_alloc W o k (Array.getElem?_eq_some_iff.1 ho).1).trans ho
theorem marked_grown {W W1 : World} {base n size : Nat} {e : TypeId} {v : Value} {xs : List Value} (h : W.ownsRow base e size v n xs) (hg : W.grownBy W1 v.ownBlock) : KeepsMarked W W1 := fun k cs t fr hf ho =>
  (hg.block k (Array.getElem?_eq_some_iff.1 ho).1 (fun e' => by
    rcases h.2 with ⟨rfl, _⟩ | ⟨g, cap, cur, rfl, _, hgb, _⟩
    · simp [Value.ownBlock] at e'
    · have : k = g := by simpa [Value.ownBlock] using e'
      subst this; rw [hgb] at ho; cases ho; exact hf rfl)).trans ho
theorem marked_put (W : World) (l : Nat) (o o' : Obj) (h : W.heap[l]? = some o) (hc : o.isCells = false) : KeepsMarked W (W.putObj l o') := fun k cs t fr hf ho => (World.putObj_heap_other (fun e => by
  subst e
  rw [h] at ho; cases ho; simp [Obj.isCells] at hc)).trans ho
theorem others_grown {W W1 : World} {base n size : Nat} {e : TypeId} {v : Value} {xs : List Value} (h : W.ownsRow base e size v n xs) (hg : W.grownBy W1 v.ownBlock) : KeepsOthers W W1 :=
  KeepsOthers.of_grownBy hg (fun j o hj ho => by
    rcases h.2 with ⟨rfl, _⟩ | ⟨g, cap, cur, rfl, _, hgb, _⟩
    · simp [Value.ownBlock] at hj
    · have : g = j := by simpa [Value.ownBlock] using hj
      subst this; rw [hgb] at ho; cases ho; rfl)
theorem own_turn {W W1 : World} {base n size : Nat} {e : TypeId} {v : Value} {xs : List Value} {row : Option Nat} (h : W.ownsRow base e size v n xs) (hg : W.grownBy W1 row) (hr : ∀ r, row = some r → ∃ o : Obj, W.heap[r]? = some o ∧ o.isCells = false) : W1.ownsRow base e size v n xs :=
  h.kept hg (by
    rcases h.2 with ⟨rfl, _⟩ | ⟨g, cap, cur, rfl, _, hgb, _⟩
    · exact .inl rfl
    · refine .inr (fun e' => ?_)
      obtain ⟨o, ho, hc⟩ := hr g (by rw [← e']; rfl)
      rw [hgb] at ho; cases ho; simp [Obj.isCells] at hc)
theorem box_turn {W W1 : World} {b : Nat} {cs : Array Value} {t : TypeId} {fr : Nat × Nat} {row : Option Nat} (h : W.heap[b]? = some (.cells cs t fr)) (hg : W.grownBy W1 row) (hr : ∀ r, row = some r → ∃ o : Obj, W.heap[r]? = some o ∧ o.isCells = false) : W1.heap[b]? = some (.cells cs t fr) :=
  (hg.block b (Array.getElem?_eq_some_iff.1 h).1 (fun e => by
    obtain ⟨o, ho, hc⟩ := hr b e.symm
    rw [h] at ho; cases ho; simp [Obj.isCells] at hc)).trans h
theorem own_shape {w : World} {base n size : Nat} {e : TypeId} {v : Value} {xs : List Value} (h : w.ownsRow base e size v n xs) : ∃ A c, v = .slice A n c := by
  rcases h.2 with ⟨rfl, rfl⟩ | ⟨g, cap, cur, rfl, _⟩
  · exact ⟨_, _, rfl⟩
  · exact ⟨_, _, rfl⟩
theorem own_less' {w : World} {base base' : Nat} {e : TypeId} {size n : Nat} {v : Value} {xs : List Value} (h : w.ownsRow base e size v n xs) (hb : base' ≤ base) : w.ownsRow base' e size v n xs := by
  refine ⟨h.1, ?_⟩
  rcases h.2 with h2 | ⟨g, cap, cur, hv, hg, r⟩
  · exact .inl h2
  · exact .inr ⟨g, cap, cur, hv, Nat.le_trans hb hg, r⟩
structure ColAt (w : World) (pre : List UInt8) (W : World) : Prop where
  own : ∃ u, W.heap[w.heap.size]? = some (.cells #[u] 46 (0, 0)) ∧ W.ownsRow (w.heap.size + 1) 5 1 u pre.length (pre.map encB)
  below : Below w.heap.size w W
theorem infoByte : (Tryz.prog.info? 5).map (fun i => (i.zero, i.size, i.bytes)) = some (some (.int .u8 0), 1, 1) := by kernel_rfl
set_option maxRecDepth 100000 in
set_option maxHeartbeats 4000000 in
theorem appendSeq_walk (Bn : Nat) (s : ByteArray) (hs : s.size ≤ 1000000) (w : World) (hBn : Bn < w.heap.size) (hc : w.cell? ⟨Bn, 0, none⟩ = some (.string s)) :
    Calls Tryz.prog 178 #[.slice none 0 0, .func (.func 170) #[] #[.pointer (some ⟨Bn, 0, none⟩)]] w fun e w' => ∃ v, e = .returned v ∧ w'.ownsRow w.heap.size 5 1 v s.size (((bs s).map smallB).map encB) ∧ Below w.heap.size w w' := by
  refine (callsIn_wide (n := 3)).1 ?_
  refine callsIn_of_wp_marks Tryz.func178 rfl trivial ?_ rfl
  simp only [Tryz.ntmps178, List.size_toArray, List.length_cons, List.length_nil, Nat.reduceAdd, Nat.reduceSub, Array.replicate_succ, Array.replicate_zero, List.push_toArray, List.append_toArray, List.nil_append, List.cons_append]
  gi_wp2_with fail
  obtain ⟨W1, hW1⟩ : ∃ W1, W1 = w.alloc (Obj.cells #[.slice none 0 0] 46) := ⟨_, rfl⟩
  have z1 : W1.heap.size = w.heap.size + 1 := by rw [hW1]; simp
  have q0 : W1.heap[w.heap.size]? = some (.cells #[.slice none 0 0] 46 (0, 0)) := by rw [hW1]; exact World.alloc_heap_new w _
  have qB : Below w.heap.size w W1 := by rw [hW1]; exact (Below.refl _ _).alloc (Nat.le_refl _) _
  rw [← hW1]
  clear hW1
  refine wpIn_rangeFunc_ownF (n := 3) (gf := 170) (lb := #[.pointer (some ⟨Bn, 0, none⟩)]) rfl (by decide) rfl trivial (enters_of Tryz.func170 (by kernel_rfl) rfl)
    (small_stops Fence.wide (3 - 1) trivial rfl (by decide) Bn s (by omega) W1 (by omega) ((qB.cell (p := ⟨Bn, 0, none⟩) hBn).trans hc)) KeepsMarked.trans (fun W l o o' _ h hc _ => marked_put W l o o' h hc) (Below.refl _ _) (fun _ => rfl)
    (fun pre W => ColAt w pre W) (fun _ _ _ => False)
    (fun pre A B row h hg hr => by
      obtain ⟨u, hb, ho⟩ := h.own
      have hr' : ∀ r, row = some r → ∃ o : Obj, A.heap[r]? = some o ∧ o.isCells = false := fun r e => (hr r e).2
      exact ⟨⟨u, box_turn hb hg hr', own_turn ho hg hr'⟩, h.below.grown hg h.below.size (fun k e => by have := (hr k e).1; omega)⟩)
    (fun _ _ _ _ _ h _ _ => h)
    ⟨⟨_, q0, World.ownsRow_nil _ _ _ _⟩, qB⟩
    (fun x => { tmps := #[.slice none 0 0, .func (.func 170) #[] #[.pointer (some ⟨Bn, 0, none⟩)], .pointer (some ⟨w.heap.size, 0, none⟩), undef, .slice none 0 0, encB x, .func (.func 170) #[] #[.pointer (some ⟨Bn, 0, none⟩)], encB x, undef, undef, undef, undef, undef], defers := [] })
    ?assign ?body ?done ?stop
  case assign =>
    intro l x W K hK
    gi_wp2
    exact hK
  case body =>
    intro l pre x W hI hlt
    obtain ⟨i0, hi, hz0, hz1, hz2⟩ := info_parts infoByte
    obtain ⟨u, hb, ho⟩ := hI.own
    obtain ⟨A, c, rfl⟩ := own_shape ho
    have k0 := cell_of_one hb
    have f0 := free_of_one hb
    have hz := hI.below.size
    have hgt : w.heap.size + 1 ≤ W.heap.size := (Array.getElem?_eq_some_iff.1 hb).1
    have HB := Lib.hid hb
    have HO := Lib.hid ho
    have HW := Lib.hid hI.below
    clear hb ho hI q0 qB
    have hx : encB x = .int .u8 (x.toNat : Int) := rfl
    gi_wp2_with (gi_at_builtin; refine wpListIn_append_own _ rfl _ _ 46 rfl (w.heap.size + 1) 5 i0 (.int .u8 0) 1 1 Tryz.underlying46 hi hz0 hz1 hz2 rfl (by decide) _ _ _ rfl (HO.out.alloc _) ⟨W.heap.size, 0, none⟩ 1 1 [.int .u8 (x.toNat : Int)] rfl rfl ?c1 ?c2 ?c3 ?c4 ?c5 ?_)
    case c1 => exact cell_one_new W (.int .u8 (x.toNat : Int)) 5
    case c2 => simp [Value.oneCell']
    case c3 => unfold maxLen; omega
    case c4 => omega
    case c5 => simp; omega
    intro v' w4 hown' hgrow _
    obtain ⟨A', c', rfl⟩ := own_shape hown'
    have hoA := HO.out.alloc (.cells #[.int .u8 (x.toNat : Int)] 5)
    have hb4 : w4.heap[w.heap.size]? = some (.cells #[.slice A pre.length c] 46 (0, 0)) := (hgrow.block _ (by simp; omega) (fun e => by have := own_base HO.out _ e.symm; omega)).trans ((Below.heap_alloc _ _ _ (by omega)).trans HB.out)
    have hB4 := below_append (HW.out.alloc hz (.cells #[.int .u8 (x.toNat : Int)] 5)) hgrow hoA (by omega) (by simp; omega)
    have k4 := cell_of_one hb4
    have f4 := free_of_one hb4
    have m4 := (marked_alloc W (.cells #[.int .u8 (x.toNat : Int)] 5)).trans ((marked_grown hoA hgrow).trans (marked_setCell (u := .slice A' (pre.length + 1) c') hb4))
    have o4 := (KeepsOthers.alloc W (.cells #[.int .u8 (x.toNat : Int)] 5)).trans ((others_grown hoA hgrow).trans (KeepsOthers.setCell w4 ⟨w.heap.size, 0, none⟩ (.slice A' (pre.length + 1) c')))
    have hat : ColAt w (pre ++ [x]) (w4.setCell ⟨w.heap.size, 0, none⟩ (.slice A' (pre.length + 1) c')) :=
      ⟨⟨_, one_setCell hb4, by rw [List.length_append, List.map_append]; exact ownsRow_setCell_below hown' (by dsimp only; omega) _⟩, hB4.setCell (Nat.le_refl _) _⟩
    have M4 := Lib.hid m4
    have O4 := Lib.hid o4
    have HAT := Lib.hid hat
    clear m4 o4 hat hB4 hb4 hoA hown' hgrow
    gi_wp2
    exact ⟨O4.out, M4.out, HAT.out⟩
  case done =>
    rintro D ys W hD rfl hI hK
    obtain ⟨u, hb, ho⟩ := hI.own
    obtain ⟨A, c, rfl⟩ := own_shape ho
    have k0 := cell_of_one hb
    have HO := Lib.hid ho
    have HW := Lib.hid hI.below
    clear hb ho hI q0 qB
    gi_wp2
    refine ⟨by simp, .inl ⟨_, _, rfl, run_takeDeferred hK, ?_⟩⟩
    refine ⟨_, results_tmp rfl _ _ _, _, rfl, ?_, ?_⟩
    · have h := own_turn HO.out (grownBy_putObj' W D (.deferred none)) (fun r e => by cases e; exact ⟨_, hK, rfl⟩)
      have hl : ((bs s).map smallB).length = s.size := by rw [List.length_map, bs_size]
      rw [hl] at h
      exact own_less' h (by omega)
    · exact below_putObj HW.out _ _ (by omega) (by have := HW.out.size; omega)
  case stop =>
    rintro D c pre W _ _ h _
    exact h.elim
end Go.Proofs.YtgmfhldfdnnafaaGreatDoor
namespace Go.Proofs.YtgmfhldfdnnafaaGreatDoor
open Go.RowKit Go.Shelf
open Pl (Bs)
set_option linter.unusedSimpArgs false
set_option linter.unusedVariables false
def smallS (s : ByteArray) : ByteArray := ⟨((bs s).map smallB).toArray⟩
theorem bs_small (s : ByteArray) : bs (smallS s) = (bs s).map smallB := by simp [bs, smallS]
theorem own_string {w : World} {base n : Nat} {v : Value} {l : Bs} (hl : l.length = n) (h : w.ownsRow base 5 1 v n (l.map encB)) : (convert 46 9 v).run Tryz.prog w = .ok (.string ⟨l.toArray⟩) w := by
  subst hl
  rcases h.2 with ⟨rfl, h0⟩ | ⟨g, cap, cur, rfl, hb, hh, h1, h2, h3, h4⟩
  · obtain rfl : l = [] := List.eq_nil_of_length_eq_zero h0
    rw [run_convert_bytes_string w _ _ 5 none 0 0 Tryz.underlying46 Tryz.underlying5 Tryz.underlying9]
    first
    | rfl
    | (simp [Conv.bytesToString]; done)
    | (simp [Conv.bytesToString]; rfl)
  · refine run_convert_bytes_back w _ _ 5 _ cap l Tryz.underlying46 Tryz.underlying5 Tryz.underlying9 (fun j hj => ?_)
    exact h.cells (g := g) rfl j (encB l[j]) (by rw [List.getElem?_map, List.getElem?_eq_getElem hj]; rfl)
set_option maxHeartbeats 1000000 in
theorem collect_walk (Bn : Nat) (s : ByteArray) (hs : s.size ≤ 1000000) (w : World) (hBn : Bn < w.heap.size) (hc : w.cell? ⟨Bn, 0, none⟩ = some (.string s)) :
    Calls Tryz.prog 169 #[.func (.func 170) #[] #[.pointer (some ⟨Bn, 0, none⟩)]] w fun e w' => ∃ v, e = .returned v ∧ w'.ownsRow w.heap.size 5 1 v s.size (((bs s).map smallB).map encB) ∧ Below w.heap.size w w' := by
  have HA := Lib.hid (appendSeq_walk Bn s hs w hBn hc)
  clear hc
  go_enter Tryz.func169, Tryz.ntmps169
  go_wp2_with fail
  refine HA.out.mono ?_
  rintro e w' ⟨v, rfl, ho, hB⟩
  have HO := Lib.hid ho
  have HB := Lib.hid hB
  clear ho hB
  go_wp2
  go_ret
  exact ⟨v, rfl, HO.out, HB.out⟩
set_option maxHeartbeats 1000000 in
theorem small_walk (s : ByteArray) (hs : s.size ≤ 1000000) (w : World) :
    Calls Tryz.prog 156 #[.string s] w fun e w' => e = .returned (.string (smallS s)) ∧ Below w.heap.size w w' := by
  generalize h1 : w.alloc (Obj.cells #[.string s] 9) = w1
  have hB1 : Below w.heap.size w w1 := by rw [← h1]; exact (Below.refl _ _).alloc (Nat.le_refl _) _
  have hb : w1.heap[w.heap.size]? = some (.cells #[.string s] 9 (0, 0)) := by rw [← h1]; exact World.alloc_heap_new w _
  have HC := Lib.hid (collect_walk w.heap.size s hs w1 (Array.getElem?_eq_some_iff.1 hb).1 (cell_of_one hb))
  have HB1 := Lib.hid hB1
  clear hB1 hb
  go_enter Tryz.func156, Tryz.ntmps156
  go_wp2_with fail
  try rw [h1]
  refine HC.out.mono ?_
  rintro e w' ⟨v, rfl, ho, hB⟩
  have hcv := own_string (l := (bs s).map smallB) (by rw [List.length_map, bs_size]) ho
  obtain ⟨A, c, rfl⟩ := own_shape ho
  have HB := Lib.hid (below_then HB1.out hB)
  clear ho hB
  have hcv' : (convert 46 9 (.slice A s.size c)).run Tryz.prog w' = .ok (.string (smallS s)) w' := hcv
  clear hcv
  go_wp2
  go_ret
  exact ⟨rfl, HB.out⟩
def sameS (a b : ByteArray) : Bool := decide ((bs a).map smallB = (bs b).map smallB)
set_option maxHeartbeats 1000000 in
theorem sameT_walk (a b : ByteArray) (ha : a.size ≤ 1000000) (hb : b.size ≤ 1000000) (w : World) :
    Calls Tryz.prog 145 #[.string a, .string b] w fun e w' => e = .returned (.bool (sameS a b)) ∧ Below w.heap.size w w' := by
  have hv : ((smallS a).toList == (smallS b).toList) = sameS a b := by
    rw [Lib.toList_data, Lib.toList_data, show (smallS a).data.toList = (bs a).map smallB from bs_small a, show (smallS b).data.toList = (bs b).map smallB from bs_small b]
    rw [Bool.eq_iff_iff, beq_iff_eq, sameS, decide_eq_true_iff]
  have HV := Lib.hid hv
  clear hv
  go_enter Tryz.func145, Tryz.ntmps145
  go_wp2_with fail
  refine (small_walk a ha _).mono ?_
  rintro e w1 ⟨rfl, hB1⟩
  have HB1 := Lib.hid hB1
  clear hB1
  go_wp2_with fail
  refine (small_walk b hb _).mono ?_
  rintro e w2 ⟨rfl, hB2⟩
  have HB2 := Lib.hid (below_then HB1.out hB2)
  clear hB2
  go_wp2
  go_ret
  exact ⟨by rw [← HV.out]; rfl, HB2.out⟩
end Go.Proofs.YtgmfhldfdnnafaaGreatDoor
namespace Go.Proofs.YtgmfhldfdnnafaaGreatDoor
open Go.RowKit
open Pl (Bs)
set_option linter.unusedSimpArgs false
set_option linter.unusedVariables false
def sufF (x : UInt8) (s : ByteArray) : Bool := (bs s).getLast? == some x
def sufL (x : UInt8) (s : ByteArray) : ByteArray := if sufF x s = true then s.extract 0 (s.size - 1) else s
theorem sufF_raw (x : UInt8) (s : ByteArray) (h : 1 ≤ s.size) : ((s.extract (s.size - 1) s.size).toList == [x]) = sufF x s := by
  have e : (s.extract (s.size - 1) s.size).toList = (bs s).drop (s.size - 1) := by
    rw [Lib.toList_data, Lib.extract_data]
    have : s.size = s.data.toList.length := by simp
    simp only [bs]
    rw [List.take_of_length_le (by simp)]
  have hl : (bs s).length = s.size := bs_size s
  rw [e, sufF]
  have h2 : (bs s).drop (s.size - 1) = [(bs s)[s.size - 1]'(by omega)] := by
    rw [List.drop_eq_getElem_cons (by omega), List.drop_eq_nil_of_le (by omega)]
  have h3 : (bs s).getLast? = some ((bs s)[s.size - 1]'(by omega)) := by
    rw [List.getLast?_eq_getElem?, show (bs s).length - 1 = s.size - 1 by omega]
    exact List.getElem?_eq_getElem _
  rw [h2, h3]
  rw [Bool.eq_iff_iff]; simp
theorem sufF_small (x : UInt8) (s : ByteArray) (h : ¬ 1 ≤ s.size) : sufF x s = false := by
  have hl : (bs s).length = 0 := by rw [bs_size]; omega
  rw [sufF, List.eq_nil_of_length_eq_zero hl]; rfl
theorem sufF_pos {x : UInt8} {s : ByteArray} (h : sufF x s = true) : 1 ≤ s.size := by
  by_cases h1 : 1 ≤ s.size
  · exact h1
  · rw [sufF_small x s h1] at h; cases h
theorem bs_sufL (x : UInt8) (s : ByteArray) : bs (sufL x s) = if sufF x s = true then (bs s).dropLast else bs s := by
  unfold sufL
  split
  · unfold bs; rw [Lib.extract_data, List.dropLast_eq_take]; simp
  · rfl
set_option maxHeartbeats 400000 in
set_option maxRecDepth 100000 in
theorem hasSuf_walk (s : ByteArray) (x : UInt8) (w : World) (hs : s.size ≤ 9223372036854775807) :
    Calls Tryz.prog 93 #[.string s, .string ⟨#[x]⟩] w fun e w' => e = .returned (.bool (sufF x s)) ∧ w = w' := by
  have e1 : ((⟨#[x]⟩ : ByteArray).size : Int) = 1 := rfl
  by_cases h : 1 ≤ s.size
  · have e := sufF_raw x s h
    have E := Lib.hid e
    have n1 : ((s.size : Int) - 1).toNat = s.size - 1 := by omega
    clear e
    go_enter Tryz.func93, Tryz.ntmps93
    go_wp2_with fail
    go_ret
    exact ⟨by rw [← E.out]; rfl, rfl⟩
  · rw [sufF_small x s h]
    go_enter Tryz.func93, Tryz.ntmps93
    go_wp2_with fail
    go_ret
    exact ⟨rfl, rfl⟩
set_option maxHeartbeats 400000 in
set_option maxRecDepth 100000 in
theorem cutSufLite_walk (s : ByteArray) (x : UInt8) (w : World) (hs : s.size ≤ 9223372036854775807) :
    Calls Tryz.prog 61 #[.string s, .string ⟨#[x]⟩] w fun e w' => e = .returned (.tuple #[.string (sufL x s), .bool (sufF x s)]) ∧ w = w' := by
  have e1 : ((⟨#[x]⟩ : ByteArray).size : Int) = 1 := rfl
  by_cases h : sufF x s = true
  · have h1 := sufF_pos h
    have er : sufL x s = s.extract 0 (s.size - 1) := by rw [sufL, if_pos h]
    have n1 : ((s.size : Int) - 1).toNat = s.size - 1 := by omega
    rw [er, h]
    have H := Lib.hid h
    clear h er
    go_enter Tryz.func61, Tryz.ntmps61
    go_wp2_with fail
    refine (hasSuf_walk _ _ _ hs).mono ?_
    rintro e w' ⟨rfl, rfl⟩
    rw [H.out]
    go_wp2
    go_ret2
    exact ⟨rfl, rfl⟩
  · have er : sufL x s = s := by rw [sufL, if_neg h]
    have h : sufF x s = false := by simpa using h
    rw [er, h]
    have H := Lib.hid h
    clear h er
    go_enter Tryz.func61, Tryz.ntmps61
    go_wp2_with fail
    refine (hasSuf_walk _ _ _ hs).mono ?_
    rintro e w' ⟨rfl, rfl⟩
    rw [H.out]
    go_wp2
    go_ret2
    exact ⟨rfl, rfl⟩
set_option maxHeartbeats 400000 in
theorem cutSuf_walk (s : ByteArray) (x : UInt8) (w : World) (hs : s.size ≤ 9223372036854775807) :
    Calls Tryz.prog 18 #[.string s, .string ⟨#[x]⟩] w fun e w' => e = .returned (.tuple #[.string (sufL x s), .bool (sufF x s)]) ∧ w = w' := by
  go_enter Tryz.func18, Tryz.ntmps18
  go_wp2_with fail
  refine (cutSufLite_walk _ _ _ hs).mono ?_
  rintro e w' ⟨rfl, rfl⟩
  go_wp2
  go_ret2
  exact ⟨rfl, rfl⟩
end Go.Proofs.YtgmfhldfdnnafaaGreatDoor
namespace Go.Proofs.YtgmfhldfdnnafaaGreatDoor
open Go.RowKit
open Pl (Bs splitB)
/-- the flags' names: \Seen \Answered \Flagged \Deleted \Draft -/
def nameS : Nat → ByteArray
  | 0 => ⟨#[92, 83, 101, 101, 110]⟩
  | 1 => ⟨#[92, 65, 110, 115, 119, 101, 114, 101, 100]⟩
  | 2 => ⟨#[92, 70, 108, 97, 103, 103, 101, 100]⟩
  | 3 => ⟨#[92, 68, 101, 108, 101, 116, 101, 100]⟩
  | _ => ⟨#[92, 68, 114, 97, 102, 116]⟩
def eqw (w : Bs) (i : Nat) : Bool := decide (w.map smallB = (bs (nameS i)).map smallB)
/-- what is known of a word behind the first k names -/
def knownK (w : Bs) : Nat → Int
  | 0 => 0
  | k + 1 => if eqw w k = true then 2 ^ k else knownK w k
theorem names_apart : ∀ i, i < 5 → ∀ j, j < 5 → (bs (nameS i)).map smallB = (bs (nameS j)).map smallB → i = j := by decide +kernel
theorem eqw_one {w : Bs} {i j : Nat} (hi : i < 5) (hj : j < 5) (h1 : eqw w i = true) (h2 : eqw w j = true) : i = j := by
  rw [eqw, decide_eq_true_iff] at h1 h2
  exact names_apart i hi j hj (h1.symm.trans h2)
/-- flags of words: none, if a word is no flag's name -/
def wordsOk (ws : List Bs) : Bool := ws.all fun w => !(knownK w 5 == 0)
def wordsI (ws : List Bs) : Int := ws.foldl (fun f w => bits .or .i64 f (knownK w 5)) 0
theorem wordsI_snoc (ws : List Bs) (w : Bs) : wordsI (ws ++ [w]) = bits .or .i64 (wordsI ws) (knownK w 5) := by rw [wordsI, List.foldl_append]; rfl
end Go.Proofs.YtgmfhldfdnnafaaGreatDoor
namespace Go.Proofs.YtgmfhldfdnnafaaGreatDoor
open Go.RowKit
set_option linter.unusedSimpArgs false
def namesV : Value := .agg #[.string (nameS 0), .string (nameS 1), .string (nameS 2), .string (nameS 3), .string (nameS 4)]
theorem results_cell_one {fn : Func} {p : Tmp} {ty : TypeId} (h : fn.results = #[.cell p ty]) (tmps : Array Value) (P : Program) (w : World) :
    (results fn tmps).run P w = ((asAddr (tmps.getD p undef)).run P w).andThen fun a w₁ => (loadVar ty a).run P w₁ := by
  simp only [results, h]
  simp [Sem.run_bind, Result.andThen]
set_option maxHeartbeats 1000000 in
theorem names_walk (w : World) : Calls Tryz.prog 144 #[] w fun e w' => e = .returned namesV ∧ Below w.heap.size w w' := by
  go_enter Tryz.func144, Tryz.ntmps144
  go_wp2
  refine bodyPost_ret (v := namesV) ?_ rfl ⟨rfl, (Below.refl _ _).alloc (Nat.le_refl _) _⟩
  rw [results_cell_one rfl]
  simp [namesV, nameS, go_sem]
end Go.Proofs.YtgmfhldfdnnafaaGreatDoor
