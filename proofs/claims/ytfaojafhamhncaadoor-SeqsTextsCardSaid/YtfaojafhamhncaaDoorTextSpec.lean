/- What a set's text is, as the program's values have it; the walk of seqs.text. -/
import Derived.Test.YtfaojafhamhncaaDoorPlText
import Derived.Test.YtfaojafhamhncaaDoorSeqJoins
import Derived.Test.YtfaojafhamhncaaDoorDigits
namespace Go.Proofs.YtfaojafhamhncaaDoor
open Go.RowKit
open Pl (Bs endT itemT okN okR textOk textB)
open Go.Lib (decDigits)
set_option linter.unusedSimpArgs false
set_option linter.unusedVariables false
def endS (n : Int) : ByteArray := ⟨(endT n).toArray⟩
def itemS (r : Int × Int) : ByteArray := ⟨(itemT r).toArray⟩
theorem bs_item (r : Int × Int) : (itemS r).data.toList = itemT r := by simp [itemS]
theorem endS_zero : endS 0 = ⟨#[42]⟩ := rfl
theorem endS_more {n : Int} (h : n ≠ 0) : endS n = decS n.toNat := by rw [endS, endT, if_neg h]; rfl
theorem item_same {f t : Int} (h : t = f) : itemS (f, t) = endS f := by rw [itemS, itemT, if_pos h]; rfl
theorem item_both {f t : Int} (h : t ≠ f) : itemS (f, t) = endS f ++ (⟨#[58]⟩ ++ endS t) := by
  rw [itemS, itemT, if_neg h]
  apply ByteArray.ext
  simp [endS, ByteArray.data_append]
theorem endS_size {n : Int} (h : okN n = true) : (endS n).size ≤ 20 := by
  simp only [okN, Bool.and_eq_true, decide_eq_true_eq] at h
  by_cases h0 : n = 0
  · subst h0; decide
  · rw [endS_more h0]; exact decS_size _ (by omega)
theorem itemS_size {r : Int × Int} (h : okR r = true) : (itemS r).size ≤ 41 := by
  rw [okR, Bool.and_eq_true] at h
  have h1 := endS_size h.1
  have h2 := endS_size h.2
  obtain ⟨f, t⟩ := r
  by_cases e : t = f
  · rw [item_same e]; simp only at h1; omega
  · rw [item_both e]
    have e1 : (⟨#[58]⟩ : ByteArray).size = 1 := rfl
    simp only [ByteArray.size_append] at *
    omega
/-- the text behind k items -/
def joinK (xs : List (Int × Int)) (k : Nat) : ByteArray := ⟨(Lib.join ((xs.take k).map itemT) [44]).toArray⟩
theorem join_snoc (l : List Bs) (x : Bs) (sep : Bs) : Lib.join (l ++ [x]) sep = if l = [] then x else Lib.join l sep ++ sep ++ x := by
  cases l with
  | nil => simp [Lib.join_one]
  | cons a r =>
    rw [if_neg (by simp), List.cons_append, Lib.join_cons, Lib.join_cons]
    simp [Lib.joinTail]
theorem joinK_next {xs : List (Int × Int)} {k : Nat} (hk : k < xs.length) : joinK xs (k + 1) = if k = 0 then itemS xs[k] else joinK xs k ++ ⟨#[44]⟩ ++ itemS xs[k] := by
  have e : (xs.take (k + 1)).map itemT = (xs.take k).map itemT ++ [itemT xs[k]] := by rw [List.take_succ_eq_append_getElem hk, List.map_append]; rfl
  rw [joinK, e, join_snoc]
  by_cases h : k = 0
  · subst h; rw [if_pos (by simp), if_pos rfl]; rfl
  · have h1 : ¬ (xs.take k).map itemT = [] := by
      intro hh
      have := congrArg List.length hh
      simp at this
      rcases this with h2 | h2
      · exact h h2
      · rw [h2] at hk; simp at hk
    rw [if_neg h1, if_neg h]
    apply ByteArray.ext
    simp [joinK, itemS, ByteArray.data_append]
theorem joinK_size {xs : List (Int × Int)} : ∀ k, k ≤ xs.length → (xs.take k).all okR = true → (joinK xs k).size ≤ 42 * k := by
  intro k
  induction k with
  | zero => intro _ _; exact Nat.le_of_eq rfl
  | succ k ih =>
    intro hk ha
    have hk' : k < xs.length := hk
    rw [List.take_succ_eq_append_getElem hk', List.all_append, Bool.and_eq_true] at ha
    have h1 := ih (by omega) ha.1
    have h2 := itemS_size (r := xs[k]) (by simpa using ha.2)
    rw [joinK_next hk']
    have e1 : (⟨#[44]⟩ : ByteArray).size = 1 := rfl
    split
    · omega
    · simp only [ByteArray.size_append]; omega
def textS (xs : List (Int × Int)) : ByteArray := if textOk xs = true then ⟨(textB xs).toArray⟩ else ⟨#[]⟩
theorem textS_yes {xs : List (Int × Int)} (h : textOk xs = true) : textS xs = joinK xs xs.length := by
  rw [textS, if_pos h, joinK, List.take_length]; rfl
theorem textS_no {xs : List (Int × Int)} (h : textOk xs = false) : textS xs = ⟨#[]⟩ := by rw [textS, if_neg (by rw [h]; decide)]
theorem text_bad {xs : List (Int × Int)} {k : Nat} (hk : k < xs.length) (h : okR xs[k] = false) : textOk xs = false := by
  cases e : textOk xs with
  | false => rfl
  | true =>
    simp only [textOk, Bool.and_eq_true] at e
    have := List.all_eq_true.1 e.1.1 xs[k] (List.getElem_mem hk)
    rw [h] at this; cases this
theorem text_len {xs : List (Int × Int)} (h : xs.length < 1 ∨ 50 < xs.length) : textOk xs = false := by
  cases e : textOk xs with
  | false => rfl
  | true => simp only [textOk, Bool.and_eq_true, decide_eq_true_eq] at e; omega
theorem text_good {xs : List (Int × Int)} (h : xs.all okR = true) (h1 : 1 ≤ xs.length) (h2 : xs.length ≤ 50) : textOk xs = true := by rw [textOk, h, decide_eq_true h1, decide_eq_true h2]; rfl
theorem okN_of {n : Int} (h0 : 0 ≤ n) (h1 : n ≤ 2147483648) : okN n = true := by rw [okN, decide_eq_true h0, decide_eq_true h1]; rfl
set_option maxHeartbeats 1000000 in
theorem textN_walk (n : Int) (h0 : 0 ≤ n) (h1 : n ≤ 2147483648) (w : World) (ht : TabW w) :
    Calls Tryd.prog 41 #[.int .i64 n] w fun e w' => e = .returned (.string (endS n)) ∧ Below w.heap.size w w' := by
  by_cases h : n = 0
  · subst h
    go_enter Tryd.func41, Tryd.ntmps41
    go_wp2
    go_ret
    exact ⟨rfl, Below.refl _ _⟩
  · have hI := itoa_walk n.toNat (by omega) w ht
    rw [show ((n.toNat : Nat) : Int) = n by omega, ← endS_more h] at hI
    have HI := Lib.hid hI
    clear hI ht
    go_enter Tryd.func41, Tryd.ntmps41
    go_wp2_with fail
    refine HI.out.mono ?_
    rintro e w' ⟨rfl, hB⟩
    have HB := Lib.hid hB
    clear hB
    go_wp2
    go_ret
    exact ⟨rfl, HB.out⟩
theorem cellsSet {W : World} {b : Nat} {cs : Array Value} {t : TypeId} (h : W.heap[b]? = some (Obj.cells cs t)) (i : Nat) (v : Value) :
    (W.setCell ⟨b, i, none⟩ v).heap[b]? = some (Obj.cells (cs.setIfInBounds i v) t) := by
  simp [World.setCell, Array.getElem?_modify, h]
theorem range_laid (w : World) (f t : Int) {w3 w4 : World} (h3 : w.alloc (Obj.cells #[.int .i64 0, .int .i64 0] 28) = w3)
    (h4 : (w3.setCell ⟨w.heap.size, 0, none⟩ (.int .i64 f)).setCell ⟨w.heap.size, 1, none⟩ (.int .i64 t) = w4) : Below w.heap.size w w4 ∧ w4.heap[w.heap.size]? = some (Obj.cells #[.int .i64 f, .int .i64 t] 28) ∧ w3.heap[w.heap.size]? = some (Obj.cells #[.int .i64 0, .int .i64 0] 28) := by
  subst h4
  subst h3
  have hP : (w.alloc (Obj.cells #[.int .i64 0, .int .i64 0] 28)).heap[w.heap.size]? = some (Obj.cells #[.int .i64 0, .int .i64 0] 28) := World.alloc_heap_new w _
  refine ⟨(((Below.refl _ _).alloc (Nat.le_refl _) _).setCell (Nat.le_refl _) _).setCell (Nat.le_refl _) _, ?_, hP⟩
  exact cellsSet (cellsSet hP 0 (.int .i64 f)) 1 (.int .i64 t)
end Go.Proofs.YtfaojafhamhncaaDoor
