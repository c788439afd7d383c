/- A part of the proofs of the statements on chapter 21: walks of functions that they reach, and plain laws. What is proved is stated in the last text. Conditions: none of its own. -/
import Derived.Test.YtgmfhldfdnnafaaGreatDoorMs21
import Derived.Test.YtgmfhldfdnnafaaGreatDoorMs23
import Derived.Deep.RegionHeld3
set_option maxHeartbeats 8000000
set_option maxRecDepth 100000
set_option linter.unusedSimpArgs false
set_option linter.unusedVariables false
namespace Go.Proofs.YtgmfhldfdnnafaaGreatDoor
open Go.RowKit
open Pl (Bs idxB numOk numN setOk setL)
def Nxt {α : Type} (one : Rd α) : Prop := ∀ s k p, one s k = some p → k ≤ p.2.2 ∧ p.2.1.length ≤ s.length
theorem kidsR_nxt {sub : Rd KeyP} (hs : Nxt sub) : ∀ n, Nxt (kidsR sub n)
 | 0, s, k, p, h => by simp [kidsR] at h; subst h; exact ⟨Nat.le_refl _, Nat.le_refl _⟩
 | n + 1, s, k, p, h => by
  unfold kidsR at h
  split at h
  ·
   cases h
  ·
   rename_i s1 h1
   have e1 := isB_len h1
   split at h
   ·
    cases h
   ·
    rename_i x s2 k2 h2
    have e2 := hs _ _ _ h2
    cases hq : kidsR sub n s2 k2 with
    | none => rw [hq] at h; cases h
    | some q =>
     rw [hq] at h
     simp only [Option.map_some, Option.some.injEq] at h
     subst h
     have e3 := kidsR_nxt hs n _ _ _ hq
     simp only [List.length_singleton] at *
     omega
theorem loopR_nxt {α : Type} {one : Rd α} (hs : Nxt one) : ∀ m, Nxt (loopR one m)
 | 0, s, k, p, h => by simp [loopR] at h
 | m + 1, s, k, p, h => by
  unfold loopR at h
  split at h
  ·
   rename_i r h1
   have e1 := isB_len h1
   simp only [Option.some.injEq] at h
   subst h
   simp only [List.length_singleton] at *
   omega
  ·
   split at h
   ·
    cases h
   ·
    rename_i l1 h1
    have e1 := isB_len h1
    split at h
    ·
     cases h
    ·
     rename_i x s2 k2 h2
     have e2 := hs _ _ _ h2
     cases hq : loopR one m s2 k2 with
     | none => rw [hq] at h; cases h
     | some q =>
      rw [hq] at h
      simp only [Option.map_some, Option.some.injEq] at h
      subst h
      have e3 := loopR_nxt hs m _ _ _ hq
      simp only [List.length_singleton] at *
      omega
theorem listR_nxt {α : Type} {one : Rd α} (hs : Nxt one) : Nxt (listR one) := by
 intro s k p h
 unfold listR at h
 split at h
 ·
  cases h
 ·
  rename_i l1 h1
  have e1 := isB_len h1
  split at h
  ·
   cases h
  ·
   rename_i x s2 k2 h2
   have e2 := hs _ _ _ h2
   cases hq : loopR one (s2.length + 1) s2 k2 with
   | none => rw [hq] at h; cases h
   | some q =>
    rw [hq] at h
    simp only [Option.map_some, Option.some.injEq] at h
    subst h
    have e3 := loopR_nxt hs _ _ _ _ hq
    simp only [List.length_singleton] at *
    omega
theorem dayR_len {s : Bs} {p : Int × Bs} (h : dayR s = some p) : p.2.length ≤ s.length := by
 unfold dayR at h
 split at h
 ·
  cases h
 ·
  rename_i s1 h1
  have e1 := isB_len h1
  split at h
  ·
   rename_i s2 h2
   have e2 := isB_len h2
   cases hq : quotedB s2 with
   | none => rw [hq] at h; cases h
   | some q =>
    have e3 := quotedB_len _ _ _ hq
    rw [hq] at h
    cases hd : dayB q.1 with
    | none => simp [hd] at h
    | some n =>
     simp [hd] at h
     subst h
     simp only [List.length_singleton] at *
     omega
  ·
   cases hq : wordB [] s1 with
   | none => rw [hq] at h; cases h
   | some q =>
    have e3 := wordB_len hq
    rw [hq] at h
    cases hd : dayB q.1 with
    | none => simp [hd] at h
    | some n =>
     simp [hd] at h
     subst h
     simp only [List.length_singleton] at *
     omega
theorem numR_len {s : Bs} {p : Int × Bs} (h : numR s = some p) : p.2.length ≤ s.length := by
 unfold numR at h
 split at h
 ·
  cases h
 ·
  rename_i s1 h1
  have e1 := isB_len h1
  split at h
  ·
   cases h
  ·
   rename_i x r8 h2
   have e2 := wordB_len h2
   split at h
   ·
    cases h
   ·
    simp only [Option.some.injEq] at h
    subst h
    simp only [List.length_singleton] at *
    omega
theorem setB_le {s : Bs} {p : List (Int × Int) × Bs} (h : setB s = some p) : p.2.length ≤ s.length := by
 unfold setB at h
 split at h
 ·
  cases h
 ·
  rename_i x r8 h2
  have e2 := wordB_len h2
  split at h
  ·
   simp only [Option.some.injEq] at h
   subst h
   dsimp only
   omega
  ·
   cases h
def flagNs : List Bs := [[65, 76, 76], [65, 78, 83, 87, 69, 82, 69, 68], [68, 69, 76, 69, 84, 69, 68], [68, 82, 65, 70, 84], [70, 76, 65, 71, 71, 69, 68], [83, 69, 69, 78], [85, 78, 65, 78, 83, 87, 69, 82, 69, 68], [85, 78, 68, 69, 76, 69, 84, 69, 68], [85, 78, 68, 82, 65, 70, 84], [85, 78, 70, 76, 65, 71, 71, 69, 68], [85, 78, 83, 69, 69, 78]]
def dayNs : List Bs := [[66, 69, 70, 79, 82, 69], [79, 78], [83, 73, 78, 67, 69], [83, 69, 78, 84, 66, 69, 70, 79, 82, 69], [83, 69, 78, 84, 79, 78], [83, 69, 78, 84, 83, 73, 78, 67, 69]]
def numNs : List Bs := [[76, 65, 82, 71, 69, 82], [83, 77, 65, 76, 76, 69, 82]]
def textNs : List Bs := [[66, 67, 67], [66, 79, 68, 89], [67, 67], [70, 82, 79, 77], [83, 85, 66, 74, 69, 67, 84], [84, 69, 88, 84], [84, 79]]
def keyOf (sub : Rd KeyP) (k : Nat) (N W0 r : Bs) : Option (KeyP × Bs × Nat) :=
 if N ∈ flagNs then some (.mk N [] [] 0 [] [], r, k + 1)
 else if N ∈ dayNs then (dayR r).map fun p => (.mk N [] [] p.1 [] [], p.2, k + 1)
 else if N ∈ numNs then (numR r).map fun p => (.mk N [] [] p.1 [] [], p.2, k + 1)
 else if N ∈ textNs then (textsB 1 r).map fun p => (.mk N (p.1.getD 0 []) [] 0 [] [], p.2, k + 1)
 else if N = [72, 69, 65, 68, 69, 82] then (textsB 2 r).map fun p => (.mk N (p.1.getD 1 []) (p.1.getD 0 []) 0 [] [], p.2, k + 1)
 else if N = [78, 79, 84] then (kidsR sub 1 r (k + 1)).map fun p => (.mk N [] [] 0 [] p.1, p.2)
 else if N = [79, 82] then (kidsR sub 2 r (k + 1)).map fun p => (.mk N [] [] 0 [] p.1, p.2)
 else if N = [85, 73, 68] then (isB [32] r).bind fun r1 => (setB r1).map fun p => (.mk N [] [] 0 p.1 [], p.2, k + 1)
 else if setOk W0 = true then some (.mk [83, 69, 84] [] [] 0 (setL W0) [], r, k + 1) else none
def keyB : Nat → Rd KeyP
 | 0, _, _ => none
 | f + 1, s, k =>
  if 50 < k + 1 ∨ f + 1 + k < 51 then none else
  match isB [40] s with
  | some _ => (listR (keyB f) s (k + 1)).map fun p => (.mk [40] [] [] 0 [] p.1, p.2)
  | none => match wordB [37, 42] s with
   | none => none
   | some (W0, r) => keyOf (keyB f) k (largeL W0) W0 r
theorem keyB_eq {f k : Nat} (s : Bs) (h : ¬ (50 < k + 1 ∨ f + 1 + k < 51)) : keyB (f + 1) s k = match isB [40] s with
  | some _ => (listR (keyB f) s (k + 1)).map fun p => (.mk [40] [] [] 0 [] p.1, p.2)
  | none => match wordB [37, 42] s with
   | none => none
   | some (W0, r) => keyOf (keyB f) k (largeL W0) W0 r := if_neg h
theorem keyB_no {f k : Nat} (s : Bs) (h : 50 < k + 1 ∨ f + 1 + k < 51) : keyB (f + 1) s k = none := if_pos h
theorem map_some_out {α β : Type} {o : Option α} {g : α → β} {y : β} (h : o.map g = some y) : ∃ x, o = some x ∧ g x = y := by
 cases o with
 | none => cases h
 | some x => exact ⟨x, rfl, Option.some.inj h⟩
theorem keyOf_nxt {sub : Rd KeyP} (hs : Nxt sub) {k : Nat} {N W0 r : Bs} {p : KeyP × Bs × Nat} (h : keyOf sub k N W0 r = some p) : k ≤ p.2.2 ∧ p.2.1.length ≤ r.length := by
 unfold keyOf at h
 split at h
 ·
  cases h; exact ⟨Nat.le_succ _, Nat.le_refl _⟩
 split at h
 ·
  obtain ⟨x, h1, rfl⟩ := map_some_out h; exact ⟨Nat.le_succ _, dayR_len h1⟩
 split at h
 ·
  obtain ⟨x, h1, rfl⟩ := map_some_out h; exact ⟨Nat.le_succ _, numR_len h1⟩
 split at h
 ·
  obtain ⟨x, h1, rfl⟩ := map_some_out h; exact ⟨Nat.le_succ _, (textsB_len (x := x.1) (r := x.2) h1).1⟩
 split at h
 ·
  obtain ⟨x, h1, rfl⟩ := map_some_out h; exact ⟨Nat.le_succ _, (textsB_len (x := x.1) (r := x.2) h1).1⟩
 split at h
 ·
  obtain ⟨x, h1, rfl⟩ := map_some_out h; have := kidsR_nxt hs _ _ _ _ h1; exact ⟨by dsimp only; omega, this.2⟩
 split at h
 ·
  obtain ⟨x, h1, rfl⟩ := map_some_out h; have := kidsR_nxt hs _ _ _ _ h1; exact ⟨by dsimp only; omega, this.2⟩
 split at h
 ·
  cases h1 : isB [32] r with
  | none => rw [h1] at h; cases h
  | some r1 =>
   rw [h1] at h
   have e1 := isB_len h1
   obtain ⟨x, h2, rfl⟩ := map_some_out h
   have e2 := setB_le h2
   exact ⟨Nat.le_succ _, by dsimp only; simp only [List.length_singleton] at *; omega⟩
 split at h
 ·
  cases h; exact ⟨Nat.le_succ _, Nat.le_refl _⟩
 ·
  cases h
theorem keyB_nxt : ∀ f, Nxt (keyB f)
 | 0, s, k, p, h => by simp [keyB] at h
 | f + 1, s, k, p, h => by
  by_cases hc : 50 < k + 1 ∨ f + 1 + k < 51
  ·
   rw [keyB_no s hc] at h; cases h
  ·
   rw [keyB_eq s hc] at h
   split at h
   ·
    obtain ⟨x, h1, rfl⟩ := map_some_out h; have := listR_nxt (keyB_nxt f) _ _ _ h1; exact ⟨by dsimp only; omega, this.2⟩
   ·
    split at h
    ·
     cases h
    ·
     rename_i W0 r hw
     have e1 := wordB_len hw
     have e2 := keyOf_nxt (keyB_nxt f) h
     exact ⟨e2.1, by omega⟩
theorem names_all : ∀ x ∈ keyNames, x ∈ flagNs ∨ x ∈ dayNs ∨ x ∈ numNs ∨ x ∈ textNs ∨ x = [72, 69, 65, 68, 69, 82] ∨ x = [78, 79, 84] ∨ x = [79, 82] ∨ x = [85, 73, 68] := by decide
theorem keyB_con (G : Glob) (B : Nat) : ∀ f, KeyCon G B (fun k => 51 ≤ f + k) (keyB f)
 | 0 => fun s k W hv hE hS => by
  have hk : 50 < k + 1 := by
   rcases hv with h | h
   ·
    have : 51 ≤ 0 + k := h
    omega
   ·
    simp [keyB] at h
  exact key_many B k s hk W hS
 | f + 1 => fun s k W hv hE hS => by
  have ih := keyB_con G B f
  have hm := keyB_nxt f
  have hC : ∀ a b : Nat, (fun k => 51 ≤ f + k) a → a ≤ b → (fun k => 51 ≤ f + k) b := fun a b h1 h2 => Nat.le_trans h1 (by omega)
  have hK : 51 ≤ f + 1 + k := by
   rcases hv with h | h
   ·
    exact h
   ·
    by_cases hc : 50 < k + 1 ∨ f + 1 + k < 51
    ·
     rw [keyB_no s hc] at h; cases h
    ·
     omega
  have hK1 : (fun k => 51 ≤ f + k) (k + 1) := by show 51 ≤ f + (k + 1); omega
  by_cases hk : 50 < k + 1
  ·
   rw [keyB_no s (.inl hk)]
   exact key_many B k s hk W hS
  ·
   rw [keyB_eq s (by omega)]
   have hk' : k + 1 ≤ 50 := by omega
   cases hp : isB [40] s with
   | some r0 => exact key_list G B k _ hC (keyB f) ih (fun a b p h => (hm a b p h).1) (fun a b p h => (hm a b p h).2) s r0 hk' hK1 hp W hE hS
   | none =>
    cases hw : wordB [37, 42] s with
    | none => exact key_noword G B k s hk' hp hw W hE hS
    | some q =>
     obtain ⟨W0, r⟩ := q
     simp only
     generalize hnm : largeL W0 = N
     unfold keyOf
     by_cases h1 : N ∈ flagNs
     ·
      rw [if_pos h1]
      exact key_flag G B k s W0 r N hk' hp hw hnm (by simpa [flagNs] using h1) W hE hS
     rw [if_neg h1]
     by_cases h2 : N ∈ dayNs
     ·
      rw [if_pos h2]
      exact key_day G B k s W0 r N hk' hp hw hnm (by simpa [dayNs] using h2) W hE hS
     rw [if_neg h2]
     by_cases h3 : N ∈ numNs
     ·
      rw [if_pos h3]
      have h3' : N = [76, 65, 82, 71, 69, 82] ∨ N = [83, 77, 65, 76, 76, 69, 82] := by simpa [numNs] using h3
      rcases h3' with h | h
      ·
       exact key_larger G B k s W0 r N hk' hp hw hnm h W hE hS
      ·
       exact key_smaller G B k s W0 r N hk' hp hw hnm h W hE hS
     rw [if_neg h3]
     by_cases h4 : N ∈ textNs
     ·
      rw [if_pos h4]
      exact key_text G B k s W0 r N hk' hp hw hnm (by simpa [textNs] using h4) W hE hS
     rw [if_neg h4]
     by_cases h5 : N = [72, 69, 65, 68, 69, 82]
     ·
      rw [if_pos h5]
      exact key_header G B k s W0 r N hk' hp hw hnm h5 W hE hS
     rw [if_neg h5]
     by_cases h6 : N = [78, 79, 84]
     ·
      rw [if_pos h6]
      subst h6
      exact key_not G B k _ hC (keyB f) ih (fun a b p h => (hm a b p h).1) s W0 r hk' (.inl hK1) hp hw hnm W hE hS
     rw [if_neg h6]
     by_cases h7 : N = [79, 82]
     ·
      rw [if_pos h7]
      subst h7
      exact key_or G B k _ hC (keyB f) ih (fun a b p h => (hm a b p h).1) s W0 r hk' (.inl hK1) hp hw hnm W hE hS
     rw [if_neg h7]
     by_cases h8 : N = [85, 73, 68]
     ·
      rw [if_pos h8]
      exact key_uid G B k s W0 r N hk' hp hw hnm h8 W hE hS
     rw [if_neg h8]
     refine key_set G B k s W0 r N hk' hp hw hnm (fun hn => ?_) W hE hS
     rcases names_all N hn with h | h | h | h | h | h | h | h
     ·
      exact h1 h
     ·
      exact h2 h
     ·
      exact h3 h
     ·
      exact h4 h
     ·
      exact h5 h
     ·
      exact h6 h
     ·
      exact h7 h
     ·
      exact h8 h
theorem key_all (G : Glob) (B : Nat) : KeyCon G B (fun _ => True) (keyB 51) := fun s k W _ hE hS => keyB_con G B 51 s k W (.inl (show 51 ≤ 51 + k by omega)) hE hS
open Go.RowKit
open Pl (Bs idxB numOk numN setOk setL)
attribute [local go_sem ↓] Go.wp_at_zero Go.wp_at_succ
def asciiN : Bs := [85, 83, 45, 65, 83, 67, 73, 73]
def utfN : Bs := [85, 84, 70, 45, 56]
def charB (s : Bs) : Option Bs := if 8 ≤ s.length ∧ largeL (s.take 8) = charsetN then (match wordB [] (s.drop 8) with
 | none => none
 | some (x, r) => if largeL x = asciiN ∨ largeL x = utfN then isB [32] r else none) else some s
abbrev consK (x : KeyP) (p : List KeyP × Bs × Nat) : List KeyP × Bs × Nat := (x :: p.1, p.2)
def keysB (sub : Rd KeyP) : Rd (List KeyP) := fun s k => match sub s k with
 | none => none
 | some (x, s2, k2) => (keysLoop sub (s2.length + 1) s2 k2).map (consK x)
def searchB (sub : Rd KeyP) : Rd (List KeyP) := fun s k => match isB [32] s with
 | none => none
 | some s1 => match charB s1 with
  | none => none
  | some s2 => keysB sub s2 k
structure LoF (sub : Rd KeyP) (o : Option (List KeyP × Bs × Nat)) (acc : List KeyP) (s : Bs) (k m : Nat) : Prop where
 room : s.length < m
 few : acc.length + m ≤ 1000002
 spec : o = (keysLoop sub m s k).map fun p => (acc ++ p.1, p.2)
theorem LoF.stop {sub : Rd KeyP} {o : Option (List KeyP × Bs × Nat)} {acc : List KeyP} {s : Bs} {k m : Nat} (h : LoF sub o acc s k m) (h1 : isB [32] s = none) : o = some (acc, s, k) := by
 cases m with
 | zero => exact absurd h.room (Nat.not_lt_zero _)
 | succ m => rw [h.spec, keysLoop, h1]; simp
theorem LoF.bad {sub : Rd KeyP} {o : Option (List KeyP × Bs × Nat)} {acc : List KeyP} {s s1 : Bs} {k m : Nat} (h : LoF sub o acc s k m) (h1 : isB [32] s = some s1) (h2 : sub s1 k = none) : o = none := by
 cases m with
 | zero => exact absurd h.room (Nat.not_lt_zero _)
 | succ m => rw [h.spec, keysLoop, h1]; simp only [h2]; rfl
theorem LoF.next {sub : Rd KeyP} (hlen : ∀ s k p, sub s k = some p → p.2.1.length ≤ s.length) {o : Option (List KeyP × Bs × Nat)} {acc : List KeyP} {s s1 : Bs} {k m : Nat} (h : LoF sub o acc s k m) (h1 : isB [32] s = some s1) {x : KeyP} {s2 : Bs} {k2 : Nat} (hs : sub s1 k = some (x, s2, k2)) : ∃ m2, s2.length < s.length ∧ LoF sub o (acc ++ [x]) s2 k2 m2 := by
 cases m with
 | zero => exact absurd h.room (Nat.not_lt_zero _)
 | succ m =>
  have e1 := isB_len h1
  have e2 := hlen _ _ _ hs
  simp only [List.length_singleton] at e1
  dsimp only at e2
  refine ⟨m, by omega, ⟨by have := h.room; omega, by have := h.few; rw [List.length_append, List.length_singleton]; omega, ?_⟩⟩
  rw [h.spec, keysLoop, h1]
  simp only [hs]
  rw [Option.map_map]
  congr 1
  funext p
  simp
def SrPost (w : World) (B C : Nat) (cs0 : Array Value) (o : Option (List KeyP × Bs × Nat)) (e : Ending) (w' : World) : Prop :=
 match o with
 | none => e = .panicked [wrongE] ∧ R2 B C w w' ∧ CmOk cs0.size C w'
 | some p => e = .returned (.tuple #[]) ∧ SrSt w B C p.1 p.2.1 p.2.2 cs0 w'
theorem SrPost.bad {w w' : World} {B C : Nat} {cs0 : Array Value} {o : Option (List KeyP × Bs × Nat)} (ho : o = none) (hR : R2 B C w w') (hok : CmOk cs0.size C w') : SrPost w B C cs0 o (.panicked [wrongE]) w' := by subst ho; exact ⟨rfl, hR, hok⟩
theorem AkSt.ok {base D i n B n0 : Nat} {u : Value} {acc : List KeyP} {cs : List Value} {T : Nat → Prop} {ds : Array Value} {W W1 : World} (st : AkSt base D i u n acc cs T ds 33 W) (hG : W.grownBy W1 (some B)) (hB : B < base) (hne : B ≠ D) (hn : ds.size = n0) : CmOk n0 D W1 := ⟨ds, (st.step hG hB hne).cmd, hn⟩
theorem SrPost.fin {w w' : World} {B C k : Nat} {cs0 : Array Value} {o : Option (List KeyP × Bs × Nat)} {l : List KeyP} {r : Bs} (ho : o = some (l, r, k)) (h : SrSt w B C l r k cs0 w') : SrPost w B C cs0 o (.returned (.tuple #[])) w' := by subst ho; exact ⟨rfl, h⟩
open Go.RowKit
open Pl (Bs idxB numOk numN setOk setL)
attribute [local go_sem ↓] Go.wp_at_zero Go.wp_at_succ
theorem search_short (G : Glob) (B C k : Nat) (sub : Rd KeyP) (hsub : KeyCon G B (fun _ => True) sub) (hlenS : ∀ s k p, sub s k = some p → p.2.1.length ≤ s.length) (s s1 : Bs) (hb : isB [32] s = some s1) (h8 : ¬ 8 ≤ s1.length) (cs : Array Value) (h11 : cs[11]? = some (.slice none 0 0)) (hne : B ≠ C) (hC20 : 20 ≤ C) (w : World) (hC : w.heap[C]? = some (Obj.cells cs 33)) (hE : EnvI G w B) (h : Scn w B s k) :
  Calls Tryz.prog 78 #[scP B, cmP C] w (SrPost w B C cs (searchB sub s k)) := by
 obtain ⟨i0, hi, hz0, hz1, hz2⟩ := info_parts infoKey2
 have HE := Lib.hid hE
 have HSub := Lib.hid hsub
 have HLs := Lib.hid hlenS
 have hBlt := h.lt
 have hClt := (Array.getElem?_eq_some_iff.1 hC).1
 have hsm := h.small
 have H11 : Hid (11 < cs.size) := Lib.hid (Array.getElem?_eq_some_iff.1 h11).1
 have hAk0 : AkSt w.heap.size C 11 (.slice none 0 0) 0 [] [] (fun _ => False) cs 33 w := ⟨hC, h11, World.ownsRow_nil _ _ _ _, .nil, rfl, fun j hj => hj.elim, hClt, Nat.le_refl _⟩
 have HSn := Lib.hid h
 have HA0 := Lib.hid hAk0
 have K1 := Lib.hid (fun W hW => blank_ok B s s1 k hb W hW)
 have hl1 := isB_len hb
 simp only [List.length_singleton] at hl1
 have hz := str_size s1
 have HT := Lib.hid (show searchB sub s k = keysB sub s1 k by unfold searchB; rw [hb]; dsimp only; rw [charB, if_neg (fun h => h8 h.1)])
 generalize searchB sub s k = oo at *
 obtain ⟨s2, rfl⟩ : ∃ s2, s2 = s1 := ⟨_, rfl⟩
 clear hb h hAk0 hC h11 hE hsub hlenS
 go_enter Tryz.func78, Tryz.ntmps78
 go_wp2_with fail
 refine (K1.out _ HSn.out).mono ?_
 rintro e w1 ⟨rfl, hScn, hG1⟩
 have hAk := HA0.out.step hG1 hBlt hne
 have hR2 : R2 B C w w1 := .of hG1
 obtain ⟨c0, c1, f0, f1⟩ := hScn.cells
 have hl2 : s2.length ≤ 1000000 := by omega
 clear hG1
 go_wp2_with fail
 clear c0 c1 f0 f1
 cases hsK : sub s2 k with
 | none =>
  have HO := Lib.hid (show oo = none by rw [HT.out]; unfold keysB; rw [hsK])
  have hsub1 := hsK
  have hvK : (fun _ : Nat => True) k ∨ (sub s2 k).isSome = true := .inl trivial
  clear hsK
  have HA := Lib.hid hAk
  have HAd := Lib.hid (hAk.step (W1 := w1.drew) (grown_dr2 _ (some B)) hBlt hne)
  have HAz := Lib.hid (fun o => (HA.out.below ((Below.refl w1.heap.size w1).alloc (Nat.le_refl _) o)))
  have KA := Lib.hid (HSub.out s2 k w1.drew hvK (HE.out.kept2 (hR2.trans (.of (grown_dr2 _ _))) hC20) (hScn.draws 1))
  have KB := Lib.hid (HSub.out s2 k (w1.alloc (Obj.cells zeroKeyL.toArray 51)).drew hvK (HE.out.kept2 ((hR2.trans (.of (grown_below ((Below.refl _ _).alloc (Nat.le_refl _) _) _))).trans (.of (grown_dr2 _ _))) hC20) ((hScn.then ((Below.refl _ _).alloc (Nat.le_refl _) _)).draws 1))
  rw [hsub1] at KA KB
  have HR2 := Lib.hid hR2
  obtain ⟨l0, l1⟩ := HAd.out.cell
  have l2 := (fun o => (HAz.out o).cell.1)
  have l3 := (fun o => (HAz.out o).cell.2)
  clear hAk hR2 hScn hsub1 hvK
  refine wp_region_held_drew (S := fun W => W.cell? ⟨C, 11, none⟩ = some (.slice none 0 0)) (by kernel_rfl) l0 (fun hHeld => ?_)
  refine wpAnyH_take (i := 0) rfl (by kernel_rfl) (by kernel_rfl) (by kernel_rfl) (fun _ _ _ h => h) (.inl ⟨by rfl, by intro _ h; (try dsimp only at h); go_simp; try with_reducible rfl⟩) hHeld ?_
  try simp only [Act.put, t0, t1, t2, t3, t4, t5]
  refine wpAnyH_take (i := 1) rfl (by kernel_rfl) (by kernel_rfl) (by kernel_rfl) (fun _ _ _ h => h) (.inl ⟨by rfl, by intro _ h; (try dsimp only at h); go_simp; try with_reducible rfl⟩) hHeld ?_
  try simp only [Act.put, t0, t1, t2, t3, t4, t5]
  refine wpAnyH_take (i := 2) rfl (by kernel_rfl) (by kernel_rfl) (by kernel_rfl) (fun _ _ _ h => h) (.inl ⟨by rfl, by intro _ h; (try dsimp only at h); go_simp; try with_reducible rfl⟩) hHeld ?_
  try simp only [Act.put, t0, t1, t2, t3, t4, t5]
  refine wpAnyH_take (i := 3) rfl (by kernel_rfl) (by kernel_rfl) (by kernel_rfl) (fun _ _ _ h => h) (.inl ⟨by rfl, by intro _ h; (try dsimp only at h); go_simp; try with_reducible rfl⟩) hHeld ?_
  try simp only [Act.put, t0, t1, t2, t3, t4, t5]
  refine wpAnyH_take (i := 4) rfl (by kernel_rfl) (by kernel_rfl) (by kernel_rfl) (fun _ _ _ h => h) (.inl ⟨by rfl, by intro _ h; (try dsimp only at h); go_simp; try with_reducible rfl⟩) hHeld ?_
  try simp only [Act.put, t0, t1, t2, t3, t4, t5]
  refine wpAnyH_take (i := 6) rfl (by kernel_rfl) (by kernel_rfl) (by kernel_rfl) (fun _ _ _ h => h) (.inl ⟨by rfl, by intro _ h; (try dsimp only at h); go_simp; try with_reducible rfl⟩) hHeld ?_
  try simp only [Act.put, t0, t1, t2, t3, t4, t5]
  refine wpAnyH_ready (rs := [5, 7]) (by kernel_rfl) (by simp) ?_
  refine AllReadyH.cons rfl (fun K9 hK9 => ?_) ?_
  ·
   go_simp
   refine KA.out.mono ?_
   rintro e w5 ⟨hG5, rfl⟩
   exact ⟨rfl, .bad HO.out ((HR2.out.trans (.of (grown_dr2 _ _))).trans (.of hG5)) (AkSt.ok (HA.out) ((grown_dr2 _ _).trans hG5) hBlt hne rfl)⟩
  refine AllReadyH.cons rfl (fun K9 hK9 => ?_) ?_
  ·
   go_simp
   refine hK9.out _ _ (l2 _) (fun hHeld => ?_)
   clear hK9 K9
   try simp only [Act.put, t0, t1, t2, t3, t4, t5]
   refine wpAnyH_ready (rs := [5]) (by kernel_rfl) (by simp) ?_
   refine AllReadyH.cons rfl (fun K9 hK9 => ?_) ?_
   ·
    go_simp
    refine KB.out.mono ?_
    rintro e w5 ⟨hG5, rfl⟩
    exact ⟨rfl, .bad HO.out ((HR2.out.trans (R2.of (grown_below ((Below.refl _ _).alloc (Nat.le_refl _) _) _))).trans (.of ((grown_dr2 _ _).trans hG5))) (AkSt.ok (HA.out.below ((Below.refl _ _).alloc (Nat.le_refl _) _)) ((grown_dr2 _ _).trans hG5) hBlt hne rfl)⟩
   exact AllReadyH.nil
  exact AllReadyH.nil
 | some p =>
  obtain ⟨x, s3, k3⟩ := p
  have hl3 := HLs.out _ _ _ hsK
  dsimp only at hl3
  have HLo : Hid (LoF sub oo [x] s3 k3 (s3.length + 1)) := Lib.hid ⟨Nat.lt_succ_self _, by simp; omega, by rw [HT.out]; unfold keysB; rw [hsK]; rfl⟩
  have hsub1 := hsK
  have hvK : (fun _ : Nat => True) k ∨ (sub s2 k).isSome = true := .inl trivial
  clear hsK
  have HA := Lib.hid hAk
  have HAd := Lib.hid (hAk.step (W1 := w1.drew) (grown_dr2 _ (some B)) hBlt hne)
  have HAz := Lib.hid (fun o => (HA.out.below ((Below.refl w1.heap.size w1).alloc (Nat.le_refl _) o)))
  have KA := Lib.hid (HSub.out s2 k w1.drew hvK (HE.out.kept2 (hR2.trans (.of (grown_dr2 _ _))) hC20) (hScn.draws 1))
  have KB := Lib.hid (HSub.out s2 k (w1.alloc (Obj.cells zeroKeyL.toArray 51)).drew hvK (HE.out.kept2 ((hR2.trans (.of (grown_below ((Below.refl _ _).alloc (Nat.le_refl _) _) _))).trans (.of (grown_dr2 _ _))) hC20) ((hScn.then ((Below.refl _ _).alloc (Nat.le_refl _) _)).draws 1))
  rw [hsub1] at KA KB
  have HR2 := Lib.hid hR2
  have hacc := HLo.out.few
  obtain ⟨l0, l1⟩ := HAd.out.cell
  have l2 := (fun o => (HAz.out o).cell.1)
  have l3 := (fun o => (HAz.out o).cell.2)
  clear hAk hR2 hScn hsub1 hvK
  go_cut [] from 43 to 54 (fun wx => Hid (SrSt w B C [x] s3 k3 cs wx))
  case first =>
   go_region_law (first
     | (go_simp; go_at_call 106; first
       | (refine KA.out.mono ?_; rintro e w5 ⟨hG5, As, cs5, Ak, ck5, kcs, rfl, hP5, hS5⟩; have HM := Lib.hid (AkMid.ofKey HAd.out hG5 hBlt hne hP5); have HS5 := Lib.hid hS5; have HR5 := Lib.hid ((HR2.out.trans (.of (grown_dr2 _ _))).trans (.of hG5)); have HRc := Lib.hid (HR5.out.trans (.of (grown_below ((Below.refl _ _).alloc (Nat.le_refl _) (Obj.cells zeroKeyL.toArray 51)) _))); have HSc := Lib.hid (HS5.out.then ((Below.refl _ _).alloc (Nat.le_refl _) (Obj.cells zeroKeyL.toArray 51))); obtain ⟨m0, m1⟩ := (HAd.out.step hG5 hBlt hne).cell; have m2 := (fun o => ((HAd.out.step hG5 hBlt hne).below ((Below.refl w5.heap.size w5).alloc (Nat.le_refl _) o)).cell.1); clear hG5 hP5 hS5)
       | (refine KB.out.mono ?_; rintro e w5 ⟨hG5, As, cs5, Ak, ck5, kcs, rfl, hP5, hS5⟩; have HM := Lib.hid (AkMid.ofZero HA.out ((grown_dr2 _ _).trans hG5) hBlt hne hP5); have HS5 := Lib.hid hS5; have HR5 := Lib.hid ((HR2.out.trans (R2.of (grown_below ((Below.refl _ _).alloc (Nat.le_refl _) _) _))).trans (.of ((grown_dr2 _ _).trans hG5))); have HRc := HR5; have HSc := HS5; obtain ⟨m0, m1⟩ := HM.out.st.cell; clear hG5 hP5 hS5))
     | (refine step_append_lies _ (by rfl) _ _ _ (by rfl) w.heap.size 51 i0 (.agg #[.string ⟨#[]⟩, .string ⟨#[]⟩, .string ⟨#[]⟩, .int .i64 0, .slice none 0 0, .slice none 0 0]) 6 104 Tryz.underlying31 hi hz0 hz1 hz2 (by rfl) (by decide) (.slice none 0 0) 0 [] (by rfl) HM.out.st.own ⟨_, 0, none⟩ 1 1 zeroKeyL (by rfl) (by rfl) (World.news_of_block HM.out.zero) (by simp [zeroKeyL, Value.oneCell']) (by decide) (by unfold maxLen; omega) (by omega) HM.out.st.lt.2 _ rfl ?_; intro g cap w9 hown hgr hat hlt; have HNw := Lib.hid (HM.out.new (cap := cap) hown hgr); obtain ⟨⟨n0, n1, n2, n3, n4, n5⟩, p0, p1, p2, p3, p4, p5⟩ := HNw.out.c0; have hgC : ¬ (g = C) := HNw.out.gD; have hCg : ¬ (C = g) := fun e => hgC e.symm; have q0 : w9.cell? ⟨C, 11, none⟩ = some (.slice none 0 0) := by {have h1 := HNw.out.cmd; have h2 := HM.out.st.at_; simp [World.cell?, h1, h2]}; have q1 : w9.frozen? ⟨C, 11, none⟩ = false := by {have h1 := HNw.out.cmd; simp [World.frozen?, h1]}))
   all_goals
    go_wp2_with fail
    go_meet
    refine Lib.hid (AkMid.toSr (acc := []) HM.out HRc.out HSc.out hBlt hne hown hgr hat H11.out rfl (fun _ _ => rfl) ?_)
    first
    | (refine .inl ?_; simp only [put6, List.length_nil, Nat.zero_mul, Nat.zero_add]; done)
    | (refine .inr ?_; simp only [put6, List.length_nil, Nat.zero_mul, Nat.zero_add]; done)
  case rest =>
   obtain ⟨hRr, hSr, A0, c0', cells0, T0, ds0, hAk0, hds1, hds2⟩ := hcut.out
   have HSr : Hid (SrSt w B C [x] s3 k3 cs wc) := hcut
   clear hRr hSr hAk0 hds1 hds2 KA KB HAz HA HAd l0 l1 l2 l3
   generalize s3.length + 1 = m0 at HLo
   go_wp2
   go_loopw [] (fun wr => ∃ (acc : List KeyP) (s : Bs) (k m : Nat), Hid (LoF sub oo acc s k m) ∧ Hid (SrSt w B C acc s k cs wr)) (fun wr => leftLen B wr)
   case atStart => exact ⟨[x], s3, k3, m0, HLo, HSr⟩
   case round =>
    obtain ⟨acc, s4, k4, m4, HL3, HS3⟩ := hrel
    obtain ⟨hR3, hScn3, A3, c3, cells3, T3, ds3, hAk3, hds1, hds2⟩ := HS3.out
    have HL0 := Lib.hid (left_len hScn3)
    cases h3 : isB [32] s4 with
    | none =>
     have K3 : Hid (∀ W, Scn W B s4 k4 → Calls Tryz.prog 68 #[scP B, .string ⟨#[32]⟩] W _) := Lib.hid (fun W hW => is_not B s4 [32] k4 h3 W hW)
     have HO := Lib.hid (HL3.out.stop h3)
     have HScn3 := Lib.hid hScn3
     have HFin := Lib.hid (fun W1 (hG : _) (hS : _) => show SrSt w B C acc s4 k4 cs W1 from ⟨hR3.trans (.of hG), hS, A3, c3, cells3, T3, ds3, hAk3.step (W1 := W1) (B := B) hG hBlt hne, hds1, hds2⟩)
     clear hR3 hScn3 hAk3 h3
     go_wp2_with fail
     refine (K3.out _ HScn3.out).mono ?_
     rintro e w4 ⟨rfl, hS4, hG4⟩
     have HF := Lib.hid (HFin.out w4 hG4 hS4)
     clear hS4 hG4
     go_wp2
     go_end0
     exact .fin HO.out HF.out
    | some s5 =>
     have K3 : Hid (∀ W, Scn W B s4 k4 → Calls Tryz.prog 68 #[scP B, .string ⟨#[32]⟩] W _) := Lib.hid (fun W hW => is_ok B s4 [32] s5 k4 h3 W hW)
     have hvK : (fun _ : Nat => True) k4 ∨ (sub s5 k4).isSome = true := .inl trivial
     cases hs5 : sub s5 k4 with
     | none =>
      have HO := Lib.hid (HL3.out.bad h3 hs5)
      have hsub1 := hs5
      have HScn3 := Lib.hid hScn3
      have HAk3 := Lib.hid hAk3
      have HR3 := Lib.hid hR3
      have HD1 := Lib.hid hds1
      clear h3 hScn3 hAk3 hR3 hds1 hds2 hs5
      go_wp2_with fail
      refine (K3.out _ HScn3.out).mono ?_
      rintro e w4 ⟨rfl, hScn, hG4⟩
      have hAk := HAk3.out.step hG4 hBlt hne
      have hR2 : R2 B C w w4 := HR3.out.trans (.of hG4)
      clear hG4
      go_wp2_with fail
      have HA := Lib.hid hAk
      have HAd := Lib.hid (hAk.step (W1 := w4.drew) (grown_dr2 _ (some B)) hBlt hne)
      have HAz := Lib.hid (fun o => (HA.out.below ((Below.refl w4.heap.size w4).alloc (Nat.le_refl _) o)))
      have KA := Lib.hid (HSub.out s5 k4 w4.drew hvK (HE.out.kept2 (hR2.trans (.of (grown_dr2 _ _))) hC20) (hScn.draws 1))
      have KB := Lib.hid (HSub.out s5 k4 (w4.alloc (Obj.cells zeroKeyL.toArray 51)).drew hvK (HE.out.kept2 ((hR2.trans (.of (grown_below ((Below.refl _ _).alloc (Nat.le_refl _) _) _))).trans (.of (grown_dr2 _ _))) hC20) ((hScn.then ((Below.refl _ _).alloc (Nat.le_refl _) _)).draws 1))
      rw [hsub1] at KA KB
      have HR2 := Lib.hid hR2
      obtain ⟨l0, l1⟩ := HAd.out.cell
      have l2 := (fun o => (HAz.out o).cell.1)
      have l3 := (fun o => (HAz.out o).cell.2)
      clear hAk hR2 hScn hsub1 hvK
      refine wp_region_held_drew (S := fun W => W.cell? ⟨C, 11, none⟩ = some (.slice A3 acc.length c3)) (by kernel_rfl) l0 (fun hHeld => ?_)
      refine wpAnyH_take (i := 0) rfl (by kernel_rfl) (by kernel_rfl) (by kernel_rfl) (fun _ _ _ h => h) (.inl ⟨by rfl, by intro _ h; (try dsimp only at h); go_simp; try with_reducible rfl⟩) hHeld ?_
      try simp only [Act.put, t0, t1, t2, t3, t4, t5]
      refine wpAnyH_take (i := 1) rfl (by kernel_rfl) (by kernel_rfl) (by kernel_rfl) (fun _ _ _ h => h) (.inl ⟨by rfl, by intro _ h; (try dsimp only at h); go_simp; try with_reducible rfl⟩) hHeld ?_
      try simp only [Act.put, t0, t1, t2, t3, t4, t5]
      refine wpAnyH_take (i := 2) rfl (by kernel_rfl) (by kernel_rfl) (by kernel_rfl) (fun _ _ _ h => h) (.inl ⟨by rfl, by intro _ h; (try dsimp only at h); go_simp; try with_reducible rfl⟩) hHeld ?_
      try simp only [Act.put, t0, t1, t2, t3, t4, t5]
      refine wpAnyH_take (i := 3) rfl (by kernel_rfl) (by kernel_rfl) (by kernel_rfl) (fun _ _ _ h => h) (.inl ⟨by rfl, by intro _ h; (try dsimp only at h); go_simp; try with_reducible rfl⟩) hHeld ?_
      try simp only [Act.put, t0, t1, t2, t3, t4, t5]
      refine wpAnyH_take (i := 4) rfl (by kernel_rfl) (by kernel_rfl) (by kernel_rfl) (fun _ _ _ h => h) (.inl ⟨by rfl, by intro _ h; (try dsimp only at h); go_simp; try with_reducible rfl⟩) hHeld ?_
      try simp only [Act.put, t0, t1, t2, t3, t4, t5]
      refine wpAnyH_take (i := 6) rfl (by kernel_rfl) (by kernel_rfl) (by kernel_rfl) (fun _ _ _ h => h) (.inl ⟨by rfl, by intro _ h; (try dsimp only at h); go_simp; try with_reducible rfl⟩) hHeld ?_
      try simp only [Act.put, t0, t1, t2, t3, t4, t5]
      refine wpAnyH_ready (rs := [5, 7]) (by kernel_rfl) (by simp) ?_
      refine AllReadyH.cons rfl (fun K9 hK9 => ?_) ?_
      ·
       go_simp
       refine KA.out.mono ?_
       rintro e w5 ⟨hG5, rfl⟩
       exact ⟨rfl, .bad HO.out ((HR2.out.trans (.of (grown_dr2 _ _))).trans (.of hG5)) (AkSt.ok (HA.out) ((grown_dr2 _ _).trans hG5) hBlt hne HD1.out)⟩
      refine AllReadyH.cons rfl (fun K9 hK9 => ?_) ?_
      ·
       go_simp
       refine hK9.out _ _ (l2 _) (fun hHeld => ?_)
       clear hK9 K9
       try simp only [Act.put, t0, t1, t2, t3, t4, t5]
       refine wpAnyH_ready (rs := [5]) (by kernel_rfl) (by simp) ?_
       refine AllReadyH.cons rfl (fun K9 hK9 => ?_) ?_
       ·
        go_simp
        refine KB.out.mono ?_
        rintro e w5 ⟨hG5, rfl⟩
        exact ⟨rfl, .bad HO.out ((HR2.out.trans (R2.of (grown_below ((Below.refl _ _).alloc (Nat.le_refl _) _) _))).trans (.of ((grown_dr2 _ _).trans hG5))) (AkSt.ok (HA.out.below ((Below.refl _ _).alloc (Nat.le_refl _) _)) ((grown_dr2 _ _).trans hG5) hBlt hne HD1.out)⟩
       exact AllReadyH.nil
      exact AllReadyH.nil
     | some q =>
      obtain ⟨y, s6, k6⟩ := q
      obtain ⟨m6, hlt6, hL6⟩ := HL3.out.next HLs.out h3 hs5
      have HL6 := Lib.hid hL6
      have HLt := Lib.hid hlt6
      have hsub1 := hs5
      have HLo := HL3
      have HScn3 := Lib.hid hScn3
      have HAk3 := Lib.hid hAk3
      have HR3 := Lib.hid hR3
      have HD1 := Lib.hid hds1
      have HD2 := Lib.hid hds2
      clear hL6 hlt6 h3 hScn3 hAk3 hR3 hds1 hds2 hs5
      go_wp2_with fail
      refine (K3.out _ HScn3.out).mono ?_
      rintro e w4 ⟨rfl, hScn, hG4⟩
      have hAk := HAk3.out.step hG4 hBlt hne
      have hR2 : R2 B C w w4 := HR3.out.trans (.of hG4)
      clear hG4
      have hacc3 := HL3.out.few
      go_wp2_with fail
      have HA := Lib.hid hAk
      have HAd := Lib.hid (hAk.step (W1 := w4.drew) (grown_dr2 _ (some B)) hBlt hne)
      have HAz := Lib.hid (fun o => (HA.out.below ((Below.refl w4.heap.size w4).alloc (Nat.le_refl _) o)))
      have KA := Lib.hid (HSub.out s5 k4 w4.drew hvK (HE.out.kept2 (hR2.trans (.of (grown_dr2 _ _))) hC20) (hScn.draws 1))
      have KB := Lib.hid (HSub.out s5 k4 (w4.alloc (Obj.cells zeroKeyL.toArray 51)).drew hvK (HE.out.kept2 ((hR2.trans (.of (grown_below ((Below.refl _ _).alloc (Nat.le_refl _) _) _))).trans (.of (grown_dr2 _ _))) hC20) ((hScn.then ((Below.refl _ _).alloc (Nat.le_refl _) _)).draws 1))
      rw [hsub1] at KA KB
      have HR2 := Lib.hid hR2
      have hacc := HLo.out.few
      obtain ⟨l0, l1⟩ := HAd.out.cell
      have l2 := (fun o => (HAz.out o).cell.1)
      have l3 := (fun o => (HAz.out o).cell.2)
      clear hAk hR2 hScn hsub1 hvK
      have hix : ((acc.length : Nat) : Int) < (acc.length : Int) + 1 := by omega
      have HMeas : Hid (∀ W', SrSt w B C (acc ++ [y]) s6 k6 cs W' → leftLen B W' < leftLen B wr) := Lib.hid (fun W' h => by rw [HL0.out, left_len h.2.1]; exact HLt.out)
      go_region_law (first
        | (go_simp; go_at_call 106; first
          | (refine KA.out.mono ?_; rintro e w5 ⟨hG5, As, cs5, Ak, ck5, kcs, rfl, hP5, hS5⟩; have HM := Lib.hid (AkMid.ofKey HAd.out hG5 hBlt hne hP5); have HS5 := Lib.hid hS5; have HR5 := Lib.hid ((HR2.out.trans (.of (grown_dr2 _ _))).trans (.of hG5)); have HRc := Lib.hid (HR5.out.trans (.of (grown_below ((Below.refl _ _).alloc (Nat.le_refl _) (Obj.cells zeroKeyL.toArray 51)) _))); have HSc := Lib.hid (HS5.out.then ((Below.refl _ _).alloc (Nat.le_refl _) (Obj.cells zeroKeyL.toArray 51))); obtain ⟨m0, m1⟩ := (HAd.out.step hG5 hBlt hne).cell; have m2 := (fun o => ((HAd.out.step hG5 hBlt hne).below ((Below.refl w5.heap.size w5).alloc (Nat.le_refl _) o)).cell.1); clear hG5 hP5 hS5)
          | (refine KB.out.mono ?_; rintro e w5 ⟨hG5, As, cs5, Ak, ck5, kcs, rfl, hP5, hS5⟩; have HM := Lib.hid (AkMid.ofZero HA.out ((grown_dr2 _ _).trans hG5) hBlt hne hP5); have HS5 := Lib.hid hS5; have HR5 := Lib.hid ((HR2.out.trans (R2.of (grown_below ((Below.refl _ _).alloc (Nat.le_refl _) _) _))).trans (.of ((grown_dr2 _ _).trans hG5))); have HRc := HR5; have HSc := HS5; obtain ⟨m0, m1⟩ := HM.out.st.cell; clear hG5 hP5 hS5))
        | (refine step_append_lies _ (by rfl) _ _ _ (by rfl) w.heap.size 51 i0 (.agg #[.string ⟨#[]⟩, .string ⟨#[]⟩, .string ⟨#[]⟩, .int .i64 0, .slice none 0 0, .slice none 0 0]) 6 104 Tryz.underlying31 hi hz0 hz1 hz2 (by rfl) (by decide) (.slice A3 acc.length c3) acc.length cells3 (by rfl) HM.out.st.own ⟨_, 0, none⟩ 1 1 zeroKeyL (by rfl) (by rfl) (World.news_of_block HM.out.zero) (by simp [zeroKeyL, Value.oneCell']) (by decide) (by unfold maxLen; omega) (by omega) HM.out.st.lt.2 _ rfl ?_; intro g cap w9 hown hgr hat hlt; have HNw := Lib.hid (HM.out.new (cap := cap) hown hgr); obtain ⟨⟨n0, n1, n2, n3, n4, n5⟩, p0, p1, p2, p3, p4, p5⟩ := HNw.out.c0; have hgC : ¬ (g = C) := HNw.out.gD; have hCg : ¬ (C = g) := fun e => hgC e.symm; have q0 : w9.cell? ⟨C, 11, none⟩ = some (.slice A3 acc.length c3) := by {have h1 := HNw.out.cmd; have h2 := HM.out.st.at_; simp [World.cell?, h1, h2]}; have q1 : w9.frozen? ⟨C, 11, none⟩ = false := by {have h1 := HNw.out.cmd; simp [World.frozen?, h1]}))
      all_goals
       go_wp2
       go_roundw
       case rel =>
        refine ⟨acc ++ [y], s6, k6, m6, HL6, Lib.hid (AkMid.toSr (acc := acc) HM.out HRc.out HSc.out hBlt hne hown hgr hat (by rw [HD1.out]; exact H11.out) HD1.out HD2.out ?_)⟩
        first
        | (refine .inl ?_; simp only [put6]; done)
        | (refine .inr ?_; simp only [put6]; done)
       case measure =>
        refine HMeas.out _ (AkMid.toSr (acc := acc) HM.out HRc.out HSc.out hBlt hne hown hgr hat (by rw [HD1.out]; exact H11.out) HD1.out HD2.out ?_)
        first
        | (refine .inl ?_; simp only [put6]; done)
        | (refine .inr ?_; simp only [put6]; done)
open Go.RowKit
open Pl (Bs idxB numOk numN setOk setL)
attribute [local go_sem ↓] Go.wp_at_zero Go.wp_at_succ
theorem search_plain (G : Glob) (B C k : Nat) (sub : Rd KeyP) (hsub : KeyCon G B (fun _ => True) sub) (hlenS : ∀ s k p, sub s k = some p → p.2.1.length ≤ s.length) (s s1 : Bs) (hb : isB [32] s = some s1) (h8 : 8 ≤ s1.length) (hcn : largeL (s1.take 8) ≠ charsetN) (cs : Array Value) (h11 : cs[11]? = some (.slice none 0 0)) (hne : B ≠ C) (hC20 : 20 ≤ C) (w : World) (hC : w.heap[C]? = some (Obj.cells cs 33)) (hE : EnvI G w B) (h : Scn w B s k) :
  Calls Tryz.prog 78 #[scP B, cmP C] w (SrPost w B C cs (searchB sub s k)) := by
 obtain ⟨i0, hi, hz0, hz1, hz2⟩ := info_parts infoKey2
 have HE := Lib.hid hE
 have HSub := Lib.hid hsub
 have HLs := Lib.hid hlenS
 have hBlt := h.lt
 have hClt := (Array.getElem?_eq_some_iff.1 hC).1
 have hsm := h.small
 have H11 : Hid (11 < cs.size) := Lib.hid (Array.getElem?_eq_some_iff.1 h11).1
 have hAk0 : AkSt w.heap.size C 11 (.slice none 0 0) 0 [] [] (fun _ => False) cs 33 w := ⟨hC, h11, World.ownsRow_nil _ _ _ _, .nil, rfl, fun j hj => hj.elim, hClt, Nat.le_refl _⟩
 have HSn := Lib.hid h
 have HA0 := Lib.hid hAk0
 have K1 := Lib.hid (fun W hW => blank_ok B s s1 k hb W hW)
 have hl1 := isB_len hb
 simp only [List.length_singleton] at hl1
 have hz := str_size s1
 have HT := Lib.hid (show searchB sub s k = keysB sub s1 k by unfold searchB; rw [hb]; dsimp only; rw [charB, if_neg (fun h => hcn h.2)])
 generalize searchB sub s k = oo at *
 have n0 : ((str (largeL (s1.take 8))).toList == [67, 72, 65, 82, 83, 69, 84, 32]) = false := str_neb hcn
 have n8 : (8 : Int) ≤ (s1.length : Int) := by omega
 have hx8 : (str s1).extract 0 8 = str (s1.take 8) := str_take s1 8
 have KL8 := Lib.hid (fun W => large_walk21 (s1.take 8) (by rw [List.length_take]; omega) W)
 have hl2 : s1.length ≤ 1000000 := by omega
 clear hb h hAk0 hC h11 hE hsub hlenS hcn
 go_enter Tryz.func78, Tryz.ntmps78
 go_wp2_with fail
 refine (K1.out _ HSn.out).mono ?_
 rintro e w1 ⟨rfl, hScn1, hG1⟩
 have hAk1 := Lib.hid (HA0.out.step hG1 hBlt hne)
 have hR21 : Hid (R2 B C w w1) := Lib.hid (.of hG1)
 obtain ⟨c0, c1, f0, f1⟩ := hScn1.cells
 have HScn1 := Lib.hid hScn1
 clear hScn1 hG1
 go_wp2_with fail
 refine (KL8.out _).mono ?_
 rintro e w2 ⟨rfl, hB2⟩
 have hScn := HScn1.out.then hB2
 have hAk := hAk1.out.below hB2
 have hR2 : R2 B C w w2 := hR21.out.trans (.of (grown_below hB2 _))
 clear hB2 c0 c1 f0 f1
 obtain ⟨c0, c1, f0, f1⟩ := hScn.cells
 go_wp2_with fail
 clear c0 c1 f0 f1 hx8 n0
 obtain ⟨s2, rfl⟩ : ∃ s2, s2 = s1 := ⟨_, rfl⟩
 cases hsK : sub s2 k with
 | none =>
  have HO := Lib.hid (show oo = none by rw [HT.out]; unfold keysB; rw [hsK])
  have hsub1 := hsK
  have hvK : (fun _ : Nat => True) k ∨ (sub s2 k).isSome = true := .inl trivial
  clear hsK
  have HA := Lib.hid hAk
  have HAd := Lib.hid (hAk.step (W1 := w2.drew) (grown_dr2 _ (some B)) hBlt hne)
  have HAz := Lib.hid (fun o => (HA.out.below ((Below.refl w2.heap.size w2).alloc (Nat.le_refl _) o)))
  have KA := Lib.hid (HSub.out s2 k w2.drew hvK (HE.out.kept2 (hR2.trans (.of (grown_dr2 _ _))) hC20) (hScn.draws 1))
  have KB := Lib.hid (HSub.out s2 k (w2.alloc (Obj.cells zeroKeyL.toArray 51)).drew hvK (HE.out.kept2 ((hR2.trans (.of (grown_below ((Below.refl _ _).alloc (Nat.le_refl _) _) _))).trans (.of (grown_dr2 _ _))) hC20) ((hScn.then ((Below.refl _ _).alloc (Nat.le_refl _) _)).draws 1))
  rw [hsub1] at KA KB
  have HR2 := Lib.hid hR2
  obtain ⟨l0, l1⟩ := HAd.out.cell
  have l2 := (fun o => (HAz.out o).cell.1)
  have l3 := (fun o => (HAz.out o).cell.2)
  clear hAk hR2 hScn hsub1 hvK
  refine wp_region_held_drew (S := fun W => W.cell? ⟨C, 11, none⟩ = some (.slice none 0 0)) (by kernel_rfl) l0 (fun hHeld => ?_)
  refine wpAnyH_take (i := 0) rfl (by kernel_rfl) (by kernel_rfl) (by kernel_rfl) (fun _ _ _ h => h) (.inl ⟨by rfl, by intro _ h; (try dsimp only at h); go_simp; try with_reducible rfl⟩) hHeld ?_
  try simp only [Act.put, t0, t1, t2, t3, t4, t5]
  refine wpAnyH_take (i := 1) rfl (by kernel_rfl) (by kernel_rfl) (by kernel_rfl) (fun _ _ _ h => h) (.inl ⟨by rfl, by intro _ h; (try dsimp only at h); go_simp; try with_reducible rfl⟩) hHeld ?_
  try simp only [Act.put, t0, t1, t2, t3, t4, t5]
  refine wpAnyH_take (i := 2) rfl (by kernel_rfl) (by kernel_rfl) (by kernel_rfl) (fun _ _ _ h => h) (.inl ⟨by rfl, by intro _ h; (try dsimp only at h); go_simp; try with_reducible rfl⟩) hHeld ?_
  try simp only [Act.put, t0, t1, t2, t3, t4, t5]
  refine wpAnyH_take (i := 3) rfl (by kernel_rfl) (by kernel_rfl) (by kernel_rfl) (fun _ _ _ h => h) (.inl ⟨by rfl, by intro _ h; (try dsimp only at h); go_simp; try with_reducible rfl⟩) hHeld ?_
  try simp only [Act.put, t0, t1, t2, t3, t4, t5]
  refine wpAnyH_take (i := 4) rfl (by kernel_rfl) (by kernel_rfl) (by kernel_rfl) (fun _ _ _ h => h) (.inl ⟨by rfl, by intro _ h; (try dsimp only at h); go_simp; try with_reducible rfl⟩) hHeld ?_
  try simp only [Act.put, t0, t1, t2, t3, t4, t5]
  refine wpAnyH_take (i := 6) rfl (by kernel_rfl) (by kernel_rfl) (by kernel_rfl) (fun _ _ _ h => h) (.inl ⟨by rfl, by intro _ h; (try dsimp only at h); go_simp; try with_reducible rfl⟩) hHeld ?_
  try simp only [Act.put, t0, t1, t2, t3, t4, t5]
  refine wpAnyH_ready (rs := [5, 7]) (by kernel_rfl) (by simp) ?_
  refine AllReadyH.cons rfl (fun K9 hK9 => ?_) ?_
  ·
   go_simp
   refine KA.out.mono ?_
   rintro e w5 ⟨hG5, rfl⟩
   exact ⟨rfl, .bad HO.out ((HR2.out.trans (.of (grown_dr2 _ _))).trans (.of hG5)) (AkSt.ok (HA.out) ((grown_dr2 _ _).trans hG5) hBlt hne rfl)⟩
  refine AllReadyH.cons rfl (fun K9 hK9 => ?_) ?_
  ·
   go_simp
   refine hK9.out _ _ (l2 _) (fun hHeld => ?_)
   clear hK9 K9
   try simp only [Act.put, t0, t1, t2, t3, t4, t5]
   refine wpAnyH_ready (rs := [5]) (by kernel_rfl) (by simp) ?_
   refine AllReadyH.cons rfl (fun K9 hK9 => ?_) ?_
   ·
    go_simp
    refine KB.out.mono ?_
    rintro e w5 ⟨hG5, rfl⟩
    exact ⟨rfl, .bad HO.out ((HR2.out.trans (R2.of (grown_below ((Below.refl _ _).alloc (Nat.le_refl _) _) _))).trans (.of ((grown_dr2 _ _).trans hG5))) (AkSt.ok (HA.out.below ((Below.refl _ _).alloc (Nat.le_refl _) _)) ((grown_dr2 _ _).trans hG5) hBlt hne rfl)⟩
   exact AllReadyH.nil
  exact AllReadyH.nil
 | some p =>
  obtain ⟨x, s3, k3⟩ := p
  have hl3 := HLs.out _ _ _ hsK
  dsimp only at hl3
  have HLo : Hid (LoF sub oo [x] s3 k3 (s3.length + 1)) := Lib.hid ⟨Nat.lt_succ_self _, by simp; omega, by rw [HT.out]; unfold keysB; rw [hsK]; rfl⟩
  have hsub1 := hsK
  have hvK : (fun _ : Nat => True) k ∨ (sub s2 k).isSome = true := .inl trivial
  clear hsK
  have HA := Lib.hid hAk
  have HAd := Lib.hid (hAk.step (W1 := w2.drew) (grown_dr2 _ (some B)) hBlt hne)
  have HAz := Lib.hid (fun o => (HA.out.below ((Below.refl w2.heap.size w2).alloc (Nat.le_refl _) o)))
  have KA := Lib.hid (HSub.out s2 k w2.drew hvK (HE.out.kept2 (hR2.trans (.of (grown_dr2 _ _))) hC20) (hScn.draws 1))
  have KB := Lib.hid (HSub.out s2 k (w2.alloc (Obj.cells zeroKeyL.toArray 51)).drew hvK (HE.out.kept2 ((hR2.trans (.of (grown_below ((Below.refl _ _).alloc (Nat.le_refl _) _) _))).trans (.of (grown_dr2 _ _))) hC20) ((hScn.then ((Below.refl _ _).alloc (Nat.le_refl _) _)).draws 1))
  rw [hsub1] at KA KB
  have HR2 := Lib.hid hR2
  have hacc := HLo.out.few
  obtain ⟨l0, l1⟩ := HAd.out.cell
  have l2 := (fun o => (HAz.out o).cell.1)
  have l3 := (fun o => (HAz.out o).cell.2)
  clear hAk hR2 hScn hsub1 hvK
  go_cut [] from 43 to 54 (fun wx => Hid (SrSt w B C [x] s3 k3 cs wx))
  case first =>
   go_region_law (first
     | (go_simp; go_at_call 106; first
       | (refine KA.out.mono ?_; rintro e w5 ⟨hG5, As, cs5, Ak, ck5, kcs, rfl, hP5, hS5⟩; have HM := Lib.hid (AkMid.ofKey HAd.out hG5 hBlt hne hP5); have HS5 := Lib.hid hS5; have HR5 := Lib.hid ((HR2.out.trans (.of (grown_dr2 _ _))).trans (.of hG5)); have HRc := Lib.hid (HR5.out.trans (.of (grown_below ((Below.refl _ _).alloc (Nat.le_refl _) (Obj.cells zeroKeyL.toArray 51)) _))); have HSc := Lib.hid (HS5.out.then ((Below.refl _ _).alloc (Nat.le_refl _) (Obj.cells zeroKeyL.toArray 51))); obtain ⟨m0, m1⟩ := (HAd.out.step hG5 hBlt hne).cell; have m2 := (fun o => ((HAd.out.step hG5 hBlt hne).below ((Below.refl w5.heap.size w5).alloc (Nat.le_refl _) o)).cell.1); clear hG5 hP5 hS5)
       | (refine KB.out.mono ?_; rintro e w5 ⟨hG5, As, cs5, Ak, ck5, kcs, rfl, hP5, hS5⟩; have HM := Lib.hid (AkMid.ofZero HA.out ((grown_dr2 _ _).trans hG5) hBlt hne hP5); have HS5 := Lib.hid hS5; have HR5 := Lib.hid ((HR2.out.trans (R2.of (grown_below ((Below.refl _ _).alloc (Nat.le_refl _) _) _))).trans (.of ((grown_dr2 _ _).trans hG5))); have HRc := HR5; have HSc := HS5; obtain ⟨m0, m1⟩ := HM.out.st.cell; clear hG5 hP5 hS5))
     | (refine step_append_lies _ (by rfl) _ _ _ (by rfl) w.heap.size 51 i0 (.agg #[.string ⟨#[]⟩, .string ⟨#[]⟩, .string ⟨#[]⟩, .int .i64 0, .slice none 0 0, .slice none 0 0]) 6 104 Tryz.underlying31 hi hz0 hz1 hz2 (by rfl) (by decide) (.slice none 0 0) 0 [] (by rfl) HM.out.st.own ⟨_, 0, none⟩ 1 1 zeroKeyL (by rfl) (by rfl) (World.news_of_block HM.out.zero) (by simp [zeroKeyL, Value.oneCell']) (by decide) (by unfold maxLen; omega) (by omega) HM.out.st.lt.2 _ rfl ?_; intro g cap w9 hown hgr hat hlt; have HNw := Lib.hid (HM.out.new (cap := cap) hown hgr); obtain ⟨⟨n0, n1, n2, n3, n4, n5⟩, p0, p1, p2, p3, p4, p5⟩ := HNw.out.c0; have hgC : ¬ (g = C) := HNw.out.gD; have hCg : ¬ (C = g) := fun e => hgC e.symm; have q0 : w9.cell? ⟨C, 11, none⟩ = some (.slice none 0 0) := by {have h1 := HNw.out.cmd; have h2 := HM.out.st.at_; simp [World.cell?, h1, h2]}; have q1 : w9.frozen? ⟨C, 11, none⟩ = false := by {have h1 := HNw.out.cmd; simp [World.frozen?, h1]}))
   all_goals
    go_wp2_with fail
    go_meet
    refine Lib.hid (AkMid.toSr (acc := []) HM.out HRc.out HSc.out hBlt hne hown hgr hat H11.out rfl (fun _ _ => rfl) ?_)
    first
    | (refine .inl ?_; simp only [put6, List.length_nil, Nat.zero_mul, Nat.zero_add]; done)
    | (refine .inr ?_; simp only [put6, List.length_nil, Nat.zero_mul, Nat.zero_add]; done)
  case rest =>
   obtain ⟨hRr, hSr, A0, c0', cells0, T0, ds0, hAk0, hds1, hds2⟩ := hcut.out
   have HSr : Hid (SrSt w B C [x] s3 k3 cs wc) := hcut
   clear hRr hSr hAk0 hds1 hds2 KA KB HAz HA HAd l0 l1 l2 l3
   generalize s3.length + 1 = m0 at HLo
   go_wp2
   go_loopw [] (fun wr => ∃ (acc : List KeyP) (s : Bs) (k m : Nat), Hid (LoF sub oo acc s k m) ∧ Hid (SrSt w B C acc s k cs wr)) (fun wr => leftLen B wr)
   case atStart => exact ⟨[x], s3, k3, m0, HLo, HSr⟩
   case round =>
    obtain ⟨acc, s4, k4, m4, HL3, HS3⟩ := hrel
    obtain ⟨hR3, hScn3, A3, c3, cells3, T3, ds3, hAk3, hds1, hds2⟩ := HS3.out
    have HL0 := Lib.hid (left_len hScn3)
    cases h3 : isB [32] s4 with
    | none =>
     have K3 : Hid (∀ W, Scn W B s4 k4 → Calls Tryz.prog 68 #[scP B, .string ⟨#[32]⟩] W _) := Lib.hid (fun W hW => is_not B s4 [32] k4 h3 W hW)
     have HO := Lib.hid (HL3.out.stop h3)
     have HScn3 := Lib.hid hScn3
     have HFin := Lib.hid (fun W1 (hG : _) (hS : _) => show SrSt w B C acc s4 k4 cs W1 from ⟨hR3.trans (.of hG), hS, A3, c3, cells3, T3, ds3, hAk3.step (W1 := W1) (B := B) hG hBlt hne, hds1, hds2⟩)
     clear hR3 hScn3 hAk3 h3
     go_wp2_with fail
     refine (K3.out _ HScn3.out).mono ?_
     rintro e w4 ⟨rfl, hS4, hG4⟩
     have HF := Lib.hid (HFin.out w4 hG4 hS4)
     clear hS4 hG4
     go_wp2
     go_end0
     exact .fin HO.out HF.out
    | some s5 =>
     have K3 : Hid (∀ W, Scn W B s4 k4 → Calls Tryz.prog 68 #[scP B, .string ⟨#[32]⟩] W _) := Lib.hid (fun W hW => is_ok B s4 [32] s5 k4 h3 W hW)
     have hvK : (fun _ : Nat => True) k4 ∨ (sub s5 k4).isSome = true := .inl trivial
     cases hs5 : sub s5 k4 with
     | none =>
      have HO := Lib.hid (HL3.out.bad h3 hs5)
      have hsub1 := hs5
      have HScn3 := Lib.hid hScn3
      have HAk3 := Lib.hid hAk3
      have HR3 := Lib.hid hR3
      have HD1 := Lib.hid hds1
      clear h3 hScn3 hAk3 hR3 hds1 hds2 hs5
      go_wp2_with fail
      refine (K3.out _ HScn3.out).mono ?_
      rintro e w4 ⟨rfl, hScn, hG4⟩
      have hAk := HAk3.out.step hG4 hBlt hne
      have hR2 : R2 B C w w4 := HR3.out.trans (.of hG4)
      clear hG4
      go_wp2_with fail
      have HA := Lib.hid hAk
      have HAd := Lib.hid (hAk.step (W1 := w4.drew) (grown_dr2 _ (some B)) hBlt hne)
      have HAz := Lib.hid (fun o => (HA.out.below ((Below.refl w4.heap.size w4).alloc (Nat.le_refl _) o)))
      have KA := Lib.hid (HSub.out s5 k4 w4.drew hvK (HE.out.kept2 (hR2.trans (.of (grown_dr2 _ _))) hC20) (hScn.draws 1))
      have KB := Lib.hid (HSub.out s5 k4 (w4.alloc (Obj.cells zeroKeyL.toArray 51)).drew hvK (HE.out.kept2 ((hR2.trans (.of (grown_below ((Below.refl _ _).alloc (Nat.le_refl _) _) _))).trans (.of (grown_dr2 _ _))) hC20) ((hScn.then ((Below.refl _ _).alloc (Nat.le_refl _) _)).draws 1))
      rw [hsub1] at KA KB
      have HR2 := Lib.hid hR2
      obtain ⟨l0, l1⟩ := HAd.out.cell
      have l2 := (fun o => (HAz.out o).cell.1)
      have l3 := (fun o => (HAz.out o).cell.2)
      clear hAk hR2 hScn hsub1 hvK
      refine wp_region_held_drew (S := fun W => W.cell? ⟨C, 11, none⟩ = some (.slice A3 acc.length c3)) (by kernel_rfl) l0 (fun hHeld => ?_)
      refine wpAnyH_take (i := 0) rfl (by kernel_rfl) (by kernel_rfl) (by kernel_rfl) (fun _ _ _ h => h) (.inl ⟨by rfl, by intro _ h; (try dsimp only at h); go_simp; try with_reducible rfl⟩) hHeld ?_
      try simp only [Act.put, t0, t1, t2, t3, t4, t5]
      refine wpAnyH_take (i := 1) rfl (by kernel_rfl) (by kernel_rfl) (by kernel_rfl) (fun _ _ _ h => h) (.inl ⟨by rfl, by intro _ h; (try dsimp only at h); go_simp; try with_reducible rfl⟩) hHeld ?_
      try simp only [Act.put, t0, t1, t2, t3, t4, t5]
      refine wpAnyH_take (i := 2) rfl (by kernel_rfl) (by kernel_rfl) (by kernel_rfl) (fun _ _ _ h => h) (.inl ⟨by rfl, by intro _ h; (try dsimp only at h); go_simp; try with_reducible rfl⟩) hHeld ?_
      try simp only [Act.put, t0, t1, t2, t3, t4, t5]
      refine wpAnyH_take (i := 3) rfl (by kernel_rfl) (by kernel_rfl) (by kernel_rfl) (fun _ _ _ h => h) (.inl ⟨by rfl, by intro _ h; (try dsimp only at h); go_simp; try with_reducible rfl⟩) hHeld ?_
      try simp only [Act.put, t0, t1, t2, t3, t4, t5]
      refine wpAnyH_take (i := 4) rfl (by kernel_rfl) (by kernel_rfl) (by kernel_rfl) (fun _ _ _ h => h) (.inl ⟨by rfl, by intro _ h; (try dsimp only at h); go_simp; try with_reducible rfl⟩) hHeld ?_
      try simp only [Act.put, t0, t1, t2, t3, t4, t5]
      refine wpAnyH_take (i := 6) rfl (by kernel_rfl) (by kernel_rfl) (by kernel_rfl) (fun _ _ _ h => h) (.inl ⟨by rfl, by intro _ h; (try dsimp only at h); go_simp; try with_reducible rfl⟩) hHeld ?_
      try simp only [Act.put, t0, t1, t2, t3, t4, t5]
      refine wpAnyH_ready (rs := [5, 7]) (by kernel_rfl) (by simp) ?_
      refine AllReadyH.cons rfl (fun K9 hK9 => ?_) ?_
      ·
       go_simp
       refine KA.out.mono ?_
       rintro e w5 ⟨hG5, rfl⟩
       exact ⟨rfl, .bad HO.out ((HR2.out.trans (.of (grown_dr2 _ _))).trans (.of hG5)) (AkSt.ok (HA.out) ((grown_dr2 _ _).trans hG5) hBlt hne HD1.out)⟩
      refine AllReadyH.cons rfl (fun K9 hK9 => ?_) ?_
      ·
       go_simp
       refine hK9.out _ _ (l2 _) (fun hHeld => ?_)
       clear hK9 K9
       try simp only [Act.put, t0, t1, t2, t3, t4, t5]
       refine wpAnyH_ready (rs := [5]) (by kernel_rfl) (by simp) ?_
       refine AllReadyH.cons rfl (fun K9 hK9 => ?_) ?_
       ·
        go_simp
        refine KB.out.mono ?_
        rintro e w5 ⟨hG5, rfl⟩
        exact ⟨rfl, .bad HO.out ((HR2.out.trans (R2.of (grown_below ((Below.refl _ _).alloc (Nat.le_refl _) _) _))).trans (.of ((grown_dr2 _ _).trans hG5))) (AkSt.ok (HA.out.below ((Below.refl _ _).alloc (Nat.le_refl _) _)) ((grown_dr2 _ _).trans hG5) hBlt hne HD1.out)⟩
       exact AllReadyH.nil
      exact AllReadyH.nil
     | some q =>
      obtain ⟨y, s6, k6⟩ := q
      obtain ⟨m6, hlt6, hL6⟩ := HL3.out.next HLs.out h3 hs5
      have HL6 := Lib.hid hL6
      have HLt := Lib.hid hlt6
      have hsub1 := hs5
      have HLo := HL3
      have HScn3 := Lib.hid hScn3
      have HAk3 := Lib.hid hAk3
      have HR3 := Lib.hid hR3
      have HD1 := Lib.hid hds1
      have HD2 := Lib.hid hds2
      clear hL6 hlt6 h3 hScn3 hAk3 hR3 hds1 hds2 hs5
      go_wp2_with fail
      refine (K3.out _ HScn3.out).mono ?_
      rintro e w4 ⟨rfl, hScn, hG4⟩
      have hAk := HAk3.out.step hG4 hBlt hne
      have hR2 : R2 B C w w4 := HR3.out.trans (.of hG4)
      clear hG4
      have hacc3 := HL3.out.few
      go_wp2_with fail
      have HA := Lib.hid hAk
      have HAd := Lib.hid (hAk.step (W1 := w4.drew) (grown_dr2 _ (some B)) hBlt hne)
      have HAz := Lib.hid (fun o => (HA.out.below ((Below.refl w4.heap.size w4).alloc (Nat.le_refl _) o)))
      have KA := Lib.hid (HSub.out s5 k4 w4.drew hvK (HE.out.kept2 (hR2.trans (.of (grown_dr2 _ _))) hC20) (hScn.draws 1))
      have KB := Lib.hid (HSub.out s5 k4 (w4.alloc (Obj.cells zeroKeyL.toArray 51)).drew hvK (HE.out.kept2 ((hR2.trans (.of (grown_below ((Below.refl _ _).alloc (Nat.le_refl _) _) _))).trans (.of (grown_dr2 _ _))) hC20) ((hScn.then ((Below.refl _ _).alloc (Nat.le_refl _) _)).draws 1))
      rw [hsub1] at KA KB
      have HR2 := Lib.hid hR2
      have hacc := HLo.out.few
      obtain ⟨l0, l1⟩ := HAd.out.cell
      have l2 := (fun o => (HAz.out o).cell.1)
      have l3 := (fun o => (HAz.out o).cell.2)
      clear hAk hR2 hScn hsub1 hvK
      have hix : ((acc.length : Nat) : Int) < (acc.length : Int) + 1 := by omega
      have HMeas : Hid (∀ W', SrSt w B C (acc ++ [y]) s6 k6 cs W' → leftLen B W' < leftLen B wr) := Lib.hid (fun W' h => by rw [HL0.out, left_len h.2.1]; exact HLt.out)
      go_region_law (first
        | (go_simp; go_at_call 106; first
          | (refine KA.out.mono ?_; rintro e w5 ⟨hG5, As, cs5, Ak, ck5, kcs, rfl, hP5, hS5⟩; have HM := Lib.hid (AkMid.ofKey HAd.out hG5 hBlt hne hP5); have HS5 := Lib.hid hS5; have HR5 := Lib.hid ((HR2.out.trans (.of (grown_dr2 _ _))).trans (.of hG5)); have HRc := Lib.hid (HR5.out.trans (.of (grown_below ((Below.refl _ _).alloc (Nat.le_refl _) (Obj.cells zeroKeyL.toArray 51)) _))); have HSc := Lib.hid (HS5.out.then ((Below.refl _ _).alloc (Nat.le_refl _) (Obj.cells zeroKeyL.toArray 51))); obtain ⟨m0, m1⟩ := (HAd.out.step hG5 hBlt hne).cell; have m2 := (fun o => ((HAd.out.step hG5 hBlt hne).below ((Below.refl w5.heap.size w5).alloc (Nat.le_refl _) o)).cell.1); clear hG5 hP5 hS5)
          | (refine KB.out.mono ?_; rintro e w5 ⟨hG5, As, cs5, Ak, ck5, kcs, rfl, hP5, hS5⟩; have HM := Lib.hid (AkMid.ofZero HA.out ((grown_dr2 _ _).trans hG5) hBlt hne hP5); have HS5 := Lib.hid hS5; have HR5 := Lib.hid ((HR2.out.trans (R2.of (grown_below ((Below.refl _ _).alloc (Nat.le_refl _) _) _))).trans (.of ((grown_dr2 _ _).trans hG5))); have HRc := HR5; have HSc := HS5; obtain ⟨m0, m1⟩ := HM.out.st.cell; clear hG5 hP5 hS5))
        | (refine step_append_lies _ (by rfl) _ _ _ (by rfl) w.heap.size 51 i0 (.agg #[.string ⟨#[]⟩, .string ⟨#[]⟩, .string ⟨#[]⟩, .int .i64 0, .slice none 0 0, .slice none 0 0]) 6 104 Tryz.underlying31 hi hz0 hz1 hz2 (by rfl) (by decide) (.slice A3 acc.length c3) acc.length cells3 (by rfl) HM.out.st.own ⟨_, 0, none⟩ 1 1 zeroKeyL (by rfl) (by rfl) (World.news_of_block HM.out.zero) (by simp [zeroKeyL, Value.oneCell']) (by decide) (by unfold maxLen; omega) (by omega) HM.out.st.lt.2 _ rfl ?_; intro g cap w9 hown hgr hat hlt; have HNw := Lib.hid (HM.out.new (cap := cap) hown hgr); obtain ⟨⟨n0, n1, n2, n3, n4, n5⟩, p0, p1, p2, p3, p4, p5⟩ := HNw.out.c0; have hgC : ¬ (g = C) := HNw.out.gD; have hCg : ¬ (C = g) := fun e => hgC e.symm; have q0 : w9.cell? ⟨C, 11, none⟩ = some (.slice A3 acc.length c3) := by {have h1 := HNw.out.cmd; have h2 := HM.out.st.at_; simp [World.cell?, h1, h2]}; have q1 : w9.frozen? ⟨C, 11, none⟩ = false := by {have h1 := HNw.out.cmd; simp [World.frozen?, h1]}))
      all_goals
       go_wp2
       go_roundw
       case rel =>
        refine ⟨acc ++ [y], s6, k6, m6, HL6, Lib.hid (AkMid.toSr (acc := acc) HM.out HRc.out HSc.out hBlt hne hown hgr hat (by rw [HD1.out]; exact H11.out) HD1.out HD2.out ?_)⟩
        first
        | (refine .inl ?_; simp only [put6]; done)
        | (refine .inr ?_; simp only [put6]; done)
       case measure =>
        refine HMeas.out _ (AkMid.toSr (acc := acc) HM.out HRc.out HSc.out hBlt hne hown hgr hat (by rw [HD1.out]; exact H11.out) HD1.out HD2.out ?_)
        first
        | (refine .inl ?_; simp only [put6]; done)
        | (refine .inr ?_; simp only [put6]; done)
end Go.Proofs.YtgmfhldfdnnafaaGreatDoor
