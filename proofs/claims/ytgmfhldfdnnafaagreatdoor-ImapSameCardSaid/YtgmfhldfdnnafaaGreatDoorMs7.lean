/- A part of the proofs of the statements on chapter 21: walks of functions that they reach, and plain laws. What is proved is stated in the last text. Conditions: none of its own. -/
import Derived.Test.YtgmfhldfdnnafaaGreatDoorMs6
import Derived.Deep.RegionHeld3
import Derived.Deep.AppendLies
import Derived.Deep.DrawnRows
set_option maxHeartbeats 8000000
set_option maxRecDepth 100000
set_option linter.unusedSimpArgs false
set_option linter.unusedVariables false
namespace Go.Proofs.YtgmfhldfdnnafaaGreatDoor
open Go.RowKit
open Pl (Bs idxB numOk numN setOk setL)
abbrev Rd (α : Type) := Bs → Nat → Option (α × Bs × Nat)
def loopR {α : Type} (one : Rd α) : Nat → Rd (List α)
 | 0, _, _ => none
 | m + 1, l, k => match isB [41] l with
  | some r => some ([], r, k)
  | none => match isB [32] l with
   | none => none
   | some l1 => match one l1 k with
    | none => none
    | some (x, l2, k2) => (loopR one m l2 k2).map fun p => (x :: p.1, p.2)
def listR {α : Type} (one : Rd α) (l : Bs) (k : Nat) : Option (List α × Bs × Nat) :=
 match isB [40] l with
 | none => none
 | some l1 => match one l1 k with
  | none => none
  | some (x, l2, k2) => (loopR one (l2.length + 1) l2 k2).map fun p => (x :: p.1, p.2)
structure LstSt {α : Type} (one : Rd α) (o : Option (List α × Bs × Nat)) (acc : List α) (s : Bs) (k m : Nat) : Prop where
 room : s.length < m
 cnt : acc.length + m ≤ 1000002
 spec : o = (loopR one m s k).map fun p => (acc ++ p.1, p.2)
theorem LstSt.bad {α : Type} {one : Rd α} {o : Option (List α × Bs × Nat)} {acc : List α} {s : Bs} {k m : Nat} (h : LstSt one o acc s k m) (h1 : isB [41] s = none) (h2 : isB [32] s = none) : o = none := by
 cases m with
 | zero => exact absurd h.room (Nat.not_lt_zero _)
 | succ m => rw [h.spec, loopR, h1]; simp only [h2]; rfl
theorem LstSt.bad2 {α : Type} {one : Rd α} {o : Option (List α × Bs × Nat)} {acc : List α} {s r : Bs} {k m : Nat} (h : LstSt one o acc s k m) (h1 : isB [41] s = none) (h2 : isB [32] s = some r) (h3 : one r k = none) : o = none := by
 cases m with
 | zero => exact absurd h.room (Nat.not_lt_zero _)
 | succ m => rw [h.spec, loopR, h1]; simp only [h2, h3]; rfl
theorem LstSt.fin {α : Type} {one : Rd α} {o : Option (List α × Bs × Nat)} {acc : List α} {s r : Bs} {k m : Nat} (h : LstSt one o acc s k m) (h1 : isB [41] s = some r) : o = some (acc, r, k) := by
 cases m with
 | zero => exact absurd h.room (Nat.not_lt_zero _)
 | succ m => rw [h.spec, loopR, h1]; simp
theorem LstSt.next {α : Type} {one : Rd α} {o : Option (List α × Bs × Nat)} {acc : List α} {s r s2 : Bs} {k k2 m : Nat} {x : α} (h : LstSt one o acc s k m) (h1 : isB [41] s = none) (h2 : isB [32] s = some r) (h3 : one r k = some (x, s2, k2)) (hl : s2.length ≤ r.length) : ∃ m2, m = m2 + 1 ∧ LstSt one o (acc ++ [x]) s2 k2 m2 := by
 cases m with
 | zero => exact absurd h.room (Nat.not_lt_zero _)
 | succ m =>
  refine ⟨m, rfl, by have := h.room; have := isB_len h2; simp only [List.length_singleton] at this; omega, by have := h.cnt; rw [List.length_append, List.length_singleton]; omega, ?_⟩
  rw [h.spec, loopR, h1]
  simp only [h2, h3]
  rw [Option.map_map]
  congr 1
  funext p
  simp
def leftLen (B : Nat) (W : World) : Nat := match W.cell? ⟨B, 0, none⟩ with | some (.string s) => s.size | _ => 0
theorem left_len {W : World} {B k : Nat} {s : Bs} (h : Scn W B s k) : leftLen B W = s.length := by rw [leftLen, h.cells.1]; exact str_size s
def OneStep {α : Type} (G : Glob) (B : Nat) (f : FuncId) (caps : Array Value) (one : Rd α) (J : List α → World → Prop) (F : World → Prop) : Prop :=
 ∀ (acc : List α) (s : Bs) (k : Nat) (W : World), acc.length ≤ 1000002 → J acc W → EnvI G W B → Scn W B s k → Calls Tryz.prog f caps W fun e W' => match one s k with
  | none => e = .panicked [wrongE] ∧ F W'
  | some p => e = .returned (.tuple #[]) ∧ Scn W' B p.2.1 p.2.2 ∧ J (acc ++ [p.1]) W'
def LstPost {α : Type} (B : Nat) (J : List α → World → Prop) (F : World → Prop) (o : Option (List α × Bs × Nat)) (e : Ending) (w' : World) : Prop :=
 match o with
 | none => e = .panicked [wrongE] ∧ F w'
 | some p => e = .returned (.tuple #[]) ∧ Scn w' B p.2.1 p.2.2 ∧ J p.1 w'
theorem LstPost.bad {α : Type} {B : Nat} {J : List α → World → Prop} {F : World → Prop} {o : Option (List α × Bs × Nat)} {w' : World} (ho : o = none) (h : F w') : LstPost B J F o (.panicked [wrongE]) w' := by subst ho; exact ⟨rfl, h⟩
theorem LstPost.fin {α : Type} {B : Nat} {J : List α → World → Prop} {F : World → Prop} {o : Option (List α × Bs × Nat)} {w' : World} {p : List α × Bs × Nat} (ho : o = some p) (h : Scn w' B p.2.1 p.2.2) (hj : J p.1 w') : LstPost B J F o (.returned (.tuple #[])) w' := by subst ho; exact ⟨rfl, h, hj⟩
theorem list_walk {α : Type} (G : Glob) (B : Nat) (f : FuncId) (caps : Array Value) (one : Rd α) (J : List α → World → Prop) (F : World → Prop)
  (hfn : ∀ W, (callFunc f caps).run Tryz.prog W = .ok (.enter f caps) W)
  (hone : OneStep G B f caps one J F) (hlen : ∀ s k p, one s k = some p → p.2.1.length ≤ s.length)
  (hJ : ∀ acc W W', J acc W → W.grownBy W' (some B) → J acc W') (hF : ∀ acc W, J acc W → F W) (hE : ∀ acc W, J acc W → EnvI G W B)
  (s : Bs) (k : Nat) (w : World) (h0 : J [] w) (hS : Scn w B s k) :
  Calls Tryz.prog 72 #[scP B, .func (.func f) #[] caps] w (LstPost B J F (listR one s k)) := by
 have HOne := Lib.hid hone
 have HJ := Lib.hid hJ
 have HF := Lib.hid hF
 have HE := Lib.hid hE
 have H0 := Lib.hid h0
 have HLen := Lib.hid hlen
 have hO : listR one s k = match isB [40] s with
  | none => none
  | some l1 => match one l1 k with
   | none => none
   | some (x, l2, k2) => (loopR one (l2.length + 1) l2 k2).map fun p => (x :: p.1, p.2) := rfl
 generalize listR one s k = o at *
 clear hone hJ hF hE h0 hlen
 cases h1 : isB [40] s with
 | none =>
  rw [h1] at hO
  have HO := Lib.hid hO
  have K1 : Hid (Calls Tryz.prog 68 #[scP B, .string ⟨#[40]⟩] w _) := Lib.hid (is_not B s [40] k h1 w hS)
  clear hO h1 hS
  go_enter Tryz.func72, Tryz.ntmps72
  go_wp2_with fail
  refine K1.out.mono ?_
  rintro e w1 ⟨rfl, hS1, hG1⟩
  have HF1 := Lib.hid (HF.out _ _ (HJ.out _ _ _ H0.out hG1))
  clear hS1 hG1
  go_wp2_with fail
  refine (must_no B _).mono ?_
  rintro e w' ⟨rfl, rfl⟩
  exact ⟨rfl, .bad HO.out HF1.out⟩
 | some s1 =>
  rw [h1] at hO
  have K1 : Hid (Calls Tryz.prog 68 #[scP B, .string ⟨#[40]⟩] w _) := Lib.hid (is_ok B s [40] s1 k h1 w hS)
  have K2 := Lib.hid (fun W hW hE hS => HOne.out [] s1 k W (Nat.zero_le _) hW hE hS)
  cases h2 : one s1 k with
  | none =>
   simp only [h2] at hO K2
   have HO := Lib.hid hO
   clear hO h1 h2 hS
   go_enter Tryz.func72, Tryz.ntmps72
   go_wp2_with fail
   refine K1.out.mono ?_
   rintro e w1 ⟨rfl, hS1, hG1⟩
   have HJ1 := Lib.hid (HJ.out _ _ _ H0.out hG1)
   have HS1 := Lib.hid hS1
   clear hS1 hG1
   go_wp2_with fail
   refine (must_walk B _).mono ?_
   rintro e w' ⟨rfl, rfl⟩
   go_wp2_with fail
   refine (K2.out _ HJ1.out (HE.out _ _ HJ1.out) HS1.out).mono ?_
   rintro e w2 ⟨rfl, hF2⟩
   exact ⟨rfl, .bad HO.out hF2⟩
  | some p =>
   obtain ⟨x, s2, k2⟩ := p
   simp only [h2] at hO K2
   have HQ : Hid (LstSt one o [x] s2 k2 (s2.length + 1)) := Lib.hid ⟨Nat.lt_succ_self _, by have := HLen.out _ _ _ h2; have e1 := isB_len h1; have := hS.small; simp only [List.length_singleton] at *; omega, hO⟩
   clear hO h1 h2 hS
   go_enter Tryz.func72, Tryz.ntmps72
   go_wp2_with fail
   refine K1.out.mono ?_
   rintro e w1 ⟨rfl, hS1, hG1⟩
   have HJ1 := Lib.hid (HJ.out _ _ _ H0.out hG1)
   have HS1 := Lib.hid hS1
   clear hS1 hG1
   go_wp2_with fail
   refine (must_walk B _).mono ?_
   rintro e w' ⟨rfl, rfl⟩
   go_wp2_with fail
   refine (K2.out _ HJ1.out (HE.out _ _ HJ1.out) HS1.out).mono ?_
   rintro e w2 ⟨rfl, hS2, hJ2⟩
   have HS2 := Lib.hid hS2
   have HJ2 := Lib.hid hJ2
   clear hS2 hJ2 K1 K2 HS1 HJ1 H0
   generalize s2.length + 1 = m at HQ
   go_wp2
   go_loopw [] (fun wr => ∃ (acc : List α) (s : Bs) (k m : Nat), Hid (LstSt one o acc s k m) ∧ Hid (Scn wr B s k) ∧ Hid (J acc wr)) (fun wr => leftLen B wr)
   case atStart => exact ⟨[x], s2, k2, m, HQ, HS2, HJ2⟩
   case round =>
    obtain ⟨acc, s3, k3, m3, HQ3, HS3, HJ3⟩ := hrel
    have hL0 := left_len HS3.out
    have HL0 := Lib.hid hL0
    clear hL0
    cases h3 : isB [41] s3 with
    | some r =>
     have K3 : Hid (∀ W, Scn W B s3 k3 → Calls Tryz.prog 68 #[scP B, .string ⟨#[41]⟩] W _) := Lib.hid (fun W hW => is_ok B s3 [41] r k3 h3 W hW)
     have HO := Lib.hid (HQ3.out.fin h3)
     clear h3
     go_wp2_with fail
     refine (K3.out _ HS3.out).mono ?_
     rintro e w4 ⟨rfl, hS4, hG4⟩
     have HS4 := Lib.hid hS4
     have HJ4 := Lib.hid (HJ.out _ _ _ HJ3.out hG4)
     clear hS4 hG4
     go_wp2
     go_end0
     exact .fin HO.out HS4.out HJ4.out
    | none =>
     have K3 : Hid (∀ W, Scn W B s3 k3 → Calls Tryz.prog 68 #[scP B, .string ⟨#[41]⟩] W _) := Lib.hid (fun W hW => is_not B s3 [41] k3 h3 W hW)
     cases h4 : isB [32] s3 with
     | none =>
      have K4 := Lib.hid (fun W hW => blank_no B s3 k3 h4 W hW)
      have HO := Lib.hid (HQ3.out.bad h3 h4)
      clear h3 h4
      go_wp2_with fail
      refine (K3.out _ HS3.out).mono ?_
      rintro e w4 ⟨rfl, hS4, hG4⟩
      have HS4 := Lib.hid hS4
      have HJ4 := Lib.hid (HJ.out _ _ _ HJ3.out hG4)
      clear hS4 hG4
      go_wp2_with fail
      refine (K4.out _ HS4.out).mono ?_
      rintro e w5 ⟨rfl, hG5⟩
      exact ⟨rfl, .bad HO.out (HF.out _ _ (HJ.out _ _ _ HJ4.out hG5))⟩
     | some s4 =>
      have K4 := Lib.hid (fun W hW => blank_ok B s3 s4 k3 h4 W hW)
      have K5 := Lib.hid (fun W hW hE hS => HOne.out acc s4 k3 W (by have := HQ3.out.cnt; omega) hW hE hS)
      cases h5 : one s4 k3 with
      | none =>
       have HO := Lib.hid (HQ3.out.bad2 h3 h4 h5)
       simp only [h5] at K5
       clear h3 h4 h5
       go_wp2_with fail
       refine (K3.out _ HS3.out).mono ?_
       rintro e w4 ⟨rfl, hS4, hG4⟩
       have HS4 := Lib.hid hS4
       have HJ4 := Lib.hid (HJ.out _ _ _ HJ3.out hG4)
       clear hS4 hG4
       go_wp2_with fail
       refine (K4.out _ HS4.out).mono ?_
       rintro e w5 ⟨rfl, hS5, hG5⟩
       have HS5 := Lib.hid hS5
       have HJ5 := Lib.hid (HJ.out _ _ _ HJ4.out hG5)
       clear hS5 hG5
       go_wp2_with fail
       refine (K5.out _ HJ5.out (HE.out _ _ HJ5.out) HS5.out).mono ?_
       rintro e w6 ⟨rfl, hF6⟩
       exact ⟨rfl, .bad HO.out hF6⟩
      | some p =>
       obtain ⟨y, s5, k5⟩ := p
       have hls := HLen.out _ _ _ h5
       obtain ⟨m5, hm5, hQ5⟩ := HQ3.out.next h3 h4 h5 hls
       have HQ5 := Lib.hid hQ5
       have HLt := Lib.hid (show s5.length < s3.length by have := isB_len h4; simp only [List.length_singleton] at this; simp only at hls; omega)
       simp only [h5] at K5
       clear h3 h4 h5 hls hm5 hQ5
       go_wp2_with fail
       refine (K3.out _ HS3.out).mono ?_
       rintro e w4 ⟨rfl, hS4, hG4⟩
       have HS4 := Lib.hid hS4
       have HJ4 := Lib.hid (HJ.out _ _ _ HJ3.out hG4)
       clear hS4 hG4
       go_wp2_with fail
       refine (K4.out _ HS4.out).mono ?_
       rintro e w5 ⟨rfl, hS5, hG5⟩
       have HS5 := Lib.hid hS5
       have HJ5 := Lib.hid (HJ.out _ _ _ HJ4.out hG5)
       clear hS5 hG5
       go_wp2_with fail
       refine (K5.out _ HJ5.out (HE.out _ _ HJ5.out) HS5.out).mono ?_
       rintro e w6 ⟨rfl, hS6, hJ6⟩
       have HS6 := Lib.hid hS6
       have HJ6 := Lib.hid hJ6
       clear hS6 hJ6
       go_wp2
       go_roundw
       case rel => exact ⟨_, _, _, _, HQ5, HS6, HJ6⟩
       case measure => rw [HL0.out, left_len HS6.out]; exact HLt.out
open Go.RowKit
open Pl (Bs idxB numOk numN setOk setL)
attribute [local go_sem ↓] Go.wp_at_zero Go.wp_at_succ
theorem infoItem : (Tryz.prog.info? 78).map (fun i => (i.zero, i.size, i.bytes)) = some (some (.agg #[.string ⟨#[]⟩, .slice none 0 0, .string ⟨#[]⟩, .slice none 0 0, .bool false, .bool false, .int .i64 0, .int .i64 0]), 8, 104) := by kernel_rfl
theorem itemB_len (sec : Bs → Option SpecP) {s : Bs} {p : ItemP × Bs} (h : itemB sec s = some p) : p.2.length ≤ s.length := by
 have hd : (s.drop (s.takeWhile endI).length).length ≤ s.length := by rw [List.length_drop]; omega
 have hb : ∀ (pk : Bool) (r : Bs) (p : ItemP × Bs), bodyB sec pk r = some p → p.2.length ≤ r.length := by
  intro pk r p h
  unfold bodyB at h
  split at h
  ·
   cases h
  ·
   rename_i X r1 h1
   have e1 := upToB_len h1
   split at h
   ·
    cases h
   ·
    cases hq : bodyPart r1 with
    | none => rw [hq] at h; cases h
    | some q =>
     rw [hq] at h
     simp only [Option.map_some, Option.some.injEq] at h
     subst h
     dsimp only
     unfold bodyPart at hq
     split at hq
     ·
      cases hq; dsimp only; omega
     ·
      rename_i r2 h2
      have e2 := isB_len h2
      simp only [List.length_singleton] at e2
      split at hq
      ·
       cases hq
      ·
       rename_i d1 r3 h3
       have e3 := upToB_len h3
       split at hq
       ·
        cases hq
       ·
        split at hq
        ·
         cases hq
        ·
         rename_i d2 r4 h4
         have e4 := upToB_len h4
         split at hq
         ·
          cases hq
         ·
          split at hq
          ·
           cases hq; dsimp only; omega
          ·
           cases hq
 unfold itemB at h
 split at h
 ·
  split at h
  ·
   rename_i r2 h2
   have := isB_len h2
   have := hb _ _ _ h
   omega
  ·
   rw [itemK_len h]; exact hd
 ·
  rw [itemK_len h]; exact hd
structure ItemsSt (w0 : World) (B bo br base : Nat) (acc : List ItemP) (u : Value) (cs : List Value) (T : Nat → Prop) (W : World) : Prop where
 gr : w0.grownBy W (some B)
 box : W.heap[br]? = some (Obj.cells #[scP B] 62)
 out : W.heap[bo]? = some (Obj.cells #[u] 30)
 own : W.ownsRow base 78 8 u acc.length cs
 its : ItemsC W T acc cs
 fr : ∀ i, T i → base ≤ i ∧ i < W.heap.size ∧ u.ownBlock ≠ some i
 lt : B < base ∧ bo < base ∧ br < base ∧ B ≠ bo ∧ B ≠ br ∧ w0.heap.size ≤ bo ∧ w0.heap.size ≤ br ∧ base ≤ W.heap.size
theorem ItemsSt.step {w0 : World} {B bo br base : Nat} {acc : List ItemP} {u : Value} {cs : List Value} {T : Nat → Prop} {W W1 : World} (st : ItemsSt w0 B bo br base acc u cs T W) (hG : W.grownBy W1 (some B)) : ItemsSt w0 B bo br base acc u cs T W1 := by
 obtain ⟨h1, h2, h3, h4, h5, h6, h7, h8⟩ := st.lt
 have hk : ∀ i o, W.heap[i]? = some o → i ≠ B → W1.heap[i]? = some o := fun i o hi hne => (hG.block i (Array.getElem?_eq_some_iff.1 hi).1 (fun e => hne (Option.some.inj e))).trans hi
 have hz := hG.size
 refine ⟨st.gr.trans hG, hk _ _ st.box (by omega), hk _ _ st.out (by omega), own_kept st.own hG h1, st.its.kept (fun i hi => ?_), fun i hi => ?_, h1, h2, h3, h4, h5, h6, h7, by omega⟩
 ·
  have := st.fr i hi; exact hG.block i this.2.1 (fun e => by have := Option.some.inj e; omega)
 ·
  have := st.fr i hi; exact ⟨this.1, by omega, this.2.2⟩
theorem ItemsSt.draw {w0 : World} {B bo br base : Nat} {acc : List ItemP} {u : Value} {cs : List Value} {T : Nat → Prop} {W : World} (st : ItemsSt w0 B bo br base acc u cs T W) : ItemsSt w0 B bo br base acc u cs T W.drew := st.step ⟨rfl, rfl, rfl, Nat.le_refl _, fun _ _ _ => rfl⟩
theorem ItemsSt.app {w0 : World} {B bo br base : Nat} {acc : List ItemP} {u : Value} {cs : List Value} {T T1 : Nat → Prop} {W0 W1 W9 : World} {o : Obj} {x : ItemP} {vp vn : Value} {g cap : Nat}
  (st : ItemsSt w0 B bo br base acc u cs T W1) (hT : Fresh T1 W0 W1) (h0 : ∀ k, u.ownBlock = some k → k < W0.heap.size) (hb0 : base ≤ W0.heap.size) (hP : SpecAt W1 T1 vp vn x.spec)
  (hown : W9.ownsRow base 78 8 (.slice (some ⟨g, 0, none⟩) (acc.length + 1) cap) (acc.length + 1) (cs ++ itemC vp vn x)) (hgr : (W1.alloc o).grownBy W9 u.ownBlock) (hat : u.ownBlock = some g ∨ g = W1.heap.size + 1) (hg9 : g < W9.heap.size) :
  ItemsSt w0 B bo br base (acc ++ [x]) (.slice (some ⟨g, 0, none⟩) (acc.length + 1) cap) (cs ++ itemC vp vn x) (fun i => T i ∨ T1 i) (W9.setCell ⟨bo, 0, none⟩ (.slice (some ⟨g, 0, none⟩) (acc.length + 1) cap)) := by
 obtain ⟨h1, h2, h3, h4, h5, h6, h7, h8⟩ := st.lt
 have hz := hgr.size
 simp at hz
 have hu : ∀ k, u.ownBlock = some k → base ≤ k := fun k e => (st.own.lt k e).1
 have hal : ∀ i, i < W1.heap.size → (W1.alloc o).heap[i]? = W1.heap[i]? := fun i hi => Below.heap_alloc _ _ _ (by omega)
 have hbl : ∀ i, i < W1.heap.size → u.ownBlock ≠ some i → W9.heap[i]? = W1.heap[i]? := fun i hi hne => (hgr.block i (by simp; omega) (fun e => hne e.symm)).trans (hal i hi)
 have hset : ∀ i, i ≠ bo → (W9.setCell ⟨bo, 0, none⟩ (.slice (some ⟨g, 0, none⟩) (acc.length + 1) cap)).heap[i]? = W9.heap[i]? := fun i hi => Below.heap_setCell _ _ _ _ (by dsimp only; omega)
 have hbo : bo < W1.heap.size := (Array.getElem?_eq_some_iff.1 st.out).1
 have hbr : br < W1.heap.size := (Array.getElem?_eq_some_iff.1 st.box).1
 have hall : ∀ i, (T i ∨ T1 i) → base ≤ i ∧ i < W1.heap.size ∧ u.ownBlock ≠ some i := fun i hi => by
  rcases hi with hi | hi
  ·
   exact st.fr i hi
  ·
   have := hT i hi; exact ⟨by omega, this.2, fun e => by have := h0 i e; omega⟩
 refine ⟨?_, ?_, ?_, ?_, ?_, fun i hi => ?_, h1, h2, h3, h4, h5, h6, h7, by simp; omega⟩
 ·
  refine grown_new (grown_new (grown_new st.gr (World.grownBy_alloc W1 o none) (fun k e => by cases e)) hgr (fun k e => .inl (by have := hu k e; omega))) (grown_put W9 bo 0 _) (fun k e => .inl (by have := Option.some.inj e; omega))
 ·
  exact (hset br (fun e => by
   have e1 := st.box; have e2 := st.out
   rw [e] at e1; rw [e1] at e2
   simp at e2)).trans ((hbl br hbr (fun e => by have := hu br e; omega)).trans st.box)
 ·
  have e9 := (hbl bo hbo (fun e => by have := hu bo e; omega)).trans st.out
  exact (setCell_heap_same e9).trans rfl
 ·
  rw [List.length_append]
  exact ownsRow_setCell_below hown (by dsimp only; omega) _
 ·
  refine ItemsC.kept (w := W1) (ItemsC.snoc (st.its.more (fun i hi => .inl hi)) (hP.more (fun i hi => .inr hi))) (fun i hi => ?_)
  have := hall i hi
  exact (hset i (by omega)).trans (hbl i this.2.1 this.2.2)
 ·
  have := hall i hi
  refine ⟨this.1, by simp; omega, fun e => ?_⟩
  have e' : g = i := by simpa [Value.ownBlock] using e
  rcases hat with h | h
  ·
   exact this.2.2 (by rw [h, e'])
  ·
   omega
def itS (bo br B : Nat) (u : Value) (W : World) : Prop := W.cell? ⟨bo, 0, none⟩ = some u ∧ W.cell? ⟨br, 0, none⟩ = some (scP B) ∧ W.frozen? ⟨bo, 0, none⟩ = false
theorem one_cells {w : World} {b : Nat} {t : TypeId} {x : Value} (h : w.heap[b]? = some (Obj.cells #[x] t)) : w.cell? ⟨b, 0, none⟩ = some x ∧ w.frozen? ⟨b, 0, none⟩ = false := by
 refine ⟨?_, ?_⟩ <;> simp [World.cell?, World.frozen?, h]
theorem ItemsSt.keep {w0 : World} {B bo br base : Nat} {acc : List ItemP} {u : Value} {cs : List Value} {T : Nat → Prop} {W : World} (st : ItemsSt w0 B bo br base acc u cs T W) : itS bo br B u W := ⟨(one_cells st.out).1, (one_cells st.box).1, (one_cells st.out).2⟩
theorem ItemsSt.keepA {w0 : World} {B bo br base : Nat} {acc : List ItemP} {u : Value} {cs : List Value} {T : Nat → Prop} {W : World} (st : ItemsSt w0 B bo br base acc u cs T W) (o : Obj) : itS bo br B u (W.alloc o) := by
 have h1 := (Below.heap_alloc W o _ (Array.getElem?_eq_some_iff.1 st.out).1).trans st.out
 have h2 := (Below.heap_alloc W o _ (Array.getElem?_eq_some_iff.1 st.box).1).trans st.box
 exact ⟨(one_cells h1).1, (one_cells h2).1, (one_cells h1).2⟩
theorem ItemsSt.keepR {w0 : World} {B bo br base : Nat} {acc : List ItemP} {u : Value} {cs : List Value} {T : Nat → Prop} {W W9 : World} {o : Obj} (st : ItemsSt w0 B bo br base acc u cs T W) (hgr : (W.alloc o).grownBy W9 u.ownBlock) : itS bo br B u W9 := by
 obtain ⟨h1, h2, h3, h4, h5, h6, h7, h8⟩ := st.lt
 have hu : ∀ k, u.ownBlock = some k → base ≤ k := fun k e => (st.own.lt k e).1
 have hk : ∀ i x, W.heap[i]? = some x → i < base → W9.heap[i]? = some x := fun i x hi hlt =>
  have hl := (Array.getElem?_eq_some_iff.1 hi).1
  (hgr.block i (by simp; omega) (fun e => by have := hu i e.symm; omega)).trans ((Below.heap_alloc W o _ hl).trans hi)
 have h1 := hk _ _ st.out h2
 have h2 := hk _ _ st.box h3
 exact ⟨(one_cells h1).1, (one_cells h2).1, (one_cells h1).2⟩
def itemR (sec : Bs → Option SpecP) : Rd ItemP := fun s k => (itemB sec s).map fun p => (p.1, p.2, k)
theorem itemsOne (G : Glob) (w0 : World) (B bo br base : Nat) (sec : Bs → Option SpecP) (hsec : SecCon G sec) :
  OneStep G B 103 #[.pointer (some ⟨bo, 0, none⟩), .pointer (some ⟨br, 0, none⟩)] (itemR sec) (fun acc W => ∃ u cs T, ItemsSt w0 B bo br base acc u cs T W) (fun W => w0.grownBy W (some B)) := by
 intro acc s k w hacc hJ hE hS
 obtain ⟨u, cs, T, hst⟩ := hJ
 obtain ⟨i0, hi, hz0, hz1, hz2⟩ := info_parts infoItem
 have K := Lib.hid (fun W hE hS => item_walk G B k sec hsec s W hE hS)
 have HST := Lib.hid hst
 have HSTD := Lib.hid hst.draw
 have HED : Hid (EnvI G w.drew B) := Lib.hid (hE.kept (grown_draws w 1 _))
 have HSD : Hid (Scn w.drew B s k) := Lib.hid (hS.draws 1)
 obtain ⟨c0, c1, f0⟩ := hst.keep
 obtain ⟨c2, c3, f2⟩ := hst.draw.keep
 have hR : itemR sec s k = (itemB sec s).map fun p => (p.1, p.2, k) := rfl
 generalize itemR sec s k = o at *
 clear hE hS hst hsec
 cases h1 : itemB sec s with
 | none =>
  simp only [h1] at K hR
  have HO := Lib.hid hR
  clear hR h1
  go_enter Tryz.func103, Tryz.ntmps103
  go_wp2_with fail
  refine wp_region_any (by kernel_rfl) ?_
  change wpAny _ _ _ _ _ _ _ (World.drew _)
  refine wpAny_ready (rs := [0, 1]) (by kernel_rfl) (by simp) ?_
  refine AllReady.cons rfl (fun K9 hK9 => ?_) ?_
  ·
   go_simp
   refine hK9 _ _ ?_
   clear hK9 K9
   refine wpAny_ready (rs := [1]) (by kernel_rfl) (by simp) ?_
   refine AllReady.cons rfl (fun K9 hK9 => ?_) ?_
   ·
    go_simp
    refine hK9 _ _ ?_
    clear hK9 K9
    refine wpAny_ready (rs := [2]) (by kernel_rfl) (by simp) ?_
    refine AllReady.cons rfl (fun K9 hK9 => ?_) ?_
    ·
     go_simp
     refine (K.out _ HED.out HSD.out).mono ?_
     rintro e w' ⟨hG, rfl⟩
     exact ⟨rfl, by rw [HO.out]; exact ⟨rfl, HSTD.out.gr.trans hG⟩⟩
    exact AllReady.nil
   exact AllReady.nil
  refine AllReady.cons rfl (fun K9 hK9 => ?_) ?_
  ·
   go_simp
   refine hK9 _ _ ?_
   clear hK9 K9
   refine wpAny_ready (rs := [0, 2]) (by kernel_rfl) (by simp) ?_
   refine AllReady.cons rfl (fun K9 hK9 => ?_) ?_
   ·
    go_simp
    refine hK9 _ _ ?_
    clear hK9 K9
    refine wpAny_ready (rs := [2]) (by kernel_rfl) (by simp) ?_
    refine AllReady.cons rfl (fun K9 hK9 => ?_) ?_
    ·
     go_simp
     refine (K.out _ HED.out HSD.out).mono ?_
     rintro e w' ⟨hG, rfl⟩
     exact ⟨rfl, by rw [HO.out]; exact ⟨rfl, HSTD.out.gr.trans hG⟩⟩
    exact AllReady.nil
   refine AllReady.cons rfl (fun K9 hK9 => ?_) ?_
   ·
    go_simp
    refine (K.out _ HED.out HSD.out).mono ?_
    rintro e w' ⟨hG, rfl⟩
    exact ⟨rfl, by rw [HO.out]; exact ⟨rfl, HSTD.out.gr.trans hG⟩⟩
   exact AllReady.nil
  exact AllReady.nil
 | some p =>
  obtain ⟨x, r⟩ := p
  simp only [h1] at K hR
  have HO := Lib.hid hR
  clear hR h1
  go_enter Tryz.func103, Tryz.ntmps103
  go_wp2_with fail
  go_region_law (first
    | (go_simp; go_at_call 104; refine (K.out _ HED.out HSD.out).mono ?_; rintro e w1 ⟨hG, vp, vn, T1, rfl, hT, hP, hS⟩; obtain ⟨Ap, cp, rfl, hq1⟩ := id hP.path; obtain ⟨An, cn, rfl, hq2⟩ := id hP.names; clear hq1 hq2; have HST1 := Lib.hid (HSTD.out.step hG); have HT1 := Lib.hid hT; have HP1 := Lib.hid hP; have HS1 := Lib.hid hS; obtain ⟨d0, d1, e0⟩ := HST1.out.keep; have d4 := (fun o => (HST1.out.keepA o).1); have d5 := (fun o => (HST1.out.keepA o).2.1); have e4 := (fun o => (HST1.out.keepA o).2.2); clear hT hP hS hG)
    | (refine step_append_lies _ (by rfl) _ _ _ (by rfl) base 78 i0 (.agg #[.string ⟨#[]⟩, .slice none 0 0, .string ⟨#[]⟩, .slice none 0 0, .bool false, .bool false, .int .i64 0, .int .i64 0]) 8 104 Tryz.underlying30 hi hz0 hz1 hz2 (by rfl) (by decide) u acc.length cs (by rfl) (HST1.out.own.alloc _) ⟨w1.heap.size, 0, none⟩ 1 1 (itemC (.slice Ap x.spec.path.length cp) (.slice An x.spec.names.length cn) x) (by rfl) (by rfl) (World.news_of_block (World.alloc_heap_new w1 _)) (by simp [itemC, Value.oneCell']) (by decide) (by unfold maxLen; omega) (by omega) (by have := HST1.out.lt; simp; omega) (w1.heap.size + 1) (by simp) ?_; intro g cap w9 hown hgr hat hlt; obtain ⟨d2, d3, e2⟩ := HST1.out.keepR hgr))
  all_goals
   go_end0
   have hl := HSTD.out.lt
   rw [HO.out]
   refine ⟨rfl, ?_, _, _, _, HST1.out.app HT1.out (fun k e => (HSTD.out.own.lt k e).2) hl.2.2.2.2.2.2.2 HP1.out hown hgr hat hlt⟩
   have hS9 := ((HS1.out.then ((Below.refl _ _).alloc (Nat.le_refl _) _)).kept hgr (fun e => by have := (HST1.out.own.lt B e.symm).1; omega))
   exact hS9.kept (grown_put _ bo 0 _) (fun e => by have := Option.some.inj e; omega)
open Go.RowKit
open Pl (Bs idxB numOk numN setOk setL)
theorem enter_fn {P : Program} {f : FuncId} {fn : Func} {c : Code} (hf : P.funcs[f]? = some fn) (hname : (fn.name == "runtime.NumGoroutine") = false) (hb : fn.body = some c) (args : Array Value) (w : World) :
  (callFunc f args).run P w = .ok (.enter f args) w := by
 have h1 : fn.name ≠ "runtime.NumGoroutine" := by simpa using hname
 simp [callFunc, hf, h1, hb]
theorem hasPre_yes {t l r : Bs} (h : isB t l = some r) (w : World) : Calls Tryz.prog 99 #[.string (str l), .string (str t)] w fun e w' => e = .returned (.bool true) ∧ w' = w := by
 have K := hasPre_walk21 (str l) (str t) w
 have p1 : Lib.hasPrefix (str l).data.toList (str t).data.toList = true := by rw [pre_isB, h]; rfl
 rw [p1] at K
 exact K
theorem hasPre_no {t l : Bs} (h : isB t l = none) (w : World) : Calls Tryz.prog 99 #[.string (str l), .string (str t)] w fun e w' => e = .returned (.bool false) ∧ w' = w := by
 have K := hasPre_walk21 (str l) (str t) w
 have p1 : Lib.hasPrefix (str l).data.toList (str t).data.toList = false := by rw [pre_isB, h]; rfl
 rw [p1] at K
 exact K
def newT (w w' : World) : Nat → Prop := fun i => w.heap.size ≤ i ∧ i < w'.heap.size
def ItemsPost (w : World) (B : Nat) (o : Option (List ItemP × Bs × Nat)) (e : Ending) (w' : World) : Prop :=
 w.grownBy w' (some B) ∧ match o with
  | none => e = .panicked [wrongE]
  | some p => ∃ A c cs, e = .returned (.slice A p.1.length c) ∧ RowC w' (newT w w') (.slice A p.1.length c) p.1.length cs ∧ ItemsC w' (newT w w') p.1 cs ∧ Scn w' B p.2.1 p.2.2
theorem items_list (G : Glob) (B k : Nat) (sec : Bs → Option SpecP) (hsec : SecCon G sec) (s r0 : Bs) (hp : isB [40] s = some r0) (w : World) (hE : EnvI G w B) (h : Scn w B s k) :
  Calls Tryz.prog 77 #[scP B] w (ItemsPost w B (listR (itemR sec) s k)) := by
 have hmf : ∀ (fn : Fn) (first cap : Array Value) (w : World), (Instr.makeFunc fn first cap).run Tryz.prog w = .ok (.func fn first cap) w := fun _ _ _ _ => rfl
 have hlt := h.lt
 have HB1 := Lib.hid ((Below.refl w.heap.size w).alloc (Nat.le_refl _) (Obj.cells #[scP B] 62))
 have HS1 := Lib.hid (h.then HB1.out)
 have HX1 := Lib.hid (World.alloc_heap_new w (Obj.cells #[scP B] 62))
 obtain ⟨c0, c1, f0, f1⟩ := HS1.out.cells
 have K1 : Hid (∀ W, Calls Tryz.prog 99 #[.string (str s), .string ⟨#[40]⟩] W _) := Lib.hid (fun W => hasPre_yes hp W)
 obtain ⟨w2, hw2⟩ : ∃ w2, w2 = (w.alloc (Obj.cells #[scP B] 62)).alloc (Obj.cells #[.slice none 0 0] 30) := ⟨_, rfl⟩
 have hB2 : Below w.heap.size w w2 := by rw [hw2]; exact HB1.out.alloc (by simp) _
 have hz2 : w2.heap.size = w.heap.size + 2 := by rw [hw2]; simp
 have hx1 : w2.heap[w.heap.size]? = some (Obj.cells #[scP B] 62) := by rw [hw2]; exact (Below.heap_alloc _ _ _ (by simp)).trans HX1.out
 have hx2 : w2.heap[w.heap.size + 1]? = some (Obj.cells #[.slice none 0 0] 30) := by
  rw [hw2]; have := World.alloc_heap_new (w.alloc (Obj.cells #[scP B] 62)) (Obj.cells #[.slice none 0 0] 30); rw [World.size_alloc] at this; exact this
 have hS2 : Scn w2 B s k := h.then hB2
 have HSt : Hid (ItemsSt w B (w.heap.size + 1) w.heap.size (w.heap.size + 2) [] (.slice none 0 0) [] (fun _ => False) w2) := Lib.hid
  ⟨grown_below hB2 _, hx1, hx2, World.ownsRow_nil _ _ _ _, .nil, (fun i hi => hi.elim), by omega, by omega, by omega, by omega, by omega, by omega, by omega, by omega⟩
 have HG : Hid (∀ W, w.grownBy W (some B) → EnvI G W B) := Lib.hid (fun W hW => hE.kept hW)
 have K2 := Lib.hid (list_walk G B 103 #[.pointer (some ⟨w.heap.size + 1, 0, none⟩), .pointer (some ⟨w.heap.size, 0, none⟩)] (itemR sec) (fun acc W => ∃ u cs T, ItemsSt w B (w.heap.size + 1) w.heap.size (w.heap.size + 2) acc u cs T W) (fun W => w.grownBy W (some B))
  (fun W => enter_fn Tryz.func103 (by kernel_rfl) rfl _ W) (itemsOne G w B _ _ _ sec hsec)
  (fun s k p hp => by
   unfold itemR at hp
   cases hq : itemB sec s with
   | none => rw [hq] at hp; cases hp
   | some q => rw [hq] at hp; simp only [Option.map_some, Option.some.injEq] at hp; subst hp; exact itemB_len sec hq)
  (fun acc W W' hJ hG => by obtain ⟨u, cs, T, hst⟩ := hJ; exact ⟨u, cs, T, hst.step hG⟩)
  (fun acc W hJ => by obtain ⟨u, cs, T, hst⟩ := hJ; exact hst.gr)
  (fun acc W hJ => by obtain ⟨u, cs, T, hst⟩ := hJ; exact HG.out W hst.gr) s k w2 ⟨_, _, _, HSt.out⟩ hS2)
 generalize listR (itemR sec) s k = o at *
 have hw2' := hw2.symm
 have d1 := (one_cells hx1).1
 have d2 := (one_cells hx2).1
 clear hw2 hB2 hz2 hx1 hx2 hS2 HSt h hE hsec hp
 go_enter Tryz.func77, Tryz.ntmps77
 go_wp2_with fail
 refine (K1.out _).mono ?_
 rintro e w1 ⟨rfl, rfl⟩
 go_wp2_with fail
 refine K2.out.mono ?_
 rintro e w3 hP
 cases o with
 | none =>
  obtain ⟨rfl, hG⟩ := hP
  exact ⟨rfl, hG, rfl⟩
 | some p =>
  obtain ⟨rfl, hS3, u, cs, T, hst⟩ := hP
  have hu := (one_cells hst.out).1
  have HS3 := Lib.hid hS3
  have HST := Lib.hid hst
  obtain ⟨A, c, hv, _⟩ := rowC_own hst.own
  subst hv
  clear hS3 hst
  go_wp2
  go_ret
  have hz := HST.out.lt
  exact ⟨HST.out.gr, A, c, cs, rfl, (rowC_own HST.out.own).more (fun i hi => ⟨by omega, hi.2⟩), HST.out.its.more (fun i hi => ⟨by have := HST.out.fr i hi; omega, (HST.out.fr i hi).2.1⟩), HS3.out⟩
open Go.RowKit
open Pl (Bs idxB numOk numN setOk setL)
attribute [local go_sem ↓] Go.wp_at_zero Go.wp_at_succ
structure R2 (B C : Nat) (w w' : World) : Prop where
 os : w'.os = w.os
 tape : w'.tape = w.tape
 output : w'.output = w.output
 size : w.heap.size ≤ w'.heap.size
 block : ∀ i, i < w.heap.size → i ≠ B → i ≠ C → w'.heap[i]? = w.heap[i]?
theorem R2.refl (B C : Nat) (w : World) : R2 B C w w := ⟨rfl, rfl, rfl, Nat.le_refl _, fun _ _ _ _ => rfl⟩
theorem R2.trans {B C : Nat} {w w1 w2 : World} (h : R2 B C w w1) (g : R2 B C w1 w2) : R2 B C w w2 :=
 ⟨g.os.trans h.os, g.tape.trans h.tape, g.output.trans h.output, Nat.le_trans h.size g.size, fun i hi h1 h2 => (g.block i (Nat.lt_of_lt_of_le hi h.size) h1 h2).trans (h.block i hi h1 h2)⟩
theorem R2.of {B C : Nat} {w w1 : World} (h : w.grownBy w1 (some B)) : R2 B C w w1 := ⟨h.os, h.tape, h.output, h.size, fun i hi h1 _ => h.block i hi (fun e => h1 (Option.some.inj e))⟩
theorem R2.ofC {B C : Nat} {w w1 : World} (h : w.grownBy w1 (some C)) : R2 B C w w1 := ⟨h.os, h.tape, h.output, h.size, fun i hi _ h2 => h.block i hi (fun e => h2 (Option.some.inj e))⟩
theorem EnvI.kept2 {G : Glob} {w w1 : World} {B C : Nat} (h : EnvI G w B) (hg : R2 B C w w1) (hC : 20 ≤ C) : EnvI G w1 B := by
 have ho := h.old
 have hl := h.lt
 have key : ∀ i : Nat, i < 20 → w1.heap[i]? = w.heap[i]? := fun i hi => hg.block i (by omega) (by omega) (by omega)
 exact ⟨(World.cell?_of_block (key _ (by decide))).trans h.form, (World.cell?_of_block (key _ (by decide))).trans h.range, (World.cell?_of_block (key _ (by decide))).trans h.max, ho, Nat.lt_of_lt_of_le hl hg.size, h.formI, h.rangeI⟩
abbrev cmP (C : Nat) : Value := .pointer (some ⟨C, 0, none⟩)
structure RsSt (w : World) (B C : Nat) (s : Bs) (k : Nat) (cs : Array Value) (W : World) : Prop where
 gr : R2 B C w W
 sc : Scn W B s k
 cmd : W.heap[C]? = some (Obj.cells cs 33)
 bx : W.heap[w.heap.size]? = some (Obj.cells #[scP B] 62)
 bc : W.heap[w.heap.size + 1]? = some (Obj.cells #[cmP C] 68)
 lt : B < w.heap.size ∧ C < w.heap.size ∧ B ≠ C
theorem RsSt.step {w : World} {B C k k1 : Nat} {s s1 : Bs} {cs : Array Value} {W W1 : World} (st : RsSt w B C s k cs W) (hG : W.grownBy W1 (some B)) (hS : Scn W1 B s1 k1) : RsSt w B C s1 k1 cs W1 := by
 obtain ⟨h1, h2, h3⟩ := st.lt
 have hk : ∀ i x, W.heap[i]? = some x → i ≠ B → W1.heap[i]? = some x := fun i x hi hne => (hG.block i (Array.getElem?_eq_some_iff.1 hi).1 (fun e => hne (Option.some.inj e))).trans hi
 exact ⟨st.gr.trans (.of hG), hS, hk _ _ st.cmd (by omega), hk _ _ st.bx (by omega), hk _ _ st.bc (by omega), h1, h2, h3⟩
theorem RsSt.draw {w : World} {B C k : Nat} {s : Bs} {cs : Array Value} {W : World} (st : RsSt w B C s k cs W) : RsSt w B C s k cs W.drew := st.step ⟨rfl, rfl, rfl, Nat.le_refl _, fun _ _ _ => rfl⟩ (st.sc.draws 1)
theorem RsSt.setC {w : World} {B C k : Nat} {s : Bs} {cs : Array Value} {W : World} (st : RsSt w B C s k cs W) (i : Nat) (v : Value) : RsSt w B C s k (cs.setIfInBounds i v) (W.setCell ⟨C, i, none⟩ v) := by
 obtain ⟨h1, h2, h3⟩ := st.lt
 exact ⟨st.gr.trans (.ofC (grown_put W C i v)), st.sc.kept (grown_put W C i v) (fun e => h3 (Option.some.inj e)), setCell_heap_same st.cmd, (Below.heap_setCell _ _ _ _ (by dsimp only; omega)).trans st.bx, (Below.heap_setCell _ _ _ _ (by dsimp only; omega)).trans st.bc, h1, h2, h3⟩
theorem RsSt.cell {w : World} {B C k : Nat} {s : Bs} {cs : Array Value} {W : World} (st : RsSt w B C s k cs W) {i : Nat} {v : Value} (hi : cs[i]? = some v) : W.cell? ⟨C, i, none⟩ = some v ∧ W.frozen? ⟨C, i, none⟩ = false := by
 have h := st.cmd
 refine ⟨?_, ?_⟩ <;> simp [World.cell?, World.frozen?, h, hi]
theorem RsSt.start {w : World} {B C k : Nat} {s : Bs} {cs : Array Value} (hS : Scn w B s k) (hC : w.heap[C]? = some (Obj.cells cs 33)) (hne : B ≠ C) : RsSt w B C s k cs ((w.alloc (Obj.cells #[scP B] 62)).alloc (Obj.cells #[cmP C] 68)) := by
 have hlt := hS.lt
 have hltC := (Array.getElem?_eq_some_iff.1 hC).1
 have hB2 : Below w.heap.size w ((w.alloc (Obj.cells #[scP B] 62)).alloc (Obj.cells #[cmP C] 68)) := ((Below.refl _ _).alloc (Nat.le_refl _) _).alloc (by simp) _
 refine ⟨.of (grown_below hB2 _), hS.then hB2, (hB2.block C hltC).trans hC, (Below.heap_alloc _ _ _ (by simp)).trans (World.alloc_heap_new _ _), ?_, hlt, hltC, hne⟩
 have := World.alloc_heap_new (w.alloc (Obj.cells #[scP B] 62)) (Obj.cells #[cmP C] 68)
 rw [World.size_alloc] at this
 exact this
def rsS (n B C : Nat) (W : World) : Prop := W.cell? ⟨n, 0, none⟩ = some (scP B) ∧ W.cell? ⟨n + 1, 0, none⟩ = some (cmP C)
theorem RsSt.keep {w : World} {B C k : Nat} {s : Bs} {cs : Array Value} {W : World} (st : RsSt w B C s k cs W) : rsS w.heap.size B C W := ⟨(one_cells st.bx).1, (one_cells st.bc).1⟩
def RestPost {α : Type} (w : World) (B C : Nat) (Q : World → α → Array Value → Prop) (o : Option (α × Bs × Nat)) (e : Ending) (w' : World) : Prop :=
 R2 B C w w' ∧ match o with
  | none => e = .panicked [wrongE]
  | some p => e = .returned (.tuple #[]) ∧ Scn w' B p.2.1 p.2.2 ∧ ∃ cs, w'.heap[C]? = some (Obj.cells cs 33) ∧ Q w' p.1 cs
theorem RestPost.bad {α : Type} {w w' : World} {B C : Nat} {Q : World → α → Array Value → Prop} {o : Option (α × Bs × Nat)} (hG : R2 B C w w') (ho : o = none) : RestPost w B C Q o (.panicked [wrongE]) w' := ⟨hG, by subst ho; rfl⟩
theorem RsSt.fin {α : Type} {w W : World} {B C k : Nat} {s : Bs} {cs : Array Value} (st : RsSt w B C s k cs W) {Q : World → α → Array Value → Prop} {o : Option (α × Bs × Nat)} {x : α} (ho : o = some (x, s, k)) (hQ : Q W x cs) : RestPost w B C Q o (.returned (.tuple #[])) W := ⟨st.gr, by subst ho; exact ⟨rfl, st.sc, cs, st.cmd, hQ⟩⟩
def ArgsQ (w : World) (cs : Array Value) : World → List Bs → Array Value → Prop := fun w' l cs' => ∃ A c, cs' = cs.setIfInBounds 3 (.slice A l.length c) ∧ RowC w' (newT w w') (.slice A l.length c) l.length (l.map strV)
open Go.RowKit
open Pl (Bs)
theorem str_neb' {a b : Bs} (h : a ≠ b) : ((str a).toList == b) = false := by
 have : ¬ (str a).toList = b := by rw [Lib.toList_data]; exact fun e => h (by have : bs (str a) = b := e; rw [← this, bs_str])
 simpa using this
structure CmdV where
 tag : ByteArray
 name : ByteArray
 uid : Bool
 aA : Option Addr
 aN : Nat
 aC : Nat
 sA : Option Addr
 sN : Nat
 sC : Nat
 how : Int
 flags : Int
 silent : Bool
 date : Int
 body : ByteArray
 iA : Option Addr
 iN : Nat
 iC : Nat
 kA : Option Addr
 kN : Nat
 kC : Nat
abbrev CmdV.cells (c : CmdV) : Array Value := #[.string c.tag, .string c.name, .bool c.uid, .slice c.aA c.aN c.aC, .slice c.sA c.sN c.sC, .int .i64 c.how, .int .i64 c.flags, .bool c.silent, .int .i64 c.date, .string c.body, .slice c.iA c.iN c.iC, .slice c.kA c.kN c.kC]
abbrev CmdV.obj (c : CmdV) : Obj := Obj.cells c.cells 33
def cmd0 (tg nm : Bs) (uid : Bool) : CmdV := ⟨str tg, str nm, uid, none, 0, 0, none, 0, 0, 0, 0, false, -1, ⟨#[]⟩, none, 0, 0, none, 0, 0⟩
def cmdZ : CmdV := ⟨⟨#[]⟩, ⟨#[]⟩, false, none, 0, 0, none, 0, 0, 0, 0, false, 0, ⟨#[]⟩, none, 0, 0, none, 0, 0⟩
theorem CmdV.cell {c : CmdV} {W : World} {b : Nat} (h : W.heap[b]? = some c.obj) : (W.cell? ⟨b, 0, none⟩ = some (.string c.tag) ∧ W.cell? ⟨b, 1, none⟩ = some (.string c.name) ∧ W.cell? ⟨b, 2, none⟩ = some (.bool c.uid) ∧ W.cell? ⟨b, 3, none⟩ = some (.slice c.aA c.aN c.aC) ∧ W.cell? ⟨b, 4, none⟩ = some (.slice c.sA c.sN c.sC) ∧ W.cell? ⟨b, 5, none⟩ = some (.int .i64 c.how) ∧ W.cell? ⟨b, 6, none⟩ = some (.int .i64 c.flags) ∧ W.cell? ⟨b, 7, none⟩ = some (.bool c.silent) ∧ W.cell? ⟨b, 8, none⟩ = some (.int .i64 c.date) ∧ W.cell? ⟨b, 9, none⟩ = some (.string c.body) ∧ W.cell? ⟨b, 10, none⟩ = some (.slice c.iA c.iN c.iC) ∧ W.cell? ⟨b, 11, none⟩ = some (.slice c.kA c.kN c.kC)) ∧ ∀ i, W.frozen? ⟨b, i, none⟩ = false := by
 refine ⟨⟨?_, ?_, ?_, ?_, ?_, ?_, ?_, ?_, ?_, ?_, ?_, ?_⟩, fun i => ?_⟩ <;> simp [World.cell?, World.frozen?, h]
structure PsSt (w : World) (s : Bs) (k : Nat) (c : CmdV) (W : World) : Prop where
 below : Below w.heap.size w W
 cmd : W.heap[w.heap.size]? = some c.obj
 err : W.heap[w.heap.size + 1]? = some (Obj.cells #[.nilIface] 35)
 sc : Scn W (w.heap.size + 1 + 1) s k
theorem PsSt.step {w : World} {s s1 : Bs} {k k1 : Nat} {c : CmdV} {W W1 : World} (st : PsSt w s k c W) (hG : W.grownBy W1 (some (w.heap.size + 1 + 1))) (hS : Scn W1 (w.heap.size + 1 + 1) s1 k1) : PsSt w s1 k1 c W1 := by
 have hk : ∀ i x, W.heap[i]? = some x → i ≠ w.heap.size + 1 + 1 → W1.heap[i]? = some x := fun i x hi hne => (hG.block i (Array.getElem?_eq_some_iff.1 hi).1 (fun e => hne (Option.some.inj e))).trans hi
 exact ⟨st.below.grown hG st.below.size (fun k e => by rw [← Option.some.inj e]; omega), hk _ _ st.cmd (by omega), hk _ _ st.err (by omega), hS⟩
theorem PsSt.then {w : World} {s : Bs} {k : Nat} {c : CmdV} {W W1 : World} (st : PsSt w s k c W) (hB : Below W.heap.size W W1) : PsSt w s k c W1 := st.step (grown_below hB _) (st.sc.then hB)
theorem PsSt.set {w : World} {s : Bs} {k : Nat} {c c1 : CmdV} {W : World} (st : PsSt w s k c W) (i : Nat) (v : Value) (hc : (Obj.cells (c.cells.setIfInBounds i v) 33 : Obj) = c1.obj) : PsSt w s k c1 (W.setCell ⟨w.heap.size, i, none⟩ v) := by
 exact ⟨st.below.setCell (Nat.le_refl _) _, (setCell_heap_same st.cmd).trans (congrArg some hc), (Below.heap_setCell _ _ _ _ (by dsimp only; omega)).trans st.err, st.sc.kept (grown_put _ _ _ _) (fun e => by have := Option.some.inj e; omega)⟩
def put12 (W : World) (b : Nat) (c : CmdV) : World := ((((((((((((W.setCell ⟨b, 0, none⟩ (.string c.tag)).setCell ⟨b, 1, none⟩ (.string c.name)).setCell ⟨b, 2, none⟩ (.bool c.uid)).setCell ⟨b, 3, none⟩ (.slice c.aA c.aN c.aC)).setCell ⟨b, 4, none⟩ (.slice c.sA c.sN c.sC)).setCell ⟨b, 5, none⟩ (.int .i64 c.how)).setCell ⟨b, 6, none⟩ (.int .i64 c.flags)).setCell ⟨b, 7, none⟩ (.bool c.silent)).setCell ⟨b, 8, none⟩ (.int .i64 c.date)).setCell ⟨b, 9, none⟩ (.string c.body)).setCell ⟨b, 10, none⟩ (.slice c.iA c.iN c.iC)).setCell ⟨b, 11, none⟩ (.slice c.kA c.kN c.kC))
theorem put12_heap {W : World} {b : Nat} {o : CmdV} (h : W.heap[b]? = some o.obj) (c : CmdV) : (put12 W b c).heap[b]? = some c.obj := by
 have h0 := setCell_heap_same (i := 0) (v := .string c.tag) h
 have h1 := setCell_heap_same (i := 1) (v := .string c.name) h0
 have h2 := setCell_heap_same (i := 2) (v := .bool c.uid) h1
 have h3 := setCell_heap_same (i := 3) (v := .slice c.aA c.aN c.aC) h2
 have h4 := setCell_heap_same (i := 4) (v := .slice c.sA c.sN c.sC) h3
 have h5 := setCell_heap_same (i := 5) (v := .int .i64 c.how) h4
 have h6 := setCell_heap_same (i := 6) (v := .int .i64 c.flags) h5
 have h7 := setCell_heap_same (i := 7) (v := .bool c.silent) h6
 have h8 := setCell_heap_same (i := 8) (v := .int .i64 c.date) h7
 have h9 := setCell_heap_same (i := 9) (v := .string c.body) h8
 have h10 := setCell_heap_same (i := 10) (v := .slice c.iA c.iN c.iC) h9
 have h11 := setCell_heap_same (i := 11) (v := .slice c.kA c.kN c.kC) h10
 unfold put12
 rw [h11]
 simp
theorem put12_grown (W : World) (b : Nat) (c : CmdV) : W.grownBy (put12 W b c) (some b) := by
 unfold put12
 have g1 := (grown_put W b 0 (.string c.tag)).trans (grown_put _ b 1 (.string c.name))
 have g2 := g1.trans (grown_put _ b 2 (.bool c.uid))
 have g3 := g2.trans (grown_put _ b 3 (.slice c.aA c.aN c.aC))
 have g4 := g3.trans (grown_put _ b 4 (.slice c.sA c.sN c.sC))
 have g5 := g4.trans (grown_put _ b 5 (.int .i64 c.how))
 have g6 := g5.trans (grown_put _ b 6 (.int .i64 c.flags))
 have g7 := g6.trans (grown_put _ b 7 (.bool c.silent))
 have g8 := g7.trans (grown_put _ b 8 (.int .i64 c.date))
 have g9 := g8.trans (grown_put _ b 9 (.string c.body))
 have g10 := g9.trans (grown_put _ b 10 (.slice c.iA c.iN c.iC))
 have g11 := g10.trans (grown_put _ b 11 (.slice c.kA c.kN c.kC))
 exact g11
theorem PsSt.put {w : World} {s : Bs} {k : Nat} {c : CmdV} {W : World} (st : PsSt w s k c W) (c1 : CmdV) : PsSt w s k c1 (put12 W w.heap.size c1) := by
 have hg := put12_grown W w.heap.size c1
 exact ⟨st.below.grown hg st.below.size (fun k e => by rw [← Option.some.inj e]; exact Nat.le_refl _), put12_heap st.cmd c1, (hg.block _ (Array.getElem?_eq_some_iff.1 st.err).1 (fun e => by have := Option.some.inj e; omega)).trans st.err, st.sc.kept hg (fun e => by have := Option.some.inj e; omega)⟩
theorem PsSt.start {w : World} {s : Bs} (hs : s.length ≤ 1000000) : PsSt w s 0 cmdZ (((w.alloc cmdZ.obj).alloc (Obj.cells #[.nilIface] 35)).alloc (Obj.cells #[.string (str s), .int .i64 0] 64)) := by
 have hB1 : Below w.heap.size w (w.alloc cmdZ.obj) := (Below.refl _ _).alloc (Nat.le_refl _) _
 have hB2 := hB1.alloc (by simp) (Obj.cells #[.nilIface] 35)
 have hB3 := hB2.alloc (by simp; omega) (Obj.cells #[.string (str s), .int .i64 0] 64)
 refine ⟨hB3, (Below.heap_alloc _ _ _ (by simp; omega)).trans ((Below.heap_alloc _ _ _ (by simp)).trans (World.alloc_heap_new _ _)), (Below.heap_alloc _ _ _ (by simp)).trans ?_, ⟨?_, hs, by omega⟩⟩
 ·
  have := World.alloc_heap_new (w.alloc cmdZ.obj) (Obj.cells #[.nilIface] 35); rw [World.size_alloc] at this; exact this
 ·
  have := World.alloc_heap_new ((w.alloc cmdZ.obj).alloc (Obj.cells #[.nilIface] 35)) (Obj.cells #[.string (str s), .int .i64 0] 64); rw [World.size_alloc, World.size_alloc] at this; exact this
open Go.RowKit
open Pl (Bs)
def uidN : List Bs := [[67, 79, 80, 89], [83, 84, 79, 82, 69], [70, 69, 84, 67, 72], [83, 69, 65, 82, 67, 72]]
open Go.RowKit
open Pl (Bs idxB numOk numN setOk setL)
attribute [local go_sem ↓] Go.wp_at_zero Go.wp_at_succ
def FetchQ (w : World) (cs : Array Value) : World → List (Int × Int) × List ItemP → Array Value → Prop := fun w' p cs' => ∃ A c A2 c2 ics, cs' = (cs.setIfInBounds 4 (.slice A p.1.length c)).setIfInBounds 10 (.slice A2 p.2.length c2) ∧ RowC w' (newT w w') (.slice A p.1.length c) p.1.length (flat p.1) ∧ RowC w' (newT w w') (.slice A2 p.2.length c2) p.2.length ics ∧ ItemsC w' (newT w w') p.2 ics
theorem RsSt.fin2 {α : Type} {w W : World} {B C k : Nat} {s : Bs} {cs : Array Value} (st : RsSt w B C s k cs W) {Q : World → α → Array Value → Prop} {x : α} (hQ : Q W x cs) : RestPost w B C Q (some (x, s, k)) (.returned (.tuple #[])) W := st.fin rfl hQ
open Go.RowKit
open Pl (Bs idxB numOk numN setOk setL)
inductive KeyP where
 | mk (name text field : Bs) (n : Int) (set : List (Int × Int)) (kids : List KeyP)
def KeyP.name : KeyP → Bs | .mk a _ _ _ _ _ => a
def KeyP.text : KeyP → Bs | .mk _ a _ _ _ _ => a
def KeyP.field : KeyP → Bs | .mk _ _ a _ _ _ => a
def KeyP.n : KeyP → Int | .mk _ _ _ a _ _ => a
def KeyP.set : KeyP → List (Int × Int) | .mk _ _ _ _ a _ => a
def KeyP.kids : KeyP → List KeyP | .mk _ _ _ _ _ a => a
def keyC (vs vk : Value) (x : KeyP) : List Value := [.string (str x.name), .string (str x.text), .string (str x.field), .int .i64 x.n, vs, vk]
inductive KeysC (w : World) (T : Nat → Prop) : List KeyP → List Value → Prop
 | nil : KeysC w T [] []
 | cons {x : KeyP} {vs vk : Value} {kcs : List Value} {l : List KeyP} {cs : List Value} : RowC w T vs x.set.length (flat x.set) → RowC w T vk x.kids.length kcs → KeysC w T x.kids kcs → KeysC w T l cs → KeysC w T (x :: l) (keyC vs vk x ++ cs)
theorem KeysC.kept {w w1 : World} {T : Nat → Prop} {l : List KeyP} {cs : List Value} (h : KeysC w T l cs) (hk : ∀ i, T i → w1.heap[i]? = w.heap[i]?) : KeysC w1 T l cs := by
 induction h with
 | nil => exact .nil
 | cons h1 h2 _ _ ih1 ih2 => exact .cons (h1.kept hk) (h2.kept hk) ih1 ih2
theorem KeysC.more {w : World} {T T' : Nat → Prop} {l : List KeyP} {cs : List Value} (h : KeysC w T l cs) (hk : ∀ i, T i → T' i) : KeysC w T' l cs := by
 induction h with
 | nil => exact .nil
 | cons h1 h2 _ _ ih1 ih2 => exact .cons (h1.more hk) (h2.more hk) ih1 ih2
theorem KeysC.snoc {w : World} {T : Nat → Prop} {l : List KeyP} {cs : List Value} (h : KeysC w T l cs) {x : KeyP} {vs vk : Value} {kcs : List Value} (h1 : RowC w T vs x.set.length (flat x.set)) (h2 : RowC w T vk x.kids.length kcs) (h3 : KeysC w T x.kids kcs) : KeysC w T (l ++ [x]) (cs ++ keyC vs vk x) := by
 induction h with
 | nil => have := KeysC.cons h1 h2 h3 (KeysC.nil (w := w) (T := T)); simpa using this
 | cons g1 g2 g3 _ _ ih => rw [List.cons_append, List.append_assoc]; exact .cons g1 g2 g3 ih
theorem KeysC.len {w : World} {T : Nat → Prop} {l : List KeyP} {cs : List Value} (h : KeysC w T l cs) : cs.length = l.length * 6 := by
 induction h with
 | nil => rfl
 | cons _ _ _ _ _ ih => simp only [List.length_append, List.length_cons, ih]; simp [keyC]; omega
structure KeyAt (w : World) (T : Nat → Prop) (vs vk : Value) (kcs : List Value) (x : KeyP) : Prop where
 set : RowC w T vs x.set.length (flat x.set)
 row : RowC w T vk x.kids.length kcs
 kids : KeysC w T x.kids kcs
theorem KeyAt.kept {w w1 : World} {T : Nat → Prop} {vs vk : Value} {kcs : List Value} {x : KeyP} (h : KeyAt w T vs vk kcs x) (hk : ∀ i, T i → w1.heap[i]? = w.heap[i]?) : KeyAt w1 T vs vk kcs x := ⟨h.set.kept hk, h.row.kept hk, h.kids.kept hk⟩
theorem KeyAt.more {w : World} {T T' : Nat → Prop} {vs vk : Value} {kcs : List Value} {x : KeyP} (h : KeyAt w T vs vk kcs x) (hk : ∀ i, T i → T' i) : KeyAt w T' vs vk kcs x := ⟨h.set.more hk, h.row.more hk, h.kids.more hk⟩
def KeyPost (w : World) (B : Nat) (o : Option (KeyP × Bs × Nat)) (e : Ending) (w' : World) : Prop :=
 w.grownBy w' (some B) ∧ match o with
  | none => e = .panicked [wrongE]
  | some p => ∃ As cs Ak ck kcs, e = .returned (.agg #[.string (str p.1.name), .string (str p.1.text), .string (str p.1.field), .int .i64 p.1.n, .slice As p.1.set.length cs, .slice Ak p.1.kids.length ck]) ∧
    KeyAt w' (newT w w') (.slice As p.1.set.length cs) (.slice Ak p.1.kids.length ck) kcs p.1 ∧ Scn w' B p.2.1 p.2.2
def KeyCon (G : Glob) (B : Nat) (K : Nat → Prop) (sub : Rd KeyP) : Prop :=
 ∀ (s : Bs) (k : Nat) (W : World), (K k ∨ (sub s k).isSome = true) → EnvI G W B → Scn W B s k → Calls Tryz.prog 106 #[scP B] W (KeyPost W B (sub s k))
def kidsR (sub : Rd KeyP) : Nat → Rd (List KeyP)
 | 0, s, k => some ([], s, k)
 | n + 1, s, k => match isB [32] s with
  | none => none
  | some s1 => match sub s1 k with
   | none => none
   | some (x, s2, k2) => (kidsR sub n s2 k2).map fun p => (x :: p.1, p.2)
def KidsPost (w : World) (B : Nat) (o : Option (List KeyP × Bs × Nat)) (e : Ending) (w' : World) : Prop :=
 w.grownBy w' (some B) ∧ match o with
  | none => e = .panicked [wrongE]
  | some p => ∃ A c cs, e = .returned (.slice A p.1.length c) ∧ RowC w' (newT w w') (.slice A p.1.length c) p.1.length cs ∧ KeysC w' (newT w w') p.1 cs ∧ Scn w' B p.2.1 p.2.2
structure KeysSt (w : World) (B : Nat) (acc : List KeyP) (u : Value) (cs : List Value) (T : Nat → Prop) (W : World) : Prop where
 gr : w.grownBy W (some B)
 own : W.ownsRow w.heap.size 51 6 u acc.length cs
 its : KeysC W T acc cs
 fr : ∀ i, T i → w.heap.size ≤ i ∧ i < W.heap.size ∧ u.ownBlock ≠ some i
 old : B < w.heap.size
theorem KeysSt.step {w : World} {B : Nat} {acc : List KeyP} {u : Value} {cs : List Value} {T : Nat → Prop} {W W1 : World} (st : KeysSt w B acc u cs T W) (hG : W.grownBy W1 (some B)) : KeysSt w B acc u cs T W1 := by
 have ho := st.old
 have hz := hG.size
 refine ⟨st.gr.trans hG, own_kept st.own hG ho, st.its.kept (fun i hi => ?_), fun i hi => ?_, ho⟩
 ·
  have := st.fr i hi; exact hG.block i this.2.1 (fun e => by have := Option.some.inj e; omega)
 ·
  have := st.fr i hi; exact ⟨this.1, by omega, this.2.2⟩
theorem KeysSt.app {w : World} {B : Nat} {acc : List KeyP} {u : Value} {cs : List Value} {T : Nat → Prop} {W0 W1 W9 : World} {o : Obj} {x : KeyP} {vs vk : Value} {kcs : List Value} {g cap : Nat}
  (st : KeysSt w B acc u cs T W1) (h0 : ∀ k, u.ownBlock = some k → k < W0.heap.size) (hb0 : w.heap.size ≤ W0.heap.size) (hP : KeyAt W1 (newT W0 W1) vs vk kcs x)
  (hown : W9.ownsRow w.heap.size 51 6 (.slice (some ⟨g, 0, none⟩) (acc.length + 1) cap) (acc.length + 1) (cs ++ keyC vs vk x)) (hgr : (W1.alloc o).grownBy W9 u.ownBlock) (hat : u.ownBlock = some g ∨ g = W1.heap.size + 1) :
  KeysSt w B (acc ++ [x]) (.slice (some ⟨g, 0, none⟩) (acc.length + 1) cap) (cs ++ keyC vs vk x) (fun i => T i ∨ newT W0 W1 i) W9 := by
 have ho := st.old
 have hz := hgr.size
 simp at hz
 have hu : ∀ k, u.ownBlock = some k → w.heap.size ≤ k := fun k e => (st.own.lt k e).1
 have hbl : ∀ i, i < W1.heap.size → u.ownBlock ≠ some i → W9.heap[i]? = W1.heap[i]? := fun i hi hne => (hgr.block i (by simp; omega) (fun e => hne e.symm)).trans (Below.heap_alloc _ _ _ hi)
 have hall : ∀ i, (T i ∨ newT W0 W1 i) → w.heap.size ≤ i ∧ i < W1.heap.size ∧ u.ownBlock ≠ some i := fun i hi => by
  rcases hi with hi | hi
  ·
   exact st.fr i hi
  ·
   exact ⟨Nat.le_trans hb0 hi.1, hi.2, fun e => by have := h0 i e; have := hi.1; omega⟩
 refine ⟨?_, ?_, ?_, fun i hi => ?_, ho⟩
 ·
  exact grown_new (grown_new st.gr (World.grownBy_alloc W1 o none) (fun k e => by cases e)) hgr (fun k e => .inl (hu k e))
 ·
  rw [List.length_append]; exact hown
 ·
  refine KeysC.kept (w := W1) (KeysC.snoc (st.its.more (fun i hi => .inl hi)) (hP.set.more (fun i hi => .inr hi)) (hP.row.more (fun i hi => .inr hi)) (hP.kids.more (fun i hi => .inr hi))) (fun i hi => ?_)
  have := hall i hi
  exact hbl i this.2.1 this.2.2
 ·
  have := hall i hi
  refine ⟨this.1, by omega, fun e => ?_⟩
  have e' : g = i := by simpa [Value.ownBlock] using e
  rcases hat with h | h
  ·
   exact this.2.2 (by rw [h, e'])
  ·
   omega
structure KidSt (sub : Rd KeyP) (n : Nat) (s : Bs) (k : Nat) (acc : List KeyP) (sj : Bs) (kj : Nat) : Prop where
 le : acc.length ≤ n
 kle : k ≤ kj
 spec : kidsR sub n s k = (kidsR sub (n - acc.length) sj kj).map fun p => (acc ++ p.1, p.2)
theorem infoKey : (Tryz.prog.info? 51).map (fun i => (i.zero, i.size, i.bytes)) = some (some (.agg #[.string ⟨#[]⟩, .string ⟨#[]⟩, .string ⟨#[]⟩, .int .i64 0, .slice none 0 0, .slice none 0 0]), 6, 104) := by kernel_rfl
theorem kids_walk (G : Glob) (B k n : Nat) (hn : n ≤ 1000) (K : Nat → Prop) (hK : ∀ a b, K a → a ≤ b → K b) (sub : Rd KeyP) (hsub : KeyCon G B K sub) (hmono : ∀ s k p, sub s k = some p → k ≤ p.2.2) (s : Bs) (hv : K k ∨ (kidsR sub n s k).isSome = true) (w : World) (hE : EnvI G w B) (hS : Scn w B s k) :
  Calls Tryz.prog 136 #[scP B, .int .i64 n] w (KidsPost w B (kidsR sub n s k)) := by
 obtain ⟨i0, hi, hz0, hz1, hz2⟩ := info_parts infoKey
 have hBl := hS.lt
 have HS0 := Lib.hid hS
 have HE := Lib.hid hE
 have HSub := Lib.hid hsub
 have HMono := Lib.hid hmono
 have HV := Lib.hid hv
 have HK := Lib.hid hK
 clear hS hE hsub hmono hv hK
 go_enter Tryz.func136, Tryz.ntmps136
 go_wp2
 go_loopw [5, 7] (fun u i wr => ∃ (acc : List KeyP) (sj : Bs) (kj : Nat) (cs : List Value) (T : Nat → Prop), i = .int .i64 acc.length ∧ Hid (KidSt sub n s k acc sj kj) ∧ Hid (KeysSt w B acc u cs T wr) ∧ Hid (Scn wr B sj kj)) (fun _ i _ => n - (intOf i).toNat)
 case atStart => exact ⟨[], s, k, [], fun _ => False, rfl, Lib.hid ⟨Nat.zero_le _, Nat.le_refl _, by simp⟩, Lib.hid ⟨grown_refl w _, World.ownsRow_nil _ _ _ _, .nil, fun i h => h.elim, hBl⟩, HS0⟩
 case round =>
  obtain ⟨acc, sj, kj, cs, T, rfl, HQ, HO, HS⟩ := hrel
  have hj := HQ.out.le
  by_cases hjn : acc.length < n
  ·
   obtain ⟨r, hr⟩ : ∃ r, n - acc.length = r + 1 := ⟨n - acc.length - 1, by omega⟩
   have hsp := HQ.out.spec
   rw [hr] at hsp
   cases h1 : isB [32] sj with
   | none =>
    have HB := Lib.hid (show kidsR sub n s k = none by rw [hsp, kidsR, h1]; rfl)
    have K1 := Lib.hid (fun W hW => blank_no B sj kj h1 W hW)
    clear hsp h1
    go_wp2_with fail
    refine (K1.out _ HS.out).mono ?_
    rintro e w1 ⟨rfl, hG1⟩
    exact ⟨rfl, HO.out.gr.trans hG1, by rw [HB.out]⟩
   | some s1 =>
    have K1 := Lib.hid (fun W hW => blank_ok B sj s1 kj h1 W hW)
    have hvj : K kj ∨ (sub s1 kj).isSome = true := by
     rcases HV.out with h | h
     ·
      exact .inl (HK.out _ _ h HQ.out.kle)
     ·
      right
      rw [hsp, kidsR, h1] at h
      cases hq : sub s1 kj with
      | none => simp only [hq] at h; cases h
      | some q => rfl
    have K2 := Lib.hid (fun W hE hW => HSub.out s1 kj W hvj hE hW)
    cases h2 : sub s1 kj with
    | none =>
     have HB := Lib.hid (show kidsR sub n s k = none by rw [hsp, kidsR, h1]; simp only [h2]; rfl)
     rw [h2] at K2
     clear hsp h1 h2 hvj
     go_wp2_with fail
     refine (K1.out _ HS.out).mono ?_
     rintro e w1 ⟨rfl, hS1, hG1⟩
     have HS1 := Lib.hid hS1
     have HG1 := Lib.hid (HO.out.gr.trans hG1)
     have HE1 := Lib.hid (HE.out.kept HG1.out)
     clear hS1 hG1
     go_wp2_with fail
     refine (K2.out _ HE1.out HS1.out).mono ?_
     rintro e w2 ⟨hG2, rfl⟩
     exact ⟨rfl, HG1.out.trans hG2, by rw [HB.out]⟩
    | some p =>
     obtain ⟨x, s2, k2⟩ := p
     have HN : Hid (KidSt sub n s k (acc ++ [x]) s2 k2) := Lib.hid ⟨by simp; omega, Nat.le_trans HQ.out.kle (HMono.out _ _ _ h2), by
      rw [hsp, kidsR, h1]
      simp only [h2]
      rw [Option.map_map, List.length_append, List.length_singleton, show n - (acc.length + 1) = r by omega]
      congr 1
      funext z
      simp⟩
     have HLn := Lib.hid (show (acc ++ [x]).length = acc.length + 1 by simp)
     rw [h2] at K2
     clear hsp h1 h2 hvj
     go_wp2_with fail
     refine (K1.out _ HS.out).mono ?_
     rintro e w1 ⟨rfl, hS1, hG1⟩
     have HS1 := Lib.hid hS1
     have HO1 := Lib.hid (HO.out.step hG1)
     have HE1 := Lib.hid (HE.out.kept HO1.out.gr)
     clear hS1 hG1
     go_wp2_with fail
     refine (K2.out _ HE1.out HS1.out).mono ?_
     rintro e w2 ⟨hG2, As, cs2, Ak, ck, kcs, rfl, hP, hS2⟩
     have HS2 := Lib.hid hS2
     have HP2 := Lib.hid hP
     have HO2 := Lib.hid (HO1.out.step hG2)
     have zw2 := HO2.out.gr.size
     have HW1 := Lib.hid (show (∀ k, u5.ownBlock = some k → k < w1.heap.size) ∧ w.heap.size ≤ w1.heap.size from ⟨fun k e => (HO1.out.own.lt k e).2, HO1.out.gr.size⟩)
     clear hS2 hG2 hP
     go_wp2_with (at_builtin; refine wpList_append_lies _ (by rfl) _ _ _ (by rfl) w.heap.size 51 i0 (.agg #[.string ⟨#[]⟩, .string ⟨#[]⟩, .string ⟨#[]⟩, .int .i64 0, .slice none 0 0, .slice none 0 0]) 6 104 Tryz.underlying31 hi hz0 hz1 hz2 (by rfl) (by decide) u5 acc.length cs (by rfl) (HO2.out.own.alloc _) ⟨w2.heap.size, 0, none⟩ 1 1 (keyC (.slice As x.set.length cs2) (.slice Ak x.kids.length ck) x) (by rfl) (by rfl) (World.news_of_block (World.alloc_heap_new w2 _)) (by simp [keyC, Value.oneCell']) (by decide) (by unfold maxLen; omega) (by omega) (by simp; omega) (w2.heap.size + 1) (by simp) ?_)
     intro g cap w9 hown hgr hat hlt
     have HO9 := Lib.hid (HO2.out.app HW1.out.1 HW1.out.2 HP2.out hown hgr hat)
     have HS9 := Lib.hid ((HS2.out.then ((Below.refl _ _).alloc (Nat.le_refl _) _)).kept hgr (fun e => by have := (HO2.out.own.lt B e.symm).1; omega))
     clear hown hgr hat hlt
     go_wp2
     go_roundw
     case rel => exact ⟨acc ++ [x], s2, k2, _, _, by rw [HLn.out]; go_num, HN, HO9, HS9⟩
     case measure => simp [intOf]; omega
  ·
   obtain rfl : n = acc.length := by omega
   have HB := Lib.hid (show kidsR sub acc.length s k = some (acc, sj, kj) by rw [HQ.out.spec, Nat.sub_self, kidsR]; simp)
   obtain ⟨A, c, hu, _⟩ := rowC_own HO.out.own
   subst hu
   go_wp2
   go_ret
   exact ⟨HO.out.gr, by rw [HB.out]; exact ⟨A, c, cs, rfl, (rowC_own HO.out.own).more (fun i hi => hi), HO.out.its.more (fun i hi => ⟨(HO.out.fr i hi).1, (HO.out.fr i hi).2.1⟩), HS.out⟩⟩
end Go.Proofs.YtgmfhldfdnnafaaGreatDoor
