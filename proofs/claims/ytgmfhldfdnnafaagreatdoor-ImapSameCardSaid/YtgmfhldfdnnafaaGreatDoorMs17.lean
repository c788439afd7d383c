/- A part of the proofs of the statements on chapter 21: walks of functions that they reach, and plain laws. What is proved is stated in the last text. Conditions: none of its own. -/
import Derived.Test.YtgmfhldfdnnafaaGreatDoorMs16
import Derived.Maps.OwnSet
set_option maxHeartbeats 8000000
set_option maxRecDepth 100000
set_option linter.unusedSimpArgs false
set_option linter.unusedVariables false
namespace Go.Proofs.YtgmfhldfdnnafaaGreatDoor
open Go.RowKit
open Pl (Bs idxB numOk numN setOk setL)
def apEnd (xs : List Bs) (f t : Int) (s : Bs) : Option ((List Bs × Int × Int × Bs) × Bs) :=
 match isB [123] s with
 | none => none
 | some s1 => (literalB s1).map fun p => ((xs, f, t, p.1), p.2)
def apDate (t0 : Int) (xs : List Bs) (f : Int) (s : Bs) : Option ((List Bs × Int × Int × Bs) × Bs) :=
 match isB [34] s with
 | none => apEnd xs f t0 s
 | some s1 => match quotedB s1 with
  | none => none
  | some (q, s2) => match intB q with
   | none => none
   | some t => match isB [32] s2 with
    | none => none
    | some s3 => apEnd xs f t s3
def apFlags (f0 t0 : Int) (xs : List Bs) (s : Bs) : Option ((List Bs × Int × Int × Bs) × Bs) :=
 match isB [40] s with
 | none => apDate t0 xs f0 s
 | some _ => match flagsB s with
  | none => none
  | some (f, s2) => match isB [32] s2 with
   | none => none
   | some s3 => apDate t0 xs f s3
def appendB (f0 t0 : Int) (s : Bs) : Option ((List Bs × Int × Int × Bs) × Bs) :=
 match textsB 1 s with
 | none => none
 | some (xs, s1) => match isB [32] s1 with
  | none => none
  | some s2 => apFlags f0 t0 xs s2
abbrev pk (k : Nat) (p : (List Bs × Int × Int × Bs) × Bs) : (List Bs × Int × Int × Bs) × Bs × Nat := (p.1, p.2, k)
structure CmSt (w : World) (B C : Nat) (s : Bs) (k : Nat) (c : CmdV) (xs : List Bs) (W : World) : Prop where
 gr : R2 B C w W
 sc : Scn W B s k
 cmd : W.heap[C]? = some c.obj
 lt : B < w.heap.size ∧ C < w.heap.size ∧ B ≠ C
 row : RowC W (newT w W) (.slice c.aA c.aN c.aC) c.aN (xs.map strV)
theorem CmSt.step {w : World} {B C k k1 : Nat} {s s1 : Bs} {c : CmdV} {xs : List Bs} {W W1 : World} (st : CmSt w B C s k c xs W) (hG : W.grownBy W1 (some B)) (hS : Scn W1 B s1 k1) : CmSt w B C s1 k1 c xs W1 := by
 obtain ⟨h1, h2, h3⟩ := st.lt
 have hz := hG.size
 exact ⟨st.gr.trans (.of hG), hS, (hG.block C (Array.getElem?_eq_some_iff.1 st.cmd).1 (fun e => h3 (Option.some.inj e).symm)).trans st.cmd, st.lt, (st.row.kept (fun i hi => hG.block i hi.2 (fun e => by have := Option.some.inj e; have := hi.1; omega))).more (fun i hi => ⟨hi.1, Nat.lt_of_lt_of_le hi.2 hz⟩)⟩
theorem CmSt.then {w : World} {B C k : Nat} {s : Bs} {c : CmdV} {xs : List Bs} {W W1 : World} (st : CmSt w B C s k c xs W) (hB : Below W.heap.size W W1) : CmSt w B C s k c xs W1 := st.step (grown_below hB _) (st.sc.then hB)
theorem CmSt.set {w : World} {B C k : Nat} {s : Bs} {c c1 : CmdV} {xs : List Bs} {W : World} (st : CmSt w B C s k c xs W) (i : Nat) (v : Value) (hc : (Obj.cells (c.cells.setIfInBounds i v) 33 : Obj) = c1.obj) (h3 : c1.aA = c.aA ∧ c1.aN = c.aN ∧ c1.aC = c.aC) : CmSt w B C s k c1 xs (W.setCell ⟨C, i, none⟩ v) := by
 obtain ⟨h1, h2, hne⟩ := st.lt
 refine ⟨st.gr.trans (.ofC (grown_put W C i v)), st.sc.kept (grown_put W C i v) (fun e => hne (Option.some.inj e)), (setCell_heap_same st.cmd).trans (congrArg some hc), st.lt, ?_⟩
 rw [h3.1, h3.2.1, h3.2.2]
 exact (st.row.kept (fun i hi => Below.heap_setCell _ _ _ _ (by have := hi.1; dsimp only; omega))).more (fun i hi => ⟨hi.1, by simpa using hi.2⟩)
theorem CmSt.setA {w : World} {B C k : Nat} {s : Bs} {c : CmdV} {xs ys : List Bs} {W : World} (st : CmSt w B C s k c xs W) {A : Option Addr} {n cc : Nat} (hr : RowC W (newT w W) (.slice A n cc) n (ys.map strV)) : CmSt w B C s k { c with aA := A, aN := n, aC := cc } ys (W.setCell ⟨C, 3, none⟩ (.slice A n cc)) := by
 obtain ⟨h1, h2, hne⟩ := st.lt
 refine ⟨st.gr.trans (.ofC (grown_put W C 3 _)), st.sc.kept (grown_put W C 3 _) (fun e => hne (Option.some.inj e)), (setCell_heap_same st.cmd).trans rfl, st.lt, ?_⟩
 exact (hr.kept (fun i hi => Below.heap_setCell _ _ _ _ (by have := hi.1; dsimp only; omega))).more (fun i hi => ⟨hi.1, by simpa using hi.2⟩)
theorem CmSt.off {w : World} {B C k : Nat} {s : Bs} {c : CmdV} {xs : List Bs} {W W1 : World} (st : CmSt w B C s k c xs W) (hG : W.grownBy W1 (some B)) : R2 B C w W1 ∧ CmOk 12 C W1 := ⟨st.gr.trans (.of hG), CmOk.step ⟨_, st.cmd, rfl⟩ hG st.lt.2.2⟩
theorem CmSt.badS {α : Type} {w : World} {B C k : Nat} {s : Bs} {c : CmdV} {xs : List Bs} {W W1 : World} (st : CmSt w B C s k c xs W) {Q : World → α → Array Value → Prop} {o : Option (α × Bs × Nat)} (hG : W.grownBy W1 (some B)) (_ : True) (ho : o = none) : RestPostS 12 w B C Q o (.panicked [wrongE]) W1 := .badX (st.off hG) ho
theorem CmSt.badR {α : Type} {w : World} {B C k : Nat} {s : Bs} {c : CmdV} {xs : List Bs} {W : World} (st : CmSt w B C s k c xs W) {Q : World → α → Array Value → Prop} {o : Option (α × Bs × Nat)} (ho : o = none) : RestPostS 12 w B C Q o (.panicked [wrongE]) W := .badX ⟨st.gr, _, st.cmd, rfl⟩ ho
def AppQ (w : World) (c0 : CmdV) : World → List Bs × Int × Int × Bs → Array Value → Prop := fun w' p cs' => ∃ A cc, cs' = CmdV.cells { c0 with aA := A, aN := p.1.length, aC := cc, flags := p.2.1, date := p.2.2.1, body := str p.2.2.2 } ∧ RowC w' (newT w w') (.slice A p.1.length cc) p.1.length (p.1.map strV)
theorem append_walk (G : Glob) (B C k : Nat) (s : Bs) (c00 : CmdV) (h0 : c00.aN = 0) (hne : B ≠ C) (hC20 : 20 ≤ C) (w : World) (hC : w.heap[C]? = some c00.obj) (hE : EnvI G w B) (h : Scn w B s k) :
  Calls Tryz.prog 74 #[scP B, cmP C] w (RestPostS 12 w B C (AppQ w c00) ((appendB c00.flags c00.date s).map (pk k))) := by
 have H0 : Hid (CmSt w B C s k c00 [] w) := Lib.hid ⟨R2.refl _ _ _, h, hC, ⟨h.lt, (Array.getElem?_eq_some_iff.1 hC).1, hne⟩, by rw [h0]; exact ⟨_, _, rfl, fun hn => absurd hn (Nat.lt_irrefl _)⟩⟩
 have HE := Lib.hid hE
 have HT := Lib.hid (show (appendB c00.flags c00.date s).map (pk k) = (match textsB 1 s with
  | none => none
  | some (xs, s1) => match isB [32] s1 with
   | none => none
   | some s2 => apFlags c00.flags c00.date xs s2).map (pk k) from rfl)
 generalize (appendB c00.flags c00.date s).map (pk k) = oo at *
 have KT : Hid (∀ W, EnvI G W B → Scn W B s k → Calls Tryz.prog 70 #[scP B, .int .i64 1] W _) := Lib.hid (fun W hE hS => texts_walk G B k 1 (by decide) s W hE hS)
 clear hC hE h
 obtain ⟨c0, c1, f0, f1⟩ := H0.out.sc.cells
 obtain ⟨⟨d0, d1, d2, d3, d4, d5, d6, d7, d8, d9, d10, d11⟩, fz⟩ := CmdV.cell H0.out.cmd
 go_enter Tryz.func74, Tryz.ntmps74
 go_wp2_with fail
 refine (KT.out _ HE.out H0.out.sc).mono ?_
 rintro e w1 ⟨hG1, hP1⟩
 cases ht : textsB 1 s with
 | none =>
  rw [ht] at hP1
  subst hP1
  exact ⟨rfl, H0.out.badS hG1 (by simp) (by rw [HT.out, ht]; rfl)⟩
 | some p =>
  obtain ⟨xs, s1⟩ := p
  rw [ht] at hP1
  obtain ⟨u1, rfl, hO1, hS1⟩ := hP1
  obtain ⟨A, cc, hu1, _⟩ := rowC_own hO1
  subst hu1
  have HT := Lib.hid (show oo = (match isB [32] s1 with
    | none => none
    | some s2 => apFlags c00.flags c00.date xs s2).map (pk k) by rw [HT.out, ht])
  have H1 := Lib.hid (H0.out.step hG1 hS1)
  have H1s := Lib.hid (H1.out.setA (ys := xs) (rowC_own hO1))
  clear c0 c1 f0 f1 d0 d1 d2 d3 d4 d5 d6 d7 d8 d9 d10 d11 fz
  clear hG1 hS1 hO1 ht
  obtain ⟨c0, c1, f0, f1⟩ := H1.out.sc.cells
  obtain ⟨⟨d0, d1, d2, d3, d4, d5, d6, d7, d8, d9, d10, d11⟩, fz⟩ := CmdV.cell H1.out.cmd
  cases hi1 : isB [32] s1 with
  | none =>
   have HO := Lib.hid (show oo = none by rw [HT.out, hi1]; rfl)
   have KB := Lib.hid (fun W hW => blank_no B s1 k hi1 W hW)
   clear hi1
   go_wp2_with fail
   refine (KB.out _ H1s.out.sc).mono ?_
   rintro e w8 ⟨rfl, hG8⟩
   exact ⟨rfl, H1s.out.badS hG8 (by simp) HO.out⟩
  | some s2 =>
   have HT := Lib.hid (show oo = (apFlags c00.flags c00.date xs s2).map (pk k) by rw [HT.out, hi1])
   have KB := Lib.hid (fun W hW => blank_ok B s1 s2 k hi1 W hW)
   clear hi1
   go_wp2_with fail
   refine (KB.out _ H1s.out.sc).mono ?_
   rintro e w2 ⟨rfl, hS2, hG2⟩
   have H2 := Lib.hid (H1s.out.step hG2 hS2)
   clear c0 c1 f0 f1 d0 d1 d2 d3 d4 d5 d6 d7 d8 d9 d10 d11 fz
   clear hS2 hG2
   obtain ⟨c0, c1, f0, f1⟩ := H2.out.sc.cells
   obtain ⟨⟨d0, d1, d2, d3, d4, d5, d6, d7, d8, d9, d10, d11⟩, fz⟩ := CmdV.cell H2.out.cmd
   cases hi2 : isB [40] s2 with
   | none =>
    have HT := Lib.hid (show oo = (apDate c00.date xs c00.flags s2).map (pk k) by rw [HT.out]; unfold apFlags; rw [hi2])
    have KP : Hid (∀ W, Calls Tryz.prog 99 #[.string (str s2), .string ⟨#[40]⟩] W _) := Lib.hid (fun W => hasPre_no hi2 W)
    clear hi2
    go_wp2_with fail
    refine (KP.out _).mono ?_
    rintro e w4 ⟨rfl, rfl⟩
    cases hi5 : isB [34] s2 with
    | none =>
     have HT := Lib.hid (show oo = (apEnd xs c00.flags c00.date s2).map (pk k) by rw [HT.out]; unfold apDate; rw [hi5])
     have KQ : Hid (∀ W, Scn W B s2 k → Calls Tryz.prog 68 #[scP B, .string ⟨#[34]⟩] W _) := Lib.hid (fun W hW => is_not B s2 [34] k hi5 W hW)
     clear hi5
     go_wp2_with fail
     refine (KQ.out _ H2.out.sc).mono ?_
     rintro e w5 ⟨rfl, hS5, hG5⟩
     have H5 := Lib.hid (H2.out.step hG5 hS5)
     clear c0 c1 f0 f1 d0 d1 d2 d3 d4 d5 d6 d7 d8 d9 d10 d11 fz
     clear hS5 hG5
     obtain ⟨c0, c1, f0, f1⟩ := H5.out.sc.cells
     obtain ⟨⟨d0, d1, d2, d3, d4, d5, d6, d7, d8, d9, d10, d11⟩, fz⟩ := CmdV.cell H5.out.cmd
     cases hi9 : isB [123] s2 with
     | none =>
      have HO := Lib.hid (show oo = none by rw [HT.out]; unfold apEnd; rw [hi9]; rfl)
      have KI : Hid (∀ W, Scn W B s2 k → Calls Tryz.prog 68 #[scP B, .string ⟨#[123]⟩] W _) := Lib.hid (fun W hW => is_not B s2 [123] k hi9 W hW)
      clear hi9
      go_wp2_with fail
      refine (KI.out _ H5.out.sc).mono ?_
      rintro e w8 ⟨rfl, hS8, hG8⟩
      have HG8 := Lib.hid (H5.out.off hG8)
      clear c0 c1 f0 f1 d0 d1 d2 d3 d4 d5 d6 d7 d8 d9 d10 d11 fz
      clear hS8 hG8
      go_wp2_with fail
      refine (must_no B _).mono ?_
      rintro e w' ⟨rfl, rfl⟩
      exact ⟨rfl, .badX HG8.out HO.out⟩
     | some s9 =>
      have HT9 := Lib.hid (show oo = ((literalB s9).map fun p => ((xs, c00.flags, c00.date, p.1), p.2)).map (pk k) by rw [HT.out]; unfold apEnd; rw [hi9])
      have KI : Hid (∀ W, Scn W B s2 k → Calls Tryz.prog 68 #[scP B, .string ⟨#[123]⟩] W _) := Lib.hid (fun W hW => is_ok B s2 [123] s9 k hi9 W hW)
      clear hi9
      go_wp2_with fail
      refine (KI.out _ H5.out.sc).mono ?_
      rintro e w8 ⟨rfl, hS8, hG8⟩
      have H8 := Lib.hid (H5.out.step hG8 hS8)
      clear c0 c1 f0 f1 d0 d1 d2 d3 d4 d5 d6 d7 d8 d9 d10 d11 fz
      clear hS8 hG8
      obtain ⟨c0, c1, f0, f1⟩ := H8.out.sc.cells
      obtain ⟨⟨d0, d1, d2, d3, d4, d5, d6, d7, d8, d9, d10, d11⟩, fz⟩ := CmdV.cell H8.out.cmd
      go_wp2_with fail
      refine (must_walk B _).mono ?_
      rintro e w' ⟨rfl, rfl⟩
      go_wp2_with fail
      refine (literal_walk G B k s9 _ (HE.out.kept2 H8.out.gr hC20) H8.out.sc).mono ?_
      rintro e w9 hP
      rcases hP.split with ⟨ho, rfl, hG9⟩ | ⟨y, r9, ho, rfl, hG9, hS9⟩
      ·
       exact ⟨rfl, H8.out.badS hG9 (by simp) (by rw [HT9.out, ho]; rfl)⟩
      have HO := Lib.hid (show oo = some ((xs, c00.flags, c00.date, y), r9, k) by rw [HT9.out, ho]; rfl)
      have H9 := Lib.hid (H8.out.step hG9 hS9)
      clear c0 c1 f0 f1 d0 d1 d2 d3 d4 d5 d6 d7 d8 d9 d10 d11 fz
      clear hG9 hS9 ho hP
      obtain ⟨c0, c1, f0, f1⟩ := H9.out.sc.cells
      obtain ⟨⟨d0, d1, d2, d3, d4, d5, d6, d7, d8, d9, d10, d11⟩, fz⟩ := CmdV.cell H9.out.cmd
      have H10 := Lib.hid (H9.out.set 9 (.string (str y)) (c1 := { { c00 with aA := A, aN := xs.length, aC := cc } with body := str y }) rfl ⟨rfl, rfl, rfl⟩)
      go_wp2
      go_end0
      exact ⟨H10.out.gr, by rw [HO.out]; exact ⟨rfl, H10.out.sc, _, H10.out.cmd, A, cc, rfl, H10.out.row⟩⟩
    | some s5 =>
     have hl5 := isB_len hi5
     have HT := Lib.hid (show oo = (match quotedB s5 with
       | none => none
       | some (q, s2) => match intB q with
        | none => none
        | some t => match isB [32] s2 with
         | none => none
         | some s3 => apEnd xs c00.flags t s3).map (pk k) by rw [HT.out]; unfold apDate; rw [hi5])
     have KQ : Hid (∀ W, Scn W B s2 k → Calls Tryz.prog 68 #[scP B, .string ⟨#[34]⟩] W _) := Lib.hid (fun W hW => is_ok B s2 [34] s5 k hi5 W hW)
     clear hi5
     go_wp2_with fail
     refine (KQ.out _ H2.out.sc).mono ?_
     rintro e w5 ⟨rfl, hS5, hG5⟩
     have H5 := Lib.hid (H2.out.step hG5 hS5)
     clear c0 c1 f0 f1 d0 d1 d2 d3 d4 d5 d6 d7 d8 d9 d10 d11 fz
     clear hS5 hG5
     obtain ⟨c0, c1, f0, f1⟩ := H5.out.sc.cells
     obtain ⟨⟨d0, d1, d2, d3, d4, d5, d6, d7, d8, d9, d10, d11⟩, fz⟩ := CmdV.cell H5.out.cmd
     go_wp2_with fail
     refine (quoted_walk B k s5 _ H5.out.sc).mono ?_
     rintro e w6 hP
     rcases hP.split with ⟨ho, rfl, hG6⟩ | ⟨q, s6, ho, rfl, hG6, hS6⟩
     ·
      exact ⟨rfl, H5.out.badS hG6 (by simp) (by rw [HT.out, ho]; rfl)⟩
     have hql := quotedB_le ho
     have hq6 : q.length ≤ 1000000 := by have := H5.out.sc.small; omega
     have HT := Lib.hid (show oo = (match intB q with
        | none => none
        | some t => match isB [32] s6 with
         | none => none
         | some s3 => apEnd xs c00.flags t s3).map (pk k) by rw [HT.out, ho])
     have H6 := Lib.hid (H5.out.step hG6 hS6)
     clear c0 c1 f0 f1 d0 d1 d2 d3 d4 d5 d6 d7 d8 d9 d10 d11 fz
     clear hG6 hS6 hP ho
     obtain ⟨c0, c1, f0, f1⟩ := H6.out.sc.cells
     obtain ⟨⟨d0, d1, d2, d3, d4, d5, d6, d7, d8, d9, d10, d11⟩, fz⟩ := CmdV.cell H6.out.cmd
     go_wp2_with fail
     refine (parseInt_walk G B q hq6 _ (HE.out.kept2 H6.out.gr hC20)).mono ?_
     rintro e w7 hP
     rcases hP.split with ⟨ho, ⟨t9, x9, rfl⟩, hB7⟩ | ⟨tm, ho, rfl, hB7⟩
     ·
      have HO := Lib.hid (show oo = none by rw [HT.out, ho]; rfl)
      have H7 := Lib.hid (H6.out.then hB7)
      clear c0 c1 f0 f1 d0 d1 d2 d3 d4 d5 d6 d7 d8 d9 d10 d11 fz
      clear hB7 hP ho
      go_wp2_with fail
      refine (must_no B _).mono ?_
      rintro e w' ⟨rfl, rfl⟩
      exact ⟨rfl, H7.out.badR HO.out⟩
     have HT := Lib.hid (show oo = (match isB [32] s6 with
         | none => none
         | some s3 => apEnd xs c00.flags tm s3).map (pk k) by rw [HT.out, ho])
     have H7 := Lib.hid (H6.out.then hB7)
     clear c0 c1 f0 f1 d0 d1 d2 d3 d4 d5 d6 d7 d8 d9 d10 d11 fz
     clear hB7 hP ho
     obtain ⟨c0, c1, f0, f1⟩ := H7.out.sc.cells
     obtain ⟨⟨d0, d1, d2, d3, d4, d5, d6, d7, d8, d9, d10, d11⟩, fz⟩ := CmdV.cell H7.out.cmd
     go_wp2_with fail
     refine (must_walk B _).mono ?_
     rintro e w' ⟨rfl, rfl⟩
     have H7s := Lib.hid (H7.out.set 8 (.int .i64 tm) (c1 := { { c00 with aA := A, aN := xs.length, aC := cc } with date := tm }) rfl ⟨rfl, rfl, rfl⟩)
     cases hi6 : isB [32] s6 with
     | none =>
      have HO := Lib.hid (show oo = none by rw [HT.out, hi6]; rfl)
      have KB := Lib.hid (fun W hW => blank_no B s6 k hi6 W hW)
      clear hi6
      go_wp2_with fail
      refine (KB.out _ H7s.out.sc).mono ?_
      rintro e w8 ⟨rfl, hG8⟩
      exact ⟨rfl, H7s.out.badS hG8 (by simp) HO.out⟩
     | some s7 =>
      have HT := Lib.hid (show oo = (apEnd xs c00.flags tm s7).map (pk k) by rw [HT.out, hi6])
      have KB := Lib.hid (fun W hW => blank_ok B s6 s7 k hi6 W hW)
      clear hi6
      go_wp2_with fail
      refine (KB.out _ H7s.out.sc).mono ?_
      rintro e wB ⟨rfl, hSB, hGB⟩
      have HB := Lib.hid (H7s.out.step hGB hSB)
      clear c0 c1 f0 f1 d0 d1 d2 d3 d4 d5 d6 d7 d8 d9 d10 d11 fz
      clear hSB hGB
      obtain ⟨c0, c1, f0, f1⟩ := HB.out.sc.cells
      obtain ⟨⟨d0, d1, d2, d3, d4, d5, d6, d7, d8, d9, d10, d11⟩, fz⟩ := CmdV.cell HB.out.cmd
      cases hi9 : isB [123] s7 with
      | none =>
       have HO := Lib.hid (show oo = none by rw [HT.out]; unfold apEnd; rw [hi9]; rfl)
       have KI : Hid (∀ W, Scn W B s7 k → Calls Tryz.prog 68 #[scP B, .string ⟨#[123]⟩] W _) := Lib.hid (fun W hW => is_not B s7 [123] k hi9 W hW)
       clear hi9
       go_wp2_with fail
       refine (KI.out _ HB.out.sc).mono ?_
       rintro e w8 ⟨rfl, hS8, hG8⟩
       have HG8 := Lib.hid (HB.out.off hG8)
       clear c0 c1 f0 f1 d0 d1 d2 d3 d4 d5 d6 d7 d8 d9 d10 d11 fz
       clear hS8 hG8
       go_wp2_with fail
       refine (must_no B _).mono ?_
       rintro e w' ⟨rfl, rfl⟩
       exact ⟨rfl, .badX HG8.out HO.out⟩
      | some s9 =>
       have HT9 := Lib.hid (show oo = ((literalB s9).map fun p => ((xs, c00.flags, tm, p.1), p.2)).map (pk k) by rw [HT.out]; unfold apEnd; rw [hi9])
       have KI : Hid (∀ W, Scn W B s7 k → Calls Tryz.prog 68 #[scP B, .string ⟨#[123]⟩] W _) := Lib.hid (fun W hW => is_ok B s7 [123] s9 k hi9 W hW)
       clear hi9
       go_wp2_with fail
       refine (KI.out _ HB.out.sc).mono ?_
       rintro e w8 ⟨rfl, hS8, hG8⟩
       have H8 := Lib.hid (HB.out.step hG8 hS8)
       clear c0 c1 f0 f1 d0 d1 d2 d3 d4 d5 d6 d7 d8 d9 d10 d11 fz
       clear hS8 hG8
       obtain ⟨c0, c1, f0, f1⟩ := H8.out.sc.cells
       obtain ⟨⟨d0, d1, d2, d3, d4, d5, d6, d7, d8, d9, d10, d11⟩, fz⟩ := CmdV.cell H8.out.cmd
       go_wp2_with fail
       refine (must_walk B _).mono ?_
       rintro e w' ⟨rfl, rfl⟩
       go_wp2_with fail
       refine (literal_walk G B k s9 _ (HE.out.kept2 H8.out.gr hC20) H8.out.sc).mono ?_
       rintro e w9 hP
       rcases hP.split with ⟨ho, rfl, hG9⟩ | ⟨y, r9, ho, rfl, hG9, hS9⟩
       ·
        exact ⟨rfl, H8.out.badS hG9 (by simp) (by rw [HT9.out, ho]; rfl)⟩
       have HO := Lib.hid (show oo = some ((xs, c00.flags, tm, y), r9, k) by rw [HT9.out, ho]; rfl)
       have H9 := Lib.hid (H8.out.step hG9 hS9)
       clear c0 c1 f0 f1 d0 d1 d2 d3 d4 d5 d6 d7 d8 d9 d10 d11 fz
       clear hG9 hS9 ho hP
       obtain ⟨c0, c1, f0, f1⟩ := H9.out.sc.cells
       obtain ⟨⟨d0, d1, d2, d3, d4, d5, d6, d7, d8, d9, d10, d11⟩, fz⟩ := CmdV.cell H9.out.cmd
       have H10 := Lib.hid (H9.out.set 9 (.string (str y)) (c1 := { { { c00 with aA := A, aN := xs.length, aC := cc } with date := tm } with body := str y }) rfl ⟨rfl, rfl, rfl⟩)
       go_wp2
       go_end0
       exact ⟨H10.out.gr, by rw [HO.out]; exact ⟨rfl, H10.out.sc, _, H10.out.cmd, A, cc, rfl, H10.out.row⟩⟩
   | some sx =>
    have HT := Lib.hid (show oo = (match flagsB s2 with
     | none => none
     | some (f, s2) => match isB [32] s2 with
      | none => none
      | some s3 => apDate c00.date xs f s3).map (pk k) by rw [HT.out]; unfold apFlags; rw [hi2])
    have KP : Hid (∀ W, Calls Tryz.prog 99 #[.string (str s2), .string ⟨#[40]⟩] W _) := Lib.hid (fun W => hasPre_yes hi2 W)
    clear hi2
    go_wp2_with fail
    refine (KP.out _).mono ?_
    rintro e w3 ⟨rfl, rfl⟩
    go_wp2_with fail
    refine (rflags_walk G B k s2 _ (HE.out.kept2 H2.out.gr hC20) H2.out.sc).mono ?_
    rintro e w3 hP
    rcases hP.split with ⟨ho, rfl, hG3⟩ | ⟨f, s3, ho, rfl, hG3, hS3⟩
    ·
     exact ⟨rfl, H2.out.badS hG3 (by simp) (by rw [HT.out, ho]; rfl)⟩
    have HT := Lib.hid (show oo = (match isB [32] s3 with
      | none => none
      | some s3 => apDate c00.date xs f s3).map (pk k) by rw [HT.out, ho])
    have H3 := Lib.hid (H2.out.step hG3 hS3)
    clear c0 c1 f0 f1 d0 d1 d2 d3 d4 d5 d6 d7 d8 d9 d10 d11 fz
    clear hG3 hS3 hP ho
    obtain ⟨c0, c1, f0, f1⟩ := H3.out.sc.cells
    obtain ⟨⟨d0, d1, d2, d3, d4, d5, d6, d7, d8, d9, d10, d11⟩, fz⟩ := CmdV.cell H3.out.cmd
    have H3s := Lib.hid (H3.out.set 6 (.int .i64 f) (c1 := { c00 with aA := A, aN := xs.length, aC := cc, flags := f }) rfl ⟨rfl, rfl, rfl⟩)
    cases hi3 : isB [32] s3 with
    | none =>
     have HO := Lib.hid (show oo = none by rw [HT.out, hi3]; rfl)
     have KB := Lib.hid (fun W hW => blank_no B s3 k hi3 W hW)
     clear hi3
     go_wp2_with fail
     refine (KB.out _ H3s.out.sc).mono ?_
     rintro e w8 ⟨rfl, hG8⟩
     exact ⟨rfl, H3s.out.badS hG8 (by simp) HO.out⟩
    | some s4 =>
     have HT := Lib.hid (show oo = (apDate c00.date xs f s4).map (pk k) by rw [HT.out, hi3])
     have KB := Lib.hid (fun W hW => blank_ok B s3 s4 k hi3 W hW)
     clear hi3
     go_wp2_with fail
     refine (KB.out _ H3s.out.sc).mono ?_
     rintro e w4 ⟨rfl, hS4, hG4⟩
     have H4 := Lib.hid (H3s.out.step hG4 hS4)
     clear c0 c1 f0 f1 d0 d1 d2 d3 d4 d5 d6 d7 d8 d9 d10 d11 fz
     clear hS4 hG4
     obtain ⟨c0, c1, f0, f1⟩ := H4.out.sc.cells
     obtain ⟨⟨d0, d1, d2, d3, d4, d5, d6, d7, d8, d9, d10, d11⟩, fz⟩ := CmdV.cell H4.out.cmd
     cases hi5 : isB [34] s4 with
     | none =>
      have HT := Lib.hid (show oo = (apEnd xs f c00.date s4).map (pk k) by rw [HT.out]; unfold apDate; rw [hi5])
      have KQ : Hid (∀ W, Scn W B s4 k → Calls Tryz.prog 68 #[scP B, .string ⟨#[34]⟩] W _) := Lib.hid (fun W hW => is_not B s4 [34] k hi5 W hW)
      clear hi5
      go_wp2_with fail
      refine (KQ.out _ H4.out.sc).mono ?_
      rintro e w5 ⟨rfl, hS5, hG5⟩
      have H5 := Lib.hid (H4.out.step hG5 hS5)
      clear c0 c1 f0 f1 d0 d1 d2 d3 d4 d5 d6 d7 d8 d9 d10 d11 fz
      clear hS5 hG5
      obtain ⟨c0, c1, f0, f1⟩ := H5.out.sc.cells
      obtain ⟨⟨d0, d1, d2, d3, d4, d5, d6, d7, d8, d9, d10, d11⟩, fz⟩ := CmdV.cell H5.out.cmd
      cases hi9 : isB [123] s4 with
      | none =>
       have HO := Lib.hid (show oo = none by rw [HT.out]; unfold apEnd; rw [hi9]; rfl)
       have KI : Hid (∀ W, Scn W B s4 k → Calls Tryz.prog 68 #[scP B, .string ⟨#[123]⟩] W _) := Lib.hid (fun W hW => is_not B s4 [123] k hi9 W hW)
       clear hi9
       go_wp2_with fail
       refine (KI.out _ H5.out.sc).mono ?_
       rintro e w8 ⟨rfl, hS8, hG8⟩
       have HG8 := Lib.hid (H5.out.off hG8)
       clear c0 c1 f0 f1 d0 d1 d2 d3 d4 d5 d6 d7 d8 d9 d10 d11 fz
       clear hS8 hG8
       go_wp2_with fail
       refine (must_no B _).mono ?_
       rintro e w' ⟨rfl, rfl⟩
       exact ⟨rfl, .badX HG8.out HO.out⟩
      | some s9 =>
       have HT9 := Lib.hid (show oo = ((literalB s9).map fun p => ((xs, f, c00.date, p.1), p.2)).map (pk k) by rw [HT.out]; unfold apEnd; rw [hi9])
       have KI : Hid (∀ W, Scn W B s4 k → Calls Tryz.prog 68 #[scP B, .string ⟨#[123]⟩] W _) := Lib.hid (fun W hW => is_ok B s4 [123] s9 k hi9 W hW)
       clear hi9
       go_wp2_with fail
       refine (KI.out _ H5.out.sc).mono ?_
       rintro e w8 ⟨rfl, hS8, hG8⟩
       have H8 := Lib.hid (H5.out.step hG8 hS8)
       clear c0 c1 f0 f1 d0 d1 d2 d3 d4 d5 d6 d7 d8 d9 d10 d11 fz
       clear hS8 hG8
       obtain ⟨c0, c1, f0, f1⟩ := H8.out.sc.cells
       obtain ⟨⟨d0, d1, d2, d3, d4, d5, d6, d7, d8, d9, d10, d11⟩, fz⟩ := CmdV.cell H8.out.cmd
       go_wp2_with fail
       refine (must_walk B _).mono ?_
       rintro e w' ⟨rfl, rfl⟩
       go_wp2_with fail
       refine (literal_walk G B k s9 _ (HE.out.kept2 H8.out.gr hC20) H8.out.sc).mono ?_
       rintro e w9 hP
       rcases hP.split with ⟨ho, rfl, hG9⟩ | ⟨y, r9, ho, rfl, hG9, hS9⟩
       ·
        exact ⟨rfl, H8.out.badS hG9 (by simp) (by rw [HT9.out, ho]; rfl)⟩
       have HO := Lib.hid (show oo = some ((xs, f, c00.date, y), r9, k) by rw [HT9.out, ho]; rfl)
       have H9 := Lib.hid (H8.out.step hG9 hS9)
       clear c0 c1 f0 f1 d0 d1 d2 d3 d4 d5 d6 d7 d8 d9 d10 d11 fz
       clear hG9 hS9 ho hP
       obtain ⟨c0, c1, f0, f1⟩ := H9.out.sc.cells
       obtain ⟨⟨d0, d1, d2, d3, d4, d5, d6, d7, d8, d9, d10, d11⟩, fz⟩ := CmdV.cell H9.out.cmd
       have H10 := Lib.hid (H9.out.set 9 (.string (str y)) (c1 := { { c00 with aA := A, aN := xs.length, aC := cc, flags := f } with body := str y }) rfl ⟨rfl, rfl, rfl⟩)
       go_wp2
       go_end0
       exact ⟨H10.out.gr, by rw [HO.out]; exact ⟨rfl, H10.out.sc, _, H10.out.cmd, A, cc, rfl, H10.out.row⟩⟩
     | some s5 =>
      have hl5 := isB_len hi5
      have HT := Lib.hid (show oo = (match quotedB s5 with
        | none => none
        | some (q, s2) => match intB q with
         | none => none
         | some t => match isB [32] s2 with
          | none => none
          | some s3 => apEnd xs f t s3).map (pk k) by rw [HT.out]; unfold apDate; rw [hi5])
      have KQ : Hid (∀ W, Scn W B s4 k → Calls Tryz.prog 68 #[scP B, .string ⟨#[34]⟩] W _) := Lib.hid (fun W hW => is_ok B s4 [34] s5 k hi5 W hW)
      clear hi5
      go_wp2_with fail
      refine (KQ.out _ H4.out.sc).mono ?_
      rintro e w5 ⟨rfl, hS5, hG5⟩
      have H5 := Lib.hid (H4.out.step hG5 hS5)
      clear c0 c1 f0 f1 d0 d1 d2 d3 d4 d5 d6 d7 d8 d9 d10 d11 fz
      clear hS5 hG5
      obtain ⟨c0, c1, f0, f1⟩ := H5.out.sc.cells
      obtain ⟨⟨d0, d1, d2, d3, d4, d5, d6, d7, d8, d9, d10, d11⟩, fz⟩ := CmdV.cell H5.out.cmd
      go_wp2_with fail
      refine (quoted_walk B k s5 _ H5.out.sc).mono ?_
      rintro e w6 hP
      rcases hP.split with ⟨ho, rfl, hG6⟩ | ⟨q, s6, ho, rfl, hG6, hS6⟩
      ·
       exact ⟨rfl, H5.out.badS hG6 (by simp) (by rw [HT.out, ho]; rfl)⟩
      have hql := quotedB_le ho
      have hq6 : q.length ≤ 1000000 := by have := H5.out.sc.small; omega
      have HT := Lib.hid (show oo = (match intB q with
         | none => none
         | some t => match isB [32] s6 with
          | none => none
          | some s3 => apEnd xs f t s3).map (pk k) by rw [HT.out, ho])
      have H6 := Lib.hid (H5.out.step hG6 hS6)
      clear c0 c1 f0 f1 d0 d1 d2 d3 d4 d5 d6 d7 d8 d9 d10 d11 fz
      clear hG6 hS6 hP ho
      obtain ⟨c0, c1, f0, f1⟩ := H6.out.sc.cells
      obtain ⟨⟨d0, d1, d2, d3, d4, d5, d6, d7, d8, d9, d10, d11⟩, fz⟩ := CmdV.cell H6.out.cmd
      go_wp2_with fail
      refine (parseInt_walk G B q hq6 _ (HE.out.kept2 H6.out.gr hC20)).mono ?_
      rintro e w7 hP
      rcases hP.split with ⟨ho, ⟨t9, x9, rfl⟩, hB7⟩ | ⟨tm, ho, rfl, hB7⟩
      ·
       have HO := Lib.hid (show oo = none by rw [HT.out, ho]; rfl)
       have H7 := Lib.hid (H6.out.then hB7)
       clear c0 c1 f0 f1 d0 d1 d2 d3 d4 d5 d6 d7 d8 d9 d10 d11 fz
       clear hB7 hP ho
       go_wp2_with fail
       refine (must_no B _).mono ?_
       rintro e w' ⟨rfl, rfl⟩
       exact ⟨rfl, H7.out.badR HO.out⟩
      have HT := Lib.hid (show oo = (match isB [32] s6 with
          | none => none
          | some s3 => apEnd xs f tm s3).map (pk k) by rw [HT.out, ho])
      have H7 := Lib.hid (H6.out.then hB7)
      clear c0 c1 f0 f1 d0 d1 d2 d3 d4 d5 d6 d7 d8 d9 d10 d11 fz
      clear hB7 hP ho
      obtain ⟨c0, c1, f0, f1⟩ := H7.out.sc.cells
      obtain ⟨⟨d0, d1, d2, d3, d4, d5, d6, d7, d8, d9, d10, d11⟩, fz⟩ := CmdV.cell H7.out.cmd
      go_wp2_with fail
      refine (must_walk B _).mono ?_
      rintro e w' ⟨rfl, rfl⟩
      have H7s := Lib.hid (H7.out.set 8 (.int .i64 tm) (c1 := { { c00 with aA := A, aN := xs.length, aC := cc, flags := f } with date := tm }) rfl ⟨rfl, rfl, rfl⟩)
      cases hi6 : isB [32] s6 with
      | none =>
       have HO := Lib.hid (show oo = none by rw [HT.out, hi6]; rfl)
       have KB := Lib.hid (fun W hW => blank_no B s6 k hi6 W hW)
       clear hi6
       go_wp2_with fail
       refine (KB.out _ H7s.out.sc).mono ?_
       rintro e w8 ⟨rfl, hG8⟩
       exact ⟨rfl, H7s.out.badS hG8 (by simp) HO.out⟩
      | some s7 =>
       have HT := Lib.hid (show oo = (apEnd xs f tm s7).map (pk k) by rw [HT.out, hi6])
       have KB := Lib.hid (fun W hW => blank_ok B s6 s7 k hi6 W hW)
       clear hi6
       go_wp2_with fail
       refine (KB.out _ H7s.out.sc).mono ?_
       rintro e wB ⟨rfl, hSB, hGB⟩
       have HB := Lib.hid (H7s.out.step hGB hSB)
       clear c0 c1 f0 f1 d0 d1 d2 d3 d4 d5 d6 d7 d8 d9 d10 d11 fz
       clear hSB hGB
       obtain ⟨c0, c1, f0, f1⟩ := HB.out.sc.cells
       obtain ⟨⟨d0, d1, d2, d3, d4, d5, d6, d7, d8, d9, d10, d11⟩, fz⟩ := CmdV.cell HB.out.cmd
       cases hi9 : isB [123] s7 with
       | none =>
        have HO := Lib.hid (show oo = none by rw [HT.out]; unfold apEnd; rw [hi9]; rfl)
        have KI : Hid (∀ W, Scn W B s7 k → Calls Tryz.prog 68 #[scP B, .string ⟨#[123]⟩] W _) := Lib.hid (fun W hW => is_not B s7 [123] k hi9 W hW)
        clear hi9
        go_wp2_with fail
        refine (KI.out _ HB.out.sc).mono ?_
        rintro e w8 ⟨rfl, hS8, hG8⟩
        have HG8 := Lib.hid (HB.out.off hG8)
        clear c0 c1 f0 f1 d0 d1 d2 d3 d4 d5 d6 d7 d8 d9 d10 d11 fz
        clear hS8 hG8
        go_wp2_with fail
        refine (must_no B _).mono ?_
        rintro e w' ⟨rfl, rfl⟩
        exact ⟨rfl, .badX HG8.out HO.out⟩
       | some s9 =>
        have HT9 := Lib.hid (show oo = ((literalB s9).map fun p => ((xs, f, tm, p.1), p.2)).map (pk k) by rw [HT.out]; unfold apEnd; rw [hi9])
        have KI : Hid (∀ W, Scn W B s7 k → Calls Tryz.prog 68 #[scP B, .string ⟨#[123]⟩] W _) := Lib.hid (fun W hW => is_ok B s7 [123] s9 k hi9 W hW)
        clear hi9
        go_wp2_with fail
        refine (KI.out _ HB.out.sc).mono ?_
        rintro e w8 ⟨rfl, hS8, hG8⟩
        have H8 := Lib.hid (HB.out.step hG8 hS8)
        clear c0 c1 f0 f1 d0 d1 d2 d3 d4 d5 d6 d7 d8 d9 d10 d11 fz
        clear hS8 hG8
        obtain ⟨c0, c1, f0, f1⟩ := H8.out.sc.cells
        obtain ⟨⟨d0, d1, d2, d3, d4, d5, d6, d7, d8, d9, d10, d11⟩, fz⟩ := CmdV.cell H8.out.cmd
        go_wp2_with fail
        refine (must_walk B _).mono ?_
        rintro e w' ⟨rfl, rfl⟩
        go_wp2_with fail
        refine (literal_walk G B k s9 _ (HE.out.kept2 H8.out.gr hC20) H8.out.sc).mono ?_
        rintro e w9 hP
        rcases hP.split with ⟨ho, rfl, hG9⟩ | ⟨y, r9, ho, rfl, hG9, hS9⟩
        ·
         exact ⟨rfl, H8.out.badS hG9 (by simp) (by rw [HT9.out, ho]; rfl)⟩
        have HO := Lib.hid (show oo = some ((xs, f, tm, y), r9, k) by rw [HT9.out, ho]; rfl)
        have H9 := Lib.hid (H8.out.step hG9 hS9)
        clear c0 c1 f0 f1 d0 d1 d2 d3 d4 d5 d6 d7 d8 d9 d10 d11 fz
        clear hG9 hS9 ho hP
        obtain ⟨c0, c1, f0, f1⟩ := H9.out.sc.cells
        obtain ⟨⟨d0, d1, d2, d3, d4, d5, d6, d7, d8, d9, d10, d11⟩, fz⟩ := CmdV.cell H9.out.cmd
        have H10 := Lib.hid (H9.out.set 9 (.string (str y)) (c1 := { { { c00 with aA := A, aN := xs.length, aC := cc, flags := f } with date := tm } with body := str y }) rfl ⟨rfl, rfl, rfl⟩)
        go_wp2
        go_end0
        exact ⟨H10.out.gr, by rw [HO.out]; exact ⟨rfl, H10.out.sc, _, H10.out.cmd, A, cc, rfl, H10.out.row⟩⟩
open Go.RowKit
open Pl (Bs idxB numOk numN setOk setL)
attribute [local go_sem ↓] Go.wp_at_zero Go.wp_at_succ
theorem rest_append (G : Glob) (B C k : Nat) (s N : Bs) (cs : Array Value) (h1 : cs[1]? = some (.string (str N))) (c00 : CmdV) (hcs : cs = c00.cells) (h0 : c00.aN = 0) (hN : N = [65, 80, 80, 69, 78, 68]) (hne : B ≠ C) (hC20 : 20 ≤ C) (w : World) (hC : w.heap[C]? = some (Obj.cells cs 33)) (hE : EnvI G w B) (h : Scn w B s k) :
  Calls Tryz.prog 31 #[scP B, cmP C] w (RestPostS cs.size w B C (AppQ w c00) ((appendB c00.flags c00.date s).map (pk k))) := by
 have HNN := Lib.hid hN
 clear hN
 subst hcs
 have HST := Lib.hid (RsSt.start h hC hne)
 have HSD := Lib.hid HST.out.draw
 have HS0 := Lib.hid HSD.out.keep
 have HE := Lib.hid hE
 obtain ⟨c1, _⟩ := HST.out.cell h1
 obtain ⟨hl1, hl2, hl3⟩ := HST.out.lt
 have KS := Lib.hid (append_walk G B C k s c00 h0 hne hC20 _ HST.out.cmd (HE.out.kept2 HST.out.gr hC20) HST.out.sc)
 have hz := HST.out.gr.size
 generalize (appendB c00.flags c00.date s).map (pk k) = oo at *
 clear h1 h0 hE h hC
 have hN := HNN.out
 obtain ⟨n0, n1, n2, n3, n4, n5, n6, n7, n8, n9, n10, n11, n12, n13, n14, n15, n16, _⟩ := notAll (N := N) (Ls := rNs.take 17) (by rw [hN]; decide)
 have n17 := strEq hN
 clear hN
 go_enter Tryz.func31, Tryz.ntmps31
 go_wp2_with fail
 refine KS.out.mono ?_
 rintro e w5 ⟨hR, hP⟩
 cases oo with
 | none =>
  obtain ⟨rfl, hok⟩ := hP
  exact ⟨rfl, HST.out.gr.trans hR, rfl, hok⟩
 | some p =>
  obtain ⟨rfl, hS, cs', hcmd, A, cc, hcs, hrow⟩ := hP
  have HR := Lib.hid hR
  have HS := Lib.hid hS
  have HC := Lib.hid hcmd
  have HCS := Lib.hid hcs
  have HRow := Lib.hid hrow
  clear hR hS hcmd hcs hrow
  go_wp2
  go_end0
  exact ⟨HST.out.gr.trans HR.out, rfl, HS.out, _, HC.out, A, cc, HCS.out, HRow.out.more (fun i hi => ⟨Nat.le_trans hz hi.1, hi.2⟩)⟩
open Go.RowKit
open Pl (Bs idxB numOk numN setOk setL)
def silentN : Bs := [46, 83, 73, 76, 69, 78, 84]
def wayN (h : Bs) : Option Int := if h = [70, 76, 65, 71, 83] then some 0 else if h = [43, 70, 76, 65, 71, 83] then some 1 else if h = [45, 70, 76, 65, 71, 83] then some 2 else none
open Go.Maps in
theorem wayN_1 : wayN [70, 76, 65, 71, 83] = some 0 := by decide
theorem wayN_2 : wayN [43, 70, 76, 65, 71, 83] = some 1 := by decide
theorem wayN_3 : wayN [45, 70, 76, 65, 71, 83] = some 2 := by decide
theorem wayN_no {h : Bs} (h1 : h ≠ [70, 76, 65, 71, 83]) (h2 : h ≠ [43, 70, 76, 65, 71, 83]) (h3 : h ≠ [45, 70, 76, 65, 71, 83]) : wayN h = none := by unfold wayN; rw [if_neg h1, if_neg h2, if_neg h3]
def waysD : DataW Unit := (((DataW.map []).put (.string [70, 76, 65, 71, 83]) (.lit (.int .i64 0))).put (.string [43, 70, 76, 65, 71, 83]) (.lit (.int .i64 1))).put (.string [45, 70, 76, 65, 71, 83]) (.lit (.int .i64 2))
open Go.Maps in
theorem ways_at (h : Bs) : Maps.has waysD (.string h) = (wayN h).isSome ∧ ∀ c, waysD.atKey (.string h) (.lit (.int .i64 0)) = .lit (.int .i64 c) → c = (wayN h).getD 0 := by
 have m0 : IsMap (DataW.map [] : DataW Unit) := isMap_empty
 have ne : ∀ a b : Bs, a ≠ b → (Lit.string a) ≠ (Lit.string b) := fun a b hn e => hn (by injection e)
 unfold waysD
 by_cases h3 : h = [45, 70, 76, 65, 71, 83]
 ·
  subst h3
  rw [has_put_same ((m0.put _ _).put _ _) (show WideAt.IsKeyLit (Lit.string _) from trivial), atKey_put_same ((m0.put _ _).put _ _) (show WideAt.IsKeyLit (Lit.string _) from trivial), wayN_3]
  exact ⟨rfl, fun c e => by injection e with e; injection e with _ e; exact e.symm⟩
 rw [has_put_other (ne _ _ h3), atKey_put_other (ne _ _ h3)]
 by_cases h2 : h = [43, 70, 76, 65, 71, 83]
 ·
  subst h2
  rw [has_put_same (m0.put _ _) (show WideAt.IsKeyLit (Lit.string _) from trivial), atKey_put_same (m0.put _ _) (show WideAt.IsKeyLit (Lit.string _) from trivial), wayN_2]
  exact ⟨rfl, fun c e => by injection e with e; injection e with _ e; exact e.symm⟩
 rw [has_put_other (ne _ _ h2), atKey_put_other (ne _ _ h2)]
 by_cases h1 : h = [70, 76, 65, 71, 83]
 ·
  subst h1
  rw [has_put_same m0 (show WideAt.IsKeyLit (Lit.string _) from trivial), atKey_put_same m0 (show WideAt.IsKeyLit (Lit.string _) from trivial), wayN_1]
  exact ⟨rfl, fun c e => by injection e with e; injection e with _ e; exact e.symm⟩
 rw [has_put_other (ne _ _ h1), atKey_put_other (ne _ _ h1), wayN_no h1 h2 h3]
 exact ⟨rfl, fun c e => by
  have e' : (DataW.lit (.int .i64 0) : DataW Unit) = .lit (.int .i64 c) := e
  injection e' with e'; injection e' with _ e'; exact e'.symm⟩
open Go.Maps in
theorem ways_map (w : World) (h : Bs) (hh : h.length ≤ 1000000) : ∃ m1 m2 m3 : World,
  (Instr.mapUpdate 131 (.map (some w.heap.size)) (.string ⟨#[70, 76, 65, 71, 83]⟩) (.int .i64 0)).run Tryz.prog (w.alloc (Obj.map #[] 0)) = .ok () m1 ∧
  (Instr.mapUpdate 131 (.map (some w.heap.size)) (.string ⟨#[43, 70, 76, 65, 71, 83]⟩) (.int .i64 1)).run Tryz.prog m1 = .ok () m2 ∧
  (Instr.mapUpdate 131 (.map (some w.heap.size)) (.string ⟨#[45, 70, 76, 65, 71, 83]⟩) (.int .i64 2)).run Tryz.prog m2 = .ok () m3 ∧
  (Instr.lookup 131 (.map (some w.heap.size)) (.string (str h)) true).run Tryz.prog m3 = .ok (.tuple #[.int .i64 ((wayN h).getD 0), .bool (wayN h).isSome]) m3 ∧ Below w.heap.size w m3 := by
 have law : Keyed Tryz.prog 9 := string_keyed Tryz.underlying9
 have hT : Tryz.prog.underlying 131 = some (.map 9 3) := by kernel_rfl
 have hz : ∀ W, (zeroValue 3).run Tryz.prog W = .ok (.int .i64 0) W := by intro W; kernel_rfl
 have hk : ∀ s : ByteArray, s.size ≤ 2000000 → keyOf Tryz.prog 9 (.string s) = some (.string s.data.toList) := fun s hs => WideMaps.keyOf_string_mk Tryz.underlying9 (by unfold maxLen; omega)
 have h0 := World.ownsMap_made w Tryz.prog 9 (plainElem (H := Unit) Tryz.prog 3)
 obtain ⟨m1, r1, o1, g1⟩ := h0.update law hT (by unfold maxLen; omega) (hk ⟨#[70, 76, 65, 71, 83]⟩ (by decide)) (plainElem_int Tryz.underlying3 (a := 0) (by decide))
 obtain ⟨m2, r2, o2, g2⟩ := o1.update law hT (by unfold maxLen; omega) (hk ⟨#[43, 70, 76, 65, 71, 83]⟩ (by decide)) (plainElem_int Tryz.underlying3 (a := 1) (by decide))
 obtain ⟨m3, r3, o3, g3⟩ := o2.update law hT (by unfold maxLen; omega) (hk ⟨#[45, 70, 76, 65, 71, 83]⟩ (by decide)) (plainElem_int Tryz.underlying3 (a := 2) (by decide))
 obtain ⟨v, ps, r4, hv⟩ := o3.look_ok law hT (hz m3) (plainElem_int (H := Unit) Tryz.underlying3 (a := 0) (by decide)) (hk (str h) (by rw [str_size]; omega))
 obtain ⟨c, rfl, hc, _⟩ := plainElem_int_inv Tryz.underlying3 hv
 have hwA := ways_at h
 have hcc : c = (wayN h).getD 0 := hwA.2 c (congrArg Prod.fst hc)
 have hhas : Maps.has _ (Lit.string (str h).data.toList) = (wayN h).isSome := hwA.1
 have r4 := r4.trans (show Result.ok (Value.tuple #[.int .i64 c, .bool _]) m3 = Result.ok (.tuple #[.int .i64 ((wayN h).getD 0), .bool (wayN h).isSome]) m3 from by rw [hcc]; exact congrArg (fun b => Result.ok (Value.tuple #[.int .i64 ((wayN h).getD 0), .bool b]) m3) hhas)
 refine ⟨m1, m2, m3, r1, r2, r3, r4, ?_⟩
 have hB := (Below.refl w.heap.size w).alloc (Nat.le_refl _) (Obj.map #[] 0)
 exact ((hB.grown g1 (by simp) (fun k e => by rw [← Option.some.inj e]; exact Nat.le_refl _)).grown g2 (by have := g1.size; simp at this; omega) (fun k e => by rw [← Option.some.inj e]; exact Nat.le_refl _)).grown g3 (by have := g1.size; have := g2.size; simp at *; omega) (fun k e => by rw [← Option.some.inj e]; exact Nat.le_refl _)
abbrev StoP := List (Int × Int) × Int × Bool × Int
abbrev fgS (l : List (Int × Int)) (way : Int) (sil : Bool) (p : Int × Bs) : StoP × Bs := ((l, way, sil, p.1), p.2)
def stFlags (l : List (Int × Int)) (way : Int) (sil : Bool) (s : Bs) : Option (StoP × Bs) :=
 match isB [32] s with
 | none => none
 | some s1 => match isB [40] s1 with
  | none => none
  | some _ => (flagsB s1).map (fgS l way sil)
def storeB (s : Bs) : Option (StoP × Bs) :=
 match isB [32] s with
 | none => none
 | some s1 => match setB s1 with
  | none => none
  | some (l, s2) => match isB [32] s2 with
   | none => none
   | some s3 => match wordB [] s3 with
    | none => none
    | some (x, s4) => match wayN (Lib.trimSuffix (largeL x) silentN) with
     | none => none
     | some way => stFlags l way (Lib.hasSuffix (largeL x) silentN) s4
abbrev pkS (k : Nat) (p : StoP × Bs) : StoP × Bs × Nat := (p.1, p.2, k)
structure CtSt (w : World) (B C : Nat) (s : Bs) (k : Nat) (c : CmdV) (xs : List (Int × Int)) (W : World) : Prop where
 gr : R2 B C w W
 sc : Scn W B s k
 cmd : W.heap[C]? = some c.obj
 lt : B < w.heap.size ∧ C < w.heap.size ∧ B ≠ C
 row : RowC W (newT w W) (.slice c.sA c.sN c.sC) c.sN (flat xs)
theorem CtSt.step {w : World} {B C k k1 : Nat} {s s1 : Bs} {c : CmdV} {xs : List (Int × Int)} {W W1 : World} (st : CtSt w B C s k c xs W) (hG : W.grownBy W1 (some B)) (hS : Scn W1 B s1 k1) : CtSt w B C s1 k1 c xs W1 := by
 obtain ⟨h1, h2, h3⟩ := st.lt
 have hz := hG.size
 exact ⟨st.gr.trans (.of hG), hS, (hG.block C (Array.getElem?_eq_some_iff.1 st.cmd).1 (fun e => h3 (Option.some.inj e).symm)).trans st.cmd, st.lt, (st.row.kept (fun i hi => hG.block i hi.2 (fun e => by have := Option.some.inj e; have := hi.1; omega))).more (fun i hi => ⟨hi.1, Nat.lt_of_lt_of_le hi.2 hz⟩)⟩
theorem CtSt.then {w : World} {B C k : Nat} {s : Bs} {c : CmdV} {xs : List (Int × Int)} {W W1 : World} (st : CtSt w B C s k c xs W) (hB : Below W.heap.size W W1) : CtSt w B C s k c xs W1 := st.step (grown_below hB _) (st.sc.then hB)
theorem CtSt.set {w : World} {B C k : Nat} {s : Bs} {c c1 : CmdV} {xs : List (Int × Int)} {W : World} (st : CtSt w B C s k c xs W) (i : Nat) (v : Value) (hc : (Obj.cells (c.cells.setIfInBounds i v) 33 : Obj) = c1.obj) (h3 : c1.sA = c.sA ∧ c1.sN = c.sN ∧ c1.sC = c.sC) : CtSt w B C s k c1 xs (W.setCell ⟨C, i, none⟩ v) := by
 obtain ⟨h1, h2, hne⟩ := st.lt
 refine ⟨st.gr.trans (.ofC (grown_put W C i v)), st.sc.kept (grown_put W C i v) (fun e => hne (Option.some.inj e)), (setCell_heap_same st.cmd).trans (congrArg some hc), st.lt, ?_⟩
 rw [h3.1, h3.2.1, h3.2.2]
 exact (st.row.kept (fun i hi => Below.heap_setCell _ _ _ _ (by have := hi.1; dsimp only; omega))).more (fun i hi => ⟨hi.1, by simpa using hi.2⟩)
theorem CtSt.setS {w : World} {B C k : Nat} {s : Bs} {c : CmdV} {xs ys : List (Int × Int)} {W : World} (st : CtSt w B C s k c xs W) {A : Option Addr} {n cc : Nat} (hr : RowC W (newT w W) (.slice A n cc) n (flat ys)) : CtSt w B C s k { c with sA := A, sN := n, sC := cc } ys (W.setCell ⟨C, 4, none⟩ (.slice A n cc)) := by
 obtain ⟨h1, h2, hne⟩ := st.lt
 refine ⟨st.gr.trans (.ofC (grown_put W C 4 _)), st.sc.kept (grown_put W C 4 _) (fun e => hne (Option.some.inj e)), (setCell_heap_same st.cmd).trans rfl, st.lt, ?_⟩
 exact (hr.kept (fun i hi => Below.heap_setCell _ _ _ _ (by have := hi.1; dsimp only; omega))).more (fun i hi => ⟨hi.1, by simpa using hi.2⟩)
theorem CtSt.off {w : World} {B C k : Nat} {s : Bs} {c : CmdV} {xs : List (Int × Int)} {W W1 : World} (st : CtSt w B C s k c xs W) (hG : W.grownBy W1 (some B)) : R2 B C w W1 ∧ CmOk 12 C W1 := ⟨st.gr.trans (.of hG), CmOk.step ⟨_, st.cmd, rfl⟩ hG st.lt.2.2⟩
theorem CtSt.badS {α : Type} {w : World} {B C k : Nat} {s : Bs} {c : CmdV} {xs : List (Int × Int)} {W W1 : World} (st : CtSt w B C s k c xs W) {Q : World → α → Array Value → Prop} {o : Option (α × Bs × Nat)} (hG : W.grownBy W1 (some B)) (_ : True) (ho : o = none) : RestPostS 12 w B C Q o (.panicked [wrongE]) W1 := .badX (st.off hG) ho
theorem CtSt.badR {α : Type} {w : World} {B C k : Nat} {s : Bs} {c : CmdV} {xs : List (Int × Int)} {W : World} (st : CtSt w B C s k c xs W) {Q : World → α → Array Value → Prop} {o : Option (α × Bs × Nat)} (ho : o = none) : RestPostS 12 w B C Q o (.panicked [wrongE]) W := .badX ⟨st.gr, _, st.cmd, rfl⟩ ho
def StoQ (w : World) (c0 : CmdV) : World → StoP → Array Value → Prop := fun w' p cs' => ∃ A cc, cs' = CmdV.cells { c0 with sA := A, sN := p.1.length, sC := cc, how := p.2.1, silent := p.2.2.1, flags := p.2.2.2 } ∧ RowC w' (newT w w') (.slice A p.1.length cc) p.1.length (flat p.1)
theorem store_walk (G : Glob) (B C k : Nat) (s : Bs) (c00 : CmdV) (h0 : c00.sN = 0) (hne : B ≠ C) (hC20 : 20 ≤ C) (w : World) (hC : w.heap[C]? = some c00.obj) (hE : EnvI G w B) (h : Scn w B s k) :
  Calls Tryz.prog 76 #[scP B, cmP C] w (RestPostS 12 w B C (StoQ w c00) ((storeB s).map (pkS k))) := by
 have H0 : Hid (CtSt w B C s k c00 [] w) := Lib.hid ⟨R2.refl _ _ _, h, hC, ⟨h.lt, (Array.getElem?_eq_some_iff.1 hC).1, hne⟩, by rw [h0]; exact ⟨_, _, rfl, fun hn => absurd hn (Nat.lt_irrefl _)⟩⟩
 have HE := Lib.hid hE
 have HT := Lib.hid (show (storeB s).map (pkS k) = (match isB [32] s with
 | none => none
 | some s1 => match setB s1 with
  | none => none
  | some (l, s2) => match isB [32] s2 with
   | none => none
   | some s3 => match wordB [] s3 with
    | none => none
    | some (x, s4) => match wayN (Lib.trimSuffix (largeL x) silentN) with
     | none => none
     | some way => stFlags l way (Lib.hasSuffix (largeL x) silentN) s4).map (pkS k) from rfl)
 generalize (storeB s).map (pkS k) = oo at *
 have hmm := @run_makeMap Tryz.prog
 clear hC hE h
 obtain ⟨c0, c1, f0, f1⟩ := H0.out.sc.cells
 obtain ⟨⟨d0, d1, d2, d3, d4, d5, d6, d7, d8, d9, d10, d11⟩, fz⟩ := CmdV.cell H0.out.cmd
 cases hi1 : isB [32] s with
 | none =>
  have HO := Lib.hid (show oo = none by rw [HT.out, hi1]; rfl)
  have KB := Lib.hid (fun W hW => blank_no B s k hi1 W hW)
  clear hi1
  go_enter Tryz.func76, Tryz.ntmps76
  go_wp2_with fail
  refine (KB.out _ H0.out.sc).mono ?_
  rintro e w8 ⟨rfl, hG8⟩
  exact ⟨rfl, H0.out.badS hG8 (by simp) HO.out⟩
 | some s1 =>
  have HT := Lib.hid (show oo = (match setB s1 with
   | none => none
   | some (l, s2) => match isB [32] s2 with
    | none => none
    | some s3 => match wordB [] s3 with
     | none => none
     | some (x, s4) => match wayN (Lib.trimSuffix (largeL x) silentN) with
      | none => none
      | some way => stFlags l way (Lib.hasSuffix (largeL x) silentN) s4).map (pkS k) by rw [HT.out, hi1])
  have KB := Lib.hid (fun W hW => blank_ok B s s1 k hi1 W hW)
  clear hi1
  go_enter Tryz.func76, Tryz.ntmps76
  go_wp2_with fail
  refine (KB.out _ H0.out.sc).mono ?_
  rintro e w1 ⟨rfl, hS1, hG1⟩
  have H1 := Lib.hid (H0.out.step hG1 hS1)
  clear c0 c1 f0 f1 d0 d1 d2 d3 d4 d5 d6 d7 d8 d9 d10 d11 fz
  clear hS1 hG1
  obtain ⟨c0, c1, f0, f1⟩ := H1.out.sc.cells
  obtain ⟨⟨d0, d1, d2, d3, d4, d5, d6, d7, d8, d9, d10, d11⟩, fz⟩ := CmdV.cell H1.out.cmd
  go_wp2_with fail
  refine (rset_walk G B k s1 _ (HE.out.kept2 H1.out.gr hC20) H1.out.sc).mono ?_
  rintro e w2 ⟨hG2, hP2⟩
  cases ht : setB s1 with
  | none =>
   rw [ht] at hP2
   subst hP2
   exact ⟨rfl, H1.out.badS hG2 (by simp) (by rw [HT.out, ht]; rfl)⟩
  | some p =>
   obtain ⟨l, s2⟩ := p
   rw [ht] at hP2
   obtain ⟨u2, rfl, hO2, hS2⟩ := hP2
   obtain ⟨A, cc, hu2, _⟩ := rowC_own hO2
   subst hu2
   have HT := Lib.hid (show oo = (match isB [32] s2 with
    | none => none
    | some s3 => match wordB [] s3 with
     | none => none
     | some (x, s4) => match wayN (Lib.trimSuffix (largeL x) silentN) with
      | none => none
      | some way => stFlags l way (Lib.hasSuffix (largeL x) silentN) s4).map (pkS k) by rw [HT.out, ht])
   have H2 := Lib.hid (H1.out.step hG2 hS2)
   have hz1 := H1.out.gr.size
   have H2s := Lib.hid (H2.out.setS (ys := l) ((rowC_own hO2).more (fun i hi => ⟨Nat.le_trans hz1 hi.1, hi.2⟩)))
   clear c0 c1 f0 f1 d0 d1 d2 d3 d4 d5 d6 d7 d8 d9 d10 d11 fz
   clear hG2 hS2 hO2 ht
   obtain ⟨c0, c1, f0, f1⟩ := H2.out.sc.cells
   obtain ⟨⟨d0, d1, d2, d3, d4, d5, d6, d7, d8, d9, d10, d11⟩, fz⟩ := CmdV.cell H2.out.cmd
   cases hi3 : isB [32] s2 with
   | none =>
    have HO := Lib.hid (show oo = none by rw [HT.out, hi3]; rfl)
    have KB := Lib.hid (fun W hW => blank_no B s2 k hi3 W hW)
    clear hi3
    go_wp2_with fail
    refine (KB.out _ H2s.out.sc).mono ?_
    rintro e w8 ⟨rfl, hG8⟩
    exact ⟨rfl, H2s.out.badS hG8 (by simp) HO.out⟩
   | some s3 =>
    have HT := Lib.hid (show oo = (match wordB [] s3 with
     | none => none
     | some (x, s4) => match wayN (Lib.trimSuffix (largeL x) silentN) with
      | none => none
      | some way => stFlags l way (Lib.hasSuffix (largeL x) silentN) s4).map (pkS k) by rw [HT.out, hi3])
    have KB := Lib.hid (fun W hW => blank_ok B s2 s3 k hi3 W hW)
    have KW : Hid (∀ W, Scn W B s3 k → Calls Tryz.prog 26 #[scP B, .string ⟨#[]⟩] W _) := Lib.hid (fun W hW => word_walk B k [] s3 W hW)
    clear hi3
    go_wp2_with fail
    refine (KB.out _ H2s.out.sc).mono ?_
    rintro e w3 ⟨rfl, hS3, hG3⟩
    have H3 := Lib.hid (H2s.out.step hG3 hS3)
    clear c0 c1 f0 f1 d0 d1 d2 d3 d4 d5 d6 d7 d8 d9 d10 d11 fz
    clear hS3 hG3
    obtain ⟨c0, c1, f0, f1⟩ := H3.out.sc.cells
    obtain ⟨⟨d0, d1, d2, d3, d4, d5, d6, d7, d8, d9, d10, d11⟩, fz⟩ := CmdV.cell H3.out.cmd
    go_wp2_with fail
    refine (KW.out _ H3.out.sc).mono ?_
    rintro e w4 hP
    rcases hP.split with ⟨ho, rfl, hG4⟩ | ⟨x, s4, ho, rfl, hG4, hS4⟩
    ·
     exact ⟨rfl, H3.out.badS hG4 (by simp) (by rw [HT.out, ho]; rfl)⟩
    have hxl := wordB_len ho
    have hx6 : x.length ≤ 1000000 := by have := H3.out.sc.small; omega
    have HT := Lib.hid (show oo = (match wayN (Lib.trimSuffix (largeL x) silentN) with
      | none => none
      | some way => stFlags l way (Lib.hasSuffix (largeL x) silentN) s4).map (pkS k) by rw [HT.out, ho])
    have H4 := Lib.hid (H3.out.step hG4 hS4)
    clear c0 c1 f0 f1 d0 d1 d2 d3 d4 d5 d6 d7 d8 d9 d10 d11 fz
    clear hG4 hS4 hP ho
    obtain ⟨c0, c1, f0, f1⟩ := H4.out.sc.cells
    obtain ⟨⟨d0, d1, d2, d3, d4, d5, d6, d7, d8, d9, d10, d11⟩, fz⟩ := CmdV.cell H4.out.cmd
    go_wp2_with fail
    refine (large_walk21 x hx6 _).mono ?_
    rintro e w5 ⟨rfl, hB5⟩
    have H5 := Lib.hid (H4.out.then hB5)
    clear c0 c1 f0 f1 d0 d1 d2 d3 d4 d5 d6 d7 d8 d9 d10 d11 fz
    clear hB5
    obtain ⟨c0, c1, f0, f1⟩ := H5.out.sc.cells
    obtain ⟨⟨d0, d1, d2, d3, d4, d5, d6, d7, d8, d9, d10, d11⟩, fz⟩ := CmdV.cell H5.out.cmd
    have KC : Hid (∀ W, Calls Tryz.prog 18 #[.string (str (largeL x)), .string ⟨#[46, 83, 73, 76, 69, 78, 84]⟩] W fun e w' => e = .returned (.tuple #[.string (str (Lib.trimSuffix (largeL x) silentN)), .bool (Lib.hasSuffix (largeL x) silentN)]) ∧ w' = W) := Lib.hid (fun W => cutSuf_walk21 (str (largeL x)) (str silentN) W (by rw [str_size, large_len]; omega))
    have hhow : (Lib.trimSuffix (largeL x) silentN).length ≤ 1000000 := by have := large_len x; unfold Lib.trimSuffix; split <;> simp <;> omega
    generalize Lib.trimSuffix (largeL x) silentN = how at *
    generalize Lib.hasSuffix (largeL x) silentN = sil at *
    go_wp2_with fail
    refine (KC.out _).mono ?_
    rintro e w6 ⟨rfl, rfl⟩
    obtain ⟨m1, m2, m3, r1, r2, r3, r4, hB6⟩ := ways_map w6 how hhow
    have H6 := Lib.hid (H5.out.then hB6)
    clear c0 c1 f0 f1 d0 d1 d2 d3 d4 d5 d6 d7 d8 d9 d10 d11 fz
    clear hB6 hhow
    cases hway : wayN how with
    | none =>
     have HO := Lib.hid (show oo = none by rw [HT.out, hway]; rfl)
     rw [hway] at r4
     dsimp only [Option.getD, Option.isSome] at r4
     clear hway
     go_wp2_with fail
     refine (must_no B _).mono ?_
     rintro e w' ⟨rfl, rfl⟩
     exact ⟨rfl, H6.out.badR HO.out⟩
    | some way =>
     have HT := Lib.hid (show oo = (stFlags l way sil s4).map (pkS k) by rw [HT.out, hway])
     rw [hway] at r4
     dsimp only [Option.getD, Option.isSome] at r4
     clear hway
     obtain ⟨c0, c1, f0, f1⟩ := H6.out.sc.cells
     obtain ⟨⟨d0, d1, d2, d3, d4, d5, d6, d7, d8, d9, d10, d11⟩, fz⟩ := CmdV.cell H6.out.cmd
     go_wp2_with fail
     refine (must_walk B _).mono ?_
     rintro e w' ⟨rfl, rfl⟩
     clear r1 r2 r3 r4
     have H7a := Lib.hid (H6.out.set 5 (.int .i64 way) (c1 := { c00 with sA := A, sN := l.length, sC := cc, how := way }) rfl ⟨rfl, rfl, rfl⟩)
     have H7 := Lib.hid (H7a.out.set 7 (.bool sil) (c1 := { c00 with sA := A, sN := l.length, sC := cc, how := way, silent := sil }) rfl ⟨rfl, rfl, rfl⟩)
     cases hi7 : isB [32] s4 with
     | none =>
      have HO := Lib.hid (show oo = none by rw [HT.out]; unfold stFlags; rw [hi7]; rfl)
      have KB := Lib.hid (fun W hW => blank_no B s4 k hi7 W hW)
      clear hi7
      go_wp2_with fail
      refine (KB.out _ H7.out.sc).mono ?_
      rintro e w8 ⟨rfl, hG8⟩
      exact ⟨rfl, H7.out.badS hG8 (by simp) HO.out⟩
     | some s7 =>
      have HT := Lib.hid (show oo = (match isB [40] s7 with
        | none => none
        | some _ => (flagsB s7).map (fgS l way sil)).map (pkS k) by rw [HT.out]; unfold stFlags; rw [hi7])
      have KB := Lib.hid (fun W hW => blank_ok B s4 s7 k hi7 W hW)
      clear hi7
      go_wp2_with fail
      refine (KB.out _ H7.out.sc).mono ?_
      rintro e w8 ⟨rfl, hS8, hG8⟩
      have H8 := Lib.hid (H7.out.step hG8 hS8)
      clear c0 c1 f0 f1 d0 d1 d2 d3 d4 d5 d6 d7 d8 d9 d10 d11 fz
      clear hS8 hG8
      obtain ⟨c0, c1, f0, f1⟩ := H8.out.sc.cells
      obtain ⟨⟨d0, d1, d2, d3, d4, d5, d6, d7, d8, d9, d10, d11⟩, fz⟩ := CmdV.cell H8.out.cmd
      cases hi8 : isB [40] s7 with
      | none =>
       have HO := Lib.hid (show oo = none by rw [HT.out, hi8]; rfl)
       have KP : Hid (∀ W, Calls Tryz.prog 99 #[.string (str s7), .string ⟨#[40]⟩] W _) := Lib.hid (fun W => hasPre_no hi8 W)
       clear hi8
       go_wp2_with fail
       refine (KP.out _).mono ?_
       rintro e w9 ⟨rfl, rfl⟩
       go_wp2_with fail
       refine (must_no B _).mono ?_
       rintro e w' ⟨rfl, rfl⟩
       exact ⟨rfl, H8.out.badR HO.out⟩
      | some sx =>
       have HT := Lib.hid (show oo = ((flagsB s7).map (fgS l way sil)).map (pkS k) by rw [HT.out, hi8])
       have KP : Hid (∀ W, Calls Tryz.prog 99 #[.string (str s7), .string ⟨#[40]⟩] W _) := Lib.hid (fun W => hasPre_yes hi8 W)
       clear hi8
       go_wp2_with fail
       refine (KP.out _).mono ?_
       rintro e w9 ⟨rfl, rfl⟩
       go_wp2_with fail
       refine (must_walk B _).mono ?_
       rintro e w' ⟨rfl, rfl⟩
       go_wp2_with fail
       refine (rflags_walk G B k s7 _ (HE.out.kept2 H8.out.gr hC20) H8.out.sc).mono ?_
       rintro e w10 hP
       rcases hP.split with ⟨ho, rfl, hG10⟩ | ⟨f, r10, ho, rfl, hG10, hS10⟩
       ·
        exact ⟨rfl, H8.out.badS hG10 (by simp) (by rw [HT.out, ho]; rfl)⟩
       have HO := Lib.hid (show oo = some ((l, way, sil, f), r10, k) by rw [HT.out, ho]; rfl)
       have H10 := Lib.hid (H8.out.step hG10 hS10)
       clear c0 c1 f0 f1 d0 d1 d2 d3 d4 d5 d6 d7 d8 d9 d10 d11 fz
       clear hG10 hS10 ho hP
       obtain ⟨c0, c1, f0, f1⟩ := H10.out.sc.cells
       obtain ⟨⟨d0, d1, d2, d3, d4, d5, d6, d7, d8, d9, d10, d11⟩, fz⟩ := CmdV.cell H10.out.cmd
       have H11 := Lib.hid (H10.out.set 6 (.int .i64 f) (c1 := { c00 with sA := A, sN := l.length, sC := cc, how := way, silent := sil, flags := f }) rfl ⟨rfl, rfl, rfl⟩)
       go_wp2
       go_end0
       exact ⟨H11.out.gr, by rw [HO.out]; exact ⟨rfl, H11.out.sc, _, H11.out.cmd, A, cc, rfl, H11.out.row⟩⟩
open Go.RowKit
open Pl (Bs idxB numOk numN setOk setL)
attribute [local go_sem ↓] Go.wp_at_zero Go.wp_at_succ
theorem rest_store (G : Glob) (B C k : Nat) (s N : Bs) (cs : Array Value) (h1 : cs[1]? = some (.string (str N))) (c00 : CmdV) (hcs : cs = c00.cells) (h0 : c00.sN = 0) (hN : N = [83, 84, 79, 82, 69]) (hne : B ≠ C) (hC20 : 20 ≤ C) (w : World) (hC : w.heap[C]? = some (Obj.cells cs 33)) (hE : EnvI G w B) (h : Scn w B s k) :
  Calls Tryz.prog 31 #[scP B, cmP C] w (RestPostS cs.size w B C (StoQ w c00) ((storeB s).map (pkS k))) := by
 have HNN := Lib.hid hN
 clear hN
 subst hcs
 have HST := Lib.hid (RsSt.start h hC hne)
 have HSD := Lib.hid HST.out.draw
 have HS0 := Lib.hid HSD.out.keep
 have HE := Lib.hid hE
 obtain ⟨c1, _⟩ := HST.out.cell h1
 obtain ⟨hl1, hl2, hl3⟩ := HST.out.lt
 have KS := Lib.hid (store_walk G B C k s c00 h0 hne hC20 _ HST.out.cmd (HE.out.kept2 HST.out.gr hC20) HST.out.sc)
 have hz := HST.out.gr.size
 generalize (storeB s).map (pkS k) = oo at *
 clear h1 h0 hE h hC
 have hN := HNN.out
 obtain ⟨n0, n1, n2, n3, n4, n5, n6, n7, n8, n9, n10, n11, n12, n13, n14, n15, n16, n17, n18, _⟩ := notAll (N := N) (Ls := rNs.take 19) (by rw [hN]; decide)
 have n19 := strEq hN
 clear hN
 go_enter Tryz.func31, Tryz.ntmps31
 go_wp2_with fail
 refine KS.out.mono ?_
 rintro e w5 ⟨hR, hP⟩
 cases oo with
 | none =>
  obtain ⟨rfl, hok⟩ := hP
  exact ⟨rfl, HST.out.gr.trans hR, rfl, hok⟩
 | some p =>
  obtain ⟨rfl, hS, cs', hcmd, A, cc, hcs, hrow⟩ := hP
  have HR := Lib.hid hR
  have HS := Lib.hid hS
  have HC := Lib.hid hcmd
  have HCS := Lib.hid hcs
  have HRow := Lib.hid hrow
  clear hR hS hcmd hcs hrow
  go_wp2
  go_end0
  exact ⟨HST.out.gr.trans HR.out, rfl, HS.out, _, HC.out, A, cc, HCS.out, HRow.out.more (fun i hi => ⟨Nat.le_trans hz hi.1, hi.2⟩)⟩
open Go.RowKit
open Pl (Bs idxB numOk numN setOk setL)
attribute [local go_sem ↓] Go.wp_at_zero Go.wp_at_succ
abbrev appY (xs : List Bs) (p : Bs × Bs) : List Bs × Bs := (xs ++ [p.1], p.2)
def listB (s : Bs) : Option (List Bs × Bs) :=
 match textsB 1 s with
 | none => none
 | some (xs, s1) => match isB [32] s1 with
  | none => none
  | some s2 => (textB [37, 42] s2).map (appY xs)
theorem RsSt.grow {w : World} {B C k : Nat} {s : Bs} {cs : Array Value} {W W1 : World} (st : RsSt w B C s k cs W) {row : Option Nat} (hG : W.grownBy W1 row) (hr : ∀ j, row = some j → w.heap.size + 2 ≤ j) : RsSt w B C s k cs W1 := by
 obtain ⟨h1, h2, h3⟩ := st.lt
 have hk : ∀ i x, W.heap[i]? = some x → i < w.heap.size + 2 → W1.heap[i]? = some x := fun i x hi hlt => (hG.block i (Array.getElem?_eq_some_iff.1 hi).1 (fun e => by have := hr i e.symm; omega)).trans hi
 exact ⟨⟨hG.os.trans st.gr.os, hG.tape.trans st.gr.tape, hG.output.trans st.gr.output, Nat.le_trans st.gr.size hG.size, fun i hi a b => (hG.block i (Nat.lt_of_lt_of_le hi st.gr.size) (fun e => by have := hr i e.symm; omega)).trans (st.gr.block i hi a b)⟩, st.sc.kept hG (fun e => by have := hr B e.symm; omega), hk _ _ st.cmd (by omega), hk _ _ st.bx (by omega), hk _ _ st.bc (by omega), h1, h2, h3⟩
abbrev pkL (k : Nat) (p : List Bs × Bs) : List Bs × Bs × Nat := (p.1, p.2, k)
theorem set_twice (cs : Array Value) (i : Nat) (a b : Value) : (cs.setIfInBounds i a).setIfInBounds i b = cs.setIfInBounds i b := by
 apply Array.ext_getElem?
 intro j
 simp only [Array.getElem?_setIfInBounds, Array.size_setIfInBounds]
 split <;> rfl
end Go.Proofs.YtgmfhldfdnnafaaGreatDoor
