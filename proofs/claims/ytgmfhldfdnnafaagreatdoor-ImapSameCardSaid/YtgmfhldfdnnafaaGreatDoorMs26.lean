/- A part of the proofs of the statements on chapter 21: walks of functions that they reach, and plain laws. What is proved is stated in the last text. Conditions: none of its own. -/
import Derived.Test.YtgmfhldfdnnafaaGreatDoorMs25
set_option maxHeartbeats 8000000
set_option maxRecDepth 100000
set_option linter.unusedSimpArgs false
set_option linter.unusedVariables false
namespace Go.Proofs.YtgmfhldfdnnafaaGreatDoor
open Go.RowKit
open Pl (Bs)
def uidNm : Bs := [85, 73, 68]
def finB : Option (CmdP × Bs) → Option CmdP
 | some (c, []) => some c
 | _ => none
def parseU (sec : Bs → Option SpecP) (tg s3 : Bs) : Option CmdP := match isB [32] s3 with
 | none => none
 | some s4 => match wordB [] s4 with
  | none => none
  | some (n1, s5) => if uidN.contains (largeL n1) = true then finB (restB sec (cmdP0 tg (largeL n1) true) s5) else none
def parseN (sec : Bs → Option SpecP) (tg n0 s3 : Bs) : Option CmdP :=
 if largeL n0 = uidNm then parseU sec tg s3 else finB (restB sec (cmdP0 tg (largeL n0) false) s3)
def prsB (sec : Bs → Option SpecP) (s : Bs) : Option CmdP := match wordB [] s with
 | none => none
 | some (tg, s1) => if tagB tg = true then (match isB [32] s1 with
  | none => none
  | some s2 => match wordB [] s2 with
   | none => none
   | some (n0, s3) => parseN sec tg n0 s3) else none
def PrsPost (G : Glob) (w : World) (o : Option CmdP) (e : Ending) (w' : World) : Prop :=
 Below w.heap.size w w' ∧ match o with
  | none => e = .returned (.tuple #[.agg cmdZ.cells, G.form])
  | some x => ∃ c : CmdV, e = .returned (.tuple #[.agg c.cells, .nilIface]) ∧ CmdAt w' (newT w w') c x
structure PsBad (G : Glob) (w W : World) : Prop where
 below : Below w.heap.size w W
 cmd : CmOk 12 w.heap.size W
 err : W.heap[w.heap.size + 1]? = some (Obj.cells #[.nilIface] 35)
 form : W.cell? ⟨0, 0, none⟩ = some G.form
 formI : ∃ t x, G.form = .iface t x
theorem PsSt.bad0 {G : Glob} {w : World} {s : Bs} {k : Nat} {c : CmdV} {W : World} (st : PsSt w s k c W) (hE : EnvI G W (w.heap.size + 1 + 1)) : PsBad G w W := ⟨st.below, ⟨_, st.cmd, rfl⟩, st.err, hE.form, hE.formI⟩
theorem PsBad.step {G : Glob} {w W W1 : World} (h : PsBad G w W) (h20 : 20 ≤ w.heap.size) (hG : W.grownBy W1 (some (w.heap.size + 1 + 1))) : PsBad G w W1 := by
 have hz := (Array.getElem?_eq_some_iff.1 h.err).1
 refine ⟨h.below.grown hG h.below.size (fun k e => by rw [← Option.some.inj e]; omega), h.cmd.step hG (by omega), (hG.block _ hz (fun e => by have := Option.some.inj e; omega)).trans h.err, hG.cell (a := ⟨_, 0, none⟩) h.form (fun e => by have := Option.some.inj e; simp at this), h.formI⟩
theorem PsBad.rest {G : Glob} {w W W1 : World} (h : PsBad G w W) (h20 : 20 ≤ w.heap.size) (hR : R2 (w.heap.size + 1 + 1) w.heap.size W W1) (hok : CmOk 12 w.heap.size W1) : PsBad G w W1 := by
 have hz := (Array.getElem?_eq_some_iff.1 h.err).1
 refine ⟨⟨hR.os.trans h.below.os, hR.tape.trans h.below.tape, hR.output.trans h.below.output, Nat.le_trans h.below.size hR.size, fun i hi => (hR.block i (Nat.lt_of_lt_of_le hi h.below.size) (by omega) (by omega)).trans (h.below.block i hi)⟩, hok, (hR.block _ hz (by omega) (by omega)).trans h.err, (World.cell?_of_block (a := ⟨0, 0, none⟩) (hR.block 0 (by omega) (by omega) (by omega))).trans h.form, h.formI⟩
theorem caught21 {w W W1 : World} (hB : Below w.heap.size w W) (hz : w.heap.size + 2 ≤ W.heap.size) (hR : R2 w.heap.size (w.heap.size + 1) W W1) : Below w.heap.size w W1 :=
 ⟨hR.os.trans hB.os, hR.tape.trans hB.tape, hR.output.trans hB.output, Nat.le_trans hB.size hR.size, fun i hi => (hR.block i (Nat.lt_of_lt_of_le hi hB.size) (by omega) (by omega)).trans (hB.block i hi)⟩
theorem newT_at {w W0 W W1 : World} {c : CmdV} {x : CmdP} (h : CmdAt W (newT W0 W) c x) (h0 : w.heap.size + 2 ≤ W0.heap.size) (hR : R2 w.heap.size (w.heap.size + 1) W W1) : CmdAt W1 (newT w W1) c x :=
 (h.kept (fun i hi => hR.block i hi.2 (by have := hi.1; omega) (by have := hi.1; omega))).more (fun i hi => ⟨by have := hi.1; omega, Nat.lt_of_lt_of_le hi.2 hR.size⟩)
theorem parse_full (G : Glob) (sec : Bs → Option SpecP) (hsec : SecCon G sec) (s : Bs) (hs : s.length ≤ 1000000) (w : World) (hE0 : 20 ≤ w.heap.size) (hE : ∀ W, Below w.heap.size w W → w.heap.size + 1 + 1 < W.heap.size → EnvI G W (w.heap.size + 1 + 1)) :
  Calls Tryz.prog 12 #[.string (str s)] w (PrsPost G w (prsB sec s)) := by
 have hmf : ∀ (fn : Fn) (first cap : Array Value) (w : World), (Instr.makeFunc fn first cap).run Tryz.prog w = .ok (.func fn first cap) w := fun _ _ _ _ => rfl
 have HE := Lib.hid hE
 have HSec := Lib.hid hsec
 have HT := Lib.hid (show prsB sec s = (match wordB [] s with
  | none => none
  | some (tg, s1) => if tagB tg = true then (match isB [32] s1 with
   | none => none
   | some s2 => match wordB [] s2 with
    | none => none
    | some (n0, s3) => parseN sec tg n0 s3) else none) from rfl)
 generalize prsB sec s = oo at *
 have K1 : Hid (∀ W k, Scn W (w.heap.size + 1 + 1) s k → Calls Tryz.prog 26 #[scP (w.heap.size + 1 + 1), .string ⟨#[]⟩] W _) := Lib.hid (fun W k hW => word_walk (w.heap.size + 1 + 1) k [] s W hW)
 clear hE hsec
 go_enter_defers Tryz.func12, Tryz.ntmps12
 have HP0 := Lib.hid (PsSt.start (w := w) hs)
 have HB0 := Lib.hid (HP0.out.bad0 (HE.out _ HP0.out.below HP0.out.sc.lt))
 go_wp2_with fail
 refine (K1.out _ 0 HP0.out.sc).mono ?_
 rintro e w4 ⟨hG4, hP4⟩
 cases hw1 : wordB [] s with
 | none =>
  rw [hw1] at hP4
  subst hP4
  have HO := Lib.hid (show oo = none by rw [HT.out, hw1])
  have HB := Lib.hid (HB0.out.step hE0 hG4)
  refine leaves_cons (f := 25) (args := #[.pointer (some ⟨w.heap.size, 0, none⟩), .pointer (some ⟨w.heap.size + 1, 0, none⟩)]) (by simp) (by simp [go_sem]) ?_
  refine (parse_panic G w.heap.size _ HB.out.cmd HB.out.err HB.out.form HB.out.formI).mono ?_
  rintro e u' w'' ⟨rfl, rfl, ht, he9, hR9⟩
  obtain ⟨⟨x0, x1, x2, x3, x4, x5, x6, x7, x8, x9, x10, x11⟩, _⟩ := CmdV.cell ht
  obtain ⟨q1, _⟩ := one_cells he9
  refine ⟨.tuple #[.agg cmdZ.cells, G.form], ?_, caught21 HB.out.below (by have := (Array.getElem?_eq_some_iff.1 HB.out.err).1; omega) hR9, ?_⟩
  ·
   simp [results, Tryz.results12, go_sem, x0, x1, x2, x3, x4, x5, x6, x7, x8, x9, x10, x11, q1]
  ·
   rw [HO.out]
 | some p =>
  obtain ⟨tg, s1⟩ := p
  rw [hw1] at hP4
  obtain ⟨rfl, hS4⟩ := hP4
  have hl1 := wordB_len hw1
  have HT := Lib.hid (show oo = (if tagB tg = true then (match isB [32] s1 with
   | none => none
   | some s2 => match wordB [] s2 with
    | none => none
    | some (n0, s3) => parseN sec tg n0 s3) else none) by rw [HT.out, hw1])
  have K2 := Lib.hid (fun W => tag_walk tg (by omega) W)
  have HP4 := Lib.hid (HP0.out.step hG4 hS4)
  have HP5 := Lib.hid (HP4.out.put ⟨str tg, ⟨#[]⟩, false, none, 0, 0, none, 0, 0, 0, 0, false, -1, ⟨#[]⟩, none, 0, 0, none, 0, 0⟩)
  obtain ⟨⟨a0, a1, a2, a3, a4, a5, a6, a7, a8, a9, a10, a11⟩, af⟩ := CmdV.cell HP4.out.cmd
  obtain ⟨w5, hw5⟩ : ∃ w5, ((((((((((((w4.setCell ⟨w.heap.size, 0, none⟩ (.string (str tg))).setCell ⟨w.heap.size, 1, none⟩ (.string ⟨#[]⟩)).setCell ⟨w.heap.size, 2, none⟩ (.bool false)).setCell ⟨w.heap.size, 3, none⟩ (.slice none 0 0)).setCell ⟨w.heap.size, 4, none⟩ (.slice none 0 0)).setCell ⟨w.heap.size, 5, none⟩ (.int .i64 0)).setCell ⟨w.heap.size, 6, none⟩ (.int .i64 0)).setCell ⟨w.heap.size, 7, none⟩ (.bool false)).setCell ⟨w.heap.size, 8, none⟩ (.int .i64 (-1))).setCell ⟨w.heap.size, 9, none⟩ (.string ⟨#[]⟩)).setCell ⟨w.heap.size, 10, none⟩ (.slice none 0 0)).setCell ⟨w.heap.size, 11, none⟩ (.slice none 0 0)) = w5 := ⟨_, rfl⟩
  have HPw5 : Hid (PsSt w s1 0 ⟨str tg, ⟨#[]⟩, false, none, 0, 0, none, 0, 0, 0, 0, false, -1, ⟨#[]⟩, none, 0, 0, none, 0, 0⟩ w5) := Lib.hid (by rw [← hw5]; exact HP5.out)
  obtain ⟨⟨b0, b1, b2, b3, b4, b5, b6, b7, b8, b9, b10, b11⟩, bf⟩ := CmdV.cell HPw5.out.cmd
  clear hS4 hG4 HP5 hw1
  go_wp2_with fail
  clear a0 a1 a2 a3 a4 a5 a6 a7 a8 a9 a10 a11 af hw5
  refine (K2.out _).mono ?_
  rintro e w6 ⟨rfl, hB6⟩
  have HP6 := Lib.hid (HPw5.out.then hB6)
  have HB6 := Lib.hid (HP6.out.bad0 (HE.out _ HP6.out.below HP6.out.sc.lt))
  clear hB6
  cases ht : tagB tg with
  | false =>
   have HO := Lib.hid (show oo = none by rw [HT.out, ht]; rfl)
   clear ht
   go_wp2_with fail
   refine (must_no _ _).mono ?_
   rintro e w7 ⟨rfl, rfl⟩
   have HB := HB6
   refine leaves_cons (f := 25) (args := #[.pointer (some ⟨w.heap.size, 0, none⟩), .pointer (some ⟨w.heap.size + 1, 0, none⟩)]) (by simp) (by simp [go_sem]) ?_
   refine (parse_panic G w.heap.size _ HB.out.cmd HB.out.err HB.out.form HB.out.formI).mono ?_
   rintro e u' w'' ⟨rfl, rfl, ht, he9, hR9⟩
   obtain ⟨⟨x0, x1, x2, x3, x4, x5, x6, x7, x8, x9, x10, x11⟩, _⟩ := CmdV.cell ht
   obtain ⟨q1, _⟩ := one_cells he9
   refine ⟨.tuple #[.agg cmdZ.cells, G.form], ?_, caught21 HB.out.below (by have := (Array.getElem?_eq_some_iff.1 HB.out.err).1; omega) hR9, ?_⟩
   ·
    simp [results, Tryz.results12, go_sem, x0, x1, x2, x3, x4, x5, x6, x7, x8, x9, x10, x11, q1]
   ·
    rw [HO.out]
  | true =>
   have HT := Lib.hid (show oo = (match isB [32] s1 with
    | none => none
    | some s2 => match wordB [] s2 with
     | none => none
     | some (n0, s3) => parseN sec tg n0 s3) by rw [HT.out, ht]; rfl)
   clear ht
   go_wp2_with fail
   refine (must_walk _ _).mono ?_
   rintro e w7 ⟨rfl, rfl⟩
   cases hb1 : isB [32] s1 with
   | none =>
    have HO := Lib.hid (show oo = none by rw [HT.out, hb1])
    have K3 := Lib.hid (fun W k hW => blank_no (w.heap.size + 1 + 1) s1 k hb1 W hW)
    clear hb1
    go_wp2_with fail
    refine (K3.out _ 0 HP6.out.sc).mono ?_
    rintro e w8 ⟨rfl, hG8⟩
    have HB := Lib.hid (HB6.out.step hE0 hG8)
    refine leaves_cons (f := 25) (args := #[.pointer (some ⟨w.heap.size, 0, none⟩), .pointer (some ⟨w.heap.size + 1, 0, none⟩)]) (by simp) (by simp [go_sem]) ?_
    refine (parse_panic G w.heap.size _ HB.out.cmd HB.out.err HB.out.form HB.out.formI).mono ?_
    rintro e u' w'' ⟨rfl, rfl, ht, he9, hR9⟩
    obtain ⟨⟨x0, x1, x2, x3, x4, x5, x6, x7, x8, x9, x10, x11⟩, _⟩ := CmdV.cell ht
    obtain ⟨q1, _⟩ := one_cells he9
    refine ⟨.tuple #[.agg cmdZ.cells, G.form], ?_, caught21 HB.out.below (by have := (Array.getElem?_eq_some_iff.1 HB.out.err).1; omega) hR9, ?_⟩
    ·
     simp [results, Tryz.results12, go_sem, x0, x1, x2, x3, x4, x5, x6, x7, x8, x9, x10, x11, q1]
    ·
     rw [HO.out]
   | some s2 =>
    have hl2 := isB_len hb1
    simp only [List.length_singleton] at hl2
    have HT := Lib.hid (show oo = (match wordB [] s2 with
     | none => none
     | some (n0, s3) => parseN sec tg n0 s3) by rw [HT.out, hb1])
    have K3 := Lib.hid (fun W k hW => blank_ok (w.heap.size + 1 + 1) s1 s2 k hb1 W hW)
    have K4 : Hid (∀ W k, Scn W (w.heap.size + 1 + 1) s2 k → Calls Tryz.prog 26 #[scP (w.heap.size + 1 + 1), .string ⟨#[]⟩] W _) := Lib.hid (fun W k hW => word_walk (w.heap.size + 1 + 1) k [] s2 W hW)
    clear hb1
    go_wp2_with fail
    refine (K3.out _ 0 HP6.out.sc).mono ?_
    rintro e w8 ⟨rfl, hS8, hG8⟩
    have HP8 := Lib.hid (HP6.out.step hG8 hS8)
    have HB8 := Lib.hid (HB6.out.step hE0 hG8)
    clear hS8 hG8
    go_wp2_with fail
    refine (K4.out _ 0 HP8.out.sc).mono ?_
    rintro e w9 ⟨hG9, hP9⟩
    cases hw2 : wordB [] s2 with
    | none =>
     rw [hw2] at hP9
     subst hP9
     have HO := Lib.hid (show oo = none by rw [HT.out, hw2])
     have HB := Lib.hid (HB8.out.step hE0 hG9)
     refine leaves_cons (f := 25) (args := #[.pointer (some ⟨w.heap.size, 0, none⟩), .pointer (some ⟨w.heap.size + 1, 0, none⟩)]) (by simp) (by simp [go_sem]) ?_
     refine (parse_panic G w.heap.size _ HB.out.cmd HB.out.err HB.out.form HB.out.formI).mono ?_
     rintro e u' w'' ⟨rfl, rfl, ht, he9, hR9⟩
     obtain ⟨⟨x0, x1, x2, x3, x4, x5, x6, x7, x8, x9, x10, x11⟩, _⟩ := CmdV.cell ht
     obtain ⟨q1, _⟩ := one_cells he9
     refine ⟨.tuple #[.agg cmdZ.cells, G.form], ?_, caught21 HB.out.below (by have := (Array.getElem?_eq_some_iff.1 HB.out.err).1; omega) hR9, ?_⟩
     ·
      simp [results, Tryz.results12, go_sem, x0, x1, x2, x3, x4, x5, x6, x7, x8, x9, x10, x11, q1]
     ·
      rw [HO.out]
    | some p =>
     obtain ⟨n0, s3⟩ := p
     rw [hw2] at hP9
     obtain ⟨rfl, hS9⟩ := hP9
     have hl3 := wordB_len hw2
     have HT := Lib.hid (show oo = parseN sec tg n0 s3 by rw [HT.out, hw2])
     have K5 := Lib.hid (fun W => large_walk21 n0 (by omega) W)
     have HP9 := Lib.hid (HP8.out.step hG9 hS9)
     clear hS9 hG9 hw2
     by_cases hu : largeL n0 = uidNm
     ·
      have HT := Lib.hid (show oo = parseU sec tg s3 by rw [HT.out, parseN, if_pos hu])
      have K5b : Hid (∀ W, Calls Tryz.prog 29 #[.string (str n0)] W fun e w' => e = .returned (.string ⟨#[85, 73, 68]⟩) ∧ Below W.heap.size W w') := Lib.hid (fun W => by have K := K5.out W; rw [hu] at K; exact K)
      clear hu K5
      go_wp2_with fail
      refine (K5b.out _).mono ?_
      rintro e w10 ⟨rfl, hB10⟩
      have HP10 := Lib.hid (HP9.out.then hB10)
      have HP11 : Hid (PsSt w s3 0 (cmd0 tg [85, 73, 68] false) (w10.setCell ⟨w.heap.size, 1, none⟩ (.string ⟨#[85, 73, 68]⟩))) := Lib.hid (HP10.out.set 1 _ rfl)
      clear hB10 b0 b1 b2 b3 b4 b5 b6 b7 b8 b9 b10 b11 bf
      obtain ⟨⟨a0, a1, a2, a3, a4, a5, a6, a7, a8, a9, a10, a11⟩, af⟩ := CmdV.cell HP10.out.cmd
      obtain ⟨w11, hw11⟩ : ∃ w11, w10.setCell ⟨w.heap.size, 1, none⟩ (.string ⟨#[85, 73, 68]⟩) = w11 := ⟨_, rfl⟩
      rw [hw11] at HP11
      have b1' : w11.cell? ⟨w.heap.size, 1, none⟩ = some (.string ⟨#[85, 73, 68]⟩) := (CmdV.cell HP11.out.cmd).1.2.1
      have HB11 := Lib.hid (HP11.out.bad0 (HE.out _ HP11.out.below HP11.out.sc.lt))
      cases hb2 : isB [32] s3 with
      | none =>
       have HO := Lib.hid (show oo = none by rw [HT.out, parseU, hb2])
       have K6 := Lib.hid (fun W k hW => blank_no (w.heap.size + 1 + 1) s3 k hb2 W hW)
       clear hb2
       go_wp2_with fail
       refine (K6.out _ 0 HP11.out.sc).mono ?_
       rintro e w20 ⟨rfl, hG20⟩
       have HB := Lib.hid (HB11.out.step hE0 hG20)
       refine leaves_cons (f := 25) (args := #[.pointer (some ⟨w.heap.size, 0, none⟩), .pointer (some ⟨w.heap.size + 1, 0, none⟩)]) (by simp) (by simp [go_sem]) ?_
       refine (parse_panic G w.heap.size _ HB.out.cmd HB.out.err HB.out.form HB.out.formI).mono ?_
       rintro e u' w'' ⟨rfl, rfl, ht, he9, hR9⟩
       obtain ⟨⟨x0, x1, x2, x3, x4, x5, x6, x7, x8, x9, x10, x11⟩, _⟩ := CmdV.cell ht
       obtain ⟨q1, _⟩ := one_cells he9
       refine ⟨.tuple #[.agg cmdZ.cells, G.form], ?_, caught21 HB.out.below (by have := (Array.getElem?_eq_some_iff.1 HB.out.err).1; omega) hR9, ?_⟩
       ·
        simp [results, Tryz.results12, go_sem, x0, x1, x2, x3, x4, x5, x6, x7, x8, x9, x10, x11, q1]
       ·
        rw [HO.out]
      | some s4 =>
       have hl4 := isB_len hb2
       simp only [List.length_singleton] at hl4
       have HT := Lib.hid (show oo = (match wordB [] s4 with
        | none => none
        | some (n1, s5) => if uidN.contains (largeL n1) = true then finB (restB sec (cmdP0 tg (largeL n1) true) s5) else none) by rw [HT.out, parseU, hb2])
       have K6 := Lib.hid (fun W k hW => blank_ok (w.heap.size + 1 + 1) s3 s4 k hb2 W hW)
       have K7 : Hid (∀ W k, Scn W (w.heap.size + 1 + 1) s4 k → Calls Tryz.prog 26 #[scP (w.heap.size + 1 + 1), .string ⟨#[]⟩] W _) := Lib.hid (fun W k hW => word_walk (w.heap.size + 1 + 1) k [] s4 W hW)
       clear hb2
       go_wp2_with fail
       clear a0 a1 a2 a3 a4 a5 a6 a7 a8 a9 a10 a11 af b1' hw11
       refine (K6.out _ 0 HP11.out.sc).mono ?_
       rintro e w20 ⟨rfl, hS20, hG20⟩
       have HP20 := Lib.hid (HP11.out.step hG20 hS20)
       have HB20 := Lib.hid (HB11.out.step hE0 hG20)
       clear hS20 hG20
       go_wp2_with fail
       refine (K7.out _ 0 HP20.out.sc).mono ?_
       rintro e w21 ⟨hG21, hP21⟩
       cases hw3 : wordB [] s4 with
       | none =>
        rw [hw3] at hP21
        subst hP21
        have HO := Lib.hid (show oo = none by rw [HT.out, hw3])
        have HB := Lib.hid (HB20.out.step hE0 hG21)
        refine leaves_cons (f := 25) (args := #[.pointer (some ⟨w.heap.size, 0, none⟩), .pointer (some ⟨w.heap.size + 1, 0, none⟩)]) (by simp) (by simp [go_sem]) ?_
        refine (parse_panic G w.heap.size _ HB.out.cmd HB.out.err HB.out.form HB.out.formI).mono ?_
        rintro e u' w'' ⟨rfl, rfl, ht, he9, hR9⟩
        obtain ⟨⟨x0, x1, x2, x3, x4, x5, x6, x7, x8, x9, x10, x11⟩, _⟩ := CmdV.cell ht
        obtain ⟨q1, _⟩ := one_cells he9
        refine ⟨.tuple #[.agg cmdZ.cells, G.form], ?_, caught21 HB.out.below (by have := (Array.getElem?_eq_some_iff.1 HB.out.err).1; omega) hR9, ?_⟩
        ·
         simp [results, Tryz.results12, go_sem, x0, x1, x2, x3, x4, x5, x6, x7, x8, x9, x10, x11, q1]
        ·
         rw [HO.out]
       | some p =>
        obtain ⟨n1, s5⟩ := p
        rw [hw3] at hP21
        obtain ⟨rfl, hS21⟩ := hP21
        have hl5 := wordB_len hw3
        have HT := Lib.hid (show oo = (if uidN.contains (largeL n1) = true then finB (restB sec (cmdP0 tg (largeL n1) true) s5) else none) by rw [HT.out, hw3])
        have K8 := Lib.hid (fun W => large_walk21 n1 (by omega) W)
        have HP21 := Lib.hid (HP20.out.step hG21 hS21)
        clear hS21 hG21 hw3
        generalize largeL n1 = N1 at *
        go_wp2_with fail
        refine (K8.out _).mono ?_
        rintro e w22 ⟨rfl, hB22⟩
        have HP22 := Lib.hid (HP21.out.then hB22)
        have HP23 : Hid (PsSt w s5 0 (cmd0 tg N1 true) ((w22.setCell ⟨w.heap.size, 2, none⟩ (.bool true)).setCell ⟨w.heap.size, 1, none⟩ (.string (str N1)))) := Lib.hid ((HP22.out.set (c1 := ⟨str tg, ⟨#[85, 73, 68]⟩, true, none, 0, 0, none, 0, 0, 0, 0, false, -1, ⟨#[]⟩, none, 0, 0, none, 0, 0⟩) 2 (.bool true) rfl).set 1 _ rfl)
        clear hB22
        have a1 : w22.cell? ⟨w.heap.size, 1, none⟩ = some (.string ⟨#[85, 73, 68]⟩) := (CmdV.cell HP22.out.cmd).1.2.1
        have a2 : w22.cell? ⟨w.heap.size, 2, none⟩ = some (.bool false) := (CmdV.cell HP22.out.cmd).1.2.2.1
        have af := (CmdV.cell HP22.out.cmd).2
        obtain ⟨w23, hw23⟩ : ∃ w23, (w22.setCell ⟨w.heap.size, 2, none⟩ (.bool true)).setCell ⟨w.heap.size, 1, none⟩ (.string (str N1)) = w23 := ⟨_, rfl⟩
        rw [hw23] at HP23
        have b1' : w23.cell? ⟨w.heap.size, 1, none⟩ = some (.string (str N1)) := (CmdV.cell HP23.out.cmd).1.2.1
        have hl23 := (Array.getElem?_eq_some_iff.1 HP23.out.cmd).1
        go_wp2_with fail
        refine (contains_lit _ _ uidN N1 _ (by decide) (fun j hj => ?lits)).mono ?_
        case lits => exact lit_cells _ uidN 9 j hj (by simp)
        rintro e w24 ⟨rfl, hw24⟩
        have hp24 : PsSt w s5 0 (cmd0 tg N1 true) w24 := by rw [hw24]; exact HP23.out.then ((Below.refl _ _).alloc (Nat.le_refl _) _)
        have HP24 := Lib.hid hp24
        have HB24 := Lib.hid (HP24.out.bad0 (HE.out _ HP24.out.below HP24.out.sc.lt))
        clear hw24 hp24 a1 a2 af b1' hw23
        cases hc : uidN.contains N1 with
        | false =>
         have HO := Lib.hid (show oo = none by rw [HT.out, hc]; rfl)
         clear hc
         go_wp2_with fail
         refine (must_no _ _).mono ?_
         rintro e w25 ⟨rfl, rfl⟩
         have HB := HB24
         refine leaves_cons (f := 25) (args := #[.pointer (some ⟨w.heap.size, 0, none⟩), .pointer (some ⟨w.heap.size + 1, 0, none⟩)]) (by simp) (by simp [go_sem]) ?_
         refine (parse_panic G w.heap.size _ HB.out.cmd HB.out.err HB.out.form HB.out.formI).mono ?_
         rintro e u' w'' ⟨rfl, rfl, ht, he9, hR9⟩
         obtain ⟨⟨x0, x1, x2, x3, x4, x5, x6, x7, x8, x9, x10, x11⟩, _⟩ := CmdV.cell ht
         obtain ⟨q1, _⟩ := one_cells he9
         refine ⟨.tuple #[.agg cmdZ.cells, G.form], ?_, caught21 HB.out.below (by have := (Array.getElem?_eq_some_iff.1 HB.out.err).1; omega) hR9, ?_⟩
         ·
          simp [results, Tryz.results12, go_sem, x0, x1, x2, x3, x4, x5, x6, x7, x8, x9, x10, x11, q1]
         ·
          rw [HO.out]
        | true =>
         have HT := Lib.hid (show oo = finB (restB sec (cmdP0 tg N1 true) s5) by rw [HT.out, hc]; rfl)
         clear hc
         go_wp2_with fail
         refine (must_walk _ _).mono ?_
         rintro e w25 ⟨rfl, rfl⟩
         have HKr := Lib.hid (rest_full G (w.heap.size + 1 + 1) w.heap.size sec HSec.out tg N1 true s5 (by omega) hE0 w24 HP24.out.cmd (HE.out w24 HP24.out.below (by have := HP24.out.sc.lt; omega)) HP24.out.sc)
         have HBr := Lib.hid (HP24.out.bad0 (HE.out w24 HP24.out.below (by have := HP24.out.sc.lt; omega)))
         have hzW := HP24.out.sc.lt
         generalize restB sec (cmdP0 tg N1 true) s5 = oR at *
         go_wp2_with fail
         refine HKr.out.mono ?_
         rintro e w12 ⟨hR12, hP12⟩
         cases oR with
         | none =>
          obtain ⟨rfl, hok⟩ := hP12
          have HB := Lib.hid (HBr.out.rest hE0 hR12 hok)
          have HO := Lib.hid (show oo = none by rw [HT.out]; rfl)
          refine leaves_cons (f := 25) (args := #[.pointer (some ⟨w.heap.size, 0, none⟩), .pointer (some ⟨w.heap.size + 1, 0, none⟩)]) (by simp) (by simp [go_sem]) ?_
          refine (parse_panic G w.heap.size _ HB.out.cmd HB.out.err HB.out.form HB.out.formI).mono ?_
          rintro e u' w'' ⟨rfl, rfl, ht, he9, hR9⟩
          obtain ⟨⟨x0, x1, x2, x3, x4, x5, x6, x7, x8, x9, x10, x11⟩, _⟩ := CmdV.cell ht
          obtain ⟨q1, _⟩ := one_cells he9
          refine ⟨.tuple #[.agg cmdZ.cells, G.form], ?_, caught21 HB.out.below (by have := (Array.getElem?_eq_some_iff.1 HB.out.err).1; omega) hR9, ?_⟩
          ·
           simp [results, Tryz.results12, go_sem, x0, x1, x2, x3, x4, x5, x6, x7, x8, x9, x10, x11, q1]
          ·
           rw [HO.out]
         | some p =>
          obtain ⟨x, r⟩ := p
          obtain ⟨rfl, c, kk, hS12, hC12, hAt⟩ := hP12
          have HAt := Lib.hid hAt
          have HC12 := Lib.hid hC12
          have HR12 := Lib.hid hR12
          have HB12 := Lib.hid (HBr.out.rest hE0 hR12 ⟨_, hC12, rfl⟩)
          obtain ⟨d0, d1, _, _⟩ := hS12.cells
          clear hR12 hC12 hS12 hAt
          cases r with
          | cons y r =>
           have he0 : (str (y :: r)).toList.isEmpty = false := by rw [Lib.toList_data]; rfl
           have HO := Lib.hid (show oo = none by rw [HT.out]; rfl)
           go_wp2_with fail
           refine (must_no _ _).mono ?_
           rintro e w13 ⟨rfl, rfl⟩
           have HB := HB12
           refine leaves_cons (f := 25) (args := #[.pointer (some ⟨w.heap.size, 0, none⟩), .pointer (some ⟨w.heap.size + 1, 0, none⟩)]) (by simp) (by simp [go_sem]) ?_
           refine (parse_panic G w.heap.size _ HB.out.cmd HB.out.err HB.out.form HB.out.formI).mono ?_
           rintro e u' w'' ⟨rfl, rfl, ht, he9, hR9⟩
           obtain ⟨⟨x0, x1, x2, x3, x4, x5, x6, x7, x8, x9, x10, x11⟩, _⟩ := CmdV.cell ht
           obtain ⟨q1, _⟩ := one_cells he9
           refine ⟨.tuple #[.agg cmdZ.cells, G.form], ?_, caught21 HB.out.below (by have := (Array.getElem?_eq_some_iff.1 HB.out.err).1; omega) hR9, ?_⟩
           ·
            simp [results, Tryz.results12, go_sem, x0, x1, x2, x3, x4, x5, x6, x7, x8, x9, x10, x11, q1]
           ·
            rw [HO.out]
          | nil =>
           have HO := Lib.hid (show oo = some x by rw [HT.out]; rfl)
           have hse : str [] = ⟨#[]⟩ := rfl
           rw [hse] at d0
           clear hse
           go_wp2_with fail
           refine (must_walk _ _).mono ?_
           rintro e w13 ⟨rfl, rfl⟩
           have herr := HB12.out.err
           obtain ⟨⟨a0, a1, a2, a3, a4, a5, a6, a7, a8, a9, a10, a11⟩, af⟩ := CmdV.cell HC12.out
           obtain ⟨q0, q1⟩ := one_cells herr
           obtain ⟨w14, hw14⟩ : ∃ w14, ((((((((((((w12.setCell ⟨w.heap.size, 0, none⟩ (.string c.tag)).setCell ⟨w.heap.size, 1, none⟩ (.string c.name)).setCell ⟨w.heap.size, 2, none⟩ (.bool c.uid)).setCell ⟨w.heap.size, 3, none⟩ (.slice c.aA c.aN c.aC)).setCell ⟨w.heap.size, 4, none⟩ (.slice c.sA c.sN c.sC)).setCell ⟨w.heap.size, 5, none⟩ (.int .i64 c.how)).setCell ⟨w.heap.size, 6, none⟩ (.int .i64 c.flags)).setCell ⟨w.heap.size, 7, none⟩ (.bool c.silent)).setCell ⟨w.heap.size, 8, none⟩ (.int .i64 c.date)).setCell ⟨w.heap.size, 9, none⟩ (.string c.body)).setCell ⟨w.heap.size, 10, none⟩ (.slice c.iA c.iN c.iC)).setCell ⟨w.heap.size, 11, none⟩ (.slice c.kA c.kN c.kC)) = w14 := ⟨_, rfl⟩
           have hw14' : put12 w12 w.heap.size c = w14 := hw14
           have hg14 : w12.grownBy w14 (some w.heap.size) := by rw [← hw14']; exact put12_grown _ _ _
           have hc14 : w14.heap[w.heap.size]? = some c.obj := by rw [← hw14']; exact put12_heap HC12.out c
           have he14 := (hg14.block _ (Array.getElem?_eq_some_iff.1 herr).1 (fun e => by have := Option.some.inj e; omega)).trans herr
           obtain ⟨r0, r1⟩ := one_cells he14
           obtain ⟨⟨p0, p1, p2, p3, p4, p5, p6, p7, p8, p9, p10, p11⟩, pf⟩ := CmdV.cell hc14
           go_wp2_with fail
           refine leaves_cons (f := 25) (args := #[.pointer (some ⟨w.heap.size, 0, none⟩), .pointer (some ⟨w.heap.size + 1, 0, none⟩)]) (by simp) (by simp [go_sem]) ?_
           refine (parse_idle ⟨w.heap.size, 0, none⟩ ⟨w.heap.size + 1, 0, none⟩ _).mono ?_
           rintro e u' w'' ⟨rfl, rfl, rfl⟩
           have hlt14 := (Array.getElem?_eq_some_iff.1 he14).1
           have hB14 : Below w.heap.size w w14 := HB12.out.below.grown hg14 HB12.out.below.size (fun k e => by rw [← Option.some.inj e]; exact Nat.le_refl _)
           have x0 := (one_cells ((setCell_heap_same (i := 0) (v := .nilIface) he14).trans rfl)).1
           have hR14 : R2 w.heap.size (w.heap.size + 1) w12 (w14.setCell ⟨w.heap.size + 1, 0, none⟩ .nilIface) := (R2.of hg14).trans (.ofC (grown_put _ _ _ _))
           refine ⟨.tuple #[.agg c.cells, .nilIface], ?_, hB14.setCell (by dsimp only; omega) _, ?_⟩
           ·
            simp [results, Tryz.results12, go_sem, p0, p1, p2, p3, p4, p5, p6, p7, p8, p9, p10, p11, x0]
           ·
            rw [HO.out]
            exact ⟨c, rfl, newT_at HAt.out (by omega) hR14⟩
     ·
      have HT := Lib.hid (show oo = finB (restB sec (cmdP0 tg (largeL n0) false) s3) by rw [HT.out, parseN, if_neg hu])
      have u1 : ((str (largeL n0)).toList == [85, 73, 68]) = false := str_neb' hu
      clear hu
      generalize largeL n0 = N0 at *
      go_wp2_with fail
      refine (K5.out _).mono ?_
      rintro e w10 ⟨rfl, hB10⟩
      have HP10 := Lib.hid (HP9.out.then hB10)
      have HP11 : Hid (PsSt w s3 0 (cmd0 tg N0 false) (w10.setCell ⟨w.heap.size, 1, none⟩ (.string (str N0)))) := Lib.hid (HP10.out.set 1 _ rfl)
      clear hB10 b0 b1 b2 b3 b4 b5 b6 b7 b8 b9 b10 b11 bf
      obtain ⟨⟨a0, a1, a2, a3, a4, a5, a6, a7, a8, a9, a10, a11⟩, af⟩ := CmdV.cell HP10.out.cmd
      obtain ⟨w11, hw11⟩ : ∃ w11, w10.setCell ⟨w.heap.size, 1, none⟩ (.string (str N0)) = w11 := ⟨_, rfl⟩
      rw [hw11] at HP11
      have b1' : w11.cell? ⟨w.heap.size, 1, none⟩ = some (.string (str N0)) := (CmdV.cell HP11.out.cmd).1.2.1
      have HKr := Lib.hid (rest_full G (w.heap.size + 1 + 1) w.heap.size sec HSec.out tg N0 false s3 (by omega) hE0 w11 HP11.out.cmd (HE.out w11 HP11.out.below (by have := HP11.out.sc.lt; omega)) HP11.out.sc)
      have HBr := Lib.hid (HP11.out.bad0 (HE.out w11 HP11.out.below (by have := HP11.out.sc.lt; omega)))
      have hzW := HP11.out.sc.lt
      generalize restB sec (cmdP0 tg N0 false) s3 = oR at *
      go_wp2_with fail
      clear a0 a1 a2 a3 a4 a5 a6 a7 a8 a9 a10 a11 af b1' hw11
      refine HKr.out.mono ?_
      rintro e w12 ⟨hR12, hP12⟩
      cases oR with
      | none =>
       obtain ⟨rfl, hok⟩ := hP12
       have HB := Lib.hid (HBr.out.rest hE0 hR12 hok)
       have HO := Lib.hid (show oo = none by rw [HT.out]; rfl)
       refine leaves_cons (f := 25) (args := #[.pointer (some ⟨w.heap.size, 0, none⟩), .pointer (some ⟨w.heap.size + 1, 0, none⟩)]) (by simp) (by simp [go_sem]) ?_
       refine (parse_panic G w.heap.size _ HB.out.cmd HB.out.err HB.out.form HB.out.formI).mono ?_
       rintro e u' w'' ⟨rfl, rfl, ht, he9, hR9⟩
       obtain ⟨⟨x0, x1, x2, x3, x4, x5, x6, x7, x8, x9, x10, x11⟩, _⟩ := CmdV.cell ht
       obtain ⟨q1, _⟩ := one_cells he9
       refine ⟨.tuple #[.agg cmdZ.cells, G.form], ?_, caught21 HB.out.below (by have := (Array.getElem?_eq_some_iff.1 HB.out.err).1; omega) hR9, ?_⟩
       ·
        simp [results, Tryz.results12, go_sem, x0, x1, x2, x3, x4, x5, x6, x7, x8, x9, x10, x11, q1]
       ·
        rw [HO.out]
      | some p =>
       obtain ⟨x, r⟩ := p
       obtain ⟨rfl, c, kk, hS12, hC12, hAt⟩ := hP12
       have HAt := Lib.hid hAt
       have HC12 := Lib.hid hC12
       have HR12 := Lib.hid hR12
       have HB12 := Lib.hid (HBr.out.rest hE0 hR12 ⟨_, hC12, rfl⟩)
       obtain ⟨d0, d1, _, _⟩ := hS12.cells
       clear hR12 hC12 hS12 hAt
       cases r with
       | cons y r =>
        have he0 : (str (y :: r)).toList.isEmpty = false := by rw [Lib.toList_data]; rfl
        have HO := Lib.hid (show oo = none by rw [HT.out]; rfl)
        go_wp2_with fail
        refine (must_no _ _).mono ?_
        rintro e w13 ⟨rfl, rfl⟩
        have HB := HB12
        refine leaves_cons (f := 25) (args := #[.pointer (some ⟨w.heap.size, 0, none⟩), .pointer (some ⟨w.heap.size + 1, 0, none⟩)]) (by simp) (by simp [go_sem]) ?_
        refine (parse_panic G w.heap.size _ HB.out.cmd HB.out.err HB.out.form HB.out.formI).mono ?_
        rintro e u' w'' ⟨rfl, rfl, ht, he9, hR9⟩
        obtain ⟨⟨x0, x1, x2, x3, x4, x5, x6, x7, x8, x9, x10, x11⟩, _⟩ := CmdV.cell ht
        obtain ⟨q1, _⟩ := one_cells he9
        refine ⟨.tuple #[.agg cmdZ.cells, G.form], ?_, caught21 HB.out.below (by have := (Array.getElem?_eq_some_iff.1 HB.out.err).1; omega) hR9, ?_⟩
        ·
         simp [results, Tryz.results12, go_sem, x0, x1, x2, x3, x4, x5, x6, x7, x8, x9, x10, x11, q1]
        ·
         rw [HO.out]
       | nil =>
        have HO := Lib.hid (show oo = some x by rw [HT.out]; rfl)
        have hse : str [] = ⟨#[]⟩ := rfl
        rw [hse] at d0
        clear hse
        go_wp2_with fail
        refine (must_walk _ _).mono ?_
        rintro e w13 ⟨rfl, rfl⟩
        have herr := HB12.out.err
        obtain ⟨⟨a0, a1, a2, a3, a4, a5, a6, a7, a8, a9, a10, a11⟩, af⟩ := CmdV.cell HC12.out
        obtain ⟨q0, q1⟩ := one_cells herr
        obtain ⟨w14, hw14⟩ : ∃ w14, ((((((((((((w12.setCell ⟨w.heap.size, 0, none⟩ (.string c.tag)).setCell ⟨w.heap.size, 1, none⟩ (.string c.name)).setCell ⟨w.heap.size, 2, none⟩ (.bool c.uid)).setCell ⟨w.heap.size, 3, none⟩ (.slice c.aA c.aN c.aC)).setCell ⟨w.heap.size, 4, none⟩ (.slice c.sA c.sN c.sC)).setCell ⟨w.heap.size, 5, none⟩ (.int .i64 c.how)).setCell ⟨w.heap.size, 6, none⟩ (.int .i64 c.flags)).setCell ⟨w.heap.size, 7, none⟩ (.bool c.silent)).setCell ⟨w.heap.size, 8, none⟩ (.int .i64 c.date)).setCell ⟨w.heap.size, 9, none⟩ (.string c.body)).setCell ⟨w.heap.size, 10, none⟩ (.slice c.iA c.iN c.iC)).setCell ⟨w.heap.size, 11, none⟩ (.slice c.kA c.kN c.kC)) = w14 := ⟨_, rfl⟩
        have hw14' : put12 w12 w.heap.size c = w14 := hw14
        have hg14 : w12.grownBy w14 (some w.heap.size) := by rw [← hw14']; exact put12_grown _ _ _
        have hc14 : w14.heap[w.heap.size]? = some c.obj := by rw [← hw14']; exact put12_heap HC12.out c
        have he14 := (hg14.block _ (Array.getElem?_eq_some_iff.1 herr).1 (fun e => by have := Option.some.inj e; omega)).trans herr
        obtain ⟨r0, r1⟩ := one_cells he14
        obtain ⟨⟨p0, p1, p2, p3, p4, p5, p6, p7, p8, p9, p10, p11⟩, pf⟩ := CmdV.cell hc14
        go_wp2_with fail
        refine leaves_cons (f := 25) (args := #[.pointer (some ⟨w.heap.size, 0, none⟩), .pointer (some ⟨w.heap.size + 1, 0, none⟩)]) (by simp) (by simp [go_sem]) ?_
        refine (parse_idle ⟨w.heap.size, 0, none⟩ ⟨w.heap.size + 1, 0, none⟩ _).mono ?_
        rintro e u' w'' ⟨rfl, rfl, rfl⟩
        have hlt14 := (Array.getElem?_eq_some_iff.1 he14).1
        have hB14 : Below w.heap.size w w14 := HB12.out.below.grown hg14 HB12.out.below.size (fun k e => by rw [← Option.some.inj e]; exact Nat.le_refl _)
        have x0 := (one_cells ((setCell_heap_same (i := 0) (v := .nilIface) he14).trans rfl)).1
        have hR14 : R2 w.heap.size (w.heap.size + 1) w12 (w14.setCell ⟨w.heap.size + 1, 0, none⟩ .nilIface) := (R2.of hg14).trans (.ofC (grown_put _ _ _ _))
        refine ⟨.tuple #[.agg c.cells, .nilIface], ?_, hB14.setCell (by dsimp only; omega) _, ?_⟩
        ·
         simp [results, Tryz.results12, go_sem, p0, p1, p2, p3, p4, p5, p6, p7, p8, p9, p10, p11, x0]
        ·
         rw [HO.out]
         exact ⟨c, rfl, newT_at HAt.out (by omega) hR14⟩
open Go.RowKit
open Pl (Bs idxB numOk numN setOk setL)
theorem setL_fit (l : Bs) : (setL l).length ≤ 50 := by
 unfold Pl.setL
 split
 ·
  rename_i h
  rw [List.length_map]
  unfold Pl.setOk at h
  simp only [Bool.and_eq_true, decide_eq_true_eq] at h
  exact h.2
 ·
  simp
theorem setB_fit {l r : Bs} {x : List (Int × Int)} (h : setB l = some (x, r)) : x.length ≤ 50 := by
 unfold setB at h
 split at h
 ·
  cases h
 ·
  split at h
  ·
   simp only [Option.some.injEq, Prod.mk.injEq] at h
   rw [← h.1]; exact setL_fit _
  ·
   cases h
def KeyOk (x : KeyP) : Prop := x.set.length ≤ 1000000000 ∧ x.kids.length ≤ 1000000000 ∧ KeysFit x.kids
theorem keysFit_all : ∀ {l : List KeyP}, (∀ x ∈ l, KeyOk x) → KeysFit l
 | [], _ => .nil
 | x :: l, h => by
  obtain ⟨a, b, c⟩ := h x (by simp)
  exact .cons a b c (keysFit_all (fun y hy => h y (by simp [hy])))
def OneOk {α : Type} (P : α → Prop) (one : Rd α) : Prop := ∀ s k p, s.length ≤ 1000000 → one s k = some p → P p.1 ∧ p.2.1.length ≤ s.length
theorem loopR_ok {α : Type} {P : α → Prop} {one : Rd α} (ho : OneOk P one) : ∀ m s k p, s.length ≤ 1000000 → loopR one m s k = some p → (∀ x ∈ p.1, P x) ∧ p.1.length ≤ m
 | 0, s, k, p, _, h => by simp [loopR] at h
 | m + 1, s, k, p, hl, h => by
  unfold loopR at h
  split at h
  ·
   simp only [Option.some.injEq] at h
   subst h
   exact ⟨fun x hx => by simp at hx, Nat.zero_le _⟩
  ·
   split at h
   ·
    cases h
   ·
    rename_i l1 h1
    have e1 := isB_len h1
    simp only [List.length_singleton] at e1
    split at h
    ·
     cases h
    ·
     rename_i x s2 k2 h2
     obtain ⟨q, hq, rfl⟩ := map_some_out h
     have e2 := ho _ _ _ (by omega) h2
     dsimp only at e2
     have e3 := loopR_ok ho m _ _ _ (by omega) hq
     refine ⟨fun y hy => ?_, by simp only [List.length_cons]; omega⟩
     rcases List.mem_cons.1 hy with rfl | hy
     ·
      exact e2.1
     ·
      exact e3.1 y hy
theorem listR_ok {α : Type} {P : α → Prop} {one : Rd α} (ho : OneOk P one) {s : Bs} {k : Nat} {p : List α × Bs × Nat} (hl : s.length ≤ 1000000) (h : listR one s k = some p) : (∀ x ∈ p.1, P x) ∧ p.1.length ≤ 1000002 := by
 unfold listR at h
 split at h
 ·
  cases h
 ·
  rename_i l1 h1
  have e1 := isB_len h1
  simp only [List.length_singleton] at e1
  split at h
  ·
   cases h
  ·
   rename_i x s2 k2 h2
   obtain ⟨q, hq, rfl⟩ := map_some_out h
   have e2 := ho _ _ _ (by omega) h2
   dsimp only at e2
   have e3 := loopR_ok ho _ _ _ _ (by omega) hq
   refine ⟨fun y hy => ?_, by simp only [List.length_cons]; omega⟩
   rcases List.mem_cons.1 hy with rfl | hy
   ·
    exact e2.1
   ·
    exact e3.1 y hy
theorem kidsR_ok {P : KeyP → Prop} {sub : Rd KeyP} (ho : OneOk P sub) : ∀ n s k p, s.length ≤ 1000000 → kidsR sub n s k = some p → (∀ x ∈ p.1, P x) ∧ p.1.length = n
 | 0, s, k, p, _, h => by simp [kidsR] at h; subst h; exact ⟨fun x hx => by simp at hx, rfl⟩
 | n + 1, s, k, p, hl, h => by
  unfold kidsR at h
  split at h
  ·
   cases h
  ·
   rename_i l1 h1
   have e1 := isB_len h1
   simp only [List.length_singleton] at e1
   split at h
   ·
    cases h
   ·
    rename_i x s2 k2 h2
    obtain ⟨q, hq, rfl⟩ := map_some_out h
    have e2 := ho _ _ _ (by omega) h2
    dsimp only at e2
    have e3 := kidsR_ok ho n _ _ _ (by omega) hq
    refine ⟨fun y hy => ?_, by simp only [List.length_cons]; omega⟩
    rcases List.mem_cons.1 hy with rfl | hy
    ·
     exact e2.1
    ·
     exact e3.1 y hy
theorem keyOf_ok {sub : Rd KeyP} (ho : OneOk KeyOk sub) {k : Nat} {N W0 r : Bs} {p : KeyP × Bs × Nat} (hl : r.length ≤ 1000000) (h : keyOf sub k N W0 r = some p) : KeyOk p.1 := by
 have z : ∀ (a b c : Bs) (n : Int), KeyOk (.mk a b c n [] []) := fun a b c n => ⟨by simp [KeyP.set], by simp [KeyP.kids], by simp [KeyP.kids]; exact .nil⟩
 have zs : ∀ (a b c : Bs) (n : Int) (l : List (Int × Int)), l.length ≤ 50 → KeyOk (.mk a b c n l []) := fun a b c n l h => ⟨by simp only [KeyP.set]; omega, by simp [KeyP.kids], by simp [KeyP.kids]; exact .nil⟩
 have zk : ∀ (a b c : Bs) (n : Int) (l : List KeyP) (m : Nat), m ≤ 2 → ((∀ x ∈ l, KeyOk x) ∧ l.length = m) → KeyOk (.mk a b c n [] l) := fun a b c n l m hm h => ⟨by simp [KeyP.set], by simp only [KeyP.kids]; omega, by simp only [KeyP.kids]; exact keysFit_all h.1⟩
 unfold keyOf at h
 split at h
 ·
  cases h; exact z _ _ _ _
 split at h
 ·
  obtain ⟨x, h1, rfl⟩ := map_some_out h; exact z _ _ _ _
 split at h
 ·
  obtain ⟨x, h1, rfl⟩ := map_some_out h; exact z _ _ _ _
 split at h
 ·
  obtain ⟨x, h1, rfl⟩ := map_some_out h; exact z _ _ _ _
 split at h
 ·
  obtain ⟨x, h1, rfl⟩ := map_some_out h; exact z _ _ _ _
 split at h
 ·
  obtain ⟨x, h1, rfl⟩ := map_some_out h; exact zk _ _ _ _ _ 1 (by omega) (kidsR_ok ho _ _ _ _ hl h1)
 split at h
 ·
  obtain ⟨x, h1, rfl⟩ := map_some_out h; exact zk _ _ _ _ _ 2 (by omega) (kidsR_ok ho _ _ _ _ hl h1)
 split at h
 ·
  cases h1 : isB [32] r with
  | none => rw [h1] at h; cases h
  | some r1 =>
   rw [h1] at h
   obtain ⟨x, h2, rfl⟩ := map_some_out h
   exact zs _ _ _ _ _ (setB_fit (x := x.1) (r := x.2) h2)
 split at h
 ·
  cases h; exact zs _ _ _ _ _ (setL_fit _)
 ·
  cases h
theorem keyB_ok : ∀ f, OneOk KeyOk (keyB f)
 | 0, s, k, p, _, h => by simp [keyB] at h
 | f + 1, s, k, p, hl, h => by
  refine ⟨?_, (keyB_nxt (f + 1) s k p h).2⟩
  by_cases hc : 50 < k + 1 ∨ f + 1 + k < 51
  ·
   rw [keyB_no s hc] at h; cases h
  ·
   rw [keyB_eq s hc] at h
   split at h
   ·
    obtain ⟨x, h1, rfl⟩ := map_some_out h
    have e := listR_ok (keyB_ok f) hl h1
    exact ⟨by simp [KeyP.set], by simp only [KeyP.kids]; omega, by simp only [KeyP.kids]; exact keysFit_all e.1⟩
   ·
    split at h
    ·
     cases h
    ·
     rename_i W0 r hw
     have e1 := wordB_len hw
     exact keyOf_ok (keyB_ok f) (by omega) h
theorem keysLoop_ok {sub : Rd KeyP} (ho : OneOk KeyOk sub) : ∀ m s k p, s.length ≤ 1000000 → keysLoop sub m s k = some p → (∀ x ∈ p.1, KeyOk x) ∧ p.1.length ≤ m
 | 0, s, k, p, _, h => by simp [keysLoop] at h
 | m + 1, s, k, p, hl, h => by
  unfold keysLoop at h
  split at h
  ·
   simp only [Option.some.injEq] at h
   subst h
   exact ⟨fun x hx => by simp at hx, Nat.zero_le _⟩
  ·
   rename_i l1 h1
   have e1 := isB_len h1
   simp only [List.length_singleton] at e1
   split at h
   ·
    cases h
   ·
    rename_i x s2 k2 h2
    obtain ⟨q, hq, rfl⟩ := map_some_out h
    have e2 := ho _ _ _ (by omega) h2
    dsimp only at e2
    have e3 := keysLoop_ok ho m _ _ _ (by omega) hq
    refine ⟨fun y hy => ?_, by simp only [List.length_cons]; omega⟩
    rcases List.mem_cons.1 hy with rfl | hy
    ·
     exact e2.1
    ·
     exact e3.1 y hy
theorem charB_len {s r : Bs} (h : charB s = some r) : r.length ≤ s.length := by
 unfold charB at h
 split at h
 ·
  split at h
  ·
   cases h
  ·
   rename_i x r1 hw
   have e1 := wordB_len hw
   have e2 : (s.drop 8).length ≤ s.length := by rw [List.length_drop]; omega
   split at h
   ·
    have e3 := isB_len h
    omega
   ·
    cases h
 ·
  cases h; exact Nat.le_refl _
theorem searchB_ok {sub : Rd KeyP} (ho : OneOk KeyOk sub) {s : Bs} {k : Nat} {p : List KeyP × Bs × Nat} (hl : s.length ≤ 1000000) (h : searchB sub s k = some p) : (∀ x ∈ p.1, KeyOk x) ∧ p.1.length ≤ 1000002 := by
 unfold searchB at h
 split at h
 ·
  cases h
 ·
  rename_i s1 h1
  have e1 := isB_len h1
  simp only [List.length_singleton] at e1
  split at h
  ·
   cases h
  ·
   rename_i s2 h2
   have e2 := charB_len h2
   unfold keysB at h
   split at h
   ·
    cases h
   ·
    rename_i x s3 k3 h3
    obtain ⟨q, hq, rfl⟩ := map_some_out h
    have e3 := ho _ _ _ (by omega) h3
    dsimp only at e3
    have e4 := keysLoop_ok ho _ _ _ _ (by omega) hq
    refine ⟨fun y hy => ?_, by simp only [List.length_cons]; omega⟩
    rcases List.mem_cons.1 hy with rfl | hy
    ·
     exact e3.1
    ·
     exact e4.1 y hy
def SecFit (sec : Bs → Option SpecP) : Prop := ∀ X x, sec X = some x → SpecFit x
def ItemOk (x : ItemP) : Prop := SpecFit x.spec
theorem plain_ok (nm : Bs) : ItemOk (plainItem nm) := ⟨by simp [plainItem], by simp [plainItem]⟩
theorem itemK_ok {nm r : Bs} {p : ItemP × Bs} (h : itemK nm r = some p) : ItemOk p.1 := by
 unfold itemK at h
 split at h
 ·
  cases h; exact plain_ok nm
 ·
  cases h
theorem bodyB_ok {sec : Bs → Option SpecP} (hs : SecFit sec) {pk : Bool} {r : Bs} {p : ItemP × Bs} (h : bodyB sec pk r = some p) : ItemOk p.1 := by
 unfold bodyB at h
 split at h
 ·
  cases h
 ·
  split at h
  ·
   cases h
  ·
   rename_i x hx
   obtain ⟨q, hq, rfl⟩ := map_some_out h
   exact hs _ _ hx
theorem itemB_ok {sec : Bs → Option SpecP} (hs : SecFit sec) {s : Bs} {p : ItemP × Bs} (h : itemB sec s = some p) : ItemOk p.1 := by
 unfold itemB at h
 split at h
 ·
  split at h
  ·
   exact bodyB_ok hs h
  ·
   exact itemK_ok h
 ·
  exact itemK_ok h
theorem itemR_ok {sec : Bs → Option SpecP} (hs : SecFit sec) : OneOk ItemOk (itemR sec) := fun s k p _ h => by
 refine ⟨?_, itemR_nxt sec s k p h⟩
 unfold itemR at h
 obtain ⟨q, hq, rfl⟩ := map_some_out h
 exact itemB_ok hs hq
theorem itemsB_ok {sec : Bs → Option SpecP} (hs : SecFit sec) {s : Bs} {k : Nat} {p : List ItemP × Bs × Nat} (hl : s.length ≤ 1000000) (h : itemsB sec s k = some p) : (∀ x ∈ p.1, ItemOk x) ∧ p.1.length ≤ 1000002 := by
 unfold itemsB at h
 split at h
 ·
  exact listR_ok (itemR_ok hs) hl h
 ·
  split at h
  ·
   rename_i n hn
   cases h
   refine ⟨fun x hx => ?_, ?_⟩
   ·
    obtain ⟨nm, _, rfl⟩ := List.mem_map.1 hx
    exact plain_ok nm
   ·
    simp only [List.length_map, List.length_take, allNs, List.length_cons, List.length_nil]
    omega
  ·
   obtain ⟨q, hq, rfl⟩ := map_some_out h
   refine ⟨fun x hx => ?_, by simp⟩
   simp only [List.mem_singleton] at hx
   subst hx
   exact itemB_ok hs hq
theorem sec_fit : SecFit secB := by
 have hf : ∀ x y, secFin x = some y → SpecFit y := by
  intro x y h
  unfold secFin at h
  split at h
  ·
   rename_i hr
   cases h
   unfold secRight at hr
   split at hr
   ·
    cases hr
   ·
    rename_i hc
    simp only [not_or] at hc
    exact ⟨by omega, by omega⟩
  ·
   cases h
 intro X x h
 unfold secB at h
 split at h
 ·
  unfold secEnd at h
  split at h
  ·
   cases h
  ·
   split at h
   ·
    split at h
    ·
     exact hf _ _ h
    ·
     cases h
   ·
    exact hf _ _ h
 ·
  exact hf _ _ h
theorem appendB_fit {f0 t0 : Int} {s : Bs} {p : (List Bs × Int × Int × Bs) × Bs} (h : appendB f0 t0 s = some p) : p.1.1.length = 1 := by
 have he : ∀ xs f t s p, apEnd xs f t s = some p → p.1.1 = xs := by
  intro xs f t s p h
  unfold apEnd at h
  split at h
  ·
   cases h
  ·
   obtain ⟨q, _, rfl⟩ := map_some_out h; rfl
 have hd : ∀ t0 xs f s p, apDate t0 xs f s = some p → p.1.1 = xs := by
  intro t0 xs f s p h
  unfold apDate at h
  split at h
  ·
   exact he _ _ _ _ _ h
  ·
   split at h
   ·
    cases h
   ·
    split at h
    ·
     cases h
    ·
     split at h
     ·
      cases h
     ·
      exact he _ _ _ _ _ h
 have hf : ∀ f0 t0 xs s p, apFlags f0 t0 xs s = some p → p.1.1 = xs := by
  intro f0 t0 xs s p h
  unfold apFlags at h
  split at h
  ·
   exact hd _ _ _ _ _ h
  ·
   split at h
   ·
    cases h
   ·
    split at h
    ·
     cases h
    ·
     exact hd _ _ _ _ _ h
 unfold appendB at h
 split at h
 ·
  cases h
 ·
  rename_i xs s1 ht
  split at h
  ·
   cases h
  ·
   rw [hf _ _ _ _ _ h]
   exact (textsB_len ht).2.1
theorem restB_fit {sec : Bs → Option SpecP} (hs : SecFit sec) {tg nm : Bs} {uid : Bool} {s : Bs} (hl : s.length ≤ 1000000) {p : CmdP × Bs} (h : restB sec (cmdP0 tg nm uid) s = some p) : CmdFit p.1 := by
 have z0 : CmdFit (cmdP0 tg nm uid) := ⟨by simp [cmdP0], by simp [cmdP0], by simp [cmdP0], fun y hy => by simp [cmdP0] at hy, by simp [cmdP0], .nil⟩
 have za : ∀ l : List Bs, l.length ≤ 1000003 → CmdFit (putA (cmdP0 tg nm uid) l) := fun l hl => ⟨by simp only [putA]; omega, z0.set, z0.items, z0.each, z0.keys, z0.deep⟩
 unfold restB at h
 by_cases hN0 : (cmdP0 tg nm uid).name ∈ idleNs
 ·
  rw [if_pos hN0] at h
  cases h; exact z0
 rw [if_neg hN0] at h
 by_cases hN1 : (cmdP0 tg nm uid).name ∈ twoNs
 ·
  rw [if_pos hN1] at h
  obtain ⟨x, h1, rfl⟩ := map_some_out h; exact za _ (by rw [(textsB_len (x := x.1) (r := x.2) h1).2.1]; omega)
 rw [if_neg hN1] at h
 by_cases hN2 : (cmdP0 tg nm uid).name ∈ oneNs
 ·
  rw [if_pos hN2] at h
  obtain ⟨x, h1, rfl⟩ := map_some_out h; exact za _ (by rw [(textsB_len (x := x.1) (r := x.2) h1).2.1]; omega)
 rw [if_neg hN2] at h
 by_cases hN3 : (cmdP0 tg nm uid).name ∈ listNs
 ·
  rw [if_pos hN3] at h
  obtain ⟨x, h1, rfl⟩ := map_some_out h
  refine za _ ?_
  unfold listB at h1
  split at h1
  ·
   cases h1
  ·
   rename_i xs s1 ht
   have e := (textsB_len ht).2.1
   split at h1
   ·
    cases h1
   ·
    obtain ⟨y, _, rfl⟩ := map_some_out h1
    simp only [appY, List.length_append, List.length_singleton]
    omega
 rw [if_neg hN3] at h
 by_cases hN4 : (cmdP0 tg nm uid).name = statusNm
 ·
  rw [if_pos hN4] at h
  obtain ⟨x, h1, rfl⟩ := map_some_out h
  refine za _ ?_
  unfold statusB at h1
  split at h1
  ·
   cases h1
  ·
   rename_i xs s1 ht
   have e := textsB_len ht
   split at h1
   ·
    cases h1
   ·
    rename_i s2 h2
    have e2 := isB_len h2
    simp only [List.length_singleton] at e2
    obtain ⟨y, hy, rfl⟩ := map_some_out h1
    have e3 := (listR_ok (P := fun _ => True) (fun s k p _ hp => ⟨trivial, statR_len s k p hp⟩) (by omega) hy).2
    simp only [appS, List.length_append]
    omega
 rw [if_neg hN4] at h
 by_cases hN5 : (cmdP0 tg nm uid).name = appendNm
 ·
  rw [if_pos hN5] at h
  obtain ⟨x, h1, rfl⟩ := map_some_out h
  exact ⟨by have := appendB_fit h1; dsimp only; omega, z0.set, z0.items, z0.each, z0.keys, z0.deep⟩
 rw [if_neg hN5] at h
 by_cases hN6 : (cmdP0 tg nm uid).name = copyNm
 ·
  rw [if_pos hN6] at h
  obtain ⟨x, h1, rfl⟩ := map_some_out h
  unfold copyB at h1
  cases hb : isB [32] s with
  | none => rw [hb] at h1; cases h1
  | some s1 =>
   rw [hb] at h1
   dsimp only [Option.bind] at h1
   cases hset : setB s1 with
   | none => rw [hset] at h1; cases h1
   | some q =>
    rw [hset] at h1
    dsimp only at h1
    obtain ⟨y, hy, rfl⟩ := map_some_out h1
    have e := (textsB_len (x := y.1) (r := y.2) hy).2.1
    have e2 := setB_fit (x := q.1) (r := q.2) hset
    exact ⟨by dsimp only; omega, by dsimp only; omega, z0.items, z0.each, z0.keys, z0.deep⟩
 rw [if_neg hN6] at h
 by_cases hN7 : (cmdP0 tg nm uid).name = storeNm
 ·
  rw [if_pos hN7] at h
  obtain ⟨x, h1, rfl⟩ := map_some_out h
  unfold storeB at h1
  split at h1
  ·
   cases h1
  ·
   split at h1
   ·
    cases h1
   ·
    rename_i l s2 hset
    have e2 := setB_fit hset
    split at h1
    ·
     cases h1
    ·
     split at h1
     ·
      cases h1
     ·
      split at h1
      ·
       cases h1
      ·
       unfold stFlags at h1
       split at h1
       ·
        cases h1
       ·
        split at h1
        ·
         cases h1
        ·
         obtain ⟨y, _, rfl⟩ := map_some_out h1
         exact ⟨z0.args, by dsimp only [fgS]; omega, z0.items, z0.each, z0.keys, z0.deep⟩
 rw [if_neg hN7] at h
 by_cases hN8 : (cmdP0 tg nm uid).name = fetchNm
 ·
  rw [if_pos hN8] at h
  obtain ⟨x, h1, rfl⟩ := map_some_out h
  unfold fetchB at h1
  split at h1
  ·
   cases h1
  ·
   rename_i s1 hb1
   have e1 := isB_len hb1
   simp only [List.length_singleton] at e1
   split at h1
   ·
    cases h1
   ·
    rename_i l s2 hset
    have e2 := setB_fit hset
    have e3 := setB_le hset
    dsimp only at e3
    split at h1
    ·
     cases h1
    ·
     rename_i s3 hb2
     have e4 := isB_len hb2
     simp only [List.length_singleton] at e4
     split at h1
     ·
      cases h1
     ·
      rename_i its r kk hit
      cases h1
      have e5 := itemsB_ok hs (by omega) hit
      exact ⟨z0.args, by dsimp only; omega, by dsimp only; have := e5.2; dsimp only at this; omega, fun y hy => e5.1 y hy, z0.keys, z0.deep⟩
 rw [if_neg hN8] at h
 by_cases hN9 : (cmdP0 tg nm uid).name = searchNm
 ·
  rw [if_pos hN9] at h
  obtain ⟨x, h1, rfl⟩ := map_some_out h
  have e := searchB_ok (keyB_ok 51) hl h1
  exact ⟨z0.args, z0.set, z0.items, z0.each, by dsimp only; omega, keysFit_all e.1⟩
 rw [if_neg hN9] at h
 cases h
theorem finB_some {o : Option (CmdP × Bs)} {x : CmdP} (h : finB o = some x) : o = some (x, []) := by
 unfold finB at h
 split at h
 ·
  cases h; rfl
 ·
  cases h
theorem prsB_fit {sec : Bs → Option SpecP} (hs : SecFit sec) {s : Bs} (hl : s.length ≤ 1000000) {x : CmdP} (h : prsB sec s = some x) : CmdFit x := by
 unfold prsB at h
 split at h
 ·
  cases h
 ·
  rename_i tg s1 h1
  have e1 := wordB_len h1
  split at h
  ·
   split at h
   ·
    cases h
   ·
    rename_i s2 h2
    have e2 := isB_len h2
    simp only [List.length_singleton] at e2
    split at h
    ·
     cases h
    ·
     rename_i n0 s3 h3
     have e3 := wordB_len h3
     unfold parseN at h
     split at h
     ·
      unfold parseU at h
      split at h
      ·
       cases h
      ·
       rename_i s4 h4
       have e4 := isB_len h4
       simp only [List.length_singleton] at e4
       split at h
       ·
        cases h
       ·
        rename_i n1 s5 h5
        have e5 := wordB_len h5
        split at h
        ·
         exact restB_fit hs (by omega) (finB_some h)
        ·
         cases h
     ·
      exact restB_fit hs (by omega) (finB_some h)
  ·
   cases h
open Go.RowKit
open Pl (Bs)
theorem exA_is : (prsB secB exA).map (fun x => x.items.length) = some 2 := by kernel_rfl
theorem exB_is : (prsB secB exB).map (fun x => (x.uid, x.keys.map fun y => y.kids.length)) = some (true, [2]) := by kernel_rfl
theorem exC_is : (prsB secB exC).map (fun x => x.args) = some [[97, 110, 110], [120, 32, 121]] := by kernel_rfl
theorem parseA2 (G : Glob) (w : World) (hE : PsEnv G w) : Calls Tryz.prog 12 #[.string (str exA)] w fun e w' => Below w.heap.size w w' ∧ ∃ c : CmdV, e = .returned (.tuple #[.agg c.cells, .nilIface]) ∧ c.iN = 2 := by
 obtain ⟨x, hx, h2⟩ := map_some_out exA_is
 have K := parse_full G secB (sec_con G) exA (by decide) w hE.1 hE.2
 rw [hx] at K
 exact K.mono fun e w' ⟨hB, c, he, hat⟩ => ⟨hB, c, he, hat.items.1.trans h2⟩
theorem parseB2 (G : Glob) (w : World) (hE : PsEnv G w) : Calls Tryz.prog 12 #[.string (str exB)] w fun e w' => Below w.heap.size w w' ∧ ∃ c : CmdV, e = .returned (.tuple #[.agg c.cells, .nilIface]) ∧ KidsQ c w.heap.size w' := by
 obtain ⟨x, hx, h2⟩ := map_some_out exB_is
 have K := parse_full G secB (sec_con G) exB (by decide) w hE.1 hE.2
 rw [hx] at K
 refine K.mono fun e w' ⟨hB, c, he, hat⟩ => ⟨hB, c, he, ?_⟩
 simp only [Prod.mk.injEq] at h2
 obtain ⟨y, hy, hyk⟩ : ∃ y, x.keys = [y] ∧ y.kids.length = 2 := by
  cases hk : x.keys with
  | nil => rw [hk] at h2; simp at h2
  | cons y l =>
   rw [hk] at h2
   cases l with
   | nil => exact ⟨y, rfl, by simpa using h2.2⟩
   | cons z l => simp at h2
 obtain ⟨hn, cs, hrow, hks⟩ := hat.keys
 rw [hy] at hn hrow hks
 obtain ⟨g, hA, ht, hcell⟩ := hrow.parts (by simp)
 cases hks with
 | @cons _ vs vk kcs _ cs h1 h3 h4 h5 =>
  obtain ⟨Ak, ck, hvk, _⟩ := h3
  rw [hyk] at hvk
  subst hvk
  exact ⟨hat.uid.trans h2.1, hn, g, Ak, ck, hA, ht.1, hcell 5 _ rfl⟩
theorem parseC2 (G : Glob) (w : World) (hE : PsEnv G w) : Calls Tryz.prog 12 #[.string (str exC)] w fun e w' => Below w.heap.size w w' ∧ ∃ c : CmdV, e = .returned (.tuple #[.agg c.cells, .nilIface]) ∧ ArgsEx c w.heap.size w' := by
 obtain ⟨x, hx, h2⟩ := map_some_out exC_is
 have K := parse_full G secB (sec_con G) exC (by decide) w hE.1 hE.2
 rw [hx] at K
 refine K.mono fun e w' ⟨hB, c, he, hat⟩ => ⟨hB, c, he, ?_⟩
 obtain ⟨hn, hrow⟩ := hat.args
 rw [h2] at hn hrow
 obtain ⟨g, hA, ht, hcell⟩ := hrow.parts (by simp)
 exact ⟨hn, g, hA, ht.1, hcell 0 _ rfl, hcell 1 _ rfl⟩
theorem alive22_walk (G : Glob) (w : World) (h20 : 20 ≤ w.heap.size) (hE : ∀ W, Below w.heap.size w W → ∀ B, w.heap.size ≤ B → B < W.heap.size → EnvI G W B) :
  Calls Tryz.prog 7 #[] w fun e w' => e = .returned (.bool true) ∧ Below w.heap.size w w' := by
 have HP0 : Hid (PsEnv G w) := Lib.hid ⟨h20, fun W hW hl => hE W hW _ (by omega) hl⟩
 have HE := Lib.hid hE
 have HN : Hid (∀ W, Below w.heap.size w W → PsEnv G W) := Lib.hid (fun W hW => HP0.out.then hW hE)
 have KA : Hid (∀ W, PsEnv G W → Calls Tryz.prog 12 #[.string ⟨#[97, 32, 70, 69, 84, 67, 72, 32, 49, 58, 42, 32, 40, 70, 76, 65, 71, 83, 32, 66, 79, 68, 89, 91, 84, 69, 88, 84, 93, 60, 48, 46, 49, 48, 62, 41]⟩] W _) := Lib.hid (fun W hW => parseA2 G W hW)
 have KB : Hid (∀ W, PsEnv G W → Calls Tryz.prog 12 #[.string ⟨#[98, 32, 85, 73, 68, 32, 83, 69, 65, 82, 67, 72, 32, 79, 82, 32, 83, 69, 69, 78, 32, 78, 79, 84, 32, 51]⟩] W _) := Lib.hid (fun W hW => parseB2 G W hW)
 have KC : Hid (∀ W, PsEnv G W → Calls Tryz.prog 12 #[.string ⟨#[99, 32, 76, 79, 71, 73, 78, 32, 123, 51, 125, 13, 10, 97, 110, 110, 32, 34, 120, 32, 121, 34]⟩] W _) := Lib.hid (fun W hW => parseC2 G W hW)
 clear hE
 go_enter Tryz.func7, Tryz.ntmps7
 go_wp2_with fail
 refine (KA.out _ HP0.out).mono ?_
 rintro e w1 ⟨hB1, c, he, hq⟩
 have HB1 := Lib.hid hB1
 obtain ⟨atag, aname, auid, aaA, aaN, aaC, asA, asN, asC, ahow, aflags, asilent, adate, abody, aiA, aiN, aiC, akA, akN, akC⟩ := c
 dsimp only at hq
 subst hq
 simp only [CmdV.cells] at he
 subst he
 have HBa := Lib.hid (hB1.alloc hB1.size (Obj.cells #[.string atag, .string aname, .bool auid, .slice aaA aaN aaC, .slice asA asN asC, .int .i64 ahow, .int .i64 aflags, .bool asilent, .int .i64 adate, .string abody, .slice aiA 2 aiC, .slice akA akN akC] 33))
 have HXa := Lib.hid (World.alloc_heap_new w1 (Obj.cells #[.string atag, .string aname, .bool auid, .slice aaA aaN aaC, .slice asA asN asC, .int .i64 ahow, .int .i64 aflags, .bool asilent, .int .i64 adate, .string abody, .slice aiA 2 aiC, .slice akA akN akC] 33))
 clear hB1
 go_wp2_with fail
 refine (KB.out _ (HN.out _ HBa.out)).mono ?_
 rintro e w2 ⟨hB2, c, he, hq⟩
 obtain ⟨btag, bname, buid, baA, baN, baC, bsA, bsN, bsC, bhow, bflags, bsilent, bdate, bbody, biA, biN, biC, bkA, bkN, bkC⟩ := c
 obtain ⟨q1, q2, g, Ak, ck, q3, q4, q5⟩ := hq
 dsimp only at q1 q2 q3
 subst q1
 subst q2
 subst q3
 simp only [CmdV.cells] at he
 subst he
 have HB2 := Lib.hid (HBa.out.trans (hB2.mono HBa.out.size))
 have HXa2 := Lib.hid ((hB2.block _ (by simp)).trans HXa.out)
 have hz2 := hB2.size
 simp at hz2
 have HBb := Lib.hid (HB2.out.alloc HB2.out.size (Obj.cells #[.string btag, .string bname, .bool true, .slice baA baN baC, .slice bsA bsN bsC, .int .i64 bhow, .int .i64 bflags, .bool bsilent, .int .i64 bdate, .string bbody, .slice biA biN biC, .slice (some ⟨g, 0, none⟩) 1 bkC] 33))
 have HXb := Lib.hid (World.alloc_heap_new w2 (Obj.cells #[.string btag, .string bname, .bool true, .slice baA baN baC, .slice bsA bsN bsC, .int .i64 bhow, .int .i64 bflags, .bool bsilent, .int .i64 bdate, .string bbody, .slice biA biN biC, .slice (some ⟨g, 0, none⟩) 1 bkC] 33))
 have hg2 := World.block_lt_of_cell? w2 _ q5
 have HQ5 := Lib.hid q5
 clear hB2 q5
 go_wp2_with fail
 refine (KC.out _ (HN.out _ HBb.out)).mono ?_
 rintro e w3 ⟨hB3, c, he, hq⟩
 obtain ⟨ctag, cname, cuid, caA, caN, caC, csA, csN, csC, chow, cflags, csilent, cdate, cbody, ciA, ciN, ciC, ckA, ckN, ckC⟩ := c
 obtain ⟨r1, h, r3, r4, r5, r6⟩ := hq
 dsimp only at r1 r3
 subst r1
 subst r3
 simp only [CmdV.cells] at he
 subst he
 have hz3 := hB3.size
 simp at hz3
 have HB3 := Lib.hid (HBb.out.trans (hB3.mono HBb.out.size))
 have HB4 := Lib.hid (HB3.out.alloc HB3.out.size (Obj.cells #[.string ctag, .string cname, .bool cuid, .slice (some ⟨h, 0, none⟩) 2 caC, .slice csA csN csC, .int .i64 chow, .int .i64 cflags, .bool csilent, .int .i64 cdate, .string cbody, .slice ciA ciN ciC, .slice ckA ckN ckC] 33))
 have hl1 : w1.heap.size < w3.heap.size := by omega
 have hl2 : w2.heap.size < w3.heap.size := by omega
 have x1 := (CmdV.cell (c := ⟨atag, aname, auid, aaA, aaN, aaC, asA, asN, asC, ahow, aflags, asilent, adate, abody, aiA, 2, aiC, akA, akN, akC⟩) (W := w3) ((hB3.block _ (by simp; omega)).trans ((Below.heap_alloc w2 _ _ (by omega)).trans HXa2.out))).1
 have x2 := (CmdV.cell (c := ⟨btag, bname, true, baA, baN, baC, bsA, bsN, bsC, bhow, bflags, bsilent, bdate, bbody, biA, biN, biC, (some ⟨g, 0, none⟩), 1, bkC⟩) (W := w3) ((hB3.block _ (by simp)).trans HXb.out)).1
 have x3 : w3.cell? ⟨g, 5, none⟩ = some (.slice Ak 2 ck) := (World.cell?_of_block (a := ⟨g, 5, none⟩) ((hB3.block g (by simp; omega)).trans (Below.heap_alloc w2 _ _ hg2))).trans HQ5.out
 have hg3 : g < w3.heap.size := by omega
 have hh3 := World.block_lt_of_cell? w3 _ r5
 clear hB3
 obtain ⟨_, _, _, _, _, _, _, _, _, _, y10, _⟩ := x1
 obtain ⟨_, _, z2, _, _, _, _, _, _, _, _, z11⟩ := x2
 go_wp2
 go_ret
 exact ⟨rfl, HB4.out⟩
theorem alive22 (G : Glob) (w : World) (h : EnvW G w) : Calls Tryz.prog 7 #[] w fun e w' => e = .returned (.bool true) ∧ Below w.heap.size w w' :=
 alive22_walk G w (by have := h.1; omega) (fun W hW B h1 h2 => h.2 W hW B (by have := h.1; omega) h2)
open Go.RowKit
open Pl (Bs)
theorem EnvW.ps {G : Glob} {w : World} (h : EnvW G w) : 20 ≤ w.heap.size ∧ ∀ W, Below w.heap.size w W → w.heap.size + 1 + 1 < W.heap.size → EnvI G W (w.heap.size + 1 + 1) :=
 ⟨by have := h.1; omega, fun W hB hl => h.2 W hB _ (by have := h.1; omega) hl⟩
end Go.Proofs.YtgmfhldfdnnafaaGreatDoor
