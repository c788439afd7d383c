/- A part of the proofs of the statements on chapter 21: walks of functions that they reach, and plain laws. What is proved is stated in the last text. Conditions: none of its own. -/
import Derived.Test.YtgmfhldfdnnafaaGreatDoorMs15
import Derived.Deep.RegionHeld3
import Derived.BigQuiet
set_option maxHeartbeats 8000000
set_option maxRecDepth 100000
set_option linter.unusedSimpArgs false
set_option linter.unusedVariables false
namespace Go.Proofs.YtgmfhldfdnnafaaGreatDoor
open Go.RowKit
open Pl (Bs digB)
attribute [local go_sem ↓] Go.wp_at_zero Go.wp_at_succ
def intTail (d : Nat) (l : Bs) : Option ((CivP × Int) × Bs) :=
 (isB [45] l).bind fun l => (dnameA monthsN 12 0 l).bind fun m => (isB [45] m.2).bind fun l => (dnumA 4 0 l).bind fun y => (isB [32] y.2).bind fun l => (dnumA 2 0 l).bind fun h => (isB [58] h.2).bind fun l => (dnumA 2 0 l).bind fun mi => (isB [58] mi.2).bind fun l => (dnumA 2 0 l).bind fun s => (isB [32] s.2).bind fun l => (dzoneA l).bind fun z => some ((⟨y.1, m.1 + 1, d, h.1, mi.1, s.1⟩, z.1), z.2)
def intRule (l : Bs) : Option ((CivP × Int) × Bs) :=
 match isB [32] l with
 | some r => (dnumA 1 0 r).bind fun p => intTail p.1 p.2
 | none => (dnumA 2 0 l).bind fun p => if 10 ≤ p.1 then intTail p.1 p.2 else none
theorem DrSt.draw {w : World} {B b : Nat} {s : Bs} {y m d h mi sc : Int} {W : World} (st : DrSt w B b s y m d h mi sc W) : DrSt w B b s y m d h mi sc W.drew := st.step ⟨rfl, rfl, rfl, Nat.le_refl _, fun _ _ _ => rfl⟩ ⟨st.scn.heap, st.scn.small⟩
def civS (b : Nat) (y m d h mi sc : Int) (W : World) : Prop := W.cell? ⟨b, 0, none⟩ = some (.int .i64 y) ∧ W.cell? ⟨b, 1, none⟩ = some (.int .i64 m) ∧ W.cell? ⟨b, 2, none⟩ = some (.int .i64 d) ∧ W.cell? ⟨b, 3, none⟩ = some (.int .i64 h) ∧ W.cell? ⟨b, 4, none⟩ = some (.int .i64 mi) ∧ W.cell? ⟨b, 5, none⟩ = some (.int .i64 sc) ∧ W.cell? ⟨b, 6, none⟩ = some (.int .i64 0)
theorem DrSt.keepR {w : World} {B b : Nat} {s : Bs} {y m d h mi sc : Int} {W W7 : World} (st : DrSt w B b s y m d h mi sc W) (hg : W.grownBy W7 (some w.heap.size)) : civS b y m d h mi sc W7 := (seven_cells ((hg.block _ (Array.getElem?_eq_some_iff.1 st.box).1 (fun e => by have := Option.some.inj e; have := st.ne; omega)).trans st.box)).1
theorem DrSt.keep {w : World} {B b : Nat} {s : Bs} {y m d h mi sc : Int} {W : World} (st : DrSt w B b s y m d h mi sc W) : civS b y m d h mi sc W := (seven_cells st.box).1
theorem intRule_walk (G : Glob) (B : Nat) (s : Bs) (w : World) (hE : EnvI G w B) (h : DScn w B s) :
  Calls Tryz.prog 123 #[dsP B] w (RulePost G w B (intRule s)) := by
 have HE := Lib.hid hE
 have hBl := h.lt
 have KM45 : Hid (∀ W r, EnvI G W B → DScn W B r → Calls Tryz.prog 127 #[dsP B, .string ⟨#[45]⟩] W _) := Lib.hid (fun W r hE hS => dmust_walk G B r [45] W hE hS)
 have KM32 : Hid (∀ W r, EnvI G W B → DScn W B r → Calls Tryz.prog 127 #[dsP B, .string ⟨#[32]⟩] W _) := Lib.hid (fun W r hE hS => dmust_walk G B r [32] W hE hS)
 have KM58 : Hid (∀ W r, EnvI G W B → DScn W B r → Calls Tryz.prog 127 #[dsP B, .string ⟨#[58]⟩] W _) := Lib.hid (fun W r hE hS => dmust_walk G B r [58] W hE hS)
 have KNm : Hid (∀ W r, EnvI G W B → DScn W B r → Calls Tryz.prog 128 #[dsP B, .string ⟨#[74, 97, 110, 70, 101, 98, 77, 97, 114, 65, 112, 114, 77, 97, 121, 74, 117, 110, 74, 117, 108, 65, 117, 103, 83, 101, 112, 79, 99, 116, 78, 111, 118, 68, 101, 99]⟩] W _) := Lib.hid (fun W r hE hS => dname_walk G B 12 (by decide) monthsN rfl r W hE hS)
 have KN1 : Hid (∀ W r, EnvI G W B → DScn W B r → Calls Tryz.prog 125 #[dsP B, .int .i64 1] W _) := Lib.hid (fun W r hE hS => dnumber_walk G B 1 (by decide) r W hE hS)
 have KN2 : Hid (∀ W r, EnvI G W B → DScn W B r → Calls Tryz.prog 125 #[dsP B, .int .i64 2] W _) := Lib.hid (fun W r hE hS => dnumber_walk G B 2 (by decide) r W hE hS)
 have KN4 : Hid (∀ W r, EnvI G W B → DScn W B r → Calls Tryz.prog 125 #[dsP B, .int .i64 4] W _) := Lib.hid (fun W r hE hS => dnumber_walk G B 4 (by decide) r W hE hS)
 have HB0 := Lib.hid ((Below.refl w.heap.size w).alloc (Nat.le_refl _) (civO 0 0 0 0 0 0))
 have HG0 := Lib.hid (World.grownBy_alloc w (civO 0 0 0 0 0 0) (some B))
 have HDa := Lib.hid (DrSt.start (y := 0) (m := 0) (d := 0) (h := 0) (mi := 0) (sc := 0) HG0.out (h.then HB0.out) (World.alloc_heap_new w (civO 0 0 0 0 0 0)) hBl)
 have HEa := Lib.hid (HE.out.kept HDa.out.gr)
 rw [World.size_alloc] at HDa
 have hT : intRule s = match isB [32] s with
  | some r => (dnumA 1 0 r).bind fun p => intTail p.1 p.2
  | none => (dnumA 2 0 s).bind fun p => if 10 ≤ p.1 then intTail p.1 p.2 else none := rfl
 generalize intRule s = oo at *
 cases h1 : isB [32] s with
 | some r =>
  rw [h1] at hT
  have HT := Lib.hid hT
  have K1 : Hid (∀ W, DScn W B s → Calls Tryz.prog 124 #[dsP B, .string ⟨#[32]⟩] W _) := Lib.hid (fun W hS => dis_ok B s [32] r h1 W hS)
  clear hE h hT h1
  go_enter Tryz.func123, Tryz.ntmps123
  go_wp2_with fail
  refine (K1.out _ HDa.out.scn).mono ?_
  rintro e wa ⟨rfl, hSa, hGa⟩
  have HDb := Lib.hid (HDa.out.step hGa hSa)
  have HEb := Lib.hid (HE.out.kept HDb.out.gr)
  clear hGa hSa
  go_wp2_with fail
  refine (KN1.out _ _ HEb.out HDb.out.scn).mono ?_
  rintro e wb hP
  rcases hP.split with ⟨ho, rfl, hG⟩ | ⟨d, r0, ho, rfl, hG, hS⟩
  ·
   exact ⟨rfl, .bad (HDb.out.gr.trans hG) (by rw [HT.out]; first | (rw [ho]; rfl) | (dsimp only; rw [ho]; rfl))⟩
  have HDc := Lib.hid (HDb.out.step hG hS)
  obtain ⟨⟨a0, a1, a2, a3, a4, a5, a6⟩, e0, e1, e2, e3, e4, e5, e6⟩ := seven_cells HDc.out.box
  have HD0 := Lib.hid (HDc.out.set (y' := 0) (m' := 0) (d' := d) (h' := 0) (mi' := 0) (sc' := 0) 2 (d : Int) rfl)
  have HE0 := Lib.hid (HE.out.kept HD0.out.gr)
  obtain ⟨x0, hx0⟩ : ∃ x, wb.setCell ⟨w.heap.size + 1, 2, none⟩ (.int .i64 (d : Int)) = x := ⟨_, rfl⟩
  rw [hx0] at HD0 HE0
  have HT0 := Lib.hid (show oo = (isB [45] r0).bind fun l => (dnameA monthsN 12 0 l).bind fun m => (isB [45] m.2).bind fun l => (dnumA 4 0 l).bind fun y => (isB [32] y.2).bind fun l => (dnumA 2 0 l).bind fun h => (isB [58] h.2).bind fun l => (dnumA 2 0 l).bind fun mi => (isB [58] mi.2).bind fun l => (dnumA 2 0 l).bind fun s => (isB [32] s.2).bind fun l => (dzoneA l).bind fun z => some ((⟨y.1, m.1 + 1, d, h.1, mi.1, s.1⟩, z.1), z.2) by rw [HT.out]; first | (rw [ho]; rfl) | (dsimp only; rw [ho]; rfl))
  clear hP ho hG hS
  go_wp2_with fail
  refine (KM45.out _ _ HE0.out HD0.out.scn).mono ?_
  rintro e v1 hP
  rcases hP.split with ⟨ho, rfl, hG⟩ | ⟨r1, ho, rfl, hG, hS⟩
  ·
   exact ⟨rfl, .bad (HD0.out.gr.trans hG) (by rw [HT0.out, ho]; rfl)⟩
  have HT1 := Lib.hid (show oo = (dnameA monthsN 12 0 r1).bind fun m => (isB [45] m.2).bind fun l => (dnumA 4 0 l).bind fun y => (isB [32] y.2).bind fun l => (dnumA 2 0 l).bind fun h => (isB [58] h.2).bind fun l => (dnumA 2 0 l).bind fun mi => (isB [58] mi.2).bind fun l => (dnumA 2 0 l).bind fun s => (isB [32] s.2).bind fun l => (dzoneA l).bind fun z => some ((⟨y.1, m.1 + 1, d, h.1, mi.1, s.1⟩, z.1), z.2) by rw [HT0.out, ho]; rfl)
  have HD1 := Lib.hid (HD0.out.step hG hS)
  have HE1 := Lib.hid (HE.out.kept HD1.out.gr)
  clear hP ho hG hS
  go_wp2_with fail
  refine (KNm.out _ _ HE1.out HD1.out.scn).mono ?_
  rintro e v2 hP
  rcases hP.split with ⟨ho, rfl, hG⟩ | ⟨m, r2, ho, rfl, hG, hS⟩
  ·
   exact ⟨rfl, .bad (HD1.out.gr.trans hG) (by rw [HT1.out, ho]; rfl)⟩
  have HT2 := Lib.hid (show oo = (isB [45] r2).bind fun l => (dnumA 4 0 l).bind fun y => (isB [32] y.2).bind fun l => (dnumA 2 0 l).bind fun h => (isB [58] h.2).bind fun l => (dnumA 2 0 l).bind fun mi => (isB [58] mi.2).bind fun l => (dnumA 2 0 l).bind fun s => (isB [32] s.2).bind fun l => (dzoneA l).bind fun z => some ((⟨y.1, m + 1, d, h.1, mi.1, s.1⟩, z.1), z.2) by rw [HT1.out, ho]; rfl)
  have hm := (dnameA_len monthsN 12 0 _ _ ho).2
  dsimp only at hm
  have HC2 := Lib.hid (HD1.out.step hG hS)
  clear hP ho hG hS
  obtain ⟨⟨a0, a1, a2, a3, a4, a5, a6⟩, e0, e1, e2, e3, e4, e5, e6⟩ := seven_cells HC2.out.box
  have HD2 := Lib.hid (HC2.out.set (y' := 0) (m' := ((m : Int) + 1)) (d' := (d : Int)) (h' := 0) (mi' := 0) (sc' := 0) 1 ((m : Int) + 1) rfl)
  have HE2 := Lib.hid (HE.out.kept HD2.out.gr)
  obtain ⟨x2, hx2⟩ : ∃ x, v2.setCell ⟨w.heap.size + 1, 1, none⟩ (.int .i64 ((m : Int) + 1)) = x := ⟨_, rfl⟩
  rw [hx2] at HD2 HE2
  go_wp2_with fail
  refine (KM45.out _ _ HE2.out HD2.out.scn).mono ?_
  clear a0 a1 a2 a3 a4 a5 a6 e0 e1 e2 e3 e4 e5 e6 hx2
  rintro e v3 hP
  rcases hP.split with ⟨ho, rfl, hG⟩ | ⟨r3, ho, rfl, hG, hS⟩
  ·
   exact ⟨rfl, .bad (HD2.out.gr.trans hG) (by rw [HT2.out, ho]; rfl)⟩
  have HT3 := Lib.hid (show oo = (dnumA 4 0 r3).bind fun y => (isB [32] y.2).bind fun l => (dnumA 2 0 l).bind fun h => (isB [58] h.2).bind fun l => (dnumA 2 0 l).bind fun mi => (isB [58] mi.2).bind fun l => (dnumA 2 0 l).bind fun s => (isB [32] s.2).bind fun l => (dzoneA l).bind fun z => some ((⟨y.1, m + 1, d, h.1, mi.1, s.1⟩, z.1), z.2) by rw [HT2.out, ho]; rfl)
  have HD3 := Lib.hid (HD2.out.step hG hS)
  have HE3 := Lib.hid (HE.out.kept HD3.out.gr)
  clear hP ho hG hS
  go_wp2_with fail
  refine (KN4.out _ _ HE3.out HD3.out.scn).mono ?_
  rintro e v4 hP
  rcases hP.split with ⟨ho, rfl, hG⟩ | ⟨y, r4, ho, rfl, hG, hS⟩
  ·
   exact ⟨rfl, .bad (HD3.out.gr.trans hG) (by rw [HT3.out, ho]; rfl)⟩
  have HT4 := Lib.hid (show oo = (isB [32] r4).bind fun l => (dnumA 2 0 l).bind fun h => (isB [58] h.2).bind fun l => (dnumA 2 0 l).bind fun mi => (isB [58] mi.2).bind fun l => (dnumA 2 0 l).bind fun s => (isB [32] s.2).bind fun l => (dzoneA l).bind fun z => some ((⟨y, m + 1, d, h.1, mi.1, s.1⟩, z.1), z.2) by rw [HT3.out, ho]; rfl)
  have HC4 := Lib.hid (HD3.out.step hG hS)
  clear hP ho hG hS
  obtain ⟨⟨a0, a1, a2, a3, a4, a5, a6⟩, e0, e1, e2, e3, e4, e5, e6⟩ := seven_cells HC4.out.box
  have HD4 := Lib.hid (HC4.out.set (y' := ((y : Int))) (m' := ((m : Int) + 1)) (d' := (d : Int)) (h' := 0) (mi' := 0) (sc' := 0) 0 ((y : Int)) rfl)
  have HE4 := Lib.hid (HE.out.kept HD4.out.gr)
  obtain ⟨x4, hx4⟩ : ∃ x, v4.setCell ⟨w.heap.size + 1, 0, none⟩ (.int .i64 ((y : Int))) = x := ⟨_, rfl⟩
  rw [hx4] at HD4 HE4
  go_wp2_with fail
  refine (KM32.out _ _ HE4.out HD4.out.scn).mono ?_
  clear a0 a1 a2 a3 a4 a5 a6 e0 e1 e2 e3 e4 e5 e6 hx4
  rintro e v5 hP
  rcases hP.split with ⟨ho, rfl, hG⟩ | ⟨r5, ho, rfl, hG, hS⟩
  ·
   exact ⟨rfl, .bad (HD4.out.gr.trans hG) (by rw [HT4.out, ho]; rfl)⟩
  have HT5 := Lib.hid (show oo = (dnumA 2 0 r5).bind fun h => (isB [58] h.2).bind fun l => (dnumA 2 0 l).bind fun mi => (isB [58] mi.2).bind fun l => (dnumA 2 0 l).bind fun s => (isB [32] s.2).bind fun l => (dzoneA l).bind fun z => some ((⟨y, m + 1, d, h.1, mi.1, s.1⟩, z.1), z.2) by rw [HT4.out, ho]; rfl)
  have HD5 := Lib.hid (HD4.out.step hG hS)
  have HE5 := Lib.hid (HE.out.kept HD5.out.gr)
  clear hP ho hG hS
  go_wp2_with fail
  refine (KN2.out _ _ HE5.out HD5.out.scn).mono ?_
  rintro e v6 hP
  rcases hP.split with ⟨ho, rfl, hG⟩ | ⟨h, r6, ho, rfl, hG, hS⟩
  ·
   exact ⟨rfl, .bad (HD5.out.gr.trans hG) (by rw [HT5.out, ho]; rfl)⟩
  have HT6 := Lib.hid (show oo = (isB [58] r6).bind fun l => (dnumA 2 0 l).bind fun mi => (isB [58] mi.2).bind fun l => (dnumA 2 0 l).bind fun s => (isB [32] s.2).bind fun l => (dzoneA l).bind fun z => some ((⟨y, m + 1, d, h, mi.1, s.1⟩, z.1), z.2) by rw [HT5.out, ho]; rfl)
  have HC6 := Lib.hid (HD5.out.step hG hS)
  clear hP ho hG hS
  obtain ⟨⟨a0, a1, a2, a3, a4, a5, a6⟩, e0, e1, e2, e3, e4, e5, e6⟩ := seven_cells HC6.out.box
  have HD6 := Lib.hid (HC6.out.set (y' := ((y : Int))) (m' := ((m : Int) + 1)) (d' := (d : Int)) (h' := ((h : Int))) (mi' := 0) (sc' := 0) 3 ((h : Int)) rfl)
  have HE6 := Lib.hid (HE.out.kept HD6.out.gr)
  obtain ⟨x6, hx6⟩ : ∃ x, v6.setCell ⟨w.heap.size + 1, 3, none⟩ (.int .i64 ((h : Int))) = x := ⟨_, rfl⟩
  rw [hx6] at HD6 HE6
  go_wp2_with fail
  refine (KM58.out _ _ HE6.out HD6.out.scn).mono ?_
  clear a0 a1 a2 a3 a4 a5 a6 e0 e1 e2 e3 e4 e5 e6 hx6
  rintro e v7 hP
  rcases hP.split with ⟨ho, rfl, hG⟩ | ⟨r7, ho, rfl, hG, hS⟩
  ·
   exact ⟨rfl, .bad (HD6.out.gr.trans hG) (by rw [HT6.out, ho]; rfl)⟩
  have HT7 := Lib.hid (show oo = (dnumA 2 0 r7).bind fun mi => (isB [58] mi.2).bind fun l => (dnumA 2 0 l).bind fun s => (isB [32] s.2).bind fun l => (dzoneA l).bind fun z => some ((⟨y, m + 1, d, h, mi.1, s.1⟩, z.1), z.2) by rw [HT6.out, ho]; rfl)
  have HD7 := Lib.hid (HD6.out.step hG hS)
  have HE7 := Lib.hid (HE.out.kept HD7.out.gr)
  clear hP ho hG hS
  go_wp2_with fail
  refine (KN2.out _ _ HE7.out HD7.out.scn).mono ?_
  rintro e v8 hP
  rcases hP.split with ⟨ho, rfl, hG⟩ | ⟨mi, r8, ho, rfl, hG, hS⟩
  ·
   exact ⟨rfl, .bad (HD7.out.gr.trans hG) (by rw [HT7.out, ho]; rfl)⟩
  have HT8 := Lib.hid (show oo = (isB [58] r8).bind fun l => (dnumA 2 0 l).bind fun s => (isB [32] s.2).bind fun l => (dzoneA l).bind fun z => some ((⟨y, m + 1, d, h, mi, s.1⟩, z.1), z.2) by rw [HT7.out, ho]; rfl)
  have HC8 := Lib.hid (HD7.out.step hG hS)
  clear hP ho hG hS
  obtain ⟨⟨a0, a1, a2, a3, a4, a5, a6⟩, e0, e1, e2, e3, e4, e5, e6⟩ := seven_cells HC8.out.box
  have HD8 := Lib.hid (HC8.out.set (y' := ((y : Int))) (m' := ((m : Int) + 1)) (d' := (d : Int)) (h' := ((h : Int))) (mi' := ((mi : Int))) (sc' := 0) 4 ((mi : Int)) rfl)
  have HE8 := Lib.hid (HE.out.kept HD8.out.gr)
  obtain ⟨x8, hx8⟩ : ∃ x, v8.setCell ⟨w.heap.size + 1, 4, none⟩ (.int .i64 ((mi : Int))) = x := ⟨_, rfl⟩
  rw [hx8] at HD8 HE8
  go_wp2_with fail
  refine (KM58.out _ _ HE8.out HD8.out.scn).mono ?_
  clear a0 a1 a2 a3 a4 a5 a6 e0 e1 e2 e3 e4 e5 e6 hx8
  rintro e v9 hP
  rcases hP.split with ⟨ho, rfl, hG⟩ | ⟨r9, ho, rfl, hG, hS⟩
  ·
   exact ⟨rfl, .bad (HD8.out.gr.trans hG) (by rw [HT8.out, ho]; rfl)⟩
  have HT9 := Lib.hid (show oo = (dnumA 2 0 r9).bind fun s => (isB [32] s.2).bind fun l => (dzoneA l).bind fun z => some ((⟨y, m + 1, d, h, mi, s.1⟩, z.1), z.2) by rw [HT8.out, ho]; rfl)
  have HD9 := Lib.hid (HD8.out.step hG hS)
  have HE9 := Lib.hid (HE.out.kept HD9.out.gr)
  clear hP ho hG hS
  go_wp2_with fail
  refine (KN2.out _ _ HE9.out HD9.out.scn).mono ?_
  rintro e v10 hP
  rcases hP.split with ⟨ho, rfl, hG⟩ | ⟨sc, r10, ho, rfl, hG, hS⟩
  ·
   exact ⟨rfl, .bad (HD9.out.gr.trans hG) (by rw [HT9.out, ho]; rfl)⟩
  have HT10 := Lib.hid (show oo = (isB [32] r10).bind fun l => (dzoneA l).bind fun z => some ((⟨y, m + 1, d, h, mi, sc⟩, z.1), z.2) by rw [HT9.out, ho]; rfl)
  have HC10 := Lib.hid (HD9.out.step hG hS)
  clear hP ho hG hS
  obtain ⟨⟨a0, a1, a2, a3, a4, a5, a6⟩, e0, e1, e2, e3, e4, e5, e6⟩ := seven_cells HC10.out.box
  have HD10 := Lib.hid (HC10.out.set (y' := ((y : Int))) (m' := ((m : Int) + 1)) (d' := (d : Int)) (h' := ((h : Int))) (mi' := ((mi : Int))) (sc' := ((sc : Int))) 5 ((sc : Int)) rfl)
  have HE10 := Lib.hid (HE.out.kept HD10.out.gr)
  obtain ⟨x10, hx10⟩ : ∃ x, v10.setCell ⟨w.heap.size + 1, 5, none⟩ (.int .i64 ((sc : Int))) = x := ⟨_, rfl⟩
  rw [hx10] at HD10 HE10
  go_wp2_with fail
  refine (KM32.out _ _ HE10.out HD10.out.scn).mono ?_
  clear a0 a1 a2 a3 a4 a5 a6 e0 e1 e2 e3 e4 e5 e6 hx10
  rintro e v11 hP
  rcases hP.split with ⟨ho, rfl, hG⟩ | ⟨r11, ho, rfl, hG, hS⟩
  ·
   exact ⟨rfl, .bad (HD10.out.gr.trans hG) (by rw [HT10.out, ho]; rfl)⟩
  have HT11 := Lib.hid (show oo = (dzoneA r11).bind fun z => some ((⟨y, m + 1, d, h, mi, sc⟩, z.1), z.2) by rw [HT10.out, ho]; rfl)
  have HD11 := Lib.hid (HD10.out.step hG hS)
  have HE11 := Lib.hid (HE.out.kept HD11.out.gr)
  clear hP ho hG hS
  have HX := Lib.hid HD11.out.draw
  have HEx := Lib.hid (HE.out.kept HX.out.gr)
  have HS0 := Lib.hid HX.out.keep
  have KZ := Lib.hid (fun W hE hS => dzone_walk G B r11 W hE hS)
  cases hz : dzoneA r11 with
  | none =>
   have HO := Lib.hid (show oo = none by rw [HT11.out, hz]; rfl)
   rw [hz] at KZ
   clear hz
   go_wp2_with fail
   obtain ⟨⟨a0, a1, a2, a3, a4, a5, a6⟩, e0, e1, e2, e3, e4, e5, e6⟩ := seven_cells HX.out.box
   refine wp_region_any (by kernel_rfl) ?_
   change wpAny _ _ _ _ _ _ _ (World.drew _)
   refine wpAny_ready (rs := [0, 1]) (by kernel_rfl) (by simp) ?_
   refine AllReady.cons rfl (fun K9 hK9 => ?_) ?_
   ·
    go_simp
    refine hK9 _ _ ?_
    clear hK9 K9
    refine wpAny_ready (rs := [1]) (by kernel_rfl) (by simp) ?_
    refine AllReady.cons rfl (fun K9 hK9 => ?_) ?_
    ·
     go_simp
     refine hK9 _ _ ?_
     clear hK9 K9
     refine wpAny_ready (rs := [2]) (by kernel_rfl) (by simp) ?_
     refine AllReady.cons rfl (fun K9 hK9 => ?_) ?_
     ·
      go_simp
      refine (KZ.out _ HEx.out HX.out.scn).mono ?_
      rintro e w' ⟨hG, rfl⟩
      exact ⟨rfl, .bad (HX.out.gr.trans hG) HO.out⟩
     exact AllReady.nil
    exact AllReady.nil
   refine AllReady.cons rfl (fun K9 hK9 => ?_) ?_
   ·
    go_simp
    refine hK9 _ _ ?_
    clear hK9 K9
    refine wpAny_ready (rs := [0, 2]) (by kernel_rfl) (by simp) ?_
    refine AllReady.cons rfl (fun K9 hK9 => ?_) ?_
    ·
     go_simp
     refine hK9 _ _ ?_
     clear hK9 K9
     refine wpAny_ready (rs := [2]) (by kernel_rfl) (by simp) ?_
     refine AllReady.cons rfl (fun K9 hK9 => ?_) ?_
     ·
      go_simp
      refine (KZ.out _ HEx.out HX.out.scn).mono ?_
      rintro e w' ⟨hG, rfl⟩
      exact ⟨rfl, .bad (HX.out.gr.trans hG) HO.out⟩
     exact AllReady.nil
    refine AllReady.cons rfl (fun K9 hK9 => ?_) ?_
    ·
     go_simp
     refine (KZ.out _ HEx.out HX.out.scn).mono ?_
     rintro e w' ⟨hG, rfl⟩
     exact ⟨rfl, .bad (HX.out.gr.trans hG) HO.out⟩
    exact AllReady.nil
   exact AllReady.nil
  | some q =>
   obtain ⟨z, rz⟩ := q
   have HO := Lib.hid (show oo = some ((⟨y, m + 1, d, h, mi, sc⟩, z), rz) by rw [HT11.out, hz]; rfl)
   rw [hz] at KZ
   clear hz
   go_wp2_with fail
   obtain ⟨⟨a0, a1, a2, a3, a4, a5, a6⟩, e0, e1, e2, e3, e4, e5, e6⟩ := seven_cells HX.out.box
   refine wp_region_any (by kernel_rfl) ?_
   change wpAny _ _ _ _ _ _ _ (World.drew _)
   refine wpAny_ready (rs := [0, 1]) (by kernel_rfl) (by simp) ?_
   refine AllReady.cons rfl (fun K9 hK9 => ?_) ?_
   ·
    go_simp
    refine hK9 _ _ ?_
    clear hK9 K9
    refine wpAny_ready (rs := [1]) (by kernel_rfl) (by simp) ?_
    refine AllReady.cons rfl (fun K9 hK9 => ?_) ?_
    ·
     go_simp
     refine hK9 _ _ ?_
     clear hK9 K9
     refine wpAny_ready (rs := [2]) (by kernel_rfl) (by simp) ?_
     refine AllReady.cons rfl (fun K9 hK9 => ?_) ?_
     ·
      go_simp
      refine (KZ.out _ HEx.out HX.out.scn).mono ?_
      rintro e wz ⟨hG1, rfl, hS1⟩
      have HZ1 := Lib.hid (HX.out.step hG1 hS1)
      clear hG1 hS1
      obtain ⟨⟨b0, b1, b2, b3, b4, b5, b6⟩, _⟩ := seven_cells HZ1.out.box
      obtain ⟨⟨c0, c1, c2, c3, c4, c5, c6⟩, g0, g1, g2, g3, g4, g5, g6⟩ := seven_cells HZ1.out.res
      refine hK9 _ _ ?_
      clear hK9 K9
      refine wpAny_ready (rs := [3]) (by kernel_rfl) (by simp) ?_
      refine AllReady.cons rfl (fun K9 hK9 => ?_) ?_
      ·
       go_simp
       refine hK9 _ _ ?_
       clear hK9 K9
       refine wpAny_ready (rs := [4]) (by kernel_rfl) (by simp) ?_
       refine AllReady.cons rfl (fun K9 hK9 => ?_) ?_
       ·
        go_simp
        refine hK9 _ _ ?_
        clear hK9 K9
        refine wpAny_done (by kernel_rfl) ?_ _
        clear a0 a1 a2 a3 a4 a5 a6 e0 e1 e2 e3 e4 e5 e6 b0 b1 b2 b3 b4 b5 b6 c0 c1 c2 c3 c4 c5 c6 g0 g1 g2 g3 g4 g5 g6
        have H7 := set7 _ _ _ _ _ _ _ _ _ _ (.int .i64 (((y : Int)))) (.int .i64 (((m : Int) + 1))) (.int .i64 ((d : Int))) (.int .i64 (((h : Int)))) (.int .i64 (((mi : Int)))) (.int .i64 (((sc : Int)))) (.int .i64 0) HZ1.out.res
        obtain ⟨⟨z0, z1, z2, z3, z4, z5, z6⟩, _⟩ := seven_cells H7.1
        have HF := Lib.hid (HZ1.out.fin (G := G) (c := ⟨y, m + 1, d, h, mi, sc⟩) (z := z) HO.out H7.2)
        clear H7
        go_wp2
        refine bodyPost_ret (v := _) ?_ rfl HF.out
        rw [results_cell_tmp rfl]
        simp [go_sem, z0, z1, z2, z3, z4, z5, z6]
       exact AllReady.nil
      exact AllReady.nil
     exact AllReady.nil
    exact AllReady.nil
   refine AllReady.cons rfl (fun K9 hK9 => ?_) ?_
   ·
    go_simp
    refine hK9 _ _ ?_
    clear hK9 K9
    refine wpAny_ready (rs := [0, 2]) (by kernel_rfl) (by simp) ?_
    refine AllReady.cons rfl (fun K9 hK9 => ?_) ?_
    ·
     go_simp
     refine hK9 _ _ ?_
     clear hK9 K9
     refine wpAny_ready (rs := [2]) (by kernel_rfl) (by simp) ?_
     refine AllReady.cons rfl (fun K9 hK9 => ?_) ?_
     ·
      go_simp
      refine (KZ.out _ HEx.out HX.out.scn).mono ?_
      rintro e wz ⟨hG1, rfl, hS1⟩
      have HZ1 := Lib.hid (HX.out.step hG1 hS1)
      clear hG1 hS1
      obtain ⟨⟨b0, b1, b2, b3, b4, b5, b6⟩, _⟩ := seven_cells HZ1.out.box
      obtain ⟨⟨c0, c1, c2, c3, c4, c5, c6⟩, g0, g1, g2, g3, g4, g5, g6⟩ := seven_cells HZ1.out.res
      refine hK9 _ _ ?_
      clear hK9 K9
      refine wpAny_ready (rs := [3]) (by kernel_rfl) (by simp) ?_
      refine AllReady.cons rfl (fun K9 hK9 => ?_) ?_
      ·
       go_simp
       refine hK9 _ _ ?_
       clear hK9 K9
       refine wpAny_ready (rs := [4]) (by kernel_rfl) (by simp) ?_
       refine AllReady.cons rfl (fun K9 hK9 => ?_) ?_
       ·
        go_simp
        refine hK9 _ _ ?_
        clear hK9 K9
        refine wpAny_done (by kernel_rfl) ?_ _
        clear a0 a1 a2 a3 a4 a5 a6 e0 e1 e2 e3 e4 e5 e6 b0 b1 b2 b3 b4 b5 b6 c0 c1 c2 c3 c4 c5 c6 g0 g1 g2 g3 g4 g5 g6
        have H7 := set7 _ _ _ _ _ _ _ _ _ _ (.int .i64 (((y : Int)))) (.int .i64 (((m : Int) + 1))) (.int .i64 ((d : Int))) (.int .i64 (((h : Int)))) (.int .i64 (((mi : Int)))) (.int .i64 (((sc : Int)))) (.int .i64 0) HZ1.out.res
        obtain ⟨⟨z0, z1, z2, z3, z4, z5, z6⟩, _⟩ := seven_cells H7.1
        have HF := Lib.hid (HZ1.out.fin (G := G) (c := ⟨y, m + 1, d, h, mi, sc⟩) (z := z) HO.out H7.2)
        clear H7
        go_wp2
        refine bodyPost_ret (v := _) ?_ rfl HF.out
        rw [results_cell_tmp rfl]
        simp [go_sem, z0, z1, z2, z3, z4, z5, z6]
       exact AllReady.nil
      exact AllReady.nil
     exact AllReady.nil
    refine AllReady.cons rfl (fun K9 hK9 => ?_) ?_
    ·
     go_simp
     refine (KZ.out _ HEx.out HX.out.scn).mono ?_
     rintro e wz ⟨hG1, rfl, hS1⟩
     have HZ1 := Lib.hid (HX.out.step hG1 hS1)
     clear hG1 hS1
     obtain ⟨⟨b0, b1, b2, b3, b4, b5, b6⟩, _⟩ := seven_cells HZ1.out.box
     obtain ⟨⟨c0, c1, c2, c3, c4, c5, c6⟩, g0, g1, g2, g3, g4, g5, g6⟩ := seven_cells HZ1.out.res
     refine hK9 _ _ ?_
     clear hK9 K9
     refine wpAny_ready (rs := [0]) (by kernel_rfl) (by simp) ?_
     refine AllReady.cons rfl (fun K9 hK9 => ?_) ?_
     ·
      go_simp
      refine hK9 _ _ ?_
      clear hK9 K9
      refine wpAny_ready (rs := [3]) (by kernel_rfl) (by simp) ?_
      refine AllReady.cons rfl (fun K9 hK9 => ?_) ?_
      ·
       go_simp
       refine hK9 _ _ ?_
       clear hK9 K9
       refine wpAny_ready (rs := [4]) (by kernel_rfl) (by simp) ?_
       refine AllReady.cons rfl (fun K9 hK9 => ?_) ?_
       ·
        go_simp
        refine hK9 _ _ ?_
        clear hK9 K9
        refine wpAny_done (by kernel_rfl) ?_ _
        clear a0 a1 a2 a3 a4 a5 a6 e0 e1 e2 e3 e4 e5 e6 b0 b1 b2 b3 b4 b5 b6 c0 c1 c2 c3 c4 c5 c6 g0 g1 g2 g3 g4 g5 g6
        have H7 := set7 _ _ _ _ _ _ _ _ _ _ (.int .i64 (((y : Int)))) (.int .i64 (((m : Int) + 1))) (.int .i64 ((d : Int))) (.int .i64 (((h : Int)))) (.int .i64 (((mi : Int)))) (.int .i64 (((sc : Int)))) (.int .i64 0) HZ1.out.res
        obtain ⟨⟨z0, z1, z2, z3, z4, z5, z6⟩, _⟩ := seven_cells H7.1
        have HF := Lib.hid (HZ1.out.fin (G := G) (c := ⟨y, m + 1, d, h, mi, sc⟩) (z := z) HO.out H7.2)
        clear H7
        go_wp2
        refine bodyPost_ret (v := _) ?_ rfl HF.out
        rw [results_cell_tmp rfl]
        simp [go_sem, z0, z1, z2, z3, z4, z5, z6]
       exact AllReady.nil
      exact AllReady.nil
     exact AllReady.nil
    exact AllReady.nil
   exact AllReady.nil
 | none =>
  rw [h1] at hT
  have HT := Lib.hid hT
  have K1 : Hid (∀ W, DScn W B s → Calls Tryz.prog 124 #[dsP B, .string ⟨#[32]⟩] W _) := Lib.hid (fun W hS => dis_not B s [32] h1 W hS)
  clear hE h hT h1
  go_enter Tryz.func123, Tryz.ntmps123
  go_wp2_with fail
  refine (K1.out _ HDa.out.scn).mono ?_
  rintro e wa ⟨rfl, hSa, hGa⟩
  have HDb := Lib.hid (HDa.out.step hGa hSa)
  have HEb := Lib.hid (HE.out.kept HDb.out.gr)
  clear hGa hSa
  go_wp2_with fail
  refine (KN2.out _ _ HEb.out HDb.out.scn).mono ?_
  rintro e wb hP
  rcases hP.split with ⟨ho, rfl, hG⟩ | ⟨d, r0, ho, rfl, hG, hS⟩
  ·
   exact ⟨rfl, .bad (HDb.out.gr.trans hG) (by rw [HT.out]; first | (rw [ho]; rfl) | (dsimp only; rw [ho]; rfl))⟩
  have HDc := Lib.hid (HDb.out.step hG hS)
  obtain ⟨⟨a0, a1, a2, a3, a4, a5, a6⟩, e0, e1, e2, e3, e4, e5, e6⟩ := seven_cells HDc.out.box
  have HD0 := Lib.hid (HDc.out.set (y' := 0) (m' := 0) (d' := d) (h' := 0) (mi' := 0) (sc' := 0) 2 (d : Int) rfl)
  have HE0 := Lib.hid (HE.out.kept HD0.out.gr)
  obtain ⟨x0, hx0⟩ : ∃ x, wb.setCell ⟨w.heap.size + 1, 2, none⟩ (.int .i64 (d : Int)) = x := ⟨_, rfl⟩
  rw [hx0] at HD0 HE0
  have HT9 := Lib.hid (show oo = if 10 ≤ d then intTail d r0 else none by rw [HT.out]; first | (rw [ho]; rfl) | (dsimp only; rw [ho]; rfl))
  clear hP ho hG hS
  obtain ⟨_, _, y2, _⟩ := (seven_cells HD0.out.box).1
  by_cases h10 : 10 ≤ d
  ·
   have h10' : (10 : Int) ≤ (d : Int) := by omega
   have HT0 := Lib.hid (show oo = (isB [45] r0).bind fun l => (dnameA monthsN 12 0 l).bind fun m => (isB [45] m.2).bind fun l => (dnumA 4 0 l).bind fun y => (isB [32] y.2).bind fun l => (dnumA 2 0 l).bind fun h => (isB [58] h.2).bind fun l => (dnumA 2 0 l).bind fun mi => (isB [58] mi.2).bind fun l => (dnumA 2 0 l).bind fun s => (isB [32] s.2).bind fun l => (dzoneA l).bind fun z => some ((⟨y.1, m.1 + 1, d, h.1, mi.1, s.1⟩, z.1), z.2) by rw [HT9.out, if_pos h10]; rfl)
   go_wp2_with fail
   refine (need_yes B _).mono ?_
   rintro e wn ⟨rfl, rfl⟩
   go_wp2_with fail
   refine (KM45.out _ _ HE0.out HD0.out.scn).mono ?_
   rintro e v1 hP
   rcases hP.split with ⟨ho, rfl, hG⟩ | ⟨r1, ho, rfl, hG, hS⟩
   ·
    exact ⟨rfl, .bad (HD0.out.gr.trans hG) (by rw [HT0.out, ho]; rfl)⟩
   have HT1 := Lib.hid (show oo = (dnameA monthsN 12 0 r1).bind fun m => (isB [45] m.2).bind fun l => (dnumA 4 0 l).bind fun y => (isB [32] y.2).bind fun l => (dnumA 2 0 l).bind fun h => (isB [58] h.2).bind fun l => (dnumA 2 0 l).bind fun mi => (isB [58] mi.2).bind fun l => (dnumA 2 0 l).bind fun s => (isB [32] s.2).bind fun l => (dzoneA l).bind fun z => some ((⟨y.1, m.1 + 1, d, h.1, mi.1, s.1⟩, z.1), z.2) by rw [HT0.out, ho]; rfl)
   have HD1 := Lib.hid (HD0.out.step hG hS)
   have HE1 := Lib.hid (HE.out.kept HD1.out.gr)
   clear hP ho hG hS
   go_wp2_with fail
   refine (KNm.out _ _ HE1.out HD1.out.scn).mono ?_
   rintro e v2 hP
   rcases hP.split with ⟨ho, rfl, hG⟩ | ⟨m, r2, ho, rfl, hG, hS⟩
   ·
    exact ⟨rfl, .bad (HD1.out.gr.trans hG) (by rw [HT1.out, ho]; rfl)⟩
   have HT2 := Lib.hid (show oo = (isB [45] r2).bind fun l => (dnumA 4 0 l).bind fun y => (isB [32] y.2).bind fun l => (dnumA 2 0 l).bind fun h => (isB [58] h.2).bind fun l => (dnumA 2 0 l).bind fun mi => (isB [58] mi.2).bind fun l => (dnumA 2 0 l).bind fun s => (isB [32] s.2).bind fun l => (dzoneA l).bind fun z => some ((⟨y.1, m + 1, d, h.1, mi.1, s.1⟩, z.1), z.2) by rw [HT1.out, ho]; rfl)
   have hm := (dnameA_len monthsN 12 0 _ _ ho).2
   dsimp only at hm
   have HC2 := Lib.hid (HD1.out.step hG hS)
   clear hP ho hG hS
   obtain ⟨⟨a0, a1, a2, a3, a4, a5, a6⟩, e0, e1, e2, e3, e4, e5, e6⟩ := seven_cells HC2.out.box
   have HD2 := Lib.hid (HC2.out.set (y' := 0) (m' := ((m : Int) + 1)) (d' := (d : Int)) (h' := 0) (mi' := 0) (sc' := 0) 1 ((m : Int) + 1) rfl)
   have HE2 := Lib.hid (HE.out.kept HD2.out.gr)
   obtain ⟨x2, hx2⟩ : ∃ x, v2.setCell ⟨w.heap.size + 1, 1, none⟩ (.int .i64 ((m : Int) + 1)) = x := ⟨_, rfl⟩
   rw [hx2] at HD2 HE2
   go_wp2_with fail
   refine (KM45.out _ _ HE2.out HD2.out.scn).mono ?_
   clear a0 a1 a2 a3 a4 a5 a6 e0 e1 e2 e3 e4 e5 e6 hx2
   rintro e v3 hP
   rcases hP.split with ⟨ho, rfl, hG⟩ | ⟨r3, ho, rfl, hG, hS⟩
   ·
    exact ⟨rfl, .bad (HD2.out.gr.trans hG) (by rw [HT2.out, ho]; rfl)⟩
   have HT3 := Lib.hid (show oo = (dnumA 4 0 r3).bind fun y => (isB [32] y.2).bind fun l => (dnumA 2 0 l).bind fun h => (isB [58] h.2).bind fun l => (dnumA 2 0 l).bind fun mi => (isB [58] mi.2).bind fun l => (dnumA 2 0 l).bind fun s => (isB [32] s.2).bind fun l => (dzoneA l).bind fun z => some ((⟨y.1, m + 1, d, h.1, mi.1, s.1⟩, z.1), z.2) by rw [HT2.out, ho]; rfl)
   have HD3 := Lib.hid (HD2.out.step hG hS)
   have HE3 := Lib.hid (HE.out.kept HD3.out.gr)
   clear hP ho hG hS
   go_wp2_with fail
   refine (KN4.out _ _ HE3.out HD3.out.scn).mono ?_
   rintro e v4 hP
   rcases hP.split with ⟨ho, rfl, hG⟩ | ⟨y, r4, ho, rfl, hG, hS⟩
   ·
    exact ⟨rfl, .bad (HD3.out.gr.trans hG) (by rw [HT3.out, ho]; rfl)⟩
   have HT4 := Lib.hid (show oo = (isB [32] r4).bind fun l => (dnumA 2 0 l).bind fun h => (isB [58] h.2).bind fun l => (dnumA 2 0 l).bind fun mi => (isB [58] mi.2).bind fun l => (dnumA 2 0 l).bind fun s => (isB [32] s.2).bind fun l => (dzoneA l).bind fun z => some ((⟨y, m + 1, d, h.1, mi.1, s.1⟩, z.1), z.2) by rw [HT3.out, ho]; rfl)
   have HC4 := Lib.hid (HD3.out.step hG hS)
   clear hP ho hG hS
   obtain ⟨⟨a0, a1, a2, a3, a4, a5, a6⟩, e0, e1, e2, e3, e4, e5, e6⟩ := seven_cells HC4.out.box
   have HD4 := Lib.hid (HC4.out.set (y' := ((y : Int))) (m' := ((m : Int) + 1)) (d' := (d : Int)) (h' := 0) (mi' := 0) (sc' := 0) 0 ((y : Int)) rfl)
   have HE4 := Lib.hid (HE.out.kept HD4.out.gr)
   obtain ⟨x4, hx4⟩ : ∃ x, v4.setCell ⟨w.heap.size + 1, 0, none⟩ (.int .i64 ((y : Int))) = x := ⟨_, rfl⟩
   rw [hx4] at HD4 HE4
   go_wp2_with fail
   refine (KM32.out _ _ HE4.out HD4.out.scn).mono ?_
   clear a0 a1 a2 a3 a4 a5 a6 e0 e1 e2 e3 e4 e5 e6 hx4
   rintro e v5 hP
   rcases hP.split with ⟨ho, rfl, hG⟩ | ⟨r5, ho, rfl, hG, hS⟩
   ·
    exact ⟨rfl, .bad (HD4.out.gr.trans hG) (by rw [HT4.out, ho]; rfl)⟩
   have HT5 := Lib.hid (show oo = (dnumA 2 0 r5).bind fun h => (isB [58] h.2).bind fun l => (dnumA 2 0 l).bind fun mi => (isB [58] mi.2).bind fun l => (dnumA 2 0 l).bind fun s => (isB [32] s.2).bind fun l => (dzoneA l).bind fun z => some ((⟨y, m + 1, d, h.1, mi.1, s.1⟩, z.1), z.2) by rw [HT4.out, ho]; rfl)
   have HD5 := Lib.hid (HD4.out.step hG hS)
   have HE5 := Lib.hid (HE.out.kept HD5.out.gr)
   clear hP ho hG hS
   go_wp2_with fail
   refine (KN2.out _ _ HE5.out HD5.out.scn).mono ?_
   rintro e v6 hP
   rcases hP.split with ⟨ho, rfl, hG⟩ | ⟨h, r6, ho, rfl, hG, hS⟩
   ·
    exact ⟨rfl, .bad (HD5.out.gr.trans hG) (by rw [HT5.out, ho]; rfl)⟩
   have HT6 := Lib.hid (show oo = (isB [58] r6).bind fun l => (dnumA 2 0 l).bind fun mi => (isB [58] mi.2).bind fun l => (dnumA 2 0 l).bind fun s => (isB [32] s.2).bind fun l => (dzoneA l).bind fun z => some ((⟨y, m + 1, d, h, mi.1, s.1⟩, z.1), z.2) by rw [HT5.out, ho]; rfl)
   have HC6 := Lib.hid (HD5.out.step hG hS)
   clear hP ho hG hS
   obtain ⟨⟨a0, a1, a2, a3, a4, a5, a6⟩, e0, e1, e2, e3, e4, e5, e6⟩ := seven_cells HC6.out.box
   have HD6 := Lib.hid (HC6.out.set (y' := ((y : Int))) (m' := ((m : Int) + 1)) (d' := (d : Int)) (h' := ((h : Int))) (mi' := 0) (sc' := 0) 3 ((h : Int)) rfl)
   have HE6 := Lib.hid (HE.out.kept HD6.out.gr)
   obtain ⟨x6, hx6⟩ : ∃ x, v6.setCell ⟨w.heap.size + 1, 3, none⟩ (.int .i64 ((h : Int))) = x := ⟨_, rfl⟩
   rw [hx6] at HD6 HE6
   go_wp2_with fail
   refine (KM58.out _ _ HE6.out HD6.out.scn).mono ?_
   clear a0 a1 a2 a3 a4 a5 a6 e0 e1 e2 e3 e4 e5 e6 hx6
   rintro e v7 hP
   rcases hP.split with ⟨ho, rfl, hG⟩ | ⟨r7, ho, rfl, hG, hS⟩
   ·
    exact ⟨rfl, .bad (HD6.out.gr.trans hG) (by rw [HT6.out, ho]; rfl)⟩
   have HT7 := Lib.hid (show oo = (dnumA 2 0 r7).bind fun mi => (isB [58] mi.2).bind fun l => (dnumA 2 0 l).bind fun s => (isB [32] s.2).bind fun l => (dzoneA l).bind fun z => some ((⟨y, m + 1, d, h, mi.1, s.1⟩, z.1), z.2) by rw [HT6.out, ho]; rfl)
   have HD7 := Lib.hid (HD6.out.step hG hS)
   have HE7 := Lib.hid (HE.out.kept HD7.out.gr)
   clear hP ho hG hS
   go_wp2_with fail
   refine (KN2.out _ _ HE7.out HD7.out.scn).mono ?_
   rintro e v8 hP
   rcases hP.split with ⟨ho, rfl, hG⟩ | ⟨mi, r8, ho, rfl, hG, hS⟩
   ·
    exact ⟨rfl, .bad (HD7.out.gr.trans hG) (by rw [HT7.out, ho]; rfl)⟩
   have HT8 := Lib.hid (show oo = (isB [58] r8).bind fun l => (dnumA 2 0 l).bind fun s => (isB [32] s.2).bind fun l => (dzoneA l).bind fun z => some ((⟨y, m + 1, d, h, mi, s.1⟩, z.1), z.2) by rw [HT7.out, ho]; rfl)
   have HC8 := Lib.hid (HD7.out.step hG hS)
   clear hP ho hG hS
   obtain ⟨⟨a0, a1, a2, a3, a4, a5, a6⟩, e0, e1, e2, e3, e4, e5, e6⟩ := seven_cells HC8.out.box
   have HD8 := Lib.hid (HC8.out.set (y' := ((y : Int))) (m' := ((m : Int) + 1)) (d' := (d : Int)) (h' := ((h : Int))) (mi' := ((mi : Int))) (sc' := 0) 4 ((mi : Int)) rfl)
   have HE8 := Lib.hid (HE.out.kept HD8.out.gr)
   obtain ⟨x8, hx8⟩ : ∃ x, v8.setCell ⟨w.heap.size + 1, 4, none⟩ (.int .i64 ((mi : Int))) = x := ⟨_, rfl⟩
   rw [hx8] at HD8 HE8
   go_wp2_with fail
   refine (KM58.out _ _ HE8.out HD8.out.scn).mono ?_
   clear a0 a1 a2 a3 a4 a5 a6 e0 e1 e2 e3 e4 e5 e6 hx8
   rintro e v9 hP
   rcases hP.split with ⟨ho, rfl, hG⟩ | ⟨r9, ho, rfl, hG, hS⟩
   ·
    exact ⟨rfl, .bad (HD8.out.gr.trans hG) (by rw [HT8.out, ho]; rfl)⟩
   have HT9 := Lib.hid (show oo = (dnumA 2 0 r9).bind fun s => (isB [32] s.2).bind fun l => (dzoneA l).bind fun z => some ((⟨y, m + 1, d, h, mi, s.1⟩, z.1), z.2) by rw [HT8.out, ho]; rfl)
   have HD9 := Lib.hid (HD8.out.step hG hS)
   have HE9 := Lib.hid (HE.out.kept HD9.out.gr)
   clear hP ho hG hS
   go_wp2_with fail
   refine (KN2.out _ _ HE9.out HD9.out.scn).mono ?_
   rintro e v10 hP
   rcases hP.split with ⟨ho, rfl, hG⟩ | ⟨sc, r10, ho, rfl, hG, hS⟩
   ·
    exact ⟨rfl, .bad (HD9.out.gr.trans hG) (by rw [HT9.out, ho]; rfl)⟩
   have HT10 := Lib.hid (show oo = (isB [32] r10).bind fun l => (dzoneA l).bind fun z => some ((⟨y, m + 1, d, h, mi, sc⟩, z.1), z.2) by rw [HT9.out, ho]; rfl)
   have HC10 := Lib.hid (HD9.out.step hG hS)
   clear hP ho hG hS
   obtain ⟨⟨a0, a1, a2, a3, a4, a5, a6⟩, e0, e1, e2, e3, e4, e5, e6⟩ := seven_cells HC10.out.box
   have HD10 := Lib.hid (HC10.out.set (y' := ((y : Int))) (m' := ((m : Int) + 1)) (d' := (d : Int)) (h' := ((h : Int))) (mi' := ((mi : Int))) (sc' := ((sc : Int))) 5 ((sc : Int)) rfl)
   have HE10 := Lib.hid (HE.out.kept HD10.out.gr)
   obtain ⟨x10, hx10⟩ : ∃ x, v10.setCell ⟨w.heap.size + 1, 5, none⟩ (.int .i64 ((sc : Int))) = x := ⟨_, rfl⟩
   rw [hx10] at HD10 HE10
   go_wp2_with fail
   refine (KM32.out _ _ HE10.out HD10.out.scn).mono ?_
   clear a0 a1 a2 a3 a4 a5 a6 e0 e1 e2 e3 e4 e5 e6 hx10
   rintro e v11 hP
   rcases hP.split with ⟨ho, rfl, hG⟩ | ⟨r11, ho, rfl, hG, hS⟩
   ·
    exact ⟨rfl, .bad (HD10.out.gr.trans hG) (by rw [HT10.out, ho]; rfl)⟩
   have HT11 := Lib.hid (show oo = (dzoneA r11).bind fun z => some ((⟨y, m + 1, d, h, mi, sc⟩, z.1), z.2) by rw [HT10.out, ho]; rfl)
   have HD11 := Lib.hid (HD10.out.step hG hS)
   have HE11 := Lib.hid (HE.out.kept HD11.out.gr)
   clear hP ho hG hS
   have HX := Lib.hid HD11.out.draw
   have HEx := Lib.hid (HE.out.kept HX.out.gr)
   have HS0 := Lib.hid HX.out.keep
   have KZ := Lib.hid (fun W hE hS => dzone_walk G B r11 W hE hS)
   cases hz : dzoneA r11 with
   | none =>
    have HO := Lib.hid (show oo = none by rw [HT11.out, hz]; rfl)
    rw [hz] at KZ
    clear hz
    go_wp2_with fail
    obtain ⟨⟨a0, a1, a2, a3, a4, a5, a6⟩, e0, e1, e2, e3, e4, e5, e6⟩ := seven_cells HX.out.box
    refine wp_region_any (by kernel_rfl) ?_
    change wpAny _ _ _ _ _ _ _ (World.drew _)
    refine wpAny_ready (rs := [0, 1]) (by kernel_rfl) (by simp) ?_
    refine AllReady.cons rfl (fun K9 hK9 => ?_) ?_
    ·
     go_simp
     refine hK9 _ _ ?_
     clear hK9 K9
     refine wpAny_ready (rs := [1]) (by kernel_rfl) (by simp) ?_
     refine AllReady.cons rfl (fun K9 hK9 => ?_) ?_
     ·
      go_simp
      refine hK9 _ _ ?_
      clear hK9 K9
      refine wpAny_ready (rs := [2]) (by kernel_rfl) (by simp) ?_
      refine AllReady.cons rfl (fun K9 hK9 => ?_) ?_
      ·
       go_simp
       refine (KZ.out _ HEx.out HX.out.scn).mono ?_
       rintro e w' ⟨hG, rfl⟩
       exact ⟨rfl, .bad (HX.out.gr.trans hG) HO.out⟩
      exact AllReady.nil
     exact AllReady.nil
    refine AllReady.cons rfl (fun K9 hK9 => ?_) ?_
    ·
     go_simp
     refine hK9 _ _ ?_
     clear hK9 K9
     refine wpAny_ready (rs := [0, 2]) (by kernel_rfl) (by simp) ?_
     refine AllReady.cons rfl (fun K9 hK9 => ?_) ?_
     ·
      go_simp
      refine hK9 _ _ ?_
      clear hK9 K9
      refine wpAny_ready (rs := [2]) (by kernel_rfl) (by simp) ?_
      refine AllReady.cons rfl (fun K9 hK9 => ?_) ?_
      ·
       go_simp
       refine (KZ.out _ HEx.out HX.out.scn).mono ?_
       rintro e w' ⟨hG, rfl⟩
       exact ⟨rfl, .bad (HX.out.gr.trans hG) HO.out⟩
      exact AllReady.nil
     refine AllReady.cons rfl (fun K9 hK9 => ?_) ?_
     ·
      go_simp
      refine (KZ.out _ HEx.out HX.out.scn).mono ?_
      rintro e w' ⟨hG, rfl⟩
      exact ⟨rfl, .bad (HX.out.gr.trans hG) HO.out⟩
     exact AllReady.nil
    exact AllReady.nil
   | some q =>
    obtain ⟨z, rz⟩ := q
    have HO := Lib.hid (show oo = some ((⟨y, m + 1, d, h, mi, sc⟩, z), rz) by rw [HT11.out, hz]; rfl)
    rw [hz] at KZ
    clear hz
    go_wp2_with fail
    obtain ⟨⟨a0, a1, a2, a3, a4, a5, a6⟩, e0, e1, e2, e3, e4, e5, e6⟩ := seven_cells HX.out.box
    refine wp_region_any (by kernel_rfl) ?_
    change wpAny _ _ _ _ _ _ _ (World.drew _)
    refine wpAny_ready (rs := [0, 1]) (by kernel_rfl) (by simp) ?_
    refine AllReady.cons rfl (fun K9 hK9 => ?_) ?_
    ·
     go_simp
     refine hK9 _ _ ?_
     clear hK9 K9
     refine wpAny_ready (rs := [1]) (by kernel_rfl) (by simp) ?_
     refine AllReady.cons rfl (fun K9 hK9 => ?_) ?_
     ·
      go_simp
      refine hK9 _ _ ?_
      clear hK9 K9
      refine wpAny_ready (rs := [2]) (by kernel_rfl) (by simp) ?_
      refine AllReady.cons rfl (fun K9 hK9 => ?_) ?_
      ·
       go_simp
       refine (KZ.out _ HEx.out HX.out.scn).mono ?_
       rintro e wz ⟨hG1, rfl, hS1⟩
       have HZ1 := Lib.hid (HX.out.step hG1 hS1)
       clear hG1 hS1
       obtain ⟨⟨b0, b1, b2, b3, b4, b5, b6⟩, _⟩ := seven_cells HZ1.out.box
       obtain ⟨⟨c0, c1, c2, c3, c4, c5, c6⟩, g0, g1, g2, g3, g4, g5, g6⟩ := seven_cells HZ1.out.res
       refine hK9 _ _ ?_
       clear hK9 K9
       refine wpAny_ready (rs := [3]) (by kernel_rfl) (by simp) ?_
       refine AllReady.cons rfl (fun K9 hK9 => ?_) ?_
       ·
        go_simp
        refine hK9 _ _ ?_
        clear hK9 K9
        refine wpAny_ready (rs := [4]) (by kernel_rfl) (by simp) ?_
        refine AllReady.cons rfl (fun K9 hK9 => ?_) ?_
        ·
         go_simp
         refine hK9 _ _ ?_
         clear hK9 K9
         refine wpAny_done (by kernel_rfl) ?_ _
         clear a0 a1 a2 a3 a4 a5 a6 e0 e1 e2 e3 e4 e5 e6 b0 b1 b2 b3 b4 b5 b6 c0 c1 c2 c3 c4 c5 c6 g0 g1 g2 g3 g4 g5 g6
         have H7 := set7 _ _ _ _ _ _ _ _ _ _ (.int .i64 (((y : Int)))) (.int .i64 (((m : Int) + 1))) (.int .i64 ((d : Int))) (.int .i64 (((h : Int)))) (.int .i64 (((mi : Int)))) (.int .i64 (((sc : Int)))) (.int .i64 0) HZ1.out.res
         obtain ⟨⟨z0, z1, z2, z3, z4, z5, z6⟩, _⟩ := seven_cells H7.1
         have HF := Lib.hid (HZ1.out.fin (G := G) (c := ⟨y, m + 1, d, h, mi, sc⟩) (z := z) HO.out H7.2)
         clear H7
         go_wp2
         refine bodyPost_ret (v := _) ?_ rfl HF.out
         rw [results_cell_tmp rfl]
         simp [go_sem, z0, z1, z2, z3, z4, z5, z6]
        exact AllReady.nil
       exact AllReady.nil
      exact AllReady.nil
     exact AllReady.nil
    refine AllReady.cons rfl (fun K9 hK9 => ?_) ?_
    ·
     go_simp
     refine hK9 _ _ ?_
     clear hK9 K9
     refine wpAny_ready (rs := [0, 2]) (by kernel_rfl) (by simp) ?_
     refine AllReady.cons rfl (fun K9 hK9 => ?_) ?_
     ·
      go_simp
      refine hK9 _ _ ?_
      clear hK9 K9
      refine wpAny_ready (rs := [2]) (by kernel_rfl) (by simp) ?_
      refine AllReady.cons rfl (fun K9 hK9 => ?_) ?_
      ·
       go_simp
       refine (KZ.out _ HEx.out HX.out.scn).mono ?_
       rintro e wz ⟨hG1, rfl, hS1⟩
       have HZ1 := Lib.hid (HX.out.step hG1 hS1)
       clear hG1 hS1
       obtain ⟨⟨b0, b1, b2, b3, b4, b5, b6⟩, _⟩ := seven_cells HZ1.out.box
       obtain ⟨⟨c0, c1, c2, c3, c4, c5, c6⟩, g0, g1, g2, g3, g4, g5, g6⟩ := seven_cells HZ1.out.res
       refine hK9 _ _ ?_
       clear hK9 K9
       refine wpAny_ready (rs := [3]) (by kernel_rfl) (by simp) ?_
       refine AllReady.cons rfl (fun K9 hK9 => ?_) ?_
       ·
        go_simp
        refine hK9 _ _ ?_
        clear hK9 K9
        refine wpAny_ready (rs := [4]) (by kernel_rfl) (by simp) ?_
        refine AllReady.cons rfl (fun K9 hK9 => ?_) ?_
        ·
         go_simp
         refine hK9 _ _ ?_
         clear hK9 K9
         refine wpAny_done (by kernel_rfl) ?_ _
         clear a0 a1 a2 a3 a4 a5 a6 e0 e1 e2 e3 e4 e5 e6 b0 b1 b2 b3 b4 b5 b6 c0 c1 c2 c3 c4 c5 c6 g0 g1 g2 g3 g4 g5 g6
         have H7 := set7 _ _ _ _ _ _ _ _ _ _ (.int .i64 (((y : Int)))) (.int .i64 (((m : Int) + 1))) (.int .i64 ((d : Int))) (.int .i64 (((h : Int)))) (.int .i64 (((mi : Int)))) (.int .i64 (((sc : Int)))) (.int .i64 0) HZ1.out.res
         obtain ⟨⟨z0, z1, z2, z3, z4, z5, z6⟩, _⟩ := seven_cells H7.1
         have HF := Lib.hid (HZ1.out.fin (G := G) (c := ⟨y, m + 1, d, h, mi, sc⟩) (z := z) HO.out H7.2)
         clear H7
         go_wp2
         refine bodyPost_ret (v := _) ?_ rfl HF.out
         rw [results_cell_tmp rfl]
         simp [go_sem, z0, z1, z2, z3, z4, z5, z6]
        exact AllReady.nil
       exact AllReady.nil
      exact AllReady.nil
     refine AllReady.cons rfl (fun K9 hK9 => ?_) ?_
     ·
      go_simp
      refine (KZ.out _ HEx.out HX.out.scn).mono ?_
      rintro e wz ⟨hG1, rfl, hS1⟩
      have HZ1 := Lib.hid (HX.out.step hG1 hS1)
      clear hG1 hS1
      obtain ⟨⟨b0, b1, b2, b3, b4, b5, b6⟩, _⟩ := seven_cells HZ1.out.box
      obtain ⟨⟨c0, c1, c2, c3, c4, c5, c6⟩, g0, g1, g2, g3, g4, g5, g6⟩ := seven_cells HZ1.out.res
      refine hK9 _ _ ?_
      clear hK9 K9
      refine wpAny_ready (rs := [0]) (by kernel_rfl) (by simp) ?_
      refine AllReady.cons rfl (fun K9 hK9 => ?_) ?_
      ·
       go_simp
       refine hK9 _ _ ?_
       clear hK9 K9
       refine wpAny_ready (rs := [3]) (by kernel_rfl) (by simp) ?_
       refine AllReady.cons rfl (fun K9 hK9 => ?_) ?_
       ·
        go_simp
        refine hK9 _ _ ?_
        clear hK9 K9
        refine wpAny_ready (rs := [4]) (by kernel_rfl) (by simp) ?_
        refine AllReady.cons rfl (fun K9 hK9 => ?_) ?_
        ·
         go_simp
         refine hK9 _ _ ?_
         clear hK9 K9
         refine wpAny_done (by kernel_rfl) ?_ _
         clear a0 a1 a2 a3 a4 a5 a6 e0 e1 e2 e3 e4 e5 e6 b0 b1 b2 b3 b4 b5 b6 c0 c1 c2 c3 c4 c5 c6 g0 g1 g2 g3 g4 g5 g6
         have H7 := set7 _ _ _ _ _ _ _ _ _ _ (.int .i64 (((y : Int)))) (.int .i64 (((m : Int) + 1))) (.int .i64 ((d : Int))) (.int .i64 (((h : Int)))) (.int .i64 (((mi : Int)))) (.int .i64 (((sc : Int)))) (.int .i64 0) HZ1.out.res
         obtain ⟨⟨z0, z1, z2, z3, z4, z5, z6⟩, _⟩ := seven_cells H7.1
         have HF := Lib.hid (HZ1.out.fin (G := G) (c := ⟨y, m + 1, d, h, mi, sc⟩) (z := z) HO.out H7.2)
         clear H7
         go_wp2
         refine bodyPost_ret (v := _) ?_ rfl HF.out
         rw [results_cell_tmp rfl]
         simp [go_sem, z0, z1, z2, z3, z4, z5, z6]
        exact AllReady.nil
       exact AllReady.nil
      exact AllReady.nil
     exact AllReady.nil
    exact AllReady.nil
  ·
   have h10' : (d : Int) < 10 := by omega
   have HO := Lib.hid (show oo = none by rw [HT9.out, if_neg h10])
   go_wp2_with fail
   refine Calls.mono (by rw [decide_eq_false (show ¬ (10 : Int) ≤ (d : Int) by omega)]; exact need_no G B _ HE0.out.form HE0.out.formI) ?_
   rintro e wn ⟨rfl, rfl⟩
   exact ⟨rfl, .bad HD0.out.gr HO.out⟩
open Go.RowKit
open Pl (Bs digB)
theorem dshort_lt {l : Bs} {n : Nat} {r : Bs} (h : dshortA l = some (n, r)) : n ≤ 99 := by
 unfold dshortA at h
 split at h
 ·
  cases h
 ·
  rename_i a b h1
  have ha := dnumA_lt 1 0 0 l _ (by decide) h1
  split at h
  ·
   cases h2 : dnumA 1 0 b with
   | none => rw [h2] at h; cases h
   | some q =>
    have hb := dnumA_lt 1 0 0 b _ (by decide) h2
    rw [h2] at h
    simp only [Option.map_some, Option.some.injEq, Prod.mk.injEq] at h
    simp at ha hb
    omega
  ·
   simp only [Option.some.injEq, Prod.mk.injEq] at h
   simp at ha
   omega
theorem dnum4_lt {l : Bs} {n : Nat} {r : Bs} (h : dnumA 4 0 l = some (n, r)) : n ≤ 9999 := by have := dnumA_lt 4 0 0 l _ (by decide) h; simp at this; omega
theorem dnum1_lt {l : Bs} {n : Nat} {r : Bs} (h : dnumA 1 0 l = some (n, r)) : n ≤ 9 := by have := dnumA_lt 1 0 0 l _ (by decide) h; simp at this; omega
theorem dname_lt {f i : Nat} {N l : Bs} {n : Nat} {r : Bs} (h : dnameA N f i l = some (n, r)) : n < i + f := (dnameA_len N f i l _ h).2
theorem dayRule_small : RuleSmall dayRule := by
 intro s c z r h
 unfold dayRule at h
 simp only [Option.bind_eq_some_iff] at h
 obtain ⟨p, h1, l2, h2, q, h3, l4, h4, y, h5, h6⟩ := h
 have a1 := dshort_lt (n := p.1) (r := p.2) h1
 have a3 := dname_lt (n := q.1) (r := q.2) h3
 have a5 := dnum4_lt (n := y.1) (r := y.2) h5
 simp only [Option.some.injEq, Prod.mk.injEq] at h6
 obtain ⟨⟨rfl, rfl⟩, rfl⟩ := h6
 exact ⟨⟨a5, by dsimp only; omega, by dsimp only; omega, a1, by dsimp only; omega, by dsimp only; omega, by dsimp only; omega⟩, by omega, by omega⟩
theorem zoneTail_le {sg : Int} (hsg : sg = 1 ∨ sg = -1) {l : Bs} {z : Int} {r : Bs} (h : zoneTail sg l = some (z, r)) : -1000000 ≤ z ∧ z ≤ 1000000 := by
 unfold zoneTail at h
 simp only [Option.bind_eq_some_iff] at h
 obtain ⟨p, h1, q, h2, h3⟩ := h
 split at h3
 ·
  rename_i hb
  simp only [Option.some.injEq, Prod.mk.injEq] at h3
  rw [← h3.1]
  rcases hsg with rfl | rfl <;> omega
 ·
  cases h3
theorem dzone_le {l : Bs} {z : Int} {r : Bs} (h : dzoneA l = some (z, r)) : -1000000 ≤ z ∧ z ≤ 1000000 := by
 unfold dzoneA at h
 split at h
 ·
  exact zoneTail_le (.inl rfl) h
 ·
  simp only [Option.bind_eq_some_iff] at h
  obtain ⟨q, _, h⟩ := h
  exact zoneTail_le (.inr rfl) h
theorem intTail_small {d : Nat} (hd : d ≤ 99) {l : Bs} {c : CivP} {z : Int} {r : Bs} (h : intTail d l = some ((c, z), r)) : CivSmall c ∧ -1000000 ≤ z ∧ z ≤ 1000000 := by
 unfold intTail at h
 simp only [Option.bind_eq_some_iff] at h
 obtain ⟨l1, h1, m, h2, l3, h3, y, h4, l5, h5, hh, h6, l7, h7, mi, h8, l9, h9, sc, h10, l11, h11, zz, h12, h13⟩ := h
 have a2 := dname_lt (n := m.1) (r := m.2) h2
 have a4 := dnum4_lt (n := y.1) (r := y.2) h4
 have a6 := dnum2_lt (n := hh.1) (r := hh.2) h6
 have a8 := dnum2_lt (n := mi.1) (r := mi.2) h8
 have a10 := dnum2_lt (n := sc.1) (r := sc.2) h10
 have a12 := dzone_le (z := zz.1) (r := zz.2) h12
 simp only [Option.some.injEq, Prod.mk.injEq] at h13
 obtain ⟨⟨rfl, rfl⟩, rfl⟩ := h13
 exact ⟨⟨a4, by dsimp only; omega, by dsimp only; omega, hd, a6, a8, a10⟩, a12.1, a12.2⟩
theorem intRule_small : RuleSmall intRule := by
 intro s c z r h
 unfold intRule at h
 split at h
 ·
  simp only [Option.bind_eq_some_iff] at h
  obtain ⟨p, h1, h2⟩ := h
  have := dnum1_lt (n := p.1) (r := p.2) h1
  exact intTail_small (by omega) h2
 ·
  simp only [Option.bind_eq_some_iff] at h
  obtain ⟨p, h1, h2⟩ := h
  split at h2
  ·
   exact intTail_small (dnum2_lt (n := p.1) (r := p.2) h1) h2
  ·
   cases h2
def dayB (s : Bs) : Option Int := readB (dayRule s)
def intB (s : Bs) : Option Int := readB (intRule s)
theorem EnvI.new {G : Glob} {w : World} {B : Nat} (h : EnvI G w B) : 20 ≤ w.heap.size ∧ ∀ W, Below w.heap.size w W → w.heap.size + 1 + 1 < W.heap.size → EnvI G W (w.heap.size + 1 + 1) := by
 have ho := h.old
 have hl := h.lt
 have key : ∀ {W : World}, Below w.heap.size w W → ∀ i : Nat, i < 20 → W.heap[i]? = w.heap[i]? := fun hB i hi => hB.block i (by omega)
 exact ⟨by omega, fun W hB hlt => ⟨(World.cell?_of_block (key hB _ (by decide))).trans h.form, (World.cell?_of_block (key hB _ (by decide))).trans h.range, (World.cell?_of_block (key hB _ (by decide))).trans h.max, by omega, hlt, h.formI, h.rangeI⟩⟩
theorem parseDay_walk (G : Glob) (B : Nat) (s : Bs) (hs : s.length ≤ 1000000) (w : World) (hE : EnvI G w B) :
  Calls Tryz.prog 152 #[.string (str s)] w (ReadPost w (dayB s)) := by
 have K := Lib.hid (read_walk G 167 dayRule (fun args W => enter_fn Tryz.func167 (by kernel_rfl) rfl args W) (fun B s w hE hS => dayRule_walk G B s w hE hS) dayRule_small s hs w hE.new.1 hE.new.2)
 have HD := Lib.hid (show dayB s = readB (dayRule s) from rfl)
 generalize readB (dayRule s) = o at *
 clear hE
 go_enter Tryz.func152, Tryz.ntmps152
 go_wp2_with fail
 refine K.out.mono ?_
 rintro e w1 ⟨hB, hP⟩
 have HB := Lib.hid hB
 clear hB
 cases o with
 | none =>
  obtain ⟨t, x, rfl⟩ := hP
  go_wp2
  go_ret2
  exact ⟨HB.out, by rw [HD.out]; exact ⟨t, x, rfl⟩⟩
 | some n =>
  subst hP
  go_wp2
  go_ret2
  exact ⟨HB.out, by rw [HD.out]; rfl⟩
theorem parseInt_walk (G : Glob) (B : Nat) (s : Bs) (hs : s.length ≤ 1000000) (w : World) (hE : EnvI G w B) :
  Calls Tryz.prog 101 #[.string (str s)] w (ReadPost w (intB s)) := by
 have K := Lib.hid (read_walk G 123 intRule (fun args W => enter_fn Tryz.func123 (by kernel_rfl) rfl args W) (fun B s w hE hS => intRule_walk G B s w hE hS) intRule_small s hs w hE.new.1 hE.new.2)
 have HD := Lib.hid (show intB s = readB (intRule s) from rfl)
 generalize readB (intRule s) = o at *
 clear hE
 go_enter Tryz.func101, Tryz.ntmps101
 go_wp2_with fail
 refine K.out.mono ?_
 rintro e w1 ⟨hB, hP⟩
 have HB := Lib.hid hB
 clear hB
 cases o with
 | none =>
  obtain ⟨t, x, rfl⟩ := hP
  go_wp2
  go_ret2
  exact ⟨HB.out, by rw [HD.out]; exact ⟨t, x, rfl⟩⟩
 | some n =>
  subst hP
  go_wp2
  go_ret2
  exact ⟨HB.out, by rw [HD.out]; rfl⟩
open Go.RowKit
open Pl (Bs idxB numOk numN setOk setL)
def dayR (s : Bs) : Option (Int × Bs) :=
 match isB [32] s with
 | none => none
 | some s1 => match isB [34] s1 with
  | some s2 => (quotedB s2).bind fun p => (dayB p.1).map fun t => (t, p.2)
  | none => (wordB [] s1).bind fun p => (dayB p.1).map fun t => (t, p.2)
theorem TextPost.split {w w1 : World} {B k : Nat} {o : Option (Bs × Bs)} {e : Ending} (h : TextPost w B k o e w1) : (o = none ∧ e = .panicked [wrongE] ∧ w.grownBy w1 (some B)) ∨ ∃ x r, o = some (x, r) ∧ e = .returned (.string (str x)) ∧ w.grownBy w1 (some B) ∧ Scn w1 B r k := by
 obtain ⟨hG, h⟩ := h
 cases o with
 | none => exact .inl ⟨rfl, h, hG⟩
 | some p => exact .inr ⟨p.1, p.2, rfl, h.1, hG, h.2⟩
theorem ReadPost.split {w w1 : World} {o : Option Int} {e : Ending} (h : ReadPost w o e w1) : (o = none ∧ (∃ t x, e = .returned (.tuple #[.int .i64 0, .iface t x])) ∧ Below w.heap.size w w1) ∨ ∃ n, o = some n ∧ e = .returned (.tuple #[.int .i64 n, .nilIface]) ∧ Below w.heap.size w w1 := by
 obtain ⟨hG, h⟩ := h
 cases o with
 | none => exact .inl ⟨rfl, h, hG⟩
 | some p => exact .inr ⟨p, rfl, h, hG⟩
theorem quotedB_le {l w r : Bs} (h : quotedB l = some (w, r)) : w.length ≤ l.length := by have := quotedB_len l w r h; omega
theorem day_walk (G : Glob) (B k : Nat) (s : Bs) (w : World) (hE : EnvI G w B) (h : Scn w B s k) :
  Calls Tryz.prog 134 #[scP B] w (IntPost w B k (dayR s)) := by
 have HE := Lib.hid hE
 have hsm := h.small
 have hT : dayR s = match isB [32] s with
  | none => none
  | some s1 => match isB [34] s1 with
   | some s2 => (quotedB s2).bind fun p => (dayB p.1).map fun t => (t, p.2)
   | none => (wordB [] s1).bind fun p => (dayB p.1).map fun t => (t, p.2) := rfl
 generalize dayR s = oo at *
 cases h1 : isB [32] s with
 | none =>
  rw [h1] at hT
  have HO := Lib.hid hT
  have K1 := Lib.hid (blank_no B s k h1 w h)
  clear hE h hT h1
  go_enter Tryz.func134, Tryz.ntmps134
  go_wp2_with fail
  refine K1.out.mono ?_
  rintro e w1 ⟨rfl, hG⟩
  exact ⟨rfl, .bad hG HO.out⟩
 | some s1 =>
  rw [h1] at hT
  dsimp only at hT
  have hl1 := isB_len h1
  have K1 := Lib.hid (blank_ok B s s1 k h1 w h)
  have KP := Lib.hid (fun (x : Bs) (hx : x.length ≤ 1000000) W hW => parseDay_walk G B x hx W hW)
  cases h2 : isB [34] s1 with
  | some s2 =>
   rw [h2] at hT
   dsimp only at hT
   have hl2 := isB_len h2
   have HT := Lib.hid hT
   have K2 : Hid (∀ W, Scn W B s1 k → Calls Tryz.prog 68 #[scP B, .string ⟨#[34]⟩] W _) := Lib.hid (fun W hW => is_ok B s1 [34] s2 k h2 W hW)
   have K3 := Lib.hid (fun W hW => quoted_walk B k s2 W hW)
   clear hE h hT h1 h2
   go_enter Tryz.func134, Tryz.ntmps134
   go_wp2_with fail
   refine K1.out.mono ?_
   rintro e w1 ⟨rfl, hS1, hG1⟩
   have HS1 := Lib.hid hS1
   have HG1 := Lib.hid hG1
   clear hS1 hG1
   go_wp2_with fail
   refine (K2.out _ HS1.out).mono ?_
   rintro e w2 ⟨rfl, hS2, hG2⟩
   have HS2 := Lib.hid hS2
   have HG2 := Lib.hid (HG1.out.trans hG2)
   clear hS2 hG2
   go_wp2_with fail
   refine (K3.out _ HS2.out).mono ?_
   rintro e w3 hP
   rcases hP.split with ⟨ho, rfl, hG3⟩ | ⟨x, r, ho, rfl, hG3, hS3⟩
   ·
    exact ⟨rfl, .bad (HG2.out.trans hG3) (by rw [HT.out, ho]; rfl)⟩
   have hxl := quotedB_le ho
   have HT3 := Lib.hid (show oo = (dayB x).map fun t => (t, r) by rw [HT.out, ho]; rfl)
   have HS3 := Lib.hid hS3
   have HG3 := Lib.hid (HG2.out.trans hG3)
   have HE3 := Lib.hid (HE.out.kept HG3.out)
   clear hS3 hG3 hP ho
   have hx6 : x.length ≤ 1000000 := by simp only [List.length_singleton] at *; omega
   go_wp2_with fail
   refine (KP.out x hx6 _ HE3.out).mono ?_
   rintro e w4 hP
   rcases hP.split with ⟨ho, ⟨t9, x9, rfl⟩, hB4⟩ | ⟨n, ho, rfl, hB4⟩
   ·
    have HO := Lib.hid (show oo = none by rw [HT3.out, ho]; rfl)
    have HG4 := Lib.hid (grown_then HG3.out hB4)
    clear hB4 hP ho
    go_wp2_with fail
    refine (must_no B _).mono ?_
    rintro e w' ⟨rfl, rfl⟩
    exact ⟨rfl, .bad HG4.out HO.out⟩
   ·
    have HO := Lib.hid (show oo = some (n, r) by rw [HT3.out, ho]; rfl)
    have HG4 := Lib.hid (grown_then HG3.out hB4)
    have HS4 := Lib.hid (HS3.out.then hB4)
    clear hB4 hP ho
    go_wp2_with fail
    refine (must_walk B _).mono ?_
    rintro e w' ⟨rfl, rfl⟩
    go_wp2
    go_ret
    exact .fin HG4.out HO.out HS4.out
  | none =>
   rw [h2] at hT
   dsimp only at hT
   have HT := Lib.hid hT
   have K2 : Hid (∀ W, Scn W B s1 k → Calls Tryz.prog 68 #[scP B, .string ⟨#[34]⟩] W _) := Lib.hid (fun W hW => is_not B s1 [34] k h2 W hW)
   have K3 : Hid (∀ W, Scn W B s1 k → Calls Tryz.prog 26 #[scP B, .string ⟨#[]⟩] W _) := Lib.hid (fun W hW => word_walk B k [] s1 W hW)
   clear hE h hT h1 h2
   go_enter Tryz.func134, Tryz.ntmps134
   go_wp2_with fail
   refine K1.out.mono ?_
   rintro e w1 ⟨rfl, hS1, hG1⟩
   have HS1 := Lib.hid hS1
   have HG1 := Lib.hid hG1
   clear hS1 hG1
   go_wp2_with fail
   refine (K2.out _ HS1.out).mono ?_
   rintro e w2 ⟨rfl, hS2, hG2⟩
   have HS2 := Lib.hid hS2
   have HG2 := Lib.hid (HG1.out.trans hG2)
   clear hS2 hG2
   go_wp2_with fail
   refine (K3.out _ HS2.out).mono ?_
   rintro e w3 hP
   rcases hP.split with ⟨ho, rfl, hG3⟩ | ⟨x, r, ho, rfl, hG3, hS3⟩
   ·
    exact ⟨rfl, .bad (HG2.out.trans hG3) (by rw [HT.out, ho]; rfl)⟩
   have hxl := wordB_len ho
   have HT3 := Lib.hid (show oo = (dayB x).map fun t => (t, r) by rw [HT.out, ho]; rfl)
   have HS3 := Lib.hid hS3
   have HG3 := Lib.hid (HG2.out.trans hG3)
   have HE3 := Lib.hid (HE.out.kept HG3.out)
   clear hS3 hG3 hP ho
   have hx6 : x.length ≤ 1000000 := by simp only [List.length_singleton] at *; omega
   go_wp2_with fail
   refine (KP.out x hx6 _ HE3.out).mono ?_
   rintro e w4 hP
   rcases hP.split with ⟨ho, ⟨t9, x9, rfl⟩, hB4⟩ | ⟨n, ho, rfl, hB4⟩
   ·
    have HO := Lib.hid (show oo = none by rw [HT3.out, ho]; rfl)
    have HG4 := Lib.hid (grown_then HG3.out hB4)
    clear hB4 hP ho
    go_wp2_with fail
    refine (must_no B _).mono ?_
    rintro e w' ⟨rfl, rfl⟩
    exact ⟨rfl, .bad HG4.out HO.out⟩
   ·
    have HO := Lib.hid (show oo = some (n, r) by rw [HT3.out, ho]; rfl)
    have HG4 := Lib.hid (grown_then HG3.out hB4)
    have HS4 := Lib.hid (HS3.out.then hB4)
    clear hB4 hP ho
    go_wp2_with fail
    refine (must_walk B _).mono ?_
    rintro e w' ⟨rfl, rfl⟩
    go_wp2
    go_ret
    exact .fin HG4.out HO.out HS4.out
theorem IntPost.split {w w1 : World} {B k : Nat} {o : Option (Int × Bs)} {e : Ending} (h : IntPost w B k o e w1) : (o = none ∧ e = .panicked [wrongE] ∧ w.grownBy w1 (some B)) ∨ ∃ n r, o = some (n, r) ∧ e = .returned (.int .i64 n) ∧ w.grownBy w1 (some B) ∧ Scn w1 B r k := by
 obtain ⟨hG, h⟩ := h
 cases o with
 | none => exact .inl ⟨rfl, h, hG⟩
 | some p => exact .inr ⟨p.1, p.2, rfl, h.1, hG, h.2⟩
theorem KySt.setI {w : World} {B h k : Nat} {s : Bs} {cs cs' : Array Value} {W : World} (st : KySt w B h s k (Obj.cells cs 51) W) (i : Nat) (v : Value) (hc : cs.setIfInBounds i v = cs') : KySt w B h s k (Obj.cells cs' 51) (W.setCell ⟨h, i, none⟩ v) := by
 have hl := st.hlt
 have ho := st.pre.old
 exact ⟨⟨grown_new st.pre.gr (grown_put W h i v) (fun k e => .inl (by have := Option.some.inj e; omega)), st.pre.sc.kept (grown_put W h i v) (fun e => by have := Option.some.inj e; omega), (Below.heap_setCell _ _ _ _ (by dsimp only; omega)).trans st.pre.box, (Below.heap_setCell _ _ _ _ (by dsimp only; omega)).trans st.pre.res, ho⟩, (setCell_heap_same st.xb).trans (by rw [hc]), hl⟩
end Go.Proofs.YtgmfhldfdnnafaaGreatDoor
