/- A part of the proofs of the statements on chapter 21: walks of functions that they reach, and plain laws. What is proved is stated in the last text. Conditions: none of its own. -/
import Derived.Test.YtgmfhldfdnnafaaGreatDoorMs14
import Derived.Laws.ResultCell
import Derived.Deep.QuietTactic
import Derived.BigQuiet
import Derived.Stop.Asserts
import Derived.RegionTactic
import Derived.ChangeAlike
set_option maxHeartbeats 8000000
set_option maxRecDepth 100000
set_option linter.unusedSimpArgs false
set_option linter.unusedVariables false
namespace Go.Proofs.YtgmfhldfdnnafaaGreatDoor
open Go.RowKit
open Pl (Bs digB)
def zoneTail (sg : Int) (l : Bs) : Option (Int × Bs) :=
 (dnumA 2 0 l).bind fun p => (dnumA 2 0 p.2).bind fun q => if p.1 < 24 ∧ q.1 < 60 then some (sg * ((p.1 : Int) * 3600 + (q.1 : Int) * 60), q.2) else none
def dzoneA (l : Bs) : Option (Int × Bs) :=
 match isB [43] l with
 | some r => zoneTail 1 r
 | none => (isB [45] l).bind fun r => zoneTail (-1) r
theorem DIPost.split {G : Glob} {w w1 : World} {B : Nat} {o : Option (Nat × Bs)} {e : Ending} (h : DIPost G w B (castN o) e w1) : (o = none ∧ e = .panicked [badE G] ∧ w.grownBy w1 (some B)) ∨ ∃ n r, o = some (n, r) ∧ e = .returned (.int .i64 (n : Int)) ∧ w.grownBy w1 (some B) ∧ DScn w1 B r := by
 obtain ⟨hG, h⟩ := h
 cases o with
 | none => exact .inl ⟨rfl, h, hG⟩
 | some p => exact .inr ⟨p.1, p.2, rfl, h.1, hG, h.2⟩
theorem DUPost.split {G : Glob} {w w1 : World} {B : Nat} {o : Option Bs} {e : Ending} (h : DUPost G w B o e w1) : (o = none ∧ e = .panicked [badE G] ∧ w.grownBy w1 (some B)) ∨ ∃ r, o = some r ∧ e = .returned (.tuple #[]) ∧ w.grownBy w1 (some B) ∧ DScn w1 B r := by
 obtain ⟨hG, h⟩ := h
 cases o with
 | none => exact .inl ⟨rfl, h, hG⟩
 | some p => exact .inr ⟨p, rfl, h.1, hG, h.2⟩
theorem dnum2_lt {l : Bs} {n : Nat} {r : Bs} (h : dnumA 2 0 l = some (n, r)) : n ≤ 99 := by have := dnumA_lt 2 0 0 l _ (by decide) h; simp at this; omega
theorem dzone_walk (G : Glob) (B : Nat) (s : Bs) (w : World) (hE : EnvI G w B) (h : DScn w B s) :
  Calls Tryz.prog 129 #[dsP B] w (DIPost G w B (dzoneA s)) := by
 have HE := Lib.hid hE
 have KN := Lib.hid (fun W r hE hS => dnumber_walk G B 2 (by decide) r W hE hS)
 have hT : dzoneA s = match isB [43] s with
  | some r => zoneTail 1 r
  | none => (isB [45] s).bind fun r => zoneTail (-1) r := rfl
 cases h1 : isB [43] s with
 | some r =>
  have K1 : Hid (Calls Tryz.prog 124 #[dsP B, .string ⟨#[43]⟩] w _) := Lib.hid (dis_ok B s [43] r h1 w h)
  rw [h1] at hT
  have HT := Lib.hid hT
  clear hE h hT h1
  go_enter Tryz.func129, Tryz.ntmps129
  go_wp2_with fail
  refine K1.out.mono ?_
  rintro e w1 ⟨rfl, hS1, hG1⟩
  have HS1 := Lib.hid hS1
  have HG1 := Lib.hid hG1
  have HE1 := Lib.hid (HE.out.kept hG1)
  clear hS1 hG1
  go_wp2_with fail
  refine (KN.out _ _ HE1.out HS1.out).mono ?_
  rintro e w2 hP2
  rcases hP2.split with ⟨ho, rfl, hG2⟩ | ⟨n, r2, ho, rfl, hG2, hS2⟩
  ·
   exact ⟨rfl, .bad (HG1.out.trans hG2) (by rw [HT.out, zoneTail, ho]; rfl)⟩
  ·
   have HO2 := Lib.hid ho
   have hn := dnum2_lt ho
   have HG2 := Lib.hid (HG1.out.trans hG2)
   have HS2 := Lib.hid hS2
   have HE2 := Lib.hid (HE.out.kept HG2.out)
   clear hS2 hG2 ho hP2
   go_wp2_with fail
   refine (KN.out _ _ HE2.out HS2.out).mono ?_
   rintro e w3 hP3
   rcases hP3.split with ⟨ho, rfl, hG3⟩ | ⟨m, r3, ho, rfl, hG3, hS3⟩
   ·
    exact ⟨rfl, .bad (HG2.out.trans hG3) (by rw [HT.out, zoneTail, HO2.out]; simp only [Option.bind_some]; rw [ho]; rfl)⟩
   ·
    have HO3 := Lib.hid ho
    have hm := dnum2_lt ho
    have HG3 := Lib.hid (HG2.out.trans hG3)
    have HS3 := Lib.hid hS3
    have HE3 := Lib.hid (HE.out.kept HG3.out)
    clear hS3 hG3 ho hP3
    have HF := Lib.hid (show dzoneA s = if n < 24 ∧ m < 60 then some (1 * ((n : Int) * 3600 + (m : Int) * 60), r3) else none by rw [HT.out, zoneTail, HO2.out]; simp only [Option.bind_some]; rw [HO3.out]; rfl)
    by_cases hn24 : n < 24
    ·
     by_cases hm60 : m < 60
     ·
      have HV := Lib.hid (show dzoneA s = some ((n : Int) * 3600 + (m : Int) * 60, r3) by rw [HF.out, if_pos ⟨hn24, hm60⟩, Int.one_mul])
      go_wp2_with fail
      refine Calls.mono (by rw [decide_eq_true (show (m : Int) < 60 by omega)]; exact need_yes B _) ?_
      rintro e w4 ⟨rfl, rfl⟩
      go_wp2
      go_ret
      exact .fin HG3.out HV.out HS3.out
     ·
      have HV := Lib.hid (show dzoneA s = none by rw [HF.out, if_neg (fun x => hm60 x.2)])
      go_wp2_with fail
      refine Calls.mono (by rw [decide_eq_false (show ¬ (m : Int) < 60 by omega)]; exact need_no G B _ HE3.out.form HE3.out.formI) ?_
      rintro e w4 ⟨rfl, rfl⟩
      exact ⟨rfl, .bad HG3.out HV.out⟩
    ·
     have HV := Lib.hid (show dzoneA s = none by rw [HF.out, if_neg (fun x => hn24 x.1)])
     go_wp2_with fail
     refine (need_no G B _ HE3.out.form HE3.out.formI).mono ?_
     rintro e w4 ⟨rfl, rfl⟩
     exact ⟨rfl, .bad HG3.out HV.out⟩
 | none =>
  have K1 : Hid (Calls Tryz.prog 124 #[dsP B, .string ⟨#[43]⟩] w _) := Lib.hid (dis_not B s [43] h1 w h)
  have KM : Hid (∀ W, EnvI G W B → DScn W B s → Calls Tryz.prog 127 #[dsP B, .string ⟨#[45]⟩] W _) := Lib.hid (fun W hE hS => dmust_walk G B s [45] W hE hS)
  rw [h1] at hT
  have HT := Lib.hid hT
  clear hE h hT h1
  go_enter Tryz.func129, Tryz.ntmps129
  go_wp2_with fail
  refine K1.out.mono ?_
  rintro e w1 ⟨rfl, hS1, hG1⟩
  have HS1 := Lib.hid hS1
  have HG1 := Lib.hid hG1
  have HE1 := Lib.hid (HE.out.kept hG1)
  clear hS1 hG1
  go_wp2_with fail
  refine (KM.out _ HE1.out HS1.out).mono ?_
  rintro e wm hPm
  rcases hPm.split with ⟨ho, rfl, hG2⟩ | ⟨r, ho, rfl, hG2, hS2⟩
  ·
   exact ⟨rfl, .bad (HG1.out.trans hG2) (by rw [HT.out, ho]; rfl)⟩
  have HOm := Lib.hid ho
  have HGm := Lib.hid (HG1.out.trans hG2)
  have HSm := Lib.hid hS2
  have HEm := Lib.hid (HE.out.kept HGm.out)
  clear hS2 hG2 ho hPm
  go_wp2_with fail
  refine (KN.out _ _ HEm.out HSm.out).mono ?_
  rintro e w2 hP2
  rcases hP2.split with ⟨ho, rfl, hG2⟩ | ⟨n, r2, ho, rfl, hG2, hS2⟩
  ·
   exact ⟨rfl, .bad (HGm.out.trans hG2) (by rw [HT.out, HOm.out]; simp only [Option.bind_some, zoneTail]; rw [ho]; rfl)⟩
  ·
   have HO2 := Lib.hid ho
   have hn := dnum2_lt ho
   have HG2 := Lib.hid (HGm.out.trans hG2)
   have HS2 := Lib.hid hS2
   have HE2 := Lib.hid (HE.out.kept HG2.out)
   clear hS2 hG2 ho hP2
   go_wp2_with fail
   refine (KN.out _ _ HE2.out HS2.out).mono ?_
   rintro e w3 hP3
   rcases hP3.split with ⟨ho, rfl, hG3⟩ | ⟨m, r3, ho, rfl, hG3, hS3⟩
   ·
    exact ⟨rfl, .bad (HG2.out.trans hG3) (by rw [HT.out, HOm.out]; simp only [Option.bind_some, zoneTail]; rw [HO2.out]; simp only [Option.bind_some]; rw [ho]; rfl)⟩
   ·
    have HO3 := Lib.hid ho
    have hm := dnum2_lt ho
    have HG3 := Lib.hid (HG2.out.trans hG3)
    have HS3 := Lib.hid hS3
    have HE3 := Lib.hid (HE.out.kept HG3.out)
    clear hS3 hG3 ho hP3
    have HF := Lib.hid (show dzoneA s = if n < 24 ∧ m < 60 then some (-1 * ((n : Int) * 3600 + (m : Int) * 60), r3) else none by rw [HT.out, HOm.out]; simp only [Option.bind_some, zoneTail]; rw [HO2.out]; simp only [Option.bind_some]; rw [HO3.out]; rfl)
    by_cases hn24 : n < 24
    ·
     by_cases hm60 : m < 60
     ·
      have HV := Lib.hid (show dzoneA s = some (-1 * ((n : Int) * 3600 + (m : Int) * 60), r3) by rw [HF.out, if_pos ⟨hn24, hm60⟩])
      go_wp2_with fail
      refine Calls.mono (by rw [decide_eq_true (show (m : Int) < 60 by omega)]; exact need_yes B _) ?_
      rintro e w4 ⟨rfl, rfl⟩
      go_wp2
      go_ret
      exact .fin HG3.out (HV.out.trans (by congr 2; omega)) HS3.out
     ·
      have HV := Lib.hid (show dzoneA s = none by rw [HF.out, if_neg (fun x => hm60 x.2)])
      go_wp2_with fail
      refine Calls.mono (by rw [decide_eq_false (show ¬ (m : Int) < 60 by omega)]; exact need_no G B _ HE3.out.form HE3.out.formI) ?_
      rintro e w4 ⟨rfl, rfl⟩
      exact ⟨rfl, .bad HG3.out HV.out⟩
    ·
     have HV := Lib.hid (show dzoneA s = none by rw [HF.out, if_neg (fun x => hn24 x.1)])
     go_wp2_with fail
     refine (need_no G B _ HE3.out.form HE3.out.formI).mono ?_
     rintro e w4 ⟨rfl, rfl⟩
     exact ⟨rfl, .bad HG3.out HV.out⟩
open Go.RowKit
open Pl (Bs digB)
structure CivP where
 y : Nat
 m : Nat
 d : Nat
 h : Nat
 mi : Nat
 s : Nat
def monthsN : Bs := [74, 97, 110, 70, 101, 98, 77, 97, 114, 65, 112, 114, 77, 97, 121, 74, 117, 110, 74, 117, 108, 65, 117, 103, 83, 101, 112, 79, 99, 116, 78, 111, 118, 68, 101, 99]
def dayRule (l : Bs) : Option ((CivP × Int) × Bs) :=
 (dshortA l).bind fun p => (isB [45] p.2).bind fun l2 => (dnameA monthsN 12 0 l2).bind fun q => (isB [45] q.2).bind fun l4 => (dnumA 4 0 l4).bind fun y => some ((⟨y.1, q.1 + 1, p.1, 0, 0, 0⟩, 0), y.2)
abbrev civV (y m d h mi s : Int) : Array Value := #[.int .i64 y, .int .i64 m, .int .i64 d, .int .i64 h, .int .i64 mi, .int .i64 s, .int .i64 0]
abbrev civO (y m d h mi s : Int) : Obj := Obj.cells (civV y m d h mi s) 121
theorem seven_cells {w : World} {b : Nat} {t : TypeId} {a0 a1 a2 a3 a4 a5 a6 : Value} (h : w.heap[b]? = some (Obj.cells #[a0, a1, a2, a3, a4, a5, a6] t)) : (w.cell? ⟨b, 0, none⟩ = some a0 ∧ w.cell? ⟨b, 1, none⟩ = some a1 ∧ w.cell? ⟨b, 2, none⟩ = some a2 ∧ w.cell? ⟨b, 3, none⟩ = some a3 ∧ w.cell? ⟨b, 4, none⟩ = some a4 ∧ w.cell? ⟨b, 5, none⟩ = some a5 ∧ w.cell? ⟨b, 6, none⟩ = some a6) ∧ (w.frozen? ⟨b, 0, none⟩ = false ∧ w.frozen? ⟨b, 1, none⟩ = false ∧ w.frozen? ⟨b, 2, none⟩ = false ∧ w.frozen? ⟨b, 3, none⟩ = false ∧ w.frozen? ⟨b, 4, none⟩ = false ∧ w.frozen? ⟨b, 5, none⟩ = false ∧ w.frozen? ⟨b, 6, none⟩ = false) := by
 refine ⟨⟨?_, ?_, ?_, ?_, ?_, ?_, ?_⟩, ⟨?_, ?_, ?_, ?_, ?_, ?_, ?_⟩⟩ <;> simp [World.cell?, World.frozen?, h]
structure DrSt (w : World) (B b : Nat) (s : Bs) (y m d h mi sc : Int) (W : World) : Prop where
 gr : w.grownBy W (some B)
 scn : DScn W B s
 res : W.heap[w.heap.size]? = some (civO 0 0 0 0 0 0)
 box : W.heap[b]? = some (civO y m d h mi sc)
 ne : w.heap.size < b
 old : B < w.heap.size
theorem DrSt.step {w : World} {B b : Nat} {s s1 : Bs} {y m d h mi sc : Int} {W W1 : World} (st : DrSt w B b s y m d h mi sc W) (hG : W.grownBy W1 (some B)) (hS : DScn W1 B s1) : DrSt w B b s1 y m d h mi sc W1 := by
 have ho := st.old
 have hn := st.ne
 exact ⟨st.gr.trans hG, hS, (hG.block _ (Array.getElem?_eq_some_iff.1 st.res).1 (fun e => by have := Option.some.inj e; omega)).trans st.res, (hG.block _ (Array.getElem?_eq_some_iff.1 st.box).1 (fun e => by have := Option.some.inj e; omega)).trans st.box, hn, ho⟩
theorem DrSt.set {w : World} {B b : Nat} {s : Bs} {y m d h mi sc y' m' d' h' mi' sc' : Int} {W : World} (st : DrSt w B b s y m d h mi sc W) (i : Nat) (v : Int) (hc : (civV y m d h mi sc).setIfInBounds i (.int .i64 v) = civV y' m' d' h' mi' sc') : DrSt w B b s y' m' d' h' mi' sc' (W.setCell ⟨b, i, none⟩ (.int .i64 v)) := by
 have ho := st.old
 have hn := st.ne
 refine ⟨grown_new st.gr (grown_put W b i (.int .i64 v)) (fun k e => .inl (by have := Option.some.inj e; omega)), st.scn.kept (grown_put W b i (.int .i64 v)) (fun e => by have := Option.some.inj e; omega), (Below.heap_setCell _ _ _ _ (by dsimp only; omega)).trans st.res, ?_, hn, ho⟩
 exact (setCell_heap_same st.box).trans (by rw [hc])
theorem DrSt.start {w W : World} {B : Nat} {s : Bs} {y m d h mi sc : Int} (hG : w.grownBy W (some B)) (hS : DScn W B s) (hr : W.heap[w.heap.size]? = some (civO 0 0 0 0 0 0)) (ho : B < w.heap.size) : DrSt w B W.heap.size s y m d h mi sc (W.alloc (civO y m d h mi sc)) :=
 ⟨hG.trans (World.grownBy_alloc W _ _), hS.then ((Below.refl _ _).alloc (Nat.le_refl _) _), (Below.heap_alloc _ _ _ (Array.getElem?_eq_some_iff.1 hr).1).trans hr, World.alloc_heap_new _ _, (Array.getElem?_eq_some_iff.1 hr).1, ho⟩
def RulePost (G : Glob) (w : World) (B : Nat) (o : Option ((CivP × Int) × Bs)) (e : Ending) (w' : World) : Prop :=
 w.grownBy w' (some B) ∧ match o with
  | none => e = .panicked [badE G]
  | some p => e = .returned (.tuple #[.agg (civV p.1.1.y p.1.1.m p.1.1.d p.1.1.h p.1.1.mi p.1.1.s), .int .i64 p.1.2]) ∧ DScn w' B p.2
theorem RulePost.bad {G : Glob} {w w' : World} {B : Nat} {o : Option ((CivP × Int) × Bs)} (hG : w.grownBy w' (some B)) (ho : o = none) : RulePost G w B o (.panicked [badE G]) w' := ⟨hG, by subst ho; rfl⟩
theorem set7 (W : World) (b : Nat) (t : TypeId) (o0 o1 o2 o3 o4 o5 o6 v0 v1 v2 v3 v4 v5 v6 : Value) (h : W.heap[b]? = some (Obj.cells #[o0, o1, o2, o3, o4, o5, o6] t)) :
  (((((((W.setCell ⟨b, 0, none⟩ v0).setCell ⟨b, 1, none⟩ v1).setCell ⟨b, 2, none⟩ v2).setCell ⟨b, 3, none⟩ v3).setCell ⟨b, 4, none⟩ v4).setCell ⟨b, 5, none⟩ v5).setCell ⟨b, 6, none⟩ v6).heap[b]? = some (Obj.cells #[v0, v1, v2, v3, v4, v5, v6] t) ∧ W.grownBy (((((((W.setCell ⟨b, 0, none⟩ v0).setCell ⟨b, 1, none⟩ v1).setCell ⟨b, 2, none⟩ v2).setCell ⟨b, 3, none⟩ v3).setCell ⟨b, 4, none⟩ v4).setCell ⟨b, 5, none⟩ v5).setCell ⟨b, 6, none⟩ v6) (some b) := by
 refine ⟨?_, ?_⟩
 ·
  have h0 := setCell_heap_same (i := 0) (v := v0) h
  have h1 := setCell_heap_same (i := 1) (v := v1) h0
  have h2 := setCell_heap_same (i := 2) (v := v2) h1
  have h3 := setCell_heap_same (i := 3) (v := v3) h2
  have h4 := setCell_heap_same (i := 4) (v := v4) h3
  have h5 := setCell_heap_same (i := 5) (v := v5) h4
  have h6 := setCell_heap_same (i := 6) (v := v6) h5
  rw [h6]
  simp
 ·
  have g1 := (grown_put W b 0 v0).trans (grown_put (W.setCell ⟨b, 0, none⟩ v0) b 1 v1)
  have g2 := g1.trans (grown_put _ b 2 v2)
  have g3 := g2.trans (grown_put _ b 3 v3)
  have g4 := g3.trans (grown_put _ b 4 v4)
  have g5 := g4.trans (grown_put _ b 5 v5)
  exact g5.trans (grown_put _ b 6 v6)
theorem DrSt.fin {w : World} {B b : Nat} {s : Bs} {y m d h mi sc : Int} {W W' : World} (st : DrSt w B b s y m d h mi sc W) {G : Glob} {o : Option ((CivP × Int) × Bs)} {c : CivP} {z : Int} (ho : o = some ((c, z), s)) (hg : W.grownBy W' (some w.heap.size)) : RulePost G w B o (.returned (.tuple #[.agg (civV c.y c.m c.d c.h c.mi c.s), .int .i64 z])) W' := by
 subst ho
 have ho := st.old
 exact ⟨grown_new st.gr hg (fun k e => .inl (by have := Option.some.inj e; omega)), rfl, st.scn.kept hg (fun e => by have := Option.some.inj e; omega)⟩
theorem dayRule_walk (G : Glob) (B : Nat) (s : Bs) (w : World) (hE : EnvI G w B) (h : DScn w B s) :
  Calls Tryz.prog 167 #[dsP B] w (RulePost G w B (dayRule s)) := by
 have HE := Lib.hid hE
 have hBl := h.lt
 have K1 := Lib.hid (fun W hE hS => dshort_walk G B s W hE hS)
 have K2 : Hid (∀ W r, EnvI G W B → DScn W B r → Calls Tryz.prog 127 #[dsP B, .string ⟨#[45]⟩] W _) := Lib.hid (fun W r hE hS => dmust_walk G B r [45] W hE hS)
 have K3 : Hid (∀ W r, EnvI G W B → DScn W B r → Calls Tryz.prog 128 #[dsP B, .string ⟨#[74, 97, 110, 70, 101, 98, 77, 97, 114, 65, 112, 114, 77, 97, 121, 74, 117, 110, 74, 117, 108, 65, 117, 103, 83, 101, 112, 79, 99, 116, 78, 111, 118, 68, 101, 99]⟩] W _) := Lib.hid (fun W r hE hS => dname_walk G B 12 (by decide) monthsN rfl r W hE hS)
 have K4 : Hid (∀ W r, EnvI G W B → DScn W B r → Calls Tryz.prog 125 #[dsP B, .int .i64 4] W _) := Lib.hid (fun W r hE hS => dnumber_walk G B 4 (by decide) r W hE hS)
 have HT := Lib.hid (show dayRule s = (dshortA s).bind fun p => (isB [45] p.2).bind fun l2 => (dnameA monthsN 12 0 l2).bind fun q => (isB [45] q.2).bind fun l4 => (dnumA 4 0 l4).bind fun y => some ((⟨y.1, q.1 + 1, p.1, 0, 0, 0⟩, 0), y.2) from rfl)
 have HB0 := Lib.hid ((Below.refl w.heap.size w).alloc (Nat.le_refl _) (civO 0 0 0 0 0 0))
 have HS0 := Lib.hid (h.then HB0.out)
 have HG0 := Lib.hid (World.grownBy_alloc w (civO 0 0 0 0 0 0) (some B))
 have HR0 := Lib.hid (World.alloc_heap_new w (civO 0 0 0 0 0 0))
 have HE0 := Lib.hid (hE.kept HG0.out)
 clear hE h
 generalize hw0 : w.alloc (civO 0 0 0 0 0 0) = w0 at *
 go_enter Tryz.func167, Tryz.ntmps167
 go_wp2_with fail
 refine Calls.mono (K1.out w0 HE0.out HS0.out) ?_
 rintro e w1 hP
 rcases hP.split with ⟨ho, rfl, hG⟩ | ⟨d, r1, ho, rfl, hG, hS⟩
 ·
  exact ⟨rfl, .bad (HG0.out.trans hG) (by rw [HT.out, ho]; rfl)⟩
 have HT1 := Lib.hid (show dayRule s = (isB [45] r1).bind fun l2 => (dnameA monthsN 12 0 l2).bind fun q => (isB [45] q.2).bind fun l4 => (dnumA 4 0 l4).bind fun y => some ((⟨y.1, q.1 + 1, d, 0, 0, 0⟩, 0), y.2) by rw [HT.out, ho]; rfl)
 have HD1 := Lib.hid (DrSt.start (y := 0) (m := 0) (d := d) (h := 0) (mi := 0) (sc := 0) (HG0.out.trans hG) hS ((hG.block _ (Array.getElem?_eq_some_iff.1 HR0.out).1 (fun e => by have := Option.some.inj e; omega)).trans HR0.out) hBl)
 have HE1 := Lib.hid (HE.out.kept HD1.out.gr)
 clear hP ho hG hS
 have hne : w.heap.size < w1.heap.size := HD1.out.ne
 go_wp2_with fail
 generalize hw2 : w1.alloc (Obj.cells #[.int .i64 0, .int .i64 0, .int .i64 d, .int .i64 0, .int .i64 0, .int .i64 0, .int .i64 0] 121) = w2 at *
 refine (K2.out _ _ HE1.out HD1.out.scn).mono ?_
 rintro e w3 hP
 rcases hP.split with ⟨ho, rfl, hG⟩ | ⟨r2, ho, rfl, hG, hS⟩
 ·
  exact ⟨rfl, .bad (HD1.out.gr.trans hG) (by rw [HT1.out, ho]; rfl)⟩
 have HT2 := Lib.hid (show dayRule s = (dnameA monthsN 12 0 r2).bind fun q => (isB [45] q.2).bind fun l4 => (dnumA 4 0 l4).bind fun y => some ((⟨y.1, q.1 + 1, d, 0, 0, 0⟩, 0), y.2) by rw [HT1.out, ho]; rfl)
 have HD2 := Lib.hid (HD1.out.step hG hS)
 have HE2 := Lib.hid (HE.out.kept HD2.out.gr)
 clear hP ho hG hS
 go_wp2_with fail
 refine (K3.out _ _ HE2.out HD2.out.scn).mono ?_
 rintro e w4 hP
 rcases hP.split with ⟨ho, rfl, hG⟩ | ⟨m, r3, ho, rfl, hG, hS⟩
 ·
  exact ⟨rfl, .bad (HD2.out.gr.trans hG) (by rw [HT2.out, ho]; rfl)⟩
 have hm : m < 12 := by have := (dnameA_len monthsN 12 0 r2 _ ho).2; dsimp only at this; omega
 have HT3 := Lib.hid (show dayRule s = (isB [45] r3).bind fun l4 => (dnumA 4 0 l4).bind fun y => some ((⟨y.1, m + 1, d, 0, 0, 0⟩, 0), y.2) by rw [HT2.out, ho]; rfl)
 have HD3 := Lib.hid (HD2.out.step hG hS)
 clear hP ho hG hS
 have HD4 := Lib.hid (HD3.out.set (y' := 0) (m' := (m : Int) + 1) (d' := d) (h' := 0) (mi' := 0) (sc' := 0) 1 ((m : Int) + 1) rfl)
 obtain ⟨⟨a0, a1, a2, a3, a4, a5, a6⟩, e0, e1, e2, e3, e4, e5, e6⟩ := seven_cells HD3.out.box
 have HE4 := Lib.hid (HE.out.kept HD4.out.gr)
 go_wp2_with fail
 generalize hw5 : w4.setCell ⟨w1.heap.size, 1, none⟩ (.int .i64 ((m : Int) + 1)) = w5 at *
 refine (K2.out _ _ HE4.out HD4.out.scn).mono ?_
 clear a0 a1 a2 a3 a4 a5 a6 e0 e1 e2 e3 e4 e5 e6 hw5
 rintro e w6 hP
 rcases hP.split with ⟨ho, rfl, hG⟩ | ⟨r4, ho, rfl, hG, hS⟩
 ·
  exact ⟨rfl, .bad (HD4.out.gr.trans hG) (by rw [HT3.out, ho]; rfl)⟩
 have HT4 := Lib.hid (show dayRule s = (dnumA 4 0 r4).bind fun y => some ((⟨y.1, m + 1, d, 0, 0, 0⟩, 0), y.2) by rw [HT3.out, ho]; rfl)
 have HD6 := Lib.hid (HD4.out.step hG hS)
 have HE6 := Lib.hid (HE.out.kept HD6.out.gr)
 clear hP ho hG hS
 go_wp2_with fail
 refine (K4.out _ _ HE6.out HD6.out.scn).mono ?_
 rintro e w7 hP
 rcases hP.split with ⟨ho, rfl, hG⟩ | ⟨y, r5, ho, rfl, hG, hS⟩
 ·
  exact ⟨rfl, .bad (HD6.out.gr.trans hG) (by rw [HT4.out, ho]; rfl)⟩
 have HV := Lib.hid (show dayRule s = some ((⟨y, m + 1, d, 0, 0, 0⟩, 0), r5) by rw [HT4.out, ho]; rfl)
 have HD7 := Lib.hid (HD6.out.step hG hS)
 clear hP ho hG hS
 have HD8 := Lib.hid (HD7.out.set (y' := y) (m' := (m : Int) + 1) (d' := d) (h' := 0) (mi' := 0) (sc' := 0) 0 (y : Int) rfl)
 obtain ⟨⟨a0, a1, a2, a3, a4, a5, a6⟩, e0, e1, e2, e3, e4, e5, e6⟩ := seven_cells HD7.out.box
 obtain ⟨⟨b0, b1, b2, b3, b4, b5, b6⟩, f0, f1, f2, f3, f4, f5, f6⟩ := seven_cells HD8.out.box
 obtain ⟨⟨c0, c1, c2, c3, c4, c5, c6⟩, g0, g1, g2, g3, g4, g5, g6⟩ := seven_cells HD8.out.res
 have H7 := Lib.hid (set7 _ _ _ _ _ _ _ _ _ _ (.int .i64 y) (.int .i64 ((m : Int) + 1)) (.int .i64 d) (.int .i64 0) (.int .i64 0) (.int .i64 0) (.int .i64 0) HD8.out.res)
 generalize hw8 : w7.setCell ⟨w1.heap.size, 0, none⟩ (.int .i64 (y : Int)) = w8 at *
 go_wp2
 obtain ⟨⟨x0, x1, x2, x3, x4, x5, x6⟩, _⟩ := seven_cells H7.out.1
 refine bodyPost_ret (v := _) ?_ rfl (HD8.out.fin (c := ⟨y, m + 1, d, 0, 0, 0⟩) (z := 0) HV.out H7.out.2)
 rw [results_cell_tmp rfl]
 simp [go_sem, x0, x1, x2, x3, x4, x5, x6]
open Go.RowKit
open Pl (Bs leapB daysM)
def inY (y : Nat) : Nat → Nat
 | 0 => 0
 | k + 1 => inY y k + daysM y (k + 1)
theorem inY_succ (y k : Nat) : inY y (k + 1) = inY y k + daysM y (k + 1) := rfl
theorem days_le (y m : Nat) : daysM y m ≤ 31 := by
 unfold daysM
 split
 ·
  split <;> omega
 ·
  split
  ·
   omega
  ·
   split <;> omega
theorem inY_le (y k : Nat) : inY y k ≤ 31 * k := by
 induction k with
 | zero => exact Nat.le_refl _
 | succ k ih => rw [inY_succ]; have := days_le y (k + 1); omega
def momB (c : CivP) : Option Nat :=
 if 1970 ≤ c.y ∧ c.y ≤ 2099 ∧ 1 ≤ c.d ∧ c.d ≤ daysM c.y c.m ∧ c.h ≤ 23 ∧ c.mi ≤ 59 ∧ c.s ≤ 59 then some ((Pl.ahead (c.y - 1970) + inY c.y (c.m - 1) + (c.d - 1)) * 86400 + c.h * 3600 + c.mi * 60 + c.s) else none
def CivSmall (c : CivP) : Prop := c.y ≤ 9999 ∧ 1 ≤ c.m ∧ c.m ≤ 12 ∧ c.d ≤ 99 ∧ c.h ≤ 99 ∧ c.mi ≤ 99 ∧ c.s ≤ 99
def wtB (n a b : Int) : Bool := decide (a ≤ n) && decide (n ≤ b)
theorem wtB_yes {n a b : Int} (h1 : a ≤ n) (h2 : n ≤ b) : wtB n a b = true := by rw [wtB, decide_eq_true h1, decide_eq_true h2]; rfl
theorem wtB_no {n a b : Int} (h : ¬ (a ≤ n ∧ n ≤ b)) : wtB n a b = false := by
 rw [Bool.eq_false_iff]; intro e; rw [wtB, Bool.and_eq_true, decide_eq_true_eq, decide_eq_true_eq] at e; exact h e
theorem within_walk (n a b : Int) (w : World) : Calls Tryz.prog 157 #[.int .i64 n, .int .i64 a, .int .i64 b] w fun e w' => e = .returned (.bool (wtB n a b)) ∧ w' = w := by
 by_cases h1 : a ≤ n
 ·
  by_cases h2 : n ≤ b
  ·
   have HV := Lib.hid (wtB_yes h1 h2)
   go_enter Tryz.func157, Tryz.ntmps157
   go_wp2
   go_ret
   exact ⟨by rw [HV.out]; rfl, rfl⟩
  ·
   have HV := Lib.hid (wtB_no (n := n) (a := a) (b := b) (fun h => h2 h.2))
   go_enter Tryz.func157, Tryz.ntmps157
   go_wp2
   go_ret
   exact ⟨by rw [HV.out]; rfl, rfl⟩
 ·
  have HV := Lib.hid (wtB_no (n := n) (a := a) (b := b) (fun h => h1 h.1))
  go_enter Tryz.func157, Tryz.ntmps157
  go_wp2
  go_ret
  exact ⟨by rw [HV.out]; rfl, rfl⟩
def momIn (t : Int) : Bool := decide (0 ≤ t) && decide (t ≤ 4102444799)
theorem momRange_walk (t : Int) (w : World) : Calls Tryz.prog 148 #[.int .i64 t] w fun e w' => e = .returned (.bool (momIn t)) ∧ w' = w := by
 have HV := Lib.hid (show momIn t = (decide (0 ≤ t) && decide (t ≤ 4102444799)) from rfl)
 by_cases h1 : 0 ≤ t
 ·
  by_cases h2 : t ≤ 4102444799
  ·
   have HW := Lib.hid (show momIn t = true by rw [HV.out, decide_eq_true h1, decide_eq_true h2]; rfl)
   go_enter Tryz.func148, Tryz.ntmps148
   go_wp2
   go_ret
   exact ⟨by rw [HW.out]; rfl, rfl⟩
  ·
   have HW := Lib.hid (show momIn t = false by rw [HV.out, decide_eq_true h1, decide_eq_false h2]; rfl)
   go_enter Tryz.func148, Tryz.ntmps148
   go_wp2
   go_ret
   exact ⟨by rw [HW.out]; rfl, rfl⟩
 ·
  have HW := Lib.hid (show momIn t = false by rw [HV.out, decide_eq_false h1]; rfl)
  go_enter Tryz.func148, Tryz.ntmps148
  go_wp2
  go_ret
  exact ⟨by rw [HW.out]; rfl, rfl⟩
theorem momB_no {c : CivP} (h : ¬ (1970 ≤ c.y ∧ c.y ≤ 2099 ∧ 1 ≤ c.d ∧ c.d ≤ daysM c.y c.m ∧ c.h ≤ 23 ∧ c.mi ≤ 59 ∧ c.s ≤ 59)) : momB c = none := if_neg h
theorem moment_good (K M d h mi s : Nat) (hK : K ≤ 129) (hM : M ≤ 11) (hd1 : 1 ≤ d) (hd : d ≤ daysM (1970 + K) (M + 1)) (hh : h ≤ 23) (hmi : mi ≤ 59) (hs : s ≤ 59) (w : World) :
  Calls Tryz.prog 147 #[.agg (civV ((1970 + K : Nat) : Int) ((M + 1 : Nat) : Int) d h mi s)] w fun e w' => e = .returned (.tuple #[.int .i64 (((Pl.ahead K + (d - 1) + inY (1970 + K) M) * 86400 + h * 3600 + mi * 60 + s : Nat) : Int), .nilIface]) ∧ Below w.heap.size w w' := by
 have KD := Lib.hid (fun W => (show Calls Tryz.prog 158 #[.int .i64 ((1970 + K : Nat) : Int), .int .i64 ((M + 1 : Nat) : Int)] W fun e w' => e = .returned (.int .i64 ((daysM (1970 + K) (M + 1) : Nat) : Int)) ∧ w' = W from (days_walk (1970 + K) (M + 1) (by omega) (by omega) (by omega) W).mono fun e w' ⟨h1, h2⟩ => ⟨h1, h2.symm⟩))
 have KW := Lib.hid (fun n a b W => within_walk n a b W)
 have KL := Lib.hid (fun k (hk : k < K) W => leap_walk (1970 + k) (by omega) W)
 have KDj := Lib.hid (fun j (hj : j < M) W => days_walk (1970 + K) (j + 1) (by omega) (by omega) (by omega) W)
 have hdl := days_le (1970 + K) (M + 1)
 have q1 : wtB ((1970 + K : Nat) : Int) 1970 2099 = true := wtB_yes (by omega) (by omega)
 have q0 : wtB ((M + 1 : Nat) : Int) 1 12 = true := wtB_yes (by omega) (by omega)
 have q2 : wtB (d : Int) 1 ((daysM (1970 + K) (M + 1) : Nat) : Int) = true := wtB_yes (by omega) (by omega)
 have q3 : wtB (h : Int) 0 23 = true := wtB_yes (by omega) (by omega)
 have q4 : wtB (mi : Int) 0 59 = true := wtB_yes (by omega) (by omega)
 have q5 : wtB (s : Int) 0 59 = true := wtB_yes (by omega) (by omega)
 have HI := Lib.hid (fun j => inY_succ (1970 + K) j)
 have HIl := Lib.hid (fun j => inY_le (1970 + K) j)
 have HDl := Lib.hid (fun j => days_le (1970 + K) j)
 have HD1 : Hid (d ≤ 31) := Lib.hid (by omega)
 have hd31 := HD1.out
 generalize daysM (1970 + K) (M + 1) = D at *
 clear hd
 have HY := Lib.hid (show ((1970 + K : Nat) : Int) = 1970 + (K : Int) by omega)
 have HM1 := Lib.hid (show ((M + 1 : Nat) : Int) = (M : Int) + 1 by omega)
 generalize hY : ((1970 + K : Nat) : Int) = Y at *
 generalize hMo : ((M + 1 : Nat) : Int) = Mo at *
 have HYe := Lib.hid hY
 have HMe := Lib.hid hMo
 clear hY hMo
 have HB1 := Lib.hid ((Below.refl w.heap.size w).alloc (Nat.le_refl _) (civO Y Mo d h mi s))
 have HX1 := Lib.hid (World.alloc_heap_new w (civO Y Mo d h mi s))
 go_enter Tryz.func147, Tryz.ntmps147
 go_wp2
 obtain ⟨w1, hw1⟩ : ∃ x, w.alloc (Obj.cells #[.int .i64 Y, .int .i64 Mo, .int .i64 d, .int .i64 h, .int .i64 mi, .int .i64 s, .int .i64 0] 121) = x := ⟨_, rfl⟩
 rw [hw1] at HB1 HX1 ⊢
 obtain ⟨⟨a0, a1, a2, a3, a4, a5, a6⟩, _⟩ := seven_cells HX1.out
 clear hw1
 go_quiet (first | (go_at_call 157; exact Calls.quiet_of_same (KW.out _ _ _ _)) | (go_at_call 158; exact Calls.quiet_of_same (KD.out _)))
 obtain ⟨w2, hw2⟩ : ∃ x, w1.drewN nq = x := ⟨_, rfl⟩
 have HB2 := Lib.hid (show Below w.heap.size w w2 by rw [← hw2]; exact below_draws HB1.out _)
 rw [hw2]
 have b0 : w2.cell? ⟨w.heap.size, 0, none⟩ = some (.int .i64 Y) := by rw [← hw2]; exact a0
 have b1 : w2.cell? ⟨w.heap.size, 1, none⟩ = some (.int .i64 Mo) := by rw [← hw2]; exact a1
 have b2 : w2.cell? ⟨w.heap.size, 2, none⟩ = some (.int .i64 (d : Int)) := by rw [← hw2]; exact a2
 have b3 : w2.cell? ⟨w.heap.size, 3, none⟩ = some (.int .i64 (h : Int)) := by rw [← hw2]; exact a3
 have b4 : w2.cell? ⟨w.heap.size, 4, none⟩ = some (.int .i64 (mi : Int)) := by rw [← hw2]; exact a4
 have b5 : w2.cell? ⟨w.heap.size, 5, none⟩ = some (.int .i64 (s : Int)) := by rw [← hw2]; exact a5
 clear hw2 a0 a1 a2 a3 a4 a5 a6 q0 q1 q2 q3 q4 q5
 go_wp2
 go_loop [4, 5] (fun n y => ∃ k : Nat, k ≤ K ∧ n = .int .i64 ((Pl.ahead k + (d - 1) : Nat) : Int) ∧ y = .int .i64 ((1970 + k : Nat) : Int)) (fun _ y => 2400 - (intOf y).toNat)
 case atStart => exact ⟨0, Nat.zero_le _, by simp [Pl.ahead]; omega, rfl⟩
 case round =>
  obtain ⟨k, hk, rfl, rfl⟩ := hrel
  have ha := ahead_small k
  have HS := Lib.hid (Pl.ahead_succ k)
  by_cases hkn : k < K
  ·
   have hlt : ((1970 + k : Nat) : Int) < Y := by rw [← HYe.out]; omega
   go_wp2_with fail
   refine (KL.out k hkn _).mono ?_
   rintro e w' ⟨rfl, rfl⟩
   cases hl : leapB (1970 + k)
   ·
    rw [hl] at HS
    go_wp2
    go_round
    case rel => exact ⟨k + 1, by omega, by rw [HS.out]; go_num, by go_num⟩
    case measure => simp [intOf]; omega
   ·
    rw [hl] at HS
    go_wp2
    go_round
    case rel => exact ⟨k + 1, by omega, by rw [HS.out]; go_num, by go_num⟩
    case measure => simp [intOf]; omega
  ·
   obtain rfl : k = K := by omega
   have hge : ¬ ((1970 + k : Nat) : Int) < Y := by rw [← HYe.out]; omega
   go_wp2
   go_loop [4, 6] (fun n m => ∃ j : Nat, j ≤ M ∧ n = .int .i64 ((Pl.ahead k + (d - 1) + inY (1970 + k) j : Nat) : Int) ∧ m = .int .i64 ((j + 1 : Nat) : Int)) (fun _ m => 20 - (intOf m).toNat)
   case atStart => exact ⟨0, Nat.zero_le _, by simp [inY], rfl⟩
   case round =>
    obtain ⟨j, hj, rfl, rfl⟩ := hrel
    have hi := HIl.out j
    have HS2 := Lib.hid (HI.out j)
    have hdl2 := HDl.out (j + 1)
    by_cases hjn : j < M
    ·
     have hlt2 : ((j + 1 : Nat) : Int) < Mo := by rw [← HMe.out]; omega
     have KDx := Lib.hid (KDj.out j hjn w2)
     generalize daysM (1970 + k) (j + 1) = E at *
     generalize inY (1970 + k) j = I at *
     go_wp2_with fail
     refine KDx.out.mono ?_
     rintro e w' ⟨rfl, rfl⟩
     go_wp2
     go_round
     case rel => exact ⟨j + 1, by omega, by rw [HS2.out]; go_num, by go_num⟩
     case measure => simp [intOf]; omega
    ·
     obtain rfl : j = M := by omega
     have hge2 : ¬ ((j + 1 : Nat) : Int) < Mo := by rw [← HMe.out]; omega
     go_wp2
     go_ret2
     refine ⟨congrArg (fun z => Ending.returned (.tuple #[.int .i64 z, .nilIface])) ?_, HB2.out⟩
     omega
def MomPost (G : Glob) (w : World) (o : Option Nat) (e : Ending) (w' : World) : Prop :=
 Below w.heap.size w w' ∧ match o with
  | none => e = .returned (.tuple #[.int .i64 0, G.range])
  | some n => e = .returned (.tuple #[.int .i64 (n : Int), .nilIface])
theorem MomPost.no {G : Glob} {w w' : World} {o : Option Nat} (hB : Below w.heap.size w w') (ho : o = none) : MomPost G w o (.returned (.tuple #[.int .i64 0, G.range])) w' := ⟨hB, by subst ho; rfl⟩
theorem moment_walk (G : Glob) (c : CivP) (hc : CivSmall c) (w : World) (hr : w.cell? ⟨1, 0, none⟩ = some G.range) (hri : ∃ t x, G.range = .iface t x) :
  Calls Tryz.prog 147 #[.agg (civV c.y c.m c.d c.h c.mi c.s)] w (MomPost G w (momB c)) := by
 obtain ⟨hy, hm1, hm12, hd, hh, hmi, hs⟩ := hc
 have KD := Lib.hid (fun W => (show Calls Tryz.prog 158 #[.int .i64 (c.y : Int), .int .i64 (c.m : Int)] W fun e w' => e = .returned (.int .i64 ((daysM c.y c.m : Nat) : Int)) ∧ w' = W from (days_walk c.y c.m (by omega) hm1 hm12 W).mono fun e w' ⟨h1, h2⟩ => ⟨h1, h2.symm⟩))
 have KW := Lib.hid (fun n a b W => within_walk n a b W)
 have qM : wtB (c.m : Int) 1 12 = true := wtB_yes (by omega) (by omega)
 have HNo := Lib.hid (momB_no (c := c))
 have KG : Hid ((1970 ≤ c.y ∧ c.y ≤ 2099) ∧ (1 ≤ c.d ∧ c.d ≤ daysM c.y c.m) ∧ c.h ≤ 23 ∧ c.mi ≤ 59 ∧ c.s ≤ 59 → Calls Tryz.prog 147 #[.agg (civV c.y c.m c.d c.h c.mi c.s)] w (MomPost G w (momB c))) := Lib.hid (by
  rintro ⟨⟨h1, h2⟩, ⟨h3, h4⟩, h5, h6, h7⟩
  have hv : momB c = some ((Pl.ahead (c.y - 1970) + inY c.y (c.m - 1) + (c.d - 1)) * 86400 + c.h * 3600 + c.mi * 60 + c.s) := if_pos ⟨h1, h2, h3, h4, h5, h6, h7⟩
  obtain ⟨y, m, d, h, mi, s⟩ := c
  dsimp only at *
  obtain ⟨K, rfl⟩ : ∃ K, y = 1970 + K := ⟨y - 1970, by omega⟩
  obtain ⟨M, rfl⟩ : ∃ M, m = M + 1 := ⟨m - 1, by omega⟩
  rw [Nat.add_sub_cancel_left, Nat.add_sub_cancel] at hv
  refine (moment_good K M d h mi s (by omega) (by omega) h3 h4 h5 h6 h7 w).mono ?_
  rintro e w' ⟨rfl, hB⟩
  rw [hv]
  refine ⟨hB, ?_⟩
  show _ = _
  rw [show Pl.ahead K + inY (1970 + K) M + (d - 1) = Pl.ahead K + (d - 1) + inY (1970 + K) M by omega])
 have HC := Lib.hid (show (1970 ≤ c.y ∧ c.y ≤ 2099 ∧ 1 ≤ c.d ∧ c.d ≤ daysM c.y c.m ∧ c.h ≤ 23 ∧ c.mi ≤ 59 ∧ c.s ≤ 59) ↔ ((1970 ≤ c.y ∧ c.y ≤ 2099) ∧ (1 ≤ c.d ∧ c.d ≤ daysM c.y c.m) ∧ c.h ≤ 23 ∧ c.mi ≤ 59 ∧ c.s ≤ 59) by constructor <;> (intro h; omega))
 obtain ⟨rt, rx, hrv⟩ := hri
 have HRv := Lib.hid hrv
 rw [hrv] at hr
 clear hrv
 have HB1 := Lib.hid ((Below.refl w.heap.size w).alloc (Nat.le_refl _) (civO c.y c.m c.d c.h c.mi c.s))
 have HX1 := Lib.hid (World.alloc_heap_new w (civO c.y c.m c.d c.h c.mi c.s))
 have hr1 := (HB1.out.cell (p := ⟨1, 0, none⟩) (World.block_lt_of_cell? w _ hr)).trans hr
 generalize momB c = oo at *
 have hDl := days_le c.y c.m
 generalize daysM c.y c.m = D at *
 by_cases c1 : 1970 ≤ c.y ∧ c.y ≤ 2099
 ·
  have q1 : wtB (c.y : Int) 1970 2099 = true := wtB_yes (by omega) (by omega)
  by_cases c2 : 1 ≤ c.d ∧ c.d ≤ D
  ·
   have q2 : wtB (c.d : Int) 1 (D : Int) = true := wtB_yes (by omega) (by omega)
   by_cases c3 : c.h ≤ 23
   ·
    have q3 : wtB (c.h : Int) 0 23 = true := wtB_yes (by omega) (by omega)
    by_cases c4 : c.mi ≤ 59
    ·
     have q4 : wtB (c.mi : Int) 0 59 = true := wtB_yes (by omega) (by omega)
     by_cases c5 : c.s ≤ 59
     ·
      have q5 : wtB (c.s : Int) 0 59 = true := wtB_yes (by omega) (by omega)
      exact KG.out ⟨c1, c2, c3, c4, c5⟩
     ·
      have q5 : wtB (c.s : Int) 0 59 = false := wtB_no (by omega)
      have HO := Lib.hid (HNo.out (fun h => c5 (HC.out.1 h).2.2.2.2))
      go_enter Tryz.func147, Tryz.ntmps147
      go_wp2
      obtain ⟨w1, hw1⟩ : ∃ x, w.alloc (Obj.cells #[.int .i64 c.y, .int .i64 c.m, .int .i64 c.d, .int .i64 c.h, .int .i64 c.mi, .int .i64 c.s, .int .i64 0] 121) = x := ⟨_, rfl⟩
      rw [hw1] at HB1 HX1 hr1 ⊢
      obtain ⟨⟨a0, a1, a2, a3, a4, a5, a6⟩, _⟩ := seven_cells HX1.out
      clear hw1
      go_quiet (first | (go_at_call 157; exact Calls.quiet_of_same (KW.out _ _ _ _)) | (go_at_call 158; exact Calls.quiet_of_same (KD.out _)))
      go_wp2
      go_quiet (fail)
      go_wp2
      go_ret2
      rw [← HRv.out]
      exact .no (below_draws (below_draws HB1.out _) _) HO.out
    ·
     have q4 : wtB (c.mi : Int) 0 59 = false := wtB_no (by omega)
     have HO := Lib.hid (HNo.out (fun h => c4 (HC.out.1 h).2.2.2.1))
     go_enter Tryz.func147, Tryz.ntmps147
     go_wp2
     obtain ⟨w1, hw1⟩ : ∃ x, w.alloc (Obj.cells #[.int .i64 c.y, .int .i64 c.m, .int .i64 c.d, .int .i64 c.h, .int .i64 c.mi, .int .i64 c.s, .int .i64 0] 121) = x := ⟨_, rfl⟩
     rw [hw1] at HB1 HX1 hr1 ⊢
     obtain ⟨⟨a0, a1, a2, a3, a4, a5, a6⟩, _⟩ := seven_cells HX1.out
     clear hw1
     go_quiet (first | (go_at_call 157; exact Calls.quiet_of_same (KW.out _ _ _ _)) | (go_at_call 158; exact Calls.quiet_of_same (KD.out _)))
     go_wp2
     go_quiet (fail)
     go_wp2
     go_ret2
     rw [← HRv.out]
     exact .no (below_draws (below_draws HB1.out _) _) HO.out
   ·
    have q3 : wtB (c.h : Int) 0 23 = false := wtB_no (by omega)
    have HO := Lib.hid (HNo.out (fun h => c3 (HC.out.1 h).2.2.1))
    go_enter Tryz.func147, Tryz.ntmps147
    go_wp2
    obtain ⟨w1, hw1⟩ : ∃ x, w.alloc (Obj.cells #[.int .i64 c.y, .int .i64 c.m, .int .i64 c.d, .int .i64 c.h, .int .i64 c.mi, .int .i64 c.s, .int .i64 0] 121) = x := ⟨_, rfl⟩
    rw [hw1] at HB1 HX1 hr1 ⊢
    obtain ⟨⟨a0, a1, a2, a3, a4, a5, a6⟩, _⟩ := seven_cells HX1.out
    clear hw1
    go_quiet (first | (go_at_call 157; exact Calls.quiet_of_same (KW.out _ _ _ _)) | (go_at_call 158; exact Calls.quiet_of_same (KD.out _)))
    go_wp2
    go_quiet (fail)
    go_wp2
    go_ret2
    rw [← HRv.out]
    exact .no (below_draws (below_draws HB1.out _) _) HO.out
  ·
   have q2 : wtB (c.d : Int) 1 (D : Int) = false := wtB_no (by omega)
   have HO := Lib.hid (HNo.out (fun h => c2 (HC.out.1 h).2.1))
   go_enter Tryz.func147, Tryz.ntmps147
   go_wp2
   obtain ⟨w1, hw1⟩ : ∃ x, w.alloc (Obj.cells #[.int .i64 c.y, .int .i64 c.m, .int .i64 c.d, .int .i64 c.h, .int .i64 c.mi, .int .i64 c.s, .int .i64 0] 121) = x := ⟨_, rfl⟩
   rw [hw1] at HB1 HX1 hr1 ⊢
   obtain ⟨⟨a0, a1, a2, a3, a4, a5, a6⟩, _⟩ := seven_cells HX1.out
   clear hw1
   go_quiet (first | (go_at_call 157; exact Calls.quiet_of_same (KW.out _ _ _ _)) | (go_at_call 158; exact Calls.quiet_of_same (KD.out _)))
   go_wp2
   go_quiet (fail)
   go_wp2
   go_ret2
   rw [← HRv.out]
   exact .no (below_draws (below_draws HB1.out _) _) HO.out
 ·
  have q1 : wtB (c.y : Int) 1970 2099 = false := wtB_no (by omega)
  have HO := Lib.hid (HNo.out (fun h => c1 (HC.out.1 h).1))
  go_enter Tryz.func147, Tryz.ntmps147
  go_wp2
  obtain ⟨w1, hw1⟩ : ∃ x, w.alloc (Obj.cells #[.int .i64 c.y, .int .i64 c.m, .int .i64 c.d, .int .i64 c.h, .int .i64 c.mi, .int .i64 c.s, .int .i64 0] 121) = x := ⟨_, rfl⟩
  rw [hw1] at HB1 HX1 hr1 ⊢
  obtain ⟨⟨a0, a1, a2, a3, a4, a5, a6⟩, _⟩ := seven_cells HX1.out
  clear hw1
  go_quiet (first | (go_at_call 157; exact Calls.quiet_of_same (KW.out _ _ _ _)) | (go_at_call 158; exact Calls.quiet_of_same (KD.out _)))
  go_wp2
  go_quiet (fail)
  go_wp2
  go_ret2
  rw [← HRv.out]
  exact .no (below_draws (below_draws HB1.out _) _) HO.out
open Go.RowKit
open Pl (Bs digB)
theorem dread_idle (p q : Addr) (w : World) :
  CallsD Tryz.prog 146 #[.pointer (some p), .pointer (some q)] .returning w fun e u' w' => e = .returned (.tuple #[]) ∧ u' = .returning ∧ w' = w := by
 refine callsD_of_wpS Tryz.func146 rfl fun c₀ cs hu => ?_
 apply wpS_seq
 apply wpS_region
 simp [wpOpsS, go_sem, recoverD, hu, Tryz.ntmps146, Exit.thenS]
 apply wpS_seq
 apply wpS_region
 simp [wpOpsS, go_sem, Tryz.ntmps146, Exit.thenS]
 refine wpS_cond (t := false) (by simp [Act.eval, Array.replicate]) ?_
 simp only [Bool.false_eq_true, if_false]
 refine wpS_of_wp (wp_skip ?_)
 cases c₀
 simp_all [bodyPostS, results, Tryz.results146]
theorem bad_yes (v : Value) (W : World) : (Instr.typeAssert (.iface 170 v) 20 170 true).run Tryz.prog W = .ok (.tuple #[v, .bool true]) W := by kernel_rfl
theorem dread_panic (G : Glob) (bt be : Nat) (hne : bt ≠ be) (tv : Int) (ev : Value) (w : World) (ht : w.heap[bt]? = some (Obj.cells #[.int .i64 tv] 3)) (he : w.heap[be]? = some (Obj.cells #[ev] 35)) (hfi : ∃ t x, G.form = .iface t x) :
  CallsD Tryz.prog 146 #[.pointer (some ⟨bt, 0, none⟩), .pointer (some ⟨be, 0, none⟩)] (.panicking [badE G]) w fun e u' w' => e = .returned (.tuple #[]) ∧ u' = .panicking [{ v := (badE G).v, recovered := true }] ∧ w'.heap[bt]? = some (Obj.cells #[.int .i64 0] 3) ∧ w'.heap[be]? = some (Obj.cells #[G.form] 35) ∧ R2 bt be w w' := by
 obtain ⟨ft, fx, hf⟩ := hfi
 refine callsD_of_wpS Tryz.func146 rfl fun c₀ cs hu => ?_
 rw [badE, hf] at *
 obtain ⟨c0, f0⟩ := one_cells ht
 obtain ⟨c1, f1⟩ := one_cells he
 simp only [Tryz.ntmps146, List.size_toArray, List.length_cons, List.length_nil, Nat.reduceAdd, Nat.reduceSub, Array.replicate_succ, Array.replicate_zero, List.push_toArray, List.append_toArray, List.nil_append, List.cons_append]
 apply wpS_seq
 apply wpS_region
 simp [wpOpsS, go_sem, recoverD, hu, Tryz.ntmps146, Exit.thenS]
 have hty := bad_yes (.agg #[.iface ft fx])
 have hl1 := (Array.getElem?_eq_some_iff.1 ht).1
 have hl2 := (Array.getElem?_eq_some_iff.1 he).1
 refine wpS_of_wp ?_
 go_wp2
 obtain ⟨w3, hw3⟩ : ∃ x, w.alloc (Obj.cells #[.iface ft fx] 170) = x := ⟨_, rfl⟩
 have HX3 := Lib.hid (show w3.heap[w.heap.size]? = some (Obj.cells #[.iface ft fx] 170) by rw [← hw3]; exact World.alloc_heap_new _ _)
 have HB3 := Lib.hid (show Below w.heap.size w w3 by rw [← hw3]; exact (Below.refl _ _).alloc (Nat.le_refl _) _)
 have HT3 := Lib.hid ((HB3.out.block _ hl1).trans ht)
 have HE3 := Lib.hid ((HB3.out.block _ hl2).trans he)
 obtain ⟨d0, _⟩ := one_cells HX3.out
 obtain ⟨d1, g1⟩ := one_cells HT3.out
 obtain ⟨d2, g2⟩ := one_cells HE3.out
 rw [hw3]
 clear hw3 c0 c1 f0 f1
 have hne2 : ¬ be = bt := fun e => hne e.symm
 go_region
 have hp1 : (w3.setCell ⟨bt, 0, none⟩ (.int .i64 0)).heap[bt]? = some (Obj.cells #[.int .i64 0] 3) := (setCell_heap_same HT3.out).trans rfl
 have hp2 : (w3.setCell ⟨bt, 0, none⟩ (.int .i64 0)).heap[be]? = some (Obj.cells #[ev] 35) := (Below.heap_setCell _ _ _ _ (by dsimp only; omega)).trans HE3.out
 refine ⟨rfl, _, rfl, .tuple #[], ?_, rfl, rfl, ?_, ?_, ?_⟩
 ·
  simp [results, Tryz.results146]
 ·
  exact (Below.heap_setCell _ _ _ _ (by dsimp only; omega)).trans hp1
 ·
  exact (setCell_heap_same hp2).trans rfl
 ·
  have g1 : R2 bt be w w3 := ⟨HB3.out.os, HB3.out.tape, HB3.out.output, HB3.out.size, fun i hi _ _ => HB3.out.block i hi⟩
  exact (g1.trans (.of (grown_put w3 bt 0 (.int .i64 0)))).trans (.ofC ((grown_put _ be 0 (.iface ft fx)).trans ⟨rfl, rfl, rfl, Nat.le_refl _, fun _ _ _ => rfl⟩))
def ReadPost (w : World) (o : Option Int) (e : Ending) (w' : World) : Prop :=
 Below w.heap.size w w' ∧ match o with
  | none => ∃ t x, e = .returned (.tuple #[.int .i64 0, .iface t x])
  | some n => e = .returned (.tuple #[.int .i64 n, .nilIface])
def readB (o : Option ((CivP × Int) × Bs)) : Option Int :=
 match o with
 | some ((c, z), []) => match momB c with
  | some t => if momIn ((t : Int) - z) = true then some ((t : Int) - z) else none
  | none => none
 | _ => none
open Go.RowKit
open Pl (Bs digB)
attribute [local go_sem ↓] Go.wp_at_zero Go.wp_at_succ
def RuleCon (G : Glob) (f : FuncId) (rule : Bs → Option ((CivP × Int) × Bs)) : Prop :=
 ∀ (B : Nat) (s : Bs) (w : World), EnvI G w B → DScn w B s → Calls Tryz.prog f #[dsP B] w (RulePost G w B (rule s))
def RuleSmall (rule : Bs → Option ((CivP × Int) × Bs)) : Prop := ∀ s c z r, rule s = some ((c, z), r) → CivSmall c ∧ -1000000 ≤ z ∧ z ≤ 1000000
structure RdSt (w : World) (s : Bs) (tv : Int) (ev : Value) (W : World) : Prop where
 below : Below w.heap.size w W
 tm : W.heap[w.heap.size]? = some (Obj.cells #[.int .i64 tv] 3)
 er : W.heap[w.heap.size + 1]? = some (Obj.cells #[ev] 35)
 scn : DScn W (w.heap.size + 1 + 1) s
theorem RdSt.start {w : World} {s : Bs} (hs : s.length ≤ 1000000) : RdSt w s 0 .nilIface (((w.alloc (Obj.cells #[.int .i64 0] 3)).alloc (Obj.cells #[.nilIface] 35)).alloc (Obj.cells #[.string (str s)] 173)) := by
 have hB1 : Below w.heap.size w (w.alloc (Obj.cells #[.int .i64 0] 3)) := (Below.refl _ _).alloc (Nat.le_refl _) _
 have hB2 := hB1.alloc (by simp) (Obj.cells #[.nilIface] 35)
 have hB3 := hB2.alloc (by simp; omega) (Obj.cells #[.string (str s)] 173)
 refine ⟨hB3, (Below.heap_alloc _ _ _ (by simp; omega)).trans ((Below.heap_alloc _ _ _ (by simp)).trans (World.alloc_heap_new _ _)), (Below.heap_alloc _ _ _ (by simp)).trans ?_, ⟨?_, hs⟩⟩
 ·
  have := World.alloc_heap_new (w.alloc (Obj.cells #[.int .i64 0] 3)) (Obj.cells #[.nilIface] 35); rw [World.size_alloc] at this; exact this
 ·
  have := World.alloc_heap_new ((w.alloc (Obj.cells #[.int .i64 0] 3)).alloc (Obj.cells #[.nilIface] 35)) (Obj.cells #[.string (str s)] 173); rw [World.size_alloc, World.size_alloc] at this; exact this
theorem RdSt.step {w : World} {s s1 : Bs} {tv : Int} {ev : Value} {W W1 : World} (st : RdSt w s tv ev W) (hG : W.grownBy W1 (some (w.heap.size + 1 + 1))) (hS : DScn W1 (w.heap.size + 1 + 1) s1) : RdSt w s1 tv ev W1 := by
 have hk : ∀ i x, W.heap[i]? = some x → i ≠ w.heap.size + 1 + 1 → W1.heap[i]? = some x := fun i x hi hne => (hG.block i (Array.getElem?_eq_some_iff.1 hi).1 (fun e => hne (Option.some.inj e))).trans hi
 exact ⟨st.below.grown hG st.below.size (fun k e => by rw [← Option.some.inj e]; omega), hk _ _ st.tm (by omega), hk _ _ st.er (by omega), hS⟩
theorem RdSt.then {w : World} {s : Bs} {tv : Int} {ev : Value} {W W1 : World} (st : RdSt w s tv ev W) (hB : Below W.heap.size W W1) : RdSt w s tv ev W1 := st.step (grown_below hB _) (st.scn.then hB)
theorem RdSt.caught {w W W1 : World} (hB : Below w.heap.size w W) (hz : w.heap.size + 2 ≤ W.heap.size) (hR : R2 w.heap.size (w.heap.size + 1) W W1) : Below w.heap.size w W1 :=
 ⟨hR.os.trans hB.os, hR.tape.trans hB.tape, hR.output.trans hB.output, Nat.le_trans hB.size hR.size, fun i hi => (hR.block i (Nat.lt_of_lt_of_le hi hB.size) (by omega) (by omega)).trans (hB.block i hi)⟩
theorem RdSt.put {w : World} {s : Bs} {tv : Int} {ev : Value} {W : World} (st : RdSt w s tv ev W) (tv' : Int) (ev' : Value) : RdSt w s tv' ev' ((W.setCell ⟨w.heap.size, 0, none⟩ (.int .i64 tv')).setCell ⟨w.heap.size + 1, 0, none⟩ ev') := by
 have h1 : (W.setCell ⟨w.heap.size, 0, none⟩ (.int .i64 tv')).heap[w.heap.size]? = some (Obj.cells #[.int .i64 tv'] 3) := (setCell_heap_same st.tm).trans rfl
 have h2 : (W.setCell ⟨w.heap.size, 0, none⟩ (.int .i64 tv')).heap[w.heap.size + 1]? = some (Obj.cells #[ev] 35) := (Below.heap_setCell _ _ _ _ (by dsimp only; omega)).trans st.er
 refine ⟨(st.below.setCell (Nat.le_refl _) _).setCell (by dsimp only; omega) _, (Below.heap_setCell _ _ _ _ (by dsimp only; omega)).trans h1, (setCell_heap_same h2).trans rfl, (st.scn.kept (grown_put W w.heap.size 0 _) (fun e => by have := Option.some.inj e; omega)).kept (grown_put _ (w.heap.size + 1) 0 _) (fun e => by have := Option.some.inj e; omega)⟩
theorem RdSt.draw {w : World} {s : Bs} {tv : Int} {ev : Value} {W : World} (st : RdSt w s tv ev W) : RdSt w s tv ev W.drew := st.step ⟨rfl, rfl, rfl, Nat.le_refl _, fun _ _ _ => rfl⟩ ⟨st.scn.heap, st.scn.small⟩
theorem momB_le {c : CivP} {t : Nat} (hc : CivSmall c) (h : momB c = some t) : t ≤ 5000000000 := by
 obtain ⟨hy, hm1, hm12, hd, hh, hmi, hs⟩ := hc
 unfold momB at h
 split at h
 ·
  rename_i hb
  have h1 := ahead_small (c.y - 1970)
  have h2 := inY_le c.y (c.m - 1)
  simp only [Option.some.injEq] at h
  subst h
  generalize Pl.ahead (c.y - 1970) = A at *
  generalize inY c.y (c.m - 1) = I at *
  omega
 ·
  cases h
theorem read_walk (G : Glob) (f : FuncId) (rule : Bs → Option ((CivP × Int) × Bs)) (hfn : ∀ args W, (callFunc f args).run Tryz.prog W = .ok (.enter f args) W) (hcon : RuleCon G f rule) (hsm : RuleSmall rule) (s : Bs) (hs : s.length ≤ 1000000) (w : World)
  (hE0 : 20 ≤ w.heap.size) (hE : ∀ W, Below w.heap.size w W → w.heap.size + 1 + 1 < W.heap.size → EnvI G W (w.heap.size + 1 + 1)) :
  Calls Tryz.prog 122 #[.string (str s), .func (.func f) #[] #[]] w (ReadPost w (readB (rule s))) := by
 have hmf : ∀ (fn : Fn) (first cap : Array Value) (w : World), (Instr.makeFunc fn first cap).run Tryz.prog w = .ok (.func fn first cap) w := fun _ _ _ _ => rfl
 have HE := Lib.hid hE
 have K := Lib.hid (fun W hE hS => hcon (w.heap.size + 1 + 1) s W hE hS)
 have HSm := Lib.hid (hsm s)
 have HP0 := Lib.hid (RdSt.start (w := w) hs)
 have HE3 := Lib.hid (hE _ HP0.out.below (by simp))
 generalize hoo : readB (rule s) = oo
 have HOO := Lib.hid hoo
 clear hE hcon hsm hoo
 go_enter_defers Tryz.func122, Tryz.ntmps122
 go_wp2_with fail
 refine (K.out _ HE3.out HP0.out.scn).mono ?_
 rintro e w4 ⟨hG4, hP4⟩
 cases hr : rule s with
 | none =>
  rw [hr] at hP4
  subst hP4
  have HP4 := Lib.hid (show Below w.heap.size w w4 ∧ w4.heap[w.heap.size]? = some (Obj.cells #[.int .i64 0] 3) ∧ w4.heap[w.heap.size + 1]? = some (Obj.cells #[.nilIface] 35) from ⟨HP0.out.below.grown hG4 HP0.out.below.size (fun k e => by rw [← Option.some.inj e]; omega), (hG4.block _ (Array.getElem?_eq_some_iff.1 HP0.out.tm).1 (fun e => by have := Option.some.inj e; omega)).trans HP0.out.tm, (hG4.block _ (Array.getElem?_eq_some_iff.1 HP0.out.er).1 (fun e => by have := Option.some.inj e; omega)).trans HP0.out.er⟩)
  have HO := Lib.hid (show oo = none by rw [← HOO.out, hr]; rfl)
  clear hG4
  refine leaves_cons (f := 146) (args := #[.pointer (some ⟨w.heap.size, 0, none⟩), .pointer (some ⟨w.heap.size + 1, 0, none⟩)]) (by simp) (by simp [go_sem]) ?_
  refine (dread_panic G w.heap.size (w.heap.size + 1) (by omega) _ _ _ HP4.out.2.1 HP4.out.2.2 HE3.out.formI).mono ?_
  rintro e u' w'' ⟨rfl, rfl, ht, he, hR⟩
  obtain ⟨q0, _⟩ := one_cells ht
  obtain ⟨q1, _⟩ := one_cells he
  obtain ⟨ft, fx, hf⟩ := HE3.out.formI
  rw [hf] at q1
  refine ⟨.tuple #[.int .i64 0, .iface ft fx], ?_, RdSt.caught HP4.out.1 (by have := (Array.getElem?_eq_some_iff.1 HP4.out.2.2).1; omega) hR, ?_⟩
  ·
   simp [results, Tryz.results122, go_sem, q0, q1]
  ·
   rw [HO.out]
   exact ⟨ft, fx, rfl⟩
 | some p =>
  obtain ⟨⟨c, z⟩, r⟩ := p
  rw [hr] at hP4
  obtain ⟨rfl, hS4⟩ := hP4
  obtain ⟨hc, hz1, hz2⟩ := HSm.out c z r hr
  have HP4 := Lib.hid (HP0.out.step hG4 hS4)
  have HC := Lib.hid hc
  have HRd := Lib.hid hr
  clear hG4 hS4 hc hr
  have HP5 := Lib.hid (HP4.out.then ((Below.refl _ _).alloc (Nat.le_refl _) (civO c.y c.m c.d c.h c.mi c.s)))
  have HX5 := Lib.hid (World.alloc_heap_new w4 (civO c.y c.m c.d c.h c.mi c.s))
  obtain ⟨d0, _⟩ := HP4.out.scn.cells
  have hl4 := HP4.out.scn.lt
  have HE5 := Lib.hid (HE.out _ HP5.out.below HP5.out.scn.lt)
  have hz4 := hl4
  dsimp only
  cases r with
  | cons x r =>
   have he0 : (str (x :: r)).toList.isEmpty = false := by rw [Lib.toList_data]; rfl
   have HO := Lib.hid (show oo = none by rw [← HOO.out, HRd.out]; rfl)
   go_wp2_with fail
   refine (need_no G _ _ HE5.out.form HE5.out.formI).mono ?_
   rintro e w6 ⟨rfl, rfl⟩
   refine leaves_cons (f := 146) (args := #[.pointer (some ⟨w.heap.size, 0, none⟩), .pointer (some ⟨w.heap.size + 1, 0, none⟩)]) (by simp) (by simp [go_sem]) ?_
   refine (dread_panic G w.heap.size (w.heap.size + 1) (by omega) _ _ _ HP5.out.tm HP5.out.er HE3.out.formI).mono ?_
   rintro e u' w'' ⟨rfl, rfl, ht, he, hR⟩
   obtain ⟨q0, _⟩ := one_cells ht
   obtain ⟨q1, _⟩ := one_cells he
   obtain ⟨ft, fx, hf⟩ := HE3.out.formI
   rw [hf] at q1
   refine ⟨.tuple #[.int .i64 0, .iface ft fx], ?_, RdSt.caught HP5.out.below (by have := (Array.getElem?_eq_some_iff.1 HP5.out.er).1; omega) hR, ?_⟩
   ·
    simp [results, Tryz.results122, go_sem, q0, q1]
   ·
    rw [HO.out]
    exact ⟨ft, fx, rfl⟩
  | nil =>
   have he0 : (str []).toList.isEmpty = true := by rw [Lib.toList_data]; rfl
   have HO := Lib.hid (show oo = match momB c with | some t => if momIn ((t : Int) - z) = true then some ((t : Int) - z) else none | none => none by rw [← HOO.out, HRd.out]; rfl)
   go_wp2_with fail
   refine (need_yes _ _).mono ?_
   rintro e w6 ⟨rfl, rfl⟩
   obtain ⟨rt, rx, hrv⟩ := HE5.out.rangeI
   have HRv := Lib.hid hrv
   clear hrv d0
   generalize hw5 : w4.alloc (Obj.cells #[.int .i64 (c.y : Int), .int .i64 (c.m : Int), .int .i64 (c.d : Int), .int .i64 (c.h : Int), .int .i64 (c.mi : Int), .int .i64 (c.s : Int), .int .i64 0] 121) = w5 at *
   obtain ⟨⟨a0, a1, a2, a3, a4, a5, a6⟩, _⟩ := seven_cells HX5.out
   clear hw5
   go_wp2_with fail
   refine (moment_walk G c HC.out w5 HE5.out.range HE5.out.rangeI).mono ?_
   rintro e w6 ⟨hB6, hP6⟩
   have HP6 := Lib.hid (HP5.out.then hB6)
   have HE6 := Lib.hid (HE.out _ HP6.out.below HP6.out.scn.lt)
   clear hB6 a0 a1 a2 a3 a4 a5 a6
   obtain ⟨q0, f0⟩ := one_cells HP6.out.tm
   obtain ⟨q1, f1⟩ := one_cells HP6.out.er
   cases hm : momB c with
   | none =>
    rw [hm] at hP6
    subst hP6
    have HV := Lib.hid (show oo = none by rw [HO.out, hm])
    have HP7 := Lib.hid (HP6.out.put 0 G.range)
    have hr7 := (HP7.out.below.trans (Below.refl _ _))
    have HE7 := Lib.hid (HE.out _ HP7.out.below HP7.out.scn.lt)
    have r7 := HE7.out.range
    rw [HRv.out] at HP7 HE7 r7 ⊢
    clear hr7 hm
    go_wp2_with fail
    obtain ⟨w7, hw7⟩ : ∃ x, (w6.setCell ⟨w.heap.size, 0, none⟩ (.int .i64 0)).setCell ⟨w.heap.size + 1, 0, none⟩ (.iface rt rx) = x := ⟨_, rfl⟩
    rw [hw7] at HP7 HE7 r7 ⊢
    clear hw7 q0 q1 f0 f1
    obtain ⟨q0, f0⟩ := one_cells HP7.out.tm
    obtain ⟨q1, f1⟩ := one_cells HP7.out.er
    have HP8 := Lib.hid (HP7.out.put 0 (.iface rt rx)).draw
    go_region
    clear q0 q1 f0 f1
    go_wp2
    refine leaves_cons (f := 146) (args := #[.pointer (some ⟨w.heap.size, 0, none⟩), .pointer (some ⟨w.heap.size + 1, 0, none⟩)]) (by simp) (by simp [go_sem]) ?_
    refine (dread_idle ⟨w.heap.size, 0, none⟩ ⟨w.heap.size + 1, 0, none⟩ _).mono ?_
    rintro e u' w'' ⟨rfl, rfl, rfl⟩
    obtain ⟨q0, _⟩ := one_cells HP8.out.tm
    obtain ⟨q1, _⟩ := one_cells HP8.out.er
    refine ⟨.tuple #[.int .i64 0, .iface rt rx], ?_, HP8.out.below, ?_⟩
    ·
     simp [results, Tryz.results122, go_sem, q0, q1]
    ·
     rw [HV.out]
     exact ⟨rt, rx, rfl⟩
   | some t =>
    rw [hm] at hP6
    subst hP6
    have ht := momB_le HC.out hm
    have HP7 := Lib.hid (HP6.out.put t .nilIface)
    have HE7 := Lib.hid (HE.out _ HP7.out.below HP7.out.scn.lt)
    have hw : IntKind.i64.wrap ((t : Int) - z) = (t : Int) - z := IntWalk.i64_in _ (by omega)
    cases hi : momIn ((t : Int) - z) with
    | false =>
     have HV := Lib.hid (show oo = none by rw [HO.out, hm]; dsimp only; rw [if_neg (by rw [hi]; decide)])
     have r7 := HE7.out.range
     rw [HRv.out] at r7
     clear hm
     go_wp2_with fail
     refine (momRange_walk _ _).mono ?_
     rintro e w8 ⟨rfl, rfl⟩
     go_wp2_with fail
     obtain ⟨w7, hw7⟩ : ∃ x, (w6.setCell ⟨w.heap.size, 0, none⟩ (.int .i64 (t : Int))).setCell ⟨w.heap.size + 1, 0, none⟩ .nilIface = x := ⟨_, rfl⟩
     rw [hw7] at HP7 HE7 r7 ⊢
     clear hw7 q0 q1 f0 f1
     obtain ⟨q0, f0⟩ := one_cells HP7.out.tm
     obtain ⟨q1, f1⟩ := one_cells HP7.out.er
     have HP8 := Lib.hid (HP7.out.put 0 (.iface rt rx)).draw
     go_region
     clear q0 q1 f0 f1
     go_wp2
     refine leaves_cons (f := 146) (args := #[.pointer (some ⟨w.heap.size, 0, none⟩), .pointer (some ⟨w.heap.size + 1, 0, none⟩)]) (by simp) (by simp [go_sem]) ?_
     refine (dread_idle ⟨w.heap.size, 0, none⟩ ⟨w.heap.size + 1, 0, none⟩ _).mono ?_
     rintro e u' w'' ⟨rfl, rfl, rfl⟩
     obtain ⟨q0, _⟩ := one_cells HP8.out.tm
     obtain ⟨q1, _⟩ := one_cells HP8.out.er
     refine ⟨.tuple #[.int .i64 0, .iface rt rx], ?_, HP8.out.below, ?_⟩
     ·
      simp [results, Tryz.results122, go_sem, q0, q1]
     ·
      rw [HV.out]
      exact ⟨rt, rx, rfl⟩
    | true =>
     have HV := Lib.hid (show oo = some ((t : Int) - z) by rw [HO.out, hm]; dsimp only; rw [if_pos hi])
     clear hm
     go_wp2_with fail
     refine (momRange_walk _ _).mono ?_
     rintro e w8 ⟨rfl, rfl⟩
     obtain ⟨w7, hw7⟩ : ∃ x, (w6.setCell ⟨w.heap.size, 0, none⟩ (.int .i64 (t : Int))).setCell ⟨w.heap.size + 1, 0, none⟩ .nilIface = x := ⟨_, rfl⟩
     rw [hw7] at HP7 HE7 ⊢
     clear hw7 q0 q1 f0 f1
     obtain ⟨q0, f0⟩ := one_cells HP7.out.tm
     obtain ⟨q1, f1⟩ := one_cells HP7.out.er
     have HP8 := Lib.hid (HP7.out.put ((t : Int) - z) .nilIface)
     go_wp2
     clear q0 q1 f0 f1
     refine leaves_cons (f := 146) (args := #[.pointer (some ⟨w.heap.size, 0, none⟩), .pointer (some ⟨w.heap.size + 1, 0, none⟩)]) (by simp) (by simp [go_sem]) ?_
     refine (dread_idle ⟨w.heap.size, 0, none⟩ ⟨w.heap.size + 1, 0, none⟩ _).mono ?_
     rintro e u' w'' ⟨rfl, rfl, rfl⟩
     obtain ⟨q0, _⟩ := one_cells HP8.out.tm
     obtain ⟨q1, _⟩ := one_cells HP8.out.er
     refine ⟨.tuple #[.int .i64 ((t : Int) - z), .nilIface], ?_, HP8.out.below, ?_⟩
     ·
      simp [results, Tryz.results122, go_sem, q0, q1]
     ·
      rw [HV.out]
end Go.Proofs.YtgmfhldfdnnafaaGreatDoor
