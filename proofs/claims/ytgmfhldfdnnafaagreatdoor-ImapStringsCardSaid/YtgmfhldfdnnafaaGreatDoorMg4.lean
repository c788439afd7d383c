/- A part of the proofs of the statements on chapter 21: walks of functions that they reach, and plain laws. What is proved is stated in the last text. Conditions: none of its own. -/
import Derived.Test.YtgmfhldfdnnafaaGreatDoorMg3
import Derived.Deep.RegionHeld3
import Derived.Deep.AppendLies
import Derived.Deep.DrawnRows
namespace Go.Proofs.YtgmfhldfdnnafaaGreatDoor
open Go.RowKit
open Pl (Bs idxB numOk numN setOk setL)
set_option linter.unusedSimpArgs false
set_option linter.unusedVariables false
theorem three_cells {w : World} {b : Nat} {t : TypeId} {x y z : Value} (h : w.heap[b]? = some (Obj.cells #[x, y, z] t)) : w.cell? ⟨b, 0, none⟩ = some x ∧ w.cell? ⟨b, 1, none⟩ = some y ∧ w.cell? ⟨b, 2, none⟩ = some z := by
  refine ⟨?_, ?_, ?_⟩ <;> simp [World.cell?, h]
theorem eight_cells {w : World} {b : Nat} {t : TypeId} {a0 a1 a2 a3 a4 a5 a6 a7 : Value} (h : w.heap[b]? = some (Obj.cells #[a0, a1, a2, a3, a4, a5, a6, a7] t)) : (w.cell? ⟨b, 0, none⟩ = some a0 ∧ w.cell? ⟨b, 1, none⟩ = some a1 ∧ w.cell? ⟨b, 2, none⟩ = some a2 ∧ w.cell? ⟨b, 3, none⟩ = some a3 ∧ w.cell? ⟨b, 4, none⟩ = some a4 ∧ w.cell? ⟨b, 5, none⟩ = some a5 ∧ w.cell? ⟨b, 6, none⟩ = some a6 ∧ w.cell? ⟨b, 7, none⟩ = some a7) ∧ w.frozen? ⟨b, 0, none⟩ = false ∧ w.frozen? ⟨b, 1, none⟩ = false ∧ w.frozen? ⟨b, 2, none⟩ = false ∧ w.frozen? ⟨b, 3, none⟩ = false ∧ w.frozen? ⟨b, 4, none⟩ = false ∧ w.frozen? ⟨b, 5, none⟩ = false ∧ w.frozen? ⟨b, 6, none⟩ = false ∧ w.frozen? ⟨b, 7, none⟩ = false := by
  refine ⟨⟨?_, ?_, ?_, ?_, ?_, ?_, ?_, ?_⟩, ?_, ?_, ?_, ?_, ?_, ?_, ?_, ?_⟩ <;> simp [World.cell?, World.frozen?, h]
abbrev zeroItem : Obj := Obj.cells #[.string ⟨#[]⟩, .slice none 0 0, .string ⟨#[]⟩, .slice none 0 0, .bool false, .bool false, .int .i64 0, .int .i64 0] 78
abbrev itemObj (vp vn : Value) (nm : ByteArray) (x : SpecP) (pk pt : Bool) (a b : Int) : Obj := Obj.cells #[.string nm, vp, .string (str x.what), vn, .bool pk, .bool pt, .int .i64 a, .int .i64 b] 78
/-- how far body has come -/
structure BodSt (w : World) (B k h : Nat) (T : Nat → Prop) (vp vn : Value) (x : SpecP) (pk : Bool) (s : Bs) (pt : Bool) (a b : Int) (W : World) : Prop where
  gr : w.grownBy W (some B)
  sc : Scn W B s k
  res : W.heap[w.heap.size]? = some zeroItem
  xb : W.heap[h]? = some (itemObj vp vn ⟨#[66, 79, 68, 89, 91]⟩ x pk pt a b)
  sp : SpecAt W T vp vn x
  fr : ∀ i, T i → w.heap.size < i ∧ i < h
  hlt : w.heap.size < h
  old : B < w.heap.size
theorem BodSt.step {w : World} {B k h : Nat} {T : Nat → Prop} {vp vn : Value} {x : SpecP} {pk : Bool} {s s1 : Bs} {pt : Bool} {a b : Int} {W W1 : World} (st : BodSt w B k h T vp vn x pk s pt a b W) (hG : W.grownBy W1 (some B)) (hS : Scn W1 B s1 k) : BodSt w B k h T vp vn x pk s1 pt a b W1 := by
  have hl := st.hlt
  have ho := st.old
  have hk : ∀ i o, W.heap[i]? = some o → i ≠ B → W1.heap[i]? = some o := fun i o hi hne => (hG.block i (Array.getElem?_eq_some_iff.1 hi).1 (fun e => hne (Option.some.inj e))).trans hi
  have hh := (Array.getElem?_eq_some_iff.1 st.xb).1
  refine ⟨st.gr.trans hG, hS, hk _ _ st.res (by omega), hk _ _ st.xb (by omega), st.sp.kept (fun i hi => ?_), st.fr, hl, ho⟩
  have := st.fr i hi
  exact hG.block i (by omega) (fun e => by have := Option.some.inj e; omega)
theorem BodSt.below {w : World} {B k h : Nat} {T : Nat → Prop} {vp vn : Value} {x : SpecP} {pk : Bool} {s : Bs} {pt : Bool} {a b : Int} {W W1 : World} (st : BodSt w B k h T vp vn x pk s pt a b W) (hB : Below W.heap.size W W1) : BodSt w B k h T vp vn x pk s pt a b W1 := st.step (grown_below hB _) (st.sc.then hB)
theorem setCell_heap_same {w : World} {b i : Nat} {v : Value} {cs : Array Value} {t : TypeId} (h : w.heap[b]? = some (Obj.cells cs t)) : (w.setCell ⟨b, i, none⟩ v).heap[b]? = some (Obj.cells (cs.setIfInBounds i v) t) := by
  simp [World.setCell, Array.getElem?_modify, h]
theorem BodSt.setH {w : World} {B k h : Nat} {T : Nat → Prop} {vp vn : Value} {x : SpecP} {pk : Bool} {s : Bs} {pt pt1 : Bool} {a b a1 b1 : Int} {W : World} (st : BodSt w B k h T vp vn x pk s pt a b W) {i : Nat} {v : Value} (hi : (Obj.cells (#[.string ⟨#[66, 79, 68, 89, 91]⟩, vp, .string (str x.what), vn, .bool pk, .bool pt, .int .i64 a, .int .i64 b].setIfInBounds i v) 78 : Obj) = itemObj vp vn ⟨#[66, 79, 68, 89, 91]⟩ x pk pt1 a1 b1) : BodSt w B k h T vp vn x pk s pt1 a1 b1 (W.setCell ⟨h, i, none⟩ v) := by
  have hl := st.hlt
  have ho := st.old
  refine ⟨grown_new st.gr (grown_put W h i v) (fun k e => .inl (by have := Option.some.inj e; omega)), ⟨(Below.heap_setCell W _ v _ (by dsimp only; omega)).trans st.sc.heap, st.sc.small, st.sc.few⟩, (Below.heap_setCell W _ v _ (by dsimp only; omega)).trans st.res, (setCell_heap_same st.xb).trans (congrArg some hi), st.sp.kept (fun j hj => Below.heap_setCell W _ v _ (by have := st.fr j hj; dsimp only; omega)), st.fr, hl, ho⟩
theorem set8 (W : World) (b : Nat) (t : TypeId) (o0 o1 o2 o3 o4 o5 o6 o7 v0 v1 v2 v3 v4 v5 v6 v7 : Value) (h : W.heap[b]? = some (Obj.cells #[o0, o1, o2, o3, o4, o5, o6, o7] t)) :
    (((((((((W.setCell ⟨b, 0, none⟩ v0).setCell ⟨b, 1, none⟩ v1).setCell ⟨b, 2, none⟩ v2).setCell ⟨b, 3, none⟩ v3).setCell ⟨b, 4, none⟩ v4).setCell ⟨b, 5, none⟩ v5).setCell ⟨b, 6, none⟩ v6).setCell ⟨b, 7, none⟩ v7).heap[b]? = some (Obj.cells #[v0, v1, v2, v3, v4, v5, v6, v7] t)) ∧ W.grownBy ((((((((W.setCell ⟨b, 0, none⟩ v0).setCell ⟨b, 1, none⟩ v1).setCell ⟨b, 2, none⟩ v2).setCell ⟨b, 3, none⟩ v3).setCell ⟨b, 4, none⟩ v4).setCell ⟨b, 5, none⟩ v5).setCell ⟨b, 6, none⟩ v6).setCell ⟨b, 7, none⟩ v7) (some b) := by
  refine ⟨?_, ?_⟩
  · have h0 := setCell_heap_same (i := 0) (v := v0) h
    have h1 := setCell_heap_same (i := 1) (v := v1) h0
    have h2 := setCell_heap_same (i := 2) (v := v2) h1
    have h3 := setCell_heap_same (i := 3) (v := v3) h2
    have h4 := setCell_heap_same (i := 4) (v := v4) h3
    have h5 := setCell_heap_same (i := 5) (v := v5) h4
    have h6 := setCell_heap_same (i := 6) (v := v6) h5
    have h7 := setCell_heap_same (i := 7) (v := v7) h6
    rw [h7]
    simp
  · have g0 := grown_put W b 0 v0
    have g1 := g0.trans (grown_put (W.setCell ⟨b, 0, none⟩ v0) b 1 v1)
    clear g0
    generalize (W.setCell ⟨b, 0, none⟩ v0).setCell ⟨b, 1, none⟩ v1 = W1 at *
    have g2 := g1.trans (grown_put W1 b 2 v2)
    have g3 := g2.trans (grown_put _ b 3 v3)
    have g4 := g3.trans (grown_put _ b 4 v4)
    have g5 := g4.trans (grown_put _ b 5 v5)
    have g6 := g5.trans (grown_put _ b 6 v6)
    exact g6.trans (grown_put _ b 7 v7)
theorem ItemPost.bad {w w' : World} {B k : Nat} {o : Option (ItemP × Bs)} (hG : w.grownBy w' (some B)) (ho : o = none) : ItemPost w B k o (.panicked [wrongE]) w' := ⟨hG, by subst ho; rfl⟩
theorem BodSt.fin {w : World} {B k h : Nat} {T : Nat → Prop} {vp vn : Value} {x : SpecP} {pk : Bool} {s : Bs} {pt : Bool} {a b : Int} {W : World} (st : BodSt w B k h T vp vn x pk s pt a b W) {o : Option (ItemP × Bs)} (ho : o = some (⟨[66, 79, 68, 89, 91], x, pk, pt, a, b⟩, s)) {W' : World} (hg : W.grownBy W' (some w.heap.size)) : ItemPost w B k o (.returned (.agg #[.string ⟨#[66, 79, 68, 89, 91]⟩, vp, .string (str x.what), vn, .bool pk, .bool pt, .int .i64 a, .int .i64 b])) W' := by
  subst ho
  have hl := st.hlt
  have ho := st.old
  have hh := (Array.getElem?_eq_some_iff.1 st.xb).1
  refine ⟨grown_new st.gr hg (fun k e => .inl (by have := Option.some.inj e; omega)), vp, vn, T, rfl, fun i hi => ?_, st.sp.kept (fun i hi => ?_), ?_⟩
  · have := st.fr i hi; have := hg.size; omega
  · have := st.fr i hi; exact hg.block i (by omega) (fun e => by have := Option.some.inj e; omega)
  · exact st.sc.kept hg (fun e => by have := Option.some.inj e; omega)
set_option maxHeartbeats 4000000 in
set_option maxRecDepth 100000 in
theorem body_walk (G : Glob) (B k : Nat) (sec : Bs → Option SpecP) (hsec : SecCon G sec) (peek : Bool) (s : Bs) (w : World) (hE : EnvI G w B) (h : Scn w B s k) :
    Calls Tryz.prog 132 #[scP B, .bool peek] w (ItemPost w B k (bodyB sec peek s)) := by
  have HE := Lib.hid hE
  have hsm := h.small
  have HSec := Lib.hid hsec
  have hO : bodyB sec peek s = match upToB [93] s with
    | none => none
    | some (X, r) => match sec X with
      | none => none
      | some x => (bodyPart r).map fun p => (⟨[66, 79, 68, 89, 91], x, peek, p.1.1, p.1.2.1, p.1.2.2⟩, p.2) := rfl
  generalize bodyB sec peek s = o at *
  have hold := hE.old
  have hlt := h.lt
  have K1 : Hid (∀ W, EnvI G W B → Scn W B s k → Calls Tryz.prog 121 #[scP B, .string ⟨#[93]⟩] W _) := Lib.hid (fun W hE hW => upTo_walk G B k s [93] W hE hW)
  obtain ⟨ty, vx, hv⟩ := hE.formI
  have HV := Lib.hid hv
  have HS := Lib.hid h
  clear hE hsec hv
  have HB0 := Lib.hid ((Below.refl w.heap.size w).alloc (Nat.le_refl _) zeroItem)
  have HR0 := Lib.hid (World.alloc_heap_new w zeroItem)
  have HS0 := Lib.hid (h.then HB0.out)
  have HG0 := Lib.hid (grown_below HB0.out (some B))
  have HE0 := Lib.hid (HE.out.kept HG0.out)
  cases h1 : upToB [93] s with
  | none =>
    simp only [h1] at K1 hO
    have HO := Lib.hid hO
    clear h1 hO h
    go_enter Tryz.func132, Tryz.ntmps132
    go_wp2_with fail
    refine (K1.out _ HE0.out HS0.out).mono ?_
    rintro e w1 ⟨hG1, rfl⟩
    exact ⟨rfl, .bad (HG0.out.trans hG1) HO.out⟩
  | some p =>
    obtain ⟨X, r⟩ := p
    have hlen := upToB_len h1
    simp only [h1] at K1 hO
    cases h2 : sec X with
    | none =>
      simp only [h2] at hO
      have HO := Lib.hid hO
      have K2 := Lib.hid (fun W hE => HSec.out X B W (by omega) hE)
      rw [h2] at K2
      clear h1 h2 hO h
      go_enter Tryz.func132, Tryz.ntmps132
      go_wp2_with fail
      refine (K1.out _ HE0.out HS0.out).mono ?_
      rintro e w1 ⟨hG1, rfl, hS1⟩
      have HG1 := Lib.hid (HG0.out.trans hG1)
      have HE1 := Lib.hid (HE0.out.kept hG1)
      clear hS1 hG1
      go_wp2_with fail
      refine (K2.out _ HE1.out).mono ?_
      rintro e w2 ⟨hB2, rfl⟩
      rw [HV.out]
      have HG2 := Lib.hid (grown_then HG1.out hB2)
      clear hB2
      go_wp2_with fail
      refine (must_no B _).mono ?_
      rintro e w3 ⟨rfl, hw3⟩
      exact ⟨rfl, .bad (by rw [← hw3]; exact grown_then HG2.out ((Below.refl _ _).alloc (Nat.le_refl _) _)) HO.out⟩
    | some x =>
      simp only [h2] at hO
      have K2 := Lib.hid (fun W hE => HSec.out X B W (by omega) hE)
      rw [h2] at K2
      clear h h1 h2
      go_enter Tryz.func132, Tryz.ntmps132
      go_wp2_with fail
      refine (K1.out _ HE0.out HS0.out).mono ?_
      rintro e w1 ⟨hG1, rfl, hS1⟩
      have HS1 := Lib.hid hS1
      have HG1 := Lib.hid (HG0.out.trans hG1)
      have HE1 := Lib.hid (HE0.out.kept hG1)
      have HR1 := Lib.hid ((hG1.block w.heap.size (by simp) (fun e => by have := Option.some.inj e; omega)).trans HR0.out)
      have hz1 : w.heap.size + 1 ≤ w1.heap.size := by have := hG1.size; simp at this; exact this
      clear hS1 hG1
      go_wp2_with fail
      refine (K2.out _ HE1.out).mono ?_
      rintro e w2 ⟨hB2, vp, vn, T, rfl, hT, hP⟩
      obtain ⟨Ap, cp, rfl, hq1⟩ := id hP.path
      obtain ⟨An, cn, rfl, hq2⟩ := id hP.names
      clear hq1 hq2
      have HS2 := Lib.hid (HS1.out.then hB2)
      have HG2 := Lib.hid (grown_then HG1.out hB2)
      have HR2 := Lib.hid ((hB2.block w.heap.size (by omega)).trans HR1.out)
      have hz2 := hB2.size
      have HT := Lib.hid hT
      have HP := Lib.hid hP
      clear hB2 hT hP
      generalize hvp : Value.slice Ap x.path.length cp = vp at *
      generalize hvn : Value.slice An x.names.length cn = vn at *
      subst hvp
      subst hvn
      go_wp2_with fail
      refine (must_walk B _).mono ?_
      rintro e w3 ⟨rfl, hw3⟩
      have n3 : w3.heap[w2.heap.size]? = some (Obj.cells #[Value.slice Ap x.path.length cp, Value.string (str x.what), Value.slice An x.names.length cn] 76) := by rw [← hw3]; exact World.alloc_heap_new _ _
      have hB3 : Below w2.heap.size w2 w3 := by rw [← hw3]; exact (Below.refl _ _).alloc (Nat.le_refl _) _
      have hz3 : w3.heap.size = w2.heap.size + 1 := by rw [← hw3]; simp
      have HS3 := Lib.hid (HS2.out.then hB3)
      have HG3 := Lib.hid (grown_then HG2.out hB3)
      have HR3 := Lib.hid ((hB3.block w.heap.size (by omega)).trans HR2.out)
      have HP3 := Lib.hid (HP.out.kept (fun i hi => hB3.block i (HT.out i hi).2))
      obtain ⟨c0, c1, c2⟩ := three_cells n3
      clear hw3 n3 hB3
      have HST : Hid (BodSt w B k w3.heap.size T (.slice Ap x.path.length cp) (.slice An x.names.length cn) x peek r false 0 0 (w3.alloc (itemObj (.slice Ap x.path.length cp) (.slice An x.names.length cn) ⟨#[66, 79, 68, 89, 91]⟩ x peek false 0 0))) := Lib.hid
        ⟨grown_then HG3.out ((Below.refl _ _).alloc (Nat.le_refl _) _), HS3.out.then ((Below.refl _ _).alloc (Nat.le_refl _) _), (Below.heap_alloc _ _ _ (by omega)).trans HR3.out, World.alloc_heap_new _ _, HP3.out.kept (fun i hi => Below.heap_alloc _ _ _ (by have := (HT.out i hi).2; omega)), (fun i hi => by have := HT.out i hi; omega), by omega, hlt⟩
      have HZ3 := Lib.hid hz3
      clear hz3
      clear HS1 HG1 HE1 HR1 HS2 HG2 HR2 HT HP HS3 HG3 HR3 HP3 K1 K2
      cases h3 : isB [60] r with
      | none =>
        have K3 : Hid (∀ W, Scn W B r k → Calls Tryz.prog 68 #[scP B, .string ⟨#[60]⟩] W _) := Lib.hid (fun W hW => is_not B r [60] k h3 W hW)
        have HO := Lib.hid (show o = some (⟨[66, 79, 68, 89, 91], x, peek, false, 0, 0⟩, r) by rw [hO, bodyPart, h3]; rfl)
        clear hO h3
        go_wp2_with fail
        refine (K3.out _ HST.out.sc).mono ?_
        rintro e w4 ⟨rfl, hS4, hG4⟩
        have ST4 := Lib.hid (HST.out.step hG4 hS4)
        clear hS4 hG4
        obtain ⟨⟨a0, a1, a2, a3, a4, a5, a6, a7⟩, f0, f1, f2, f3, f4, f5, f6, f7⟩ := eight_cells ST4.out.xb
        obtain ⟨⟨b0, b1, b2, b3, b4, b5, b6, b7⟩, g0, g1, g2, g3, g4, g5, g6, g7⟩ := eight_cells ST4.out.res
        go_wp2
        refine bodyPost_ret (v := _) ?_ rfl (BodSt.fin ST4.out HO.out (set8 _ _ _ _ _ _ _ _ _ _ _ _ _ _ _ _ _ _ _ ST4.out.res).2)
        rw [results_cell_one rfl]
        simp [go_sem, b0, b1, b2, b3, b4, b5, b6, b7]
      | some r2 =>
        have K3 : Hid (∀ W, Scn W B r k → Calls Tryz.prog 68 #[scP B, .string ⟨#[60]⟩] W _) := Lib.hid (fun W hW => is_ok B r [60] r2 k h3 W hW)
        have hr2 := isB_len h3
        have HOX := Lib.hid hO
        clear hO
        have K4 : Hid (∀ W, EnvI G W B → Scn W B r2 k → Calls Tryz.prog 121 #[scP B, .string ⟨#[46]⟩] W _) := Lib.hid (fun W hE hW => upTo_walk G B k r2 [46] W hE hW)
        go_wp2_with fail
        refine (K3.out _ HST.out.sc).mono ?_
        rintro e w4 ⟨rfl, hS4, hG4⟩
        have ST4 := Lib.hid (HST.out.step hG4 hS4)
        have ST5 := Lib.hid (ST4.out.setH (i := 5) (v := .bool true) (pt1 := true) (a1 := 0) (b1 := 0) rfl)
        obtain ⟨⟨a0, a1, a2, a3, a4, a5, a6, a7⟩, f0, f1, f2, f3, f4, f5, f6, f7⟩ := eight_cells ST4.out.xb
        clear hS4 hG4
        cases h4 : upToB [46] r2 with
        | none =>
          have HO := Lib.hid (show o = none by rw [HOX.out, bodyPart, h3]; simp only [h4]; rfl)
          rw [h4] at K4
          clear h3 h4
          go_wp2_with fail
          refine (K4.out _ (HE.out.kept ST5.out.gr) ST5.out.sc).mono ?_
          rintro e w5 ⟨hG5, rfl⟩
          exact ⟨rfl, .bad (ST5.out.gr.trans hG5) HO.out⟩
        | some p =>
          obtain ⟨d1, r3⟩ := p
          have hl4 := upToB_len h4
          simp only [List.length_singleton] at hr2
          rw [h4] at K4
          have K5 := Lib.hid (fun W hE => rnumber_walk G B d1 (by omega) W hE)
          go_wp2_with fail
          refine (K4.out _ (HE.out.kept ST5.out.gr) ST5.out.sc).mono ?_
          rintro e w5 ⟨hG5, rfl, hS5⟩
          have ST6 := Lib.hid (ST5.out.step hG5 hS5)
          clear hG5 hS5 ST4 ST5 HST
          go_wp2_with fail
          cases h5 : countB d1 2147483648 with
          | none =>
            have HO := Lib.hid (show o = none by rw [HOX.out, bodyPart, h3]; simp only [h4, h5]; rfl)
            rw [h5] at K5
            clear h3 h4 h5
            refine (K5.out _ (HE.out.kept ST6.out.gr)).mono ?_
            rintro e w6 ⟨hB6, rfl⟩
            exact ⟨rfl, .bad (grown_then ST6.out.gr hB6) HO.out⟩
          | some n1 =>
            rw [h5] at K5
            refine (K5.out _ (HE.out.kept ST6.out.gr)).mono ?_
            rintro e w6 ⟨hB6, rfl⟩
            have ST7 := Lib.hid (ST6.out.below hB6)
            have ST8 := Lib.hid (ST7.out.setH (i := 6) (v := .int .i64 (n1 : Int)) (pt1 := true) (a1 := n1) (b1 := 0) rfl)
            clear hB6 a0 a1 a2 a3 a4 a5 a6 a7 f0 f1 f2 f3 f4 f5 f6 f7
            obtain ⟨⟨a0, a1, a2, a3, a4, a5, a6, a7⟩, f0, f1, f2, f3, f4, f5, f6, f7⟩ := eight_cells ST7.out.xb
            have K6 : Hid (∀ W, EnvI G W B → Scn W B r3 k → Calls Tryz.prog 121 #[scP B, .string ⟨#[62]⟩] W _) := Lib.hid (fun W hE hW => upTo_walk G B k r3 [62] W hE hW)
            cases h6 : upToB [62] r3 with
            | none =>
              have HO := Lib.hid (show o = none by rw [HOX.out, bodyPart, h3]; simp only [h4, h5, h6]; rfl)
              rw [h6] at K6
              clear h3 h4 h5 h6
              go_wp2_with fail
              refine (K6.out _ (HE.out.kept ST8.out.gr) ST8.out.sc).mono ?_
              rintro e w7 ⟨hG7, rfl⟩
              exact ⟨rfl, .bad (ST8.out.gr.trans hG7) HO.out⟩
            | some p =>
              obtain ⟨d2, r4⟩ := p
              have hl6 := upToB_len h6
              rw [h6] at K6
              have K7 := Lib.hid (fun W hE => rnumber_walk G B d2 (by omega) W hE)
              go_wp2_with fail
              refine (K6.out _ (HE.out.kept ST8.out.gr) ST8.out.sc).mono ?_
              rintro e w7 ⟨hG7, rfl, hS7⟩
              have ST9 := Lib.hid (ST8.out.step hG7 hS7)
              clear hG7 hS7 ST7 ST8
              go_wp2_with fail
              cases h7 : countB d2 2147483648 with
              | none =>
                have HO := Lib.hid (show o = none by rw [HOX.out, bodyPart, h3]; simp only [h4, h5, h6, h7]; rfl)
                rw [h7] at K7
                clear h3 h4 h5 h6 h7
                refine (K7.out _ (HE.out.kept ST9.out.gr)).mono ?_
                rintro e w8 ⟨hB8, rfl⟩
                exact ⟨rfl, .bad (grown_then ST9.out.gr hB8) HO.out⟩
              | some n2 =>
                rw [h7] at K7
                refine (K7.out _ (HE.out.kept ST9.out.gr)).mono ?_
                rintro e w8 ⟨hB8, rfl⟩
                have ST10 := Lib.hid (ST9.out.below hB8)
                have ST11 := Lib.hid (ST10.out.setH (i := 7) (v := .int .i64 (n2 : Int)) (pt1 := true) (a1 := n1) (b1 := n2) rfl)
                clear hB8 a0 a1 a2 a3 a4 a5 a6 a7 f0 f1 f2 f3 f4 f5 f6 f7
                obtain ⟨⟨a0, a1, a2, a3, a4, a5, a6, a7⟩, f0, f1, f2, f3, f4, f5, f6, f7⟩ := eight_cells ST10.out.xb
                by_cases h8 : 0 < n2
                · have HO := Lib.hid (show o = some (⟨[66, 79, 68, 89, 91], x, peek, true, n1, n2⟩, r4) by rw [HOX.out, bodyPart, h3]; simp only [h4, h5, h6, h7, if_pos h8]; rfl)
                  have h8' : (0 : Int) < (n2 : Int) := by omega
                  clear h3 h4 h5 h6 h7
                  go_wp2_with fail
                  refine (must_walk B _).mono ?_
                  rintro e w9 ⟨rfl, hw9⟩
                  have hx : BodSt w B k w3.heap.size T (.slice Ap x.path.length cp) (.slice An x.names.length cn) x peek r4 true n1 n2 w9 := by rw [← hw9]; exact ST11.out
                  have ST12 := Lib.hid hx
                  clear hw9 hx a0 a1 a2 a3 a4 a5 a6 a7 f0 f1 f2 f3 f4 f5 f6 f7
                  obtain ⟨⟨a0, a1, a2, a3, a4, a5, a6, a7⟩, f0, f1, f2, f3, f4, f5, f6, f7⟩ := eight_cells ST12.out.xb
                  obtain ⟨⟨b0, b1, b2, b3, b4, b5, b6, b7⟩, g0, g1, g2, g3, g4, g5, g6, g7⟩ := eight_cells ST12.out.res
                  go_wp2
                  refine bodyPost_ret (v := _) ?_ rfl (BodSt.fin ST12.out HO.out (set8 _ _ _ _ _ _ _ _ _ _ _ _ _ _ _ _ _ _ _ ST12.out.res).2)
                  rw [results_cell_one rfl]
                  simp [go_sem, b0, b1, b2, b3, b4, b5, b6, b7]
                · have HO := Lib.hid (show o = none by rw [HOX.out, bodyPart, h3]; simp only [h4, h5, h6, h7, if_neg h8]; rfl)
                  have h8' : ¬ (0 : Int) < (n2 : Int) := by omega
                  clear h3 h4 h5 h6 h7
                  go_wp2_with fail
                  refine (must_no B _).mono ?_
                  rintro e w9 ⟨rfl, hw9⟩
                  exact ⟨rfl, .bad (by rw [← hw9]; exact ST11.out.gr) HO.out⟩
end Go.Proofs.YtgmfhldfdnnafaaGreatDoor
namespace Go.Proofs.YtgmfhldfdnnafaaGreatDoor
open Go.RowKit
open Pl (Bs idxB numOk numN setOk setL)
set_option linter.unusedSimpArgs false
set_option linter.unusedVariables false
theorem lit_cells (w : World) (L : List Bs) (t : TypeId) (j : Nat) (hj : j < L.length) {g : Nat} (hg : w.heap.size = g) : (w.alloc (Obj.cells (L.map strV).toArray t)).cell? ⟨g, j, none⟩ = some (.string (str (L.getD j []))) := by
  subst hg
  unfold World.cell?
  rw [World.alloc_heap_new w (Obj.cells (L.map strV).toArray t)]
  simp [List.getElem?_eq_getElem hj, strV]
theorem contains_lit (g cap : Nat) (L : List Bs) (x : Bs) (w : World) (hL : L.length ≤ 1000) (hc : ∀ j, j < L.length → w.cell? ⟨g, j, none⟩ = some (.string (str (L.getD j [])))) :
    Calls Tryz.prog 30 #[.slice (some ⟨g, 0, none⟩) L.length cap, .string (str x)] w fun e w' => e = .returned (.bool (L.contains x)) ∧ w' = w := by
  have K := contains_walk21 g 0 L.length cap (L.map str) (str x) w (by simp) (by omega) (fun j hj => by
    have hj' : j < L.length := by simpa using hj
    rw [Nat.zero_add, hc j hj']
    simp [List.getD, List.getElem?_eq_getElem hj'])
  have e : Lib.containsS ((L.map str).take L.length) (str x) = L.contains x := by
    rw [List.take_of_length_le (by simp)]
    rw [Bool.eq_iff_iff, Lib.containsS_iff, List.contains_iff_mem]
    constructor
    · intro h
      obtain ⟨y, hy, e⟩ := List.mem_map.1 h
      have : y = x := by rw [← bs_str y, e, bs_str]
      rwa [← this]
    · intro h; exact List.mem_map.2 ⟨x, h, rfl⟩
  rw [e] at K
  exact K
theorem str_inj {a b : Bs} (h : str a = str b) : a = b := by rw [← bs_str a, h, bs_str]
theorem str_ne {a b : Bs} (h : a ≠ b) : ¬ (str a).toList = b := by rw [Lib.toList_data]; exact fun e => h (by have : bs (str a) = b := e; rw [← this, bs_str])
theorem str_neb {a b : Bs} (h : a ≠ b) : ((str a).toList == b) = false := by simpa using str_ne h
def endI (c : UInt8) : Bool := c != 32 && c != 41 && c != 91
def bodyN : Bs := [66, 79, 68, 89]
def peekN : Bs := [66, 79, 68, 89, 46, 80, 69, 69, 75]
def knownN : List Bs := [[70, 76, 65, 71, 83], [85, 73, 68], [69, 78, 86, 69, 76, 79, 80, 69], [66, 79, 68, 89, 83, 84, 82, 85, 67, 84, 85, 82, 69], [73, 78, 84, 69, 82, 78, 65, 76, 68, 65, 84, 69], [82, 70, 67, 56, 50, 50, 46, 83, 73, 90, 69], [82, 70, 67, 56, 50, 50], [82, 70, 67, 56, 50, 50, 46, 72, 69, 65, 68, 69, 82], [82, 70, 67, 56, 50, 50, 46, 84, 69, 88, 84], bodyN]
def plainItem (nm : Bs) : ItemP := ⟨nm, ⟨[], [], []⟩, false, false, 0, 0⟩
def itemK (nm r : Bs) : Option (ItemP × Bs) := if knownN.contains nm = true then some (plainItem nm, r) else none
def itemB (sec : Bs → Option SpecP) (s : Bs) : Option (ItemP × Bs) :=
  if largeL (s.takeWhile endI) = bodyN ∨ largeL (s.takeWhile endI) = peekN then
    match isB [91] (s.drop (s.takeWhile endI).length) with
    | some r2 => bodyB sec (decide (largeL (s.takeWhile endI) ≠ bodyN)) r2
    | none => itemK (largeL (s.takeWhile endI)) (s.drop (s.takeWhile endI).length)
  else itemK (largeL (s.takeWhile endI)) (s.drop (s.takeWhile endI).length)
theorem itemK_len {nm r : Bs} {p : ItemP × Bs} (h : itemK nm r = some p) : p.2 = r := by
  unfold itemK at h
  split at h
  · cases h; rfl
  · cases h
/-- what item's frame holds behind the name -/
structure ItSt (w : World) (B k : Nat) (s : Bs) (W : World) : Prop where
  gr : w.grownBy W (some B)
  sc : Scn W B s k
  res : W.heap[w.heap.size]? = some zeroItem
  old : B < w.heap.size
theorem ItSt.step {w : World} {B k : Nat} {s s1 : Bs} {W W1 : World} (st : ItSt w B k s W) (hG : W.grownBy W1 (some B)) (hS : Scn W1 B s1 k) : ItSt w B k s1 W1 := by
  have ho := st.old
  exact ⟨st.gr.trans hG, hS, (hG.block _ (Array.getElem?_eq_some_iff.1 st.res).1 (fun e => by have := Option.some.inj e; omega)).trans st.res, ho⟩
theorem ItSt.below {w : World} {B k : Nat} {s : Bs} {W W1 : World} (st : ItSt w B k s W) (hB : Below W.heap.size W W1) : ItSt w B k s W1 := st.step (grown_below hB _) (st.sc.then hB)
theorem ItSt.fin {w : World} {B k : Nat} {s : Bs} {W W' : World} (st : ItSt w B k s W) {o : Option (ItemP × Bs)} {nm : Bs} (ho : o = some (plainItem nm, s)) (hg : W.grownBy W' (some w.heap.size)) : ItemPost w B k o (.returned (.agg #[.string (str nm), .slice none 0 0, .string ⟨#[]⟩, .slice none 0 0, .bool false, .bool false, .int .i64 0, .int .i64 0])) W' := by
  subst ho
  have hl := st.old
  exact ⟨grown_new st.gr hg (fun k e => .inl (by have := Option.some.inj e; omega)), .slice none 0 0, .slice none 0 0, fun _ => False, rfl, fun i hi => hi.elim, ⟨rowC_nil _ _ _, rowC_nil _ _ _⟩, st.sc.kept hg (fun e => by have := Option.some.inj e; omega)⟩
theorem ItSt.fin2 {w : World} {B k : Nat} {s : Bs} {W1 W W' : World} (st : ItSt w B k s W1) {o : Option (ItemP × Bs)} {p : ItemP × Bs} {vp vn : Value} {T : Nat → Prop} (ho : o = some p) (hG : W1.grownBy W (some B)) (hT : Fresh T W1 W) (hP : SpecAt W T vp vn p.1.spec) (hS : Scn W B p.2 k) (hg : W.grownBy W' (some w.heap.size)) : ItemPost w B k o (.returned (.agg #[.string (str p.1.name), vp, .string (str p.1.spec.what), vn, .bool p.1.peek, .bool p.1.part, .int .i64 p.1.frm, .int .i64 p.1.cnt])) W' := by
  subst ho
  have hl := st.old
  have hh := (Array.getElem?_eq_some_iff.1 st.res).1
  refine ⟨grown_new (st.gr.trans hG) hg (fun k e => .inl (by have := Option.some.inj e; omega)), vp, vn, T, rfl, fun i hi => ?_, hP.kept (fun i hi => ?_), hS.kept hg (fun e => by have := Option.some.inj e; omega)⟩
  · have := hT i hi; have := hg.size; omega
  · have := hT i hi; exact hg.block i (by omega) (fun e => by have := Option.some.inj e; omega)
set_option maxHeartbeats 4000000 in
set_option maxRecDepth 100000 in
theorem item_walk (G : Glob) (B k : Nat) (sec : Bs → Option SpecP) (hsec : SecCon G sec) (s : Bs) (w : World) (hE : EnvI G w B) (h : Scn w B s k) :
    Calls Tryz.prog 104 #[scP B] w (ItemPost w B k (itemB sec s)) := by
  have HE := Lib.hid hE
  have hsm := h.small
  have hlt := h.lt
  have HSec := Lib.hid hsec
  obtain ⟨n, hn⟩ : ∃ n, n = (s.takeWhile endI).length := ⟨_, rfl⟩
  have hle : n ≤ s.length := by rw [hn]; exact (List.takeWhile_prefix _).length_le
  have HI := Lib.hid (fun (j : Nat) (hj : j < n) (h : j < (str s).size) => show ((((str s)[j].toNat : Int) != 32) = true ∧ (((str s)[j].toNat : Int) != 41) = true ∧ (((str s)[j].toNat : Int) != 91) = true) by
    have := tw_in endI s j (by rw [← hn]; exact hj) (by rw [← str_size]; exact h)
    rw [str_at]
    simp only [endI, Bool.and_eq_true, bne_iff_ne, ne_eq] at this
    refine ⟨?_, ?_, ?_⟩ <;> rw [bne_iff_ne] <;> intro e
    · exact this.1.1 ((byte_eq _ 32 (by decide)).2 e)
    · exact this.1.2 ((byte_eq _ 41 (by decide)).2 e)
    · exact this.2 ((byte_eq _ 91 (by decide)).2 e))
  have HO := Lib.hid (fun (h : n < (str s).size) => show (((str s)[n].toNat : Int) = 32 ∨ ((str s)[n].toNat : Int) = 41 ∨ ((str s)[n].toNat : Int) = 91) by
    subst hn
    have := tw_out endI s (by rw [← str_size]; exact h)
    rw [str_at]
    generalize s[(s.takeWhile endI).length]'_ = c at *
    simp only [endI, Bool.and_eq_false_iff, bne_eq_false_iff_eq] at this
    rcases this with (e | e) | e <;> rw [e]
    · exact .inl rfl
    · exact .inr (.inl rfl)
    · exact .inr (.inr rfl))
  have HB0 := Lib.hid ((Below.refl w.heap.size w).alloc (Nat.le_refl _) zeroItem)
  have HST0 : Hid (ItSt w B k s (w.alloc zeroItem)) := Lib.hid ⟨grown_below HB0.out _, h.then HB0.out, World.alloc_heap_new _ _, hlt⟩
  obtain ⟨c0, c1, f0, f1⟩ := HST0.out.sc.cells
  have HT := Lib.hid (show str (s.takeWhile endI) = (str s).extract 0 n by rw [str_take, hn, List.prefix_iff_eq_take.1 (List.takeWhile_prefix endI) |>.symm])
  have HD := Lib.hid (show str (s.drop (s.takeWhile endI).length) = (str s).extract n s.length by rw [str_drop, hn])
  have hO : itemB sec s = if largeL (s.takeWhile endI) = bodyN ∨ largeL (s.takeWhile endI) = peekN then
    match isB [91] (s.drop (s.takeWhile endI).length) with
    | some r2 => bodyB sec (decide (largeL (s.takeWhile endI) ≠ bodyN)) r2
    | none => itemK (largeL (s.takeWhile endI)) (s.drop (s.takeWhile endI).length)
  else itemK (largeL (s.takeWhile endI)) (s.drop (s.takeWhile endI).length) := rfl
  have KL := Lib.hid (fun W => large_walk21 (s.takeWhile endI) (by rw [← hn]; omega) W)
  have hRl : (s.drop (s.takeWhile endI).length).length ≤ s.length := by rw [List.length_drop]; omega
  rw [HT.out] at KL
  generalize itemB sec s = o at *
  generalize s.drop (s.takeWhile endI).length = R at *
  generalize hNm : largeL (s.takeWhile endI) = Nm at *
  have HST1 : Hid (∀ W1, Below (w.alloc zeroItem).heap.size (w.alloc zeroItem) W1 → ItSt w B k R (W1.setCell ⟨B, 0, none⟩ (.string (str R)))) := Lib.hid (fun W1 hW1 => (HST0.out.below hW1).step (grown_put _ _ _ _) ((HST0.out.below hW1).sc.put R hRl))
  have zs := str_size s
  have HHO := Lib.hid hO
  clear hO h hn hNm hsec hE
  go_enter Tryz.func104, Tryz.ntmps104
  go_wp2
  go_loop [3] (fun i => ∃ j : Nat, j ≤ n ∧ i = .int .i64 j) (fun i => n - (intOf i).toNat)
  case atStart => exact ⟨0, Nat.zero_le _, rfl⟩
  case round =>
    obtain ⟨j, hj, rfl⟩ := hrel
    by_cases hjw : j < n
    · have hjs : j < (str s).size := by omega
      obtain ⟨d1, d2, d3⟩ := HI.out j hjw hjs
      generalize str s = S at *
      go_wp2_with fail
      go_round
      case rel => exact ⟨j + 1, by omega, by go_num⟩
      case measure => simp [intOf]; omega
    · obtain rfl : j = n := by omega
      have hx : (str s).extract 0 j = (str s).extract 0 j := rfl
      have hd : (str s).extract j s.length = str R := HD.out.symm
      clear hx HI HT HD
      by_cases hb : Nm = bodyN
      · by_cases hjs : j < (str s).size
        · have h3 := HO.out hjs
          clear HO
          rcases h3 with e1 | e1 | e1
          all_goals
            have hNm : str Nm = ⟨#[66, 79, 68, 89]⟩ := by rw [hb]; rfl
            have hOo := HHO.out
            rw [if_pos (.inl hb)] at hOo
            rw [hNm] at KL
            cases h9 : isB [91] R with
            | some r2 =>
              have HO8 := Lib.hid (show o = bodyB sec false r2 by rw [hOo, h9]; exact congrArg (bodyB sec · r2) (decide_eq_false (by rw [hb]; decide)))
              have K9 : Hid (∀ W, Scn W B R k → Calls Tryz.prog 68 #[scP B, .string ⟨#[91]⟩] W _) := Lib.hid (fun W hW => is_ok B R [91] r2 k h9 W hW)
              have K10 := Lib.hid (fun W hE hS => body_walk G B k sec HSec.out false r2 W hE hS)
              rw [← HO8.out] at K10
              clear hOo h9 hNm hb
              go_wp2_with fail
              refine (KL.out _).mono ?_
              rintro e w1 ⟨rfl, hB1⟩
              have ST1 := Lib.hid (HST1.out _ hB1)
              obtain ⟨c2, c3, f2, f3⟩ := (HST0.out.below hB1).sc.cells
              clear hB1
              go_wp2_with fail
              refine (K9.out _ ST1.out.sc).mono ?_
              rintro e w2 ⟨rfl, hS2, hG2⟩
              have ST2 := Lib.hid (ST1.out.step hG2 hS2)
              have HE2 := Lib.hid (HE.out.kept ST2.out.gr)
              clear hS2 hG2 c2 c3 f2 f3
              go_wp2_with fail
              refine (K10.out _ HE2.out ST2.out.sc).mono ?_
              rintro e w3 hP3
              cases o with
              | none =>
                obtain ⟨hG3, rfl⟩ := hP3
                exact ⟨rfl, .bad (ST2.out.gr.trans hG3) rfl⟩
              | some p =>
                obtain ⟨hG3, vp, vn, T, rfl, hT, hP, hS3⟩ := hP3
                obtain ⟨Ap, cp, rfl, hq1⟩ := id hP.path
                obtain ⟨An, cn, rfl, hq2⟩ := id hP.names
                clear hq1 hq2
                have ST3 := Lib.hid (ST2.out.step hG3 hS3)
                have HG3 := Lib.hid hG3
                have HT3 := Lib.hid hT
                have HP3 := Lib.hid hP
                have HS3 := Lib.hid hS3
                clear hG3 hT hP hS3 HO8 HHO K10
                obtain ⟨⟨b0, b1, b2, b3, b4, b5, b6, b7⟩, g0, g1, g2, g3, g4, g5, g6, g7⟩ := eight_cells ST3.out.res
                go_wp2
                refine bodyPost_ret (v := _) ?_ rfl (ItSt.fin2 ST2.out rfl HG3.out HT3.out HP3.out HS3.out (set8 _ _ _ _ _ _ _ _ _ _ _ _ _ _ _ _ _ _ _ ST3.out.res).2)
                rw [results_cell_one rfl]
                simp [go_sem, b0, b1, b2, b3, b4, b5, b6, b7]
            | none =>
              have HO8 := Lib.hid (show o = itemK Nm R by rw [hOo, h9])
              have HNm := Lib.hid hNm
              have K9 : Hid (∀ W, Scn W B R k → Calls Tryz.prog 68 #[scP B, .string ⟨#[91]⟩] W _) := Lib.hid (fun W hW => is_not B R [91] k h9 W hW)
              clear hOo h9 hNm hb
              go_wp2_with fail
              refine (KL.out _).mono ?_
              rintro e w1 ⟨rfl, hB1⟩
              have ST1 := Lib.hid (HST1.out _ hB1)
              obtain ⟨c2, c3, f2, f3⟩ := (HST0.out.below hB1).sc.cells
              clear hB1
              go_wp2_with fail
              refine (K9.out _ ST1.out.sc).mono ?_
              rintro e w2 ⟨rfl, hS2, hG2⟩
              have STk := Lib.hid (ST1.out.step hG2 hS2)
              clear hS2 hG2 c2 c3 f2 f3
              rw [← HNm.out]
              cases hk : knownN.contains Nm with
              | true =>
                have HK := Lib.hid hk
                have HO9 := Lib.hid (show o = some (plainItem Nm, R) by rw [HO8.out, itemK, if_pos hk])
                clear hk
                go_wp2_with fail
                refine (contains_lit _ _ knownN Nm _ (by decide) (fun j hj => ?lits)).mono ?_
                case lits => exact lit_cells _ knownN 9 j hj (by simp)
                rintro e w5 ⟨rfl, hw5⟩
                rw [HK.out]
                have st5 : ItSt w B k R w5 := by rw [hw5]; exact STk.out.below ((Below.refl _ _).alloc (Nat.le_refl _) _)
                have ST5 := Lib.hid st5
                clear hw5 st5
                go_wp2_with fail
                refine (must_walk B _).mono ?_
                rintro e w6 ⟨rfl, rfl⟩
                obtain ⟨⟨b0, b1, b2, b3, b4, b5, b6, b7⟩, g0, g1, g2, g3, g4, g5, g6, g7⟩ := eight_cells ST5.out.res
                go_wp2
                refine bodyPost_ret (v := _) ?_ rfl (ItSt.fin ST5.out HO9.out (set8 _ _ _ _ _ _ _ _ _ _ _ _ _ _ _ _ _ _ _ ST5.out.res).2)
                rw [results_cell_one rfl]
                simp [go_sem, b0, b1, b2, b3, b4, b5, b6, b7]
              | false =>
                have HK := Lib.hid hk
                have HO9 := Lib.hid (show o = none by rw [HO8.out, itemK, if_neg (by rw [hk]; decide)])
                clear hk
                go_wp2_with fail
                refine (contains_lit _ _ knownN Nm _ (by decide) (fun j hj => ?lits)).mono ?_
                case lits => exact lit_cells _ knownN 9 j hj (by simp)
                rintro e w5 ⟨rfl, hw5⟩
                rw [HK.out]
                have st5 : ItSt w B k R w5 := by rw [hw5]; exact STk.out.below ((Below.refl _ _).alloc (Nat.le_refl _) _)
                have ST5 := Lib.hid st5
                clear hw5 st5
                go_wp2_with fail
                refine (must_no B _).mono ?_
                rintro e w6 ⟨rfl, rfl⟩
                exact ⟨rfl, .bad ST5.out.gr HO9.out⟩
        · clear HO
          have hNm : str Nm = ⟨#[66, 79, 68, 89]⟩ := by rw [hb]; rfl
          have hOo := HHO.out
          rw [if_pos (.inl hb)] at hOo
          rw [hNm] at KL
          cases h9 : isB [91] R with
          | some r2 =>
            have HO8 := Lib.hid (show o = bodyB sec false r2 by rw [hOo, h9]; exact congrArg (bodyB sec · r2) (decide_eq_false (by rw [hb]; decide)))
            have K9 : Hid (∀ W, Scn W B R k → Calls Tryz.prog 68 #[scP B, .string ⟨#[91]⟩] W _) := Lib.hid (fun W hW => is_ok B R [91] r2 k h9 W hW)
            have K10 := Lib.hid (fun W hE hS => body_walk G B k sec HSec.out false r2 W hE hS)
            rw [← HO8.out] at K10
            clear hOo h9 hNm hb
            go_wp2_with fail
            refine (KL.out _).mono ?_
            rintro e w1 ⟨rfl, hB1⟩
            have ST1 := Lib.hid (HST1.out _ hB1)
            obtain ⟨c2, c3, f2, f3⟩ := (HST0.out.below hB1).sc.cells
            clear hB1
            go_wp2_with fail
            refine (K9.out _ ST1.out.sc).mono ?_
            rintro e w2 ⟨rfl, hS2, hG2⟩
            have ST2 := Lib.hid (ST1.out.step hG2 hS2)
            have HE2 := Lib.hid (HE.out.kept ST2.out.gr)
            clear hS2 hG2 c2 c3 f2 f3
            go_wp2_with fail
            refine (K10.out _ HE2.out ST2.out.sc).mono ?_
            rintro e w3 hP3
            cases o with
            | none =>
              obtain ⟨hG3, rfl⟩ := hP3
              exact ⟨rfl, .bad (ST2.out.gr.trans hG3) rfl⟩
            | some p =>
              obtain ⟨hG3, vp, vn, T, rfl, hT, hP, hS3⟩ := hP3
              obtain ⟨Ap, cp, rfl, hq1⟩ := id hP.path
              obtain ⟨An, cn, rfl, hq2⟩ := id hP.names
              clear hq1 hq2
              have ST3 := Lib.hid (ST2.out.step hG3 hS3)
              have HG3 := Lib.hid hG3
              have HT3 := Lib.hid hT
              have HP3 := Lib.hid hP
              have HS3 := Lib.hid hS3
              clear hG3 hT hP hS3 HO8 HHO K10
              obtain ⟨⟨b0, b1, b2, b3, b4, b5, b6, b7⟩, g0, g1, g2, g3, g4, g5, g6, g7⟩ := eight_cells ST3.out.res
              go_wp2
              refine bodyPost_ret (v := _) ?_ rfl (ItSt.fin2 ST2.out rfl HG3.out HT3.out HP3.out HS3.out (set8 _ _ _ _ _ _ _ _ _ _ _ _ _ _ _ _ _ _ _ ST3.out.res).2)
              rw [results_cell_one rfl]
              simp [go_sem, b0, b1, b2, b3, b4, b5, b6, b7]
          | none =>
            have HO8 := Lib.hid (show o = itemK Nm R by rw [hOo, h9])
            have HNm := Lib.hid hNm
            have K9 : Hid (∀ W, Scn W B R k → Calls Tryz.prog 68 #[scP B, .string ⟨#[91]⟩] W _) := Lib.hid (fun W hW => is_not B R [91] k h9 W hW)
            clear hOo h9 hNm hb
            go_wp2_with fail
            refine (KL.out _).mono ?_
            rintro e w1 ⟨rfl, hB1⟩
            have ST1 := Lib.hid (HST1.out _ hB1)
            obtain ⟨c2, c3, f2, f3⟩ := (HST0.out.below hB1).sc.cells
            clear hB1
            go_wp2_with fail
            refine (K9.out _ ST1.out.sc).mono ?_
            rintro e w2 ⟨rfl, hS2, hG2⟩
            have STk := Lib.hid (ST1.out.step hG2 hS2)
            clear hS2 hG2 c2 c3 f2 f3
            rw [← HNm.out]
            cases hk : knownN.contains Nm with
            | true =>
              have HK := Lib.hid hk
              have HO9 := Lib.hid (show o = some (plainItem Nm, R) by rw [HO8.out, itemK, if_pos hk])
              clear hk
              go_wp2_with fail
              refine (contains_lit _ _ knownN Nm _ (by decide) (fun j hj => ?lits)).mono ?_
              case lits => exact lit_cells _ knownN 9 j hj (by simp)
              rintro e w5 ⟨rfl, hw5⟩
              rw [HK.out]
              have st5 : ItSt w B k R w5 := by rw [hw5]; exact STk.out.below ((Below.refl _ _).alloc (Nat.le_refl _) _)
              have ST5 := Lib.hid st5
              clear hw5 st5
              go_wp2_with fail
              refine (must_walk B _).mono ?_
              rintro e w6 ⟨rfl, rfl⟩
              obtain ⟨⟨b0, b1, b2, b3, b4, b5, b6, b7⟩, g0, g1, g2, g3, g4, g5, g6, g7⟩ := eight_cells ST5.out.res
              go_wp2
              refine bodyPost_ret (v := _) ?_ rfl (ItSt.fin ST5.out HO9.out (set8 _ _ _ _ _ _ _ _ _ _ _ _ _ _ _ _ _ _ _ ST5.out.res).2)
              rw [results_cell_one rfl]
              simp [go_sem, b0, b1, b2, b3, b4, b5, b6, b7]
            | false =>
              have HK := Lib.hid hk
              have HO9 := Lib.hid (show o = none by rw [HO8.out, itemK, if_neg (by rw [hk]; decide)])
              clear hk
              go_wp2_with fail
              refine (contains_lit _ _ knownN Nm _ (by decide) (fun j hj => ?lits)).mono ?_
              case lits => exact lit_cells _ knownN 9 j hj (by simp)
              rintro e w5 ⟨rfl, hw5⟩
              rw [HK.out]
              have st5 : ItSt w B k R w5 := by rw [hw5]; exact STk.out.below ((Below.refl _ _).alloc (Nat.le_refl _) _)
              have ST5 := Lib.hid st5
              clear hw5 st5
              go_wp2_with fail
              refine (must_no B _).mono ?_
              rintro e w6 ⟨rfl, rfl⟩
              exact ⟨rfl, .bad ST5.out.gr HO9.out⟩
      · have hnb := hb
        clear hb
        by_cases hb : Nm = peekN
        · have hb1 : ¬ (⟨#[66, 79, 68, 89, 46, 80, 69, 69, 75]⟩ : ByteArray) = ⟨#[66, 79, 68, 89]⟩ := by decide
          by_cases hjs : j < (str s).size
          · have h3 := HO.out hjs
            clear HO
            rcases h3 with e1 | e1 | e1
            all_goals
              have hNm : str Nm = ⟨#[66, 79, 68, 89, 46, 80, 69, 69, 75]⟩ := by rw [hb]; rfl
              have hOo := HHO.out
              rw [if_pos (.inr hb)] at hOo
              rw [hNm] at KL
              cases h9 : isB [91] R with
              | some r2 =>
                have HO8 := Lib.hid (show o = bodyB sec true r2 by rw [hOo, h9]; exact congrArg (bodyB sec · r2) (decide_eq_true (by rw [hb]; decide)))
                have K9 : Hid (∀ W, Scn W B R k → Calls Tryz.prog 68 #[scP B, .string ⟨#[91]⟩] W _) := Lib.hid (fun W hW => is_ok B R [91] r2 k h9 W hW)
                have K10 := Lib.hid (fun W hE hS => body_walk G B k sec HSec.out true r2 W hE hS)
                rw [← HO8.out] at K10
                clear hOo h9 hNm hb
                go_wp2_with fail
                refine (KL.out _).mono ?_
                rintro e w1 ⟨rfl, hB1⟩
                have ST1 := Lib.hid (HST1.out _ hB1)
                obtain ⟨c2, c3, f2, f3⟩ := (HST0.out.below hB1).sc.cells
                clear hB1
                go_wp2_with fail
                refine (K9.out _ ST1.out.sc).mono ?_
                rintro e w2 ⟨rfl, hS2, hG2⟩
                have ST2 := Lib.hid (ST1.out.step hG2 hS2)
                have HE2 := Lib.hid (HE.out.kept ST2.out.gr)
                clear hS2 hG2 c2 c3 f2 f3
                go_wp2_with fail
                refine (K10.out _ HE2.out ST2.out.sc).mono ?_
                rintro e w3 hP3
                cases o with
                | none =>
                  obtain ⟨hG3, rfl⟩ := hP3
                  exact ⟨rfl, .bad (ST2.out.gr.trans hG3) rfl⟩
                | some p =>
                  obtain ⟨hG3, vp, vn, T, rfl, hT, hP, hS3⟩ := hP3
                  obtain ⟨Ap, cp, rfl, hq1⟩ := id hP.path
                  obtain ⟨An, cn, rfl, hq2⟩ := id hP.names
                  clear hq1 hq2
                  have ST3 := Lib.hid (ST2.out.step hG3 hS3)
                  have HG3 := Lib.hid hG3
                  have HT3 := Lib.hid hT
                  have HP3 := Lib.hid hP
                  have HS3 := Lib.hid hS3
                  clear hG3 hT hP hS3 HO8 HHO K10
                  obtain ⟨⟨b0, b1, b2, b3, b4, b5, b6, b7⟩, g0, g1, g2, g3, g4, g5, g6, g7⟩ := eight_cells ST3.out.res
                  go_wp2
                  refine bodyPost_ret (v := _) ?_ rfl (ItSt.fin2 ST2.out rfl HG3.out HT3.out HP3.out HS3.out (set8 _ _ _ _ _ _ _ _ _ _ _ _ _ _ _ _ _ _ _ ST3.out.res).2)
                  rw [results_cell_one rfl]
                  simp [go_sem, b0, b1, b2, b3, b4, b5, b6, b7]
              | none =>
                have HO8 := Lib.hid (show o = itemK Nm R by rw [hOo, h9])
                have HNm := Lib.hid hNm
                have K9 : Hid (∀ W, Scn W B R k → Calls Tryz.prog 68 #[scP B, .string ⟨#[91]⟩] W _) := Lib.hid (fun W hW => is_not B R [91] k h9 W hW)
                clear hOo h9 hNm hb
                go_wp2_with fail
                refine (KL.out _).mono ?_
                rintro e w1 ⟨rfl, hB1⟩
                have ST1 := Lib.hid (HST1.out _ hB1)
                obtain ⟨c2, c3, f2, f3⟩ := (HST0.out.below hB1).sc.cells
                clear hB1
                go_wp2_with fail
                refine (K9.out _ ST1.out.sc).mono ?_
                rintro e w2 ⟨rfl, hS2, hG2⟩
                have STk := Lib.hid (ST1.out.step hG2 hS2)
                clear hS2 hG2 c2 c3 f2 f3
                rw [← HNm.out]
                cases hk : knownN.contains Nm with
                | true =>
                  have HK := Lib.hid hk
                  have HO9 := Lib.hid (show o = some (plainItem Nm, R) by rw [HO8.out, itemK, if_pos hk])
                  clear hk
                  go_wp2_with fail
                  refine (contains_lit _ _ knownN Nm _ (by decide) (fun j hj => ?lits)).mono ?_
                  case lits => exact lit_cells _ knownN 9 j hj (by simp)
                  rintro e w5 ⟨rfl, hw5⟩
                  rw [HK.out]
                  have st5 : ItSt w B k R w5 := by rw [hw5]; exact STk.out.below ((Below.refl _ _).alloc (Nat.le_refl _) _)
                  have ST5 := Lib.hid st5
                  clear hw5 st5
                  go_wp2_with fail
                  refine (must_walk B _).mono ?_
                  rintro e w6 ⟨rfl, rfl⟩
                  obtain ⟨⟨b0, b1, b2, b3, b4, b5, b6, b7⟩, g0, g1, g2, g3, g4, g5, g6, g7⟩ := eight_cells ST5.out.res
                  go_wp2
                  refine bodyPost_ret (v := _) ?_ rfl (ItSt.fin ST5.out HO9.out (set8 _ _ _ _ _ _ _ _ _ _ _ _ _ _ _ _ _ _ _ ST5.out.res).2)
                  rw [results_cell_one rfl]
                  simp [go_sem, b0, b1, b2, b3, b4, b5, b6, b7]
                | false =>
                  have HK := Lib.hid hk
                  have HO9 := Lib.hid (show o = none by rw [HO8.out, itemK, if_neg (by rw [hk]; decide)])
                  clear hk
                  go_wp2_with fail
                  refine (contains_lit _ _ knownN Nm _ (by decide) (fun j hj => ?lits)).mono ?_
                  case lits => exact lit_cells _ knownN 9 j hj (by simp)
                  rintro e w5 ⟨rfl, hw5⟩
                  rw [HK.out]
                  have st5 : ItSt w B k R w5 := by rw [hw5]; exact STk.out.below ((Below.refl _ _).alloc (Nat.le_refl _) _)
                  have ST5 := Lib.hid st5
                  clear hw5 st5
                  go_wp2_with fail
                  refine (must_no B _).mono ?_
                  rintro e w6 ⟨rfl, rfl⟩
                  exact ⟨rfl, .bad ST5.out.gr HO9.out⟩
          · clear HO
            have hNm : str Nm = ⟨#[66, 79, 68, 89, 46, 80, 69, 69, 75]⟩ := by rw [hb]; rfl
            have hOo := HHO.out
            rw [if_pos (.inr hb)] at hOo
            rw [hNm] at KL
            cases h9 : isB [91] R with
            | some r2 =>
              have HO8 := Lib.hid (show o = bodyB sec true r2 by rw [hOo, h9]; exact congrArg (bodyB sec · r2) (decide_eq_true (by rw [hb]; decide)))
              have K9 : Hid (∀ W, Scn W B R k → Calls Tryz.prog 68 #[scP B, .string ⟨#[91]⟩] W _) := Lib.hid (fun W hW => is_ok B R [91] r2 k h9 W hW)
              have K10 := Lib.hid (fun W hE hS => body_walk G B k sec HSec.out true r2 W hE hS)
              rw [← HO8.out] at K10
              clear hOo h9 hNm hb
              go_wp2_with fail
              refine (KL.out _).mono ?_
              rintro e w1 ⟨rfl, hB1⟩
              have ST1 := Lib.hid (HST1.out _ hB1)
              obtain ⟨c2, c3, f2, f3⟩ := (HST0.out.below hB1).sc.cells
              clear hB1
              go_wp2_with fail
              refine (K9.out _ ST1.out.sc).mono ?_
              rintro e w2 ⟨rfl, hS2, hG2⟩
              have ST2 := Lib.hid (ST1.out.step hG2 hS2)
              have HE2 := Lib.hid (HE.out.kept ST2.out.gr)
              clear hS2 hG2 c2 c3 f2 f3
              go_wp2_with fail
              refine (K10.out _ HE2.out ST2.out.sc).mono ?_
              rintro e w3 hP3
              cases o with
              | none =>
                obtain ⟨hG3, rfl⟩ := hP3
                exact ⟨rfl, .bad (ST2.out.gr.trans hG3) rfl⟩
              | some p =>
                obtain ⟨hG3, vp, vn, T, rfl, hT, hP, hS3⟩ := hP3
                obtain ⟨Ap, cp, rfl, hq1⟩ := id hP.path
                obtain ⟨An, cn, rfl, hq2⟩ := id hP.names
                clear hq1 hq2
                have ST3 := Lib.hid (ST2.out.step hG3 hS3)
                have HG3 := Lib.hid hG3
                have HT3 := Lib.hid hT
                have HP3 := Lib.hid hP
                have HS3 := Lib.hid hS3
                clear hG3 hT hP hS3 HO8 HHO K10
                obtain ⟨⟨b0, b1, b2, b3, b4, b5, b6, b7⟩, g0, g1, g2, g3, g4, g5, g6, g7⟩ := eight_cells ST3.out.res
                go_wp2
                refine bodyPost_ret (v := _) ?_ rfl (ItSt.fin2 ST2.out rfl HG3.out HT3.out HP3.out HS3.out (set8 _ _ _ _ _ _ _ _ _ _ _ _ _ _ _ _ _ _ _ ST3.out.res).2)
                rw [results_cell_one rfl]
                simp [go_sem, b0, b1, b2, b3, b4, b5, b6, b7]
            | none =>
              have HO8 := Lib.hid (show o = itemK Nm R by rw [hOo, h9])
              have HNm := Lib.hid hNm
              have K9 : Hid (∀ W, Scn W B R k → Calls Tryz.prog 68 #[scP B, .string ⟨#[91]⟩] W _) := Lib.hid (fun W hW => is_not B R [91] k h9 W hW)
              clear hOo h9 hNm hb
              go_wp2_with fail
              refine (KL.out _).mono ?_
              rintro e w1 ⟨rfl, hB1⟩
              have ST1 := Lib.hid (HST1.out _ hB1)
              obtain ⟨c2, c3, f2, f3⟩ := (HST0.out.below hB1).sc.cells
              clear hB1
              go_wp2_with fail
              refine (K9.out _ ST1.out.sc).mono ?_
              rintro e w2 ⟨rfl, hS2, hG2⟩
              have STk := Lib.hid (ST1.out.step hG2 hS2)
              clear hS2 hG2 c2 c3 f2 f3
              rw [← HNm.out]
              cases hk : knownN.contains Nm with
              | true =>
                have HK := Lib.hid hk
                have HO9 := Lib.hid (show o = some (plainItem Nm, R) by rw [HO8.out, itemK, if_pos hk])
                clear hk
                go_wp2_with fail
                refine (contains_lit _ _ knownN Nm _ (by decide) (fun j hj => ?lits)).mono ?_
                case lits => exact lit_cells _ knownN 9 j hj (by simp)
                rintro e w5 ⟨rfl, hw5⟩
                rw [HK.out]
                have st5 : ItSt w B k R w5 := by rw [hw5]; exact STk.out.below ((Below.refl _ _).alloc (Nat.le_refl _) _)
                have ST5 := Lib.hid st5
                clear hw5 st5
                go_wp2_with fail
                refine (must_walk B _).mono ?_
                rintro e w6 ⟨rfl, rfl⟩
                obtain ⟨⟨b0, b1, b2, b3, b4, b5, b6, b7⟩, g0, g1, g2, g3, g4, g5, g6, g7⟩ := eight_cells ST5.out.res
                go_wp2
                refine bodyPost_ret (v := _) ?_ rfl (ItSt.fin ST5.out HO9.out (set8 _ _ _ _ _ _ _ _ _ _ _ _ _ _ _ _ _ _ _ ST5.out.res).2)
                rw [results_cell_one rfl]
                simp [go_sem, b0, b1, b2, b3, b4, b5, b6, b7]
              | false =>
                have HK := Lib.hid hk
                have HO9 := Lib.hid (show o = none by rw [HO8.out, itemK, if_neg (by rw [hk]; decide)])
                clear hk
                go_wp2_with fail
                refine (contains_lit _ _ knownN Nm _ (by decide) (fun j hj => ?lits)).mono ?_
                case lits => exact lit_cells _ knownN 9 j hj (by simp)
                rintro e w5 ⟨rfl, hw5⟩
                rw [HK.out]
                have st5 : ItSt w B k R w5 := by rw [hw5]; exact STk.out.below ((Below.refl _ _).alloc (Nat.le_refl _) _)
                have ST5 := Lib.hid st5
                clear hw5 st5
                go_wp2_with fail
                refine (must_no B _).mono ?_
                rintro e w6 ⟨rfl, rfl⟩
                exact ⟨rfl, .bad ST5.out.gr HO9.out⟩
        · by_cases hjs : j < (str s).size
          · have h3 := HO.out hjs
            clear HO
            rcases h3 with e1 | e1 | e1
            all_goals
              have HO8 := Lib.hid (show o = itemK Nm R by rw [HHO.out, if_neg (by rintro (e | e); exact hnb e; exact hb e)])
              have n1 : ((str Nm).toList == [66, 79, 68, 89]) = false := str_neb hnb
              have n2 : ((str Nm).toList == [66, 79, 68, 89, 46, 80, 69, 69, 75]) = false := str_neb hb
              have n3 : ¬ (str Nm).toList = [66, 79, 68, 89] := str_ne hnb
              have n4 : ¬ (str Nm).toList = [66, 79, 68, 89, 46, 80, 69, 69, 75] := str_ne hb
              go_wp2_with fail
              refine (KL.out _).mono ?_
              rintro e w1 ⟨rfl, hB1⟩
              have STk := Lib.hid (HST1.out _ hB1)
              obtain ⟨c2, c3, f2, f3⟩ := (HST0.out.below hB1).sc.cells
              clear hB1
              cases hk : knownN.contains Nm with
              | true =>
                have HK := Lib.hid hk
                have HO9 := Lib.hid (show o = some (plainItem Nm, R) by rw [HO8.out, itemK, if_pos hk])
                clear hk
                go_wp2_with fail
                refine (contains_lit _ _ knownN Nm _ (by decide) (fun j hj => ?lits)).mono ?_
                case lits => exact lit_cells _ knownN 9 j hj (by simp)
                rintro e w5 ⟨rfl, hw5⟩
                rw [HK.out]
                have st5 : ItSt w B k R w5 := by rw [hw5]; exact STk.out.below ((Below.refl _ _).alloc (Nat.le_refl _) _)
                have ST5 := Lib.hid st5
                clear hw5 st5
                go_wp2_with fail
                refine (must_walk B _).mono ?_
                rintro e w6 ⟨rfl, rfl⟩
                obtain ⟨⟨b0, b1, b2, b3, b4, b5, b6, b7⟩, g0, g1, g2, g3, g4, g5, g6, g7⟩ := eight_cells ST5.out.res
                go_wp2
                refine bodyPost_ret (v := _) ?_ rfl (ItSt.fin ST5.out HO9.out (set8 _ _ _ _ _ _ _ _ _ _ _ _ _ _ _ _ _ _ _ ST5.out.res).2)
                rw [results_cell_one rfl]
                simp [go_sem, b0, b1, b2, b3, b4, b5, b6, b7]
              | false =>
                have HK := Lib.hid hk
                have HO9 := Lib.hid (show o = none by rw [HO8.out, itemK, if_neg (by rw [hk]; decide)])
                clear hk
                go_wp2_with fail
                refine (contains_lit _ _ knownN Nm _ (by decide) (fun j hj => ?lits)).mono ?_
                case lits => exact lit_cells _ knownN 9 j hj (by simp)
                rintro e w5 ⟨rfl, hw5⟩
                rw [HK.out]
                have st5 : ItSt w B k R w5 := by rw [hw5]; exact STk.out.below ((Below.refl _ _).alloc (Nat.le_refl _) _)
                have ST5 := Lib.hid st5
                clear hw5 st5
                go_wp2_with fail
                refine (must_no B _).mono ?_
                rintro e w6 ⟨rfl, rfl⟩
                exact ⟨rfl, .bad ST5.out.gr HO9.out⟩
          · clear HO
            have HO8 := Lib.hid (show o = itemK Nm R by rw [HHO.out, if_neg (by rintro (e | e); exact hnb e; exact hb e)])
            have n1 : ((str Nm).toList == [66, 79, 68, 89]) = false := str_neb hnb
            have n2 : ((str Nm).toList == [66, 79, 68, 89, 46, 80, 69, 69, 75]) = false := str_neb hb
            have n3 : ¬ (str Nm).toList = [66, 79, 68, 89] := str_ne hnb
            have n4 : ¬ (str Nm).toList = [66, 79, 68, 89, 46, 80, 69, 69, 75] := str_ne hb
            go_wp2_with fail
            refine (KL.out _).mono ?_
            rintro e w1 ⟨rfl, hB1⟩
            have STk := Lib.hid (HST1.out _ hB1)
            obtain ⟨c2, c3, f2, f3⟩ := (HST0.out.below hB1).sc.cells
            clear hB1
            cases hk : knownN.contains Nm with
            | true =>
              have HK := Lib.hid hk
              have HO9 := Lib.hid (show o = some (plainItem Nm, R) by rw [HO8.out, itemK, if_pos hk])
              clear hk
              go_wp2_with fail
              refine (contains_lit _ _ knownN Nm _ (by decide) (fun j hj => ?lits)).mono ?_
              case lits => exact lit_cells _ knownN 9 j hj (by simp)
              rintro e w5 ⟨rfl, hw5⟩
              rw [HK.out]
              have st5 : ItSt w B k R w5 := by rw [hw5]; exact STk.out.below ((Below.refl _ _).alloc (Nat.le_refl _) _)
              have ST5 := Lib.hid st5
              clear hw5 st5
              go_wp2_with fail
              refine (must_walk B _).mono ?_
              rintro e w6 ⟨rfl, rfl⟩
              obtain ⟨⟨b0, b1, b2, b3, b4, b5, b6, b7⟩, g0, g1, g2, g3, g4, g5, g6, g7⟩ := eight_cells ST5.out.res
              go_wp2
              refine bodyPost_ret (v := _) ?_ rfl (ItSt.fin ST5.out HO9.out (set8 _ _ _ _ _ _ _ _ _ _ _ _ _ _ _ _ _ _ _ ST5.out.res).2)
              rw [results_cell_one rfl]
              simp [go_sem, b0, b1, b2, b3, b4, b5, b6, b7]
            | false =>
              have HK := Lib.hid hk
              have HO9 := Lib.hid (show o = none by rw [HO8.out, itemK, if_neg (by rw [hk]; decide)])
              clear hk
              go_wp2_with fail
              refine (contains_lit _ _ knownN Nm _ (by decide) (fun j hj => ?lits)).mono ?_
              case lits => exact lit_cells _ knownN 9 j hj (by simp)
              rintro e w5 ⟨rfl, hw5⟩
              rw [HK.out]
              have st5 : ItSt w B k R w5 := by rw [hw5]; exact STk.out.below ((Below.refl _ _).alloc (Nat.le_refl _) _)
              have ST5 := Lib.hid st5
              clear hw5 st5
              go_wp2_with fail
              refine (must_no B _).mono ?_
              rintro e w6 ⟨rfl, rfl⟩
              exact ⟨rfl, .bad ST5.out.gr HO9.out⟩
end Go.Proofs.YtgmfhldfdnnafaaGreatDoor
namespace Go.Proofs.YtgmfhldfdnnafaaGreatDoor
open Go.RowKit
open Pl (Bs idxB numOk numN setOk setL)
set_option linter.unusedSimpArgs false
set_option linter.unusedVariables false
/-- what reads something: what is left, and how many keys were read -/
abbrev Rd (α : Type) := Bs → Nat → Option (α × Bs × Nat)
def loopR {α : Type} (one : Rd α) : Nat → Rd (List α)
  | 0, _, _ => none
  | m + 1, l, k => match isB [41] l with
    | some r => some ([], r, k)
    | none => match isB [32] l with
      | none => none
      | some l1 => match one l1 k with
        | none => none
        | some (x, l2, k2) => (loopR one m l2 k2).map fun p => (x :: p.1, p.2)
def listR {α : Type} (one : Rd α) (l : Bs) (k : Nat) : Option (List α × Bs × Nat) :=
  match isB [40] l with
  | none => none
  | some l1 => match one l1 k with
    | none => none
    | some (x, l2, k2) => (loopR one (l2.length + 1) l2 k2).map fun p => (x :: p.1, p.2)
/-- how far a list has come -/
structure LstSt {α : Type} (one : Rd α) (o : Option (List α × Bs × Nat)) (acc : List α) (s : Bs) (k m : Nat) : Prop where
  room : s.length < m
  cnt : acc.length + m ≤ 1000002
  spec : o = (loopR one m s k).map fun p => (acc ++ p.1, p.2)
theorem LstSt.bad {α : Type} {one : Rd α} {o : Option (List α × Bs × Nat)} {acc : List α} {s : Bs} {k m : Nat} (h : LstSt one o acc s k m) (h1 : isB [41] s = none) (h2 : isB [32] s = none) : o = none := by
  cases m with
  | zero => exact absurd h.room (Nat.not_lt_zero _)
  | succ m => rw [h.spec, loopR, h1]; simp only [h2]; rfl
theorem LstSt.bad2 {α : Type} {one : Rd α} {o : Option (List α × Bs × Nat)} {acc : List α} {s r : Bs} {k m : Nat} (h : LstSt one o acc s k m) (h1 : isB [41] s = none) (h2 : isB [32] s = some r) (h3 : one r k = none) : o = none := by
  cases m with
  | zero => exact absurd h.room (Nat.not_lt_zero _)
  | succ m => rw [h.spec, loopR, h1]; simp only [h2, h3]; rfl
theorem LstSt.fin {α : Type} {one : Rd α} {o : Option (List α × Bs × Nat)} {acc : List α} {s r : Bs} {k m : Nat} (h : LstSt one o acc s k m) (h1 : isB [41] s = some r) : o = some (acc, r, k) := by
  cases m with
  | zero => exact absurd h.room (Nat.not_lt_zero _)
  | succ m => rw [h.spec, loopR, h1]; simp
theorem LstSt.next {α : Type} {one : Rd α} {o : Option (List α × Bs × Nat)} {acc : List α} {s r s2 : Bs} {k k2 m : Nat} {x : α} (h : LstSt one o acc s k m) (h1 : isB [41] s = none) (h2 : isB [32] s = some r) (h3 : one r k = some (x, s2, k2)) (hl : s2.length ≤ r.length) : ∃ m2, m = m2 + 1 ∧ LstSt one o (acc ++ [x]) s2 k2 m2 := by
  cases m with
  | zero => exact absurd h.room (Nat.not_lt_zero _)
  | succ m =>
    refine ⟨m, rfl, by have := h.room; have := isB_len h2; simp only [List.length_singleton] at this; omega, by have := h.cnt; rw [List.length_append, List.length_singleton]; omega, ?_⟩
    rw [h.spec, loopR, h1]
    simp only [h2, h3]
    rw [Option.map_map]
    congr 1
    funext p
    simp
def leftLen (B : Nat) (W : World) : Nat := match W.cell? ⟨B, 0, none⟩ with | some (.string s) => s.size | _ => 0
theorem left_len {W : World} {B k : Nat} {s : Bs} (h : Scn W B s k) : leftLen B W = s.length := by rw [leftLen, h.cells.1]; exact str_size s
/-- what a closure does that reads one thing more -/
def OneStep {α : Type} (G : Glob) (B : Nat) (f : FuncId) (caps : Array Value) (one : Rd α) (J : List α → World → Prop) (F : World → Prop) : Prop :=
  ∀ (acc : List α) (s : Bs) (k : Nat) (W : World), acc.length ≤ 1000002 → J acc W → EnvI G W B → Scn W B s k → Calls Tryz.prog f caps W fun e W' => match one s k with
    | none => e = .panicked [wrongE] ∧ F W'
    | some p => e = .returned (.tuple #[]) ∧ Scn W' B p.2.1 p.2.2 ∧ J (acc ++ [p.1]) W'
def LstPost {α : Type} (B : Nat) (J : List α → World → Prop) (F : World → Prop) (o : Option (List α × Bs × Nat)) (e : Ending) (w' : World) : Prop :=
  match o with
  | none => e = .panicked [wrongE] ∧ F w'
  | some p => e = .returned (.tuple #[]) ∧ Scn w' B p.2.1 p.2.2 ∧ J p.1 w'
theorem LstPost.bad {α : Type} {B : Nat} {J : List α → World → Prop} {F : World → Prop} {o : Option (List α × Bs × Nat)} {w' : World} (ho : o = none) (h : F w') : LstPost B J F o (.panicked [wrongE]) w' := by subst ho; exact ⟨rfl, h⟩
theorem LstPost.fin {α : Type} {B : Nat} {J : List α → World → Prop} {F : World → Prop} {o : Option (List α × Bs × Nat)} {w' : World} {p : List α × Bs × Nat} (ho : o = some p) (h : Scn w' B p.2.1 p.2.2) (hj : J p.1 w') : LstPost B J F o (.returned (.tuple #[])) w' := by subst ho; exact ⟨rfl, h, hj⟩
set_option maxHeartbeats 2000000 in
set_option maxRecDepth 100000 in
theorem list_walk {α : Type} (G : Glob) (B : Nat) (f : FuncId) (caps : Array Value) (one : Rd α) (J : List α → World → Prop) (F : World → Prop)
    (hfn : ∀ W, (callFunc f caps).run Tryz.prog W = .ok (.enter f caps) W)
    (hone : OneStep G B f caps one J F) (hlen : ∀ s k p, one s k = some p → p.2.1.length ≤ s.length)
    (hJ : ∀ acc W W', J acc W → W.grownBy W' (some B) → J acc W') (hF : ∀ acc W, J acc W → F W) (hE : ∀ acc W, J acc W → EnvI G W B)
    (s : Bs) (k : Nat) (w : World) (h0 : J [] w) (hS : Scn w B s k) :
    Calls Tryz.prog 72 #[scP B, .func (.func f) #[] caps] w (LstPost B J F (listR one s k)) := by
  have HOne := Lib.hid hone
  have HJ := Lib.hid hJ
  have HF := Lib.hid hF
  have HE := Lib.hid hE
  have H0 := Lib.hid h0
  have HLen := Lib.hid hlen
  have hO : listR one s k = match isB [40] s with
    | none => none
    | some l1 => match one l1 k with
      | none => none
      | some (x, l2, k2) => (loopR one (l2.length + 1) l2 k2).map fun p => (x :: p.1, p.2) := rfl
  generalize listR one s k = o at *
  clear hone hJ hF hE h0 hlen
  cases h1 : isB [40] s with
  | none =>
    rw [h1] at hO
    have HO := Lib.hid hO
    have K1 : Hid (Calls Tryz.prog 68 #[scP B, .string ⟨#[40]⟩] w _) := Lib.hid (is_not B s [40] k h1 w hS)
    clear hO h1 hS
    go_enter Tryz.func72, Tryz.ntmps72
    go_wp2_with fail
    refine K1.out.mono ?_
    rintro e w1 ⟨rfl, hS1, hG1⟩
    have HF1 := Lib.hid (HF.out _ _ (HJ.out _ _ _ H0.out hG1))
    clear hS1 hG1
    go_wp2_with fail
    refine (must_no B _).mono ?_
    rintro e w' ⟨rfl, rfl⟩
    exact ⟨rfl, .bad HO.out HF1.out⟩
  | some s1 =>
    rw [h1] at hO
    have K1 : Hid (Calls Tryz.prog 68 #[scP B, .string ⟨#[40]⟩] w _) := Lib.hid (is_ok B s [40] s1 k h1 w hS)
    have K2 := Lib.hid (fun W hW hE hS => HOne.out [] s1 k W (Nat.zero_le _) hW hE hS)
    cases h2 : one s1 k with
    | none =>
      simp only [h2] at hO K2
      have HO := Lib.hid hO
      clear hO h1 h2 hS
      go_enter Tryz.func72, Tryz.ntmps72
      go_wp2_with fail
      refine K1.out.mono ?_
      rintro e w1 ⟨rfl, hS1, hG1⟩
      have HJ1 := Lib.hid (HJ.out _ _ _ H0.out hG1)
      have HS1 := Lib.hid hS1
      clear hS1 hG1
      go_wp2_with fail
      refine (must_walk B _).mono ?_
      rintro e w' ⟨rfl, rfl⟩
      go_wp2_with fail
      refine (K2.out _ HJ1.out (HE.out _ _ HJ1.out) HS1.out).mono ?_
      rintro e w2 ⟨rfl, hF2⟩
      exact ⟨rfl, .bad HO.out hF2⟩
    | some p =>
      obtain ⟨x, s2, k2⟩ := p
      simp only [h2] at hO K2
      have HQ : Hid (LstSt one o [x] s2 k2 (s2.length + 1)) := Lib.hid ⟨Nat.lt_succ_self _, by have := HLen.out _ _ _ h2; have e1 := isB_len h1; have := hS.small; simp only [List.length_singleton] at *; omega, hO⟩
      clear hO h1 h2 hS
      go_enter Tryz.func72, Tryz.ntmps72
      go_wp2_with fail
      refine K1.out.mono ?_
      rintro e w1 ⟨rfl, hS1, hG1⟩
      have HJ1 := Lib.hid (HJ.out _ _ _ H0.out hG1)
      have HS1 := Lib.hid hS1
      clear hS1 hG1
      go_wp2_with fail
      refine (must_walk B _).mono ?_
      rintro e w' ⟨rfl, rfl⟩
      go_wp2_with fail
      refine (K2.out _ HJ1.out (HE.out _ _ HJ1.out) HS1.out).mono ?_
      rintro e w2 ⟨rfl, hS2, hJ2⟩
      have HS2 := Lib.hid hS2
      have HJ2 := Lib.hid hJ2
      clear hS2 hJ2 K1 K2 HS1 HJ1 H0
      generalize s2.length + 1 = m at HQ
      go_wp2
      go_loopw [] (fun wr => ∃ (acc : List α) (s : Bs) (k m : Nat), Hid (LstSt one o acc s k m) ∧ Hid (Scn wr B s k) ∧ Hid (J acc wr)) (fun wr => leftLen B wr)
      case atStart => exact ⟨[x], s2, k2, m, HQ, HS2, HJ2⟩
      case round =>
        obtain ⟨acc, s3, k3, m3, HQ3, HS3, HJ3⟩ := hrel
        have hL0 := left_len HS3.out
        have HL0 := Lib.hid hL0
        clear hL0
        cases h3 : isB [41] s3 with
        | some r =>
          have K3 : Hid (∀ W, Scn W B s3 k3 → Calls Tryz.prog 68 #[scP B, .string ⟨#[41]⟩] W _) := Lib.hid (fun W hW => is_ok B s3 [41] r k3 h3 W hW)
          have HO := Lib.hid (HQ3.out.fin h3)
          clear h3
          go_wp2_with fail
          refine (K3.out _ HS3.out).mono ?_
          rintro e w4 ⟨rfl, hS4, hG4⟩
          have HS4 := Lib.hid hS4
          have HJ4 := Lib.hid (HJ.out _ _ _ HJ3.out hG4)
          clear hS4 hG4
          go_wp2
          go_end0
          exact .fin HO.out HS4.out HJ4.out
        | none =>
          have K3 : Hid (∀ W, Scn W B s3 k3 → Calls Tryz.prog 68 #[scP B, .string ⟨#[41]⟩] W _) := Lib.hid (fun W hW => is_not B s3 [41] k3 h3 W hW)
          cases h4 : isB [32] s3 with
          | none =>
            have K4 := Lib.hid (fun W hW => blank_no B s3 k3 h4 W hW)
            have HO := Lib.hid (HQ3.out.bad h3 h4)
            clear h3 h4
            go_wp2_with fail
            refine (K3.out _ HS3.out).mono ?_
            rintro e w4 ⟨rfl, hS4, hG4⟩
            have HS4 := Lib.hid hS4
            have HJ4 := Lib.hid (HJ.out _ _ _ HJ3.out hG4)
            clear hS4 hG4
            go_wp2_with fail
            refine (K4.out _ HS4.out).mono ?_
            rintro e w5 ⟨rfl, hG5⟩
            exact ⟨rfl, .bad HO.out (HF.out _ _ (HJ.out _ _ _ HJ4.out hG5))⟩
          | some s4 =>
            have K4 := Lib.hid (fun W hW => blank_ok B s3 s4 k3 h4 W hW)
            have K5 := Lib.hid (fun W hW hE hS => HOne.out acc s4 k3 W (by have := HQ3.out.cnt; omega) hW hE hS)
            cases h5 : one s4 k3 with
            | none =>
              have HO := Lib.hid (HQ3.out.bad2 h3 h4 h5)
              simp only [h5] at K5
              clear h3 h4 h5
              go_wp2_with fail
              refine (K3.out _ HS3.out).mono ?_
              rintro e w4 ⟨rfl, hS4, hG4⟩
              have HS4 := Lib.hid hS4
              have HJ4 := Lib.hid (HJ.out _ _ _ HJ3.out hG4)
              clear hS4 hG4
              go_wp2_with fail
              refine (K4.out _ HS4.out).mono ?_
              rintro e w5 ⟨rfl, hS5, hG5⟩
              have HS5 := Lib.hid hS5
              have HJ5 := Lib.hid (HJ.out _ _ _ HJ4.out hG5)
              clear hS5 hG5
              go_wp2_with fail
              refine (K5.out _ HJ5.out (HE.out _ _ HJ5.out) HS5.out).mono ?_
              rintro e w6 ⟨rfl, hF6⟩
              exact ⟨rfl, .bad HO.out hF6⟩
            | some p =>
              obtain ⟨y, s5, k5⟩ := p
              have hls := HLen.out _ _ _ h5
              obtain ⟨m5, hm5, hQ5⟩ := HQ3.out.next h3 h4 h5 hls
              have HQ5 := Lib.hid hQ5
              have HLt := Lib.hid (show s5.length < s3.length by have := isB_len h4; simp only [List.length_singleton] at this; simp only at hls; omega)
              simp only [h5] at K5
              clear h3 h4 h5 hls hm5 hQ5
              go_wp2_with fail
              refine (K3.out _ HS3.out).mono ?_
              rintro e w4 ⟨rfl, hS4, hG4⟩
              have HS4 := Lib.hid hS4
              have HJ4 := Lib.hid (HJ.out _ _ _ HJ3.out hG4)
              clear hS4 hG4
              go_wp2_with fail
              refine (K4.out _ HS4.out).mono ?_
              rintro e w5 ⟨rfl, hS5, hG5⟩
              have HS5 := Lib.hid hS5
              have HJ5 := Lib.hid (HJ.out _ _ _ HJ4.out hG5)
              clear hS5 hG5
              go_wp2_with fail
              refine (K5.out _ HJ5.out (HE.out _ _ HJ5.out) HS5.out).mono ?_
              rintro e w6 ⟨rfl, hS6, hJ6⟩
              have HS6 := Lib.hid hS6
              have HJ6 := Lib.hid hJ6
              clear hS6 hJ6
              go_wp2
              go_roundw
              case rel => exact ⟨_, _, _, _, HQ5, HS6, HJ6⟩
              case measure => rw [HL0.out, left_len HS6.out]; exact HLt.out
end Go.Proofs.YtgmfhldfdnnafaaGreatDoor
namespace Go.Proofs.YtgmfhldfdnnafaaGreatDoor
open Go.RowKit
open Pl (Bs idxB numOk numN setOk setL)
attribute [local go_sem ↓] Go.wp_at_zero Go.wp_at_succ
set_option linter.unusedSimpArgs false
set_option linter.unusedVariables false
theorem infoItem : (Tryz.prog.info? 78).map (fun i => (i.zero, i.size, i.bytes)) = some (some (.agg #[.string ⟨#[]⟩, .slice none 0 0, .string ⟨#[]⟩, .slice none 0 0, .bool false, .bool false, .int .i64 0, .int .i64 0]), 8, 104) := by kernel_rfl
theorem itemB_len (sec : Bs → Option SpecP) {s : Bs} {p : ItemP × Bs} (h : itemB sec s = some p) : p.2.length ≤ s.length := by
  have hd : (s.drop (s.takeWhile endI).length).length ≤ s.length := by rw [List.length_drop]; omega
  have hb : ∀ (pk : Bool) (r : Bs) (p : ItemP × Bs), bodyB sec pk r = some p → p.2.length ≤ r.length := by
    intro pk r p h
    unfold bodyB at h
    split at h
    · cases h
    · rename_i X r1 h1
      have e1 := upToB_len h1
      split at h
      · cases h
      · cases hq : bodyPart r1 with
        | none => rw [hq] at h; cases h
        | some q =>
          rw [hq] at h
          simp only [Option.map_some, Option.some.injEq] at h
          subst h
          dsimp only
          unfold bodyPart at hq
          split at hq
          · cases hq; dsimp only; omega
          · rename_i r2 h2
            have e2 := isB_len h2
            simp only [List.length_singleton] at e2
            split at hq
            · cases hq
            · rename_i d1 r3 h3
              have e3 := upToB_len h3
              split at hq
              · cases hq
              · split at hq
                · cases hq
                · rename_i d2 r4 h4
                  have e4 := upToB_len h4
                  split at hq
                  · cases hq
                  · split at hq
                    · cases hq; dsimp only; omega
                    · cases hq
  unfold itemB at h
  split at h
  · split at h
    · rename_i r2 h2
      have := isB_len h2
      have := hb _ _ _ h
      omega
    · rw [itemK_len h]; exact hd
  · rw [itemK_len h]; exact hd
/-- the items read so far -/
structure ItemsSt (w0 : World) (B bo br base : Nat) (acc : List ItemP) (u : Value) (cs : List Value) (T : Nat → Prop) (W : World) : Prop where
  gr : w0.grownBy W (some B)
  box : W.heap[br]? = some (Obj.cells #[scP B] 62)
  out : W.heap[bo]? = some (Obj.cells #[u] 30)
  own : W.ownsRow base 78 8 u acc.length cs
  its : ItemsC W T acc cs
  fr : ∀ i, T i → base ≤ i ∧ i < W.heap.size ∧ u.ownBlock ≠ some i
  lt : B < base ∧ bo < base ∧ br < base ∧ B ≠ bo ∧ B ≠ br ∧ w0.heap.size ≤ bo ∧ w0.heap.size ≤ br ∧ base ≤ W.heap.size
theorem ItemsSt.step {w0 : World} {B bo br base : Nat} {acc : List ItemP} {u : Value} {cs : List Value} {T : Nat → Prop} {W W1 : World} (st : ItemsSt w0 B bo br base acc u cs T W) (hG : W.grownBy W1 (some B)) : ItemsSt w0 B bo br base acc u cs T W1 := by
  obtain ⟨h1, h2, h3, h4, h5, h6, h7, h8⟩ := st.lt
  have hk : ∀ i o, W.heap[i]? = some o → i ≠ B → W1.heap[i]? = some o := fun i o hi hne => (hG.block i (Array.getElem?_eq_some_iff.1 hi).1 (fun e => hne (Option.some.inj e))).trans hi
  have hz := hG.size
  refine ⟨st.gr.trans hG, hk _ _ st.box (by omega), hk _ _ st.out (by omega), own_kept st.own hG h1, st.its.kept (fun i hi => ?_), fun i hi => ?_, h1, h2, h3, h4, h5, h6, h7, by omega⟩
  · have := st.fr i hi; exact hG.block i this.2.1 (fun e => by have := Option.some.inj e; omega)
  · have := st.fr i hi; exact ⟨this.1, by omega, this.2.2⟩
theorem ItemsSt.draw {w0 : World} {B bo br base : Nat} {acc : List ItemP} {u : Value} {cs : List Value} {T : Nat → Prop} {W : World} (st : ItemsSt w0 B bo br base acc u cs T W) : ItemsSt w0 B bo br base acc u cs T W.drew := st.step ⟨rfl, rfl, rfl, Nat.le_refl _, fun _ _ _ => rfl⟩
/-- behind the append of one more -/
theorem ItemsSt.app {w0 : World} {B bo br base : Nat} {acc : List ItemP} {u : Value} {cs : List Value} {T T1 : Nat → Prop} {W0 W1 W9 : World} {o : Obj} {x : ItemP} {vp vn : Value} {g cap : Nat}
    (st : ItemsSt w0 B bo br base acc u cs T W1) (hT : Fresh T1 W0 W1) (h0 : ∀ k, u.ownBlock = some k → k < W0.heap.size) (hb0 : base ≤ W0.heap.size) (hP : SpecAt W1 T1 vp vn x.spec)
    (hown : W9.ownsRow base 78 8 (.slice (some ⟨g, 0, none⟩) (acc.length + 1) cap) (acc.length + 1) (cs ++ itemC vp vn x)) (hgr : (W1.alloc o).grownBy W9 u.ownBlock) (hat : u.ownBlock = some g ∨ g = W1.heap.size + 1) (hg9 : g < W9.heap.size) :
    ItemsSt w0 B bo br base (acc ++ [x]) (.slice (some ⟨g, 0, none⟩) (acc.length + 1) cap) (cs ++ itemC vp vn x) (fun i => T i ∨ T1 i) (W9.setCell ⟨bo, 0, none⟩ (.slice (some ⟨g, 0, none⟩) (acc.length + 1) cap)) := by
  obtain ⟨h1, h2, h3, h4, h5, h6, h7, h8⟩ := st.lt
  have hz := hgr.size
  simp at hz
  have hu : ∀ k, u.ownBlock = some k → base ≤ k := fun k e => (st.own.lt k e).1
  have hal : ∀ i, i < W1.heap.size → (W1.alloc o).heap[i]? = W1.heap[i]? := fun i hi => Below.heap_alloc _ _ _ (by omega)
  have hbl : ∀ i, i < W1.heap.size → u.ownBlock ≠ some i → W9.heap[i]? = W1.heap[i]? := fun i hi hne => (hgr.block i (by simp; omega) (fun e => hne e.symm)).trans (hal i hi)
  have hset : ∀ i, i ≠ bo → (W9.setCell ⟨bo, 0, none⟩ (.slice (some ⟨g, 0, none⟩) (acc.length + 1) cap)).heap[i]? = W9.heap[i]? := fun i hi => Below.heap_setCell _ _ _ _ (by dsimp only; omega)
  have hbo : bo < W1.heap.size := (Array.getElem?_eq_some_iff.1 st.out).1
  have hbr : br < W1.heap.size := (Array.getElem?_eq_some_iff.1 st.box).1
  have hall : ∀ i, (T i ∨ T1 i) → base ≤ i ∧ i < W1.heap.size ∧ u.ownBlock ≠ some i := fun i hi => by
    rcases hi with hi | hi
    · exact st.fr i hi
    · have := hT i hi; exact ⟨by omega, this.2, fun e => by have := h0 i e; omega⟩
  refine ⟨?_, ?_, ?_, ?_, ?_, fun i hi => ?_, h1, h2, h3, h4, h5, h6, h7, by simp; omega⟩
  · refine grown_new (grown_new (grown_new st.gr (World.grownBy_alloc W1 o none) (fun k e => by cases e)) hgr (fun k e => .inl (by have := hu k e; omega))) (grown_put W9 bo 0 _) (fun k e => .inl (by have := Option.some.inj e; omega))
  · exact (hset br (fun e => by
      have e1 := st.box; have e2 := st.out
      rw [e] at e1; rw [e1] at e2
      simp at e2)).trans ((hbl br hbr (fun e => by have := hu br e; omega)).trans st.box)
  · have e9 := (hbl bo hbo (fun e => by have := hu bo e; omega)).trans st.out
    exact (setCell_heap_same e9).trans rfl
  · rw [List.length_append]
    exact ownsRow_setCell_below hown (by dsimp only; omega) _
  · refine ItemsC.kept (w := W1) (ItemsC.snoc (st.its.more (fun i hi => .inl hi)) (hP.more (fun i hi => .inr hi))) (fun i hi => ?_)
    have := hall i hi
    exact (hset i (by omega)).trans (hbl i this.2.1 this.2.2)
  · have := hall i hi
    refine ⟨this.1, by simp; omega, fun e => ?_⟩
    have e' : g = i := by simpa [Value.ownBlock] using e
    rcases hat with h | h
    · exact this.2.2 (by rw [h, e'])
    · omega
def itS (bo br B : Nat) (u : Value) (W : World) : Prop := W.cell? ⟨bo, 0, none⟩ = some u ∧ W.cell? ⟨br, 0, none⟩ = some (scP B) ∧ W.frozen? ⟨bo, 0, none⟩ = false
theorem one_cells {w : World} {b : Nat} {t : TypeId} {x : Value} (h : w.heap[b]? = some (Obj.cells #[x] t)) : w.cell? ⟨b, 0, none⟩ = some x ∧ w.frozen? ⟨b, 0, none⟩ = false := by
  refine ⟨?_, ?_⟩ <;> simp [World.cell?, World.frozen?, h]
theorem ItemsSt.keep {w0 : World} {B bo br base : Nat} {acc : List ItemP} {u : Value} {cs : List Value} {T : Nat → Prop} {W : World} (st : ItemsSt w0 B bo br base acc u cs T W) : itS bo br B u W := ⟨(one_cells st.out).1, (one_cells st.box).1, (one_cells st.out).2⟩
theorem ItemsSt.keepA {w0 : World} {B bo br base : Nat} {acc : List ItemP} {u : Value} {cs : List Value} {T : Nat → Prop} {W : World} (st : ItemsSt w0 B bo br base acc u cs T W) (o : Obj) : itS bo br B u (W.alloc o) := by
  have h1 := (Below.heap_alloc W o _ (Array.getElem?_eq_some_iff.1 st.out).1).trans st.out
  have h2 := (Below.heap_alloc W o _ (Array.getElem?_eq_some_iff.1 st.box).1).trans st.box
  exact ⟨(one_cells h1).1, (one_cells h2).1, (one_cells h1).2⟩
theorem ItemsSt.keepR {w0 : World} {B bo br base : Nat} {acc : List ItemP} {u : Value} {cs : List Value} {T : Nat → Prop} {W W9 : World} {o : Obj} (st : ItemsSt w0 B bo br base acc u cs T W) (hgr : (W.alloc o).grownBy W9 u.ownBlock) : itS bo br B u W9 := by
  obtain ⟨h1, h2, h3, h4, h5, h6, h7, h8⟩ := st.lt
  have hu : ∀ k, u.ownBlock = some k → base ≤ k := fun k e => (st.own.lt k e).1
  have hk : ∀ i x, W.heap[i]? = some x → i < base → W9.heap[i]? = some x := fun i x hi hlt =>
    have hl := (Array.getElem?_eq_some_iff.1 hi).1
    (hgr.block i (by simp; omega) (fun e => by have := hu i e.symm; omega)).trans ((Below.heap_alloc W o _ hl).trans hi)
  have h1 := hk _ _ st.out h2
  have h2 := hk _ _ st.box h3
  exact ⟨(one_cells h1).1, (one_cells h2).1, (one_cells h1).2⟩
def itemR (sec : Bs → Option SpecP) : Rd ItemP := fun s k => (itemB sec s).map fun p => (p.1, p.2, k)
set_option maxHeartbeats 4000000 in
set_option maxRecDepth 100000 in
theorem itemsOne (G : Glob) (w0 : World) (B bo br base : Nat) (sec : Bs → Option SpecP) (hsec : SecCon G sec) :
    OneStep G B 103 #[.pointer (some ⟨bo, 0, none⟩), .pointer (some ⟨br, 0, none⟩)] (itemR sec) (fun acc W => ∃ u cs T, ItemsSt w0 B bo br base acc u cs T W) (fun W => w0.grownBy W (some B)) := by
  intro acc s k w hacc hJ hE hS
  obtain ⟨u, cs, T, hst⟩ := hJ
  obtain ⟨i0, hi, hz0, hz1, hz2⟩ := info_parts infoItem
  have K := Lib.hid (fun W hE hS => item_walk G B k sec hsec s W hE hS)
  have HST := Lib.hid hst
  have HSTD := Lib.hid hst.draw
  have HED : Hid (EnvI G w.drew B) := Lib.hid (hE.kept (grown_draws w 1 _))
  have HSD : Hid (Scn w.drew B s k) := Lib.hid (hS.draws 1)
  obtain ⟨c0, c1, f0⟩ := hst.keep
  obtain ⟨c2, c3, f2⟩ := hst.draw.keep
  have hR : itemR sec s k = (itemB sec s).map fun p => (p.1, p.2, k) := rfl
  generalize itemR sec s k = o at *
  clear hE hS hst hsec
  cases h1 : itemB sec s with
  | none =>
    simp only [h1] at K hR
    have HO := Lib.hid hR
    clear hR h1
    go_enter Tryz.func103, Tryz.ntmps103
    go_wp2_with fail
    refine wp_region_any (by kernel_rfl) ?_
    change wpAny _ _ _ _ _ _ _ (World.drew _)
    refine wpAny_ready (rs := [0, 1]) (by kernel_rfl) (by simp) ?_
    refine AllReady.cons rfl (fun K9 hK9 => ?_) ?_
    · go_simp
      refine hK9 _ _ ?_
      clear hK9 K9
      refine wpAny_ready (rs := [1]) (by kernel_rfl) (by simp) ?_
      refine AllReady.cons rfl (fun K9 hK9 => ?_) ?_
      · go_simp
        refine hK9 _ _ ?_
        clear hK9 K9
        refine wpAny_ready (rs := [2]) (by kernel_rfl) (by simp) ?_
        refine AllReady.cons rfl (fun K9 hK9 => ?_) ?_
        · go_simp
          refine (K.out _ HED.out HSD.out).mono ?_
          rintro e w' ⟨hG, rfl⟩
          exact ⟨rfl, by rw [HO.out]; exact ⟨rfl, HSTD.out.gr.trans hG⟩⟩
        exact AllReady.nil
      exact AllReady.nil
    refine AllReady.cons rfl (fun K9 hK9 => ?_) ?_
    · go_simp
      refine hK9 _ _ ?_
      clear hK9 K9
      refine wpAny_ready (rs := [0, 2]) (by kernel_rfl) (by simp) ?_
      refine AllReady.cons rfl (fun K9 hK9 => ?_) ?_
      · go_simp
        refine hK9 _ _ ?_
        clear hK9 K9
        refine wpAny_ready (rs := [2]) (by kernel_rfl) (by simp) ?_
        refine AllReady.cons rfl (fun K9 hK9 => ?_) ?_
        · go_simp
          refine (K.out _ HED.out HSD.out).mono ?_
          rintro e w' ⟨hG, rfl⟩
          exact ⟨rfl, by rw [HO.out]; exact ⟨rfl, HSTD.out.gr.trans hG⟩⟩
        exact AllReady.nil
      refine AllReady.cons rfl (fun K9 hK9 => ?_) ?_
      · go_simp
        refine (K.out _ HED.out HSD.out).mono ?_
        rintro e w' ⟨hG, rfl⟩
        exact ⟨rfl, by rw [HO.out]; exact ⟨rfl, HSTD.out.gr.trans hG⟩⟩
      exact AllReady.nil
    exact AllReady.nil
  | some p =>
    obtain ⟨x, r⟩ := p
    simp only [h1] at K hR
    have HO := Lib.hid hR
    clear hR h1
    go_enter Tryz.func103, Tryz.ntmps103
    go_wp2_with fail
    go_region_law (first
        | (go_simp; go_at_call 104; refine (K.out _ HED.out HSD.out).mono ?_; rintro e w1 ⟨hG, vp, vn, T1, rfl, hT, hP, hS⟩; obtain ⟨Ap, cp, rfl, hq1⟩ := id hP.path; obtain ⟨An, cn, rfl, hq2⟩ := id hP.names; clear hq1 hq2; have HST1 := Lib.hid (HSTD.out.step hG); have HT1 := Lib.hid hT; have HP1 := Lib.hid hP; have HS1 := Lib.hid hS; obtain ⟨d0, d1, e0⟩ := HST1.out.keep; have d4 := (fun o => (HST1.out.keepA o).1); have d5 := (fun o => (HST1.out.keepA o).2.1); have e4 := (fun o => (HST1.out.keepA o).2.2); clear hT hP hS hG)
        | (refine step_append_lies _ (by rfl) _ _ _ (by rfl) base 78 i0 (.agg #[.string ⟨#[]⟩, .slice none 0 0, .string ⟨#[]⟩, .slice none 0 0, .bool false, .bool false, .int .i64 0, .int .i64 0]) 8 104 Tryz.underlying30 hi hz0 hz1 hz2 (by rfl) (by decide) u acc.length cs (by rfl) (HST1.out.own.alloc _) ⟨w1.heap.size, 0, none⟩ 1 1 (itemC (.slice Ap x.spec.path.length cp) (.slice An x.spec.names.length cn) x) (by rfl) (by rfl) (World.news_of_block (World.alloc_heap_new w1 _)) (by simp [itemC, Value.oneCell']) (by decide) (by unfold maxLen; omega) (by omega) (by have := HST1.out.lt; simp; omega) (w1.heap.size + 1) (by simp) ?_; intro g cap w9 hown hgr hat hlt; obtain ⟨d2, d3, e2⟩ := HST1.out.keepR hgr))
    all_goals
      go_end0
      have hl := HSTD.out.lt
      rw [HO.out]
      refine ⟨rfl, ?_, _, _, _, HST1.out.app HT1.out (fun k e => (HSTD.out.own.lt k e).2) hl.2.2.2.2.2.2.2 HP1.out hown hgr hat hlt⟩
      have hS9 := ((HS1.out.then ((Below.refl _ _).alloc (Nat.le_refl _) _)).kept hgr (fun e => by have := (HST1.out.own.lt B e.symm).1; omega))
      exact hS9.kept (grown_put _ bo 0 _) (fun e => by have := Option.some.inj e; omega)
end Go.Proofs.YtgmfhldfdnnafaaGreatDoor
namespace Go.Proofs.YtgmfhldfdnnafaaGreatDoor
open Go.RowKit
open Pl (Bs idxB numOk numN setOk setL)
set_option linter.unusedSimpArgs false
set_option linter.unusedVariables false
theorem enter_fn {P : Program} {f : FuncId} {fn : Func} {c : Code} (hf : P.funcs[f]? = some fn) (hname : (fn.name == "runtime.NumGoroutine") = false) (hb : fn.body = some c) (args : Array Value) (w : World) :
    (callFunc f args).run P w = .ok (.enter f args) w := by
  have h1 : fn.name ≠ "runtime.NumGoroutine" := by simpa using hname
  simp [callFunc, hf, h1, hb]
theorem hasPre_yes {t l r : Bs} (h : isB t l = some r) (w : World) : Calls Tryz.prog 99 #[.string (str l), .string (str t)] w fun e w' => e = .returned (.bool true) ∧ w' = w := by
  have K := hasPre_walk21 (str l) (str t) w
  have p1 : Lib.hasPrefix (str l).data.toList (str t).data.toList = true := by rw [pre_isB, h]; rfl
  rw [p1] at K
  exact K
theorem hasPre_no {t l : Bs} (h : isB t l = none) (w : World) : Calls Tryz.prog 99 #[.string (str l), .string (str t)] w fun e w' => e = .returned (.bool false) ∧ w' = w := by
  have K := hasPre_walk21 (str l) (str t) w
  have p1 : Lib.hasPrefix (str l).data.toList (str t).data.toList = false := by rw [pre_isB, h]; rfl
  rw [p1] at K
  exact K
/-- all that is new between two worlds -/
def newT (w w' : World) : Nat → Prop := fun i => w.heap.size ≤ i ∧ i < w'.heap.size
theorem fresh_new (w w' : World) : Fresh (newT w w') w w' := fun _ h => h
def ItemsPost (w : World) (B : Nat) (o : Option (List ItemP × Bs × Nat)) (e : Ending) (w' : World) : Prop :=
  w.grownBy w' (some B) ∧ match o with
    | none => e = .panicked [wrongE]
    | some p => ∃ A c cs, e = .returned (.slice A p.1.length c) ∧ RowC w' (newT w w') (.slice A p.1.length c) p.1.length cs ∧ ItemsC w' (newT w w') p.1 cs ∧ Scn w' B p.2.1 p.2.2
set_option maxHeartbeats 4000000 in
set_option maxRecDepth 100000 in
theorem items_list (G : Glob) (B k : Nat) (sec : Bs → Option SpecP) (hsec : SecCon G sec) (s r0 : Bs) (hp : isB [40] s = some r0) (w : World) (hE : EnvI G w B) (h : Scn w B s k) :
    Calls Tryz.prog 77 #[scP B] w (ItemsPost w B (listR (itemR sec) s k)) := by
  have hmf : ∀ (fn : Fn) (first cap : Array Value) (w : World), (Instr.makeFunc fn first cap).run Tryz.prog w = .ok (.func fn first cap) w := fun _ _ _ _ => rfl
  have hlt := h.lt
  have HB1 := Lib.hid ((Below.refl w.heap.size w).alloc (Nat.le_refl _) (Obj.cells #[scP B] 62))
  have HS1 := Lib.hid (h.then HB1.out)
  have HX1 := Lib.hid (World.alloc_heap_new w (Obj.cells #[scP B] 62))
  obtain ⟨c0, c1, f0, f1⟩ := HS1.out.cells
  have K1 : Hid (∀ W, Calls Tryz.prog 99 #[.string (str s), .string ⟨#[40]⟩] W _) := Lib.hid (fun W => hasPre_yes hp W)
  obtain ⟨w2, hw2⟩ : ∃ w2, w2 = (w.alloc (Obj.cells #[scP B] 62)).alloc (Obj.cells #[.slice none 0 0] 30) := ⟨_, rfl⟩
  have hB2 : Below w.heap.size w w2 := by rw [hw2]; exact HB1.out.alloc (by simp) _
  have hz2 : w2.heap.size = w.heap.size + 2 := by rw [hw2]; simp
  have hx1 : w2.heap[w.heap.size]? = some (Obj.cells #[scP B] 62) := by rw [hw2]; exact (Below.heap_alloc _ _ _ (by simp)).trans HX1.out
  have hx2 : w2.heap[w.heap.size + 1]? = some (Obj.cells #[.slice none 0 0] 30) := by
    rw [hw2]; have := World.alloc_heap_new (w.alloc (Obj.cells #[scP B] 62)) (Obj.cells #[.slice none 0 0] 30); rw [World.size_alloc] at this; exact this
  have hS2 : Scn w2 B s k := h.then hB2
  have HSt : Hid (ItemsSt w B (w.heap.size + 1) w.heap.size (w.heap.size + 2) [] (.slice none 0 0) [] (fun _ => False) w2) := Lib.hid
    ⟨grown_below hB2 _, hx1, hx2, World.ownsRow_nil _ _ _ _, .nil, (fun i hi => hi.elim), by omega, by omega, by omega, by omega, by omega, by omega, by omega, by omega⟩
  have HG : Hid (∀ W, w.grownBy W (some B) → EnvI G W B) := Lib.hid (fun W hW => hE.kept hW)
  have K2 := Lib.hid (list_walk G B 103 #[.pointer (some ⟨w.heap.size + 1, 0, none⟩), .pointer (some ⟨w.heap.size, 0, none⟩)] (itemR sec) (fun acc W => ∃ u cs T, ItemsSt w B (w.heap.size + 1) w.heap.size (w.heap.size + 2) acc u cs T W) (fun W => w.grownBy W (some B))
    (fun W => enter_fn Tryz.func103 (by kernel_rfl) rfl _ W) (itemsOne G w B _ _ _ sec hsec)
    (fun s k p hp => by
      unfold itemR at hp
      cases hq : itemB sec s with
      | none => rw [hq] at hp; cases hp
      | some q => rw [hq] at hp; simp only [Option.map_some, Option.some.injEq] at hp; subst hp; exact itemB_len sec hq)
    (fun acc W W' hJ hG => by obtain ⟨u, cs, T, hst⟩ := hJ; exact ⟨u, cs, T, hst.step hG⟩)
    (fun acc W hJ => by obtain ⟨u, cs, T, hst⟩ := hJ; exact hst.gr)
    (fun acc W hJ => by obtain ⟨u, cs, T, hst⟩ := hJ; exact HG.out W hst.gr) s k w2 ⟨_, _, _, HSt.out⟩ hS2)
  generalize listR (itemR sec) s k = o at *
  have hw2' := hw2.symm
  have d1 := (one_cells hx1).1
  have d2 := (one_cells hx2).1
  clear hw2 hB2 hz2 hx1 hx2 hS2 HSt h hE hsec hp
  go_enter Tryz.func77, Tryz.ntmps77
  go_wp2_with fail
  refine (K1.out _).mono ?_
  rintro e w1 ⟨rfl, rfl⟩
  go_wp2_with fail
  refine K2.out.mono ?_
  rintro e w3 hP
  cases o with
  | none =>
    obtain ⟨rfl, hG⟩ := hP
    exact ⟨rfl, hG, rfl⟩
  | some p =>
    obtain ⟨rfl, hS3, u, cs, T, hst⟩ := hP
    have hu := (one_cells hst.out).1
    have HS3 := Lib.hid hS3
    have HST := Lib.hid hst
    obtain ⟨A, c, hv, _⟩ := rowC_own hst.own
    subst hv
    clear hS3 hst
    go_wp2
    go_ret
    have hz := HST.out.lt
    exact ⟨HST.out.gr, A, c, cs, rfl, (rowC_own HST.out.own).more (fun i hi => ⟨by omega, hi.2⟩), HST.out.its.more (fun i hi => ⟨by have := HST.out.fr i hi; omega, (HST.out.fr i hi).2.1⟩), HS3.out⟩
end Go.Proofs.YtgmfhldfdnnafaaGreatDoor
namespace Go.Proofs.YtgmfhldfdnnafaaGreatDoor
open Go.RowKit
open Pl (Bs idxB numOk numN setOk setL)
attribute [local go_sem ↓] Go.wp_at_zero Go.wp_at_succ
set_option linter.unusedSimpArgs false
set_option linter.unusedVariables false
/-- two blocks may have changed, all else that was there has not -/
structure R2 (B C : Nat) (w w' : World) : Prop where
  os : w'.os = w.os
  tape : w'.tape = w.tape
  output : w'.output = w.output
  size : w.heap.size ≤ w'.heap.size
  block : ∀ i, i < w.heap.size → i ≠ B → i ≠ C → w'.heap[i]? = w.heap[i]?
theorem R2.refl (B C : Nat) (w : World) : R2 B C w w := ⟨rfl, rfl, rfl, Nat.le_refl _, fun _ _ _ _ => rfl⟩
theorem R2.trans {B C : Nat} {w w1 w2 : World} (h : R2 B C w w1) (g : R2 B C w1 w2) : R2 B C w w2 :=
  ⟨g.os.trans h.os, g.tape.trans h.tape, g.output.trans h.output, Nat.le_trans h.size g.size, fun i hi h1 h2 => (g.block i (Nat.lt_of_lt_of_le hi h.size) h1 h2).trans (h.block i hi h1 h2)⟩
theorem R2.of {B C : Nat} {w w1 : World} (h : w.grownBy w1 (some B)) : R2 B C w w1 := ⟨h.os, h.tape, h.output, h.size, fun i hi h1 _ => h.block i hi (fun e => h1 (Option.some.inj e))⟩
theorem R2.ofC {B C : Nat} {w w1 : World} (h : w.grownBy w1 (some C)) : R2 B C w w1 := ⟨h.os, h.tape, h.output, h.size, fun i hi _ h2 => h.block i hi (fun e => h2 (Option.some.inj e))⟩
theorem EnvI.kept2 {G : Glob} {w w1 : World} {B C : Nat} (h : EnvI G w B) (hg : R2 B C w w1) (hC : 20 ≤ C) : EnvI G w1 B := by
  have ho := h.old
  have hl := h.lt
  have key : ∀ i : Nat, i < 20 → w1.heap[i]? = w.heap[i]? := fun i hi => hg.block i (by omega) (by omega) (by omega)
  exact ⟨(World.cell?_of_block (key _ (by decide))).trans h.form, (World.cell?_of_block (key _ (by decide))).trans h.range, (World.cell?_of_block (key _ (by decide))).trans h.max, ho, Nat.lt_of_lt_of_le hl hg.size, h.formI, h.rangeI⟩
abbrev cmP (C : Nat) : Value := .pointer (some ⟨C, 0, none⟩)
/-- rest's frame: the boxes of its two arguments, the scanner, the command -/
structure RsSt (w : World) (B C : Nat) (s : Bs) (k : Nat) (cs : Array Value) (W : World) : Prop where
  gr : R2 B C w W
  sc : Scn W B s k
  cmd : W.heap[C]? = some (Obj.cells cs 33)
  bx : W.heap[w.heap.size]? = some (Obj.cells #[scP B] 62)
  bc : W.heap[w.heap.size + 1]? = some (Obj.cells #[cmP C] 68)
  lt : B < w.heap.size ∧ C < w.heap.size ∧ B ≠ C
theorem RsSt.step {w : World} {B C k k1 : Nat} {s s1 : Bs} {cs : Array Value} {W W1 : World} (st : RsSt w B C s k cs W) (hG : W.grownBy W1 (some B)) (hS : Scn W1 B s1 k1) : RsSt w B C s1 k1 cs W1 := by
  obtain ⟨h1, h2, h3⟩ := st.lt
  have hk : ∀ i x, W.heap[i]? = some x → i ≠ B → W1.heap[i]? = some x := fun i x hi hne => (hG.block i (Array.getElem?_eq_some_iff.1 hi).1 (fun e => hne (Option.some.inj e))).trans hi
  exact ⟨st.gr.trans (.of hG), hS, hk _ _ st.cmd (by omega), hk _ _ st.bx (by omega), hk _ _ st.bc (by omega), h1, h2, h3⟩
theorem RsSt.draw {w : World} {B C k : Nat} {s : Bs} {cs : Array Value} {W : World} (st : RsSt w B C s k cs W) : RsSt w B C s k cs W.drew := st.step ⟨rfl, rfl, rfl, Nat.le_refl _, fun _ _ _ => rfl⟩ (st.sc.draws 1)
theorem RsSt.setC {w : World} {B C k : Nat} {s : Bs} {cs : Array Value} {W : World} (st : RsSt w B C s k cs W) (i : Nat) (v : Value) : RsSt w B C s k (cs.setIfInBounds i v) (W.setCell ⟨C, i, none⟩ v) := by
  obtain ⟨h1, h2, h3⟩ := st.lt
  exact ⟨st.gr.trans (.ofC (grown_put W C i v)), st.sc.kept (grown_put W C i v) (fun e => h3 (Option.some.inj e)), setCell_heap_same st.cmd, (Below.heap_setCell _ _ _ _ (by dsimp only; omega)).trans st.bx, (Below.heap_setCell _ _ _ _ (by dsimp only; omega)).trans st.bc, h1, h2, h3⟩
theorem RsSt.cell {w : World} {B C k : Nat} {s : Bs} {cs : Array Value} {W : World} (st : RsSt w B C s k cs W) {i : Nat} {v : Value} (hi : cs[i]? = some v) : W.cell? ⟨C, i, none⟩ = some v ∧ W.frozen? ⟨C, i, none⟩ = false := by
  have h := st.cmd
  refine ⟨?_, ?_⟩ <;> simp [World.cell?, World.frozen?, h, hi]
theorem RsSt.start {w : World} {B C k : Nat} {s : Bs} {cs : Array Value} (hS : Scn w B s k) (hC : w.heap[C]? = some (Obj.cells cs 33)) (hne : B ≠ C) : RsSt w B C s k cs ((w.alloc (Obj.cells #[scP B] 62)).alloc (Obj.cells #[cmP C] 68)) := by
  have hlt := hS.lt
  have hltC := (Array.getElem?_eq_some_iff.1 hC).1
  have hB2 : Below w.heap.size w ((w.alloc (Obj.cells #[scP B] 62)).alloc (Obj.cells #[cmP C] 68)) := ((Below.refl _ _).alloc (Nat.le_refl _) _).alloc (by simp) _
  refine ⟨.of (grown_below hB2 _), hS.then hB2, (hB2.block C hltC).trans hC, (Below.heap_alloc _ _ _ (by simp)).trans (World.alloc_heap_new _ _), ?_, hlt, hltC, hne⟩
  have := World.alloc_heap_new (w.alloc (Obj.cells #[scP B] 62)) (Obj.cells #[cmP C] 68)
  rw [World.size_alloc] at this
  exact this
/-- the boxes' cells -/
def rsS (n B C : Nat) (W : World) : Prop := W.cell? ⟨n, 0, none⟩ = some (scP B) ∧ W.cell? ⟨n + 1, 0, none⟩ = some (cmP C)
theorem RsSt.keep {w : World} {B C k : Nat} {s : Bs} {cs : Array Value} {W : World} (st : RsSt w B C s k cs W) : rsS w.heap.size B C W := ⟨(one_cells st.bx).1, (one_cells st.bc).1⟩
/-- what a part of rest does to the command -/
def RestPost {α : Type} (w : World) (B C : Nat) (Q : World → α → Array Value → Prop) (o : Option (α × Bs × Nat)) (e : Ending) (w' : World) : Prop :=
  R2 B C w w' ∧ match o with
    | none => e = .panicked [wrongE]
    | some p => e = .returned (.tuple #[]) ∧ Scn w' B p.2.1 p.2.2 ∧ ∃ cs, w'.heap[C]? = some (Obj.cells cs 33) ∧ Q w' p.1 cs
theorem RestPost.bad {α : Type} {w w' : World} {B C : Nat} {Q : World → α → Array Value → Prop} {o : Option (α × Bs × Nat)} (hG : R2 B C w w') (ho : o = none) : RestPost w B C Q o (.panicked [wrongE]) w' := ⟨hG, by subst ho; rfl⟩
theorem RsSt.fin {α : Type} {w W : World} {B C k : Nat} {s : Bs} {cs : Array Value} (st : RsSt w B C s k cs W) {Q : World → α → Array Value → Prop} {o : Option (α × Bs × Nat)} {x : α} (ho : o = some (x, s, k)) (hQ : Q W x cs) : RestPost w B C Q o (.returned (.tuple #[])) W := ⟨st.gr, by subst ho; exact ⟨rfl, st.sc, cs, st.cmd, hQ⟩⟩
/-- the arguments are these -/
def ArgsQ (w : World) (cs : Array Value) : World → List Bs → Array Value → Prop := fun w' l cs' => ∃ A c, cs' = cs.setIfInBounds 3 (.slice A l.length c) ∧ RowC w' (newT w w') (.slice A l.length c) l.length (l.map strV)
set_option maxHeartbeats 8000000 in
set_option maxRecDepth 100000 in
theorem rest_login (G : Glob) (B C k : Nat) (s : Bs) (cs : Array Value) (v3 : Value) (h1 : cs[1]? = some (.string ⟨#[76, 79, 71, 73, 78]⟩)) (h3 : cs[3]? = some v3) (hne : B ≠ C) (hC20 : 20 ≤ C) (w : World) (hC : w.heap[C]? = some (Obj.cells cs 33)) (hE : EnvI G w B) (h : Scn w B s k) :
    Calls Tryz.prog 31 #[scP B, cmP C] w (RestPost w B C (ArgsQ w cs) ((textsB 2 s).map fun p => (p.1, p.2, k))) := by
  have HST := Lib.hid (RsSt.start h hC hne)
  have HSD := Lib.hid HST.out.draw
  have HS0 := Lib.hid HSD.out.keep
  have HE := Lib.hid hE
  have KT : Hid (∀ W, EnvI G W B → Scn W B s k → Calls Tryz.prog 70 #[scP B, .int .i64 2] W _) := Lib.hid (fun W hE hS => texts_walk G B k 2 (by decide) s W hE hS)
  obtain ⟨c1, _⟩ := HST.out.cell h1
  have H3 := Lib.hid h3
  generalize hoo : (textsB 2 s).map (fun p => (p.1, p.2, k)) = oo
  have hHO := Lib.hid hoo
  obtain ⟨hl1, hl2, hl3⟩ := HST.out.lt
  cases ht : textsB 2 s with
  | none =>
    rw [ht] at hoo KT
    have HO := Lib.hid hoo.symm
    clear hoo hHO ht h1 h3 hE h
    go_enter Tryz.func31, Tryz.ntmps31
    go_wp2_with fail
    generalize ((w.alloc (Obj.cells #[scP B] 62)).alloc (Obj.cells #[cmP C] 68)) = w2 at *
    obtain ⟨d0, d1⟩ := HSD.out.keep
    refine wp_region_any (by kernel_rfl) ?_
    change wpAny _ _ _ _ _ _ _ (World.drew _)
    refine wpAny_ready (rs := [0, 1]) (by kernel_rfl) (by simp) ?_
    refine AllReady.cons rfl (fun K9 hK9 => ?_) ?_
    · go_simp
      refine hK9 _ _ ?_
      clear hK9 K9
      refine wpAny_ready (rs := [1]) (by kernel_rfl) (by simp) ?_
      refine AllReady.cons rfl (fun K9 hK9 => ?_) ?_
      · go_simp
        refine hK9 _ _ ?_
        clear hK9 K9
        refine wpAny_ready (rs := [2]) (by kernel_rfl) (by simp) ?_
        refine AllReady.cons rfl (fun K9 hK9 => ?_) ?_
        · go_simp
          refine (KT.out _ (HE.out.kept2 HSD.out.gr hC20) HSD.out.sc).mono ?_
          rintro e w' ⟨hG, rfl⟩
          exact ⟨rfl, .bad (HSD.out.gr.trans (.of hG)) HO.out⟩
        exact AllReady.nil
      exact AllReady.nil
    refine AllReady.cons rfl (fun K9 hK9 => ?_) ?_
    · go_simp
      refine hK9 _ _ ?_
      clear hK9 K9
      refine wpAny_ready (rs := [0, 2]) (by kernel_rfl) (by simp) ?_
      refine AllReady.cons rfl (fun K9 hK9 => ?_) ?_
      · go_simp
        refine hK9 _ _ ?_
        clear hK9 K9
        refine wpAny_ready (rs := [2]) (by kernel_rfl) (by simp) ?_
        refine AllReady.cons rfl (fun K9 hK9 => ?_) ?_
        · go_simp
          refine (KT.out _ (HE.out.kept2 HSD.out.gr hC20) HSD.out.sc).mono ?_
          rintro e w' ⟨hG, rfl⟩
          exact ⟨rfl, .bad (HSD.out.gr.trans (.of hG)) HO.out⟩
        exact AllReady.nil
      refine AllReady.cons rfl (fun K9 hK9 => ?_) ?_
      · go_simp
        refine (KT.out _ (HE.out.kept2 HSD.out.gr hC20) HSD.out.sc).mono ?_
        rintro e w' ⟨hG, rfl⟩
        exact ⟨rfl, .bad (HSD.out.gr.trans (.of hG)) HO.out⟩
      exact AllReady.nil
    exact AllReady.nil
  | some p =>
    obtain ⟨l, r⟩ := p
    rw [ht] at hoo KT
    have HO := Lib.hid hoo.symm
    clear hoo hHO ht h1 h3 hE h
    go_enter Tryz.func31, Tryz.ntmps31
    go_wp2_with fail
    generalize ((w.alloc (Obj.cells #[scP B] 62)).alloc (Obj.cells #[cmP C] 68)) = w2 at *
    go_region_held3 (fun W => W.cell? ⟨w.heap.size, 0, none⟩ = some (scP B) ∧ W.cell? ⟨w.heap.size + 1, 0, none⟩ = some (cmP C))
      (first | exact HS0.out | exact HS1.out.keep | exact (HS1.out.setC 3 _).keep)
      (first
        | (go_at_call 70; refine (KT.out _ (HE.out.kept2 HSD.out.gr hC20) HSD.out.sc).mono ?_; rintro e w1 ⟨hG1, u, rfl, hO1, hS1⟩; obtain ⟨A, c, hu, hrow⟩ := rowC_own hO1; subst hu; have HS1 := Lib.hid (HSD.out.step hG1 hS1); obtain ⟨c3, f3⟩ := HS1.out.cell H3.out; have HR1 := Lib.hid (rowC_own hO1); clear hG1 hO1 hS1 hrow))
    go_wp2
    go_end0
    have hz := HSD.out.gr.size
    exact (HS1.out.setC 3 (.slice A l.length c)).fin HO.out ⟨A, c, rfl, (HR1.out.kept (fun i hi => Below.heap_setCell _ _ _ _ (by have := hi.1; dsimp only; omega))).more (fun i hi => ⟨by have := hi.1; omega, by have := hi.2; simpa using this⟩)⟩
set_option maxHeartbeats 8000000 in
set_option maxRecDepth 100000 in
theorem rest_create (G : Glob) (B C k : Nat) (s : Bs) (cs : Array Value) (v3 : Value) (h1 : cs[1]? = some (.string ⟨#[67, 82, 69, 65, 84, 69]⟩)) (h3 : cs[3]? = some v3) (hne : B ≠ C) (hC20 : 20 ≤ C) (w : World) (hC : w.heap[C]? = some (Obj.cells cs 33)) (hE : EnvI G w B) (h : Scn w B s k) :
    Calls Tryz.prog 31 #[scP B, cmP C] w (RestPost w B C (ArgsQ w cs) ((textsB 1 s).map fun p => (p.1, p.2, k))) := by
  have HST := Lib.hid (RsSt.start h hC hne)
  have HSD := Lib.hid HST.out.draw
  have HS0 := Lib.hid HSD.out.keep
  have HE := Lib.hid hE
  have KT : Hid (∀ W, EnvI G W B → Scn W B s k → Calls Tryz.prog 70 #[scP B, .int .i64 1] W _) := Lib.hid (fun W hE hS => texts_walk G B k 1 (by decide) s W hE hS)
  obtain ⟨c1, _⟩ := HST.out.cell h1
  have H3 := Lib.hid h3
  generalize hoo : (textsB 1 s).map (fun p => (p.1, p.2, k)) = oo
  have hHO := Lib.hid hoo
  obtain ⟨hl1, hl2, hl3⟩ := HST.out.lt
  cases ht : textsB 1 s with
  | none =>
    rw [ht] at hoo KT
    have HO := Lib.hid hoo.symm
    clear hoo hHO ht h1 h3 hE h
    go_enter Tryz.func31, Tryz.ntmps31
    go_wp2_with fail
    generalize ((w.alloc (Obj.cells #[scP B] 62)).alloc (Obj.cells #[cmP C] 68)) = w2 at *
    obtain ⟨d0, d1⟩ := HSD.out.keep
    refine wp_region_any (by kernel_rfl) ?_
    change wpAny _ _ _ _ _ _ _ (World.drew _)
    refine wpAny_ready (rs := [0, 1]) (by kernel_rfl) (by simp) ?_
    refine AllReady.cons rfl (fun K9 hK9 => ?_) ?_
    · go_simp
      refine hK9 _ _ ?_
      clear hK9 K9
      refine wpAny_ready (rs := [1]) (by kernel_rfl) (by simp) ?_
      refine AllReady.cons rfl (fun K9 hK9 => ?_) ?_
      · go_simp
        refine hK9 _ _ ?_
        clear hK9 K9
        refine wpAny_ready (rs := [2]) (by kernel_rfl) (by simp) ?_
        refine AllReady.cons rfl (fun K9 hK9 => ?_) ?_
        · go_simp
          refine (KT.out _ (HE.out.kept2 HSD.out.gr hC20) HSD.out.sc).mono ?_
          rintro e w' ⟨hG, rfl⟩
          exact ⟨rfl, .bad (HSD.out.gr.trans (.of hG)) HO.out⟩
        exact AllReady.nil
      exact AllReady.nil
    refine AllReady.cons rfl (fun K9 hK9 => ?_) ?_
    · go_simp
      refine hK9 _ _ ?_
      clear hK9 K9
      refine wpAny_ready (rs := [0, 2]) (by kernel_rfl) (by simp) ?_
      refine AllReady.cons rfl (fun K9 hK9 => ?_) ?_
      · go_simp
        refine hK9 _ _ ?_
        clear hK9 K9
        refine wpAny_ready (rs := [2]) (by kernel_rfl) (by simp) ?_
        refine AllReady.cons rfl (fun K9 hK9 => ?_) ?_
        · go_simp
          refine (KT.out _ (HE.out.kept2 HSD.out.gr hC20) HSD.out.sc).mono ?_
          rintro e w' ⟨hG, rfl⟩
          exact ⟨rfl, .bad (HSD.out.gr.trans (.of hG)) HO.out⟩
        exact AllReady.nil
      refine AllReady.cons rfl (fun K9 hK9 => ?_) ?_
      · go_simp
        refine (KT.out _ (HE.out.kept2 HSD.out.gr hC20) HSD.out.sc).mono ?_
        rintro e w' ⟨hG, rfl⟩
        exact ⟨rfl, .bad (HSD.out.gr.trans (.of hG)) HO.out⟩
      exact AllReady.nil
    exact AllReady.nil
  | some p =>
    obtain ⟨l, r⟩ := p
    rw [ht] at hoo KT
    have HO := Lib.hid hoo.symm
    clear hoo hHO ht h1 h3 hE h
    go_enter Tryz.func31, Tryz.ntmps31
    go_wp2_with fail
    generalize ((w.alloc (Obj.cells #[scP B] 62)).alloc (Obj.cells #[cmP C] 68)) = w2 at *
    go_region_held3 (fun W => W.cell? ⟨w.heap.size, 0, none⟩ = some (scP B) ∧ W.cell? ⟨w.heap.size + 1, 0, none⟩ = some (cmP C))
      (first | exact HS0.out | exact HS1.out.keep | exact (HS1.out.setC 3 _).keep)
      (first
        | (go_at_call 70; refine (KT.out _ (HE.out.kept2 HSD.out.gr hC20) HSD.out.sc).mono ?_; rintro e w1 ⟨hG1, u, rfl, hO1, hS1⟩; obtain ⟨A, c, hu, hrow⟩ := rowC_own hO1; subst hu; have HS1 := Lib.hid (HSD.out.step hG1 hS1); obtain ⟨c3, f3⟩ := HS1.out.cell H3.out; have HR1 := Lib.hid (rowC_own hO1); clear hG1 hO1 hS1 hrow))
    go_wp2
    go_end0
    have hz := HSD.out.gr.size
    exact (HS1.out.setC 3 (.slice A l.length c)).fin HO.out ⟨A, c, rfl, (HR1.out.kept (fun i hi => Below.heap_setCell _ _ _ _ (by have := hi.1; dsimp only; omega))).more (fun i hi => ⟨by have := hi.1; omega, by have := hi.2; simpa using this⟩)⟩
end Go.Proofs.YtgmfhldfdnnafaaGreatDoor
