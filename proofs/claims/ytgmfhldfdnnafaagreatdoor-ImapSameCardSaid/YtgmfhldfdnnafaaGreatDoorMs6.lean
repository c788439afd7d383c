/- A part of the proofs of the statements on chapter 21: walks of functions that they reach, and plain laws. What is proved is stated in the last text. Conditions: none of its own. -/
import Derived.Test.YtgmfhldfdnnafaaGreatDoorMs5
set_option maxHeartbeats 8000000
set_option maxRecDepth 100000
set_option linter.unusedSimpArgs false
set_option linter.unusedVariables false
namespace Go.Proofs.YtgmfhldfdnnafaaGreatDoor
open Go.RowKit
open Pl (Bs idxB numOk numN setOk setL)
theorem three_cells {w : World} {b : Nat} {t : TypeId} {x y z : Value} (h : w.heap[b]? = some (Obj.cells #[x, y, z] t)) : w.cell? ⟨b, 0, none⟩ = some x ∧ w.cell? ⟨b, 1, none⟩ = some y ∧ w.cell? ⟨b, 2, none⟩ = some z := by
 refine ⟨?_, ?_, ?_⟩ <;> simp [World.cell?, h]
theorem eight_cells {w : World} {b : Nat} {t : TypeId} {a0 a1 a2 a3 a4 a5 a6 a7 : Value} (h : w.heap[b]? = some (Obj.cells #[a0, a1, a2, a3, a4, a5, a6, a7] t)) : (w.cell? ⟨b, 0, none⟩ = some a0 ∧ w.cell? ⟨b, 1, none⟩ = some a1 ∧ w.cell? ⟨b, 2, none⟩ = some a2 ∧ w.cell? ⟨b, 3, none⟩ = some a3 ∧ w.cell? ⟨b, 4, none⟩ = some a4 ∧ w.cell? ⟨b, 5, none⟩ = some a5 ∧ w.cell? ⟨b, 6, none⟩ = some a6 ∧ w.cell? ⟨b, 7, none⟩ = some a7) ∧ w.frozen? ⟨b, 0, none⟩ = false ∧ w.frozen? ⟨b, 1, none⟩ = false ∧ w.frozen? ⟨b, 2, none⟩ = false ∧ w.frozen? ⟨b, 3, none⟩ = false ∧ w.frozen? ⟨b, 4, none⟩ = false ∧ w.frozen? ⟨b, 5, none⟩ = false ∧ w.frozen? ⟨b, 6, none⟩ = false ∧ w.frozen? ⟨b, 7, none⟩ = false := by
 refine ⟨⟨?_, ?_, ?_, ?_, ?_, ?_, ?_, ?_⟩, ?_, ?_, ?_, ?_, ?_, ?_, ?_, ?_⟩ <;> simp [World.cell?, World.frozen?, h]
abbrev zeroItem : Obj := Obj.cells #[.string ⟨#[]⟩, .slice none 0 0, .string ⟨#[]⟩, .slice none 0 0, .bool false, .bool false, .int .i64 0, .int .i64 0] 78
abbrev itemObj (vp vn : Value) (nm : ByteArray) (x : SpecP) (pk pt : Bool) (a b : Int) : Obj := Obj.cells #[.string nm, vp, .string (str x.what), vn, .bool pk, .bool pt, .int .i64 a, .int .i64 b] 78
structure BodSt (w : World) (B k h : Nat) (T : Nat → Prop) (vp vn : Value) (x : SpecP) (pk : Bool) (s : Bs) (pt : Bool) (a b : Int) (W : World) : Prop where
 gr : w.grownBy W (some B)
 sc : Scn W B s k
 res : W.heap[w.heap.size]? = some zeroItem
 xb : W.heap[h]? = some (itemObj vp vn ⟨#[66, 79, 68, 89, 91]⟩ x pk pt a b)
 sp : SpecAt W T vp vn x
 fr : ∀ i, T i → w.heap.size < i ∧ i < h
 hlt : w.heap.size < h
 old : B < w.heap.size
theorem BodSt.step {w : World} {B k h : Nat} {T : Nat → Prop} {vp vn : Value} {x : SpecP} {pk : Bool} {s s1 : Bs} {pt : Bool} {a b : Int} {W W1 : World} (st : BodSt w B k h T vp vn x pk s pt a b W) (hG : W.grownBy W1 (some B)) (hS : Scn W1 B s1 k) : BodSt w B k h T vp vn x pk s1 pt a b W1 := by
 have hl := st.hlt
 have ho := st.old
 have hk : ∀ i o, W.heap[i]? = some o → i ≠ B → W1.heap[i]? = some o := fun i o hi hne => (hG.block i (Array.getElem?_eq_some_iff.1 hi).1 (fun e => hne (Option.some.inj e))).trans hi
 have hh := (Array.getElem?_eq_some_iff.1 st.xb).1
 refine ⟨st.gr.trans hG, hS, hk _ _ st.res (by omega), hk _ _ st.xb (by omega), st.sp.kept (fun i hi => ?_), st.fr, hl, ho⟩
 have := st.fr i hi
 exact hG.block i (by omega) (fun e => by have := Option.some.inj e; omega)
theorem BodSt.below {w : World} {B k h : Nat} {T : Nat → Prop} {vp vn : Value} {x : SpecP} {pk : Bool} {s : Bs} {pt : Bool} {a b : Int} {W W1 : World} (st : BodSt w B k h T vp vn x pk s pt a b W) (hB : Below W.heap.size W W1) : BodSt w B k h T vp vn x pk s pt a b W1 := st.step (grown_below hB _) (st.sc.then hB)
theorem setCell_heap_same {w : World} {b i : Nat} {v : Value} {cs : Array Value} {t : TypeId} (h : w.heap[b]? = some (Obj.cells cs t)) : (w.setCell ⟨b, i, none⟩ v).heap[b]? = some (Obj.cells (cs.setIfInBounds i v) t) := by
 simp [World.setCell, Array.getElem?_modify, h]
theorem BodSt.setH {w : World} {B k h : Nat} {T : Nat → Prop} {vp vn : Value} {x : SpecP} {pk : Bool} {s : Bs} {pt pt1 : Bool} {a b a1 b1 : Int} {W : World} (st : BodSt w B k h T vp vn x pk s pt a b W) {i : Nat} {v : Value} (hi : (Obj.cells (#[.string ⟨#[66, 79, 68, 89, 91]⟩, vp, .string (str x.what), vn, .bool pk, .bool pt, .int .i64 a, .int .i64 b].setIfInBounds i v) 78 : Obj) = itemObj vp vn ⟨#[66, 79, 68, 89, 91]⟩ x pk pt1 a1 b1) : BodSt w B k h T vp vn x pk s pt1 a1 b1 (W.setCell ⟨h, i, none⟩ v) := by
 have hl := st.hlt
 have ho := st.old
 refine ⟨grown_new st.gr (grown_put W h i v) (fun k e => .inl (by have := Option.some.inj e; omega)), ⟨(Below.heap_setCell W _ v _ (by dsimp only; omega)).trans st.sc.heap, st.sc.small, st.sc.few⟩, (Below.heap_setCell W _ v _ (by dsimp only; omega)).trans st.res, (setCell_heap_same st.xb).trans (congrArg some hi), st.sp.kept (fun j hj => Below.heap_setCell W _ v _ (by have := st.fr j hj; dsimp only; omega)), st.fr, hl, ho⟩
theorem set8 (W : World) (b : Nat) (t : TypeId) (o0 o1 o2 o3 o4 o5 o6 o7 v0 v1 v2 v3 v4 v5 v6 v7 : Value) (h : W.heap[b]? = some (Obj.cells #[o0, o1, o2, o3, o4, o5, o6, o7] t)) :
  (((((((((W.setCell ⟨b, 0, none⟩ v0).setCell ⟨b, 1, none⟩ v1).setCell ⟨b, 2, none⟩ v2).setCell ⟨b, 3, none⟩ v3).setCell ⟨b, 4, none⟩ v4).setCell ⟨b, 5, none⟩ v5).setCell ⟨b, 6, none⟩ v6).setCell ⟨b, 7, none⟩ v7).heap[b]? = some (Obj.cells #[v0, v1, v2, v3, v4, v5, v6, v7] t)) ∧ W.grownBy ((((((((W.setCell ⟨b, 0, none⟩ v0).setCell ⟨b, 1, none⟩ v1).setCell ⟨b, 2, none⟩ v2).setCell ⟨b, 3, none⟩ v3).setCell ⟨b, 4, none⟩ v4).setCell ⟨b, 5, none⟩ v5).setCell ⟨b, 6, none⟩ v6).setCell ⟨b, 7, none⟩ v7) (some b) := by
 refine ⟨?_, ?_⟩
 ·
  have h0 := setCell_heap_same (i := 0) (v := v0) h
  have h1 := setCell_heap_same (i := 1) (v := v1) h0
  have h2 := setCell_heap_same (i := 2) (v := v2) h1
  have h3 := setCell_heap_same (i := 3) (v := v3) h2
  have h4 := setCell_heap_same (i := 4) (v := v4) h3
  have h5 := setCell_heap_same (i := 5) (v := v5) h4
  have h6 := setCell_heap_same (i := 6) (v := v6) h5
  have h7 := setCell_heap_same (i := 7) (v := v7) h6
  rw [h7]
  simp
 ·
  have g0 := grown_put W b 0 v0
  have g1 := g0.trans (grown_put (W.setCell ⟨b, 0, none⟩ v0) b 1 v1)
  clear g0
  generalize (W.setCell ⟨b, 0, none⟩ v0).setCell ⟨b, 1, none⟩ v1 = W1 at *
  have g2 := g1.trans (grown_put W1 b 2 v2)
  have g3 := g2.trans (grown_put _ b 3 v3)
  have g4 := g3.trans (grown_put _ b 4 v4)
  have g5 := g4.trans (grown_put _ b 5 v5)
  have g6 := g5.trans (grown_put _ b 6 v6)
  exact g6.trans (grown_put _ b 7 v7)
theorem ItemPost.bad {w w' : World} {B k : Nat} {o : Option (ItemP × Bs)} (hG : w.grownBy w' (some B)) (ho : o = none) : ItemPost w B k o (.panicked [wrongE]) w' := ⟨hG, by subst ho; rfl⟩
theorem BodSt.fin {w : World} {B k h : Nat} {T : Nat → Prop} {vp vn : Value} {x : SpecP} {pk : Bool} {s : Bs} {pt : Bool} {a b : Int} {W : World} (st : BodSt w B k h T vp vn x pk s pt a b W) {o : Option (ItemP × Bs)} (ho : o = some (⟨[66, 79, 68, 89, 91], x, pk, pt, a, b⟩, s)) {W' : World} (hg : W.grownBy W' (some w.heap.size)) : ItemPost w B k o (.returned (.agg #[.string ⟨#[66, 79, 68, 89, 91]⟩, vp, .string (str x.what), vn, .bool pk, .bool pt, .int .i64 a, .int .i64 b])) W' := by
 subst ho
 have hl := st.hlt
 have ho := st.old
 have hh := (Array.getElem?_eq_some_iff.1 st.xb).1
 refine ⟨grown_new st.gr hg (fun k e => .inl (by have := Option.some.inj e; omega)), vp, vn, T, rfl, fun i hi => ?_, st.sp.kept (fun i hi => ?_), ?_⟩
 ·
  have := st.fr i hi; have := hg.size; omega
 ·
  have := st.fr i hi; exact hg.block i (by omega) (fun e => by have := Option.some.inj e; omega)
 ·
  exact st.sc.kept hg (fun e => by have := Option.some.inj e; omega)
theorem body_walk (G : Glob) (B k : Nat) (sec : Bs → Option SpecP) (hsec : SecCon G sec) (peek : Bool) (s : Bs) (w : World) (hE : EnvI G w B) (h : Scn w B s k) :
  Calls Tryz.prog 132 #[scP B, .bool peek] w (ItemPost w B k (bodyB sec peek s)) := by
 have HE := Lib.hid hE
 have hsm := h.small
 have HSec := Lib.hid hsec
 have hO : bodyB sec peek s = match upToB [93] s with
  | none => none
  | some (X, r) => match sec X with
   | none => none
   | some x => (bodyPart r).map fun p => (⟨[66, 79, 68, 89, 91], x, peek, p.1.1, p.1.2.1, p.1.2.2⟩, p.2) := rfl
 generalize bodyB sec peek s = o at *
 have hold := hE.old
 have hlt := h.lt
 have K1 : Hid (∀ W, EnvI G W B → Scn W B s k → Calls Tryz.prog 121 #[scP B, .string ⟨#[93]⟩] W _) := Lib.hid (fun W hE hW => upTo_walk G B k s [93] W hE hW)
 obtain ⟨ty, vx, hv⟩ := hE.formI
 have HV := Lib.hid hv
 have HS := Lib.hid h
 clear hE hsec hv
 have HB0 := Lib.hid ((Below.refl w.heap.size w).alloc (Nat.le_refl _) zeroItem)
 have HR0 := Lib.hid (World.alloc_heap_new w zeroItem)
 have HS0 := Lib.hid (h.then HB0.out)
 have HG0 := Lib.hid (grown_below HB0.out (some B))
 have HE0 := Lib.hid (HE.out.kept HG0.out)
 cases h1 : upToB [93] s with
 | none =>
  simp only [h1] at K1 hO
  have HO := Lib.hid hO
  clear h1 hO h
  go_enter Tryz.func132, Tryz.ntmps132
  go_wp2_with fail
  refine (K1.out _ HE0.out HS0.out).mono ?_
  rintro e w1 ⟨hG1, rfl⟩
  exact ⟨rfl, .bad (HG0.out.trans hG1) HO.out⟩
 | some p =>
  obtain ⟨X, r⟩ := p
  have hlen := upToB_len h1
  simp only [h1] at K1 hO
  cases h2 : sec X with
  | none =>
   simp only [h2] at hO
   have HO := Lib.hid hO
   have K2 := Lib.hid (fun W hE => HSec.out X B W (by omega) hE)
   rw [h2] at K2
   clear h1 h2 hO h
   go_enter Tryz.func132, Tryz.ntmps132
   go_wp2_with fail
   refine (K1.out _ HE0.out HS0.out).mono ?_
   rintro e w1 ⟨hG1, rfl, hS1⟩
   have HG1 := Lib.hid (HG0.out.trans hG1)
   have HE1 := Lib.hid (HE0.out.kept hG1)
   clear hS1 hG1
   go_wp2_with fail
   refine (K2.out _ HE1.out).mono ?_
   rintro e w2 ⟨hB2, rfl⟩
   rw [HV.out]
   have HG2 := Lib.hid (grown_then HG1.out hB2)
   clear hB2
   go_wp2_with fail
   refine (must_no B _).mono ?_
   rintro e w3 ⟨rfl, hw3⟩
   exact ⟨rfl, .bad (by rw [← hw3]; exact grown_then HG2.out ((Below.refl _ _).alloc (Nat.le_refl _) _)) HO.out⟩
  | some x =>
   simp only [h2] at hO
   have K2 := Lib.hid (fun W hE => HSec.out X B W (by omega) hE)
   rw [h2] at K2
   clear h h1 h2
   go_enter Tryz.func132, Tryz.ntmps132
   go_wp2_with fail
   refine (K1.out _ HE0.out HS0.out).mono ?_
   rintro e w1 ⟨hG1, rfl, hS1⟩
   have HS1 := Lib.hid hS1
   have HG1 := Lib.hid (HG0.out.trans hG1)
   have HE1 := Lib.hid (HE0.out.kept hG1)
   have HR1 := Lib.hid ((hG1.block w.heap.size (by simp) (fun e => by have := Option.some.inj e; omega)).trans HR0.out)
   have hz1 : w.heap.size + 1 ≤ w1.heap.size := by have := hG1.size; simp at this; exact this
   clear hS1 hG1
   go_wp2_with fail
   refine (K2.out _ HE1.out).mono ?_
   rintro e w2 ⟨hB2, vp, vn, T, rfl, hT, hP⟩
   obtain ⟨Ap, cp, rfl, hq1⟩ := id hP.path
   obtain ⟨An, cn, rfl, hq2⟩ := id hP.names
   clear hq1 hq2
   have HS2 := Lib.hid (HS1.out.then hB2)
   have HG2 := Lib.hid (grown_then HG1.out hB2)
   have HR2 := Lib.hid ((hB2.block w.heap.size (by omega)).trans HR1.out)
   have hz2 := hB2.size
   have HT := Lib.hid hT
   have HP := Lib.hid hP
   clear hB2 hT hP
   generalize hvp : Value.slice Ap x.path.length cp = vp at *
   generalize hvn : Value.slice An x.names.length cn = vn at *
   subst hvp
   subst hvn
   go_wp2_with fail
   refine (must_walk B _).mono ?_
   rintro e w3 ⟨rfl, hw3⟩
   have n3 : w3.heap[w2.heap.size]? = some (Obj.cells #[Value.slice Ap x.path.length cp, Value.string (str x.what), Value.slice An x.names.length cn] 76) := by rw [← hw3]; exact World.alloc_heap_new _ _
   have hB3 : Below w2.heap.size w2 w3 := by rw [← hw3]; exact (Below.refl _ _).alloc (Nat.le_refl _) _
   have hz3 : w3.heap.size = w2.heap.size + 1 := by rw [← hw3]; simp
   have HS3 := Lib.hid (HS2.out.then hB3)
   have HG3 := Lib.hid (grown_then HG2.out hB3)
   have HR3 := Lib.hid ((hB3.block w.heap.size (by omega)).trans HR2.out)
   have HP3 := Lib.hid (HP.out.kept (fun i hi => hB3.block i (HT.out i hi).2))
   obtain ⟨c0, c1, c2⟩ := three_cells n3
   clear hw3 n3 hB3
   have HST : Hid (BodSt w B k w3.heap.size T (.slice Ap x.path.length cp) (.slice An x.names.length cn) x peek r false 0 0 (w3.alloc (itemObj (.slice Ap x.path.length cp) (.slice An x.names.length cn) ⟨#[66, 79, 68, 89, 91]⟩ x peek false 0 0))) := Lib.hid
    ⟨grown_then HG3.out ((Below.refl _ _).alloc (Nat.le_refl _) _), HS3.out.then ((Below.refl _ _).alloc (Nat.le_refl _) _), (Below.heap_alloc _ _ _ (by omega)).trans HR3.out, World.alloc_heap_new _ _, HP3.out.kept (fun i hi => Below.heap_alloc _ _ _ (by have := (HT.out i hi).2; omega)), (fun i hi => by have := HT.out i hi; omega), by omega, hlt⟩
   have HZ3 := Lib.hid hz3
   clear hz3
   clear HS1 HG1 HE1 HR1 HS2 HG2 HR2 HT HP HS3 HG3 HR3 HP3 K1 K2
   cases h3 : isB [60] r with
   | none =>
    have K3 : Hid (∀ W, Scn W B r k → Calls Tryz.prog 68 #[scP B, .string ⟨#[60]⟩] W _) := Lib.hid (fun W hW => is_not B r [60] k h3 W hW)
    have HO := Lib.hid (show o = some (⟨[66, 79, 68, 89, 91], x, peek, false, 0, 0⟩, r) by rw [hO, bodyPart, h3]; rfl)
    clear hO h3
    go_wp2_with fail
    refine (K3.out _ HST.out.sc).mono ?_
    rintro e w4 ⟨rfl, hS4, hG4⟩
    have ST4 := Lib.hid (HST.out.step hG4 hS4)
    clear hS4 hG4
    obtain ⟨⟨a0, a1, a2, a3, a4, a5, a6, a7⟩, f0, f1, f2, f3, f4, f5, f6, f7⟩ := eight_cells ST4.out.xb
    obtain ⟨⟨b0, b1, b2, b3, b4, b5, b6, b7⟩, g0, g1, g2, g3, g4, g5, g6, g7⟩ := eight_cells ST4.out.res
    go_wp2
    refine bodyPost_ret (v := _) ?_ rfl (BodSt.fin ST4.out HO.out (set8 _ _ _ _ _ _ _ _ _ _ _ _ _ _ _ _ _ _ _ ST4.out.res).2)
    rw [results_cell_one rfl]
    simp [go_sem, b0, b1, b2, b3, b4, b5, b6, b7]
   | some r2 =>
    have K3 : Hid (∀ W, Scn W B r k → Calls Tryz.prog 68 #[scP B, .string ⟨#[60]⟩] W _) := Lib.hid (fun W hW => is_ok B r [60] r2 k h3 W hW)
    have hr2 := isB_len h3
    have HOX := Lib.hid hO
    clear hO
    have K4 : Hid (∀ W, EnvI G W B → Scn W B r2 k → Calls Tryz.prog 121 #[scP B, .string ⟨#[46]⟩] W _) := Lib.hid (fun W hE hW => upTo_walk G B k r2 [46] W hE hW)
    go_wp2_with fail
    refine (K3.out _ HST.out.sc).mono ?_
    rintro e w4 ⟨rfl, hS4, hG4⟩
    have ST4 := Lib.hid (HST.out.step hG4 hS4)
    have ST5 := Lib.hid (ST4.out.setH (i := 5) (v := .bool true) (pt1 := true) (a1 := 0) (b1 := 0) rfl)
    obtain ⟨⟨a0, a1, a2, a3, a4, a5, a6, a7⟩, f0, f1, f2, f3, f4, f5, f6, f7⟩ := eight_cells ST4.out.xb
    clear hS4 hG4
    cases h4 : upToB [46] r2 with
    | none =>
     have HO := Lib.hid (show o = none by rw [HOX.out, bodyPart, h3]; simp only [h4]; rfl)
     rw [h4] at K4
     clear h3 h4
     go_wp2_with fail
     refine (K4.out _ (HE.out.kept ST5.out.gr) ST5.out.sc).mono ?_
     rintro e w5 ⟨hG5, rfl⟩
     exact ⟨rfl, .bad (ST5.out.gr.trans hG5) HO.out⟩
    | some p =>
     obtain ⟨d1, r3⟩ := p
     have hl4 := upToB_len h4
     simp only [List.length_singleton] at hr2
     rw [h4] at K4
     have K5 := Lib.hid (fun W hE => rnumber_walk G B d1 (by omega) W hE)
     go_wp2_with fail
     refine (K4.out _ (HE.out.kept ST5.out.gr) ST5.out.sc).mono ?_
     rintro e w5 ⟨hG5, rfl, hS5⟩
     have ST6 := Lib.hid (ST5.out.step hG5 hS5)
     clear hG5 hS5 ST4 ST5 HST
     go_wp2_with fail
     cases h5 : countB d1 2147483648 with
     | none =>
      have HO := Lib.hid (show o = none by rw [HOX.out, bodyPart, h3]; simp only [h4, h5]; rfl)
      rw [h5] at K5
      clear h3 h4 h5
      refine (K5.out _ (HE.out.kept ST6.out.gr)).mono ?_
      rintro e w6 ⟨hB6, rfl⟩
      exact ⟨rfl, .bad (grown_then ST6.out.gr hB6) HO.out⟩
     | some n1 =>
      rw [h5] at K5
      refine (K5.out _ (HE.out.kept ST6.out.gr)).mono ?_
      rintro e w6 ⟨hB6, rfl⟩
      have ST7 := Lib.hid (ST6.out.below hB6)
      have ST8 := Lib.hid (ST7.out.setH (i := 6) (v := .int .i64 (n1 : Int)) (pt1 := true) (a1 := n1) (b1 := 0) rfl)
      clear hB6 a0 a1 a2 a3 a4 a5 a6 a7 f0 f1 f2 f3 f4 f5 f6 f7
      obtain ⟨⟨a0, a1, a2, a3, a4, a5, a6, a7⟩, f0, f1, f2, f3, f4, f5, f6, f7⟩ := eight_cells ST7.out.xb
      have K6 : Hid (∀ W, EnvI G W B → Scn W B r3 k → Calls Tryz.prog 121 #[scP B, .string ⟨#[62]⟩] W _) := Lib.hid (fun W hE hW => upTo_walk G B k r3 [62] W hE hW)
      cases h6 : upToB [62] r3 with
      | none =>
       have HO := Lib.hid (show o = none by rw [HOX.out, bodyPart, h3]; simp only [h4, h5, h6]; rfl)
       rw [h6] at K6
       clear h3 h4 h5 h6
       go_wp2_with fail
       refine (K6.out _ (HE.out.kept ST8.out.gr) ST8.out.sc).mono ?_
       rintro e w7 ⟨hG7, rfl⟩
       exact ⟨rfl, .bad (ST8.out.gr.trans hG7) HO.out⟩
      | some p =>
       obtain ⟨d2, r4⟩ := p
       have hl6 := upToB_len h6
       rw [h6] at K6
       have K7 := Lib.hid (fun W hE => rnumber_walk G B d2 (by omega) W hE)
       go_wp2_with fail
       refine (K6.out _ (HE.out.kept ST8.out.gr) ST8.out.sc).mono ?_
       rintro e w7 ⟨hG7, rfl, hS7⟩
       have ST9 := Lib.hid (ST8.out.step hG7 hS7)
       clear hG7 hS7 ST7 ST8
       go_wp2_with fail
       cases h7 : countB d2 2147483648 with
       | none =>
        have HO := Lib.hid (show o = none by rw [HOX.out, bodyPart, h3]; simp only [h4, h5, h6, h7]; rfl)
        rw [h7] at K7
        clear h3 h4 h5 h6 h7
        refine (K7.out _ (HE.out.kept ST9.out.gr)).mono ?_
        rintro e w8 ⟨hB8, rfl⟩
        exact ⟨rfl, .bad (grown_then ST9.out.gr hB8) HO.out⟩
       | some n2 =>
        rw [h7] at K7
        refine (K7.out _ (HE.out.kept ST9.out.gr)).mono ?_
        rintro e w8 ⟨hB8, rfl⟩
        have ST10 := Lib.hid (ST9.out.below hB8)
        have ST11 := Lib.hid (ST10.out.setH (i := 7) (v := .int .i64 (n2 : Int)) (pt1 := true) (a1 := n1) (b1 := n2) rfl)
        clear hB8 a0 a1 a2 a3 a4 a5 a6 a7 f0 f1 f2 f3 f4 f5 f6 f7
        obtain ⟨⟨a0, a1, a2, a3, a4, a5, a6, a7⟩, f0, f1, f2, f3, f4, f5, f6, f7⟩ := eight_cells ST10.out.xb
        by_cases h8 : 0 < n2
        ·
         have HO := Lib.hid (show o = some (⟨[66, 79, 68, 89, 91], x, peek, true, n1, n2⟩, r4) by rw [HOX.out, bodyPart, h3]; simp only [h4, h5, h6, h7, if_pos h8]; rfl)
         have h8' : (0 : Int) < (n2 : Int) := by omega
         clear h3 h4 h5 h6 h7
         go_wp2_with fail
         refine (must_walk B _).mono ?_
         rintro e w9 ⟨rfl, hw9⟩
         have hx : BodSt w B k w3.heap.size T (.slice Ap x.path.length cp) (.slice An x.names.length cn) x peek r4 true n1 n2 w9 := by rw [← hw9]; exact ST11.out
         have ST12 := Lib.hid hx
         clear hw9 hx a0 a1 a2 a3 a4 a5 a6 a7 f0 f1 f2 f3 f4 f5 f6 f7
         obtain ⟨⟨a0, a1, a2, a3, a4, a5, a6, a7⟩, f0, f1, f2, f3, f4, f5, f6, f7⟩ := eight_cells ST12.out.xb
         obtain ⟨⟨b0, b1, b2, b3, b4, b5, b6, b7⟩, g0, g1, g2, g3, g4, g5, g6, g7⟩ := eight_cells ST12.out.res
         go_wp2
         refine bodyPost_ret (v := _) ?_ rfl (BodSt.fin ST12.out HO.out (set8 _ _ _ _ _ _ _ _ _ _ _ _ _ _ _ _ _ _ _ ST12.out.res).2)
         rw [results_cell_one rfl]
         simp [go_sem, b0, b1, b2, b3, b4, b5, b6, b7]
        ·
         have HO := Lib.hid (show o = none by rw [HOX.out, bodyPart, h3]; simp only [h4, h5, h6, h7, if_neg h8]; rfl)
         have h8' : ¬ (0 : Int) < (n2 : Int) := by omega
         clear h3 h4 h5 h6 h7
         go_wp2_with fail
         refine (must_no B _).mono ?_
         rintro e w9 ⟨rfl, hw9⟩
         exact ⟨rfl, .bad (by rw [← hw9]; exact ST11.out.gr) HO.out⟩
open Go.RowKit
open Pl (Bs idxB numOk numN setOk setL)
theorem lit_cells (w : World) (L : List Bs) (t : TypeId) (j : Nat) (hj : j < L.length) {g : Nat} (hg : w.heap.size = g) : (w.alloc (Obj.cells (L.map strV).toArray t)).cell? ⟨g, j, none⟩ = some (.string (str (L.getD j []))) := by
 subst hg
 unfold World.cell?
 rw [World.alloc_heap_new w (Obj.cells (L.map strV).toArray t)]
 simp [List.getElem?_eq_getElem hj, strV]
theorem contains_lit (g cap : Nat) (L : List Bs) (x : Bs) (w : World) (hL : L.length ≤ 1000) (hc : ∀ j, j < L.length → w.cell? ⟨g, j, none⟩ = some (.string (str (L.getD j [])))) :
  Calls Tryz.prog 30 #[.slice (some ⟨g, 0, none⟩) L.length cap, .string (str x)] w fun e w' => e = .returned (.bool (L.contains x)) ∧ w' = w := by
 have K := contains_walk21 g 0 L.length cap (L.map str) (str x) w (by simp) (by omega) (fun j hj => by
  have hj' : j < L.length := by simpa using hj
  rw [Nat.zero_add, hc j hj']
  simp [List.getD, List.getElem?_eq_getElem hj'])
 have e : Lib.containsS ((L.map str).take L.length) (str x) = L.contains x := by
  rw [List.take_of_length_le (by simp)]
  rw [Bool.eq_iff_iff, Lib.containsS_iff, List.contains_iff_mem]
  constructor
  ·
   intro h
   obtain ⟨y, hy, e⟩ := List.mem_map.1 h
   have : y = x := by rw [← bs_str y, e, bs_str]
   rwa [← this]
  ·
   intro h; exact List.mem_map.2 ⟨x, h, rfl⟩
 rw [e] at K
 exact K
theorem str_ne {a b : Bs} (h : a ≠ b) : ¬ (str a).toList = b := by rw [Lib.toList_data]; exact fun e => h (by have : bs (str a) = b := e; rw [← this, bs_str])
theorem str_neb {a b : Bs} (h : a ≠ b) : ((str a).toList == b) = false := by simpa using str_ne h
def endI (c : UInt8) : Bool := c != 32 && c != 41 && c != 91
def bodyN : Bs := [66, 79, 68, 89]
def peekN : Bs := [66, 79, 68, 89, 46, 80, 69, 69, 75]
def knownN : List Bs := [[70, 76, 65, 71, 83], [85, 73, 68], [69, 78, 86, 69, 76, 79, 80, 69], [66, 79, 68, 89, 83, 84, 82, 85, 67, 84, 85, 82, 69], [73, 78, 84, 69, 82, 78, 65, 76, 68, 65, 84, 69], [82, 70, 67, 56, 50, 50, 46, 83, 73, 90, 69], [82, 70, 67, 56, 50, 50], [82, 70, 67, 56, 50, 50, 46, 72, 69, 65, 68, 69, 82], [82, 70, 67, 56, 50, 50, 46, 84, 69, 88, 84], bodyN]
def plainItem (nm : Bs) : ItemP := ⟨nm, ⟨[], [], []⟩, false, false, 0, 0⟩
def itemK (nm r : Bs) : Option (ItemP × Bs) := if knownN.contains nm = true then some (plainItem nm, r) else none
def itemB (sec : Bs → Option SpecP) (s : Bs) : Option (ItemP × Bs) :=
 if largeL (s.takeWhile endI) = bodyN ∨ largeL (s.takeWhile endI) = peekN then
  match isB [91] (s.drop (s.takeWhile endI).length) with
  | some r2 => bodyB sec (decide (largeL (s.takeWhile endI) ≠ bodyN)) r2
  | none => itemK (largeL (s.takeWhile endI)) (s.drop (s.takeWhile endI).length)
 else itemK (largeL (s.takeWhile endI)) (s.drop (s.takeWhile endI).length)
theorem itemK_len {nm r : Bs} {p : ItemP × Bs} (h : itemK nm r = some p) : p.2 = r := by
 unfold itemK at h
 split at h
 ·
  cases h; rfl
 ·
  cases h
structure ItSt (w : World) (B k : Nat) (s : Bs) (W : World) : Prop where
 gr : w.grownBy W (some B)
 sc : Scn W B s k
 res : W.heap[w.heap.size]? = some zeroItem
 old : B < w.heap.size
theorem ItSt.step {w : World} {B k : Nat} {s s1 : Bs} {W W1 : World} (st : ItSt w B k s W) (hG : W.grownBy W1 (some B)) (hS : Scn W1 B s1 k) : ItSt w B k s1 W1 := by
 have ho := st.old
 exact ⟨st.gr.trans hG, hS, (hG.block _ (Array.getElem?_eq_some_iff.1 st.res).1 (fun e => by have := Option.some.inj e; omega)).trans st.res, ho⟩
theorem ItSt.below {w : World} {B k : Nat} {s : Bs} {W W1 : World} (st : ItSt w B k s W) (hB : Below W.heap.size W W1) : ItSt w B k s W1 := st.step (grown_below hB _) (st.sc.then hB)
theorem ItSt.fin {w : World} {B k : Nat} {s : Bs} {W W' : World} (st : ItSt w B k s W) {o : Option (ItemP × Bs)} {nm : Bs} (ho : o = some (plainItem nm, s)) (hg : W.grownBy W' (some w.heap.size)) : ItemPost w B k o (.returned (.agg #[.string (str nm), .slice none 0 0, .string ⟨#[]⟩, .slice none 0 0, .bool false, .bool false, .int .i64 0, .int .i64 0])) W' := by
 subst ho
 have hl := st.old
 exact ⟨grown_new st.gr hg (fun k e => .inl (by have := Option.some.inj e; omega)), .slice none 0 0, .slice none 0 0, fun _ => False, rfl, fun i hi => hi.elim, ⟨rowC_nil _ _ _, rowC_nil _ _ _⟩, st.sc.kept hg (fun e => by have := Option.some.inj e; omega)⟩
theorem ItSt.fin2 {w : World} {B k : Nat} {s : Bs} {W1 W W' : World} (st : ItSt w B k s W1) {o : Option (ItemP × Bs)} {p : ItemP × Bs} {vp vn : Value} {T : Nat → Prop} (ho : o = some p) (hG : W1.grownBy W (some B)) (hT : Fresh T W1 W) (hP : SpecAt W T vp vn p.1.spec) (hS : Scn W B p.2 k) (hg : W.grownBy W' (some w.heap.size)) : ItemPost w B k o (.returned (.agg #[.string (str p.1.name), vp, .string (str p.1.spec.what), vn, .bool p.1.peek, .bool p.1.part, .int .i64 p.1.frm, .int .i64 p.1.cnt])) W' := by
 subst ho
 have hl := st.old
 have hh := (Array.getElem?_eq_some_iff.1 st.res).1
 refine ⟨grown_new (st.gr.trans hG) hg (fun k e => .inl (by have := Option.some.inj e; omega)), vp, vn, T, rfl, fun i hi => ?_, hP.kept (fun i hi => ?_), hS.kept hg (fun e => by have := Option.some.inj e; omega)⟩
 ·
  have := hT i hi; have := hg.size; omega
 ·
  have := hT i hi; exact hg.block i (by omega) (fun e => by have := Option.some.inj e; omega)
theorem item_walk (G : Glob) (B k : Nat) (sec : Bs → Option SpecP) (hsec : SecCon G sec) (s : Bs) (w : World) (hE : EnvI G w B) (h : Scn w B s k) :
  Calls Tryz.prog 104 #[scP B] w (ItemPost w B k (itemB sec s)) := by
 have HE := Lib.hid hE
 have hsm := h.small
 have hlt := h.lt
 have HSec := Lib.hid hsec
 obtain ⟨n, hn⟩ : ∃ n, n = (s.takeWhile endI).length := ⟨_, rfl⟩
 have hle : n ≤ s.length := by rw [hn]; exact (List.takeWhile_prefix _).length_le
 have HI := Lib.hid (fun (j : Nat) (hj : j < n) (h : j < (str s).size) => show ((((str s)[j].toNat : Int) != 32) = true ∧ (((str s)[j].toNat : Int) != 41) = true ∧ (((str s)[j].toNat : Int) != 91) = true) by
  have := tw_in endI s j (by rw [← hn]; exact hj) (by rw [← str_size]; exact h)
  rw [str_at]
  simp only [endI, Bool.and_eq_true, bne_iff_ne, ne_eq] at this
  refine ⟨?_, ?_, ?_⟩ <;> rw [bne_iff_ne] <;> intro e
  ·
   exact this.1.1 ((byte_eq _ 32 (by decide)).2 e)
  ·
   exact this.1.2 ((byte_eq _ 41 (by decide)).2 e)
  ·
   exact this.2 ((byte_eq _ 91 (by decide)).2 e))
 have HO := Lib.hid (fun (h : n < (str s).size) => show (((str s)[n].toNat : Int) = 32 ∨ ((str s)[n].toNat : Int) = 41 ∨ ((str s)[n].toNat : Int) = 91) by
  subst hn
  have := tw_out endI s (by rw [← str_size]; exact h)
  rw [str_at]
  generalize s[(s.takeWhile endI).length]'_ = c at *
  simp only [endI, Bool.and_eq_false_iff, bne_eq_false_iff_eq] at this
  rcases this with (e | e) | e <;> rw [e]
  ·
   exact .inl rfl
  ·
   exact .inr (.inl rfl)
  ·
   exact .inr (.inr rfl))
 have HB0 := Lib.hid ((Below.refl w.heap.size w).alloc (Nat.le_refl _) zeroItem)
 have HST0 : Hid (ItSt w B k s (w.alloc zeroItem)) := Lib.hid ⟨grown_below HB0.out _, h.then HB0.out, World.alloc_heap_new _ _, hlt⟩
 obtain ⟨c0, c1, f0, f1⟩ := HST0.out.sc.cells
 have HT := Lib.hid (show str (s.takeWhile endI) = (str s).extract 0 n by rw [str_take, hn, List.prefix_iff_eq_take.1 (List.takeWhile_prefix endI) |>.symm])
 have HD := Lib.hid (show str (s.drop (s.takeWhile endI).length) = (str s).extract n s.length by rw [str_drop, hn])
 have hO : itemB sec s = if largeL (s.takeWhile endI) = bodyN ∨ largeL (s.takeWhile endI) = peekN then
  match isB [91] (s.drop (s.takeWhile endI).length) with
  | some r2 => bodyB sec (decide (largeL (s.takeWhile endI) ≠ bodyN)) r2
  | none => itemK (largeL (s.takeWhile endI)) (s.drop (s.takeWhile endI).length)
 else itemK (largeL (s.takeWhile endI)) (s.drop (s.takeWhile endI).length) := rfl
 have KL := Lib.hid (fun W => large_walk21 (s.takeWhile endI) (by rw [← hn]; omega) W)
 have hRl : (s.drop (s.takeWhile endI).length).length ≤ s.length := by rw [List.length_drop]; omega
 rw [HT.out] at KL
 generalize itemB sec s = o at *
 generalize s.drop (s.takeWhile endI).length = R at *
 generalize hNm : largeL (s.takeWhile endI) = Nm at *
 have HST1 : Hid (∀ W1, Below (w.alloc zeroItem).heap.size (w.alloc zeroItem) W1 → ItSt w B k R (W1.setCell ⟨B, 0, none⟩ (.string (str R)))) := Lib.hid (fun W1 hW1 => (HST0.out.below hW1).step (grown_put _ _ _ _) ((HST0.out.below hW1).sc.put R hRl))
 have zs := str_size s
 have HHO := Lib.hid hO
 clear hO h hn hNm hsec hE
 go_enter Tryz.func104, Tryz.ntmps104
 go_wp2
 go_loop [3] (fun i => ∃ j : Nat, j ≤ n ∧ i = .int .i64 j) (fun i => n - (intOf i).toNat)
 case atStart => exact ⟨0, Nat.zero_le _, rfl⟩
 case round =>
  obtain ⟨j, hj, rfl⟩ := hrel
  by_cases hjw : j < n
  ·
   have hjs : j < (str s).size := by omega
   obtain ⟨d1, d2, d3⟩ := HI.out j hjw hjs
   generalize str s = S at *
   go_wp2_with fail
   go_round
   case rel => exact ⟨j + 1, by omega, by go_num⟩
   case measure => simp [intOf]; omega
  ·
   obtain rfl : j = n := by omega
   have hx : (str s).extract 0 j = (str s).extract 0 j := rfl
   have hd : (str s).extract j s.length = str R := HD.out.symm
   clear hx HI HT HD
   by_cases hb : Nm = bodyN
   ·
    by_cases hjs : j < (str s).size
    ·
     have h3 := HO.out hjs
     clear HO
     rcases h3 with e1 | e1 | e1
     all_goals
      have hNm : str Nm = ⟨#[66, 79, 68, 89]⟩ := by rw [hb]; rfl
      have hOo := HHO.out
      rw [if_pos (.inl hb)] at hOo
      rw [hNm] at KL
      cases h9 : isB [91] R with
      | some r2 =>
       have HO8 := Lib.hid (show o = bodyB sec false r2 by rw [hOo, h9]; exact congrArg (bodyB sec · r2) (decide_eq_false (by rw [hb]; decide)))
       have K9 : Hid (∀ W, Scn W B R k → Calls Tryz.prog 68 #[scP B, .string ⟨#[91]⟩] W _) := Lib.hid (fun W hW => is_ok B R [91] r2 k h9 W hW)
       have K10 := Lib.hid (fun W hE hS => body_walk G B k sec HSec.out false r2 W hE hS)
       rw [← HO8.out] at K10
       clear hOo h9 hNm hb
       go_wp2_with fail
       refine (KL.out _).mono ?_
       rintro e w1 ⟨rfl, hB1⟩
       have ST1 := Lib.hid (HST1.out _ hB1)
       obtain ⟨c2, c3, f2, f3⟩ := (HST0.out.below hB1).sc.cells
       clear hB1
       go_wp2_with fail
       refine (K9.out _ ST1.out.sc).mono ?_
       rintro e w2 ⟨rfl, hS2, hG2⟩
       have ST2 := Lib.hid (ST1.out.step hG2 hS2)
       have HE2 := Lib.hid (HE.out.kept ST2.out.gr)
       clear hS2 hG2 c2 c3 f2 f3
       go_wp2_with fail
       refine (K10.out _ HE2.out ST2.out.sc).mono ?_
       rintro e w3 hP3
       cases o with
       | none =>
        obtain ⟨hG3, rfl⟩ := hP3
        exact ⟨rfl, .bad (ST2.out.gr.trans hG3) rfl⟩
       | some p =>
        obtain ⟨hG3, vp, vn, T, rfl, hT, hP, hS3⟩ := hP3
        obtain ⟨Ap, cp, rfl, hq1⟩ := id hP.path
        obtain ⟨An, cn, rfl, hq2⟩ := id hP.names
        clear hq1 hq2
        have ST3 := Lib.hid (ST2.out.step hG3 hS3)
        have HG3 := Lib.hid hG3
        have HT3 := Lib.hid hT
        have HP3 := Lib.hid hP
        have HS3 := Lib.hid hS3
        clear hG3 hT hP hS3 HO8 HHO K10
        obtain ⟨⟨b0, b1, b2, b3, b4, b5, b6, b7⟩, g0, g1, g2, g3, g4, g5, g6, g7⟩ := eight_cells ST3.out.res
        go_wp2
        refine bodyPost_ret (v := _) ?_ rfl (ItSt.fin2 ST2.out rfl HG3.out HT3.out HP3.out HS3.out (set8 _ _ _ _ _ _ _ _ _ _ _ _ _ _ _ _ _ _ _ ST3.out.res).2)
        rw [results_cell_one rfl]
        simp [go_sem, b0, b1, b2, b3, b4, b5, b6, b7]
      | none =>
       have HO8 := Lib.hid (show o = itemK Nm R by rw [hOo, h9])
       have HNm := Lib.hid hNm
       have K9 : Hid (∀ W, Scn W B R k → Calls Tryz.prog 68 #[scP B, .string ⟨#[91]⟩] W _) := Lib.hid (fun W hW => is_not B R [91] k h9 W hW)
       clear hOo h9 hNm hb
       go_wp2_with fail
       refine (KL.out _).mono ?_
       rintro e w1 ⟨rfl, hB1⟩
       have ST1 := Lib.hid (HST1.out _ hB1)
       obtain ⟨c2, c3, f2, f3⟩ := (HST0.out.below hB1).sc.cells
       clear hB1
       go_wp2_with fail
       refine (K9.out _ ST1.out.sc).mono ?_
       rintro e w2 ⟨rfl, hS2, hG2⟩
       have STk := Lib.hid (ST1.out.step hG2 hS2)
       clear hS2 hG2 c2 c3 f2 f3
       rw [← HNm.out]
       cases hk : knownN.contains Nm with
       | true =>
        have HK := Lib.hid hk
        have HO9 := Lib.hid (show o = some (plainItem Nm, R) by rw [HO8.out, itemK, if_pos hk])
        clear hk
        go_wp2_with fail
        refine (contains_lit _ _ knownN Nm _ (by decide) (fun j hj => ?lits)).mono ?_
        case lits => exact lit_cells _ knownN 9 j hj (by simp)
        rintro e w5 ⟨rfl, hw5⟩
        rw [HK.out]
        have st5 : ItSt w B k R w5 := by rw [hw5]; exact STk.out.below ((Below.refl _ _).alloc (Nat.le_refl _) _)
        have ST5 := Lib.hid st5
        clear hw5 st5
        go_wp2_with fail
        refine (must_walk B _).mono ?_
        rintro e w6 ⟨rfl, rfl⟩
        obtain ⟨⟨b0, b1, b2, b3, b4, b5, b6, b7⟩, g0, g1, g2, g3, g4, g5, g6, g7⟩ := eight_cells ST5.out.res
        go_wp2
        refine bodyPost_ret (v := _) ?_ rfl (ItSt.fin ST5.out HO9.out (set8 _ _ _ _ _ _ _ _ _ _ _ _ _ _ _ _ _ _ _ ST5.out.res).2)
        rw [results_cell_one rfl]
        simp [go_sem, b0, b1, b2, b3, b4, b5, b6, b7]
       | false =>
        have HK := Lib.hid hk
        have HO9 := Lib.hid (show o = none by rw [HO8.out, itemK, if_neg (by rw [hk]; decide)])
        clear hk
        go_wp2_with fail
        refine (contains_lit _ _ knownN Nm _ (by decide) (fun j hj => ?lits)).mono ?_
        case lits => exact lit_cells _ knownN 9 j hj (by simp)
        rintro e w5 ⟨rfl, hw5⟩
        rw [HK.out]
        have st5 : ItSt w B k R w5 := by rw [hw5]; exact STk.out.below ((Below.refl _ _).alloc (Nat.le_refl _) _)
        have ST5 := Lib.hid st5
        clear hw5 st5
        go_wp2_with fail
        refine (must_no B _).mono ?_
        rintro e w6 ⟨rfl, rfl⟩
        exact ⟨rfl, .bad ST5.out.gr HO9.out⟩
    ·
     clear HO
     have hNm : str Nm = ⟨#[66, 79, 68, 89]⟩ := by rw [hb]; rfl
     have hOo := HHO.out
     rw [if_pos (.inl hb)] at hOo
     rw [hNm] at KL
     cases h9 : isB [91] R with
     | some r2 =>
      have HO8 := Lib.hid (show o = bodyB sec false r2 by rw [hOo, h9]; exact congrArg (bodyB sec · r2) (decide_eq_false (by rw [hb]; decide)))
      have K9 : Hid (∀ W, Scn W B R k → Calls Tryz.prog 68 #[scP B, .string ⟨#[91]⟩] W _) := Lib.hid (fun W hW => is_ok B R [91] r2 k h9 W hW)
      have K10 := Lib.hid (fun W hE hS => body_walk G B k sec HSec.out false r2 W hE hS)
      rw [← HO8.out] at K10
      clear hOo h9 hNm hb
      go_wp2_with fail
      refine (KL.out _).mono ?_
      rintro e w1 ⟨rfl, hB1⟩
      have ST1 := Lib.hid (HST1.out _ hB1)
      obtain ⟨c2, c3, f2, f3⟩ := (HST0.out.below hB1).sc.cells
      clear hB1
      go_wp2_with fail
      refine (K9.out _ ST1.out.sc).mono ?_
      rintro e w2 ⟨rfl, hS2, hG2⟩
      have ST2 := Lib.hid (ST1.out.step hG2 hS2)
      have HE2 := Lib.hid (HE.out.kept ST2.out.gr)
      clear hS2 hG2 c2 c3 f2 f3
      go_wp2_with fail
      refine (K10.out _ HE2.out ST2.out.sc).mono ?_
      rintro e w3 hP3
      cases o with
      | none =>
       obtain ⟨hG3, rfl⟩ := hP3
       exact ⟨rfl, .bad (ST2.out.gr.trans hG3) rfl⟩
      | some p =>
       obtain ⟨hG3, vp, vn, T, rfl, hT, hP, hS3⟩ := hP3
       obtain ⟨Ap, cp, rfl, hq1⟩ := id hP.path
       obtain ⟨An, cn, rfl, hq2⟩ := id hP.names
       clear hq1 hq2
       have ST3 := Lib.hid (ST2.out.step hG3 hS3)
       have HG3 := Lib.hid hG3
       have HT3 := Lib.hid hT
       have HP3 := Lib.hid hP
       have HS3 := Lib.hid hS3
       clear hG3 hT hP hS3 HO8 HHO K10
       obtain ⟨⟨b0, b1, b2, b3, b4, b5, b6, b7⟩, g0, g1, g2, g3, g4, g5, g6, g7⟩ := eight_cells ST3.out.res
       go_wp2
       refine bodyPost_ret (v := _) ?_ rfl (ItSt.fin2 ST2.out rfl HG3.out HT3.out HP3.out HS3.out (set8 _ _ _ _ _ _ _ _ _ _ _ _ _ _ _ _ _ _ _ ST3.out.res).2)
       rw [results_cell_one rfl]
       simp [go_sem, b0, b1, b2, b3, b4, b5, b6, b7]
     | none =>
      have HO8 := Lib.hid (show o = itemK Nm R by rw [hOo, h9])
      have HNm := Lib.hid hNm
      have K9 : Hid (∀ W, Scn W B R k → Calls Tryz.prog 68 #[scP B, .string ⟨#[91]⟩] W _) := Lib.hid (fun W hW => is_not B R [91] k h9 W hW)
      clear hOo h9 hNm hb
      go_wp2_with fail
      refine (KL.out _).mono ?_
      rintro e w1 ⟨rfl, hB1⟩
      have ST1 := Lib.hid (HST1.out _ hB1)
      obtain ⟨c2, c3, f2, f3⟩ := (HST0.out.below hB1).sc.cells
      clear hB1
      go_wp2_with fail
      refine (K9.out _ ST1.out.sc).mono ?_
      rintro e w2 ⟨rfl, hS2, hG2⟩
      have STk := Lib.hid (ST1.out.step hG2 hS2)
      clear hS2 hG2 c2 c3 f2 f3
      rw [← HNm.out]
      cases hk : knownN.contains Nm with
      | true =>
       have HK := Lib.hid hk
       have HO9 := Lib.hid (show o = some (plainItem Nm, R) by rw [HO8.out, itemK, if_pos hk])
       clear hk
       go_wp2_with fail
       refine (contains_lit _ _ knownN Nm _ (by decide) (fun j hj => ?lits)).mono ?_
       case lits => exact lit_cells _ knownN 9 j hj (by simp)
       rintro e w5 ⟨rfl, hw5⟩
       rw [HK.out]
       have st5 : ItSt w B k R w5 := by rw [hw5]; exact STk.out.below ((Below.refl _ _).alloc (Nat.le_refl _) _)
       have ST5 := Lib.hid st5
       clear hw5 st5
       go_wp2_with fail
       refine (must_walk B _).mono ?_
       rintro e w6 ⟨rfl, rfl⟩
       obtain ⟨⟨b0, b1, b2, b3, b4, b5, b6, b7⟩, g0, g1, g2, g3, g4, g5, g6, g7⟩ := eight_cells ST5.out.res
       go_wp2
       refine bodyPost_ret (v := _) ?_ rfl (ItSt.fin ST5.out HO9.out (set8 _ _ _ _ _ _ _ _ _ _ _ _ _ _ _ _ _ _ _ ST5.out.res).2)
       rw [results_cell_one rfl]
       simp [go_sem, b0, b1, b2, b3, b4, b5, b6, b7]
      | false =>
       have HK := Lib.hid hk
       have HO9 := Lib.hid (show o = none by rw [HO8.out, itemK, if_neg (by rw [hk]; decide)])
       clear hk
       go_wp2_with fail
       refine (contains_lit _ _ knownN Nm _ (by decide) (fun j hj => ?lits)).mono ?_
       case lits => exact lit_cells _ knownN 9 j hj (by simp)
       rintro e w5 ⟨rfl, hw5⟩
       rw [HK.out]
       have st5 : ItSt w B k R w5 := by rw [hw5]; exact STk.out.below ((Below.refl _ _).alloc (Nat.le_refl _) _)
       have ST5 := Lib.hid st5
       clear hw5 st5
       go_wp2_with fail
       refine (must_no B _).mono ?_
       rintro e w6 ⟨rfl, rfl⟩
       exact ⟨rfl, .bad ST5.out.gr HO9.out⟩
   ·
    have hnb := hb
    clear hb
    by_cases hb : Nm = peekN
    ·
     have hb1 : ¬ (⟨#[66, 79, 68, 89, 46, 80, 69, 69, 75]⟩ : ByteArray) = ⟨#[66, 79, 68, 89]⟩ := by decide
     by_cases hjs : j < (str s).size
     ·
      have h3 := HO.out hjs
      clear HO
      rcases h3 with e1 | e1 | e1
      all_goals
       have hNm : str Nm = ⟨#[66, 79, 68, 89, 46, 80, 69, 69, 75]⟩ := by rw [hb]; rfl
       have hOo := HHO.out
       rw [if_pos (.inr hb)] at hOo
       rw [hNm] at KL
       cases h9 : isB [91] R with
       | some r2 =>
        have HO8 := Lib.hid (show o = bodyB sec true r2 by rw [hOo, h9]; exact congrArg (bodyB sec · r2) (decide_eq_true (by rw [hb]; decide)))
        have K9 : Hid (∀ W, Scn W B R k → Calls Tryz.prog 68 #[scP B, .string ⟨#[91]⟩] W _) := Lib.hid (fun W hW => is_ok B R [91] r2 k h9 W hW)
        have K10 := Lib.hid (fun W hE hS => body_walk G B k sec HSec.out true r2 W hE hS)
        rw [← HO8.out] at K10
        clear hOo h9 hNm hb
        go_wp2_with fail
        refine (KL.out _).mono ?_
        rintro e w1 ⟨rfl, hB1⟩
        have ST1 := Lib.hid (HST1.out _ hB1)
        obtain ⟨c2, c3, f2, f3⟩ := (HST0.out.below hB1).sc.cells
        clear hB1
        go_wp2_with fail
        refine (K9.out _ ST1.out.sc).mono ?_
        rintro e w2 ⟨rfl, hS2, hG2⟩
        have ST2 := Lib.hid (ST1.out.step hG2 hS2)
        have HE2 := Lib.hid (HE.out.kept ST2.out.gr)
        clear hS2 hG2 c2 c3 f2 f3
        go_wp2_with fail
        refine (K10.out _ HE2.out ST2.out.sc).mono ?_
        rintro e w3 hP3
        cases o with
        | none =>
         obtain ⟨hG3, rfl⟩ := hP3
         exact ⟨rfl, .bad (ST2.out.gr.trans hG3) rfl⟩
        | some p =>
         obtain ⟨hG3, vp, vn, T, rfl, hT, hP, hS3⟩ := hP3
         obtain ⟨Ap, cp, rfl, hq1⟩ := id hP.path
         obtain ⟨An, cn, rfl, hq2⟩ := id hP.names
         clear hq1 hq2
         have ST3 := Lib.hid (ST2.out.step hG3 hS3)
         have HG3 := Lib.hid hG3
         have HT3 := Lib.hid hT
         have HP3 := Lib.hid hP
         have HS3 := Lib.hid hS3
         clear hG3 hT hP hS3 HO8 HHO K10
         obtain ⟨⟨b0, b1, b2, b3, b4, b5, b6, b7⟩, g0, g1, g2, g3, g4, g5, g6, g7⟩ := eight_cells ST3.out.res
         go_wp2
         refine bodyPost_ret (v := _) ?_ rfl (ItSt.fin2 ST2.out rfl HG3.out HT3.out HP3.out HS3.out (set8 _ _ _ _ _ _ _ _ _ _ _ _ _ _ _ _ _ _ _ ST3.out.res).2)
         rw [results_cell_one rfl]
         simp [go_sem, b0, b1, b2, b3, b4, b5, b6, b7]
       | none =>
        have HO8 := Lib.hid (show o = itemK Nm R by rw [hOo, h9])
        have HNm := Lib.hid hNm
        have K9 : Hid (∀ W, Scn W B R k → Calls Tryz.prog 68 #[scP B, .string ⟨#[91]⟩] W _) := Lib.hid (fun W hW => is_not B R [91] k h9 W hW)
        clear hOo h9 hNm hb
        go_wp2_with fail
        refine (KL.out _).mono ?_
        rintro e w1 ⟨rfl, hB1⟩
        have ST1 := Lib.hid (HST1.out _ hB1)
        obtain ⟨c2, c3, f2, f3⟩ := (HST0.out.below hB1).sc.cells
        clear hB1
        go_wp2_with fail
        refine (K9.out _ ST1.out.sc).mono ?_
        rintro e w2 ⟨rfl, hS2, hG2⟩
        have STk := Lib.hid (ST1.out.step hG2 hS2)
        clear hS2 hG2 c2 c3 f2 f3
        rw [← HNm.out]
        cases hk : knownN.contains Nm with
        | true =>
         have HK := Lib.hid hk
         have HO9 := Lib.hid (show o = some (plainItem Nm, R) by rw [HO8.out, itemK, if_pos hk])
         clear hk
         go_wp2_with fail
         refine (contains_lit _ _ knownN Nm _ (by decide) (fun j hj => ?lits)).mono ?_
         case lits => exact lit_cells _ knownN 9 j hj (by simp)
         rintro e w5 ⟨rfl, hw5⟩
         rw [HK.out]
         have st5 : ItSt w B k R w5 := by rw [hw5]; exact STk.out.below ((Below.refl _ _).alloc (Nat.le_refl _) _)
         have ST5 := Lib.hid st5
         clear hw5 st5
         go_wp2_with fail
         refine (must_walk B _).mono ?_
         rintro e w6 ⟨rfl, rfl⟩
         obtain ⟨⟨b0, b1, b2, b3, b4, b5, b6, b7⟩, g0, g1, g2, g3, g4, g5, g6, g7⟩ := eight_cells ST5.out.res
         go_wp2
         refine bodyPost_ret (v := _) ?_ rfl (ItSt.fin ST5.out HO9.out (set8 _ _ _ _ _ _ _ _ _ _ _ _ _ _ _ _ _ _ _ ST5.out.res).2)
         rw [results_cell_one rfl]
         simp [go_sem, b0, b1, b2, b3, b4, b5, b6, b7]
        | false =>
         have HK := Lib.hid hk
         have HO9 := Lib.hid (show o = none by rw [HO8.out, itemK, if_neg (by rw [hk]; decide)])
         clear hk
         go_wp2_with fail
         refine (contains_lit _ _ knownN Nm _ (by decide) (fun j hj => ?lits)).mono ?_
         case lits => exact lit_cells _ knownN 9 j hj (by simp)
         rintro e w5 ⟨rfl, hw5⟩
         rw [HK.out]
         have st5 : ItSt w B k R w5 := by rw [hw5]; exact STk.out.below ((Below.refl _ _).alloc (Nat.le_refl _) _)
         have ST5 := Lib.hid st5
         clear hw5 st5
         go_wp2_with fail
         refine (must_no B _).mono ?_
         rintro e w6 ⟨rfl, rfl⟩
         exact ⟨rfl, .bad ST5.out.gr HO9.out⟩
     ·
      clear HO
      have hNm : str Nm = ⟨#[66, 79, 68, 89, 46, 80, 69, 69, 75]⟩ := by rw [hb]; rfl
      have hOo := HHO.out
      rw [if_pos (.inr hb)] at hOo
      rw [hNm] at KL
      cases h9 : isB [91] R with
      | some r2 =>
       have HO8 := Lib.hid (show o = bodyB sec true r2 by rw [hOo, h9]; exact congrArg (bodyB sec · r2) (decide_eq_true (by rw [hb]; decide)))
       have K9 : Hid (∀ W, Scn W B R k → Calls Tryz.prog 68 #[scP B, .string ⟨#[91]⟩] W _) := Lib.hid (fun W hW => is_ok B R [91] r2 k h9 W hW)
       have K10 := Lib.hid (fun W hE hS => body_walk G B k sec HSec.out true r2 W hE hS)
       rw [← HO8.out] at K10
       clear hOo h9 hNm hb
       go_wp2_with fail
       refine (KL.out _).mono ?_
       rintro e w1 ⟨rfl, hB1⟩
       have ST1 := Lib.hid (HST1.out _ hB1)
       obtain ⟨c2, c3, f2, f3⟩ := (HST0.out.below hB1).sc.cells
       clear hB1
       go_wp2_with fail
       refine (K9.out _ ST1.out.sc).mono ?_
       rintro e w2 ⟨rfl, hS2, hG2⟩
       have ST2 := Lib.hid (ST1.out.step hG2 hS2)
       have HE2 := Lib.hid (HE.out.kept ST2.out.gr)
       clear hS2 hG2 c2 c3 f2 f3
       go_wp2_with fail
       refine (K10.out _ HE2.out ST2.out.sc).mono ?_
       rintro e w3 hP3
       cases o with
       | none =>
        obtain ⟨hG3, rfl⟩ := hP3
        exact ⟨rfl, .bad (ST2.out.gr.trans hG3) rfl⟩
       | some p =>
        obtain ⟨hG3, vp, vn, T, rfl, hT, hP, hS3⟩ := hP3
        obtain ⟨Ap, cp, rfl, hq1⟩ := id hP.path
        obtain ⟨An, cn, rfl, hq2⟩ := id hP.names
        clear hq1 hq2
        have ST3 := Lib.hid (ST2.out.step hG3 hS3)
        have HG3 := Lib.hid hG3
        have HT3 := Lib.hid hT
        have HP3 := Lib.hid hP
        have HS3 := Lib.hid hS3
        clear hG3 hT hP hS3 HO8 HHO K10
        obtain ⟨⟨b0, b1, b2, b3, b4, b5, b6, b7⟩, g0, g1, g2, g3, g4, g5, g6, g7⟩ := eight_cells ST3.out.res
        go_wp2
        refine bodyPost_ret (v := _) ?_ rfl (ItSt.fin2 ST2.out rfl HG3.out HT3.out HP3.out HS3.out (set8 _ _ _ _ _ _ _ _ _ _ _ _ _ _ _ _ _ _ _ ST3.out.res).2)
        rw [results_cell_one rfl]
        simp [go_sem, b0, b1, b2, b3, b4, b5, b6, b7]
      | none =>
       have HO8 := Lib.hid (show o = itemK Nm R by rw [hOo, h9])
       have HNm := Lib.hid hNm
       have K9 : Hid (∀ W, Scn W B R k → Calls Tryz.prog 68 #[scP B, .string ⟨#[91]⟩] W _) := Lib.hid (fun W hW => is_not B R [91] k h9 W hW)
       clear hOo h9 hNm hb
       go_wp2_with fail
       refine (KL.out _).mono ?_
       rintro e w1 ⟨rfl, hB1⟩
       have ST1 := Lib.hid (HST1.out _ hB1)
       obtain ⟨c2, c3, f2, f3⟩ := (HST0.out.below hB1).sc.cells
       clear hB1
       go_wp2_with fail
       refine (K9.out _ ST1.out.sc).mono ?_
       rintro e w2 ⟨rfl, hS2, hG2⟩
       have STk := Lib.hid (ST1.out.step hG2 hS2)
       clear hS2 hG2 c2 c3 f2 f3
       rw [← HNm.out]
       cases hk : knownN.contains Nm with
       | true =>
        have HK := Lib.hid hk
        have HO9 := Lib.hid (show o = some (plainItem Nm, R) by rw [HO8.out, itemK, if_pos hk])
        clear hk
        go_wp2_with fail
        refine (contains_lit _ _ knownN Nm _ (by decide) (fun j hj => ?lits)).mono ?_
        case lits => exact lit_cells _ knownN 9 j hj (by simp)
        rintro e w5 ⟨rfl, hw5⟩
        rw [HK.out]
        have st5 : ItSt w B k R w5 := by rw [hw5]; exact STk.out.below ((Below.refl _ _).alloc (Nat.le_refl _) _)
        have ST5 := Lib.hid st5
        clear hw5 st5
        go_wp2_with fail
        refine (must_walk B _).mono ?_
        rintro e w6 ⟨rfl, rfl⟩
        obtain ⟨⟨b0, b1, b2, b3, b4, b5, b6, b7⟩, g0, g1, g2, g3, g4, g5, g6, g7⟩ := eight_cells ST5.out.res
        go_wp2
        refine bodyPost_ret (v := _) ?_ rfl (ItSt.fin ST5.out HO9.out (set8 _ _ _ _ _ _ _ _ _ _ _ _ _ _ _ _ _ _ _ ST5.out.res).2)
        rw [results_cell_one rfl]
        simp [go_sem, b0, b1, b2, b3, b4, b5, b6, b7]
       | false =>
        have HK := Lib.hid hk
        have HO9 := Lib.hid (show o = none by rw [HO8.out, itemK, if_neg (by rw [hk]; decide)])
        clear hk
        go_wp2_with fail
        refine (contains_lit _ _ knownN Nm _ (by decide) (fun j hj => ?lits)).mono ?_
        case lits => exact lit_cells _ knownN 9 j hj (by simp)
        rintro e w5 ⟨rfl, hw5⟩
        rw [HK.out]
        have st5 : ItSt w B k R w5 := by rw [hw5]; exact STk.out.below ((Below.refl _ _).alloc (Nat.le_refl _) _)
        have ST5 := Lib.hid st5
        clear hw5 st5
        go_wp2_with fail
        refine (must_no B _).mono ?_
        rintro e w6 ⟨rfl, rfl⟩
        exact ⟨rfl, .bad ST5.out.gr HO9.out⟩
    ·
     by_cases hjs : j < (str s).size
     ·
      have h3 := HO.out hjs
      clear HO
      rcases h3 with e1 | e1 | e1
      all_goals
       have HO8 := Lib.hid (show o = itemK Nm R by rw [HHO.out, if_neg (by rintro (e | e); exact hnb e; exact hb e)])
       have n1 : ((str Nm).toList == [66, 79, 68, 89]) = false := str_neb hnb
       have n2 : ((str Nm).toList == [66, 79, 68, 89, 46, 80, 69, 69, 75]) = false := str_neb hb
       have n3 : ¬ (str Nm).toList = [66, 79, 68, 89] := str_ne hnb
       have n4 : ¬ (str Nm).toList = [66, 79, 68, 89, 46, 80, 69, 69, 75] := str_ne hb
       go_wp2_with fail
       refine (KL.out _).mono ?_
       rintro e w1 ⟨rfl, hB1⟩
       have STk := Lib.hid (HST1.out _ hB1)
       obtain ⟨c2, c3, f2, f3⟩ := (HST0.out.below hB1).sc.cells
       clear hB1
       cases hk : knownN.contains Nm with
       | true =>
        have HK := Lib.hid hk
        have HO9 := Lib.hid (show o = some (plainItem Nm, R) by rw [HO8.out, itemK, if_pos hk])
        clear hk
        go_wp2_with fail
        refine (contains_lit _ _ knownN Nm _ (by decide) (fun j hj => ?lits)).mono ?_
        case lits => exact lit_cells _ knownN 9 j hj (by simp)
        rintro e w5 ⟨rfl, hw5⟩
        rw [HK.out]
        have st5 : ItSt w B k R w5 := by rw [hw5]; exact STk.out.below ((Below.refl _ _).alloc (Nat.le_refl _) _)
        have ST5 := Lib.hid st5
        clear hw5 st5
        go_wp2_with fail
        refine (must_walk B _).mono ?_
        rintro e w6 ⟨rfl, rfl⟩
        obtain ⟨⟨b0, b1, b2, b3, b4, b5, b6, b7⟩, g0, g1, g2, g3, g4, g5, g6, g7⟩ := eight_cells ST5.out.res
        go_wp2
        refine bodyPost_ret (v := _) ?_ rfl (ItSt.fin ST5.out HO9.out (set8 _ _ _ _ _ _ _ _ _ _ _ _ _ _ _ _ _ _ _ ST5.out.res).2)
        rw [results_cell_one rfl]
        simp [go_sem, b0, b1, b2, b3, b4, b5, b6, b7]
       | false =>
        have HK := Lib.hid hk
        have HO9 := Lib.hid (show o = none by rw [HO8.out, itemK, if_neg (by rw [hk]; decide)])
        clear hk
        go_wp2_with fail
        refine (contains_lit _ _ knownN Nm _ (by decide) (fun j hj => ?lits)).mono ?_
        case lits => exact lit_cells _ knownN 9 j hj (by simp)
        rintro e w5 ⟨rfl, hw5⟩
        rw [HK.out]
        have st5 : ItSt w B k R w5 := by rw [hw5]; exact STk.out.below ((Below.refl _ _).alloc (Nat.le_refl _) _)
        have ST5 := Lib.hid st5
        clear hw5 st5
        go_wp2_with fail
        refine (must_no B _).mono ?_
        rintro e w6 ⟨rfl, rfl⟩
        exact ⟨rfl, .bad ST5.out.gr HO9.out⟩
     ·
      clear HO
      have HO8 := Lib.hid (show o = itemK Nm R by rw [HHO.out, if_neg (by rintro (e | e); exact hnb e; exact hb e)])
      have n1 : ((str Nm).toList == [66, 79, 68, 89]) = false := str_neb hnb
      have n2 : ((str Nm).toList == [66, 79, 68, 89, 46, 80, 69, 69, 75]) = false := str_neb hb
      have n3 : ¬ (str Nm).toList = [66, 79, 68, 89] := str_ne hnb
      have n4 : ¬ (str Nm).toList = [66, 79, 68, 89, 46, 80, 69, 69, 75] := str_ne hb
      go_wp2_with fail
      refine (KL.out _).mono ?_
      rintro e w1 ⟨rfl, hB1⟩
      have STk := Lib.hid (HST1.out _ hB1)
      obtain ⟨c2, c3, f2, f3⟩ := (HST0.out.below hB1).sc.cells
      clear hB1
      cases hk : knownN.contains Nm with
      | true =>
       have HK := Lib.hid hk
       have HO9 := Lib.hid (show o = some (plainItem Nm, R) by rw [HO8.out, itemK, if_pos hk])
       clear hk
       go_wp2_with fail
       refine (contains_lit _ _ knownN Nm _ (by decide) (fun j hj => ?lits)).mono ?_
       case lits => exact lit_cells _ knownN 9 j hj (by simp)
       rintro e w5 ⟨rfl, hw5⟩
       rw [HK.out]
       have st5 : ItSt w B k R w5 := by rw [hw5]; exact STk.out.below ((Below.refl _ _).alloc (Nat.le_refl _) _)
       have ST5 := Lib.hid st5
       clear hw5 st5
       go_wp2_with fail
       refine (must_walk B _).mono ?_
       rintro e w6 ⟨rfl, rfl⟩
       obtain ⟨⟨b0, b1, b2, b3, b4, b5, b6, b7⟩, g0, g1, g2, g3, g4, g5, g6, g7⟩ := eight_cells ST5.out.res
       go_wp2
       refine bodyPost_ret (v := _) ?_ rfl (ItSt.fin ST5.out HO9.out (set8 _ _ _ _ _ _ _ _ _ _ _ _ _ _ _ _ _ _ _ ST5.out.res).2)
       rw [results_cell_one rfl]
       simp [go_sem, b0, b1, b2, b3, b4, b5, b6, b7]
      | false =>
       have HK := Lib.hid hk
       have HO9 := Lib.hid (show o = none by rw [HO8.out, itemK, if_neg (by rw [hk]; decide)])
       clear hk
       go_wp2_with fail
       refine (contains_lit _ _ knownN Nm _ (by decide) (fun j hj => ?lits)).mono ?_
       case lits => exact lit_cells _ knownN 9 j hj (by simp)
       rintro e w5 ⟨rfl, hw5⟩
       rw [HK.out]
       have st5 : ItSt w B k R w5 := by rw [hw5]; exact STk.out.below ((Below.refl _ _).alloc (Nat.le_refl _) _)
       have ST5 := Lib.hid st5
       clear hw5 st5
       go_wp2_with fail
       refine (must_no B _).mono ?_
       rintro e w6 ⟨rfl, rfl⟩
       exact ⟨rfl, .bad ST5.out.gr HO9.out⟩
end Go.Proofs.YtgmfhldfdnnafaaGreatDoor
