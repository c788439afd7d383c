/- A part of the proofs of the statements on chapter 21: walks of functions that they reach, and plain laws. What is proved is stated in the last text. Conditions: none of its own. -/
import Derived.Test.YtgmfhldfdnnafaaGreatDoorMs13
import Derived.Test.YtgmfhldfdnnafaaGreatDoorMs18
import Derived.Test.YtgmfhldfdnnafaaGreatDoorMs24
set_option maxHeartbeats 8000000
set_option maxRecDepth 100000
set_option linter.unusedSimpArgs false
set_option linter.unusedVariables false
namespace Go.Proofs.YtgmfhldfdnnafaaGreatDoor
open Go.RowKit
open Pl (Bs idxB numOk numN setOk setL)
attribute [local go_sem ↓] Go.wp_at_zero Go.wp_at_succ
theorem search_char (G : Glob) (B C k : Nat) (sub : Rd KeyP) (hsub : KeyCon G B (fun _ => True) sub) (hlenS : ∀ s k p, sub s k = some p → p.2.1.length ≤ s.length) (s s1 : Bs) (hb : isB [32] s = some s1) (h8 : 8 ≤ s1.length) (hcn : largeL (s1.take 8) = charsetN) (cs : Array Value) (h11 : cs[11]? = some (.slice none 0 0)) (hne : B ≠ C) (hC20 : 20 ≤ C) (w : World) (hC : w.heap[C]? = some (Obj.cells cs 33)) (hE : EnvI G w B) (h : Scn w B s k) :
  Calls Tryz.prog 78 #[scP B, cmP C] w (SrPost w B C cs (searchB sub s k)) := by
 obtain ⟨i0, hi, hz0, hz1, hz2⟩ := info_parts infoKey2
 have HE := Lib.hid hE
 have HSub := Lib.hid hsub
 have HLs := Lib.hid hlenS
 have hBlt := h.lt
 have hClt := (Array.getElem?_eq_some_iff.1 hC).1
 have hsm := h.small
 have H11 : Hid (11 < cs.size) := Lib.hid (Array.getElem?_eq_some_iff.1 h11).1
 have hAk0 : AkSt w.heap.size C 11 (.slice none 0 0) 0 [] [] (fun _ => False) cs 33 w := ⟨hC, h11, World.ownsRow_nil _ _ _ _, .nil, rfl, fun j hj => hj.elim, hClt, Nat.le_refl _⟩
 have HSn := Lib.hid h
 have HA0 := Lib.hid hAk0
 have K1 := Lib.hid (fun W hW => blank_ok B s s1 k hb W hW)
 have hl1 := isB_len hb
 simp only [List.length_singleton] at hl1
 have hz := str_size s1
 have HT := Lib.hid (show searchB sub s k = (match (match wordB [] (s1.drop 8) with
  | none => none
  | some (x, r) => if largeL x = asciiN ∨ largeL x = utfN then isB [32] r else none) with
  | none => none
  | some s2 => keysB sub s2 k) by unfold searchB; rw [hb]; dsimp only; rw [charB, if_pos ⟨h8, hcn⟩]; rfl)
 generalize searchB sub s k = oo at *
 have n8 : (8 : Int) ≤ (s1.length : Int) := by omega
 have hx8 : (str s1).extract 0 8 = str (s1.take 8) := str_take s1 8
 have KL8 := Lib.hid (fun W => large_walk21 (s1.take 8) (by rw [List.length_take]; omega) W)
 rw [hcn] at KL8
 have hx9 : (str s1).extract 8 s1.length = str (s1.drop 8) := str_drop s1 8
 have hdl : (s1.drop 8).length ≤ s1.length := by rw [List.length_drop]; omega
 have hcs : str charsetN = ⟨#[67, 72, 65, 82, 83, 69, 84, 32]⟩ := rfl
 rw [hcs] at KL8
 clear hb h hAk0 hC h11 hE hsub hlenS hcn hcs
 generalize s1.drop 8 = sd at *
 go_enter Tryz.func78, Tryz.ntmps78
 go_wp2_with fail
 refine (K1.out _ HSn.out).mono ?_
 rintro e w1 ⟨rfl, hScn1, hG1⟩
 have hAk1 := Lib.hid (HA0.out.step hG1 hBlt hne)
 have hR21 : Hid (R2 B C w w1) := Lib.hid (.of hG1)
 obtain ⟨c0, c1, f0, f1⟩ := hScn1.cells
 have HScn1 := Lib.hid hScn1
 clear hScn1 hG1
 go_wp2_with fail
 refine (KL8.out _).mono ?_
 rintro e w2 ⟨rfl, hB2⟩
 have hScn := HScn1.out.then hB2
 have hAk := hAk1.out.below hB2
 have hR2 : R2 B C w w2 := hR21.out.trans (.of (grown_below hB2 _))
 clear hB2 c0 c1 f0 f1
 obtain ⟨c0, c1, f0, f1⟩ := hScn.cells
 have KW : Hid (∀ W, Scn W B sd k → Calls Tryz.prog 26 #[scP B, .string ⟨#[]⟩] W _) := Lib.hid (fun W hW => word_walk B k [] sd W hW)
 obtain ⟨w3, hw3⟩ : ∃ w3, w2.setCell ⟨B, 0, none⟩ (.string (str sd)) = w3 := ⟨_, rfl⟩
 have hS3 : Scn w3 B sd k := by rw [← hw3]; exact hScn.put sd hdl
 have hG3 : w2.grownBy w3 (some B) := by rw [← hw3]; exact grown_put _ _ _ _
 have HS3 := Lib.hid hS3
 have HA3 := Lib.hid (hAk.step hG3 hBlt hne)
 have HR3 : Hid (R2 B C w w3) := Lib.hid (hR2.trans (.of hG3))
 clear hScn hAk hR2 hS3 hG3
 cases hwd : wordB [] sd with
 | none =>
  rw [hwd] at HT KW
  have HO := Lib.hid HT.out
  clear hwd
  go_wp2_with fail
  refine (KW.out _ HS3.out).mono ?_
  rintro e w4 ⟨hG4, rfl⟩
  exact ⟨rfl, .bad HO.out (HR3.out.trans (.of hG4)) (HA3.out.ok hG4 hBlt hne rfl)⟩
 | some p =>
  obtain ⟨x, r⟩ := p
  rw [hwd] at HT KW
  have hlw := wordB_len hwd
  have KL := Lib.hid (fun W => large_walk21 x (by omega) W)
  have HT2 := Lib.hid (show oo = (match (if largeL x = asciiN ∨ largeL x = utfN then isB [32] r else none) with
   | none => none
   | some s2 => keysB sub s2 k) from HT.out)
  clear HT hwd
  generalize largeL x = N at *
  go_wp2_with fail
  refine (KW.out _ HS3.out).mono ?_
  rintro e w4 ⟨hG4, rfl, hS4⟩
  have HS4 := Lib.hid hS4
  have HA4 := Lib.hid (HA3.out.step hG4 hBlt hne)
  have HR4 : Hid (R2 B C w w4) := Lib.hid (HR3.out.trans (.of hG4))
  clear hS4 hG4 hw3 c0 c1 f0 f1
  go_wp2_with fail
  refine (KL.out _).mono ?_
  rintro e w5 ⟨rfl, hB5⟩
  have HS5 := Lib.hid (HS4.out.then hB5)
  have HA5 := Lib.hid (HA4.out.below hB5)
  have HR5 : Hid (R2 B C w w5) := Lib.hid (HR4.out.trans (.of (grown_below hB5 _)))
  clear hB5
  by_cases hN : N = asciiN ∨ N = utfN
  ·
   have HT3 := Lib.hid (show oo = (match isB [32] r with
    | none => none
    | some s2 => keysB sub s2 k) by rw [HT2.out, if_pos hN])
   have hgo : ∀ (Q : Prop), ((((str N).toList == [85, 83, 45, 65, 83, 67, 73, 73]) = true → Q) → (((str N).toList == [85, 83, 45, 65, 83, 67, 73, 73]) = false → ((str N).toList == [85, 84, 70, 45, 56]) = true → Q) → Q) := fun Q h1 h2 => by
    by_cases ha : N = asciiN
    ·
     exact h1 (by rw [ha, Lib.toList_data]; rfl)
    ·
     rcases hN with h | h
     ·
      exact absurd h ha
     ·
      exact h2 (str_neb ha) (by rw [h, Lib.toList_data]; rfl)
   cases hbr : isB [32] r with
   | none =>
    have HO := Lib.hid (show oo = none by rw [HT3.out, hbr])
    have KB := Lib.hid (fun W hW => blank_no B r k hbr W hW)
    clear hbr hN
    refine hgo _ (fun n0 => ?_) (fun n0 n1 => ?_)
    all_goals
     clear hgo
     go_wp2_with fail
     refine (must_walk B _).mono ?_
     rintro e w6 ⟨rfl, rfl⟩
     go_wp2_with fail
     refine (KB.out _ HS5.out).mono ?_
     rintro e w7 ⟨rfl, hG7⟩
     exact ⟨rfl, .bad HO.out (HR5.out.trans (.of hG7)) (HA5.out.ok hG7 hBlt hne rfl)⟩
   | some s2 =>
    have HT := Lib.hid (show oo = keysB sub s2 k by rw [HT3.out, hbr])
    have KB := Lib.hid (fun W hW => blank_ok B r s2 k hbr W hW)
    have hlb := isB_len hbr
    simp only [List.length_singleton] at hlb
    have hl2 : s2.length ≤ 1000000 := by omega
    clear hbr hN
    go_upto_region 4 with fail
    go_cut [] from 33 to 40 (fun wx => Hid (wx = w5))
    case first =>
     refine hgo _ (fun n0 => ?_) (fun n0 n1 => ?_)
     all_goals
      clear hgo
      go_wp2_with fail
      refine (must_walk B _).mono ?_
      rintro e w6 ⟨rfl, rfl⟩
      go_wp2_with fail
      go_meet
      exact Lib.hid rfl
    case rest =>
     have hwc : wc = w5 := hcut.out
     subst hwc
     clear hgo hcut
     go_wp2_with fail
     refine (KB.out _ HS5.out).mono ?_
     rintro e w7 ⟨rfl, hScn, hG7⟩
     have hAk := HA5.out.step hG7 hBlt hne
     have hR2 : R2 B C w w7 := HR5.out.trans (.of hG7)
     clear hG7
     go_wp2_with fail
     cases hsK : sub s2 k with
     | none =>
      have HO := Lib.hid (show oo = none by rw [HT.out]; unfold keysB; rw [hsK])
      have hsub1 := hsK
      have hvK : (fun _ : Nat => True) k ∨ (sub s2 k).isSome = true := .inl trivial
      clear hsK
      have HA := Lib.hid hAk
      have HAd := Lib.hid (hAk.step (W1 := w7.drew) (grown_dr2 _ (some B)) hBlt hne)
      have HAz := Lib.hid (fun o => (HA.out.below ((Below.refl w7.heap.size w7).alloc (Nat.le_refl _) o)))
      have KA := Lib.hid (HSub.out s2 k w7.drew hvK (HE.out.kept2 (hR2.trans (.of (grown_dr2 _ _))) hC20) (hScn.draws 1))
      have KB := Lib.hid (HSub.out s2 k (w7.alloc (Obj.cells zeroKeyL.toArray 51)).drew hvK (HE.out.kept2 ((hR2.trans (.of (grown_below ((Below.refl _ _).alloc (Nat.le_refl _) _) _))).trans (.of (grown_dr2 _ _))) hC20) ((hScn.then ((Below.refl _ _).alloc (Nat.le_refl _) _)).draws 1))
      rw [hsub1] at KA KB
      have HR2 := Lib.hid hR2
      obtain ⟨l0, l1⟩ := HAd.out.cell
      have l2 := (fun o => (HAz.out o).cell.1)
      have l3 := (fun o => (HAz.out o).cell.2)
      clear hAk hR2 hScn hsub1 hvK
      refine wp_region_held_drew (S := fun W => W.cell? ⟨C, 11, none⟩ = some (.slice none 0 0)) (by kernel_rfl) l0 (fun hHeld => ?_)
      refine wpAnyH_take (i := 0) rfl (by kernel_rfl) (by kernel_rfl) (by kernel_rfl) (fun _ _ _ h => h) (.inl ⟨by rfl, by intro _ h; (try dsimp only at h); go_simp; try with_reducible rfl⟩) hHeld ?_
      try simp only [Act.put, t0, t1, t2, t3, t4, t5]
      refine wpAnyH_take (i := 1) rfl (by kernel_rfl) (by kernel_rfl) (by kernel_rfl) (fun _ _ _ h => h) (.inl ⟨by rfl, by intro _ h; (try dsimp only at h); go_simp; try with_reducible rfl⟩) hHeld ?_
      try simp only [Act.put, t0, t1, t2, t3, t4, t5]
      refine wpAnyH_take (i := 2) rfl (by kernel_rfl) (by kernel_rfl) (by kernel_rfl) (fun _ _ _ h => h) (.inl ⟨by rfl, by intro _ h; (try dsimp only at h); go_simp; try with_reducible rfl⟩) hHeld ?_
      try simp only [Act.put, t0, t1, t2, t3, t4, t5]
      refine wpAnyH_take (i := 3) rfl (by kernel_rfl) (by kernel_rfl) (by kernel_rfl) (fun _ _ _ h => h) (.inl ⟨by rfl, by intro _ h; (try dsimp only at h); go_simp; try with_reducible rfl⟩) hHeld ?_
      try simp only [Act.put, t0, t1, t2, t3, t4, t5]
      refine wpAnyH_take (i := 4) rfl (by kernel_rfl) (by kernel_rfl) (by kernel_rfl) (fun _ _ _ h => h) (.inl ⟨by rfl, by intro _ h; (try dsimp only at h); go_simp; try with_reducible rfl⟩) hHeld ?_
      try simp only [Act.put, t0, t1, t2, t3, t4, t5]
      refine wpAnyH_take (i := 6) rfl (by kernel_rfl) (by kernel_rfl) (by kernel_rfl) (fun _ _ _ h => h) (.inl ⟨by rfl, by intro _ h; (try dsimp only at h); go_simp; try with_reducible rfl⟩) hHeld ?_
      try simp only [Act.put, t0, t1, t2, t3, t4, t5]
      refine wpAnyH_ready (rs := [5, 7]) (by kernel_rfl) (by simp) ?_
      refine AllReadyH.cons rfl (fun K9 hK9 => ?_) ?_
      ·
       go_simp
       refine KA.out.mono ?_
       rintro e w5 ⟨hG5, rfl⟩
       exact ⟨rfl, .bad HO.out ((HR2.out.trans (.of (grown_dr2 _ _))).trans (.of hG5)) (AkSt.ok (HA.out) ((grown_dr2 _ _).trans hG5) hBlt hne rfl)⟩
      refine AllReadyH.cons rfl (fun K9 hK9 => ?_) ?_
      ·
       go_simp
       refine hK9.out _ _ (l2 _) (fun hHeld => ?_)
       clear hK9 K9
       try simp only [Act.put, t0, t1, t2, t3, t4, t5]
       refine wpAnyH_ready (rs := [5]) (by kernel_rfl) (by simp) ?_
       refine AllReadyH.cons rfl (fun K9 hK9 => ?_) ?_
       ·
        go_simp
        refine KB.out.mono ?_
        rintro e w5 ⟨hG5, rfl⟩
        exact ⟨rfl, .bad HO.out ((HR2.out.trans (R2.of (grown_below ((Below.refl _ _).alloc (Nat.le_refl _) _) _))).trans (.of ((grown_dr2 _ _).trans hG5))) (AkSt.ok (HA.out.below ((Below.refl _ _).alloc (Nat.le_refl _) _)) ((grown_dr2 _ _).trans hG5) hBlt hne rfl)⟩
       exact AllReadyH.nil
      exact AllReadyH.nil
     | some p =>
      obtain ⟨x, s3, k3⟩ := p
      have hl3 := HLs.out _ _ _ hsK
      dsimp only at hl3
      have HLo : Hid (LoF sub oo [x] s3 k3 (s3.length + 1)) := Lib.hid ⟨Nat.lt_succ_self _, by simp; omega, by rw [HT.out]; unfold keysB; rw [hsK]; rfl⟩
      have hsub1 := hsK
      have hvK : (fun _ : Nat => True) k ∨ (sub s2 k).isSome = true := .inl trivial
      clear hsK
      have HA := Lib.hid hAk
      have HAd := Lib.hid (hAk.step (W1 := w7.drew) (grown_dr2 _ (some B)) hBlt hne)
      have HAz := Lib.hid (fun o => (HA.out.below ((Below.refl w7.heap.size w7).alloc (Nat.le_refl _) o)))
      have KA := Lib.hid (HSub.out s2 k w7.drew hvK (HE.out.kept2 (hR2.trans (.of (grown_dr2 _ _))) hC20) (hScn.draws 1))
      have KB := Lib.hid (HSub.out s2 k (w7.alloc (Obj.cells zeroKeyL.toArray 51)).drew hvK (HE.out.kept2 ((hR2.trans (.of (grown_below ((Below.refl _ _).alloc (Nat.le_refl _) _) _))).trans (.of (grown_dr2 _ _))) hC20) ((hScn.then ((Below.refl _ _).alloc (Nat.le_refl _) _)).draws 1))
      rw [hsub1] at KA KB
      have HR2 := Lib.hid hR2
      have hacc := HLo.out.few
      obtain ⟨l0, l1⟩ := HAd.out.cell
      have l2 := (fun o => (HAz.out o).cell.1)
      have l3 := (fun o => (HAz.out o).cell.2)
      clear hAk hR2 hScn hsub1 hvK
      go_cut [] from 43 to 54 (fun wx => Hid (SrSt w B C [x] s3 k3 cs wx))
      case first =>
       go_region_law (first
         | (go_simp; go_at_call 106; first
           | (refine KA.out.mono ?_; rintro e w5 ⟨hG5, As, cs5, Ak, ck5, kcs, rfl, hP5, hS5⟩; have HM := Lib.hid (AkMid.ofKey HAd.out hG5 hBlt hne hP5); have HS5 := Lib.hid hS5; have HR5 := Lib.hid ((HR2.out.trans (.of (grown_dr2 _ _))).trans (.of hG5)); have HRc := Lib.hid (HR5.out.trans (.of (grown_below ((Below.refl _ _).alloc (Nat.le_refl _) (Obj.cells zeroKeyL.toArray 51)) _))); have HSc := Lib.hid (HS5.out.then ((Below.refl _ _).alloc (Nat.le_refl _) (Obj.cells zeroKeyL.toArray 51))); obtain ⟨m0, m1⟩ := (HAd.out.step hG5 hBlt hne).cell; have m2 := (fun o => ((HAd.out.step hG5 hBlt hne).below ((Below.refl w5.heap.size w5).alloc (Nat.le_refl _) o)).cell.1); clear hG5 hP5 hS5)
           | (refine KB.out.mono ?_; rintro e w5 ⟨hG5, As, cs5, Ak, ck5, kcs, rfl, hP5, hS5⟩; have HM := Lib.hid (AkMid.ofZero HA.out ((grown_dr2 _ _).trans hG5) hBlt hne hP5); have HS5 := Lib.hid hS5; have HR5 := Lib.hid ((HR2.out.trans (R2.of (grown_below ((Below.refl _ _).alloc (Nat.le_refl _) _) _))).trans (.of ((grown_dr2 _ _).trans hG5))); have HRc := HR5; have HSc := HS5; obtain ⟨m0, m1⟩ := HM.out.st.cell; clear hG5 hP5 hS5))
         | (refine step_append_lies _ (by rfl) _ _ _ (by rfl) w.heap.size 51 i0 (.agg #[.string ⟨#[]⟩, .string ⟨#[]⟩, .string ⟨#[]⟩, .int .i64 0, .slice none 0 0, .slice none 0 0]) 6 104 Tryz.underlying31 hi hz0 hz1 hz2 (by rfl) (by decide) (.slice none 0 0) 0 [] (by rfl) HM.out.st.own ⟨_, 0, none⟩ 1 1 zeroKeyL (by rfl) (by rfl) (World.news_of_block HM.out.zero) (by simp [zeroKeyL, Value.oneCell']) (by decide) (by unfold maxLen; omega) (by omega) HM.out.st.lt.2 _ rfl ?_; intro g cap w9 hown hgr hat hlt; have HNw := Lib.hid (HM.out.new (cap := cap) hown hgr); obtain ⟨⟨n0, n1, n2, n3, n4, n5⟩, p0, p1, p2, p3, p4, p5⟩ := HNw.out.c0; have hgC : ¬ (g = C) := HNw.out.gD; have hCg : ¬ (C = g) := fun e => hgC e.symm; have q0 : w9.cell? ⟨C, 11, none⟩ = some (.slice none 0 0) := by {have h1 := HNw.out.cmd; have h2 := HM.out.st.at_; simp [World.cell?, h1, h2]}; have q1 : w9.frozen? ⟨C, 11, none⟩ = false := by {have h1 := HNw.out.cmd; simp [World.frozen?, h1]}))
       all_goals
        go_wp2_with fail
        go_meet
        refine Lib.hid (AkMid.toSr (acc := []) HM.out HRc.out HSc.out hBlt hne hown hgr hat H11.out rfl (fun _ _ => rfl) ?_)
        first
        | (refine .inl ?_; simp only [put6, List.length_nil, Nat.zero_mul, Nat.zero_add]; done)
        | (refine .inr ?_; simp only [put6, List.length_nil, Nat.zero_mul, Nat.zero_add]; done)
      case rest =>
       obtain ⟨hRr, hSr, A0, c0', cells0, T0, ds0, hAk0, hds1, hds2⟩ := hcut.out
       have HSr : Hid (SrSt w B C [x] s3 k3 cs wc) := hcut
       clear hRr hSr hAk0 hds1 hds2 KA KB HAz HA HAd l0 l1 l2 l3
       generalize s3.length + 1 = m0 at HLo
       go_wp2
       go_loopw [] (fun wr => ∃ (acc : List KeyP) (s : Bs) (k m : Nat), Hid (LoF sub oo acc s k m) ∧ Hid (SrSt w B C acc s k cs wr)) (fun wr => leftLen B wr)
       case atStart => exact ⟨[x], s3, k3, m0, HLo, HSr⟩
       case round =>
        obtain ⟨acc, s4, k4, m4, HL3, HS3⟩ := hrel
        obtain ⟨hR3, hScn3, A3, c3, cells3, T3, ds3, hAk3, hds1, hds2⟩ := HS3.out
        have HL0 := Lib.hid (left_len hScn3)
        cases h3 : isB [32] s4 with
        | none =>
         have K3 : Hid (∀ W, Scn W B s4 k4 → Calls Tryz.prog 68 #[scP B, .string ⟨#[32]⟩] W _) := Lib.hid (fun W hW => is_not B s4 [32] k4 h3 W hW)
         have HO := Lib.hid (HL3.out.stop h3)
         have HScn3 := Lib.hid hScn3
         have HFin := Lib.hid (fun W1 (hG : _) (hS : _) => show SrSt w B C acc s4 k4 cs W1 from ⟨hR3.trans (.of hG), hS, A3, c3, cells3, T3, ds3, hAk3.step (W1 := W1) (B := B) hG hBlt hne, hds1, hds2⟩)
         clear hR3 hScn3 hAk3 h3
         go_wp2_with fail
         refine (K3.out _ HScn3.out).mono ?_
         rintro e w4 ⟨rfl, hS4, hG4⟩
         have HF := Lib.hid (HFin.out w4 hG4 hS4)
         clear hS4 hG4
         go_wp2
         go_end0
         exact .fin HO.out HF.out
        | some s5 =>
         have K3 : Hid (∀ W, Scn W B s4 k4 → Calls Tryz.prog 68 #[scP B, .string ⟨#[32]⟩] W _) := Lib.hid (fun W hW => is_ok B s4 [32] s5 k4 h3 W hW)
         have hvK : (fun _ : Nat => True) k4 ∨ (sub s5 k4).isSome = true := .inl trivial
         cases hs5 : sub s5 k4 with
         | none =>
          have HO := Lib.hid (HL3.out.bad h3 hs5)
          have hsub1 := hs5
          have HScn3 := Lib.hid hScn3
          have HAk3 := Lib.hid hAk3
          have HR3 := Lib.hid hR3
          have HD1 := Lib.hid hds1
          clear h3 hScn3 hAk3 hR3 hds1 hds2 hs5
          go_wp2_with fail
          refine (K3.out _ HScn3.out).mono ?_
          rintro e w4 ⟨rfl, hScn, hG4⟩
          have hAk := HAk3.out.step hG4 hBlt hne
          have hR2 : R2 B C w w4 := HR3.out.trans (.of hG4)
          clear hG4
          go_wp2_with fail
          have HA := Lib.hid hAk
          have HAd := Lib.hid (hAk.step (W1 := w4.drew) (grown_dr2 _ (some B)) hBlt hne)
          have HAz := Lib.hid (fun o => (HA.out.below ((Below.refl w4.heap.size w4).alloc (Nat.le_refl _) o)))
          have KA := Lib.hid (HSub.out s5 k4 w4.drew hvK (HE.out.kept2 (hR2.trans (.of (grown_dr2 _ _))) hC20) (hScn.draws 1))
          have KB := Lib.hid (HSub.out s5 k4 (w4.alloc (Obj.cells zeroKeyL.toArray 51)).drew hvK (HE.out.kept2 ((hR2.trans (.of (grown_below ((Below.refl _ _).alloc (Nat.le_refl _) _) _))).trans (.of (grown_dr2 _ _))) hC20) ((hScn.then ((Below.refl _ _).alloc (Nat.le_refl _) _)).draws 1))
          rw [hsub1] at KA KB
          have HR2 := Lib.hid hR2
          obtain ⟨l0, l1⟩ := HAd.out.cell
          have l2 := (fun o => (HAz.out o).cell.1)
          have l3 := (fun o => (HAz.out o).cell.2)
          clear hAk hR2 hScn hsub1 hvK
          refine wp_region_held_drew (S := fun W => W.cell? ⟨C, 11, none⟩ = some (.slice A3 acc.length c3)) (by kernel_rfl) l0 (fun hHeld => ?_)
          refine wpAnyH_take (i := 0) rfl (by kernel_rfl) (by kernel_rfl) (by kernel_rfl) (fun _ _ _ h => h) (.inl ⟨by rfl, by intro _ h; (try dsimp only at h); go_simp; try with_reducible rfl⟩) hHeld ?_
          try simp only [Act.put, t0, t1, t2, t3, t4, t5]
          refine wpAnyH_take (i := 1) rfl (by kernel_rfl) (by kernel_rfl) (by kernel_rfl) (fun _ _ _ h => h) (.inl ⟨by rfl, by intro _ h; (try dsimp only at h); go_simp; try with_reducible rfl⟩) hHeld ?_
          try simp only [Act.put, t0, t1, t2, t3, t4, t5]
          refine wpAnyH_take (i := 2) rfl (by kernel_rfl) (by kernel_rfl) (by kernel_rfl) (fun _ _ _ h => h) (.inl ⟨by rfl, by intro _ h; (try dsimp only at h); go_simp; try with_reducible rfl⟩) hHeld ?_
          try simp only [Act.put, t0, t1, t2, t3, t4, t5]
          refine wpAnyH_take (i := 3) rfl (by kernel_rfl) (by kernel_rfl) (by kernel_rfl) (fun _ _ _ h => h) (.inl ⟨by rfl, by intro _ h; (try dsimp only at h); go_simp; try with_reducible rfl⟩) hHeld ?_
          try simp only [Act.put, t0, t1, t2, t3, t4, t5]
          refine wpAnyH_take (i := 4) rfl (by kernel_rfl) (by kernel_rfl) (by kernel_rfl) (fun _ _ _ h => h) (.inl ⟨by rfl, by intro _ h; (try dsimp only at h); go_simp; try with_reducible rfl⟩) hHeld ?_
          try simp only [Act.put, t0, t1, t2, t3, t4, t5]
          refine wpAnyH_take (i := 6) rfl (by kernel_rfl) (by kernel_rfl) (by kernel_rfl) (fun _ _ _ h => h) (.inl ⟨by rfl, by intro _ h; (try dsimp only at h); go_simp; try with_reducible rfl⟩) hHeld ?_
          try simp only [Act.put, t0, t1, t2, t3, t4, t5]
          refine wpAnyH_ready (rs := [5, 7]) (by kernel_rfl) (by simp) ?_
          refine AllReadyH.cons rfl (fun K9 hK9 => ?_) ?_
          ·
           go_simp
           refine KA.out.mono ?_
           rintro e w5 ⟨hG5, rfl⟩
           exact ⟨rfl, .bad HO.out ((HR2.out.trans (.of (grown_dr2 _ _))).trans (.of hG5)) (AkSt.ok (HA.out) ((grown_dr2 _ _).trans hG5) hBlt hne HD1.out)⟩
          refine AllReadyH.cons rfl (fun K9 hK9 => ?_) ?_
          ·
           go_simp
           refine hK9.out _ _ (l2 _) (fun hHeld => ?_)
           clear hK9 K9
           try simp only [Act.put, t0, t1, t2, t3, t4, t5]
           refine wpAnyH_ready (rs := [5]) (by kernel_rfl) (by simp) ?_
           refine AllReadyH.cons rfl (fun K9 hK9 => ?_) ?_
           ·
            go_simp
            refine KB.out.mono ?_
            rintro e w5 ⟨hG5, rfl⟩
            exact ⟨rfl, .bad HO.out ((HR2.out.trans (R2.of (grown_below ((Below.refl _ _).alloc (Nat.le_refl _) _) _))).trans (.of ((grown_dr2 _ _).trans hG5))) (AkSt.ok (HA.out.below ((Below.refl _ _).alloc (Nat.le_refl _) _)) ((grown_dr2 _ _).trans hG5) hBlt hne HD1.out)⟩
           exact AllReadyH.nil
          exact AllReadyH.nil
         | some q =>
          obtain ⟨y, s6, k6⟩ := q
          obtain ⟨m6, hlt6, hL6⟩ := HL3.out.next HLs.out h3 hs5
          have HL6 := Lib.hid hL6
          have HLt := Lib.hid hlt6
          have hsub1 := hs5
          have HLo := HL3
          have HScn3 := Lib.hid hScn3
          have HAk3 := Lib.hid hAk3
          have HR3 := Lib.hid hR3
          have HD1 := Lib.hid hds1
          have HD2 := Lib.hid hds2
          clear hL6 hlt6 h3 hScn3 hAk3 hR3 hds1 hds2 hs5
          go_wp2_with fail
          refine (K3.out _ HScn3.out).mono ?_
          rintro e w4 ⟨rfl, hScn, hG4⟩
          have hAk := HAk3.out.step hG4 hBlt hne
          have hR2 : R2 B C w w4 := HR3.out.trans (.of hG4)
          clear hG4
          have hacc3 := HL3.out.few
          go_wp2_with fail
          have HA := Lib.hid hAk
          have HAd := Lib.hid (hAk.step (W1 := w4.drew) (grown_dr2 _ (some B)) hBlt hne)
          have HAz := Lib.hid (fun o => (HA.out.below ((Below.refl w4.heap.size w4).alloc (Nat.le_refl _) o)))
          have KA := Lib.hid (HSub.out s5 k4 w4.drew hvK (HE.out.kept2 (hR2.trans (.of (grown_dr2 _ _))) hC20) (hScn.draws 1))
          have KB := Lib.hid (HSub.out s5 k4 (w4.alloc (Obj.cells zeroKeyL.toArray 51)).drew hvK (HE.out.kept2 ((hR2.trans (.of (grown_below ((Below.refl _ _).alloc (Nat.le_refl _) _) _))).trans (.of (grown_dr2 _ _))) hC20) ((hScn.then ((Below.refl _ _).alloc (Nat.le_refl _) _)).draws 1))
          rw [hsub1] at KA KB
          have HR2 := Lib.hid hR2
          have hacc := HLo.out.few
          obtain ⟨l0, l1⟩ := HAd.out.cell
          have l2 := (fun o => (HAz.out o).cell.1)
          have l3 := (fun o => (HAz.out o).cell.2)
          clear hAk hR2 hScn hsub1 hvK
          have hix : ((acc.length : Nat) : Int) < (acc.length : Int) + 1 := by omega
          have HMeas : Hid (∀ W', SrSt w B C (acc ++ [y]) s6 k6 cs W' → leftLen B W' < leftLen B wr) := Lib.hid (fun W' h => by rw [HL0.out, left_len h.2.1]; exact HLt.out)
          go_region_law (first
            | (go_simp; go_at_call 106; first
              | (refine KA.out.mono ?_; rintro e w5 ⟨hG5, As, cs5, Ak, ck5, kcs, rfl, hP5, hS5⟩; have HM := Lib.hid (AkMid.ofKey HAd.out hG5 hBlt hne hP5); have HS5 := Lib.hid hS5; have HR5 := Lib.hid ((HR2.out.trans (.of (grown_dr2 _ _))).trans (.of hG5)); have HRc := Lib.hid (HR5.out.trans (.of (grown_below ((Below.refl _ _).alloc (Nat.le_refl _) (Obj.cells zeroKeyL.toArray 51)) _))); have HSc := Lib.hid (HS5.out.then ((Below.refl _ _).alloc (Nat.le_refl _) (Obj.cells zeroKeyL.toArray 51))); obtain ⟨m0, m1⟩ := (HAd.out.step hG5 hBlt hne).cell; have m2 := (fun o => ((HAd.out.step hG5 hBlt hne).below ((Below.refl w5.heap.size w5).alloc (Nat.le_refl _) o)).cell.1); clear hG5 hP5 hS5)
              | (refine KB.out.mono ?_; rintro e w5 ⟨hG5, As, cs5, Ak, ck5, kcs, rfl, hP5, hS5⟩; have HM := Lib.hid (AkMid.ofZero HA.out ((grown_dr2 _ _).trans hG5) hBlt hne hP5); have HS5 := Lib.hid hS5; have HR5 := Lib.hid ((HR2.out.trans (R2.of (grown_below ((Below.refl _ _).alloc (Nat.le_refl _) _) _))).trans (.of ((grown_dr2 _ _).trans hG5))); have HRc := HR5; have HSc := HS5; obtain ⟨m0, m1⟩ := HM.out.st.cell; clear hG5 hP5 hS5))
            | (refine step_append_lies _ (by rfl) _ _ _ (by rfl) w.heap.size 51 i0 (.agg #[.string ⟨#[]⟩, .string ⟨#[]⟩, .string ⟨#[]⟩, .int .i64 0, .slice none 0 0, .slice none 0 0]) 6 104 Tryz.underlying31 hi hz0 hz1 hz2 (by rfl) (by decide) (.slice A3 acc.length c3) acc.length cells3 (by rfl) HM.out.st.own ⟨_, 0, none⟩ 1 1 zeroKeyL (by rfl) (by rfl) (World.news_of_block HM.out.zero) (by simp [zeroKeyL, Value.oneCell']) (by decide) (by unfold maxLen; omega) (by omega) HM.out.st.lt.2 _ rfl ?_; intro g cap w9 hown hgr hat hlt; have HNw := Lib.hid (HM.out.new (cap := cap) hown hgr); obtain ⟨⟨n0, n1, n2, n3, n4, n5⟩, p0, p1, p2, p3, p4, p5⟩ := HNw.out.c0; have hgC : ¬ (g = C) := HNw.out.gD; have hCg : ¬ (C = g) := fun e => hgC e.symm; have q0 : w9.cell? ⟨C, 11, none⟩ = some (.slice A3 acc.length c3) := by {have h1 := HNw.out.cmd; have h2 := HM.out.st.at_; simp [World.cell?, h1, h2]}; have q1 : w9.frozen? ⟨C, 11, none⟩ = false := by {have h1 := HNw.out.cmd; simp [World.frozen?, h1]}))
          all_goals
           go_wp2
           go_roundw
           case rel =>
            refine ⟨acc ++ [y], s6, k6, m6, HL6, Lib.hid (AkMid.toSr (acc := acc) HM.out HRc.out HSc.out hBlt hne hown hgr hat (by rw [HD1.out]; exact H11.out) HD1.out HD2.out ?_)⟩
            first
            | (refine .inl ?_; simp only [put6]; done)
            | (refine .inr ?_; simp only [put6]; done)
           case measure =>
            refine HMeas.out _ (AkMid.toSr (acc := acc) HM.out HRc.out HSc.out hBlt hne hown hgr hat (by rw [HD1.out]; exact H11.out) HD1.out HD2.out ?_)
            first
            | (refine .inl ?_; simp only [put6]; done)
            | (refine .inr ?_; simp only [put6]; done)
  ·
   have HO := Lib.hid (show oo = none by rw [HT2.out, if_neg hN])
   have n0 : ((str N).toList == [85, 83, 45, 65, 83, 67, 73, 73]) = false := str_neb (fun e => hN (.inl e))
   have n1 : ((str N).toList == [85, 84, 70, 45, 56]) = false := str_neb (fun e => hN (.inr e))
   clear hN
   go_wp2_with fail
   refine (must_no B _).mono ?_
   rintro e w6 ⟨rfl, rfl⟩
   exact ⟨rfl, .bad HO.out HR5.out ⟨cs, HA5.out.cmd, rfl⟩⟩
open Go.RowKit
open Pl (Bs idxB numOk numN setOk setL)
attribute [local go_sem ↓] Go.wp_at_zero Go.wp_at_succ
theorem search_full (G : Glob) (B C k : Nat) (sub : Rd KeyP) (hsub : KeyCon G B (fun _ => True) sub) (hlenS : ∀ s k p, sub s k = some p → p.2.1.length ≤ s.length) (s : Bs) (cs : Array Value) (h11 : cs[11]? = some (.slice none 0 0)) (hne : B ≠ C) (hC20 : 20 ≤ C) (w : World) (hC : w.heap[C]? = some (Obj.cells cs 33)) (hE : EnvI G w B) (h : Scn w B s k) :
  Calls Tryz.prog 78 #[scP B, cmP C] w (SrPost w B C cs (searchB sub s k)) := by
 cases hb : isB [32] s with
 | none =>
  have HO := Lib.hid (show searchB sub s k = none by unfold searchB; rw [hb])
  have K1 := Lib.hid (fun W hW => blank_no B s k hb W hW)
  have HS := Lib.hid h
  have HCM := Lib.hid hC
  generalize searchB sub s k = oo at *
  clear hb hC hE hsub hlenS h11 h
  go_enter Tryz.func78, Tryz.ntmps78
  go_wp2_with fail
  refine (K1.out _ HS.out).mono ?_
  rintro e w1 ⟨rfl, hG⟩
  exact ⟨rfl, .bad HO.out (.of hG) (CmOk.step ⟨cs, HCM.out, rfl⟩ hG hne)⟩
 | some s1 =>
  by_cases h8 : 8 ≤ s1.length
  ·
   by_cases hcn : largeL (s1.take 8) = charsetN
   ·
    exact search_char G B C k sub hsub hlenS s s1 hb h8 hcn cs h11 hne hC20 w hC hE h
   ·
    exact search_plain G B C k sub hsub hlenS s s1 hb h8 hcn cs h11 hne hC20 w hC hE h
  ·
   exact search_short G B C k sub hsub hlenS s s1 hb h8 cs h11 hne hC20 w hC hE h
open Go.RowKit
open Pl (Bs idxB numOk numN setOk setL)
attribute [local go_sem ↓] Go.wp_at_zero Go.wp_at_succ
theorem rest_searchF (G : Glob) (B C k : Nat) (s N : Bs) (cs : Array Value) (h1 : cs[1]? = some (.string (str N))) (sub : Rd KeyP) (hsub : KeyCon G B (fun _ => True) sub) (hlenS : ∀ s k p, sub s k = some p → p.2.1.length ≤ s.length) (h11 : cs[11]? = some (.slice none 0 0)) (hN : N = [83, 69, 65, 82, 67, 72]) (hne : B ≠ C) (hC20 : 20 ≤ C) (w : World) (hC : w.heap[C]? = some (Obj.cells cs 33)) (hE : EnvI G w B) (h : Scn w B s k) :
  Calls Tryz.prog 31 #[scP B, cmP C] w (fun e w' => ∃ W, R2 B C w W ∧ SrPost W B C cs (searchB sub s k) e w') := by
 have HNN := Lib.hid hN
 clear hN
 have HST := Lib.hid (RsSt.start h hC hne)
 have HSD := Lib.hid HST.out.draw
 have HS0 := Lib.hid HSD.out.keep
 have HE := Lib.hid hE
 obtain ⟨c1, _⟩ := HST.out.cell h1
 obtain ⟨hl1, hl2, hl3⟩ := HST.out.lt
 have KS := Lib.hid (search_full G B C k sub hsub hlenS s cs h11 hne hC20 _ HST.out.cmd (HE.out.kept2 HST.out.gr hC20) HST.out.sc)
 generalize searchB sub s k = oo at *
 clear h1 h11 hE h hC hsub hlenS
 have hN := HNN.out
 obtain ⟨n0, n1, n2, n3, n4, n5, n6, n7, n8, n9, n10, n11, n12, n13, n14, n15, n16, n17, n18, n19, n20, _⟩ := notAll (N := N) (Ls := rNs.take 21) (by rw [hN]; decide)
 have n21 := strEq hN
 clear hN
 go_enter Tryz.func31, Tryz.ntmps31
 go_wp2_with fail
 refine KS.out.mono ?_
 rintro e w5 hP
 cases oo with
 | none =>
  obtain ⟨rfl, hR, hok⟩ := hP
  exact ⟨rfl, _, HST.out.gr, rfl, hR, hok⟩
 | some p =>
  obtain ⟨rfl, hS⟩ := hP
  have HS := Lib.hid hS
  clear hS
  go_wp2
  go_end0
  exact ⟨_, HST.out.gr, rfl, HS.out⟩
open Go.RowKit
open Pl (Bs idxB numOk numN setOk setL)
attribute [local go_sem ↓] Go.wp_at_zero Go.wp_at_succ
def idleNs : List Bs := [[67, 65, 80, 65, 66, 73, 76, 73, 84, 89], [78, 79, 79, 80], [76, 79, 71, 79, 85, 84], [67, 72, 69, 67, 75], [67, 76, 79, 83, 69], [69, 88, 80, 85, 78, 71, 69]]
def twoNs : List Bs := [[76, 79, 71, 73, 78], [82, 69, 78, 65, 77, 69]]
def oneNs : List Bs := [[83, 69, 76, 69, 67, 84], [69, 88, 65, 77, 73, 78, 69], [67, 82, 69, 65, 84, 69], [68, 69, 76, 69, 84, 69], [83, 85, 66, 83, 67, 82, 73, 66, 69], [85, 78, 83, 85, 66, 83, 67, 82, 73, 66, 69]]
def listNs : List Bs := [[76, 73, 83, 84], [76, 83, 85, 66]]
def statusNm : Bs := [83, 84, 65, 84, 85, 83]
def appendNm : Bs := [65, 80, 80, 69, 78, 68]
def copyNm : Bs := [67, 79, 80, 89]
def storeNm : Bs := [83, 84, 79, 82, 69]
def fetchNm : Bs := [70, 69, 84, 67, 72]
def searchNm : Bs := [83, 69, 65, 82, 67, 72]
def cmdP0 (tg nm : Bs) (uid : Bool) : CmdP := ⟨tg, nm, uid, [], [], 0, 0, false, -1, [], [], []⟩
abbrev putA (x : CmdP) (l : List Bs) : CmdP := { x with args := l }
def restB (sec : Bs → Option SpecP) (x : CmdP) (s : Bs) : Option (CmdP × Bs) :=
 if x.name ∈ idleNs then some (x, s)
 else if x.name ∈ twoNs then (textsB 2 s).map fun p => (putA x p.1, p.2)
 else if x.name ∈ oneNs then (textsB 1 s).map fun p => (putA x p.1, p.2)
 else if x.name ∈ listNs then (listB s).map fun p => (putA x p.1, p.2)
 else if x.name = statusNm then (statusB s 0).map fun p => (putA x p.1, p.2.1)
 else if x.name = appendNm then (appendB 0 (-1) s).map fun p => ({ x with args := p.1.1, flags := p.1.2.1, date := p.1.2.2.1, body := p.1.2.2.2 }, p.2)
 else if x.name = copyNm then (copyB s 0).map fun p => ({ x with set := p.1.1, args := p.1.2 }, p.2.1)
 else if x.name = storeNm then (storeB s).map fun p => ({ x with set := p.1.1, how := p.1.2.1, silent := p.1.2.2.1, flags := p.1.2.2.2 }, p.2)
 else if x.name = fetchNm then (fetchB sec s 0).map fun p => ({ x with set := p.1.1, items := p.1.2 }, p.2.1)
 else if x.name = searchNm then (searchB (keyB 51) s 0).map fun p => ({ x with keys := p.1 }, p.2.1)
 else none
def FullPost (w : World) (B C : Nat) (o : Option (CmdP × Bs)) (e : Ending) (w' : World) : Prop :=
 R2 B C w w' ∧ match o with
  | none => e = .panicked [wrongE] ∧ CmOk 12 C w'
  | some p => e = .returned (.tuple #[]) ∧ ∃ c k, Scn w' B p.2 k ∧ w'.heap[C]? = some (CmdV.obj c) ∧ CmdAt w' (newT w w') c p.1
theorem cmd0_at (w : World) (T : Nat → Prop) (tg nm : Bs) (uid : Bool) : CmdAt w T (cmd0 tg nm uid) (cmdP0 tg nm uid) := ⟨rfl, rfl, rfl, ⟨rfl, rowC_nil _ _ _⟩, ⟨rfl, rowC_nil _ _ _⟩, rfl, rfl, rfl, rfl, rfl, ⟨rfl, [], rowC_nil _ _ _, .nil⟩, ⟨rfl, [], rowC_nil _ _ _, .nil⟩⟩
theorem full_args {w w' : World} {B C : Nat} {tg nm : Bs} {uid : Bool} {o : Option (List Bs × Bs × Nat)} {e : Ending} (h : RestPostS 12 w B C (ArgsQ w (cmd0 tg nm uid).cells) o e w') : FullPost w B C (o.map fun p => (putA (cmdP0 tg nm uid) p.1, p.2.1)) e w' := by
 obtain ⟨hR, hP⟩ := h
 refine ⟨hR, ?_⟩
 cases o with
 | none => exact hP
 | some p =>
  obtain ⟨rfl, hS, cs, hc, A, c, rfl, hrow⟩ := hP
  exact ⟨rfl, { cmd0 tg nm uid with aA := A, aN := p.1.length, aC := c }, p.2.2, hS, hc, ⟨rfl, rfl, rfl, ⟨rfl, hrow⟩, ⟨rfl, rowC_nil _ _ _⟩, rfl, rfl, rfl, rfl, rfl, ⟨rfl, [], rowC_nil _ _ _, .nil⟩, ⟨rfl, [], rowC_nil _ _ _, .nil⟩⟩⟩
theorem full_app {w w' : World} {B C : Nat} {tg nm : Bs} {uid : Bool} {o : Option ((List Bs × Int × Int × Bs) × Bs)} {e : Ending} (h : RestPostS 12 w B C (AppQ w (cmd0 tg nm uid)) (o.map (pk 0)) e w') : FullPost w B C (o.map fun p => ({ cmdP0 tg nm uid with args := p.1.1, flags := p.1.2.1, date := p.1.2.2.1, body := p.1.2.2.2 }, p.2)) e w' := by
 obtain ⟨hR, hP⟩ := h
 refine ⟨hR, ?_⟩
 cases o with
 | none => exact hP
 | some p =>
  obtain ⟨rfl, hS, cs, hc, A, c, rfl, hrow⟩ := hP
  exact ⟨rfl, { cmd0 tg nm uid with aA := A, aN := p.1.1.length, aC := c, flags := p.1.2.1, date := p.1.2.2.1, body := str p.1.2.2.2 }, 0, hS, hc, ⟨rfl, rfl, rfl, ⟨rfl, hrow⟩, ⟨rfl, rowC_nil _ _ _⟩, rfl, rfl, rfl, rfl, rfl, ⟨rfl, [], rowC_nil _ _ _, .nil⟩, ⟨rfl, [], rowC_nil _ _ _, .nil⟩⟩⟩
theorem full_copy {w w' : World} {B C : Nat} {tg nm : Bs} {uid : Bool} {o : Option ((List (Int × Int) × List Bs) × Bs × Nat)} {e : Ending} (h : RestPostS 12 w B C (CopyQ w (cmd0 tg nm uid).cells) o e w') : FullPost w B C (o.map fun p => ({ cmdP0 tg nm uid with set := p.1.1, args := p.1.2 }, p.2.1)) e w' := by
 obtain ⟨hR, hP⟩ := h
 refine ⟨hR, ?_⟩
 cases o with
 | none => exact hP
 | some p =>
  obtain ⟨rfl, hS, cs, hc, A, c, A2, c2, rfl, hrow, hrow2⟩ := hP
  exact ⟨rfl, { cmd0 tg nm uid with sA := A, sN := p.1.1.length, sC := c, aA := A2, aN := p.1.2.length, aC := c2 }, p.2.2, hS, hc, ⟨rfl, rfl, rfl, ⟨rfl, hrow2⟩, ⟨rfl, hrow⟩, rfl, rfl, rfl, rfl, rfl, ⟨rfl, [], rowC_nil _ _ _, .nil⟩, ⟨rfl, [], rowC_nil _ _ _, .nil⟩⟩⟩
theorem full_store {w w' : World} {B C : Nat} {tg nm : Bs} {uid : Bool} {o : Option (StoP × Bs)} {e : Ending} (h : RestPostS 12 w B C (StoQ w (cmd0 tg nm uid)) (o.map (pkS 0)) e w') : FullPost w B C (o.map fun p => ({ cmdP0 tg nm uid with set := p.1.1, how := p.1.2.1, silent := p.1.2.2.1, flags := p.1.2.2.2 }, p.2)) e w' := by
 obtain ⟨hR, hP⟩ := h
 refine ⟨hR, ?_⟩
 cases o with
 | none => exact hP
 | some p =>
  obtain ⟨rfl, hS, cs, hc, A, c, rfl, hrow⟩ := hP
  exact ⟨rfl, { cmd0 tg nm uid with sA := A, sN := p.1.1.length, sC := c, how := p.1.2.1, silent := p.1.2.2.1, flags := p.1.2.2.2 }, 0, hS, hc, ⟨rfl, rfl, rfl, ⟨rfl, rowC_nil _ _ _⟩, ⟨rfl, hrow⟩, rfl, rfl, rfl, rfl, rfl, ⟨rfl, [], rowC_nil _ _ _, .nil⟩, ⟨rfl, [], rowC_nil _ _ _, .nil⟩⟩⟩
theorem full_fetch {w w' : World} {B C : Nat} {tg nm : Bs} {uid : Bool} {o : Option ((List (Int × Int) × List ItemP) × Bs × Nat)} {e : Ending} (h : RestPostS 12 w B C (FetchQ w (cmd0 tg nm uid).cells) o e w') : FullPost w B C (o.map fun p => ({ cmdP0 tg nm uid with set := p.1.1, items := p.1.2 }, p.2.1)) e w' := by
 obtain ⟨hR, hP⟩ := h
 refine ⟨hR, ?_⟩
 cases o with
 | none => exact hP
 | some p =>
  obtain ⟨rfl, hS, cs, hc, A, c, A2, c2, ics, rfl, hrow, hrow2, hits⟩ := hP
  exact ⟨rfl, { cmd0 tg nm uid with sA := A, sN := p.1.1.length, sC := c, iA := A2, iN := p.1.2.length, iC := c2 }, p.2.2, hS, hc, ⟨rfl, rfl, rfl, ⟨rfl, rowC_nil _ _ _⟩, ⟨rfl, hrow⟩, rfl, rfl, rfl, rfl, rfl, ⟨rfl, ics, hrow2, hits⟩, ⟨rfl, [], rowC_nil _ _ _, .nil⟩⟩⟩
theorem full_search {w W w' : World} {B C : Nat} {tg nm : Bs} {uid : Bool} {o : Option (List KeyP × Bs × Nat)} {e : Ending} (hR0 : R2 B C w W) (h : SrPost W B C (cmd0 tg nm uid).cells o e w') : FullPost w B C (o.map fun p => ({ cmdP0 tg nm uid with keys := p.1 }, p.2.1)) e w' := by
 cases o with
 | none => exact ⟨hR0.trans h.2.1, h.1, h.2.2⟩
 | some p =>
  obtain ⟨rfl, hR, hS, A, c, cells, T, ds, hAk, hd1, hd2⟩ := h
  refine ⟨hR0.trans hR, rfl, { cmd0 tg nm uid with kA := A, kN := p.1.length, kC := c }, p.2.2, hS, ?_, ⟨rfl, rfl, rfl, ⟨rfl, rowC_nil _ _ _⟩, ⟨rfl, rowC_nil _ _ _⟩, rfl, rfl, rfl, rfl, rfl, ⟨rfl, [], rowC_nil _ _ _, .nil⟩, ⟨rfl, cells, ?_, ?_⟩⟩⟩
  ·
   rw [hAk.cmd]
   have e : ds = (cmd0 tg nm uid).cells.setIfInBounds 11 (.slice A p.1.length c) := by
    apply Array.ext_getElem?
    intro j
    rw [Array.getElem?_setIfInBounds]
    by_cases hj : 11 = j
    ·
     subst hj
     rw [if_pos rfl, hAk.at_]
     rfl
    ·
     rw [if_neg hj]
     exact hd2 j (fun e => hj e.symm)
   rw [e]; rfl
  ·
   exact (rowC_own hAk.own).more (fun i hi => ⟨Nat.le_trans hR0.size hi.1, hi.2⟩)
  ·
   exact hAk.its.more (fun i hi => ⟨Nat.le_trans hR0.size (hAk.fr i hi).1, (hAk.fr i hi).2.1⟩)
theorem rest_full (G : Glob) (B C : Nat) (sec : Bs → Option SpecP) (hsec : SecCon G sec) (tg nm : Bs) (uid : Bool) (s : Bs) (hne : B ≠ C) (hC20 : 20 ≤ C) (w : World) (hC : w.heap[C]? = some (cmd0 tg nm uid).obj) (hE : EnvI G w B) (h : Scn w B s 0) :
  Calls Tryz.prog 31 #[scP B, cmP C] w (FullPost w B C (restB sec (cmdP0 tg nm uid) s)) := by
 have hn : (cmdP0 tg nm uid).name = nm := rfl
 unfold restB
 rw [hn]
 by_cases h1 : nm ∈ idleNs
 ·
  rw [if_pos h1]
  refine (rest_idle G B C 0 s nm _ rfl (by simpa [idleNs] using h1) hne hC20 w hC hE h).mono ?_
  rintro e w' ⟨hR, rfl, hS, cs, hc, rfl⟩
  exact ⟨hR, rfl, cmd0 tg nm uid, 0, hS, hc, cmd0_at _ _ _ _ _⟩
 rw [if_neg h1]
 by_cases h2 : nm ∈ twoNs
 ·
  rw [if_pos h2]
  refine (rest_two G B C 0 s nm _ rfl _ rfl (by simpa [twoNs] using h2) hne hC20 w hC hE h).mono ?_
  intro e w' hP
  have := full_args hP
  rw [Option.map_map] at this
  exact this
 rw [if_neg h2]
 by_cases h3 : nm ∈ oneNs
 ·
  rw [if_pos h3]
  refine (rest_one G B C 0 s nm _ rfl _ rfl (by simpa [oneNs] using h3) hne hC20 w hC hE h).mono ?_
  intro e w' hP
  have := full_args hP
  rw [Option.map_map] at this
  exact this
 rw [if_neg h3]
 by_cases h4 : nm ∈ listNs
 ·
  rw [if_pos h4]
  rcases (show nm = [76, 73, 83, 84] ∨ nm = [76, 83, 85, 66] by simpa [listNs] using h4) with h5 | h5
  ·
   refine (rest_list G B C 0 s nm _ rfl _ rfl h5 hne hC20 w hC hE h).mono ?_
   intro e w' hP
   have := full_args hP
   rw [Option.map_map] at this
   exact this
  ·
   refine (rest_lsub G B C 0 s nm _ rfl _ rfl h5 hne hC20 w hC hE h).mono ?_
   intro e w' hP
   have := full_args hP
   rw [Option.map_map] at this
   exact this
 rw [if_neg h4]
 by_cases h5 : nm = statusNm
 ·
  rw [if_pos h5]
  exact (rest_status G B C 0 s nm _ rfl _ rfl h5 hne hC20 w hC hE h).mono fun e w' hP => full_args hP
 rw [if_neg h5]
 by_cases h6 : nm = appendNm
 ·
  rw [if_pos h6]
  exact (rest_append G B C 0 s nm _ rfl (cmd0 tg nm uid) rfl rfl h6 hne hC20 w hC hE h).mono fun e w' hP => full_app hP
 rw [if_neg h6]
 by_cases h7 : nm = copyNm
 ·
  rw [if_pos h7]
  exact (rest_copy G B C 0 s nm _ rfl _ _ rfl rfl h7 hne hC20 w hC hE h).mono fun e w' hP => full_copy hP
 rw [if_neg h7]
 by_cases h8 : nm = storeNm
 ·
  rw [if_pos h8]
  exact (rest_store G B C 0 s nm _ rfl (cmd0 tg nm uid) rfl rfl h8 hne hC20 w hC hE h).mono fun e w' hP => full_store hP
 rw [if_neg h8]
 by_cases h9 : nm = fetchNm
 ·
  rw [if_pos h9]
  exact (rest_fetchF G B C 0 s nm _ rfl sec hsec _ _ rfl rfl h9 hne hC20 w hC hE h).mono fun e w' hP => full_fetch hP
 rw [if_neg h9]
 by_cases h10 : nm = searchNm
 ·
  rw [if_pos h10]
  refine (rest_searchF G B C 0 s nm _ rfl (keyB 51) (key_all G B) (fun s k p hp => (keyB_nxt 51 s k p hp).2) rfl h10 hne hC20 w hC hE h).mono ?_
  rintro e w' ⟨W, hR, hP⟩
  exact full_search hR hP
 rw [if_neg h10]
 refine (rest_other G B C 0 s nm _ rfl (fun hm => ?_) hne hC20 w hC hE h).mono fun e w' hP => ⟨hP.2.1, hP.1, hP.2.2⟩
 simp only [restNames, idleNs, twoNs, oneNs, listNs, statusNm, appendNm, copyNm, storeNm, fetchNm, searchNm, List.mem_cons, List.not_mem_nil, or_false] at *
 rcases hm with hm | hm | hm | hm | hm | hm | hm | hm | hm | hm | hm | hm | hm | hm | hm | hm | hm | hm | hm | hm | hm | hm <;> simp [hm] at *
end Go.Proofs.YtgmfhldfdnnafaaGreatDoor
