/- A part of the proofs of the statements on chapter 21: walks of functions that they reach, and plain laws. What is proved is stated in the last text. Conditions: none of its own. -/
import Derived.Test.YtgmfhldfdnnafaaGreatDoorMs26
set_option maxHeartbeats 8000000
set_option maxRecDepth 100000
set_option linter.unusedSimpArgs false
set_option linter.unusedVariables false
namespace Go.Proofs.YtgmfhldfdnnafaaGreatDoor
open Go.RowKit
open Pl (Bs)
def cmdPZ : CmdP := ⟨[], [], false, [], [], 0, 0, false, 0, [], [], []⟩
theorem cmdZ_at (w : World) : CmdAt w (fun _ => False) cmdZ cmdPZ := ⟨rfl, rfl, rfl, ⟨rfl, rowC_nil _ _ _⟩, ⟨rfl, rowC_nil _ _ _⟩, rfl, rfl, rfl, rfl, rfl, ⟨rfl, [], rowC_nil _ _ _, .nil⟩, ⟨rfl, [], rowC_nil _ _ _, .nil⟩⟩
theorem cmdPZ_fit : CmdFit cmdPZ := ⟨by simp [cmdPZ], by simp [cmdPZ], by simp [cmdPZ], fun y hy => by simp [cmdPZ] at hy, by simp [cmdPZ], .nil⟩
theorem sameZ_walk (w : World) : Calls Tryz.prog 13 #[.agg #[.string ⟨#[]⟩, .string ⟨#[]⟩, .bool false, .slice none 0 0, .slice none 0 0, .int .i64 0, .int .i64 0, .bool false, .int .i64 0, .string ⟨#[]⟩, .slice none 0 0, .slice none 0 0], .agg #[.string ⟨#[]⟩, .string ⟨#[]⟩, .bool false, .slice none 0 0, .slice none 0 0, .int .i64 0, .int .i64 0, .bool false, .int .i64 0, .string ⟨#[]⟩, .slice none 0 0, .slice none 0 0]] w fun e w' => e = .returned (.bool true) ∧ Below w.heap.size w w' := by
 have K := same_walk cmdPZ cmdPZ cmdPZ_fit cmdPZ_fit cmdZ cmdZ (fun _ => False) (fun _ => False) w (fun i h => h.elim) (fun i h => h.elim) (cmdZ_at w) (cmdZ_at w)
 rw [sameC_refl] at K
 exact K
theorem CmdAt.below {w w1 : World} {T : Nat → Prop} {c : CmdV} {x : CmdP} (h : CmdAt w T c x) (hT : ∀ i, T i → i < w.heap.size) (hB : Below w.heap.size w w1) : CmdAt w1 T c x := h.kept (fun i hi => hB.block i (hT i hi))
structure PairSt (x y : CmdP) (c d : CmdV) (TA TB : Nat → Prop) (W : World) : Prop where
 a : CmdAt W TA c x
 b : CmdAt W TB d y
 ta : ∀ i, TA i → i < W.heap.size
 tb : ∀ i, TB i → i < W.heap.size
theorem PairSt.below {x y : CmdP} {c d : CmdV} {TA TB : Nat → Prop} {W W1 : World} (h : PairSt x y c d TA TB W) (hB : Below W.heap.size W W1) : PairSt x y c d TA TB W1 := ⟨h.a.below h.ta hB, h.b.below h.tb hB, fun i hi => Nat.lt_of_lt_of_le (h.ta i hi) hB.size, fun i hi => Nat.lt_of_lt_of_le (h.tb i hi) hB.size⟩
theorem imapSame_walk (G : Glob) (s t : ByteArray) (w : World) (hs : s.size ≤ 140737488351232) (ht : t.size ≤ 140737488351232) (hE : EnvW G w) :
  Calls Tryz.prog 4 #[.string s, .string t] w fun e w' => e = .returned (.bool true) ∧ Below w.heap.size w w' := by
 have HAl := Lib.hid (alive22 G w hE)
 have HE := Lib.hid hE
 obtain ⟨ft, fx, hf⟩ := hE.now.formI
 have HF := Lib.hid hf
 clear hE hf
 by_cases hz : s.size ≤ 3000
 ·
  by_cases hz2 : t.size ≤ 3000
  ·
   have hl : (bs s).length ≤ 1000000 := by rw [bs_size]; omega
   have hl2 : (bs t).length ≤ 1000000 := by rw [bs_size]; omega
   have KP1 := Lib.hid (fun W (h : EnvW G W) => parse_full G secB (sec_con G) (bs s) hl W h.ps.1 h.ps.2)
   have KP2 := Lib.hid (fun W (h : EnvW G W) => parse_full G secB (sec_con G) (bs t) hl2 W h.ps.1 h.ps.2)
   rw [str_of] at KP1 KP2
   have HFt1 := Lib.hid (fun x (h : prsB secB (bs s) = some x) => prsB_fit sec_fit hl h)
   have HFt2 := Lib.hid (fun x (h : prsB secB (bs t) = some x) => prsB_fit sec_fit hl2 h)
   clear hl hl2
   cases ha : prsB secB (bs s) with
   | none =>
    cases hb : prsB secB (bs t) with
    | none =>
     rw [ha] at KP1
     rw [hb] at KP2
     clear ha hb HFt1 HFt2
     go_enter Tryz.func4, Tryz.ntmps4
     go_wp2_with fail
     refine HAl.out.mono ?_
     rintro e w1 ⟨rfl, hB1⟩
     have HB1 := Lib.hid hB1
     have HE1 := Lib.hid (HE.out.then hB1)
     clear hB1
     go_wp2_with fail
     refine (KP1.out w1 HE1.out).mono ?_
     rintro e w2 ⟨hB2, he⟩
     rw [HF.out] at he
     simp only [CmdV.cells, cmdZ] at he
     subst he
     have HB2 := Lib.hid (below_then HB1.out hB2)
     have HBs2 := Lib.hid hB2
     obtain ⟨w3, hw3⟩ : ∃ w3, w2.alloc (Obj.cells #[.string ⟨#[]⟩, .string ⟨#[]⟩, .bool false, .slice none 0 0, .slice none 0 0, .int .i64 0, .int .i64 0, .bool false, .int .i64 0, .string ⟨#[]⟩, .slice none 0 0, .slice none 0 0] 33) = w3 := ⟨_, rfl⟩
     have HW3 := Lib.hid hw3
     have HX3 := Lib.hid (show w3.heap[w2.heap.size]? = some (Obj.cells #[.string ⟨#[]⟩, .string ⟨#[]⟩, .bool false, .slice none 0 0, .slice none 0 0, .int .i64 0, .int .i64 0, .bool false, .int .i64 0, .string ⟨#[]⟩, .slice none 0 0, .slice none 0 0] 33) by rw [← hw3]; exact World.alloc_heap_new _ _)
     have HBn3 := Lib.hid (show Below w2.heap.size w2 w3 by rw [← hw3]; exact (Below.refl _ _).alloc (Nat.le_refl _) _)
     have HB3 := Lib.hid (below_then HB2.out HBn3.out)
     have HE3 := Lib.hid (HE.out.then HB3.out)
     clear hB2 hw3
     go_wp2_with fail
     rw [HW3.out]
     refine (KP2.out w3 HE3.out).mono ?_
     rintro e w4 ⟨hB4, he⟩
     rw [HF.out] at he
     simp only [CmdV.cells, cmdZ] at he
     subst he
     have HB4 := Lib.hid (below_then HB3.out hB4)
     have HBs4 := Lib.hid hB4
     obtain ⟨w5, hw5⟩ : ∃ w5, w4.alloc (Obj.cells #[.string ⟨#[]⟩, .string ⟨#[]⟩, .bool false, .slice none 0 0, .slice none 0 0, .int .i64 0, .int .i64 0, .bool false, .int .i64 0, .string ⟨#[]⟩, .slice none 0 0, .slice none 0 0] 33) = w5 := ⟨_, rfl⟩
     have HW5 := Lib.hid hw5
     have HX5 := Lib.hid (show w5.heap[w4.heap.size]? = some (Obj.cells #[.string ⟨#[]⟩, .string ⟨#[]⟩, .bool false, .slice none 0 0, .slice none 0 0, .int .i64 0, .int .i64 0, .bool false, .int .i64 0, .string ⟨#[]⟩, .slice none 0 0, .slice none 0 0] 33) by rw [← hw5]; exact World.alloc_heap_new _ _)
     have HBn5 := Lib.hid (show Below w4.heap.size w4 w5 by rw [← hw5]; exact (Below.refl _ _).alloc (Nat.le_refl _) _)
     have HB5 := Lib.hid (below_then HB4.out HBn5.out)
     have HE5 := Lib.hid (HE.out.then HB5.out)
     clear hB4 hw5
     go_wp2_with fail
     rw [HW5.out]
     refine (sameZ_walk _).mono ?_
     rintro e w9 ⟨rfl, hB9⟩
     have HB9 := Lib.hid (below_then HB5.out hB9)
     clear hB9
     go_wp2
     go_ret
     exact ⟨rfl, HB9.out⟩
    | some y =>
     rw [ha] at KP1
     rw [hb] at KP2
     clear ha hb HFt1 HFt2
     go_enter Tryz.func4, Tryz.ntmps4
     go_wp2_with fail
     refine HAl.out.mono ?_
     rintro e w1 ⟨rfl, hB1⟩
     have HB1 := Lib.hid hB1
     have HE1 := Lib.hid (HE.out.then hB1)
     clear hB1
     go_wp2_with fail
     refine (KP1.out w1 HE1.out).mono ?_
     rintro e w2 ⟨hB2, he⟩
     rw [HF.out] at he
     simp only [CmdV.cells, cmdZ] at he
     subst he
     have HB2 := Lib.hid (below_then HB1.out hB2)
     have HBs2 := Lib.hid hB2
     obtain ⟨w3, hw3⟩ : ∃ w3, w2.alloc (Obj.cells #[.string ⟨#[]⟩, .string ⟨#[]⟩, .bool false, .slice none 0 0, .slice none 0 0, .int .i64 0, .int .i64 0, .bool false, .int .i64 0, .string ⟨#[]⟩, .slice none 0 0, .slice none 0 0] 33) = w3 := ⟨_, rfl⟩
     have HW3 := Lib.hid hw3
     have HX3 := Lib.hid (show w3.heap[w2.heap.size]? = some (Obj.cells #[.string ⟨#[]⟩, .string ⟨#[]⟩, .bool false, .slice none 0 0, .slice none 0 0, .int .i64 0, .int .i64 0, .bool false, .int .i64 0, .string ⟨#[]⟩, .slice none 0 0, .slice none 0 0] 33) by rw [← hw3]; exact World.alloc_heap_new _ _)
     have HBn3 := Lib.hid (show Below w2.heap.size w2 w3 by rw [← hw3]; exact (Below.refl _ _).alloc (Nat.le_refl _) _)
     have HB3 := Lib.hid (below_then HB2.out HBn3.out)
     have HE3 := Lib.hid (HE.out.then HB3.out)
     clear hB2 hw3
     go_wp2_with fail
     rw [HW3.out]
     refine (KP2.out w3 HE3.out).mono ?_
     rintro e w4 ⟨hB4, bc, he, hatb⟩
     obtain ⟨btag, bname, buid, baA, baN, baC, bsA, bsN, bsC, bhow, bflags, bsilent, bdate, bbody, biA, biN, biC, bkA, bkN, bkC⟩ := bc
     simp only [CmdV.cells] at he
     subst he
     have HAtb := Lib.hid hatb
     have HB4 := Lib.hid (below_then HB3.out hB4)
     have HBs4 := Lib.hid hB4
     obtain ⟨w5, hw5⟩ : ∃ w5, w4.alloc (Obj.cells #[.string btag, .string bname, .bool buid, .slice baA baN baC, .slice bsA bsN bsC, .int .i64 bhow, .int .i64 bflags, .bool bsilent, .int .i64 bdate, .string bbody, .slice biA biN biC, .slice bkA bkN bkC] 33) = w5 := ⟨_, rfl⟩
     have HX5 := Lib.hid (show w5.heap[w4.heap.size]? = some (Obj.cells #[.string btag, .string bname, .bool buid, .slice baA baN baC, .slice bsA bsN bsC, .int .i64 bhow, .int .i64 bflags, .bool bsilent, .int .i64 bdate, .string bbody, .slice biA biN biC, .slice bkA bkN bkC] 33) by rw [← hw5]; exact World.alloc_heap_new _ _)
     have HBn5 := Lib.hid (show Below w4.heap.size w4 w5 by rw [← hw5]; exact (Below.refl _ _).alloc (Nat.le_refl _) _)
     have HB5 := Lib.hid (below_then HB4.out HBn5.out)
     have HE5 := Lib.hid (HE.out.then HB5.out)
     clear hB4 hatb
     go_wp2_with fail
     refine (sameZ_walk _).mono ?_
     rintro e w9 ⟨rfl, hB9⟩
     have HB9 := Lib.hid (below_then HB5.out hB9)
     clear hB9
     go_wp2
     go_ret
     exact ⟨rfl, HB9.out⟩
   | some x =>
    cases hb : prsB secB (bs t) with
    | none =>
     rw [ha] at KP1
     rw [hb] at KP2
     clear ha hb HFt1 HFt2
     go_enter Tryz.func4, Tryz.ntmps4
     go_wp2_with fail
     refine HAl.out.mono ?_
     rintro e w1 ⟨rfl, hB1⟩
     have HB1 := Lib.hid hB1
     have HE1 := Lib.hid (HE.out.then hB1)
     clear hB1
     go_wp2_with fail
     refine (KP1.out w1 HE1.out).mono ?_
     rintro e w2 ⟨hB2, ac, he, hata⟩
     obtain ⟨atag, aname, auid, aaA, aaN, aaC, asA, asN, asC, ahow, aflags, asilent, adate, abody, aiA, aiN, aiC, akA, akN, akC⟩ := ac
     simp only [CmdV.cells] at he
     subst he
     have HAta := Lib.hid hata
     have HB2 := Lib.hid (below_then HB1.out hB2)
     have HBs2 := Lib.hid hB2
     obtain ⟨w3, hw3⟩ : ∃ w3, w2.alloc (Obj.cells #[.string atag, .string aname, .bool auid, .slice aaA aaN aaC, .slice asA asN asC, .int .i64 ahow, .int .i64 aflags, .bool asilent, .int .i64 adate, .string abody, .slice aiA aiN aiC, .slice akA akN akC] 33) = w3 := ⟨_, rfl⟩
     have HX3 := Lib.hid (show w3.heap[w2.heap.size]? = some (Obj.cells #[.string atag, .string aname, .bool auid, .slice aaA aaN aaC, .slice asA asN asC, .int .i64 ahow, .int .i64 aflags, .bool asilent, .int .i64 adate, .string abody, .slice aiA aiN aiC, .slice akA akN akC] 33) by rw [← hw3]; exact World.alloc_heap_new _ _)
     have HBn3 := Lib.hid (show Below w2.heap.size w2 w3 by rw [← hw3]; exact (Below.refl _ _).alloc (Nat.le_refl _) _)
     have HB3 := Lib.hid (below_then HB2.out HBn3.out)
     have HE3 := Lib.hid (HE.out.then HB3.out)
     clear hB2 hata
     go_wp2_with fail
     refine (KP2.out w3 HE3.out).mono ?_
     rintro e w4 ⟨hB4, he⟩
     rw [HF.out] at he
     simp only [CmdV.cells, cmdZ] at he
     subst he
     have HB4 := Lib.hid (below_then HB3.out hB4)
     have HBs4 := Lib.hid hB4
     obtain ⟨w5, hw5⟩ : ∃ w5, w4.alloc (Obj.cells #[.string ⟨#[]⟩, .string ⟨#[]⟩, .bool false, .slice none 0 0, .slice none 0 0, .int .i64 0, .int .i64 0, .bool false, .int .i64 0, .string ⟨#[]⟩, .slice none 0 0, .slice none 0 0] 33) = w5 := ⟨_, rfl⟩
     have HW5 := Lib.hid hw5
     have HX5 := Lib.hid (show w5.heap[w4.heap.size]? = some (Obj.cells #[.string ⟨#[]⟩, .string ⟨#[]⟩, .bool false, .slice none 0 0, .slice none 0 0, .int .i64 0, .int .i64 0, .bool false, .int .i64 0, .string ⟨#[]⟩, .slice none 0 0, .slice none 0 0] 33) by rw [← hw5]; exact World.alloc_heap_new _ _)
     have HBn5 := Lib.hid (show Below w4.heap.size w4 w5 by rw [← hw5]; exact (Below.refl _ _).alloc (Nat.le_refl _) _)
     have HB5 := Lib.hid (below_then HB4.out HBn5.out)
     have HE5 := Lib.hid (HE.out.then HB5.out)
     clear hB4 hw5
     go_wp2_with fail
     rw [HW5.out]
     refine (sameZ_walk _).mono ?_
     rintro e w9 ⟨rfl, hB9⟩
     have HB9 := Lib.hid (below_then HB5.out hB9)
     clear hB9
     go_wp2
     go_ret
     exact ⟨rfl, HB9.out⟩
    | some y =>
     have HFx := Lib.hid (HFt1.out x ha)
     have HFy := Lib.hid (HFt2.out y hb)
     rw [ha] at KP1
     rw [hb] at KP2
     clear ha hb HFt1 HFt2
     go_enter Tryz.func4, Tryz.ntmps4
     go_wp2_with fail
     refine HAl.out.mono ?_
     rintro e w1 ⟨rfl, hB1⟩
     have HB1 := Lib.hid hB1
     have HE1 := Lib.hid (HE.out.then hB1)
     clear hB1
     go_wp2_with fail
     refine (KP1.out w1 HE1.out).mono ?_
     rintro e w2 ⟨hB2, ac, he, hata⟩
     obtain ⟨atag, aname, auid, aaA, aaN, aaC, asA, asN, asC, ahow, aflags, asilent, adate, abody, aiA, aiN, aiC, akA, akN, akC⟩ := ac
     simp only [CmdV.cells] at he
     subst he
     have HAta := Lib.hid hata
     have HB2 := Lib.hid (below_then HB1.out hB2)
     have HBs2 := Lib.hid hB2
     obtain ⟨w3, hw3⟩ : ∃ w3, w2.alloc (Obj.cells #[.string atag, .string aname, .bool auid, .slice aaA aaN aaC, .slice asA asN asC, .int .i64 ahow, .int .i64 aflags, .bool asilent, .int .i64 adate, .string abody, .slice aiA aiN aiC, .slice akA akN akC] 33) = w3 := ⟨_, rfl⟩
     have HX3 := Lib.hid (show w3.heap[w2.heap.size]? = some (Obj.cells #[.string atag, .string aname, .bool auid, .slice aaA aaN aaC, .slice asA asN asC, .int .i64 ahow, .int .i64 aflags, .bool asilent, .int .i64 adate, .string abody, .slice aiA aiN aiC, .slice akA akN akC] 33) by rw [← hw3]; exact World.alloc_heap_new _ _)
     have HBn3 := Lib.hid (show Below w2.heap.size w2 w3 by rw [← hw3]; exact (Below.refl _ _).alloc (Nat.le_refl _) _)
     have HB3 := Lib.hid (below_then HB2.out HBn3.out)
     have HE3 := Lib.hid (HE.out.then HB3.out)
     clear hB2 hata
     go_wp2_with fail
     refine (KP2.out w3 HE3.out).mono ?_
     rintro e w4 ⟨hB4, bc, he, hatb⟩
     obtain ⟨btag, bname, buid, baA, baN, baC, bsA, bsN, bsC, bhow, bflags, bsilent, bdate, bbody, biA, biN, biC, bkA, bkN, bkC⟩ := bc
     simp only [CmdV.cells] at he
     subst he
     have HAtb := Lib.hid hatb
     have HB4 := Lib.hid (below_then HB3.out hB4)
     have HBs4 := Lib.hid hB4
     obtain ⟨w5, hw5⟩ : ∃ w5, w4.alloc (Obj.cells #[.string btag, .string bname, .bool buid, .slice baA baN baC, .slice bsA bsN bsC, .int .i64 bhow, .int .i64 bflags, .bool bsilent, .int .i64 bdate, .string bbody, .slice biA biN biC, .slice bkA bkN bkC] 33) = w5 := ⟨_, rfl⟩
     have HX5 := Lib.hid (show w5.heap[w4.heap.size]? = some (Obj.cells #[.string btag, .string bname, .bool buid, .slice baA baN baC, .slice bsA bsN bsC, .int .i64 bhow, .int .i64 bflags, .bool bsilent, .int .i64 bdate, .string bbody, .slice biA biN biC, .slice bkA bkN bkC] 33) by rw [← hw5]; exact World.alloc_heap_new _ _)
     have HBn5 := Lib.hid (show Below w4.heap.size w4 w5 by rw [← hw5]; exact (Below.refl _ _).alloc (Nat.le_refl _) _)
     have HB5 := Lib.hid (below_then HB4.out HBn5.out)
     have HE5 := Lib.hid (HE.out.then HB5.out)
     clear hB4 hatb
     have hw35 : Below w2.heap.size w2 w5 := below_then (below_then HBn3.out HBs4.out) HBn5.out
     have HX := Lib.hid (show w5.drew.heap[w2.heap.size]? = some (Obj.cells #[.string atag, .string aname, .bool auid, .slice aaA aaN aaC, .slice asA asN asC, .int .i64 ahow, .int .i64 aflags, .bool asilent, .int .i64 adate, .string abody, .slice aiA aiN aiC, .slice akA akN akC] 33) ∧ w5.drew.heap[w4.heap.size]? = some (Obj.cells #[.string btag, .string bname, .bool buid, .slice baA baN baC, .slice bsA bsN bsC, .int .i64 bhow, .int .i64 bflags, .bool bsilent, .int .i64 bdate, .string bbody, .slice biA biN biC, .slice bkA bkN bkC] 33) from ⟨((below_then HBs4.out HBn5.out).block _ (Array.getElem?_eq_some_iff.1 HX3.out).1).trans HX3.out, HX5.out⟩)
     have HP := Lib.hid (show PairSt x y (⟨atag, aname, auid, aaA, aaN, aaC, asA, asN, asC, ahow, aflags, asilent, adate, abody, aiA, aiN, aiC, akA, akN, akC⟩ : CmdV) (⟨btag, bname, buid, baA, baN, baC, bsA, bsN, bsC, bhow, bflags, bsilent, bdate, bbody, biA, biN, biC, bkA, bkN, bkC⟩ : CmdV) (newT w1 w2) (newT w3 w4) w5.drew from ⟨HAta.out.below (fun i hi => hi.2) (below_draws hw35 1), HAtb.out.below (fun i hi => hi.2) (below_draws HBn5.out 1), fun i hi => Nat.lt_of_lt_of_le hi.2 hw35.size, fun i hi => Nat.lt_of_lt_of_le hi.2 HBn5.out.size⟩)
     have HBf : Hid (Below w.heap.size w w5.drew) := Lib.hid (below_draws HB5.out 1)
     obtain ⟨R, hR⟩ : ∃ R, sameC x y = R := ⟨_, rfl⟩
     have HR := Lib.hid hR
     clear hR hw35
     go_wp2_with fail
     refine wp_region_held_drew (S := fun W => W.cell? ⟨w2.heap.size, 0, none⟩ = some (.string atag) ∧ W.cell? ⟨w2.heap.size, 1, none⟩ = some (.string aname) ∧ W.cell? ⟨w2.heap.size, 2, none⟩ = some (.bool auid) ∧ W.cell? ⟨w2.heap.size, 3, none⟩ = some (.slice aaA aaN aaC) ∧ W.cell? ⟨w2.heap.size, 4, none⟩ = some (.slice asA asN asC) ∧ W.cell? ⟨w2.heap.size, 5, none⟩ = some (.int .i64 ahow) ∧ W.cell? ⟨w2.heap.size, 6, none⟩ = some (.int .i64 aflags) ∧ W.cell? ⟨w2.heap.size, 7, none⟩ = some (.bool asilent) ∧ W.cell? ⟨w2.heap.size, 8, none⟩ = some (.int .i64 adate) ∧ W.cell? ⟨w2.heap.size, 9, none⟩ = some (.string abody) ∧ W.cell? ⟨w2.heap.size, 10, none⟩ = some (.slice aiA aiN aiC) ∧ W.cell? ⟨w2.heap.size, 11, none⟩ = some (.slice akA akN akC) ∧ W.cell? ⟨w4.heap.size, 0, none⟩ = some (.string btag) ∧ W.cell? ⟨w4.heap.size, 1, none⟩ = some (.string bname) ∧ W.cell? ⟨w4.heap.size, 2, none⟩ = some (.bool buid) ∧ W.cell? ⟨w4.heap.size, 3, none⟩ = some (.slice baA baN baC) ∧ W.cell? ⟨w4.heap.size, 4, none⟩ = some (.slice bsA bsN bsC) ∧ W.cell? ⟨w4.heap.size, 5, none⟩ = some (.int .i64 bhow) ∧ W.cell? ⟨w4.heap.size, 6, none⟩ = some (.int .i64 bflags) ∧ W.cell? ⟨w4.heap.size, 7, none⟩ = some (.bool bsilent) ∧ W.cell? ⟨w4.heap.size, 8, none⟩ = some (.int .i64 bdate) ∧ W.cell? ⟨w4.heap.size, 9, none⟩ = some (.string bbody) ∧ W.cell? ⟨w4.heap.size, 10, none⟩ = some (.slice biA biN biC) ∧ W.cell? ⟨w4.heap.size, 11, none⟩ = some (.slice bkA bkN bkC)) (by kernel_rfl) ⟨obj_cell HX.out.1 0 _ rfl, obj_cell HX.out.1 1 _ rfl, obj_cell HX.out.1 2 _ rfl, obj_cell HX.out.1 3 _ rfl, obj_cell HX.out.1 4 _ rfl, obj_cell HX.out.1 5 _ rfl, obj_cell HX.out.1 6 _ rfl, obj_cell HX.out.1 7 _ rfl, obj_cell HX.out.1 8 _ rfl, obj_cell HX.out.1 9 _ rfl, obj_cell HX.out.1 10 _ rfl, obj_cell HX.out.1 11 _ rfl, obj_cell HX.out.2 0 _ rfl, obj_cell HX.out.2 1 _ rfl, obj_cell HX.out.2 2 _ rfl, obj_cell HX.out.2 3 _ rfl, obj_cell HX.out.2 4 _ rfl, obj_cell HX.out.2 5 _ rfl, obj_cell HX.out.2 6 _ rfl, obj_cell HX.out.2 7 _ rfl, obj_cell HX.out.2 8 _ rfl, obj_cell HX.out.2 9 _ rfl, obj_cell HX.out.2 10 _ rfl, obj_cell HX.out.2 11 _ rfl⟩ (fun hHeld => ?_)
     refine wpAnyH_take (i := 0) rfl (by kernel_rfl) (by kernel_rfl) (by kernel_rfl) (fun _ _ _ h => h) (.inl ⟨by rfl, by intro _ h; (try dsimp only at h); go_simp; try with_reducible rfl⟩) hHeld ?_
     try simp only [Act.put, t0, t1, t2, t3, t4, t5]
     refine wpAnyH_take (i := 1) rfl (by kernel_rfl) (by kernel_rfl) (by kernel_rfl) (fun _ _ _ h => h) (.inl ⟨by rfl, by intro _ h; (try dsimp only at h); go_simp; try with_reducible rfl⟩) hHeld ?_
     try simp only [Act.put, t0, t1, t2, t3, t4, t5]
     refine wpAnyH_take (i := 3) rfl (by kernel_rfl) (by kernel_rfl) (by kernel_rfl) (fun _ _ _ h => h) (.inl ⟨by rfl, by intro _ h; (try dsimp only at h); go_simp; try with_reducible rfl⟩) hHeld ?_
     try simp only [Act.put, t0, t1, t2, t3, t4, t5]
     refine wpAnyH_take (i := 5) rfl (by kernel_rfl) (by kernel_rfl) (by kernel_rfl) (fun _ _ _ h => h) (.inl ⟨by rfl, by intro _ h; (try dsimp only at h); go_simp; try with_reducible rfl⟩) hHeld ?_
     try simp only [Act.put, t0, t1, t2, t3, t4, t5]
     refine wpAnyH_ready (rs := [2]) (by kernel_rfl) (by simp) ?_
     refine AllReadyH.cons rfl (fun K9 hK9 => ?_) ?_
     ·
      go_simp
      refine (same_walk x y HFx.out HFy.out (⟨atag, aname, auid, aaA, aaN, aaC, asA, asN, asC, ahow, aflags, asilent, adate, abody, aiA, aiN, aiC, akA, akN, akC⟩ : CmdV) (⟨btag, bname, buid, baA, baN, baC, bsA, bsN, bsC, bhow, bflags, bsilent, bdate, bbody, biA, biN, biC, bkA, bkN, bkC⟩ : CmdV) _ _ _ HP.out.ta HP.out.tb HP.out.a HP.out.b).mono ?_
      rintro e w6 ⟨he6, hB⟩
      rw [HR.out] at he6
      subst he6
      have HBf := Lib.hid (below_then HBf.out hB)
      have HX := Lib.hid (show w6.heap[w2.heap.size]? = some (Obj.cells #[.string atag, .string aname, .bool auid, .slice aaA aaN aaC, .slice asA asN asC, .int .i64 ahow, .int .i64 aflags, .bool asilent, .int .i64 adate, .string abody, .slice aiA aiN aiC, .slice akA akN akC] 33) ∧ w6.heap[w4.heap.size]? = some (Obj.cells #[.string btag, .string bname, .bool buid, .slice baA baN baC, .slice bsA bsN bsC, .int .i64 bhow, .int .i64 bflags, .bool bsilent, .int .i64 bdate, .string bbody, .slice biA biN biC, .slice bkA bkN bkC] 33) from ⟨(hB.block _ (Array.getElem?_eq_some_iff.1 HX.out.1).1).trans HX.out.1, (hB.block _ (Array.getElem?_eq_some_iff.1 HX.out.2).1).trans HX.out.2⟩)
      have HP := Lib.hid (HP.out.below hB)
      clear hB
      refine hK9.out _ _ ⟨obj_cell HX.out.1 0 _ rfl, obj_cell HX.out.1 1 _ rfl, obj_cell HX.out.1 2 _ rfl, obj_cell HX.out.1 3 _ rfl, obj_cell HX.out.1 4 _ rfl, obj_cell HX.out.1 5 _ rfl, obj_cell HX.out.1 6 _ rfl, obj_cell HX.out.1 7 _ rfl, obj_cell HX.out.1 8 _ rfl, obj_cell HX.out.1 9 _ rfl, obj_cell HX.out.1 10 _ rfl, obj_cell HX.out.1 11 _ rfl, obj_cell HX.out.2 0 _ rfl, obj_cell HX.out.2 1 _ rfl, obj_cell HX.out.2 2 _ rfl, obj_cell HX.out.2 3 _ rfl, obj_cell HX.out.2 4 _ rfl, obj_cell HX.out.2 5 _ rfl, obj_cell HX.out.2 6 _ rfl, obj_cell HX.out.2 7 _ rfl, obj_cell HX.out.2 8 _ rfl, obj_cell HX.out.2 9 _ rfl, obj_cell HX.out.2 10 _ rfl, obj_cell HX.out.2 11 _ rfl⟩ (fun hHeld => ?_)
      clear hK9 K9
      try simp only [Act.put, t0, t1, t2, t3, t4, t5]
      refine wpAnyH_ready (rs := [4]) (by kernel_rfl) (by simp) ?_
      refine AllReadyH.cons rfl (fun K9 hK9 => ?_) ?_
      ·
       go_simp
       refine (cvCmd_walk x HFx.out (⟨atag, aname, auid, aaA, aaN, aaC, asA, asN, asC, ahow, aflags, asilent, adate, abody, aiA, aiN, aiC, akA, akN, akC⟩ : CmdV) _ _ HP.out.ta HP.out.a).mono ?_
       rintro e w7 ⟨hB, c7, rfl, hc7⟩
       have HT7 := Lib.hid (show ∀ i, (newT w1 w2 i ∨ newT w6 w7 i) → i < w7.heap.size from fun i hi => hi.elim (fun h => Nat.lt_of_lt_of_le (HP.out.ta i h) hB.size) (fun h => h.2))
       have HBf := Lib.hid (below_then HBf.out hB)
       have HX := Lib.hid (show w7.heap[w2.heap.size]? = some (Obj.cells #[.string atag, .string aname, .bool auid, .slice aaA aaN aaC, .slice asA asN asC, .int .i64 ahow, .int .i64 aflags, .bool asilent, .int .i64 adate, .string abody, .slice aiA aiN aiC, .slice akA akN akC] 33) ∧ w7.heap[w4.heap.size]? = some (Obj.cells #[.string btag, .string bname, .bool buid, .slice baA baN baC, .slice bsA bsN bsC, .int .i64 bhow, .int .i64 bflags, .bool bsilent, .int .i64 bdate, .string bbody, .slice biA biN biC, .slice bkA bkN bkC] 33) from ⟨(hB.block _ (Array.getElem?_eq_some_iff.1 HX.out.1).1).trans HX.out.1, (hB.block _ (Array.getElem?_eq_some_iff.1 HX.out.2).1).trans HX.out.2⟩)
       have HP := Lib.hid (HP.out.below hB)
       have HC7 := Lib.hid hc7
       clear hc7
       clear hB
       refine hK9.out _ _ ⟨obj_cell HX.out.1 0 _ rfl, obj_cell HX.out.1 1 _ rfl, obj_cell HX.out.1 2 _ rfl, obj_cell HX.out.1 3 _ rfl, obj_cell HX.out.1 4 _ rfl, obj_cell HX.out.1 5 _ rfl, obj_cell HX.out.1 6 _ rfl, obj_cell HX.out.1 7 _ rfl, obj_cell HX.out.1 8 _ rfl, obj_cell HX.out.1 9 _ rfl, obj_cell HX.out.1 10 _ rfl, obj_cell HX.out.1 11 _ rfl, obj_cell HX.out.2 0 _ rfl, obj_cell HX.out.2 1 _ rfl, obj_cell HX.out.2 2 _ rfl, obj_cell HX.out.2 3 _ rfl, obj_cell HX.out.2 4 _ rfl, obj_cell HX.out.2 5 _ rfl, obj_cell HX.out.2 6 _ rfl, obj_cell HX.out.2 7 _ rfl, obj_cell HX.out.2 8 _ rfl, obj_cell HX.out.2 9 _ rfl, obj_cell HX.out.2 10 _ rfl, obj_cell HX.out.2 11 _ rfl⟩ (fun hHeld => ?_)
       clear hK9 K9
       try simp only [Act.put, t0, t1, t2, t3, t4, t5]
       refine wpAnyH_ready (rs := [6]) (by kernel_rfl) (by simp) ?_
       refine AllReadyH.cons rfl (fun K9 hK9 => ?_) ?_
       ·
        go_simp
        refine (cvCmd_walk y HFy.out (⟨btag, bname, buid, baA, baN, baC, bsA, bsN, bsC, bhow, bflags, bsilent, bdate, bbody, biA, biN, biC, bkA, bkN, bkC⟩ : CmdV) _ _ HP.out.tb HP.out.b).mono ?_
        rintro e w8 ⟨hB, c8, rfl, hc8⟩
        have HT8 := Lib.hid (show ∀ i, (newT w3 w4 i ∨ newT w7 w8 i) → i < w8.heap.size from fun i hi => hi.elim (fun h => Nat.lt_of_lt_of_le (HP.out.tb i h) hB.size) (fun h => h.2))
        have HC7 := Lib.hid (HC7.out.below HT7.out hB)
        have HT7 := Lib.hid (show ∀ i, (newT w1 w2 i ∨ newT w6 w7 i) → i < w8.heap.size from fun i hi => Nat.lt_of_lt_of_le (HT7.out i hi) hB.size)
        have HBf := Lib.hid (below_then HBf.out hB)
        have HX := Lib.hid (show w8.heap[w2.heap.size]? = some (Obj.cells #[.string atag, .string aname, .bool auid, .slice aaA aaN aaC, .slice asA asN asC, .int .i64 ahow, .int .i64 aflags, .bool asilent, .int .i64 adate, .string abody, .slice aiA aiN aiC, .slice akA akN akC] 33) ∧ w8.heap[w4.heap.size]? = some (Obj.cells #[.string btag, .string bname, .bool buid, .slice baA baN baC, .slice bsA bsN bsC, .int .i64 bhow, .int .i64 bflags, .bool bsilent, .int .i64 bdate, .string bbody, .slice biA biN biC, .slice bkA bkN bkC] 33) from ⟨(hB.block _ (Array.getElem?_eq_some_iff.1 HX.out.1).1).trans HX.out.1, (hB.block _ (Array.getElem?_eq_some_iff.1 HX.out.2).1).trans HX.out.2⟩)
        have HP := Lib.hid (HP.out.below hB)
        have HC8 := Lib.hid hc8
        clear hc8
        clear hB
        refine hK9.out _ _ ⟨obj_cell HX.out.1 0 _ rfl, obj_cell HX.out.1 1 _ rfl, obj_cell HX.out.1 2 _ rfl, obj_cell HX.out.1 3 _ rfl, obj_cell HX.out.1 4 _ rfl, obj_cell HX.out.1 5 _ rfl, obj_cell HX.out.1 6 _ rfl, obj_cell HX.out.1 7 _ rfl, obj_cell HX.out.1 8 _ rfl, obj_cell HX.out.1 9 _ rfl, obj_cell HX.out.1 10 _ rfl, obj_cell HX.out.1 11 _ rfl, obj_cell HX.out.2 0 _ rfl, obj_cell HX.out.2 1 _ rfl, obj_cell HX.out.2 2 _ rfl, obj_cell HX.out.2 3 _ rfl, obj_cell HX.out.2 4 _ rfl, obj_cell HX.out.2 5 _ rfl, obj_cell HX.out.2 6 _ rfl, obj_cell HX.out.2 7 _ rfl, obj_cell HX.out.2 8 _ rfl, obj_cell HX.out.2 9 _ rfl, obj_cell HX.out.2 10 _ rfl, obj_cell HX.out.2 11 _ rfl⟩ (fun hHeld => ?_)
        clear hK9 K9
        try simp only [Act.put, t0, t1, t2, t3, t4, t5]
        refine wpAnyH_ready (rs := [7]) (by kernel_rfl) (by simp) ?_
        refine AllReadyH.cons rfl (fun K9 hK9 => ?_) ?_
        ·
         go_simp
         refine (rsSame_walk x y HFx.out c7 c8 _ _ _ HT7.out HT8.out HC7.out HC8.out).mono ?_
         rintro e w9 ⟨he9, hB⟩
         rw [HR.out] at he9
         subst he9
         have HBf := Lib.hid (below_then HBf.out hB)
         have HX := Lib.hid (show w9.heap[w2.heap.size]? = some (Obj.cells #[.string atag, .string aname, .bool auid, .slice aaA aaN aaC, .slice asA asN asC, .int .i64 ahow, .int .i64 aflags, .bool asilent, .int .i64 adate, .string abody, .slice aiA aiN aiC, .slice akA akN akC] 33) ∧ w9.heap[w4.heap.size]? = some (Obj.cells #[.string btag, .string bname, .bool buid, .slice baA baN baC, .slice bsA bsN bsC, .int .i64 bhow, .int .i64 bflags, .bool bsilent, .int .i64 bdate, .string bbody, .slice biA biN biC, .slice bkA bkN bkC] 33) from ⟨(hB.block _ (Array.getElem?_eq_some_iff.1 HX.out.1).1).trans HX.out.1, (hB.block _ (Array.getElem?_eq_some_iff.1 HX.out.2).1).trans HX.out.2⟩)
         have HP := Lib.hid (HP.out.below hB)
         clear hB
         refine hK9.out _ _ ⟨obj_cell HX.out.1 0 _ rfl, obj_cell HX.out.1 1 _ rfl, obj_cell HX.out.1 2 _ rfl, obj_cell HX.out.1 3 _ rfl, obj_cell HX.out.1 4 _ rfl, obj_cell HX.out.1 5 _ rfl, obj_cell HX.out.1 6 _ rfl, obj_cell HX.out.1 7 _ rfl, obj_cell HX.out.1 8 _ rfl, obj_cell HX.out.1 9 _ rfl, obj_cell HX.out.1 10 _ rfl, obj_cell HX.out.1 11 _ rfl, obj_cell HX.out.2 0 _ rfl, obj_cell HX.out.2 1 _ rfl, obj_cell HX.out.2 2 _ rfl, obj_cell HX.out.2 3 _ rfl, obj_cell HX.out.2 4 _ rfl, obj_cell HX.out.2 5 _ rfl, obj_cell HX.out.2 6 _ rfl, obj_cell HX.out.2 7 _ rfl, obj_cell HX.out.2 8 _ rfl, obj_cell HX.out.2 9 _ rfl, obj_cell HX.out.2 10 _ rfl, obj_cell HX.out.2 11 _ rfl⟩ (fun hHeld => ?_)
         clear hK9 K9
         try simp only [Act.put, t0, t1, t2, t3, t4, t5]
         refine wpAnyH_take (i := 8) rfl (by kernel_rfl) (by kernel_rfl) (by kernel_rfl) (fun _ _ _ h => h) (.inl ⟨by rfl, by intro _ h; (try dsimp only at h); go_simp; try with_reducible rfl⟩) hHeld ?_
         try simp only [Act.put, t0, t1, t2, t3, t4, t5]
         refine wpAnyH_take (i := 9) rfl (by kernel_rfl) (by kernel_rfl) (by kernel_rfl) (fun _ _ _ h => h) (.inl ⟨by rfl, by intro _ h; (try dsimp only at h); go_simp; try with_reducible rfl⟩) hHeld ?_
         try simp only [Act.put, t0, t1, t2, t3, t4, t5]
         refine wpAnyH_take (i := 10) rfl (by kernel_rfl) (by kernel_rfl) (by kernel_rfl) (fun _ _ _ h => h) (.inl ⟨by rfl, by intro _ h; (try dsimp only at h); go_simp; try with_reducible rfl⟩) hHeld ?_
         try simp only [Act.put, t0, t1, t2, t3, t4, t5]
         refine wpAnyH_take (i := 11) rfl (by kernel_rfl) (by kernel_rfl) (by kernel_rfl) (fun _ _ _ h => h) (.inl ⟨by rfl, by intro _ h; (try dsimp only at h); go_simp; try with_reducible rfl⟩) hHeld ?_
         try simp only [Act.put, t0, t1, t2, t3, t4, t5]
         refine wpAnyH_ready (rs := [12]) (by kernel_rfl) (by simp) ?_
         refine AllReadyH.cons rfl (fun K9 hK9 => ?_) ?_
         ·
          go_simp
          have KR := same_walk x x HFx.out HFx.out (⟨atag, aname, auid, aaA, aaN, aaC, asA, asN, asC, ahow, aflags, asilent, adate, abody, aiA, aiN, aiC, akA, akN, akC⟩ : CmdV) (⟨atag, aname, auid, aaA, aaN, aaC, asA, asN, asC, ahow, aflags, asilent, adate, abody, aiA, aiN, aiC, akA, akN, akC⟩ : CmdV) _ _ _ HP.out.ta HP.out.ta HP.out.a HP.out.a
          rw [sameC_refl] at KR
          refine KR.mono ?_
          rintro e w10 ⟨rfl, hB⟩
          have HBf := Lib.hid (below_then HBf.out hB)
          have HX := Lib.hid (show w10.heap[w2.heap.size]? = some (Obj.cells #[.string atag, .string aname, .bool auid, .slice aaA aaN aaC, .slice asA asN asC, .int .i64 ahow, .int .i64 aflags, .bool asilent, .int .i64 adate, .string abody, .slice aiA aiN aiC, .slice akA akN akC] 33) ∧ w10.heap[w4.heap.size]? = some (Obj.cells #[.string btag, .string bname, .bool buid, .slice baA baN baC, .slice bsA bsN bsC, .int .i64 bhow, .int .i64 bflags, .bool bsilent, .int .i64 bdate, .string bbody, .slice biA biN biC, .slice bkA bkN bkC] 33) from ⟨(hB.block _ (Array.getElem?_eq_some_iff.1 HX.out.1).1).trans HX.out.1, (hB.block _ (Array.getElem?_eq_some_iff.1 HX.out.2).1).trans HX.out.2⟩)
          have HP := Lib.hid (HP.out.below hB)
          clear hB
          refine hK9.out _ _ ⟨obj_cell HX.out.1 0 _ rfl, obj_cell HX.out.1 1 _ rfl, obj_cell HX.out.1 2 _ rfl, obj_cell HX.out.1 3 _ rfl, obj_cell HX.out.1 4 _ rfl, obj_cell HX.out.1 5 _ rfl, obj_cell HX.out.1 6 _ rfl, obj_cell HX.out.1 7 _ rfl, obj_cell HX.out.1 8 _ rfl, obj_cell HX.out.1 9 _ rfl, obj_cell HX.out.1 10 _ rfl, obj_cell HX.out.1 11 _ rfl, obj_cell HX.out.2 0 _ rfl, obj_cell HX.out.2 1 _ rfl, obj_cell HX.out.2 2 _ rfl, obj_cell HX.out.2 3 _ rfl, obj_cell HX.out.2 4 _ rfl, obj_cell HX.out.2 5 _ rfl, obj_cell HX.out.2 6 _ rfl, obj_cell HX.out.2 7 _ rfl, obj_cell HX.out.2 8 _ rfl, obj_cell HX.out.2 9 _ rfl, obj_cell HX.out.2 10 _ rfl, obj_cell HX.out.2 11 _ rfl⟩ (fun hHeld => ?_)
          clear hK9 K9
          try simp only [Act.put, t0, t1, t2, t3, t4, t5]
          refine wpAnyH_take (i := 13) rfl (by kernel_rfl) (by kernel_rfl) (by kernel_rfl) (fun _ _ _ h => h) (.inl ⟨by rfl, by intro _ h; (try dsimp only at h); go_simp; try with_reducible rfl⟩) hHeld ?_
          try simp only [Act.put, t0, t1, t2, t3, t4, t5]
          refine wpAnyH_take (i := 14) rfl (by kernel_rfl) (by kernel_rfl) (by kernel_rfl) (fun _ _ _ h => h) (.inl ⟨by rfl, by intro _ h; (try dsimp only at h); go_simp; try with_reducible rfl⟩) hHeld ?_
          try simp only [Act.put, t0, t1, t2, t3, t4, t5]
          refine wpAnyH_done (by kernel_rfl) ?_ _
          go_wp2
          go_ret
          exact ⟨rfl, HBf.out⟩
         exact AllReadyH.nil
        exact AllReadyH.nil
       exact AllReadyH.nil
      exact AllReadyH.nil
     exact AllReadyH.nil
  ·
   go_enter Tryz.func4, Tryz.ntmps4
   go_wp2_with fail
   refine HAl.out.mono ?_
   rintro e w1 ⟨rfl, hB1⟩
   have HB1 := Lib.hid hB1
   have HE1 := Lib.hid (HE.out.then hB1)
   clear hB1
   go_wp2
   go_ret
   exact ⟨rfl, HB1.out⟩
 ·
  go_enter Tryz.func4, Tryz.ntmps4
  go_wp2_with fail
  refine HAl.out.mono ?_
  rintro e w1 ⟨rfl, hB1⟩
  have HB1 := Lib.hid hB1
  have HE1 := Lib.hid (HE.out.then hB1)
  clear hB1
  go_wp2
  go_ret
  exact ⟨rfl, HB1.out⟩
end Go.Proofs.YtgmfhldfdnnafaaGreatDoor
