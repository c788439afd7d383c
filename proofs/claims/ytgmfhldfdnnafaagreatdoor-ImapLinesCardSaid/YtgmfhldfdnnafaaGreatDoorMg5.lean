/- A part of the proofs of the statements on chapter 21: walks of functions that they reach, and plain laws. What is proved is stated in the last text. Conditions: none of its own. -/
import Derived.Test.YtgmfhldfdnnafaaGreatDoorMg4
import Derived.BigQuiet
import Derived.Deep.CutRange
import Derived.Deep.RegionLaw
namespace Go.Proofs.YtgmfhldfdnnafaaGreatDoor
open Go.RowKit
open Pl (Bs)
set_option linter.unusedSimpArgs false
set_option linter.unusedVariables false
theorem str_neb' {a b : Bs} (h : a ≠ b) : ((str a).toList == b) = false := by
  have : ¬ (str a).toList = b := by rw [Lib.toList_data]; exact fun e => h (by have : bs (str a) = b := e; rw [← this, bs_str])
  simpa using this
structure CmdV where
  tag : ByteArray
  name : ByteArray
  uid : Bool
  aA : Option Addr
  aN : Nat
  aC : Nat
  sA : Option Addr
  sN : Nat
  sC : Nat
  how : Int
  flags : Int
  silent : Bool
  date : Int
  body : ByteArray
  iA : Option Addr
  iN : Nat
  iC : Nat
  kA : Option Addr
  kN : Nat
  kC : Nat
abbrev CmdV.cells (c : CmdV) : Array Value := #[.string c.tag, .string c.name, .bool c.uid, .slice c.aA c.aN c.aC, .slice c.sA c.sN c.sC, .int .i64 c.how, .int .i64 c.flags, .bool c.silent, .int .i64 c.date, .string c.body, .slice c.iA c.iN c.iC, .slice c.kA c.kN c.kC]
abbrev CmdV.obj (c : CmdV) : Obj := Obj.cells c.cells 33
def cmd0 (tg nm : Bs) (uid : Bool) : CmdV := ⟨str tg, str nm, uid, none, 0, 0, none, 0, 0, 0, 0, false, -1, ⟨#[]⟩, none, 0, 0, none, 0, 0⟩
def cmdZ : CmdV := ⟨⟨#[]⟩, ⟨#[]⟩, false, none, 0, 0, none, 0, 0, 0, 0, false, 0, ⟨#[]⟩, none, 0, 0, none, 0, 0⟩
theorem CmdV.cell {c : CmdV} {W : World} {b : Nat} (h : W.heap[b]? = some c.obj) : (W.cell? ⟨b, 0, none⟩ = some (.string c.tag) ∧ W.cell? ⟨b, 1, none⟩ = some (.string c.name) ∧ W.cell? ⟨b, 2, none⟩ = some (.bool c.uid) ∧ W.cell? ⟨b, 3, none⟩ = some (.slice c.aA c.aN c.aC) ∧ W.cell? ⟨b, 4, none⟩ = some (.slice c.sA c.sN c.sC) ∧ W.cell? ⟨b, 5, none⟩ = some (.int .i64 c.how) ∧ W.cell? ⟨b, 6, none⟩ = some (.int .i64 c.flags) ∧ W.cell? ⟨b, 7, none⟩ = some (.bool c.silent) ∧ W.cell? ⟨b, 8, none⟩ = some (.int .i64 c.date) ∧ W.cell? ⟨b, 9, none⟩ = some (.string c.body) ∧ W.cell? ⟨b, 10, none⟩ = some (.slice c.iA c.iN c.iC) ∧ W.cell? ⟨b, 11, none⟩ = some (.slice c.kA c.kN c.kC)) ∧ ∀ i, W.frozen? ⟨b, i, none⟩ = false := by
  refine ⟨⟨?_, ?_, ?_, ?_, ?_, ?_, ?_, ?_, ?_, ?_, ?_, ?_⟩, fun i => ?_⟩ <;> simp [World.cell?, World.frozen?, h]
/-- Parse's frame: the command, the error, the scanner -/
structure PsSt (w : World) (s : Bs) (k : Nat) (c : CmdV) (W : World) : Prop where
  below : Below w.heap.size w W
  cmd : W.heap[w.heap.size]? = some c.obj
  err : W.heap[w.heap.size + 1]? = some (Obj.cells #[.nilIface] 35)
  sc : Scn W (w.heap.size + 1 + 1) s k
theorem PsSt.step {w : World} {s s1 : Bs} {k k1 : Nat} {c : CmdV} {W W1 : World} (st : PsSt w s k c W) (hG : W.grownBy W1 (some (w.heap.size + 1 + 1))) (hS : Scn W1 (w.heap.size + 1 + 1) s1 k1) : PsSt w s1 k1 c W1 := by
  have hk : ∀ i x, W.heap[i]? = some x → i ≠ w.heap.size + 1 + 1 → W1.heap[i]? = some x := fun i x hi hne => (hG.block i (Array.getElem?_eq_some_iff.1 hi).1 (fun e => hne (Option.some.inj e))).trans hi
  exact ⟨st.below.grown hG st.below.size (fun k e => by rw [← Option.some.inj e]; omega), hk _ _ st.cmd (by omega), hk _ _ st.err (by omega), hS⟩
theorem PsSt.then {w : World} {s : Bs} {k : Nat} {c : CmdV} {W W1 : World} (st : PsSt w s k c W) (hB : Below W.heap.size W W1) : PsSt w s k c W1 := st.step (grown_below hB _) (st.sc.then hB)
theorem PsSt.set {w : World} {s : Bs} {k : Nat} {c c1 : CmdV} {W : World} (st : PsSt w s k c W) (i : Nat) (v : Value) (hc : (Obj.cells (c.cells.setIfInBounds i v) 33 : Obj) = c1.obj) : PsSt w s k c1 (W.setCell ⟨w.heap.size, i, none⟩ v) := by
  exact ⟨st.below.setCell (Nat.le_refl _) _, (setCell_heap_same st.cmd).trans (congrArg some hc), (Below.heap_setCell _ _ _ _ (by dsimp only; omega)).trans st.err, st.sc.kept (grown_put _ _ _ _) (fun e => by have := Option.some.inj e; omega)⟩
/-- a command's cells, stored -/
def put12 (W : World) (b : Nat) (c : CmdV) : World := ((((((((((((W.setCell ⟨b, 0, none⟩ (.string c.tag)).setCell ⟨b, 1, none⟩ (.string c.name)).setCell ⟨b, 2, none⟩ (.bool c.uid)).setCell ⟨b, 3, none⟩ (.slice c.aA c.aN c.aC)).setCell ⟨b, 4, none⟩ (.slice c.sA c.sN c.sC)).setCell ⟨b, 5, none⟩ (.int .i64 c.how)).setCell ⟨b, 6, none⟩ (.int .i64 c.flags)).setCell ⟨b, 7, none⟩ (.bool c.silent)).setCell ⟨b, 8, none⟩ (.int .i64 c.date)).setCell ⟨b, 9, none⟩ (.string c.body)).setCell ⟨b, 10, none⟩ (.slice c.iA c.iN c.iC)).setCell ⟨b, 11, none⟩ (.slice c.kA c.kN c.kC))
theorem put12_heap {W : World} {b : Nat} {o : CmdV} (h : W.heap[b]? = some o.obj) (c : CmdV) : (put12 W b c).heap[b]? = some c.obj := by
  have h0 := setCell_heap_same (i := 0) (v := .string c.tag) h
  have h1 := setCell_heap_same (i := 1) (v := .string c.name) h0
  have h2 := setCell_heap_same (i := 2) (v := .bool c.uid) h1
  have h3 := setCell_heap_same (i := 3) (v := .slice c.aA c.aN c.aC) h2
  have h4 := setCell_heap_same (i := 4) (v := .slice c.sA c.sN c.sC) h3
  have h5 := setCell_heap_same (i := 5) (v := .int .i64 c.how) h4
  have h6 := setCell_heap_same (i := 6) (v := .int .i64 c.flags) h5
  have h7 := setCell_heap_same (i := 7) (v := .bool c.silent) h6
  have h8 := setCell_heap_same (i := 8) (v := .int .i64 c.date) h7
  have h9 := setCell_heap_same (i := 9) (v := .string c.body) h8
  have h10 := setCell_heap_same (i := 10) (v := .slice c.iA c.iN c.iC) h9
  have h11 := setCell_heap_same (i := 11) (v := .slice c.kA c.kN c.kC) h10
  unfold put12
  rw [h11]
  simp
theorem put12_grown (W : World) (b : Nat) (c : CmdV) : W.grownBy (put12 W b c) (some b) := by
  unfold put12
  have g1 := (grown_put W b 0 (.string c.tag)).trans (grown_put _ b 1 (.string c.name))
  have g2 := g1.trans (grown_put _ b 2 (.bool c.uid))
  have g3 := g2.trans (grown_put _ b 3 (.slice c.aA c.aN c.aC))
  have g4 := g3.trans (grown_put _ b 4 (.slice c.sA c.sN c.sC))
  have g5 := g4.trans (grown_put _ b 5 (.int .i64 c.how))
  have g6 := g5.trans (grown_put _ b 6 (.int .i64 c.flags))
  have g7 := g6.trans (grown_put _ b 7 (.bool c.silent))
  have g8 := g7.trans (grown_put _ b 8 (.int .i64 c.date))
  have g9 := g8.trans (grown_put _ b 9 (.string c.body))
  have g10 := g9.trans (grown_put _ b 10 (.slice c.iA c.iN c.iC))
  have g11 := g10.trans (grown_put _ b 11 (.slice c.kA c.kN c.kC))
  exact g11
theorem PsSt.put {w : World} {s : Bs} {k : Nat} {c : CmdV} {W : World} (st : PsSt w s k c W) (c1 : CmdV) : PsSt w s k c1 (put12 W w.heap.size c1) := by
  have hg := put12_grown W w.heap.size c1
  exact ⟨st.below.grown hg st.below.size (fun k e => by rw [← Option.some.inj e]; exact Nat.le_refl _), put12_heap st.cmd c1, (hg.block _ (Array.getElem?_eq_some_iff.1 st.err).1 (fun e => by have := Option.some.inj e; omega)).trans st.err, st.sc.kept hg (fun e => by have := Option.some.inj e; omega)⟩
theorem PsSt.start {w : World} {s : Bs} (hs : s.length ≤ 1000000) : PsSt w s 0 cmdZ (((w.alloc cmdZ.obj).alloc (Obj.cells #[.nilIface] 35)).alloc (Obj.cells #[.string (str s), .int .i64 0] 64)) := by
  have hB1 : Below w.heap.size w (w.alloc cmdZ.obj) := (Below.refl _ _).alloc (Nat.le_refl _) _
  have hB2 := hB1.alloc (by simp) (Obj.cells #[.nilIface] 35)
  have hB3 := hB2.alloc (by simp; omega) (Obj.cells #[.string (str s), .int .i64 0] 64)
  refine ⟨hB3, (Below.heap_alloc _ _ _ (by simp; omega)).trans ((Below.heap_alloc _ _ _ (by simp)).trans (World.alloc_heap_new _ _)), (Below.heap_alloc _ _ _ (by simp)).trans ?_, ⟨?_, hs, by omega⟩⟩
  · have := World.alloc_heap_new (w.alloc cmdZ.obj) (Obj.cells #[.nilIface] 35); rw [World.size_alloc] at this; exact this
  · have := World.alloc_heap_new ((w.alloc cmdZ.obj).alloc (Obj.cells #[.nilIface] 35)) (Obj.cells #[.string (str s), .int .i64 0] 64); rw [World.size_alloc, World.size_alloc] at this; exact this
/-- rest's contract, where it is in form -/
def RestCon (G : Glob) (B C : Nat) (c0 : CmdV) (s : Bs) (Q : World → CmdV → World → Prop) : Prop :=
  ∀ W, W.heap[C]? = some c0.obj → EnvI G W B → Scn W B s 0 → Calls Tryz.prog 31 #[scP B, cmP C] W fun e W' => e = .returned (.tuple #[]) ∧ R2 B C W W' ∧ ∃ c k, Scn W' B [] k ∧ W'.heap[C]? = some c.obj ∧ Q W c W'
set_option maxHeartbeats 8000000 in
set_option maxRecDepth 100000 in
theorem parse_plain (G : Glob) (s tg s1 s2 n0 s3 : Bs) (hs : s.length ≤ 1000000) (h1 : wordB [] s = some (tg, s1)) (ht : tagB tg = true) (h2 : isB [32] s1 = some s2) (h3 : wordB [] s2 = some (n0, s3)) (hn : largeL n0 ≠ [85, 73, 68]) (w : World) (hE0 : 20 ≤ w.heap.size) (hE : ∀ W, Below w.heap.size w W → w.heap.size + 1 + 1 < W.heap.size → EnvI G W (w.heap.size + 1 + 1)) (Q : World → CmdV → World → Prop) (hrest : RestCon G (w.heap.size + 1 + 1) w.heap.size (cmd0 tg (largeL n0) false) s3 Q) :
    Calls Tryz.prog 12 #[.string (str s)] w fun e w' => Below w.heap.size w w' ∧ ∃ c W0 W, e = .returned (.tuple #[.agg c.cells, .nilIface]) ∧ Q W0 c W ∧ R2 w.heap.size (w.heap.size + 1) W w' := by
  have hmf : ∀ (fn : Fn) (first cap : Array Value) (w : World), (Instr.makeFunc fn first cap).run Tryz.prog w = .ok (.func fn first cap) w := fun _ _ _ _ => rfl
  have HE := Lib.hid hE
  have HRest := Lib.hid hrest
  have hw1 := wordB_len h1
  have hi2 := isB_len h2
  have hw3 := wordB_len h3
  simp only [List.length_singleton] at hi2
  have K1 : Hid (∀ W k, Scn W (w.heap.size + 1 + 1) s k → Calls Tryz.prog 26 #[scP (w.heap.size + 1 + 1), .string ⟨#[]⟩] W _) := Lib.hid (fun W k hW => word_ok (w.heap.size + 1 + 1) [] s tg s1 k h1 W hW)
  have K2 := Lib.hid (fun W => tag_walk tg (by omega) W)
  rw [ht] at K2
  have K3 := Lib.hid (fun W k hW => blank_ok (w.heap.size + 1 + 1) s1 s2 k h2 W hW)
  have K4 : Hid (∀ W k, Scn W (w.heap.size + 1 + 1) s2 k → Calls Tryz.prog 26 #[scP (w.heap.size + 1 + 1), .string ⟨#[]⟩] W _) := Lib.hid (fun W k hW => word_ok (w.heap.size + 1 + 1) [] s2 n0 s3 k h3 W hW)
  have K5 := Lib.hid (fun W => large_walk21 n0 (by omega) W)
  clear hE hrest h1 ht h2 h3
  go_enter_defers Tryz.func12, Tryz.ntmps12
  have HP0 := Lib.hid (PsSt.start (w := w) hs)
  go_wp2_with fail
  refine (K1.out _ 0 HP0.out.sc).mono ?_
  rintro e w4 ⟨rfl, hS4, hG4⟩
  have HP4 := Lib.hid (HP0.out.step hG4 hS4)
  have HP5 := Lib.hid (HP4.out.put ⟨str tg, ⟨#[]⟩, false, none, 0, 0, none, 0, 0, 0, 0, false, -1, ⟨#[]⟩, none, 0, 0, none, 0, 0⟩)
  obtain ⟨⟨a0, a1, a2, a3, a4, a5, a6, a7, a8, a9, a10, a11⟩, af⟩ := CmdV.cell HP4.out.cmd
  obtain ⟨w5, hw5⟩ : ∃ w5, ((((((((((((w4.setCell ⟨w.heap.size, 0, none⟩ (.string (str tg))).setCell ⟨w.heap.size, 1, none⟩ (.string ⟨#[]⟩)).setCell ⟨w.heap.size, 2, none⟩ (.bool false)).setCell ⟨w.heap.size, 3, none⟩ (.slice none 0 0)).setCell ⟨w.heap.size, 4, none⟩ (.slice none 0 0)).setCell ⟨w.heap.size, 5, none⟩ (.int .i64 0)).setCell ⟨w.heap.size, 6, none⟩ (.int .i64 0)).setCell ⟨w.heap.size, 7, none⟩ (.bool false)).setCell ⟨w.heap.size, 8, none⟩ (.int .i64 (-1))).setCell ⟨w.heap.size, 9, none⟩ (.string ⟨#[]⟩)).setCell ⟨w.heap.size, 10, none⟩ (.slice none 0 0)).setCell ⟨w.heap.size, 11, none⟩ (.slice none 0 0)) = w5 := ⟨_, rfl⟩
  have HPw5 : Hid (PsSt w s1 0 ⟨str tg, ⟨#[]⟩, false, none, 0, 0, none, 0, 0, 0, 0, false, -1, ⟨#[]⟩, none, 0, 0, none, 0, 0⟩ w5) := Lib.hid (by rw [← hw5]; exact HP5.out)
  obtain ⟨⟨b0, b1, b2, b3, b4, b5, b6, b7, b8, b9, b10, b11⟩, bf⟩ := CmdV.cell HPw5.out.cmd
  clear hS4 hG4 HP5
  go_wp2_with fail
  clear a0 a1 a2 a3 a4 a5 a6 a7 a8 a9 a10 a11 af hw5
  refine (K2.out _).mono ?_
  rintro e w6 ⟨rfl, hB6⟩
  have HP6 := Lib.hid (HPw5.out.then hB6)
  clear hB6
  go_wp2_with fail
  refine (must_walk _ _).mono ?_
  rintro e w7 ⟨rfl, rfl⟩
  go_wp2_with fail
  refine (K3.out _ 0 HP6.out.sc).mono ?_
  rintro e w8 ⟨rfl, hS8, hG8⟩
  have HP8 := Lib.hid (HP6.out.step hG8 hS8)
  clear hS8 hG8
  go_wp2_with fail
  refine (K4.out _ 0 HP8.out.sc).mono ?_
  rintro e w9 ⟨rfl, hS9, hG9⟩
  have HP9 := Lib.hid (HP8.out.step hG9 hS9)
  clear hS9 hG9
  go_wp2_with fail
  refine (K5.out _).mono ?_
  rintro e w10 ⟨rfl, hB10⟩
  have HP10 := Lib.hid (HP9.out.then hB10)
  have HP11 : Hid (PsSt w s3 0 (cmd0 tg (largeL n0) false) (w10.setCell ⟨w.heap.size, 1, none⟩ (.string (str (largeL n0))))) := Lib.hid (HP10.out.set 1 _ rfl)
  clear hB10 b0 b1 b2 b3 b4 b5 b6 b7 b8 b9 b10 b11 bf
  obtain ⟨⟨a0, a1, a2, a3, a4, a5, a6, a7, a8, a9, a10, a11⟩, af⟩ := CmdV.cell HP10.out.cmd
  obtain ⟨w11, hw11⟩ : ∃ w11, w10.setCell ⟨w.heap.size, 1, none⟩ (.string (str (largeL n0))) = w11 := ⟨_, rfl⟩
  rw [hw11] at HP11
  have u1 : ((str (largeL n0)).toList == [85, 73, 68]) = false := str_neb' hn
  have b1' : w11.cell? ⟨w.heap.size, 1, none⟩ = some (.string (str (largeL n0))) := (CmdV.cell HP11.out.cmd).1.2.1
  have HKr := Lib.hid (HRest.out w11 HP11.out.cmd (HE.out w11 HP11.out.below (by have := HP11.out.sc.lt; omega)) HP11.out.sc)
  go_wp2_with fail
  clear a0 a1 a2 a3 a4 a5 a6 a7 a8 a9 a10 a11 af b1' hw11
  refine HKr.out.mono ?_
  rintro e w12 ⟨rfl, hR12, c, kk, hS12, hC12, hQ12⟩
  have HQ12 := Lib.hid hQ12
  have HC12 := Lib.hid hC12
  have HR12 := Lib.hid hR12
  obtain ⟨d0, d1, _, _⟩ := hS12.cells
  have hse : str [] = ⟨#[]⟩ := rfl
  rw [hse] at d0
  clear hse hR12 hC12 hQ12 hS12
  go_wp2_with fail
  refine (must_walk _ _).mono ?_
  rintro e w13 ⟨rfl, rfl⟩
  have herr : w12.heap[w.heap.size + 1]? = some (Obj.cells #[.nilIface] 35) := (HR12.out.block _ (Array.getElem?_eq_some_iff.1 HP11.out.err).1 (by omega) (by omega)).trans HP11.out.err
  obtain ⟨⟨a0, a1, a2, a3, a4, a5, a6, a7, a8, a9, a10, a11⟩, af⟩ := CmdV.cell HC12.out
  obtain ⟨q0, q1⟩ := one_cells herr
  obtain ⟨w14, hw14⟩ : ∃ w14, ((((((((((((w12.setCell ⟨w.heap.size, 0, none⟩ (.string c.tag)).setCell ⟨w.heap.size, 1, none⟩ (.string c.name)).setCell ⟨w.heap.size, 2, none⟩ (.bool c.uid)).setCell ⟨w.heap.size, 3, none⟩ (.slice c.aA c.aN c.aC)).setCell ⟨w.heap.size, 4, none⟩ (.slice c.sA c.sN c.sC)).setCell ⟨w.heap.size, 5, none⟩ (.int .i64 c.how)).setCell ⟨w.heap.size, 6, none⟩ (.int .i64 c.flags)).setCell ⟨w.heap.size, 7, none⟩ (.bool c.silent)).setCell ⟨w.heap.size, 8, none⟩ (.int .i64 c.date)).setCell ⟨w.heap.size, 9, none⟩ (.string c.body)).setCell ⟨w.heap.size, 10, none⟩ (.slice c.iA c.iN c.iC)).setCell ⟨w.heap.size, 11, none⟩ (.slice c.kA c.kN c.kC)) = w14 := ⟨_, rfl⟩
  have hw14' : put12 w12 w.heap.size c = w14 := hw14
  have hg14 : w12.grownBy w14 (some w.heap.size) := by rw [← hw14']; exact put12_grown _ _ _
  have hc14 : w14.heap[w.heap.size]? = some c.obj := by rw [← hw14']; exact put12_heap HC12.out c
  have he14 := (hg14.block _ (Array.getElem?_eq_some_iff.1 herr).1 (fun e => by have := Option.some.inj e; omega)).trans herr
  obtain ⟨r0, r1⟩ := one_cells he14
  obtain ⟨⟨p0, p1, p2, p3, p4, p5, p6, p7, p8, p9, p10, p11⟩, pf⟩ := CmdV.cell hc14
  go_wp2_with fail
  refine leaves_cons (f := 25) (args := #[.pointer (some ⟨w.heap.size, 0, none⟩), .pointer (some ⟨w.heap.size + 1, 0, none⟩)]) (by simp) (by simp [go_sem]) ?_
  refine (parse_idle ⟨w.heap.size, 0, none⟩ ⟨w.heap.size + 1, 0, none⟩ _).mono ?_
  rintro e u' w'' ⟨rfl, rfl, rfl⟩
  have hlt14 := (Array.getElem?_eq_some_iff.1 he14).1
  have hB12 : Below w.heap.size w w12 := ⟨HR12.out.os.trans HP11.out.below.os, HR12.out.tape.trans HP11.out.below.tape, HR12.out.output.trans HP11.out.below.output, Nat.le_trans HP11.out.below.size HR12.out.size, fun i hi => (HR12.out.block i (Nat.lt_of_lt_of_le hi HP11.out.below.size) (by omega) (by omega)).trans (HP11.out.below.block i hi)⟩
  have hB14 : Below w.heap.size w w14 := hB12.grown hg14 hB12.size (fun k e => by rw [← Option.some.inj e]; exact Nat.le_refl _)
  have x0 := (one_cells ((setCell_heap_same (i := 0) (v := .nilIface) he14).trans rfl)).1
  refine ⟨.tuple #[.agg c.cells, .nilIface], ?_, hB14.setCell (by dsimp only; omega) _, c, w11, w12, rfl, HQ12.out, ?_⟩
  · simp [results, Tryz.results12, go_sem, p0, p1, p2, p3, p4, p5, p6, p7, p8, p9, p10, p11, x0]
  · exact (R2.of hg14).trans (.ofC (grown_put _ _ _ _))
end Go.Proofs.YtgmfhldfdnnafaaGreatDoor
namespace Go.Proofs.YtgmfhldfdnnafaaGreatDoor
open Go.RowKit
open Pl (Bs)
set_option linter.unusedSimpArgs false
set_option linter.unusedVariables false
def uidN : List Bs := [[67, 79, 80, 89], [83, 84, 79, 82, 69], [70, 69, 84, 67, 72], [83, 69, 65, 82, 67, 72]]
set_option maxHeartbeats 8000000 in
set_option maxRecDepth 100000 in
theorem parse_uid (G : Glob) (s tg s1 s2 n0 s3 s4 n1 s5 : Bs) (hs : s.length ≤ 1000000) (h1 : wordB [] s = some (tg, s1)) (ht : tagB tg = true) (h2 : isB [32] s1 = some s2) (h3 : wordB [] s2 = some (n0, s3)) (hn : largeL n0 = [85, 73, 68]) (h4 : isB [32] s3 = some s4) (h5 : wordB [] s4 = some (n1, s5)) (hc : uidN.contains (largeL n1) = true) (w : World) (hE0 : 20 ≤ w.heap.size) (hE : ∀ W, Below w.heap.size w W → w.heap.size + 1 + 1 < W.heap.size → EnvI G W (w.heap.size + 1 + 1)) (Q : World → CmdV → World → Prop) (hrest : RestCon G (w.heap.size + 1 + 1) w.heap.size (cmd0 tg (largeL n1) true) s5 Q) :
    Calls Tryz.prog 12 #[.string (str s)] w fun e w' => Below w.heap.size w w' ∧ ∃ c W0 W, e = .returned (.tuple #[.agg c.cells, .nilIface]) ∧ Q W0 c W ∧ R2 w.heap.size (w.heap.size + 1) W w' := by
  have hmf : ∀ (fn : Fn) (first cap : Array Value) (w : World), (Instr.makeFunc fn first cap).run Tryz.prog w = .ok (.func fn first cap) w := fun _ _ _ _ => rfl
  have HE := Lib.hid hE
  have HRest := Lib.hid hrest
  have hw1 := wordB_len h1
  have hi2 := isB_len h2
  have hw3 := wordB_len h3
  simp only [List.length_singleton] at hi2
  have K1 : Hid (∀ W k, Scn W (w.heap.size + 1 + 1) s k → Calls Tryz.prog 26 #[scP (w.heap.size + 1 + 1), .string ⟨#[]⟩] W _) := Lib.hid (fun W k hW => word_ok (w.heap.size + 1 + 1) [] s tg s1 k h1 W hW)
  have K2 := Lib.hid (fun W => tag_walk tg (by omega) W)
  rw [ht] at K2
  have K3 := Lib.hid (fun W k hW => blank_ok (w.heap.size + 1 + 1) s1 s2 k h2 W hW)
  have K4 : Hid (∀ W k, Scn W (w.heap.size + 1 + 1) s2 k → Calls Tryz.prog 26 #[scP (w.heap.size + 1 + 1), .string ⟨#[]⟩] W _) := Lib.hid (fun W k hW => word_ok (w.heap.size + 1 + 1) [] s2 n0 s3 k h3 W hW)
  have K5 := Lib.hid (fun W => large_walk21 n0 (by omega) W)
  have hi4 := isB_len h4
  have hw5 := wordB_len h5
  simp only [List.length_singleton] at hi4
  have K6 := Lib.hid (fun W k hW => blank_ok (w.heap.size + 1 + 1) s3 s4 k h4 W hW)
  have K7 : Hid (∀ W k, Scn W (w.heap.size + 1 + 1) s4 k → Calls Tryz.prog 26 #[scP (w.heap.size + 1 + 1), .string ⟨#[]⟩] W _) := Lib.hid (fun W k hW => word_ok (w.heap.size + 1 + 1) [] s4 n1 s5 k h5 W hW)
  have K8 := Lib.hid (fun W => large_walk21 n1 (by omega) W)
  have HC := Lib.hid hc
  have K5b : Hid (∀ W, Calls Tryz.prog 29 #[.string (str n0)] W fun e w' => e = .returned (.string ⟨#[85, 73, 68]⟩) ∧ Below W.heap.size W w') := Lib.hid (fun W => by have K := K5.out W; rw [hn] at K; exact K)
  clear hE hrest h1 ht h2 h3 h4 h5 hc hn K5
  generalize hN1 : largeL n1 = N1 at *
  go_enter_defers Tryz.func12, Tryz.ntmps12
  have HP0 := Lib.hid (PsSt.start (w := w) hs)
  go_wp2_with fail
  refine (K1.out _ 0 HP0.out.sc).mono ?_
  rintro e w4 ⟨rfl, hS4, hG4⟩
  have HP4 := Lib.hid (HP0.out.step hG4 hS4)
  have HP5 := Lib.hid (HP4.out.put ⟨str tg, ⟨#[]⟩, false, none, 0, 0, none, 0, 0, 0, 0, false, -1, ⟨#[]⟩, none, 0, 0, none, 0, 0⟩)
  obtain ⟨⟨a0, a1, a2, a3, a4, a5, a6, a7, a8, a9, a10, a11⟩, af⟩ := CmdV.cell HP4.out.cmd
  obtain ⟨w5, hw5⟩ : ∃ w5, ((((((((((((w4.setCell ⟨w.heap.size, 0, none⟩ (.string (str tg))).setCell ⟨w.heap.size, 1, none⟩ (.string ⟨#[]⟩)).setCell ⟨w.heap.size, 2, none⟩ (.bool false)).setCell ⟨w.heap.size, 3, none⟩ (.slice none 0 0)).setCell ⟨w.heap.size, 4, none⟩ (.slice none 0 0)).setCell ⟨w.heap.size, 5, none⟩ (.int .i64 0)).setCell ⟨w.heap.size, 6, none⟩ (.int .i64 0)).setCell ⟨w.heap.size, 7, none⟩ (.bool false)).setCell ⟨w.heap.size, 8, none⟩ (.int .i64 (-1))).setCell ⟨w.heap.size, 9, none⟩ (.string ⟨#[]⟩)).setCell ⟨w.heap.size, 10, none⟩ (.slice none 0 0)).setCell ⟨w.heap.size, 11, none⟩ (.slice none 0 0)) = w5 := ⟨_, rfl⟩
  have HPw5 : Hid (PsSt w s1 0 ⟨str tg, ⟨#[]⟩, false, none, 0, 0, none, 0, 0, 0, 0, false, -1, ⟨#[]⟩, none, 0, 0, none, 0, 0⟩ w5) := Lib.hid (by rw [← hw5]; exact HP5.out)
  obtain ⟨⟨b0, b1, b2, b3, b4, b5, b6, b7, b8, b9, b10, b11⟩, bf⟩ := CmdV.cell HPw5.out.cmd
  clear hS4 hG4 HP5
  go_wp2_with fail
  clear a0 a1 a2 a3 a4 a5 a6 a7 a8 a9 a10 a11 af hw5
  refine (K2.out _).mono ?_
  rintro e w6 ⟨rfl, hB6⟩
  have HP6 := Lib.hid (HPw5.out.then hB6)
  clear hB6
  go_wp2_with fail
  refine (must_walk _ _).mono ?_
  rintro e w7 ⟨rfl, rfl⟩
  go_wp2_with fail
  refine (K3.out _ 0 HP6.out.sc).mono ?_
  rintro e w8 ⟨rfl, hS8, hG8⟩
  have HP8 := Lib.hid (HP6.out.step hG8 hS8)
  clear hS8 hG8
  go_wp2_with fail
  refine (K4.out _ 0 HP8.out.sc).mono ?_
  rintro e w9 ⟨rfl, hS9, hG9⟩
  have HP9 := Lib.hid (HP8.out.step hG9 hS9)
  clear hS9 hG9
  go_wp2_with fail
  refine (K5b.out _).mono ?_
  rintro e w10 ⟨rfl, hB10⟩
  have HP10 := Lib.hid (HP9.out.then hB10)
  have HP11 : Hid (PsSt w s3 0 (cmd0 tg [85, 73, 68] false) (w10.setCell ⟨w.heap.size, 1, none⟩ (.string ⟨#[85, 73, 68]⟩))) := Lib.hid (HP10.out.set 1 _ rfl)
  clear hB10 b0 b1 b2 b3 b4 b5 b6 b7 b8 b9 b10 b11 bf
  obtain ⟨⟨a0, a1, a2, a3, a4, a5, a6, a7, a8, a9, a10, a11⟩, af⟩ := CmdV.cell HP10.out.cmd
  obtain ⟨w11, hw11⟩ : ∃ w11, w10.setCell ⟨w.heap.size, 1, none⟩ (.string ⟨#[85, 73, 68]⟩) = w11 := ⟨_, rfl⟩
  rw [hw11] at HP11
  have b1' : w11.cell? ⟨w.heap.size, 1, none⟩ = some (.string ⟨#[85, 73, 68]⟩) := (CmdV.cell HP11.out.cmd).1.2.1
  go_wp2_with fail
  clear a0 a1 a2 a3 a4 a5 a6 a7 a8 a9 a10 a11 af b1' hw11
  refine (K6.out _ 0 HP11.out.sc).mono ?_
  rintro e w20 ⟨rfl, hS20, hG20⟩
  have HP20 := Lib.hid (HP11.out.step hG20 hS20)
  clear hS20 hG20
  go_wp2_with fail
  refine (K7.out _ 0 HP20.out.sc).mono ?_
  rintro e w21 ⟨rfl, hS21, hG21⟩
  have HP21 := Lib.hid (HP20.out.step hG21 hS21)
  clear hS21 hG21
  go_wp2_with fail
  refine (K8.out _).mono ?_
  rintro e w22 ⟨rfl, hB22⟩
  have HP22 := Lib.hid (HP21.out.then hB22)
  have HP23 : Hid (PsSt w s5 0 (cmd0 tg N1 true) ((w22.setCell ⟨w.heap.size, 2, none⟩ (.bool true)).setCell ⟨w.heap.size, 1, none⟩ (.string (str N1)))) := Lib.hid ((HP22.out.set (c1 := ⟨str tg, ⟨#[85, 73, 68]⟩, true, none, 0, 0, none, 0, 0, 0, 0, false, -1, ⟨#[]⟩, none, 0, 0, none, 0, 0⟩) 2 (.bool true) rfl).set 1 _ rfl)
  clear hB22
  have a1 : w22.cell? ⟨w.heap.size, 1, none⟩ = some (.string ⟨#[85, 73, 68]⟩) := (CmdV.cell HP22.out.cmd).1.2.1
  have a2 : w22.cell? ⟨w.heap.size, 2, none⟩ = some (.bool false) := (CmdV.cell HP22.out.cmd).1.2.2.1
  have af := (CmdV.cell HP22.out.cmd).2
  obtain ⟨w23, hw23⟩ : ∃ w23, (w22.setCell ⟨w.heap.size, 2, none⟩ (.bool true)).setCell ⟨w.heap.size, 1, none⟩ (.string (str N1)) = w23 := ⟨_, rfl⟩
  rw [hw23] at HP23
  have b1' : w23.cell? ⟨w.heap.size, 1, none⟩ = some (.string (str N1)) := (CmdV.cell HP23.out.cmd).1.2.1
  have hl23 := (Array.getElem?_eq_some_iff.1 HP23.out.cmd).1
  go_wp2_with fail
  refine (contains_lit _ _ uidN N1 _ (by decide) (fun j hj => ?lits)).mono ?_
  case lits => exact lit_cells _ uidN 9 j hj (by simp)
  rintro e w24 ⟨rfl, hw24⟩
  rw [HC.out]
  have hp24 : PsSt w s5 0 (cmd0 tg N1 true) w24 := by rw [hw24]; exact HP23.out.then ((Below.refl _ _).alloc (Nat.le_refl _) _)
  have HP24 := Lib.hid hp24
  clear hw24 hp24 a1 a2 af b1' hw23
  go_wp2_with fail
  refine (must_walk _ _).mono ?_
  rintro e w25 ⟨rfl, rfl⟩
  have HKr := Lib.hid (HRest.out w24 HP24.out.cmd (HE.out w24 HP24.out.below (by have := HP24.out.sc.lt; omega)) HP24.out.sc)
  go_wp2_with fail
  refine HKr.out.mono ?_
  rintro e w12 ⟨rfl, hR12, c, kk, hS12, hC12, hQ12⟩
  have HQ12 := Lib.hid hQ12
  have HC12 := Lib.hid hC12
  have HR12 := Lib.hid hR12
  obtain ⟨d0, d1, _, _⟩ := hS12.cells
  have hse : str [] = ⟨#[]⟩ := rfl
  rw [hse] at d0
  clear hse hR12 hC12 hQ12 hS12
  go_wp2_with fail
  refine (must_walk _ _).mono ?_
  rintro e w13 ⟨rfl, rfl⟩
  have herr : w12.heap[w.heap.size + 1]? = some (Obj.cells #[.nilIface] 35) := (HR12.out.block _ (Array.getElem?_eq_some_iff.1 HP24.out.err).1 (by omega) (by omega)).trans HP24.out.err
  obtain ⟨⟨a0, a1, a2, a3, a4, a5, a6, a7, a8, a9, a10, a11⟩, af⟩ := CmdV.cell HC12.out
  obtain ⟨q0, q1⟩ := one_cells herr
  obtain ⟨w14, hw14⟩ : ∃ w14, ((((((((((((w12.setCell ⟨w.heap.size, 0, none⟩ (.string c.tag)).setCell ⟨w.heap.size, 1, none⟩ (.string c.name)).setCell ⟨w.heap.size, 2, none⟩ (.bool c.uid)).setCell ⟨w.heap.size, 3, none⟩ (.slice c.aA c.aN c.aC)).setCell ⟨w.heap.size, 4, none⟩ (.slice c.sA c.sN c.sC)).setCell ⟨w.heap.size, 5, none⟩ (.int .i64 c.how)).setCell ⟨w.heap.size, 6, none⟩ (.int .i64 c.flags)).setCell ⟨w.heap.size, 7, none⟩ (.bool c.silent)).setCell ⟨w.heap.size, 8, none⟩ (.int .i64 c.date)).setCell ⟨w.heap.size, 9, none⟩ (.string c.body)).setCell ⟨w.heap.size, 10, none⟩ (.slice c.iA c.iN c.iC)).setCell ⟨w.heap.size, 11, none⟩ (.slice c.kA c.kN c.kC)) = w14 := ⟨_, rfl⟩
  have hw14' : put12 w12 w.heap.size c = w14 := hw14
  have hg14 : w12.grownBy w14 (some w.heap.size) := by rw [← hw14']; exact put12_grown _ _ _
  have hc14 : w14.heap[w.heap.size]? = some c.obj := by rw [← hw14']; exact put12_heap HC12.out c
  have he14 := (hg14.block _ (Array.getElem?_eq_some_iff.1 herr).1 (fun e => by have := Option.some.inj e; omega)).trans herr
  obtain ⟨r0, r1⟩ := one_cells he14
  obtain ⟨⟨p0, p1, p2, p3, p4, p5, p6, p7, p8, p9, p10, p11⟩, pf⟩ := CmdV.cell hc14
  go_wp2_with fail
  refine leaves_cons (f := 25) (args := #[.pointer (some ⟨w.heap.size, 0, none⟩), .pointer (some ⟨w.heap.size + 1, 0, none⟩)]) (by simp) (by simp [go_sem]) ?_
  refine (parse_idle ⟨w.heap.size, 0, none⟩ ⟨w.heap.size + 1, 0, none⟩ _).mono ?_
  rintro e u' w'' ⟨rfl, rfl, rfl⟩
  have hlt14 := (Array.getElem?_eq_some_iff.1 he14).1
  have hB12 : Below w.heap.size w w12 := ⟨HR12.out.os.trans HP24.out.below.os, HR12.out.tape.trans HP24.out.below.tape, HR12.out.output.trans HP24.out.below.output, Nat.le_trans HP24.out.below.size HR12.out.size, fun i hi => (HR12.out.block i (Nat.lt_of_lt_of_le hi HP24.out.below.size) (by omega) (by omega)).trans (HP24.out.below.block i hi)⟩
  have hB14 : Below w.heap.size w w14 := hB12.grown hg14 hB12.size (fun k e => by rw [← Option.some.inj e]; exact Nat.le_refl _)
  have x0 := (one_cells ((setCell_heap_same (i := 0) (v := .nilIface) he14).trans rfl)).1
  refine ⟨.tuple #[.agg c.cells, .nilIface], ?_, hB14.setCell (by dsimp only; omega) _, c, w24, w12, rfl, HQ12.out, ?_⟩
  · simp [results, Tryz.results12, go_sem, p0, p1, p2, p3, p4, p5, p6, p7, p8, p9, p10, p11, x0]
  · exact (R2.of hg14).trans (.ofC (grown_put _ _ _ _))
end Go.Proofs.YtgmfhldfdnnafaaGreatDoor
namespace Go.Proofs.YtgmfhldfdnnafaaGreatDoor
open Go.RowKit
open Pl (Bs idxB numOk numN setOk setL)
attribute [local go_sem ↓] Go.wp_at_zero Go.wp_at_succ
set_option linter.unusedSimpArgs false
set_option linter.unusedVariables false
/-- the set and the items are these -/
def FetchQ (w : World) (cs : Array Value) : World → List (Int × Int) × List ItemP → Array Value → Prop := fun w' p cs' => ∃ A c A2 c2 ics, cs' = (cs.setIfInBounds 4 (.slice A p.1.length c)).setIfInBounds 10 (.slice A2 p.2.length c2) ∧ RowC w' (newT w w') (.slice A p.1.length c) p.1.length (flat p.1) ∧ RowC w' (newT w w') (.slice A2 p.2.length c2) p.2.length ics ∧ ItemsC w' (newT w w') p.2 ics
theorem RsSt.fin2 {α : Type} {w W : World} {B C k : Nat} {s : Bs} {cs : Array Value} (st : RsSt w B C s k cs W) {Q : World → α → Array Value → Prop} {x : α} (hQ : Q W x cs) : RestPost w B C Q (some (x, s, k)) (.returned (.tuple #[])) W := st.fin rfl hQ
set_option maxHeartbeats 8000000 in
set_option maxRecDepth 100000 in
theorem rest_fetch (G : Glob) (B C k : Nat) (sec : Bs → Option SpecP) (hsec : SecCon G sec) (s s1 s2 s3 r0 r : Bs) (l : List (Int × Int)) (its : List ItemP) (kk : Nat) (hb1 : isB [32] s = some s1) (hset : setB s1 = some (l, s2)) (hb2 : isB [32] s2 = some s3) (hp : isB [40] s3 = some r0) (hit : listR (itemR sec) s3 k = some (its, r, kk)) (cs : Array Value) (v4 v10 : Value) (h1 : cs[1]? = some (.string ⟨#[70, 69, 84, 67, 72]⟩)) (h4 : cs[4]? = some v4) (h10 : cs[10]? = some v10) (hne : B ≠ C) (hC20 : 20 ≤ C) (w : World) (hC : w.heap[C]? = some (Obj.cells cs 33)) (hE : EnvI G w B) (h : Scn w B s k) :
    Calls Tryz.prog 31 #[scP B, cmP C] w (RestPost w B C (FetchQ w cs) (some ((l, its), r, kk))) := by
  have HST := Lib.hid (RsSt.start h hC hne)
  have HE := Lib.hid hE
  have K1 := Lib.hid (fun W hW => blank_ok B s s1 k hb1 W hW)
  have K2 : Hid (∀ W, EnvI G W B → Scn W B s1 k → Calls Tryz.prog 75 #[scP B] W _) := Lib.hid (fun W hE hS => rset_walk G B k s1 W hE hS)
  have K3 := Lib.hid (fun W hW => blank_ok B s2 s3 k hb2 W hW)
  have K4 : Hid (∀ W, EnvI G W B → Scn W B s3 k → Calls Tryz.prog 77 #[scP B] W _) := Lib.hid (fun W hE hS => items_list G B k sec hsec s3 r0 hp W hE hS)
  rw [hset] at K2
  rw [hit] at K4
  obtain ⟨c1, _⟩ := HST.out.cell h1
  have H4 := Lib.hid h4
  have H10 := Lib.hid (show (cs.setIfInBounds 4 v4)[10]? = some v10 by simpa using h10)
  have HI10 := Lib.hid (fun v => show (cs.setIfInBounds 4 v)[10]? = some v10 by simpa using h10)
  obtain ⟨hl1, hl2, hl3⟩ := HST.out.lt
  clear h1 h4 h10 hE h hb1 hset hb2 hp hit hsec
  go_enter Tryz.func31, Tryz.ntmps31
  go_wp2_with fail
  generalize ((w.alloc (Obj.cells #[scP B] 62)).alloc (Obj.cells #[cmP C] 68)) = w2 at *
  clear c1
  refine (K1.out _ HST.out.sc).mono ?_
  rintro e w3 ⟨rfl, hS3, hG3⟩
  have HS3 := Lib.hid (HST.out.step hG3 hS3)
  have HS3D := Lib.hid HS3.out.draw
  have HS0 := Lib.hid HS3D.out.keep
  clear hS3 hG3
  go_wp2_with fail
  go_region_held3 (fun W => W.cell? ⟨w.heap.size, 0, none⟩ = some (scP B) ∧ W.cell? ⟨w.heap.size + 1, 0, none⟩ = some (cmP C))
    (first | exact HS0.out | exact HS4.out.keep | exact (HS4.out.setC 4 _).keep)
    (first
      | (go_at_call 75; refine (K2.out _ (HE.out.kept2 HS3D.out.gr hC20) HS3D.out.sc).mono ?_; rintro e w4 ⟨hG4, u, rfl, hO4, hS4⟩; obtain ⟨A, c, hu, hrow⟩ := rowC_own hO4; subst hu; have HS4 := Lib.hid (HS3D.out.step hG4 hS4); obtain ⟨c4, f4⟩ := HS4.out.cell H4.out; have HR4 := Lib.hid (rowC_own hO4); clear hG4 hO4 hS4 hrow))
  have hz3 := HS3D.out.gr.size
  have HS5 := Lib.hid (HS4.out.setC 4 (.slice A l.length c))
  have HR5 : Hid (RowC (w4.setCell ⟨C, 4, none⟩ (.slice A l.length c)) (fun i => w.heap.size + 2 ≤ i ∧ i < (w4.setCell ⟨C, 4, none⟩ (.slice A l.length c)).heap.size) (.slice A l.length c) l.length (flat l)) := Lib.hid ((HR4.out.kept (fun i hi => Below.heap_setCell _ _ _ _ (by have := hi.1; dsimp only; omega))).more (fun i hi => ⟨by have := (Array.getElem?_eq_some_iff.1 HS3D.out.bc).1; have := hi.1; omega, by have := hi.2; simpa using this⟩))
  have e0 := (one_cells HS5.out.bx).1
  have e1 := (one_cells HS5.out.bc).1
  generalize w4.setCell ⟨C, 4, none⟩ (.slice A l.length c) = w5 at *
  go_wp2_with fail
  refine (K3.out _ HS5.out.sc).mono ?_
  rintro e w6 ⟨rfl, hS6, hG6⟩
  have HS6 := Lib.hid (HS5.out.step hG6 hS6)
  have HS6D := Lib.hid HS6.out.draw
  have HR6 : Hid (RowC w6.drew (fun i => w.heap.size + 2 ≤ i ∧ i < w5.heap.size) (.slice A l.length c) l.length (flat l)) := Lib.hid (HR5.out.kept (w1 := w6.drew) (fun i hi => hG6.block i hi.2 (fun e => by have := Option.some.inj e; have := hi.1; omega)))
  have hz6 := hG6.size
  have HS60 := Lib.hid HS6D.out.keep
  clear hS6 hG6 e0 e1
  go_wp2_with fail
  go_region_held3 (fun W => W.cell? ⟨w.heap.size, 0, none⟩ = some (scP B) ∧ W.cell? ⟨w.heap.size + 1, 0, none⟩ = some (cmP C))
    (first | exact HS60.out | exact HS7.out.keep | exact (HS7.out.setC 10 _).keep)
    (first
      | (go_at_call 77; refine (K4.out _ (HE.out.kept2 HS6D.out.gr hC20) HS6D.out.sc).mono ?_; rintro e w7 ⟨hG7, A2, c2, ics, rfl, hR7, hI7, hS7⟩; have HS7 := Lib.hid (HS6D.out.step hG7 hS7); obtain ⟨c10, f10⟩ := HS7.out.cell (HI10.out _); have HR7 := Lib.hid hR7; have HI7 := Lib.hid hI7; have HG7 := Lib.hid hG7; clear hG7 hR7 hI7 hS7))
  go_wp2
  go_end0
  have hz7 := HG7.out.size
  have hd : w6.drew.heap.size = w6.heap.size := rfl
  have hz66 := HS6D.out.gr.size
  have hset : ∀ i, i ≠ C → (w7.setCell ⟨C, 10, none⟩ (.slice A2 its.length c2)).heap[i]? = w7.heap[i]? := fun i hi => Below.heap_setCell _ _ _ _ hi
  refine (HS7.out.setC 10 (.slice A2 its.length c2)).fin2 ⟨A, c, A2, c2, ics, rfl, ?_, ?_, ?_⟩
  · refine ((HR6.out.kept (w1 := w7) (fun i hi => HG7.out.block i (by have := hi.2; omega) (fun e => by have := Option.some.inj e; have := hi.1; omega))).kept (fun i hi => hset i (by have := hi.1; omega))).more (fun i hi => ⟨by have := hi.1; omega, by have := hi.2; simp; omega⟩)
  · exact (HR7.out.kept (fun i hi => hset i (by have := hi.1; omega))).more (fun i hi => ⟨by have := hi.1; omega, by have := hi.2; simpa using this⟩)
  · exact (HI7.out.kept (fun i hi => hset i (by have := hi.1; omega))).more (fun i hi => ⟨by have := hi.1; omega, by have := hi.2; simpa using this⟩)
end Go.Proofs.YtgmfhldfdnnafaaGreatDoor
namespace Go.Proofs.YtgmfhldfdnnafaaGreatDoor
open Go.RowKit
open Pl (Bs idxB numOk numN setOk setL)
set_option linter.unusedSimpArgs false
set_option linter.unusedVariables false
inductive KeyP where
  | mk (name text field : Bs) (n : Int) (set : List (Int × Int)) (kids : List KeyP)
def KeyP.name : KeyP → Bs | .mk a _ _ _ _ _ => a
def KeyP.text : KeyP → Bs | .mk _ a _ _ _ _ => a
def KeyP.field : KeyP → Bs | .mk _ _ a _ _ _ => a
def KeyP.n : KeyP → Int | .mk _ _ _ a _ _ => a
def KeyP.set : KeyP → List (Int × Int) | .mk _ _ _ _ a _ => a
def KeyP.kids : KeyP → List KeyP | .mk _ _ _ _ _ a => a
def keyC (vs vk : Value) (x : KeyP) : List Value := [.string (str x.name), .string (str x.text), .string (str x.field), .int .i64 x.n, vs, vk]
inductive KeysC (w : World) (T : Nat → Prop) : List KeyP → List Value → Prop
  | nil : KeysC w T [] []
  | cons {x : KeyP} {vs vk : Value} {kcs : List Value} {l : List KeyP} {cs : List Value} : RowC w T vs x.set.length (flat x.set) → RowC w T vk x.kids.length kcs → KeysC w T x.kids kcs → KeysC w T l cs → KeysC w T (x :: l) (keyC vs vk x ++ cs)
theorem KeysC.kept {w w1 : World} {T : Nat → Prop} {l : List KeyP} {cs : List Value} (h : KeysC w T l cs) (hk : ∀ i, T i → w1.heap[i]? = w.heap[i]?) : KeysC w1 T l cs := by
  induction h with
  | nil => exact .nil
  | cons h1 h2 _ _ ih1 ih2 => exact .cons (h1.kept hk) (h2.kept hk) ih1 ih2
theorem KeysC.more {w : World} {T T' : Nat → Prop} {l : List KeyP} {cs : List Value} (h : KeysC w T l cs) (hk : ∀ i, T i → T' i) : KeysC w T' l cs := by
  induction h with
  | nil => exact .nil
  | cons h1 h2 _ _ ih1 ih2 => exact .cons (h1.more hk) (h2.more hk) ih1 ih2
theorem KeysC.snoc {w : World} {T : Nat → Prop} {l : List KeyP} {cs : List Value} (h : KeysC w T l cs) {x : KeyP} {vs vk : Value} {kcs : List Value} (h1 : RowC w T vs x.set.length (flat x.set)) (h2 : RowC w T vk x.kids.length kcs) (h3 : KeysC w T x.kids kcs) : KeysC w T (l ++ [x]) (cs ++ keyC vs vk x) := by
  induction h with
  | nil => have := KeysC.cons h1 h2 h3 (KeysC.nil (w := w) (T := T)); simpa using this
  | cons g1 g2 g3 _ _ ih => rw [List.cons_append, List.append_assoc]; exact .cons g1 g2 g3 ih
theorem KeysC.len {w : World} {T : Nat → Prop} {l : List KeyP} {cs : List Value} (h : KeysC w T l cs) : cs.length = l.length * 6 := by
  induction h with
  | nil => rfl
  | cons _ _ _ _ _ ih => simp only [List.length_append, List.length_cons, ih]; simp [keyC]; omega
/-- a key in memory, its own cells aside -/
structure KeyAt (w : World) (T : Nat → Prop) (vs vk : Value) (kcs : List Value) (x : KeyP) : Prop where
  set : RowC w T vs x.set.length (flat x.set)
  row : RowC w T vk x.kids.length kcs
  kids : KeysC w T x.kids kcs
theorem KeyAt.kept {w w1 : World} {T : Nat → Prop} {vs vk : Value} {kcs : List Value} {x : KeyP} (h : KeyAt w T vs vk kcs x) (hk : ∀ i, T i → w1.heap[i]? = w.heap[i]?) : KeyAt w1 T vs vk kcs x := ⟨h.set.kept hk, h.row.kept hk, h.kids.kept hk⟩
theorem KeyAt.more {w : World} {T T' : Nat → Prop} {vs vk : Value} {kcs : List Value} {x : KeyP} (h : KeyAt w T vs vk kcs x) (hk : ∀ i, T i → T' i) : KeyAt w T' vs vk kcs x := ⟨h.set.more hk, h.row.more hk, h.kids.more hk⟩
def KeyPost (w : World) (B : Nat) (o : Option (KeyP × Bs × Nat)) (e : Ending) (w' : World) : Prop :=
  w.grownBy w' (some B) ∧ match o with
    | none => e = .panicked [wrongE]
    | some p => ∃ As cs Ak ck kcs, e = .returned (.agg #[.string (str p.1.name), .string (str p.1.text), .string (str p.1.field), .int .i64 p.1.n, .slice As p.1.set.length cs, .slice Ak p.1.kids.length ck]) ∧
        KeyAt w' (newT w w') (.slice As p.1.set.length cs) (.slice Ak p.1.kids.length ck) kcs p.1 ∧ Scn w' B p.2.1 p.2.2
def KeyCon (G : Glob) (B : Nat) (K : Nat → Prop) (sub : Rd KeyP) : Prop :=
  ∀ (s : Bs) (k : Nat) (W : World), (K k ∨ (sub s k).isSome = true) → EnvI G W B → Scn W B s k → Calls Tryz.prog 106 #[scP B] W (KeyPost W B (sub s k))
def kidsR (sub : Rd KeyP) : Nat → Rd (List KeyP)
  | 0, s, k => some ([], s, k)
  | n + 1, s, k => match isB [32] s with
    | none => none
    | some s1 => match sub s1 k with
      | none => none
      | some (x, s2, k2) => (kidsR sub n s2 k2).map fun p => (x :: p.1, p.2)
def KidsPost (w : World) (B : Nat) (o : Option (List KeyP × Bs × Nat)) (e : Ending) (w' : World) : Prop :=
  w.grownBy w' (some B) ∧ match o with
    | none => e = .panicked [wrongE]
    | some p => ∃ A c cs, e = .returned (.slice A p.1.length c) ∧ RowC w' (newT w w') (.slice A p.1.length c) p.1.length cs ∧ KeysC w' (newT w w') p.1 cs ∧ Scn w' B p.2.1 p.2.2
/-- the keys read so far -/
structure KeysSt (w : World) (B : Nat) (acc : List KeyP) (u : Value) (cs : List Value) (T : Nat → Prop) (W : World) : Prop where
  gr : w.grownBy W (some B)
  own : W.ownsRow w.heap.size 51 6 u acc.length cs
  its : KeysC W T acc cs
  fr : ∀ i, T i → w.heap.size ≤ i ∧ i < W.heap.size ∧ u.ownBlock ≠ some i
  old : B < w.heap.size
theorem KeysSt.step {w : World} {B : Nat} {acc : List KeyP} {u : Value} {cs : List Value} {T : Nat → Prop} {W W1 : World} (st : KeysSt w B acc u cs T W) (hG : W.grownBy W1 (some B)) : KeysSt w B acc u cs T W1 := by
  have ho := st.old
  have hz := hG.size
  refine ⟨st.gr.trans hG, own_kept st.own hG ho, st.its.kept (fun i hi => ?_), fun i hi => ?_, ho⟩
  · have := st.fr i hi; exact hG.block i this.2.1 (fun e => by have := Option.some.inj e; omega)
  · have := st.fr i hi; exact ⟨this.1, by omega, this.2.2⟩
theorem KeysSt.app {w : World} {B : Nat} {acc : List KeyP} {u : Value} {cs : List Value} {T : Nat → Prop} {W0 W1 W9 : World} {o : Obj} {x : KeyP} {vs vk : Value} {kcs : List Value} {g cap : Nat}
    (st : KeysSt w B acc u cs T W1) (h0 : ∀ k, u.ownBlock = some k → k < W0.heap.size) (hb0 : w.heap.size ≤ W0.heap.size) (hP : KeyAt W1 (newT W0 W1) vs vk kcs x)
    (hown : W9.ownsRow w.heap.size 51 6 (.slice (some ⟨g, 0, none⟩) (acc.length + 1) cap) (acc.length + 1) (cs ++ keyC vs vk x)) (hgr : (W1.alloc o).grownBy W9 u.ownBlock) (hat : u.ownBlock = some g ∨ g = W1.heap.size + 1) :
    KeysSt w B (acc ++ [x]) (.slice (some ⟨g, 0, none⟩) (acc.length + 1) cap) (cs ++ keyC vs vk x) (fun i => T i ∨ newT W0 W1 i) W9 := by
  have ho := st.old
  have hz := hgr.size
  simp at hz
  have hu : ∀ k, u.ownBlock = some k → w.heap.size ≤ k := fun k e => (st.own.lt k e).1
  have hbl : ∀ i, i < W1.heap.size → u.ownBlock ≠ some i → W9.heap[i]? = W1.heap[i]? := fun i hi hne => (hgr.block i (by simp; omega) (fun e => hne e.symm)).trans (Below.heap_alloc _ _ _ hi)
  have hall : ∀ i, (T i ∨ newT W0 W1 i) → w.heap.size ≤ i ∧ i < W1.heap.size ∧ u.ownBlock ≠ some i := fun i hi => by
    rcases hi with hi | hi
    · exact st.fr i hi
    · exact ⟨Nat.le_trans hb0 hi.1, hi.2, fun e => by have := h0 i e; have := hi.1; omega⟩
  refine ⟨?_, ?_, ?_, fun i hi => ?_, ho⟩
  · exact grown_new (grown_new st.gr (World.grownBy_alloc W1 o none) (fun k e => by cases e)) hgr (fun k e => .inl (hu k e))
  · rw [List.length_append]; exact hown
  · refine KeysC.kept (w := W1) (KeysC.snoc (st.its.more (fun i hi => .inl hi)) (hP.set.more (fun i hi => .inr hi)) (hP.row.more (fun i hi => .inr hi)) (hP.kids.more (fun i hi => .inr hi))) (fun i hi => ?_)
    have := hall i hi
    exact hbl i this.2.1 this.2.2
  · have := hall i hi
    refine ⟨this.1, by omega, fun e => ?_⟩
    have e' : g = i := by simpa [Value.ownBlock] using e
    rcases hat with h | h
    · exact this.2.2 (by rw [h, e'])
    · omega
structure KidSt (sub : Rd KeyP) (n : Nat) (s : Bs) (k : Nat) (acc : List KeyP) (sj : Bs) (kj : Nat) : Prop where
  le : acc.length ≤ n
  kle : k ≤ kj
  spec : kidsR sub n s k = (kidsR sub (n - acc.length) sj kj).map fun p => (acc ++ p.1, p.2)
theorem infoKey : (Tryz.prog.info? 51).map (fun i => (i.zero, i.size, i.bytes)) = some (some (.agg #[.string ⟨#[]⟩, .string ⟨#[]⟩, .string ⟨#[]⟩, .int .i64 0, .slice none 0 0, .slice none 0 0]), 6, 104) := by kernel_rfl
set_option maxHeartbeats 4000000 in
set_option maxRecDepth 100000 in
theorem kids_walk (G : Glob) (B k n : Nat) (hn : n ≤ 1000) (K : Nat → Prop) (hK : ∀ a b, K a → a ≤ b → K b) (sub : Rd KeyP) (hsub : KeyCon G B K sub) (hmono : ∀ s k p, sub s k = some p → k ≤ p.2.2) (s : Bs) (hv : K k ∨ (kidsR sub n s k).isSome = true) (w : World) (hE : EnvI G w B) (hS : Scn w B s k) :
    Calls Tryz.prog 136 #[scP B, .int .i64 n] w (KidsPost w B (kidsR sub n s k)) := by
  obtain ⟨i0, hi, hz0, hz1, hz2⟩ := info_parts infoKey
  have hBl := hS.lt
  have HS0 := Lib.hid hS
  have HE := Lib.hid hE
  have HSub := Lib.hid hsub
  have HMono := Lib.hid hmono
  have HV := Lib.hid hv
  have HK := Lib.hid hK
  clear hS hE hsub hmono hv hK
  go_enter Tryz.func136, Tryz.ntmps136
  go_wp2
  go_loopw [5, 7] (fun u i wr => ∃ (acc : List KeyP) (sj : Bs) (kj : Nat) (cs : List Value) (T : Nat → Prop), i = .int .i64 acc.length ∧ Hid (KidSt sub n s k acc sj kj) ∧ Hid (KeysSt w B acc u cs T wr) ∧ Hid (Scn wr B sj kj)) (fun _ i _ => n - (intOf i).toNat)
  case atStart => exact ⟨[], s, k, [], fun _ => False, rfl, Lib.hid ⟨Nat.zero_le _, Nat.le_refl _, by simp⟩, Lib.hid ⟨grown_refl w _, World.ownsRow_nil _ _ _ _, .nil, fun i h => h.elim, hBl⟩, HS0⟩
  case round =>
    obtain ⟨acc, sj, kj, cs, T, rfl, HQ, HO, HS⟩ := hrel
    have hj := HQ.out.le
    by_cases hjn : acc.length < n
    · obtain ⟨r, hr⟩ : ∃ r, n - acc.length = r + 1 := ⟨n - acc.length - 1, by omega⟩
      have hsp := HQ.out.spec
      rw [hr] at hsp
      cases h1 : isB [32] sj with
      | none =>
        have HB := Lib.hid (show kidsR sub n s k = none by rw [hsp, kidsR, h1]; rfl)
        have K1 := Lib.hid (fun W hW => blank_no B sj kj h1 W hW)
        clear hsp h1
        go_wp2_with fail
        refine (K1.out _ HS.out).mono ?_
        rintro e w1 ⟨rfl, hG1⟩
        exact ⟨rfl, HO.out.gr.trans hG1, by rw [HB.out]⟩
      | some s1 =>
        have K1 := Lib.hid (fun W hW => blank_ok B sj s1 kj h1 W hW)
        have hvj : K kj ∨ (sub s1 kj).isSome = true := by
          rcases HV.out with h | h
          · exact .inl (HK.out _ _ h HQ.out.kle)
          · right
            rw [hsp, kidsR, h1] at h
            cases hq : sub s1 kj with
            | none => simp only [hq] at h; cases h
            | some q => rfl
        have K2 := Lib.hid (fun W hE hW => HSub.out s1 kj W hvj hE hW)
        cases h2 : sub s1 kj with
        | none =>
          have HB := Lib.hid (show kidsR sub n s k = none by rw [hsp, kidsR, h1]; simp only [h2]; rfl)
          rw [h2] at K2
          clear hsp h1 h2 hvj
          go_wp2_with fail
          refine (K1.out _ HS.out).mono ?_
          rintro e w1 ⟨rfl, hS1, hG1⟩
          have HS1 := Lib.hid hS1
          have HG1 := Lib.hid (HO.out.gr.trans hG1)
          have HE1 := Lib.hid (HE.out.kept HG1.out)
          clear hS1 hG1
          go_wp2_with fail
          refine (K2.out _ HE1.out HS1.out).mono ?_
          rintro e w2 ⟨hG2, rfl⟩
          exact ⟨rfl, HG1.out.trans hG2, by rw [HB.out]⟩
        | some p =>
          obtain ⟨x, s2, k2⟩ := p
          have HN : Hid (KidSt sub n s k (acc ++ [x]) s2 k2) := Lib.hid ⟨by simp; omega, Nat.le_trans HQ.out.kle (HMono.out _ _ _ h2), by
            rw [hsp, kidsR, h1]
            simp only [h2]
            rw [Option.map_map, List.length_append, List.length_singleton, show n - (acc.length + 1) = r by omega]
            congr 1
            funext z
            simp⟩
          have HLn := Lib.hid (show (acc ++ [x]).length = acc.length + 1 by simp)
          rw [h2] at K2
          clear hsp h1 h2 hvj
          go_wp2_with fail
          refine (K1.out _ HS.out).mono ?_
          rintro e w1 ⟨rfl, hS1, hG1⟩
          have HS1 := Lib.hid hS1
          have HO1 := Lib.hid (HO.out.step hG1)
          have HE1 := Lib.hid (HE.out.kept HO1.out.gr)
          clear hS1 hG1
          go_wp2_with fail
          refine (K2.out _ HE1.out HS1.out).mono ?_
          rintro e w2 ⟨hG2, As, cs2, Ak, ck, kcs, rfl, hP, hS2⟩
          have HS2 := Lib.hid hS2
          have HP2 := Lib.hid hP
          have HO2 := Lib.hid (HO1.out.step hG2)
          have zw2 := HO2.out.gr.size
          have HW1 := Lib.hid (show (∀ k, u5.ownBlock = some k → k < w1.heap.size) ∧ w.heap.size ≤ w1.heap.size from ⟨fun k e => (HO1.out.own.lt k e).2, HO1.out.gr.size⟩)
          clear hS2 hG2 hP
          go_wp2_with (at_builtin; refine wpList_append_lies _ (by rfl) _ _ _ (by rfl) w.heap.size 51 i0 (.agg #[.string ⟨#[]⟩, .string ⟨#[]⟩, .string ⟨#[]⟩, .int .i64 0, .slice none 0 0, .slice none 0 0]) 6 104 Tryz.underlying31 hi hz0 hz1 hz2 (by rfl) (by decide) u5 acc.length cs (by rfl) (HO2.out.own.alloc _) ⟨w2.heap.size, 0, none⟩ 1 1 (keyC (.slice As x.set.length cs2) (.slice Ak x.kids.length ck) x) (by rfl) (by rfl) (World.news_of_block (World.alloc_heap_new w2 _)) (by simp [keyC, Value.oneCell']) (by decide) (by unfold maxLen; omega) (by omega) (by simp; omega) (w2.heap.size + 1) (by simp) ?_)
          intro g cap w9 hown hgr hat hlt
          have HO9 := Lib.hid (HO2.out.app HW1.out.1 HW1.out.2 HP2.out hown hgr hat)
          have HS9 := Lib.hid ((HS2.out.then ((Below.refl _ _).alloc (Nat.le_refl _) _)).kept hgr (fun e => by have := (HO2.out.own.lt B e.symm).1; omega))
          clear hown hgr hat hlt
          go_wp2
          go_roundw
          case rel => exact ⟨acc ++ [x], s2, k2, _, _, by rw [HLn.out]; go_num, HN, HO9, HS9⟩
          case measure => simp [intOf]; omega
    · obtain rfl : n = acc.length := by omega
      have HB := Lib.hid (show kidsR sub acc.length s k = some (acc, sj, kj) by rw [HQ.out.spec, Nat.sub_self, kidsR]; simp)
      obtain ⟨A, c, hu, _⟩ := rowC_own HO.out.own
      subst hu
      go_wp2
      go_ret
      exact ⟨HO.out.gr, by rw [HB.out]; exact ⟨A, c, cs, rfl, (rowC_own HO.out.own).more (fun i hi => hi), HO.out.its.more (fun i hi => ⟨(HO.out.fr i hi).1, (HO.out.fr i hi).2.1⟩), HS.out⟩⟩
end Go.Proofs.YtgmfhldfdnnafaaGreatDoor
namespace Go.Proofs.YtgmfhldfdnnafaaGreatDoor
open Go.RowKit
open Pl (Bs idxB numOk numN setOk setL)
attribute [local go_sem ↓] Go.wp_at_zero Go.wp_at_succ
set_option linter.unusedSimpArgs false
set_option linter.unusedVariables false
theorem six_cells {w : World} {b : Nat} {t : TypeId} {a0 a1 a2 a3 a4 a5 : Value} (h : w.heap[b]? = some (Obj.cells #[a0, a1, a2, a3, a4, a5] t)) : (w.cell? ⟨b, 0, none⟩ = some a0 ∧ w.cell? ⟨b, 1, none⟩ = some a1 ∧ w.cell? ⟨b, 2, none⟩ = some a2 ∧ w.cell? ⟨b, 3, none⟩ = some a3 ∧ w.cell? ⟨b, 4, none⟩ = some a4 ∧ w.cell? ⟨b, 5, none⟩ = some a5) ∧ w.frozen? ⟨b, 0, none⟩ = false ∧ w.frozen? ⟨b, 1, none⟩ = false ∧ w.frozen? ⟨b, 2, none⟩ = false ∧ w.frozen? ⟨b, 3, none⟩ = false ∧ w.frozen? ⟨b, 4, none⟩ = false ∧ w.frozen? ⟨b, 5, none⟩ = false := by
  refine ⟨⟨?_, ?_, ?_, ?_, ?_, ?_⟩, ?_, ?_, ?_, ?_, ?_, ?_⟩ <;> simp [World.cell?, World.frozen?, h]
theorem set6 (W : World) (b : Nat) (t : TypeId) (o0 o1 o2 o3 o4 o5 v0 v1 v2 v3 v4 v5 : Value) (h : W.heap[b]? = some (Obj.cells #[o0, o1, o2, o3, o4, o5] t)) :
    (((((((W.setCell ⟨b, 0, none⟩ v0).setCell ⟨b, 1, none⟩ v1).setCell ⟨b, 2, none⟩ v2).setCell ⟨b, 3, none⟩ v3).setCell ⟨b, 4, none⟩ v4).setCell ⟨b, 5, none⟩ v5).heap[b]? = some (Obj.cells #[v0, v1, v2, v3, v4, v5] t)) ∧ W.grownBy ((((((W.setCell ⟨b, 0, none⟩ v0).setCell ⟨b, 1, none⟩ v1).setCell ⟨b, 2, none⟩ v2).setCell ⟨b, 3, none⟩ v3).setCell ⟨b, 4, none⟩ v4).setCell ⟨b, 5, none⟩ v5) (some b) := by
  refine ⟨?_, ?_⟩
  · have h0 := setCell_heap_same (i := 0) (v := v0) h
    have h1 := setCell_heap_same (i := 1) (v := v1) h0
    have h2 := setCell_heap_same (i := 2) (v := v2) h1
    have h3 := setCell_heap_same (i := 3) (v := v3) h2
    have h4 := setCell_heap_same (i := 4) (v := v4) h3
    have h5 := setCell_heap_same (i := 5) (v := v5) h4
    rw [h5]
    simp
  · have g1 := (grown_put W b 0 v0).trans (grown_put (W.setCell ⟨b, 0, none⟩ v0) b 1 v1)
    generalize (W.setCell ⟨b, 0, none⟩ v0).setCell ⟨b, 1, none⟩ v1 = W1 at *
    have g2 := g1.trans (grown_put W1 b 2 v2)
    have g3 := g2.trans (grown_put _ b 3 v3)
    have g4 := g3.trans (grown_put _ b 4 v4)
    exact g4.trans (grown_put _ b 5 v5)
abbrev zeroKey : Obj := Obj.cells #[.string ⟨#[]⟩, .string ⟨#[]⟩, .string ⟨#[]⟩, .int .i64 0, .slice none 0 0, .slice none 0 0] 51
abbrev nameKey (nm : ByteArray) : Obj := Obj.cells #[.string nm, .string ⟨#[]⟩, .string ⟨#[]⟩, .int .i64 0, .slice none 0 0, .slice none 0 0] 51
/-- key's frame: the scanner's box, and where the result will lie -/
structure KyPre (w : World) (B : Nat) (s : Bs) (k : Nat) (W : World) : Prop where
  gr : w.grownBy W (some B)
  sc : Scn W B s k
  box : W.heap[w.heap.size]? = some (Obj.cells #[scP B] 62)
  res : W.heap[w.heap.size + 1]? = some zeroKey
  old : B < w.heap.size
theorem KyPre.step {w : World} {B k k1 : Nat} {s s1 : Bs} {W W1 : World} (st : KyPre w B s k W) (hG : W.grownBy W1 (some B)) (hS : Scn W1 B s1 k1) : KyPre w B s1 k1 W1 := by
  have ho := st.old
  exact ⟨st.gr.trans hG, hS, (hG.block _ (Array.getElem?_eq_some_iff.1 st.box).1 (fun e => by have := Option.some.inj e; omega)).trans st.box, (hG.block _ (Array.getElem?_eq_some_iff.1 st.res).1 (fun e => by have := Option.some.inj e; omega)).trans st.res, ho⟩
theorem KyPre.below {w : World} {B k : Nat} {s : Bs} {W W1 : World} (st : KyPre w B s k W) (hB : Below W.heap.size W W1) : KyPre w B s k W1 := st.step (grown_below hB _) (st.sc.then hB)
theorem KyPre.room {w : World} {B k : Nat} {s : Bs} {W : World} (st : KyPre w B s k W) : w.heap.size + 2 ≤ W.heap.size := (Array.getElem?_eq_some_iff.1 st.res).1
/-- with a block of its own for the key -/
structure KySt (w : World) (B h : Nat) (s : Bs) (k : Nat) (o : Obj) (W : World) : Prop where
  pre : KyPre w B s k W
  xb : W.heap[h]? = some o
  hlt : w.heap.size + 2 ≤ h
theorem KySt.step {w : World} {B h k k1 : Nat} {s s1 : Bs} {o : Obj} {W W1 : World} (st : KySt w B h s k o W) (hG : W.grownBy W1 (some B)) (hS : Scn W1 B s1 k1) : KySt w B h s1 k1 o W1 :=
  ⟨st.pre.step hG hS, (hG.block _ (Array.getElem?_eq_some_iff.1 st.xb).1 (fun e => by have := Option.some.inj e; have := st.hlt; have := st.pre.old; omega)).trans st.xb, st.hlt⟩
theorem KyPre.start {w : World} {B k : Nat} {s : Bs} (h : Scn w B s k) (hk : k + 1 ≤ 60) : KyPre w B s (k + 1) (((w.setCell ⟨B, 1, none⟩ (.int .i64 ((k : Int) + 1))).alloc (Obj.cells #[scP B] 62)).alloc zeroKey) := by
  have hlt := h.lt
  obtain ⟨w1, hw1⟩ : ∃ w1, w1 = w.setCell ⟨B, 1, none⟩ (.int .i64 ((k : Int) + 1)) := ⟨_, rfl⟩
  have hz : w1.heap.size = w.heap.size := by rw [hw1]; simp
  have hS1 : Scn w1 B s (k + 1) := by rw [hw1]; exact ⟨(setCell_heap_same h.heap).trans rfl, h.small, hk⟩
  have hG1 : w.grownBy w1 (some B) := by rw [hw1]; exact grown_put _ _ _ _
  rw [← hw1]
  have hB2 : Below w1.heap.size w1 ((w1.alloc (Obj.cells #[scP B] 62)).alloc zeroKey) := ((Below.refl _ _).alloc (Nat.le_refl _) _).alloc (by simp) _
  have hx1 : ((w1.alloc (Obj.cells #[scP B] 62)).alloc zeroKey).heap[w1.heap.size]? = some (Obj.cells #[scP B] 62) := (Below.heap_alloc _ _ _ (by simp)).trans (World.alloc_heap_new _ _)
  have hx2 : ((w1.alloc (Obj.cells #[scP B] 62)).alloc zeroKey).heap[w1.heap.size + 1]? = some zeroKey := by
    have := World.alloc_heap_new (w1.alloc (Obj.cells #[scP B] 62)) zeroKey; rw [World.size_alloc] at this; exact this
  rw [hz] at hx1 hx2
  exact ⟨hG1.trans (grown_below hB2 _), hS1.then hB2, hx1, hx2, hlt⟩
theorem KyPre.draw {w : World} {B k : Nat} {s : Bs} {W : World} (st : KyPre w B s k W) : KyPre w B s k W.drew := ⟨st.gr.trans ⟨rfl, rfl, rfl, Nat.le_refl _, fun _ _ _ => rfl⟩, st.sc.draws 1, st.box, st.res, st.old⟩
theorem KyPre.name {w : World} {B k : Nat} {s : Bs} {W : World} (st : KyPre w B s k W) (nm : ByteArray) : KySt w B W.heap.size s k (nameKey nm) (W.alloc (nameKey nm)) :=
  ⟨st.below ((Below.refl _ _).alloc (Nat.le_refl _) _), World.alloc_heap_new _ _, st.room⟩
theorem KeyPost.bad {w w' : World} {B : Nat} {o : Option (KeyP × Bs × Nat)} (hG : w.grownBy w' (some B)) (ho : o = none) : KeyPost w B o (.panicked [wrongE]) w' := ⟨hG, by subst ho; rfl⟩
theorem KyPre.fin {w : World} {B k : Nat} {s : Bs} {W W' : World} (st : KyPre w B s k W) {o : Option (KeyP × Bs × Nat)} {x : KeyP} {As Ak : Option Addr} {cs ck : Nat} {kcs : List Value} (ho : o = some (x, s, k)) (hg : W.grownBy W' (some (w.heap.size + 1)))
    (hP : KeyAt W (fun i => w.heap.size + 2 ≤ i ∧ i < W.heap.size) (.slice As x.set.length cs) (.slice Ak x.kids.length ck) kcs x) :
    KeyPost w B o (.returned (.agg #[.string (str x.name), .string (str x.text), .string (str x.field), .int .i64 x.n, .slice As x.set.length cs, .slice Ak x.kids.length ck])) W' := by
  subst ho
  have ho := st.old
  refine ⟨grown_new st.gr hg (fun k e => .inl (by have := Option.some.inj e; omega)), As, cs, Ak, ck, kcs, rfl, ?_, st.sc.kept hg (fun e => by have := Option.some.inj e; omega)⟩
  exact (hP.kept (fun i hi => hg.block i hi.2 (fun e => by have := Option.some.inj e; omega))).more (fun i hi => ⟨by omega, Nat.lt_of_lt_of_le hi.2 hg.size⟩)
theorem keyAt_bare (W : World) (T : Nat → Prop) (nm tx fd : Bs) (n : Int) : KeyAt W T (.slice none 0 0) (.slice none 0 0) [] (.mk nm tx fd n [] []) := ⟨rowC_nil _ _ _, rowC_nil _ _ _, .nil⟩
end Go.Proofs.YtgmfhldfdnnafaaGreatDoor
namespace Go.Proofs.YtgmfhldfdnnafaaGreatDoor
open Go.RowKit
open Pl (Bs idxB numOk numN setOk setL)
set_option linter.unusedSimpArgs false
set_option linter.unusedVariables false
def zeroKeyL : List Value := [.string ⟨#[]⟩, .string ⟨#[]⟩, .string ⟨#[]⟩, .int .i64 0, .slice none 0 0, .slice none 0 0]
/-- a row of keys under way: u lies in cell i of block D -/
structure AkSt (base : Nat) (D i : Nat) (u : Value) (n : Nat) (acc : List KeyP) (cs : List Value) (T : Nat → Prop) (ds : Array Value) (t : TypeId) (W : World) : Prop where
  cmd : W.heap[D]? = some (Obj.cells ds t)
  at_ : ds[i]? = some u
  own : W.ownsRow base 51 6 u n cs
  its : KeysC W T acc cs
  len : n = acc.length
  fr : ∀ j, T j → base ≤ j ∧ j < W.heap.size ∧ u.ownBlock ≠ some j
  lt : D < base ∧ base ≤ W.heap.size
theorem AkSt.step {base D i n B : Nat} {u : Value} {acc : List KeyP} {cs : List Value} {T : Nat → Prop} {ds : Array Value} {t : TypeId} {W W1 : World} (st : AkSt base D i u n acc cs T ds t W) (hG : W.grownBy W1 (some B)) (hB : B < base) (hBD : B ≠ D) : AkSt base D i u n acc cs T ds t W1 := by
  obtain ⟨h1, h2⟩ := st.lt
  have hz := hG.size
  refine ⟨(hG.block D (Array.getElem?_eq_some_iff.1 st.cmd).1 (fun e => hBD (Option.some.inj e).symm)).trans st.cmd, st.at_, own_kept st.own hG hB, st.its.kept (fun j hj => ?_), st.len, fun j hj => ?_, h1, by omega⟩
  · have := st.fr j hj; exact hG.block j this.2.1 (fun e => by have := Option.some.inj e; omega)
  · have := st.fr j hj; exact ⟨this.1, by omega, this.2.2⟩
theorem AkSt.below {base D i n : Nat} {u : Value} {acc : List KeyP} {cs : List Value} {T : Nat → Prop} {ds : Array Value} {t : TypeId} {W W1 : World} (st : AkSt base D i u n acc cs T ds t W) (hB : Below W.heap.size W W1) : AkSt base D i u n acc cs T ds t W1 := by
  obtain ⟨h1, h2⟩ := st.lt
  have hz := hB.size
  refine ⟨(hB.block D (Array.getElem?_eq_some_iff.1 st.cmd).1).trans st.cmd, st.at_, own_below st.own hB, st.its.kept (fun j hj => hB.block j (st.fr j hj).2.1), st.len, fun j hj => ?_, h1, by omega⟩
  have := st.fr j hj; exact ⟨this.1, by omega, this.2.2⟩
theorem AkSt.cell {base D i n : Nat} {u : Value} {acc : List KeyP} {cs : List Value} {T : Nat → Prop} {ds : Array Value} {t : TypeId} {W : World} (st : AkSt base D i u n acc cs T ds t W) : W.cell? ⟨D, i, none⟩ = some u ∧ W.frozen? ⟨D, i, none⟩ = false := by
  have h := st.cmd
  have h2 := st.at_
  refine ⟨?_, ?_⟩ <;> simp [World.cell?, World.frozen?, h, h2]
/-- behind the key's reading and the zero's laying, in either order -/
structure AkMid (base : Nat) (D i : Nat) (u : Value) (n : Nat) (acc : List KeyP) (cs : List Value) (T : Nat → Prop) (ds : Array Value) (t : TypeId) (z : Nat) (T1 : Nat → Prop) (vs vk : Value) (kcs : List Value) (x : KeyP) (W : World) : Prop where
  st : AkSt base D i u n acc cs T ds t W
  zero : W.heap[z]? = some (Obj.cells zeroKeyL.toArray 51)
  key : KeyAt W T1 vs vk kcs x
  fr1 : ∀ j, T1 j → base ≤ j ∧ j < W.heap.size ∧ u.ownBlock ≠ some j
  zlt : base ≤ z
/-- the key first, then the zero -/
theorem AkMid.ofKey {base D i n B : Nat} {u : Value} {acc : List KeyP} {cs : List Value} {T : Nat → Prop} {ds : Array Value} {t : TypeId} {W W1 : World} (st : AkSt base D i u n acc cs T ds t W) (hG : W.grownBy W1 (some B)) (hB : B < base) (hBD : B ≠ D) {vs vk : Value} {kcs : List Value} {x : KeyP} (hP : KeyAt W1 (newT W W1) vs vk kcs x) :
    AkMid base D i u n acc cs T ds t W1.heap.size (newT W W1) vs vk kcs x (W1.alloc (Obj.cells zeroKeyL.toArray 51)) := by
  obtain ⟨h1, h2⟩ := st.lt
  have s1 := st.step hG hB hBD
  have hA : Below W1.heap.size W1 (W1.alloc (Obj.cells zeroKeyL.toArray 51)) := (Below.refl _ _).alloc (Nat.le_refl _) _
  refine ⟨s1.below hA, World.alloc_heap_new _ _, hP.kept (fun j hj => hA.block j hj.2), fun j hj => ⟨Nat.le_trans h2 hj.1, Nat.lt_of_lt_of_le hj.2 hA.size, fun e => ?_⟩, Nat.le_trans h2 hG.size⟩
  have := (st.own.lt j e).2
  have := hj.1
  omega
/-- the zero first, then the key -/
theorem AkMid.ofZero {base D i n B : Nat} {u : Value} {acc : List KeyP} {cs : List Value} {T : Nat → Prop} {ds : Array Value} {t : TypeId} {W W1 : World} (st : AkSt base D i u n acc cs T ds t W) (hG : (W.alloc (Obj.cells zeroKeyL.toArray 51)).grownBy W1 (some B)) (hB : B < base) (hBD : B ≠ D) {vs vk : Value} {kcs : List Value} {x : KeyP} (hP : KeyAt W1 (newT (W.alloc (Obj.cells zeroKeyL.toArray 51)) W1) vs vk kcs x) :
    AkMid base D i u n acc cs T ds t W.heap.size (newT (W.alloc (Obj.cells zeroKeyL.toArray 51)) W1) vs vk kcs x W1 := by
  obtain ⟨h1, h2⟩ := st.lt
  have hA : Below W.heap.size W (W.alloc (Obj.cells zeroKeyL.toArray 51)) := (Below.refl _ _).alloc (Nat.le_refl _) _
  have s1 := (st.below hA).step hG hB hBD
  refine ⟨s1, (hG.block _ (by simp) (fun e => by have := Option.some.inj e; omega)).trans (World.alloc_heap_new _ _), hP, fun j hj => ⟨by have := hj.1; simp at this; omega, hj.2, fun e => ?_⟩, h2⟩
  have := (st.own.lt j e).2
  have h3 := hj.1
  simp at h3
  omega
/-- six cells in the midst of a row -/
def put6 (W : World) (g o : Nat) (v0 v1 v2 v3 v4 v5 : Value) : World := ((((((W.setCell ⟨g, o, none⟩ v0).setCell ⟨g, o + 1, none⟩ v1).setCell ⟨g, o + 2, none⟩ v2).setCell ⟨g, o + 3, none⟩ v3).setCell ⟨g, o + 4, none⟩ v4).setCell ⟨g, o + 5, none⟩ v5)
theorem put6_grown (W : World) (g o : Nat) (v0 v1 v2 v3 v4 v5 : Value) : W.grownBy (put6 W g o v0 v1 v2 v3 v4 v5) (some g) := by
  have g1 := (grown_put W g o v0).trans (grown_put _ g (o + 1) v1)
  have g2 := g1.trans (grown_put _ g (o + 2) v2)
  have g3 := g2.trans (grown_put _ g (o + 3) v3)
  have g4 := g3.trans (grown_put _ g (o + 4) v4)
  exact g4.trans (grown_put _ g (o + 5) v5)
theorem put6_heap {W : World} {g o : Nat} {cur : Array Value} {t : TypeId} (h : W.heap[g]? = some (Obj.cells cur t)) (v0 v1 v2 v3 v4 v5 : Value) : (put6 W g o v0 v1 v2 v3 v4 v5).heap[g]? = some (Obj.cells ((((((cur.setIfInBounds o v0).setIfInBounds (o + 1) v1).setIfInBounds (o + 2) v2).setIfInBounds (o + 3) v3).setIfInBounds (o + 4) v4).setIfInBounds (o + 5) v5) t) :=
  setCell_heap_same (setCell_heap_same (setCell_heap_same (setCell_heap_same (setCell_heap_same (setCell_heap_same h)))))
theorem put6_take (cur : Array Value) (o : Nat) (xs zs : List Value) (v0 v1 v2 v3 v4 v5 : Value) (h : cur.toList.take (o + 6) = xs ++ zs) (hx : xs.length = o) (hz : zs.length = 6) (hc : o + 6 ≤ cur.size) :
    ((((((cur.setIfInBounds o v0).setIfInBounds (o + 1) v1).setIfInBounds (o + 2) v2).setIfInBounds (o + 3) v3).setIfInBounds (o + 4) v4).setIfInBounds (o + 5) v5).toList.take (o + 6) = xs ++ [v0, v1, v2, v3, v4, v5] := by
  apply List.ext_getElem?
  intro j
  have hl : cur.toList.length = cur.size := by simp
  have hj : (cur.toList.take (o + 6))[j]? = (xs ++ zs)[j]? := by rw [h]
  rw [List.getElem?_take] at hj ⊢
  by_cases hjo : j < o + 6
  · rw [if_pos hjo] at hj ⊢
    simp only [Array.toList_setIfInBounds, List.getElem?_set, List.length_set, hl]
    by_cases hj2 : j < o
    · rw [List.getElem?_append_left (by omega)] at hj ⊢
      rw [← hj]
      repeat (first | rw [if_neg (by omega)] | rfl)
    · rw [List.getElem?_append_right (by omega), hx]
      obtain ⟨m, rfl⟩ : ∃ m, j = o + m := ⟨j - o, by omega⟩
      rw [show o + m - o = m by omega]
      have hm : m = 0 ∨ m = 1 ∨ m = 2 ∨ m = 3 ∨ m = 4 ∨ m = 5 := by omega
      rcases hm with rfl | rfl | rfl | rfl | rfl | rfl
      all_goals
        simp
        try omega
  · rw [if_neg hjo, List.getElem?_append_right (by omega), hx]
    exact (List.getElem?_eq_none (by simp only [List.length_cons, List.length_nil]; omega)).symm
/-- behind the append: where the new row lies, and its last cells -/
structure AkNew (base : Nat) (D i : Nat) (n g cap : Nat) (ds : Array Value) (t : TypeId) (W9 : World) : Prop where
  cmd : W9.heap[D]? = some (Obj.cells ds t)
  gb : base ≤ g
  gD : g ≠ D
  cells : ∀ j v, zeroKeyL[j]? = some v → W9.cell? ⟨g, n * 6 + j, none⟩ = some v ∧ W9.frozen? ⟨g, n * 6 + j, none⟩ = false
theorem AkMid.new {base D i n z g cap : Nat} {u : Value} {acc : List KeyP} {cs : List Value} {T T1 : Nat → Prop} {ds : Array Value} {t : TypeId} {vs vk : Value} {kcs : List Value} {x : KeyP} {W W9 : World} (m : AkMid base D i u n acc cs T ds t z T1 vs vk kcs x W)
    (hown : W9.ownsRow base 51 6 (.slice (some ⟨g, 0, none⟩) (n + 1) cap) (n + 1) (cs ++ zeroKeyL)) (hgr : W.grownBy W9 u.ownBlock) : AkNew base D i n g cap ds t W9 := by
  obtain ⟨h1, h2⟩ := m.st.lt
  have hu : ∀ k, u.ownBlock = some k → base ≤ k := fun k e => (m.st.own.lt k e).1
  have hgb : base ≤ g := (hown.lt g rfl).1
  have hcl : cs.length = n * 6 := m.st.own.1
  refine ⟨(hgr.block D (Array.getElem?_eq_some_iff.1 m.st.cmd).1 (fun e => by have := hu D e.symm; omega)).trans m.st.cmd, hgb, by omega, fun j v hj => ⟨?_, ?_⟩⟩
  · have := hown.cells (g := g) rfl (n * 6 + j) v (by rw [List.getElem?_append_right (by omega), hcl, Nat.add_sub_cancel_left]; exact hj)
    rw [add_at] at this
    exact this
  · rcases hown.2 with ⟨h, _⟩ | ⟨g', cap', cur, hv, _, hh, _, _, _, _⟩
    · cases h
    · simp only [Value.slice.injEq, Option.some.injEq, Addr.mk.injEq] at hv
      obtain ⟨⟨rfl, _⟩, _⟩ := hv
      simp [World.frozen?, hh]
theorem AkMid.own6 {base n g cap : Nat} {cs : List Value} {W9 : World} (hown : W9.ownsRow base 51 6 (.slice (some ⟨g, 0, none⟩) (n + 1) cap) (n + 1) (cs ++ zeroKeyL)) (hcl : cs.length = n * 6) (v0 v1 v2 v3 v4 v5 : Value) :
    (put6 W9 g (n * 6) v0 v1 v2 v3 v4 v5).ownsRow base 51 6 (.slice (some ⟨g, 0, none⟩) (n + 1) cap) (n + 1) (cs ++ [v0, v1, v2, v3, v4, v5]) := by
  rcases hown.2 with ⟨h, _⟩ | ⟨g', cap', cur, hv, hb, hh, hn, hm, hc, ht⟩
  · cases h
  · simp only [Value.slice.injEq, Option.some.injEq, Addr.mk.injEq] at hv
    obtain ⟨⟨rfl, _⟩, _, rfl⟩ := hv
    refine ⟨by simp [hcl]; omega, .inr ⟨g, cap, _, rfl, hb, put6_heap hh v0 v1 v2 v3 v4 v5, hn, hm, by simpa using hc, ?_⟩⟩
    have h6 : (n + 1) * 6 = n * 6 + 6 := by omega
    rw [h6] at ht ⊢
    exact put6_take cur (n * 6) cs zeroKeyL v0 v1 v2 v3 v4 v5 ht hcl rfl (by rw [hc]; have := Nat.mul_le_mul_right 6 hn; omega)
/-- behind both stores, in either order -/
theorem AkMid.fin {base D i n z g cap : Nat} {u : Value} {acc : List KeyP} {cs : List Value} {T T1 : Nat → Prop} {ds : Array Value} {t : TypeId} {vs vk : Value} {kcs : List Value} {x : KeyP} {W W9 W' : World} (m : AkMid base D i u n acc cs T ds t z T1 vs vk kcs x W)
    (hown : W9.ownsRow base 51 6 (.slice (some ⟨g, 0, none⟩) (n + 1) cap) (n + 1) (cs ++ zeroKeyL)) (hgr : W.grownBy W9 u.ownBlock) (hat : u.ownBlock = some g ∨ g = W.heap.size) (hi : i < ds.size)
    (hW : W' = (put6 W9 g (n * 6) (.string (str x.name)) (.string (str x.text)) (.string (str x.field)) (.int .i64 x.n) vs vk).setCell ⟨D, i, none⟩ (.slice (some ⟨g, 0, none⟩) (n + 1) cap) ∨ W' = put6 (W9.setCell ⟨D, i, none⟩ (.slice (some ⟨g, 0, none⟩) (n + 1) cap)) g (n * 6) (.string (str x.name)) (.string (str x.text)) (.string (str x.field)) (.int .i64 x.n) vs vk) :
    AkSt base D i (.slice (some ⟨g, 0, none⟩) (n + 1) cap) (n + 1) (acc ++ [x]) (cs ++ keyC vs vk x) (fun j => T j ∨ T1 j) (ds.setIfInBounds i (.slice (some ⟨g, 0, none⟩) (n + 1) cap)) t W' := by
  obtain ⟨h1, h2⟩ := m.st.lt
  have nw := m.new hown hgr (cap := cap)
  have hz := hgr.size
  have hcl : cs.length = n * 6 := m.st.own.1
  have hgb := nw.gb
  have hgD := nw.gD
  have hu : ∀ k, u.ownBlock = some k → base ≤ k := fun k e => (m.st.own.lt k e).1
  have hall : ∀ j, (T j ∨ T1 j) → base ≤ j ∧ j < W.heap.size ∧ u.ownBlock ≠ some j := fun j hj => by
    rcases hj with hj | hj
    · exact m.st.fr j hj
    · exact m.fr1 j hj
  have hjg : ∀ j, (T j ∨ T1 j) → j ≠ g := fun j hj e => by
    have := hall j hj
    rcases hat with h | h
    · exact this.2.2 (by rw [h, e])
    · omega
  have key : ∀ W', (∀ j, j ≠ g → j ≠ D → W'.heap[j]? = W9.heap[j]?) → W'.heap.size = W9.heap.size → W'.heap[D]? = some (Obj.cells (ds.setIfInBounds i (.slice (some ⟨g, 0, none⟩) (n + 1) cap)) t) → W'.ownsRow base 51 6 (.slice (some ⟨g, 0, none⟩) (n + 1) cap) (n + 1) (cs ++ keyC vs vk x) → AkSt base D i (.slice (some ⟨g, 0, none⟩) (n + 1) cap) (n + 1) (acc ++ [x]) (cs ++ keyC vs vk x) (fun j => T j ∨ T1 j) (ds.setIfInBounds i (.slice (some ⟨g, 0, none⟩) (n + 1) cap)) t W' := fun W' e1 e2 e3 e4 => by
    refine ⟨e3, by simp [hi], e4, ?_, by rw [List.length_append, List.length_singleton, m.st.len], fun j hj => ?_, h1, by omega⟩
    · refine KeysC.kept (w := W) (KeysC.snoc (m.st.its.more (fun j hj => .inl hj)) (m.key.set.more (fun j hj => .inr hj)) (m.key.row.more (fun j hj => .inr hj)) (m.key.kids.more (fun j hj => .inr hj))) (fun j hj => ?_)
      have := hall j hj
      exact (e1 j (hjg j hj) (by omega)).trans (hgr.block j this.2.1 (fun e => this.2.2 e.symm))
    · have := hall j hj
      refine ⟨this.1, by omega, fun e => hjg j hj ?_⟩
      simpa [Value.ownBlock] using e.symm
  have hput : ∀ V : World, ∀ j, j ≠ g → (put6 V g (n * 6) (.string (str x.name)) (.string (str x.text)) (.string (str x.field)) (.int .i64 x.n) vs vk).heap[j]? = V.heap[j]? := fun V j hj => by
    simp only [put6]
    repeat rw [Below.heap_setCell _ _ _ _ (by dsimp only; exact hj)]
  have hsz : ∀ V : World, (put6 V g (n * 6) (.string (str x.name)) (.string (str x.text)) (.string (str x.field)) (.int .i64 x.n) vs vk).heap.size = V.heap.size := fun V => by simp [put6]
  rcases hW with rfl | rfl
  · refine key _ (fun j hj hj2 => (Below.heap_setCell _ _ _ _ (by dsimp only; exact hj2)).trans (hput _ j hj)) (by simp [hsz]) (setCell_heap_same ((hput _ D (fun e => hgD e.symm)).trans nw.cmd)) ?_
    exact ownsRow_setCell_below (AkMid.own6 hown hcl _ _ _ _ _ _) (by dsimp only; omega) _
  · refine key _ (fun j hj hj2 => (hput _ j hj).trans (Below.heap_setCell _ _ _ _ (by dsimp only; exact hj2))) (by simp [hsz]) ((hput _ D (fun e => hgD e.symm)).trans (setCell_heap_same nw.cmd)) ?_
    exact AkMid.own6 (ownsRow_setCell_below hown (by dsimp only; omega) _) hcl _ _ _ _ _ _
end Go.Proofs.YtgmfhldfdnnafaaGreatDoor
namespace Go.Proofs.YtgmfhldfdnnafaaGreatDoor
open Go.RowKit
open Pl (Bs idxB numOk numN setOk setL)
attribute [local go_sem ↓] Go.wp_at_zero Go.wp_at_succ
set_option linter.unusedSimpArgs false
set_option linter.unusedVariables false
def keysLoop (sub : Rd KeyP) : Nat → Rd (List KeyP)
  | 0, _, _ => none
  | m + 1, s, k => match isB [32] s with
    | none => some ([], s, k)
    | some s1 => match sub s1 k with
      | none => none
      | some (x, s2, k2) => (keysLoop sub m s2 k2).map fun p => (x :: p.1, p.2)
def charsetN : Bs := [67, 72, 65, 82, 83, 69, 84, 32]
/-- the keys behind SEARCH, no charset told -/
def searchR (sub : Rd KeyP) (s : Bs) (k : Nat) : Option (List KeyP × Bs × Nat) :=
  match isB [32] s with
  | none => none
  | some s1 => if 8 ≤ s1.length ∧ largeL (s1.take 8) = charsetN then none else match sub s1 k with
    | none => none
    | some (x, s2, k2) => (keysLoop sub (s2.length + 1) s2 k2).map fun p => (x :: p.1, p.2)
structure LoSt (sub : Rd KeyP) (l : List KeyP) (r : Bs) (kk : Nat) (acc : List KeyP) (s : Bs) (k m : Nat) : Prop where
  room : s.length < m
  few : acc.length + m ≤ 1000002
  spec : some (l, r, kk) = (keysLoop sub m s k).map fun p => (acc ++ p.1, p.2)
theorem LoSt.stop {sub : Rd KeyP} {l : List KeyP} {r : Bs} {kk : Nat} {acc : List KeyP} {s : Bs} {k m : Nat} (h : LoSt sub l r kk acc s k m) (h1 : isB [32] s = none) : l = acc ∧ r = s ∧ kk = k := by
  cases m with
  | zero => exact absurd h.room (Nat.not_lt_zero _)
  | succ m =>
    have e := h.spec
    rw [keysLoop, h1] at e
    simpa using e
theorem LoSt.next {sub : Rd KeyP} (hlen : ∀ s k p, sub s k = some p → p.2.1.length ≤ s.length) {l : List KeyP} {r : Bs} {kk : Nat} {acc : List KeyP} {s s1 : Bs} {k m : Nat} (h : LoSt sub l r kk acc s k m) (h1 : isB [32] s = some s1) : ∃ x s2 k2 m2, sub s1 k = some (x, s2, k2) ∧ s2.length < s.length ∧ LoSt sub l r kk (acc ++ [x]) s2 k2 m2 := by
  cases m with
  | zero => exact absurd h.room (Nat.not_lt_zero _)
  | succ m =>
    have e := h.spec
    rw [keysLoop, h1] at e
    cases hs : sub s1 k with
    | none => simp only [hs] at e; cases e
    | some p =>
      obtain ⟨x, s2, k2⟩ := p
      simp only [hs] at e
      have e1 := isB_len h1
      have e2 := hlen _ _ _ hs
      simp only [List.length_singleton] at e1
      dsimp only at e2
      refine ⟨x, s2, k2, m, rfl, by omega, ⟨by have := h.room; omega, by have := h.few; rw [List.length_append, List.length_singleton]; omega, ?_⟩⟩
      rw [e, Option.map_map]
      congr 1
      funext p
      simp
/-- how far search has come -/
def SrSt (w : World) (B C : Nat) (acc : List KeyP) (s : Bs) (k : Nat) (cs0 : Array Value) (W : World) : Prop :=
  R2 B C w W ∧ Scn W B s k ∧ ∃ A c cells T ds, AkSt w.heap.size C 11 (.slice A acc.length c) acc.length acc cells T ds 33 W ∧ ds.size = cs0.size ∧ ∀ j, j ≠ 11 → ds[j]? = cs0[j]?
theorem grown_dr2 (w : World) (row : Option Nat) : w.grownBy w.drew row := ⟨rfl, rfl, rfl, Nat.le_refl _, fun _ _ _ => rfl⟩
theorem AkMid.done {w : World} {B D i n z g cap k : Nat} {s : Bs} {u : Value} {acc : List KeyP} {cs : List Value} {T T1 : Nat → Prop} {ds : Array Value} {t : TypeId} {vs vk : Value} {kcs : List Value} {x : KeyP} {W W9 W' : World} (m : AkMid w.heap.size D i u n acc cs T ds t z T1 vs vk kcs x W) (hR : R2 B D w W) (hS : Scn W B s k) (hB : B < w.heap.size) (hBD : B ≠ D)
    (hown : W9.ownsRow w.heap.size 51 6 (.slice (some ⟨g, 0, none⟩) (n + 1) cap) (n + 1) (cs ++ zeroKeyL)) (hgr : W.grownBy W9 u.ownBlock) (hat : u.ownBlock = some g ∨ g = W.heap.size) (hi : i < ds.size)
    (hW : W' = (put6 W9 g (n * 6) (.string (str x.name)) (.string (str x.text)) (.string (str x.field)) (.int .i64 x.n) vs vk).setCell ⟨D, i, none⟩ (.slice (some ⟨g, 0, none⟩) (n + 1) cap) ∨ W' = put6 (W9.setCell ⟨D, i, none⟩ (.slice (some ⟨g, 0, none⟩) (n + 1) cap)) g (n * 6) (.string (str x.name)) (.string (str x.text)) (.string (str x.field)) (.int .i64 x.n) vs vk) :
    R2 B D w W' ∧ Scn W' B s k ∧ AkSt w.heap.size D i (.slice (some ⟨g, 0, none⟩) (n + 1) cap) (n + 1) (acc ++ [x]) (cs ++ keyC vs vk x) (fun j => T j ∨ T1 j) (ds.setIfInBounds i (.slice (some ⟨g, 0, none⟩) (n + 1) cap)) t W' := by
  have nw := m.new (cap := cap) hown hgr
  have hgb := nw.gb
  have hu : ∀ k, u.ownBlock = some k → w.heap.size ≤ k := fun k e => (m.st.own.lt k e).1
  have h9 : R2 B D w W9 := ⟨hgr.os.trans hR.os, hgr.tape.trans hR.tape, hgr.output.trans hR.output, Nat.le_trans hR.size hgr.size, fun j hj h1 h2 => (hgr.block j (Nat.lt_of_lt_of_le hj hR.size) (fun e => by have := hu j e.symm; omega)).trans (hR.block j hj h1 h2)⟩
  have s9 : Scn W9 B s k := hS.kept hgr (fun e => by have := hu B e.symm; omega)
  have hg : ∀ (V : World) (a0 a1 a2 a3 a4 a5 : Value), R2 B D w V → Scn V B s k → R2 B D w (put6 V g (n * 6) a0 a1 a2 a3 a4 a5) ∧ Scn (put6 V g (n * 6) a0 a1 a2 a3 a4 a5) B s k := fun V a0 a1 a2 a3 a4 a5 hv hs => by
    have g6 := put6_grown V g (n * 6) a0 a1 a2 a3 a4 a5
    exact ⟨⟨g6.os.trans hv.os, g6.tape.trans hv.tape, g6.output.trans hv.output, Nat.le_trans hv.size g6.size, fun j hj h1 h2 => (g6.block j (Nat.lt_of_lt_of_le hj hv.size) (fun e => by have := Option.some.inj e; omega)).trans (hv.block j hj h1 h2)⟩, hs.kept g6 (fun e => by have := Option.some.inj e; omega)⟩
  have hd : ∀ (V : World) (v : Value), R2 B D w V → Scn V B s k → R2 B D w (V.setCell ⟨D, i, none⟩ v) ∧ Scn (V.setCell ⟨D, i, none⟩ v) B s k := fun V v hv hs => ⟨hv.trans (.ofC (grown_put V D i v)), hs.kept (grown_put V D i v) (fun e => hBD (Option.some.inj e))⟩
  have hf := m.fin hown hgr hat hi hW
  rcases hW with rfl | rfl
  · have a := hg W9 (.string (str x.name)) (.string (str x.text)) (.string (str x.field)) (.int .i64 x.n) vs vk h9 s9
    have b := hd _ (.slice (some ⟨g, 0, none⟩) (n + 1) cap) a.1 a.2
    exact ⟨b.1, b.2, hf⟩
  · have b := hd _ (.slice (some ⟨g, 0, none⟩) (n + 1) cap) h9 s9
    have a := hg _ (.string (str x.name)) (.string (str x.text)) (.string (str x.field)) (.int .i64 x.n) vs vk b.1 b.2
    exact ⟨a.1, a.2, hf⟩
theorem AkMid.toSr {w : World} {B D z g cap k : Nat} {s : Bs} {u : Value} {acc : List KeyP} {cs : List Value} {T T1 : Nat → Prop} {ds cs0 : Array Value} {vs vk : Value} {kcs : List Value} {x : KeyP} {W W9 W' : World} (m : AkMid w.heap.size D 11 u acc.length acc cs T ds 33 z T1 vs vk kcs x W) (hR : R2 B D w W) (hS : Scn W B s k) (hB : B < w.heap.size) (hBD : B ≠ D)
    (hown : W9.ownsRow w.heap.size 51 6 (.slice (some ⟨g, 0, none⟩) (acc.length + 1) cap) (acc.length + 1) (cs ++ zeroKeyL)) (hgr : W.grownBy W9 u.ownBlock) (hat : u.ownBlock = some g ∨ g = W.heap.size) (hi : 11 < ds.size) (hsz : ds.size = cs0.size) (hds : ∀ j, j ≠ 11 → ds[j]? = cs0[j]?)
    (hW : W' = (put6 W9 g (acc.length * 6) (.string (str x.name)) (.string (str x.text)) (.string (str x.field)) (.int .i64 x.n) vs vk).setCell ⟨D, 11, none⟩ (.slice (some ⟨g, 0, none⟩) (acc.length + 1) cap) ∨ W' = put6 (W9.setCell ⟨D, 11, none⟩ (.slice (some ⟨g, 0, none⟩) (acc.length + 1) cap)) g (acc.length * 6) (.string (str x.name)) (.string (str x.text)) (.string (str x.field)) (.int .i64 x.n) vs vk) :
    SrSt w B D (acc ++ [x]) s k cs0 W' := by
  obtain ⟨e1, e2, e3⟩ := m.done hR hS hB hBD hown hgr hat hi hW
  refine ⟨e1, e2, some ⟨g, 0, none⟩, cap, cs ++ keyC vs vk x, fun j => T j ∨ T1 j, ds.setIfInBounds 11 (.slice (some ⟨g, 0, none⟩) (acc.length + 1) cap), ?_, by simp [hsz], fun j hj => by rw [Array.getElem?_setIfInBounds, if_neg (fun e => hj e.symm)]; exact hds j hj⟩
  rw [List.length_append, List.length_singleton]
  exact e3
theorem AkNew.c0 {base D i n g cap : Nat} {ds : Array Value} {t : TypeId} {W9 : World} (h : AkNew base D i n g cap ds t W9) : (W9.cell? ⟨g, n * 6, none⟩ = some (.string ⟨#[]⟩) ∧ W9.cell? ⟨g, n * 6 + 1, none⟩ = some (.string ⟨#[]⟩) ∧ W9.cell? ⟨g, n * 6 + 2, none⟩ = some (.string ⟨#[]⟩) ∧ W9.cell? ⟨g, n * 6 + 3, none⟩ = some (.int .i64 0) ∧ W9.cell? ⟨g, n * 6 + 4, none⟩ = some (.slice none 0 0) ∧ W9.cell? ⟨g, n * 6 + 5, none⟩ = some (.slice none 0 0)) ∧ W9.frozen? ⟨g, n * 6, none⟩ = false ∧ W9.frozen? ⟨g, n * 6 + 1, none⟩ = false ∧ W9.frozen? ⟨g, n * 6 + 2, none⟩ = false ∧ W9.frozen? ⟨g, n * 6 + 3, none⟩ = false ∧ W9.frozen? ⟨g, n * 6 + 4, none⟩ = false ∧ W9.frozen? ⟨g, n * 6 + 5, none⟩ = false :=
  ⟨⟨(h.cells 0 _ rfl).1, (h.cells 1 _ rfl).1, (h.cells 2 _ rfl).1, (h.cells 3 _ rfl).1, (h.cells 4 _ rfl).1, (h.cells 5 _ rfl).1⟩, (h.cells 0 _ rfl).2, (h.cells 1 _ rfl).2, (h.cells 2 _ rfl).2, (h.cells 3 _ rfl).2, (h.cells 4 _ rfl).2, (h.cells 5 _ rfl).2⟩
theorem infoKey2 : (Tryz.prog.info? 51).map (fun i => (i.zero, i.size, i.bytes)) = some (some (.agg #[.string ⟨#[]⟩, .string ⟨#[]⟩, .string ⟨#[]⟩, .int .i64 0, .slice none 0 0, .slice none 0 0]), 6, 104) := by kernel_rfl
set_option maxHeartbeats 8000000 in
set_option maxRecDepth 100000 in
theorem search_walk (G : Glob) (B C k : Nat) (sub : Rd KeyP) (hsub : KeyCon G B (fun _ => False) sub) (hlenS : ∀ s k p, sub s k = some p → p.2.1.length ≤ s.length) (s : Bs) (l : List KeyP) (r : Bs) (kk : Nat) (hok : searchR sub s k = some (l, r, kk)) (cs : Array Value) (h11 : cs[11]? = some (.slice none 0 0)) (hne : B ≠ C) (hC20 : 20 ≤ C) (w : World) (hC : w.heap[C]? = some (Obj.cells cs 33)) (hE : EnvI G w B) (h : Scn w B s k) :
    Calls Tryz.prog 78 #[scP B, cmP C] w fun e w' => e = .returned (.tuple #[]) ∧ SrSt w B C l r kk cs w' := by
  obtain ⟨i0, hi, hz0, hz1, hz2⟩ := info_parts infoKey2
  have HE := Lib.hid hE
  have HSub := Lib.hid hsub
  have HLs := Lib.hid hlenS
  have hBlt := h.lt
  have hClt := (Array.getElem?_eq_some_iff.1 hC).1
  have hsm := h.small
  have H11 : Hid (11 < cs.size) := Lib.hid (Array.getElem?_eq_some_iff.1 h11).1
  have hAk0 : AkSt w.heap.size C 11 (.slice none 0 0) 0 [] [] (fun _ => False) cs 33 w := ⟨hC, h11, World.ownsRow_nil _ _ _ _, .nil, rfl, fun j hj => hj.elim, hClt, Nat.le_refl _⟩
  unfold searchR at hok
  cases hb : isB [32] s with
  | none => rw [hb] at hok; cases hok
  | some s1 =>
    simp only [hb] at hok
    have K1 := Lib.hid (fun W hW => blank_ok B s s1 k hb W hW)
    have hl1 := isB_len hb
    simp only [List.length_singleton] at hl1
    by_cases hcs : 8 ≤ s1.length ∧ largeL (s1.take 8) = charsetN
    · rw [if_pos hcs] at hok; cases hok
    · rw [if_neg hcs] at hok
      cases hsK : sub s1 k with
      | none => rw [hsK] at hok; cases hok
      | some p =>
        obtain ⟨x, s2, k2⟩ := p
        simp only [hsK] at hok
        have hl2 := hlenS _ _ _ hsK
        dsimp only at hl2
        have HLo : Hid (LoSt sub l r kk [x] s2 k2 (s2.length + 1)) := Lib.hid ⟨Nat.lt_succ_self _, by simp; omega, hok.symm⟩
        have HSn := Lib.hid h
        have HA0 := Lib.hid hAk0
        have hvK : (fun _ : Nat => False) k ∨ (sub s1 k).isSome = true := .inr (by rw [hsK]; rfl)
        have hz := str_size s1
        have KLg := Lib.hid (fun (h8 : 8 ≤ s1.length) W => large_walk21 (s1.take 8) (by rw [List.length_take]; omega) W)
        clear hok hb h hAk0 hC h11 hE hsub hlenS
        by_cases h8 : 8 ≤ s1.length
        · have hcn : largeL (s1.take 8) ≠ charsetN := fun e => hcs ⟨h8, e⟩
          have n0 : ((str (largeL (s1.take 8))).toList == [67, 72, 65, 82, 83, 69, 84, 32]) = false := str_neb hcn
          have hx8 : (str s1).extract 0 8 = str (s1.take 8) := str_take s1 8
          have KL8 := Lib.hid (KLg.out h8)
          have h8i : (8 : Int) ≤ (s1.length : Int) := by omega
          clear hcs KLg hcn
          go_enter Tryz.func78, Tryz.ntmps78
          go_wp2_with fail
          refine (K1.out _ HSn.out).mono ?_
          rintro e w1 ⟨rfl, hScn1, hG1⟩
          have hAk1 := Lib.hid (HA0.out.step hG1 hBlt hne)
          have hR21 : Hid (R2 B C w w1) := Lib.hid (.of hG1)
          have hsub1 := hsK
          clear hsK hG1
          obtain ⟨c0, c1, f0, f1⟩ := hScn1.cells
          have HScn1 := Lib.hid hScn1
          clear hScn1
          go_wp2_with fail
          refine (KL8.out _).mono ?_
          rintro e w2 ⟨rfl, hB2⟩
          have hScn := HScn1.out.then hB2
          have hAk := hAk1.out.below hB2
          have hR2 : R2 B C w w2 := hR21.out.trans (.of (grown_below hB2 _))
          clear hB2 c0 c1 f0 f1
          obtain ⟨c0, c1, f0, f1⟩ := hScn.cells
          go_wp2_with fail
          have HA := Lib.hid hAk
          have HAd := Lib.hid (hAk.step (W1 := w2.drew) (grown_dr2 _ (some B)) hBlt hne)
          have HAz := Lib.hid (fun o => (HA.out.below ((Below.refl w2.heap.size w2).alloc (Nat.le_refl _) o)))
          have KA := Lib.hid (HSub.out s1 k w2.drew hvK (HE.out.kept2 (hR2.trans (.of (grown_dr2 _ _))) hC20) (hScn.draws 1))
          have KB := Lib.hid (HSub.out s1 k (w2.alloc (Obj.cells zeroKeyL.toArray 51)).drew hvK (HE.out.kept2 ((hR2.trans (.of (grown_below ((Below.refl _ _).alloc (Nat.le_refl _) _) _))).trans (.of (grown_dr2 _ _))) hC20) ((hScn.then ((Below.refl _ _).alloc (Nat.le_refl _) _)).draws 1))
          rw [hsub1] at KA KB
          have HR2 := Lib.hid hR2
          have hacc := HLo.out.few
          obtain ⟨l0, l1⟩ := HAd.out.cell
          have l2 := (fun o => (HAz.out o).cell.1)
          have l3 := (fun o => (HAz.out o).cell.2)
          clear hAk hR2 hScn hsub1 hvK
          go_cut [] from 43 to 54 (fun wx => Hid (SrSt w B C [x] s2 k2 cs wx))
          case first =>
            go_region_law (first
                | (go_simp; go_at_call 106; first
                    | (refine KA.out.mono ?_; rintro e w5 ⟨hG5, As, cs5, Ak, ck5, kcs, rfl, hP5, hS5⟩; have HM := Lib.hid (AkMid.ofKey HAd.out hG5 hBlt hne hP5); have HS5 := Lib.hid hS5; have HR5 := Lib.hid ((HR2.out.trans (.of (grown_dr2 _ _))).trans (.of hG5)); have HRc := Lib.hid (HR5.out.trans (.of (grown_below ((Below.refl _ _).alloc (Nat.le_refl _) (Obj.cells zeroKeyL.toArray 51)) _))); have HSc := Lib.hid (HS5.out.then ((Below.refl _ _).alloc (Nat.le_refl _) (Obj.cells zeroKeyL.toArray 51))); obtain ⟨m0, m1⟩ := (HAd.out.step hG5 hBlt hne).cell; have m2 := (fun o => ((HAd.out.step hG5 hBlt hne).below ((Below.refl w5.heap.size w5).alloc (Nat.le_refl _) o)).cell.1); clear hG5 hP5 hS5)
                    | (refine KB.out.mono ?_; rintro e w5 ⟨hG5, As, cs5, Ak, ck5, kcs, rfl, hP5, hS5⟩; have HM := Lib.hid (AkMid.ofZero HA.out ((grown_dr2 _ _).trans hG5) hBlt hne hP5); have HS5 := Lib.hid hS5; have HR5 := Lib.hid ((HR2.out.trans (R2.of (grown_below ((Below.refl _ _).alloc (Nat.le_refl _) _) _))).trans (.of ((grown_dr2 _ _).trans hG5))); have HRc := HR5; have HSc := HS5; obtain ⟨m0, m1⟩ := HM.out.st.cell; clear hG5 hP5 hS5))
                | (refine step_append_lies _ (by rfl) _ _ _ (by rfl) w.heap.size 51 i0 (.agg #[.string ⟨#[]⟩, .string ⟨#[]⟩, .string ⟨#[]⟩, .int .i64 0, .slice none 0 0, .slice none 0 0]) 6 104 Tryz.underlying31 hi hz0 hz1 hz2 (by rfl) (by decide) (.slice none 0 0) 0 [] (by rfl) HM.out.st.own ⟨_, 0, none⟩ 1 1 zeroKeyL (by rfl) (by rfl) (World.news_of_block HM.out.zero) (by simp [zeroKeyL, Value.oneCell']) (by decide) (by unfold maxLen; omega) (by omega) HM.out.st.lt.2 _ rfl ?_; intro g cap w9 hown hgr hat hlt; have HNw := Lib.hid (HM.out.new (cap := cap) hown hgr); obtain ⟨⟨n0, n1, n2, n3, n4, n5⟩, p0, p1, p2, p3, p4, p5⟩ := HNw.out.c0; have hgC : ¬ (g = C) := HNw.out.gD; have hCg : ¬ (C = g) := fun e => hgC e.symm; have q0 : w9.cell? ⟨C, 11, none⟩ = some (.slice none 0 0) := by {have h1 := HNw.out.cmd; have h2 := HM.out.st.at_; simp [World.cell?, h1, h2]}; have q1 : w9.frozen? ⟨C, 11, none⟩ = false := by {have h1 := HNw.out.cmd; simp [World.frozen?, h1]}))
            all_goals
              go_wp2_with fail
              go_meet
              refine Lib.hid (AkMid.toSr (acc := []) HM.out HRc.out HSc.out hBlt hne hown hgr hat H11.out rfl (fun _ _ => rfl) ?_)
              first
              | (refine .inl ?_; simp only [put6, List.length_nil, Nat.zero_mul, Nat.zero_add]; done)
              | (refine .inr ?_; simp only [put6, List.length_nil, Nat.zero_mul, Nat.zero_add]; done)
          case rest =>
            obtain ⟨hRr, hSr, A0, c0', cells0, T0, ds0, hAk0, hds1, hds2⟩ := hcut.out
            have HSr : Hid (SrSt w B C [x] s2 k2 cs wc) := hcut
            clear hRr hSr hAk0 hds1 hds2 KA KB HAz HA HAd l0 l1 l2 l3
            generalize s2.length + 1 = m0 at HLo
            go_wp2
            go_loopw [] (fun wr => ∃ (acc : List KeyP) (s : Bs) (k m : Nat), Hid (LoSt sub l r kk acc s k m) ∧ Hid (SrSt w B C acc s k cs wr)) (fun wr => leftLen B wr)
            case atStart => exact ⟨[x], s2, k2, m0, HLo, HSr⟩
            case round =>
              obtain ⟨acc, s3, k3, m3, HL3, HS3⟩ := hrel
              obtain ⟨hR3, hScn3, A3, c3, cells3, T3, ds3, hAk3, hds1, hds2⟩ := HS3.out
              have HL0 := Lib.hid (left_len hScn3)
              cases h3 : isB [32] s3 with
              | none =>
                have K3 : Hid (∀ W, Scn W B s3 k3 → Calls Tryz.prog 68 #[scP B, .string ⟨#[32]⟩] W _) := Lib.hid (fun W hW => is_not B s3 [32] k3 h3 W hW)
                obtain ⟨rfl, rfl, rfl⟩ := HL3.out.stop h3
                have HScn3 := Lib.hid hScn3
                have HFin := Lib.hid (fun W1 (hG : _) (hS : _) => show SrSt w B C l r kk cs W1 from ⟨hR3.trans (.of hG), hS, A3, c3, cells3, T3, ds3, hAk3.step (W1 := W1) (B := B) hG hBlt hne, hds1, hds2⟩)
                clear hR3 hScn3 hAk3 h3
                go_wp2_with fail
                refine (K3.out _ HScn3.out).mono ?_
                rintro e w4 ⟨rfl, hS4, hG4⟩
                have HF := Lib.hid (HFin.out w4 hG4 hS4)
                clear hS4 hG4
                go_wp2
                go_end0
                exact ⟨rfl, HF.out⟩
              | some s4 =>
                have K3 : Hid (∀ W, Scn W B s3 k3 → Calls Tryz.prog 68 #[scP B, .string ⟨#[32]⟩] W _) := Lib.hid (fun W hW => is_ok B s3 [32] s4 k3 h3 W hW)
                obtain ⟨y, s5, k5, m5, hsub1, hlt5, hL5⟩ := HL3.out.next HLs.out h3
                have HL5 := Lib.hid hL5
                have HLt := Lib.hid hlt5
                have hvK : (fun _ : Nat => False) k3 ∨ (sub s4 k3).isSome = true := .inr (by rw [hsub1]; rfl)
                have HLo := HL3
                have HScn3 := Lib.hid hScn3
                have HAk3 := Lib.hid hAk3
                have HR3 := Lib.hid hR3
                have HD1 := Lib.hid hds1
                have HD2 := Lib.hid hds2
                clear hL5 hlt5 h3 hScn3 hAk3 hR3 hds1 hds2
                go_wp2_with fail
                refine (K3.out _ HScn3.out).mono ?_
                rintro e w4 ⟨rfl, hScn, hG4⟩
                have hAk := HAk3.out.step hG4 hBlt hne
                have hR2 : R2 B C w w4 := HR3.out.trans (.of hG4)
                clear hG4
                have hacc3 := HL3.out.few
                go_wp2_with fail
                have HA := Lib.hid hAk
                have HAd := Lib.hid (hAk.step (W1 := w4.drew) (grown_dr2 _ (some B)) hBlt hne)
                have HAz := Lib.hid (fun o => (HA.out.below ((Below.refl w4.heap.size w4).alloc (Nat.le_refl _) o)))
                have KA := Lib.hid (HSub.out s4 k3 w4.drew hvK (HE.out.kept2 (hR2.trans (.of (grown_dr2 _ _))) hC20) (hScn.draws 1))
                have KB := Lib.hid (HSub.out s4 k3 (w4.alloc (Obj.cells zeroKeyL.toArray 51)).drew hvK (HE.out.kept2 ((hR2.trans (.of (grown_below ((Below.refl _ _).alloc (Nat.le_refl _) _) _))).trans (.of (grown_dr2 _ _))) hC20) ((hScn.then ((Below.refl _ _).alloc (Nat.le_refl _) _)).draws 1))
                rw [hsub1] at KA KB
                have HR2 := Lib.hid hR2
                have hacc := HLo.out.few
                obtain ⟨l0, l1⟩ := HAd.out.cell
                have l2 := (fun o => (HAz.out o).cell.1)
                have l3 := (fun o => (HAz.out o).cell.2)
                clear hAk hR2 hScn hsub1 hvK
                have hix : ((acc.length : Nat) : Int) < (acc.length : Int) + 1 := by omega
                have HMeas : Hid (∀ W', SrSt w B C (acc ++ [y]) s5 k5 cs W' → leftLen B W' < leftLen B wr) := Lib.hid (fun W' h => by rw [HL0.out, left_len h.2.1]; exact HLt.out)
                go_region_law (first
                    | (go_simp; go_at_call 106; first
                        | (refine KA.out.mono ?_; rintro e w5 ⟨hG5, As, cs5, Ak, ck5, kcs, rfl, hP5, hS5⟩; have HM := Lib.hid (AkMid.ofKey HAd.out hG5 hBlt hne hP5); have HS5 := Lib.hid hS5; have HR5 := Lib.hid ((HR2.out.trans (.of (grown_dr2 _ _))).trans (.of hG5)); have HRc := Lib.hid (HR5.out.trans (.of (grown_below ((Below.refl _ _).alloc (Nat.le_refl _) (Obj.cells zeroKeyL.toArray 51)) _))); have HSc := Lib.hid (HS5.out.then ((Below.refl _ _).alloc (Nat.le_refl _) (Obj.cells zeroKeyL.toArray 51))); obtain ⟨m0, m1⟩ := (HAd.out.step hG5 hBlt hne).cell; have m2 := (fun o => ((HAd.out.step hG5 hBlt hne).below ((Below.refl w5.heap.size w5).alloc (Nat.le_refl _) o)).cell.1); clear hG5 hP5 hS5)
                        | (refine KB.out.mono ?_; rintro e w5 ⟨hG5, As, cs5, Ak, ck5, kcs, rfl, hP5, hS5⟩; have HM := Lib.hid (AkMid.ofZero HA.out ((grown_dr2 _ _).trans hG5) hBlt hne hP5); have HS5 := Lib.hid hS5; have HR5 := Lib.hid ((HR2.out.trans (R2.of (grown_below ((Below.refl _ _).alloc (Nat.le_refl _) _) _))).trans (.of ((grown_dr2 _ _).trans hG5))); have HRc := HR5; have HSc := HS5; obtain ⟨m0, m1⟩ := HM.out.st.cell; clear hG5 hP5 hS5))
                    | (refine step_append_lies _ (by rfl) _ _ _ (by rfl) w.heap.size 51 i0 (.agg #[.string ⟨#[]⟩, .string ⟨#[]⟩, .string ⟨#[]⟩, .int .i64 0, .slice none 0 0, .slice none 0 0]) 6 104 Tryz.underlying31 hi hz0 hz1 hz2 (by rfl) (by decide) (.slice A3 acc.length c3) acc.length cells3 (by rfl) HM.out.st.own ⟨_, 0, none⟩ 1 1 zeroKeyL (by rfl) (by rfl) (World.news_of_block HM.out.zero) (by simp [zeroKeyL, Value.oneCell']) (by decide) (by unfold maxLen; omega) (by omega) HM.out.st.lt.2 _ rfl ?_; intro g cap w9 hown hgr hat hlt; have HNw := Lib.hid (HM.out.new (cap := cap) hown hgr); obtain ⟨⟨n0, n1, n2, n3, n4, n5⟩, p0, p1, p2, p3, p4, p5⟩ := HNw.out.c0; have hgC : ¬ (g = C) := HNw.out.gD; have hCg : ¬ (C = g) := fun e => hgC e.symm; have q0 : w9.cell? ⟨C, 11, none⟩ = some (.slice A3 acc.length c3) := by {have h1 := HNw.out.cmd; have h2 := HM.out.st.at_; simp [World.cell?, h1, h2]}; have q1 : w9.frozen? ⟨C, 11, none⟩ = false := by {have h1 := HNw.out.cmd; simp [World.frozen?, h1]}))
                all_goals
                  go_wp2
                  go_roundw
                  case rel =>
                    refine ⟨acc ++ [y], s5, k5, m5, HL5, Lib.hid (AkMid.toSr (acc := acc) HM.out HRc.out HSc.out hBlt hne hown hgr hat (by rw [HD1.out]; exact H11.out) HD1.out HD2.out ?_)⟩
                    first
                    | (refine .inl ?_; simp only [put6]; done)
                    | (refine .inr ?_; simp only [put6]; done)
                  case measure =>
                    refine HMeas.out _ (AkMid.toSr (acc := acc) HM.out HRc.out HSc.out hBlt hne hown hgr hat (by rw [HD1.out]; exact H11.out) HD1.out HD2.out ?_)
                    first
                    | (refine .inl ?_; simp only [put6]; done)
                    | (refine .inr ?_; simp only [put6]; done)
        · clear hcs KLg
          go_enter Tryz.func78, Tryz.ntmps78
          go_wp2_with fail
          refine (K1.out _ HSn.out).mono ?_
          rintro e w1 ⟨rfl, hScn, hG1⟩
          have hAk := HA0.out.step hG1 hBlt hne
          have hsub1 := hsK
          clear hsK
          have hR2 : R2 B C w w1 := .of hG1
          obtain ⟨c0, c1, f0, f1⟩ := hScn.cells
          go_wp2_with fail
          have HA := Lib.hid hAk
          have HAd := Lib.hid (hAk.step (W1 := w1.drew) (grown_dr2 _ (some B)) hBlt hne)
          have HAz := Lib.hid (fun o => (HA.out.below ((Below.refl w1.heap.size w1).alloc (Nat.le_refl _) o)))
          have KA := Lib.hid (HSub.out s1 k w1.drew hvK (HE.out.kept2 (hR2.trans (.of (grown_dr2 _ _))) hC20) (hScn.draws 1))
          have KB := Lib.hid (HSub.out s1 k (w1.alloc (Obj.cells zeroKeyL.toArray 51)).drew hvK (HE.out.kept2 ((hR2.trans (.of (grown_below ((Below.refl _ _).alloc (Nat.le_refl _) _) _))).trans (.of (grown_dr2 _ _))) hC20) ((hScn.then ((Below.refl _ _).alloc (Nat.le_refl _) _)).draws 1))
          rw [hsub1] at KA KB
          have HR2 := Lib.hid hR2
          have hacc := HLo.out.few
          obtain ⟨l0, l1⟩ := HAd.out.cell
          have l2 := (fun o => (HAz.out o).cell.1)
          have l3 := (fun o => (HAz.out o).cell.2)
          clear hAk hR2 hScn hsub1 hvK
          go_cut [] from 43 to 54 (fun wx => Hid (SrSt w B C [x] s2 k2 cs wx))
          case first =>
            go_region_law (first
                | (go_simp; go_at_call 106; first
                    | (refine KA.out.mono ?_; rintro e w5 ⟨hG5, As, cs5, Ak, ck5, kcs, rfl, hP5, hS5⟩; have HM := Lib.hid (AkMid.ofKey HAd.out hG5 hBlt hne hP5); have HS5 := Lib.hid hS5; have HR5 := Lib.hid ((HR2.out.trans (.of (grown_dr2 _ _))).trans (.of hG5)); have HRc := Lib.hid (HR5.out.trans (.of (grown_below ((Below.refl _ _).alloc (Nat.le_refl _) (Obj.cells zeroKeyL.toArray 51)) _))); have HSc := Lib.hid (HS5.out.then ((Below.refl _ _).alloc (Nat.le_refl _) (Obj.cells zeroKeyL.toArray 51))); obtain ⟨m0, m1⟩ := (HAd.out.step hG5 hBlt hne).cell; have m2 := (fun o => ((HAd.out.step hG5 hBlt hne).below ((Below.refl w5.heap.size w5).alloc (Nat.le_refl _) o)).cell.1); clear hG5 hP5 hS5)
                    | (refine KB.out.mono ?_; rintro e w5 ⟨hG5, As, cs5, Ak, ck5, kcs, rfl, hP5, hS5⟩; have HM := Lib.hid (AkMid.ofZero HA.out ((grown_dr2 _ _).trans hG5) hBlt hne hP5); have HS5 := Lib.hid hS5; have HR5 := Lib.hid ((HR2.out.trans (R2.of (grown_below ((Below.refl _ _).alloc (Nat.le_refl _) _) _))).trans (.of ((grown_dr2 _ _).trans hG5))); have HRc := HR5; have HSc := HS5; obtain ⟨m0, m1⟩ := HM.out.st.cell; clear hG5 hP5 hS5))
                | (refine step_append_lies _ (by rfl) _ _ _ (by rfl) w.heap.size 51 i0 (.agg #[.string ⟨#[]⟩, .string ⟨#[]⟩, .string ⟨#[]⟩, .int .i64 0, .slice none 0 0, .slice none 0 0]) 6 104 Tryz.underlying31 hi hz0 hz1 hz2 (by rfl) (by decide) (.slice none 0 0) 0 [] (by rfl) HM.out.st.own ⟨_, 0, none⟩ 1 1 zeroKeyL (by rfl) (by rfl) (World.news_of_block HM.out.zero) (by simp [zeroKeyL, Value.oneCell']) (by decide) (by unfold maxLen; omega) (by omega) HM.out.st.lt.2 _ rfl ?_; intro g cap w9 hown hgr hat hlt; have HNw := Lib.hid (HM.out.new (cap := cap) hown hgr); obtain ⟨⟨n0, n1, n2, n3, n4, n5⟩, p0, p1, p2, p3, p4, p5⟩ := HNw.out.c0; have hgC : ¬ (g = C) := HNw.out.gD; have hCg : ¬ (C = g) := fun e => hgC e.symm; have q0 : w9.cell? ⟨C, 11, none⟩ = some (.slice none 0 0) := by {have h1 := HNw.out.cmd; have h2 := HM.out.st.at_; simp [World.cell?, h1, h2]}; have q1 : w9.frozen? ⟨C, 11, none⟩ = false := by {have h1 := HNw.out.cmd; simp [World.frozen?, h1]}))
            all_goals
              go_wp2_with fail
              go_meet
              refine Lib.hid (AkMid.toSr (acc := []) HM.out HRc.out HSc.out hBlt hne hown hgr hat H11.out rfl (fun _ _ => rfl) ?_)
              first
              | (refine .inl ?_; simp only [put6, List.length_nil, Nat.zero_mul, Nat.zero_add]; done)
              | (refine .inr ?_; simp only [put6, List.length_nil, Nat.zero_mul, Nat.zero_add]; done)
          case rest =>
            obtain ⟨hRr, hSr, A0, c0', cells0, T0, ds0, hAk0, hds1, hds2⟩ := hcut.out
            have HSr : Hid (SrSt w B C [x] s2 k2 cs wc) := hcut
            clear hRr hSr hAk0 hds1 hds2 KA KB HAz HA HAd l0 l1 l2 l3
            generalize s2.length + 1 = m0 at HLo
            go_wp2
            go_loopw [] (fun wr => ∃ (acc : List KeyP) (s : Bs) (k m : Nat), Hid (LoSt sub l r kk acc s k m) ∧ Hid (SrSt w B C acc s k cs wr)) (fun wr => leftLen B wr)
            case atStart => exact ⟨[x], s2, k2, m0, HLo, HSr⟩
            case round =>
              obtain ⟨acc, s3, k3, m3, HL3, HS3⟩ := hrel
              obtain ⟨hR3, hScn3, A3, c3, cells3, T3, ds3, hAk3, hds1, hds2⟩ := HS3.out
              have HL0 := Lib.hid (left_len hScn3)
              cases h3 : isB [32] s3 with
              | none =>
                have K3 : Hid (∀ W, Scn W B s3 k3 → Calls Tryz.prog 68 #[scP B, .string ⟨#[32]⟩] W _) := Lib.hid (fun W hW => is_not B s3 [32] k3 h3 W hW)
                obtain ⟨rfl, rfl, rfl⟩ := HL3.out.stop h3
                have HScn3 := Lib.hid hScn3
                have HFin := Lib.hid (fun W1 (hG : _) (hS : _) => show SrSt w B C l r kk cs W1 from ⟨hR3.trans (.of hG), hS, A3, c3, cells3, T3, ds3, hAk3.step (W1 := W1) (B := B) hG hBlt hne, hds1, hds2⟩)
                clear hR3 hScn3 hAk3 h3
                go_wp2_with fail
                refine (K3.out _ HScn3.out).mono ?_
                rintro e w4 ⟨rfl, hS4, hG4⟩
                have HF := Lib.hid (HFin.out w4 hG4 hS4)
                clear hS4 hG4
                go_wp2
                go_end0
                exact ⟨rfl, HF.out⟩
              | some s4 =>
                have K3 : Hid (∀ W, Scn W B s3 k3 → Calls Tryz.prog 68 #[scP B, .string ⟨#[32]⟩] W _) := Lib.hid (fun W hW => is_ok B s3 [32] s4 k3 h3 W hW)
                obtain ⟨y, s5, k5, m5, hsub1, hlt5, hL5⟩ := HL3.out.next HLs.out h3
                have HL5 := Lib.hid hL5
                have HLt := Lib.hid hlt5
                have hvK : (fun _ : Nat => False) k3 ∨ (sub s4 k3).isSome = true := .inr (by rw [hsub1]; rfl)
                have HLo := HL3
                have HScn3 := Lib.hid hScn3
                have HAk3 := Lib.hid hAk3
                have HR3 := Lib.hid hR3
                have HD1 := Lib.hid hds1
                have HD2 := Lib.hid hds2
                clear hL5 hlt5 h3 hScn3 hAk3 hR3 hds1 hds2
                go_wp2_with fail
                refine (K3.out _ HScn3.out).mono ?_
                rintro e w4 ⟨rfl, hScn, hG4⟩
                have hAk := HAk3.out.step hG4 hBlt hne
                have hR2 : R2 B C w w4 := HR3.out.trans (.of hG4)
                clear hG4
                have hacc3 := HL3.out.few
                go_wp2_with fail
                have HA := Lib.hid hAk
                have HAd := Lib.hid (hAk.step (W1 := w4.drew) (grown_dr2 _ (some B)) hBlt hne)
                have HAz := Lib.hid (fun o => (HA.out.below ((Below.refl w4.heap.size w4).alloc (Nat.le_refl _) o)))
                have KA := Lib.hid (HSub.out s4 k3 w4.drew hvK (HE.out.kept2 (hR2.trans (.of (grown_dr2 _ _))) hC20) (hScn.draws 1))
                have KB := Lib.hid (HSub.out s4 k3 (w4.alloc (Obj.cells zeroKeyL.toArray 51)).drew hvK (HE.out.kept2 ((hR2.trans (.of (grown_below ((Below.refl _ _).alloc (Nat.le_refl _) _) _))).trans (.of (grown_dr2 _ _))) hC20) ((hScn.then ((Below.refl _ _).alloc (Nat.le_refl _) _)).draws 1))
                rw [hsub1] at KA KB
                have HR2 := Lib.hid hR2
                have hacc := HLo.out.few
                obtain ⟨l0, l1⟩ := HAd.out.cell
                have l2 := (fun o => (HAz.out o).cell.1)
                have l3 := (fun o => (HAz.out o).cell.2)
                clear hAk hR2 hScn hsub1 hvK
                have hix : ((acc.length : Nat) : Int) < (acc.length : Int) + 1 := by omega
                have HMeas : Hid (∀ W', SrSt w B C (acc ++ [y]) s5 k5 cs W' → leftLen B W' < leftLen B wr) := Lib.hid (fun W' h => by rw [HL0.out, left_len h.2.1]; exact HLt.out)
                go_region_law (first
                    | (go_simp; go_at_call 106; first
                        | (refine KA.out.mono ?_; rintro e w5 ⟨hG5, As, cs5, Ak, ck5, kcs, rfl, hP5, hS5⟩; have HM := Lib.hid (AkMid.ofKey HAd.out hG5 hBlt hne hP5); have HS5 := Lib.hid hS5; have HR5 := Lib.hid ((HR2.out.trans (.of (grown_dr2 _ _))).trans (.of hG5)); have HRc := Lib.hid (HR5.out.trans (.of (grown_below ((Below.refl _ _).alloc (Nat.le_refl _) (Obj.cells zeroKeyL.toArray 51)) _))); have HSc := Lib.hid (HS5.out.then ((Below.refl _ _).alloc (Nat.le_refl _) (Obj.cells zeroKeyL.toArray 51))); obtain ⟨m0, m1⟩ := (HAd.out.step hG5 hBlt hne).cell; have m2 := (fun o => ((HAd.out.step hG5 hBlt hne).below ((Below.refl w5.heap.size w5).alloc (Nat.le_refl _) o)).cell.1); clear hG5 hP5 hS5)
                        | (refine KB.out.mono ?_; rintro e w5 ⟨hG5, As, cs5, Ak, ck5, kcs, rfl, hP5, hS5⟩; have HM := Lib.hid (AkMid.ofZero HA.out ((grown_dr2 _ _).trans hG5) hBlt hne hP5); have HS5 := Lib.hid hS5; have HR5 := Lib.hid ((HR2.out.trans (R2.of (grown_below ((Below.refl _ _).alloc (Nat.le_refl _) _) _))).trans (.of ((grown_dr2 _ _).trans hG5))); have HRc := HR5; have HSc := HS5; obtain ⟨m0, m1⟩ := HM.out.st.cell; clear hG5 hP5 hS5))
                    | (refine step_append_lies _ (by rfl) _ _ _ (by rfl) w.heap.size 51 i0 (.agg #[.string ⟨#[]⟩, .string ⟨#[]⟩, .string ⟨#[]⟩, .int .i64 0, .slice none 0 0, .slice none 0 0]) 6 104 Tryz.underlying31 hi hz0 hz1 hz2 (by rfl) (by decide) (.slice A3 acc.length c3) acc.length cells3 (by rfl) HM.out.st.own ⟨_, 0, none⟩ 1 1 zeroKeyL (by rfl) (by rfl) (World.news_of_block HM.out.zero) (by simp [zeroKeyL, Value.oneCell']) (by decide) (by unfold maxLen; omega) (by omega) HM.out.st.lt.2 _ rfl ?_; intro g cap w9 hown hgr hat hlt; have HNw := Lib.hid (HM.out.new (cap := cap) hown hgr); obtain ⟨⟨n0, n1, n2, n3, n4, n5⟩, p0, p1, p2, p3, p4, p5⟩ := HNw.out.c0; have hgC : ¬ (g = C) := HNw.out.gD; have hCg : ¬ (C = g) := fun e => hgC e.symm; have q0 : w9.cell? ⟨C, 11, none⟩ = some (.slice A3 acc.length c3) := by {have h1 := HNw.out.cmd; have h2 := HM.out.st.at_; simp [World.cell?, h1, h2]}; have q1 : w9.frozen? ⟨C, 11, none⟩ = false := by {have h1 := HNw.out.cmd; simp [World.frozen?, h1]}))
                all_goals
                  go_wp2
                  go_roundw
                  case rel =>
                    refine ⟨acc ++ [y], s5, k5, m5, HL5, Lib.hid (AkMid.toSr (acc := acc) HM.out HRc.out HSc.out hBlt hne hown hgr hat (by rw [HD1.out]; exact H11.out) HD1.out HD2.out ?_)⟩
                    first
                    | (refine .inl ?_; simp only [put6]; done)
                    | (refine .inr ?_; simp only [put6]; done)
                  case measure =>
                    refine HMeas.out _ (AkMid.toSr (acc := acc) HM.out HRc.out HSc.out hBlt hne hown hgr hat (by rw [HD1.out]; exact H11.out) HD1.out HD2.out ?_)
                    first
                    | (refine .inl ?_; simp only [put6]; done)
                    | (refine .inr ?_; simp only [put6]; done)
end Go.Proofs.YtgmfhldfdnnafaaGreatDoor
namespace Go.Proofs.YtgmfhldfdnnafaaGreatDoor
open Go.RowKit
open Pl (Bs idxB numOk numN setOk setL)
set_option linter.unusedSimpArgs false
set_option linter.unusedVariables false
set_option maxHeartbeats 8000000 in
set_option maxRecDepth 100000 in
theorem rest_search (G : Glob) (B C k : Nat) (sub : Rd KeyP) (hsub : KeyCon G B (fun _ => False) sub) (hlenS : ∀ s k p, sub s k = some p → p.2.1.length ≤ s.length) (s : Bs) (l : List KeyP) (r : Bs) (kk : Nat) (hok : searchR sub s k = some (l, r, kk)) (cs : Array Value) (h1 : cs[1]? = some (.string ⟨#[83, 69, 65, 82, 67, 72]⟩)) (h11 : cs[11]? = some (.slice none 0 0)) (hne : B ≠ C) (hC20 : 20 ≤ C) (w : World) (hC : w.heap[C]? = some (Obj.cells cs 33)) (hE : EnvI G w B) (h : Scn w B s k) :
    Calls Tryz.prog 31 #[scP B, cmP C] w fun e w' => e = .returned (.tuple #[]) ∧ ∃ W, R2 B C w W ∧ SrSt W B C l r kk cs w' := by
  have HST := Lib.hid (RsSt.start h hC hne)
  have HE := Lib.hid hE
  have KS := Lib.hid (search_walk G B C k sub hsub hlenS s l r kk hok cs h11 hne hC20 _ HST.out.cmd (HE.out.kept2 HST.out.gr hC20) HST.out.sc)
  obtain ⟨c1, _⟩ := HST.out.cell h1
  have HW := Lib.hid HST.out.gr
  clear h1 h11 hE h hC hok hsub hlenS
  go_enter Tryz.func31, Tryz.ntmps31
  go_wp2_with fail
  refine KS.out.mono ?_
  rintro e w' ⟨rfl, hs⟩
  have HS := Lib.hid hs
  clear hs
  go_wp2
  go_end0
  exact ⟨rfl, _, HW.out, HS.out⟩
end Go.Proofs.YtgmfhldfdnnafaaGreatDoor
