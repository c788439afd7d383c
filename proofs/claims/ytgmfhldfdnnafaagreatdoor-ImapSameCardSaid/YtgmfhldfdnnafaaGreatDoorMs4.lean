/- A part of the proofs of the statements on chapter 21: walks of functions that they reach, and plain laws. What is proved is stated in the last text. Conditions: none of its own. -/
import Derived.Test.YtgmfhldfdnnafaaGreatDoorMs3
import Derived.Laws.ResultCell
import Derived.BigRegionIn
set_option maxHeartbeats 8000000
set_option maxRecDepth 100000
set_option linter.unusedSimpArgs false
set_option linter.unusedVariables false
namespace Go.Proofs.YtgmfhldfdnnafaaGreatDoor
open Go.RowKit
open Pl (Bs)
def sufF (x : UInt8) (s : ByteArray) : Bool := (bs s).getLast? == some x
def sufL (x : UInt8) (s : ByteArray) : ByteArray := if sufF x s = true then s.extract 0 (s.size - 1) else s
theorem sufF_raw (x : UInt8) (s : ByteArray) (h : 1 ≤ s.size) : ((s.extract (s.size - 1) s.size).toList == [x]) = sufF x s := by
 have e : (s.extract (s.size - 1) s.size).toList = (bs s).drop (s.size - 1) := by
  rw [Lib.toList_data, Lib.extract_data]
  have : s.size = s.data.toList.length := by simp
  simp only [bs]
  rw [List.take_of_length_le (by simp)]
 have hl : (bs s).length = s.size := bs_size s
 rw [e, sufF]
 have h2 : (bs s).drop (s.size - 1) = [(bs s)[s.size - 1]'(by omega)] := by
  rw [List.drop_eq_getElem_cons (by omega), List.drop_eq_nil_of_le (by omega)]
 have h3 : (bs s).getLast? = some ((bs s)[s.size - 1]'(by omega)) := by
  rw [List.getLast?_eq_getElem?, show (bs s).length - 1 = s.size - 1 by omega]
  exact List.getElem?_eq_getElem _
 rw [h2, h3]
 rw [Bool.eq_iff_iff]; simp
theorem sufF_small (x : UInt8) (s : ByteArray) (h : ¬ 1 ≤ s.size) : sufF x s = false := by
 have hl : (bs s).length = 0 := by rw [bs_size]; omega
 rw [sufF, List.eq_nil_of_length_eq_zero hl]; rfl
theorem sufF_pos {x : UInt8} {s : ByteArray} (h : sufF x s = true) : 1 ≤ s.size := by
 by_cases h1 : 1 ≤ s.size
 ·
  exact h1
 ·
  rw [sufF_small x s h1] at h; cases h
theorem bs_sufL (x : UInt8) (s : ByteArray) : bs (sufL x s) = if sufF x s = true then (bs s).dropLast else bs s := by
 unfold sufL
 split
 ·
  unfold bs; rw [Lib.extract_data, List.dropLast_eq_take]; simp
 ·
  rfl
theorem hasSuf_walk (s : ByteArray) (x : UInt8) (w : World) (hs : s.size ≤ 9223372036854775807) :
  Calls Tryz.prog 93 #[.string s, .string ⟨#[x]⟩] w fun e w' => e = .returned (.bool (sufF x s)) ∧ w = w' := by
 have e1 : ((⟨#[x]⟩ : ByteArray).size : Int) = 1 := rfl
 by_cases h : 1 ≤ s.size
 ·
  have e := sufF_raw x s h
  have E := Lib.hid e
  have n1 : ((s.size : Int) - 1).toNat = s.size - 1 := by omega
  clear e
  go_enter Tryz.func93, Tryz.ntmps93
  go_wp2_with fail
  go_ret
  exact ⟨by rw [← E.out]; rfl, rfl⟩
 ·
  rw [sufF_small x s h]
  go_enter Tryz.func93, Tryz.ntmps93
  go_wp2_with fail
  go_ret
  exact ⟨rfl, rfl⟩
theorem cutSufLite_walk (s : ByteArray) (x : UInt8) (w : World) (hs : s.size ≤ 9223372036854775807) :
  Calls Tryz.prog 61 #[.string s, .string ⟨#[x]⟩] w fun e w' => e = .returned (.tuple #[.string (sufL x s), .bool (sufF x s)]) ∧ w = w' := by
 have e1 : ((⟨#[x]⟩ : ByteArray).size : Int) = 1 := rfl
 by_cases h : sufF x s = true
 ·
  have h1 := sufF_pos h
  have er : sufL x s = s.extract 0 (s.size - 1) := by rw [sufL, if_pos h]
  have n1 : ((s.size : Int) - 1).toNat = s.size - 1 := by omega
  rw [er, h]
  have H := Lib.hid h
  clear h er
  go_enter Tryz.func61, Tryz.ntmps61
  go_wp2_with fail
  refine (hasSuf_walk _ _ _ hs).mono ?_
  rintro e w' ⟨rfl, rfl⟩
  rw [H.out]
  go_wp2
  go_ret2
  exact ⟨rfl, rfl⟩
 ·
  have er : sufL x s = s := by rw [sufL, if_neg h]
  have h : sufF x s = false := by simpa using h
  rw [er, h]
  have H := Lib.hid h
  clear h er
  go_enter Tryz.func61, Tryz.ntmps61
  go_wp2_with fail
  refine (hasSuf_walk _ _ _ hs).mono ?_
  rintro e w' ⟨rfl, rfl⟩
  rw [H.out]
  go_wp2
  go_ret2
  exact ⟨rfl, rfl⟩
theorem cutSuf_walk (s : ByteArray) (x : UInt8) (w : World) (hs : s.size ≤ 9223372036854775807) :
  Calls Tryz.prog 18 #[.string s, .string ⟨#[x]⟩] w fun e w' => e = .returned (.tuple #[.string (sufL x s), .bool (sufF x s)]) ∧ w = w' := by
 go_enter Tryz.func18, Tryz.ntmps18
 go_wp2_with fail
 refine (cutSufLite_walk _ _ _ hs).mono ?_
 rintro e w' ⟨rfl, rfl⟩
 go_wp2
 go_ret2
 exact ⟨rfl, rfl⟩
open Go.RowKit
open Pl (Bs splitB)
def nameS : Nat → ByteArray
 | 0 => ⟨#[92, 83, 101, 101, 110]⟩
 | 1 => ⟨#[92, 65, 110, 115, 119, 101, 114, 101, 100]⟩
 | 2 => ⟨#[92, 70, 108, 97, 103, 103, 101, 100]⟩
 | 3 => ⟨#[92, 68, 101, 108, 101, 116, 101, 100]⟩
 | _ => ⟨#[92, 68, 114, 97, 102, 116]⟩
def eqw (w : Bs) (i : Nat) : Bool := decide (w.map smallB = (bs (nameS i)).map smallB)
def knownK (w : Bs) : Nat → Int
 | 0 => 0
 | k + 1 => if eqw w k = true then 2 ^ k else knownK w k
def wordsOk (ws : List Bs) : Bool := ws.all fun w => !(knownK w 5 == 0)
def wordsI (ws : List Bs) : Int := ws.foldl (fun f w => bits .or .i64 f (knownK w 5)) 0
theorem wordsI_snoc (ws : List Bs) (w : Bs) : wordsI (ws ++ [w]) = bits .or .i64 (wordsI ws) (knownK w 5) := by rw [wordsI, List.foldl_append]; rfl
open Go.RowKit
def namesV : Value := .agg #[.string (nameS 0), .string (nameS 1), .string (nameS 2), .string (nameS 3), .string (nameS 4)]
theorem results_cell_one {fn : Func} {p : Tmp} {ty : TypeId} (h : fn.results = #[.cell p ty]) (tmps : Array Value) (P : Program) (w : World) :
  (results fn tmps).run P w = ((asAddr (tmps.getD p undef)).run P w).andThen fun a w₁ => (loadVar ty a).run P w₁ := by
 simp only [results, h]
 simp [Sem.run_bind, Result.andThen]
theorem names_walk (w : World) : Calls Tryz.prog 144 #[] w fun e w' => e = .returned namesV ∧ Below w.heap.size w w' := by
 go_enter Tryz.func144, Tryz.ntmps144
 go_wp2
 refine bodyPost_ret (v := namesV) ?_ rfl ⟨rfl, (Below.refl _ _).alloc (Nat.le_refl _) _⟩
 rw [results_cell_one rfl]
 simp [namesV, nameS, go_sem]
open Go.RowKit Go.Shelf
open Pl (idxB Bs splitB)
attribute [local go_sem] Oper.semAt_some
def innerS (s : ByteArray) : ByteArray := sufL 41 (preR 40 s)
def brackF (s : ByteArray) : Bool := preF 40 s && sufF 41 (preR 40 s)
def flagsOk (s : ByteArray) : Bool := brackF s && ((innerS s).toList.isEmpty || wordsOk (splitB 32 (bs (innerS s))))
def flagsI (s : ByteArray) : Int := if flagsOk s = true then (if (innerS s).toList.isEmpty = true then 0 else wordsI (splitB 32 (bs (innerS s)))) else 0
def flagsE (s : ByteArray) (v : Value) : Value := if flagsOk s = true then .nilIface else v
structure FlagMid (w : World) (v : Value) (pre : List Bs) (W : World) : Prop where
 r0 : W.heap[w.heap.size]? = some (.cells #[.int .i64 0] 3 (0, 0))
 r1 : W.heap[w.heap.size + 1]? = some (.cells #[.nilIface] 35 (0, 0))
 r2 : W.heap[w.heap.size + 2]? = some (.cells #[.int .i64 (wordsI pre)] 3 (0, 0))
 below : Below w.heap.size w W
 sent : W.cell? ⟨0, 0, none⟩ = some v
theorem FlagMid.then {w W W' : World} {v : Value} {pre : List Bs} (h : FlagMid w v pre W) (hb : Below W.heap.size W W') : FlagMid w v pre W' :=
 ⟨Stay.below (T := fun _ => True) hb _ _ trivial h.r0, Stay.below (T := fun _ => True) hb _ _ trivial h.r1, Stay.below (T := fun _ => True) hb _ _ trivial h.r2, below_then h.below hb, sent_then h.sent hb⟩
theorem name_index (k : Nat) (hk : k < 5) (X : World) : (Instr.index 167 (.agg #[.string (nameS 0), .string (nameS 1), .string (nameS 2), .string (nameS 3), .string (nameS 4)]) (.int .i64 k)).run Tryz.prog X = .ok (.string (nameS k)) X := by
 have h : k = 0 ∨ k = 1 ∨ k = 2 ∨ k = 3 ∨ k = 4 := by omega
 rcases h with rfl | rfl | rfl | rfl | rfl <;> simp [Instr.index, run_underlying Tryz.underlying167, asIntOf, go_sem] <;> rfl
structure FlagAt (w : World) (v : Value) (pre : List Bs) (W : World) : Prop where
 ok : wordsOk pre = true
 mid : FlagMid w v pre W
structure FlagEnd (w : World) (v : Value) (pre : List Bs) (W : World) : Prop where
 bad : wordsOk pre = false
 r0 : W.heap[w.heap.size]? = some (.cells #[.int .i64 0] 3 (0, 0))
 r1 : W.heap[w.heap.size + 1]? = some (.cells #[v] 35 (0, 0))
 below : Below w.heap.size w W
theorem FlagAt.cell {w W : World} {v : Value} {pre : List Bs} (h : FlagAt w v pre W) {b : Nat} (u : Value) (h1 : w.heap.size + 2 < b) (zg : 0 < w.heap.size) : FlagAt w v pre (W.setCell ⟨b, 0, none⟩ u) :=
 ⟨h.ok, ⟨setCell_other h.mid.r0 _ (by dsimp only; omega), setCell_other h.mid.r1 _ (by dsimp only; omega), setCell_other h.mid.r2 _ (by dsimp only; omega), h.mid.below.setCell (by dsimp only; omega) _,
  (World.cell?_of_block (w := W) (a := ⟨0, 0, none⟩) (Below.heap_setCell W _ u _ (by dsimp only; omega))).trans h.mid.sent⟩⟩
theorem FlagAt.put {w W : World} {v : Value} {pre : List Bs} (h : FlagAt w v pre W) {b : Nat} (o : Obj) (h1 : w.heap.size + 2 < b) (hz : w.heap.size ≤ W.heap.size) (zg : 0 < w.heap.size) : FlagAt w v pre (W.putObj b o) :=
 ⟨h.ok, ⟨(World.putObj_heap_other (by omega)).trans h.mid.r0, (World.putObj_heap_other (by omega)).trans h.mid.r1, (World.putObj_heap_other (by omega)).trans h.mid.r2, below_putObj h.mid.below _ _ (by omega) hz,
  (World.cell?_of_block (w := W) (a := ⟨0, 0, none⟩) (World.putObj_heap_other (by dsimp only; omega))).trans h.mid.sent⟩⟩
theorem FlagEnd.put {w W : World} {v : Value} {pre : List Bs} (h : FlagEnd w v pre W) {b : Nat} (o : Obj) (h1 : w.heap.size + 2 < b) (hz : w.heap.size ≤ W.heap.size) : FlagEnd w v pre (W.putObj b o) :=
 ⟨h.bad, (World.putObj_heap_other (by omega)).trans h.r0, (World.putObj_heap_other (by omega)).trans h.r1, below_putObj h.below _ _ (by omega) hz⟩
theorem flags_walk (s : ByteArray) (v : Value) (w : World) (hs : s.size ≤ 1000000) (hc : w.cell? ⟨0, 0, none⟩ = some v) (hv : ∃ t x, v = .iface t x) :
  Calls Tryz.prog 120 #[.string s] w fun e w' => e = .returned (.tuple #[.int .i64 (flagsI s), flagsE s v]) ∧ Below w.heap.size w w' := by
 have c1 : ∀ W, Calls Tryz.prog 96 #[.string s, .string ⟨#[40]⟩] W (fun e w' => e = .returned (.tuple #[.string (preR 40 s), .bool (preF 40 s)]) ∧ W = w') := fun W => cutPre_walk s 40 W (by omega)
 have zp : (preR 40 s).size ≤ s.size := by rw [← bs_size, bs_preR, ← bs_size]; split <;> simp
 have c2 : ∀ W, Calls Tryz.prog 18 #[.string (preR 40 s), .string ⟨#[41]⟩] W (fun e w' => e = .returned (.tuple #[.string (innerS s), .bool (sufF 41 (preR 40 s))]) ∧ W = w') := fun W => cutSuf_walk (preR 40 s) 41 W (by omega)
 have C1 := Lib.hid c1
 have C2 := Lib.hid c2
 have HC := Lib.hid hc
 have zg : 0 < w.heap.size := World.block_lt_of_cell? w _ hc
 obtain ⟨ty, xv, rfl⟩ := hv
 clear c1 c2 hc
 refine (callsIn_wide (n := 3)).1 ?_
 refine callsIn_of_wp_marks Tryz.func120 rfl trivial ?_ rfl
 simp only [Tryz.ntmps120, List.size_toArray, List.length_cons, List.length_nil, Nat.reduceAdd, Nat.reduceSub, Array.replicate_succ, Array.replicate_zero, List.push_toArray, List.append_toArray, List.nil_append, List.cons_append]
 gi_wp2_with fail
 refine ⟨trivial, ?_⟩
 refine (callsIn_wide.2 (C1.out _)).mono ?_
 rintro e w' ⟨rfl, rfl⟩
 gi_wp2_with fail
 refine ⟨trivial, ?_⟩
 refine (callsIn_wide.2 (C2.out _)).mono ?_
 rintro e w' ⟨rfl, rfl⟩
 obtain ⟨W1, hW1⟩ : ∃ W1, W1 = (w.alloc (Obj.cells #[.int .i64 0] 3)).alloc (Obj.cells #[.nilIface] 35) := ⟨_, rfl⟩
 have z1 : W1.heap.size = w.heap.size + 2 := by rw [hW1]; simp
 have q0 : W1.heap[w.heap.size]? = some (.cells #[.int .i64 0] 3 (0, 0)) := by rw [hW1]; exact (Below.heap_alloc _ _ _ (by simp)).trans (World.alloc_heap_new w _)
 have q1 : W1.heap[w.heap.size + 1]? = some (.cells #[.nilIface] 35 (0, 0)) := by
  rw [hW1]; have := World.alloc_heap_new (w.alloc (Obj.cells #[.int .i64 0] 3)) (Obj.cells #[.nilIface] 35); rw [World.size_alloc] at this; exact this
 have qB : Below w.heap.size w W1 := by rw [hW1]; exact ((Below.refl _ _).alloc (Nat.le_refl _) _).alloc (by simp) _
 have qS := sent_then HC.out qB
 rw [← hW1]
 clear hW1
 cases hp : preF 40 s with
 | false =>
  ·
   skip
   have HV := Lib.hid (show flagsI s = 0 ∧ flagsE s (.iface ty xv) = .iface ty xv by
    have h : flagsOk s = false := by rw [flagsOk, brackF, hp]; simp
    rw [flagsI, flagsE, h]; exact ⟨rfl, rfl⟩)
   have k0 := cell_of_one q0
   have k1 := cell_of_one q1
   have f0 := free_of_one q0
   have f1 := free_of_one q1
   have s0 := qS
   gi_wp2
   gi_region
   all_goals
    gi_wp2
    refine ⟨.tuple #[.int .i64 0, .iface ty xv], by simp [results, Tryz.results120, go_sem, k0, k1], ?_⟩
    exact ⟨by rw [HV.out.1, HV.out.2], below_drew ((qB.setCell (Nat.le_refl _) _).setCell (by simp) _)⟩
 | true =>
  cases hf : sufF 41 (preR 40 s) with
  | false =>
   have HV := Lib.hid (show flagsI s = 0 ∧ flagsE s (.iface ty xv) = .iface ty xv by
    have h : flagsOk s = false := by rw [flagsOk, brackF, hp, hf]; simp
    rw [flagsI, flagsE, h]; exact ⟨rfl, rfl⟩)
   have k0 := cell_of_one q0
   have k1 := cell_of_one q1
   have f0 := free_of_one q0
   have f1 := free_of_one q1
   have s0 := qS
   gi_wp2
   gi_region
   all_goals
    gi_wp2
    refine ⟨.tuple #[.int .i64 0, .iface ty xv], by simp [results, Tryz.results120, go_sem, k0, k1], ?_⟩
    exact ⟨by rw [HV.out.1, HV.out.2], below_drew ((qB.setCell (Nat.le_refl _) _).setCell (by simp) _)⟩
  | true =>
   cases hi : (innerS s).toList.isEmpty with
   | true =>
    have HV := Lib.hid (show flagsI s = 0 ∧ flagsE s (.iface ty xv) = .nilIface by
     have h : flagsOk s = true := by rw [flagsOk, brackF, hp, hf, hi]; rfl
     rw [flagsI, flagsE, h, hi]; exact ⟨rfl, rfl⟩)
    have k0 := cell_of_one q0
    have k1 := cell_of_one q1
    have f0 := free_of_one q0
    have f1 := free_of_one q1
    gi_wp2
    refine ⟨.tuple #[.int .i64 0, .nilIface], by simp [results, Tryz.results120, go_sem, k0, k1], ?_⟩
    exact ⟨by rw [HV.out.1, HV.out.2], (qB.setCell (Nat.le_refl _) _).setCell (by simp) _⟩
   | false =>
    have zi : (innerS s).size ≤ s.size := by
     have h1 : (innerS s).size ≤ (preR 40 s).size := by
      rw [innerS, ← bs_size, bs_sufL, ← bs_size]; split <;> simp
     omega
    gi_wp2_with fail
    refine ⟨trivial, ?_⟩
    refine (callsIn_wide.2 (splitSeq_walk _ _ _)).mono ?_
    rintro e w' ⟨rfl, rfl⟩
    gi_wp2_with fail
    obtain ⟨W2, hW2⟩ : ∃ W2, W2 = W1.alloc (Obj.cells #[.int .i64 0] 3) := ⟨_, rfl⟩
    have z2 : W2.heap.size = w.heap.size + 3 := by rw [hW2]; simp; omega
    have hB2 : Below W1.heap.size W1 W2 := by rw [hW2]; exact (Below.refl _ _).alloc (Nat.le_refl _) _
    have q2 : W2.heap[w.heap.size + 2]? = some (.cells #[.int .i64 0] 3 (0, 0)) := by
     rw [hW2, ← z1]; exact World.alloc_heap_new W1 _
    have hM : FlagMid w (.iface ty xv) [] W2 := ⟨Stay.below (T := fun _ => True) hB2 _ _ trivial q0, Stay.below (T := fun _ => True) hB2 _ _ trivial q1, q2, below_then qB hB2, sent_then qS hB2⟩
    rw [← hW2]
    clear hW2 q0 q1 q2 qB qS hB2
    have z0 := splitWorld_size W2 32 (innerS s)
    refine wpIn_split 3 (pb := W2.heap.size + 1) (sb := W2.heap.size) (zb := W2.heap.size + 2) (x := 32) (s0 := innerS s) rfl rfl (by omega) (by omega) (by omega) (splitWorld_box W2 32 (innerS s))
     (fun pre W => FlagAt w (.iface ty xv) pre W) (fun c pre W => c = .ret ∧ FlagEnd w (.iface ty xv) pre W)
     (fun pre W u h => h.cell u (by omega) zg)
     (fun pre W o hz h => h.put o (by omega) (by omega) zg)
     (fun c pre W o hz h => ⟨h.1, h.2.put o (by omega) (by omega)⟩)
     (fun o => ⟨rfl, hM.then ((((splitWorld_below W2 32 (innerS s))).alloc (by omega) _).alloc (by simp; omega) _)⟩)
     (fun p => { tmps := #[.string s, undef, .pointer (some ⟨w.heap.size, 0, none⟩), .pointer (some ⟨w.heap.size + 1, 0, none⟩), .string (innerS s), .bool true, .bool true, .pointer (some ⟨w.heap.size + 2, 0, none⟩), .string p, undef, undef, undef, .tuple #[.string (preR 40 s), .bool true], .string s, .tuple #[.string (preR 40 s), .bool true], .string (preR 40 s), .bool true, .tuple #[.string (innerS s), .bool true], .string (preR 40 s), .tuple #[.string (innerS s), .bool true], .string (innerS s), .bool true, .bool true, .bool false, .bool false, .bool true, .bool false, .bool false, undef, .string (innerS s), .bool false, .string (innerS s), splitFn W2, .string p, undef, undef, undef, undef, undef, undef, undef, undef, undef, undef, undef, undef, undef, undef, undef, undef, undef, undef], defers := [] })
     ?assign ?body ?done ?stop
    case assign =>
     intro l p W K hK
     gi_wp2
     exact hK
    case body =>
     intro l pre p sx W hI hBx hpz hlt
     have hm := hI.mid
     have HOK := Lib.hid hI.ok
     have HM := Lib.hid hm
     clear hI hBx hM hm
     gi_wp2_with fail
     refine ⟨trivial, ?_⟩
     refine (CallsIn.inRound l (callsIn_wide.2 (names_walk _))).mono ?_
     rintro e Wa ⟨rfl, hBa⟩
     have HWa := Lib.hid hBa
     have HMa := Lib.hid (HM.out.then hBa)
     clear hBa
     rw [namesV]
     gi_wp2_with fail
     gi_loopw [9, 35] (fun kn i wr => ∃ k : Nat, k ≤ 5 ∧ i = .int .i64 k ∧ kn = .int .i64 (knownK (bs p) k) ∧ Hid (FlagMid w (.iface ty xv) pre wr) ∧ Hid (Below W.heap.size W wr)) (fun _ i _ => 5 - (intOf i).toNat)
     case atStart => exact ⟨0, by omega, rfl, rfl, HMa, HWa⟩
     case round =>
      obtain ⟨k, hk, rfl, rfl, HMr, HWr⟩ := hrel
      have hk' : k = 0 ∨ k = 1 ∨ k = 2 ∨ k = 3 ∨ k = 4 ∨ k = 5 := by omega
      rcases hk' with rfl | rfl | rfl | rfl | rfl | rfl
      ·
       cases he : eqw (bs p) 0 with
       | true =>
        have E := Lib.hid (show sameS p (nameS 0) = true from he)
        have K := Lib.hid (show knownK (bs p) 1 = 1 by rw [knownK, if_pos he]; rfl)
        clear he
        generalize hkn : knownK (bs p) 0 = kn at *
        have nx := name_index 0 (by decide)
        generalize hki : ((0 : Nat) : Int) = ki at *
        gi_wp2_with fail
        refine ⟨trivial, ?_⟩
        refine (CallsIn.inRound l (callsIn_wide.2 (sameT_walk p (nameS 0) (by omega) (by decide) _))).mono ?_
        rintro e W' ⟨rfl, hb'⟩
        rw [E.out]
        have HW' := Lib.hid (below_then HWr.out hb')
        have HM' := Lib.hid (HMr.out.then hb')
        clear hb'
        gi_wp2
        go_roundw
        case rel => exact ⟨1, by omega, by go_num, by rw [K.out]; try (subst hki; first | rfl | (congr 1; done) | (congr 1; decide) | simp [RowKit.wrap64]), HM', HW'⟩
        case measure => subst hki; simp [intOf]
       | false =>
        have E := Lib.hid (show sameS p (nameS 0) = false from he)
        have K := Lib.hid (show knownK (bs p) 1 = knownK (bs p) 0 by simp only [knownK, he]; rfl)
        clear he
        generalize hkn : knownK (bs p) 0 = kn at *
        have nx := name_index 0 (by decide)
        generalize hki : ((0 : Nat) : Int) = ki at *
        gi_wp2_with fail
        refine ⟨trivial, ?_⟩
        refine (CallsIn.inRound l (callsIn_wide.2 (sameT_walk p (nameS 0) (by omega) (by decide) _))).mono ?_
        rintro e W' ⟨rfl, hb'⟩
        rw [E.out]
        have HW' := Lib.hid (below_then HWr.out hb')
        have HM' := Lib.hid (HMr.out.then hb')
        clear hb'
        gi_wp2
        go_roundw
        case rel => exact ⟨1, by omega, by go_num, by rw [K.out]; try (subst hki; first | rfl | (congr 1; done) | (congr 1; decide) | simp [RowKit.wrap64]), HM', HW'⟩
        case measure => subst hki; simp [intOf]
      ·
       cases he : eqw (bs p) 1 with
       | true =>
        have E := Lib.hid (show sameS p (nameS 1) = true from he)
        have K := Lib.hid (show knownK (bs p) 2 = 2 by rw [knownK, if_pos he]; rfl)
        clear he
        generalize hkn : knownK (bs p) 1 = kn at *
        have nx := name_index 1 (by decide)
        generalize hki : ((1 : Nat) : Int) = ki at *
        gi_wp2_with fail
        refine ⟨trivial, ?_⟩
        refine (CallsIn.inRound l (callsIn_wide.2 (sameT_walk p (nameS 1) (by omega) (by decide) _))).mono ?_
        rintro e W' ⟨rfl, hb'⟩
        rw [E.out]
        have HW' := Lib.hid (below_then HWr.out hb')
        have HM' := Lib.hid (HMr.out.then hb')
        clear hb'
        gi_wp2
        go_roundw
        case rel => exact ⟨2, by omega, by go_num, by rw [K.out]; try (subst hki; first | rfl | (congr 1; done) | (congr 1; decide) | simp [RowKit.wrap64]), HM', HW'⟩
        case measure => subst hki; simp [intOf]
       | false =>
        have E := Lib.hid (show sameS p (nameS 1) = false from he)
        have K := Lib.hid (show knownK (bs p) 2 = knownK (bs p) 1 by simp only [knownK, he]; rfl)
        clear he
        generalize hkn : knownK (bs p) 1 = kn at *
        have nx := name_index 1 (by decide)
        generalize hki : ((1 : Nat) : Int) = ki at *
        gi_wp2_with fail
        refine ⟨trivial, ?_⟩
        refine (CallsIn.inRound l (callsIn_wide.2 (sameT_walk p (nameS 1) (by omega) (by decide) _))).mono ?_
        rintro e W' ⟨rfl, hb'⟩
        rw [E.out]
        have HW' := Lib.hid (below_then HWr.out hb')
        have HM' := Lib.hid (HMr.out.then hb')
        clear hb'
        gi_wp2
        go_roundw
        case rel => exact ⟨2, by omega, by go_num, by rw [K.out]; try (subst hki; first | rfl | (congr 1; done) | (congr 1; decide) | simp [RowKit.wrap64]), HM', HW'⟩
        case measure => subst hki; simp [intOf]
      ·
       cases he : eqw (bs p) 2 with
       | true =>
        have E := Lib.hid (show sameS p (nameS 2) = true from he)
        have K := Lib.hid (show knownK (bs p) 3 = 4 by rw [knownK, if_pos he]; rfl)
        clear he
        generalize hkn : knownK (bs p) 2 = kn at *
        have nx := name_index 2 (by decide)
        generalize hki : ((2 : Nat) : Int) = ki at *
        gi_wp2_with fail
        refine ⟨trivial, ?_⟩
        refine (CallsIn.inRound l (callsIn_wide.2 (sameT_walk p (nameS 2) (by omega) (by decide) _))).mono ?_
        rintro e W' ⟨rfl, hb'⟩
        rw [E.out]
        have HW' := Lib.hid (below_then HWr.out hb')
        have HM' := Lib.hid (HMr.out.then hb')
        clear hb'
        gi_wp2
        go_roundw
        case rel => exact ⟨3, by omega, by go_num, by rw [K.out]; try (subst hki; first | rfl | (congr 1; done) | (congr 1; decide) | simp [RowKit.wrap64]), HM', HW'⟩
        case measure => subst hki; simp [intOf]
       | false =>
        have E := Lib.hid (show sameS p (nameS 2) = false from he)
        have K := Lib.hid (show knownK (bs p) 3 = knownK (bs p) 2 by simp only [knownK, he]; rfl)
        clear he
        generalize hkn : knownK (bs p) 2 = kn at *
        have nx := name_index 2 (by decide)
        generalize hki : ((2 : Nat) : Int) = ki at *
        gi_wp2_with fail
        refine ⟨trivial, ?_⟩
        refine (CallsIn.inRound l (callsIn_wide.2 (sameT_walk p (nameS 2) (by omega) (by decide) _))).mono ?_
        rintro e W' ⟨rfl, hb'⟩
        rw [E.out]
        have HW' := Lib.hid (below_then HWr.out hb')
        have HM' := Lib.hid (HMr.out.then hb')
        clear hb'
        gi_wp2
        go_roundw
        case rel => exact ⟨3, by omega, by go_num, by rw [K.out]; try (subst hki; first | rfl | (congr 1; done) | (congr 1; decide) | simp [RowKit.wrap64]), HM', HW'⟩
        case measure => subst hki; simp [intOf]
      ·
       cases he : eqw (bs p) 3 with
       | true =>
        have E := Lib.hid (show sameS p (nameS 3) = true from he)
        have K := Lib.hid (show knownK (bs p) 4 = 8 by rw [knownK, if_pos he]; rfl)
        clear he
        generalize hkn : knownK (bs p) 3 = kn at *
        have nx := name_index 3 (by decide)
        generalize hki : ((3 : Nat) : Int) = ki at *
        gi_wp2_with fail
        refine ⟨trivial, ?_⟩
        refine (CallsIn.inRound l (callsIn_wide.2 (sameT_walk p (nameS 3) (by omega) (by decide) _))).mono ?_
        rintro e W' ⟨rfl, hb'⟩
        rw [E.out]
        have HW' := Lib.hid (below_then HWr.out hb')
        have HM' := Lib.hid (HMr.out.then hb')
        clear hb'
        gi_wp2
        go_roundw
        case rel => exact ⟨4, by omega, by go_num, by rw [K.out]; try (subst hki; first | rfl | (congr 1; done) | (congr 1; decide) | simp [RowKit.wrap64]), HM', HW'⟩
        case measure => subst hki; simp [intOf]
       | false =>
        have E := Lib.hid (show sameS p (nameS 3) = false from he)
        have K := Lib.hid (show knownK (bs p) 4 = knownK (bs p) 3 by simp only [knownK, he]; rfl)
        clear he
        generalize hkn : knownK (bs p) 3 = kn at *
        have nx := name_index 3 (by decide)
        generalize hki : ((3 : Nat) : Int) = ki at *
        gi_wp2_with fail
        refine ⟨trivial, ?_⟩
        refine (CallsIn.inRound l (callsIn_wide.2 (sameT_walk p (nameS 3) (by omega) (by decide) _))).mono ?_
        rintro e W' ⟨rfl, hb'⟩
        rw [E.out]
        have HW' := Lib.hid (below_then HWr.out hb')
        have HM' := Lib.hid (HMr.out.then hb')
        clear hb'
        gi_wp2
        go_roundw
        case rel => exact ⟨4, by omega, by go_num, by rw [K.out]; try (subst hki; first | rfl | (congr 1; done) | (congr 1; decide) | simp [RowKit.wrap64]), HM', HW'⟩
        case measure => subst hki; simp [intOf]
      ·
       cases he : eqw (bs p) 4 with
       | true =>
        have E := Lib.hid (show sameS p (nameS 4) = true from he)
        have K := Lib.hid (show knownK (bs p) 5 = 16 by rw [knownK, if_pos he]; rfl)
        clear he
        generalize hkn : knownK (bs p) 4 = kn at *
        have nx := name_index 4 (by decide)
        generalize hki : ((4 : Nat) : Int) = ki at *
        gi_wp2_with fail
        refine ⟨trivial, ?_⟩
        refine (CallsIn.inRound l (callsIn_wide.2 (sameT_walk p (nameS 4) (by omega) (by decide) _))).mono ?_
        rintro e W' ⟨rfl, hb'⟩
        rw [E.out]
        have HW' := Lib.hid (below_then HWr.out hb')
        have HM' := Lib.hid (HMr.out.then hb')
        clear hb'
        gi_wp2
        go_roundw
        case rel => exact ⟨5, by omega, by go_num, by rw [K.out]; try (subst hki; first | rfl | (congr 1; done) | (congr 1; decide) | simp [RowKit.wrap64]), HM', HW'⟩
        case measure => subst hki; simp [intOf]
       | false =>
        have E := Lib.hid (show sameS p (nameS 4) = false from he)
        have K := Lib.hid (show knownK (bs p) 5 = knownK (bs p) 4 by simp only [knownK, he]; rfl)
        clear he
        generalize hkn : knownK (bs p) 4 = kn at *
        have nx := name_index 4 (by decide)
        generalize hki : ((4 : Nat) : Int) = ki at *
        gi_wp2_with fail
        refine ⟨trivial, ?_⟩
        refine (CallsIn.inRound l (callsIn_wide.2 (sameT_walk p (nameS 4) (by omega) (by decide) _))).mono ?_
        rintro e W' ⟨rfl, hb'⟩
        rw [E.out]
        have HW' := Lib.hid (below_then HWr.out hb')
        have HM' := Lib.hid (HMr.out.then hb')
        clear hb'
        gi_wp2
        go_roundw
        case rel => exact ⟨5, by omega, by go_num, by rw [K.out]; try (subst hki; first | rfl | (congr 1; done) | (congr 1; decide) | simp [RowKit.wrap64]), HM', HW'⟩
        case measure => subst hki; simp [intOf]
      ·
       have hwa : wordsOk (pre ++ [bs p]) = (wordsOk pre && !(knownK (bs p) 5 == 0)) := by simp [wordsOk]
       have HWN := Lib.hid (wordsI_snoc pre (bs p))
       have hgt : w.heap.size + 8 ≤ W.heap.size := by omega
       have zr : W.heap.size ≤ wr.heap.size := HWr.out.size
       generalize hkn : knownK (bs p) 5 = kn at *
       have r0 := HMr.out.r0
       have r1 := HMr.out.r1
       have r2 := HMr.out.r2
       have k0 := cell_of_one r0
       have k1 := cell_of_one r1
       have k2 := cell_of_one r2
       have f0 := free_of_one r0
       have f1 := free_of_one r1
       have f2 := free_of_one r2
       have s0 := HMr.out.sent
       cases hz : (kn == 0) with
       | true =>
        have HBad := Lib.hid (show wordsOk (pre ++ [bs p]) = false by rw [hwa, hz]; simp)
        have hend : FlagEnd w (.iface ty xv) (pre ++ [bs p]) ((wr.setCell ⟨w.heap.size, 0, none⟩ (.int .i64 0)).setCell ⟨w.heap.size + 1, 0, none⟩ (.iface ty xv)).drew :=
         ⟨HBad.out, setCell_other (one_setCell r0) _ (by simp), one_setCell (setCell_other r1 _ (by simp)), below_drew ((HMr.out.below.setCell (Nat.le_refl _) _).setCell (by simp) _)⟩
        have HEnd := Lib.hid hend
        clear hend hwa r0 r1 r2 hkn
        gi_wp2
        refine wpIn_three (by kernel_rfl) (by decide +kernel) (by decide +kernel) (by decide +kernel) (by decide +kernel) (by decide +kernel) ?_ ?_
        all_goals
         gi_wp2
         exact ⟨(Stay.below HWr.out).trans ((Stay.setCell _ _ (by unfold splitT; dsimp only; omega)).trans (Stay.setCell _ _ (by unfold splitT; dsimp only; omega))), rfl, HEnd.out⟩
       | false =>
        have HOk := Lib.hid (show wordsOk (pre ++ [bs p]) = true by rw [hwa, HOK.out, hz]; rfl)
        have hat : FlagAt w (.iface ty xv) (pre ++ [bs p]) (wr.setCell ⟨w.heap.size + 2, 0, none⟩ (.int .i64 (wordsI (pre ++ [bs p])))) :=
         ⟨HOk.out, ⟨setCell_other r0 _ (by simp), setCell_other r1 _ (by simp), one_setCell r2, HMr.out.below.setCell (by simp) _,
          (World.cell?_of_block (w := wr) (a := ⟨0, 0, none⟩) (Below.heap_setCell wr _ _ _ (by dsimp only; omega))).trans s0⟩⟩
        rw [HWN.out] at hat
        have HAt := Lib.hid hat
        clear hat hwa r0 r1 r2 hkn
        gi_wp2
        exact ⟨(Stay.below HWr.out).trans (Stay.setCell _ _ (by unfold splitT; dsimp only; omega)), HAt.out⟩
    case done =>
     intro W hI hK
     have hok : flagsOk s = true := by rw [flagsOk, brackF, hp, hf, hi, hI.ok]; rfl
     have HV := Lib.hid (show flagsI s = wordsI (splitB 32 (bs (innerS s))) ∧ flagsE s (.iface ty xv) = .nilIface by
      rw [flagsI, flagsE, hok, hi]; exact ⟨rfl, rfl⟩)
     have hm := hI.mid
     have R0 := Lib.hid hm.r0
     have R1 := Lib.hid hm.r1
     have HB := Lib.hid hm.below
     have k0 := cell_of_one hm.r0
     have k1 := cell_of_one hm.r1
     have k2 := cell_of_one hm.r2
     have f0 := free_of_one hm.r0
     have f1 := free_of_one hm.r1
     clear hm hI hok hM
     generalize wordsI (splitB 32 (bs (innerS s))) = N at *
     gi_wp2
     have hK2 : ((W.setCell ⟨w.heap.size, 0, none⟩ (.int .i64 N)).setCell ⟨w.heap.size + 1, 0, none⟩ .nilIface).heap[(splitWorld W2 32 (innerS s)).heap.size]? = some (.deferred (some [])) := setCell_other (setCell_other hK _ (by dsimp only; omega)) _ (by dsimp only; omega)
     have c2 : (((W.setCell ⟨w.heap.size, 0, none⟩ (.int .i64 N)).setCell ⟨w.heap.size + 1, 0, none⟩ .nilIface).putObj (splitWorld W2 32 (innerS s)).heap.size (.deferred none)).cell? ⟨w.heap.size, 0, none⟩ = some (.int .i64 N) :=
      cell_of_one ((World.putObj_heap_other (by omega)).trans (setCell_other (one_setCell R0.out) _ (by simp)))
     have c3 : (((W.setCell ⟨w.heap.size, 0, none⟩ (.int .i64 N)).setCell ⟨w.heap.size + 1, 0, none⟩ .nilIface).putObj (splitWorld W2 32 (innerS s)).heap.size (.deferred none)).cell? ⟨w.heap.size + 1, 0, none⟩ = some .nilIface :=
      cell_of_one ((World.putObj_heap_other (by omega)).trans (one_setCell (setCell_other R1.out _ (by simp))))
     refine ⟨by simp, .inl ⟨_, _, rfl, run_takeDeferred hK2, ?_⟩⟩
     refine ⟨.tuple #[.int .i64 N, .nilIface], by simp [results, Tryz.results120, go_sem, c2, c3], ?_⟩
     exact ⟨by rw [HV.out.1, HV.out.2], below_putObj ((HB.out.setCell (Nat.le_refl _) _).setCell (by simp) _) _ _ (by omega) (by simp; have := HB.out.size; omega)⟩
    case stop =>
     rintro c pre W hpre ⟨rfl, hE⟩ hK
     have hok : flagsOk s = false := by
      obtain ⟨t, ht⟩ := hpre
      have hb := hE.bad
      rw [flagsOk, hi, ← ht, wordsOk, List.all_append, ← wordsOk, hb]; simp
     have HV := Lib.hid (show flagsI s = 0 ∧ flagsE s (.iface ty xv) = .iface ty xv by
      rw [flagsI, flagsE, hok]; exact ⟨rfl, rfl⟩)
     clear hok
     gi_wp2
     have c2 : (W.putObj (splitWorld W2 32 (innerS s)).heap.size (.deferred none)).cell? ⟨w.heap.size, 0, none⟩ = some (.int .i64 0) :=
      cell_of_one ((World.putObj_heap_other (by omega)).trans hE.r0)
     have c3 : (W.putObj (splitWorld W2 32 (innerS s)).heap.size (.deferred none)).cell? ⟨w.heap.size + 1, 0, none⟩ = some (.iface ty xv) :=
      cell_of_one ((World.putObj_heap_other (by omega)).trans hE.r1)
     refine ⟨by simp, .inl ⟨_, _, rfl, run_takeDeferred hK, ?_⟩⟩
     refine ⟨.tuple #[.int .i64 0, .iface ty xv], by simp [results, Tryz.results120, go_sem, c2, c3], ?_⟩
     exact ⟨by rw [HV.out.1, HV.out.2], below_putObj hE.below _ _ (by omega) (by have := hE.below.size; omega)⟩
open Go.RowKit
open Pl (Bs idxB numOk numN setOk setL)
def encU (c : UInt8) : Value := .int .u8 (c.toNat : Int)
theorem own_text {w : World} {base n : Nat} {v : Value} {l : Bs} (hl : l.length = n) (h : w.ownsRow base 5 1 v n (l.map encU)) : (convert 46 9 v).run Tryz.prog w = .ok (.string (str l)) w := by
 subst hl
 rcases h.2 with ⟨rfl, h0⟩ | ⟨g, cap, cur, rfl, hb, hh, h1, h2, h3, h4⟩
 ·
  obtain rfl : l = [] := List.eq_nil_of_length_eq_zero h0
  rw [run_convert_bytes_string w _ _ 5 none 0 0 Tryz.underlying46 Tryz.underlying5 Tryz.underlying9]
  first
  | rfl
  | (simp [Conv.bytesToString]; done)
  | (simp [Conv.bytesToString]; rfl)
 ·
  refine run_convert_bytes_back w _ _ 5 _ cap l Tryz.underlying46 Tryz.underlying5 Tryz.underlying9 (fun j hj => ?_)
  exact h.cells (g := g) rfl j (encU l[j]) (by rw [List.getElem?_map, List.getElem?_eq_getElem hj]; rfl)
theorem infoU8 : (Tryz.prog.info? 5).map (fun i => (i.zero, i.size, i.bytes)) = some (some (.int .u8 0), 1, 1) := by kernel_rfl
theorem own_kept {w w1 : World} {base B : Nat} {e : TypeId} {size n : Nat} {v : Value} {xs : List Value} (h : w.ownsRow base e size v n xs) (hg : w.grownBy w1 (some B)) (hB : B < base) : w1.ownsRow base e size v n xs :=
 h.kept hg (by
  rcases hv : v.ownBlock with _ | k
  ·
   exact .inl rfl
  ·
   have := (h.lt k hv).1
   exact .inr (fun e => by have := Option.some.inj e; omega))
def TextPost (w : World) (B k : Nat) (o : Option (Bs × Bs)) (e : Ending) (w' : World) : Prop :=
 w.grownBy w' (some B) ∧ match o with | none => e = .panicked [wrongE] | some p => e = .returned (.string (str p.1)) ∧ Scn w' B p.2 k
theorem TextPost.bad {w w' : World} {B k : Nat} {o : Option (Bs × Bs)} (hG : w.grownBy w' (some B)) (ho : o = none) : TextPost w B k o (.panicked [wrongE]) w' := ⟨hG, by subst ho; rfl⟩
theorem TextPost.fin {w w' : World} {B k : Nat} {o : Option (Bs × Bs)} {x r : Bs} (hG : w.grownBy w' (some B)) (ho : o = some (x, r)) (hS : Scn w' B r k) : TextPost w B k o (.returned (.string (str x))) w' := ⟨hG, by subst ho; exact ⟨rfl, hS⟩⟩
theorem drop_cons {s l : Bs} {c : UInt8} {i : Nat} (h : s.drop i = c :: l) : ∃ hi : i < s.length, s[i] = c ∧ s.drop (i + 1) = l := by
 have hi : i < s.length := by
  refine Nat.lt_of_not_le fun hn => ?_
  rw [List.drop_eq_nil_of_le hn] at h; cases h
 rw [List.drop_eq_getElem_cons hi] at h
 exact ⟨hi, List.cons.inj h⟩
theorem encU_snoc (o : Bs) (c : UInt8) : (o ++ [c]).map encU = o.map encU ++ [.int .u8 (c.toNat : Int)] := by rw [List.map_append]; rfl
structure QuoSt (s o : Bs) (i : Nat) : Prop where
 le : i ≤ s.length
 few : o.length ≤ i
 spec : quotedB s = (quotedB (s.drop i)).map fun p => (o ++ p.1, p.2)
theorem quo_end (l : Bs) : quotedB (34 :: l) = some ([], l) := by cases l <;> simp [quotedB]
theorem quo_plain {l : Bs} {c : UInt8} (h1 : c ≠ 34) (h2 : c ≠ 92) (h3 : 32 ≤ c.toNat ∧ c.toNat < 127) : quotedB (c :: l) = (quotedB l).map fun p => (c :: p.1, p.2) := by
 rw [quotedB.eq_def]
 simp [h1, h2, h3]
theorem quo_bad2 {l : Bs} {c : UInt8} (h1 : c ≠ 34) (h2 : c ≠ 92) (h3 : ¬ (32 ≤ c.toNat ∧ c.toNat < 127)) : quotedB (c :: l) = none := by
 rw [quotedB.eq_def]
 simp [h1, h2, h3]
theorem QuoSt.fin {s o l : Bs} {i : Nat} (h : QuoSt s o i) (hd : s.drop i = 34 :: l) : quotedB s = some (o, l) := by
 rw [h.spec, hd, quo_end, Option.map_some]; rw [List.append_nil]
theorem QuoSt.bad {s o : Bs} {i : Nat} (h : QuoSt s o i) (hd : quotedB (s.drop i) = none) : quotedB s = none := by rw [h.spec, hd]; rfl
theorem QuoSt.plain {s o l : Bs} {c : UInt8} {i : Nat} (h : QuoSt s o i) (hd : s.drop i = c :: l) (h1 : c ≠ 34) (h2 : c ≠ 92) (h3 : 32 ≤ c.toNat ∧ c.toNat < 127) : QuoSt s (o ++ [c]) (i + 1) := by
 obtain ⟨hi, hc, hn⟩ := drop_cons hd
 refine ⟨by omega, by have := h.few; simp; omega, ?_⟩
 rw [h.spec, hd, hn]
 rw [quo_plain h1 h2 h3, Option.map_map]
 congr 1
 funext p
 simp
theorem QuoSt.esc {s o l : Bs} {d : UInt8} {i : Nat} (h : QuoSt s o i) (hd : s.drop i = 92 :: d :: l) (h3 : d = 34 ∨ d = 92) : QuoSt s (o ++ [d]) (i + 2) := by
 obtain ⟨hi, hc, hn⟩ := drop_cons hd
 obtain ⟨hi2, hc2, hn2⟩ := drop_cons hn
 refine ⟨by omega, by have := h.few; simp; omega, ?_⟩
 rw [h.spec, hd, hn2]
 have e : quotedB (92 :: d :: l) = (quotedB l).map fun p => (d :: p.1, p.2) := by rw [quotedB]; simp [h3]
 rw [e, Option.map_map]
 congr 1
 funext p
 simp
theorem quo_bad1 {l : Bs} {d : UInt8} (h3 : ¬ (d = 34 ∨ d = 92)) : quotedB (92 :: d :: l) = none := by rw [quotedB]; simp [h3]
theorem quoted_walk (B k : Nat) (s : Bs) (w : World) (h : Scn w B s k) :
  Calls Tryz.prog 97 #[scP B] w (TextPost w B k (quotedB s)) := by
 obtain ⟨i0, hi, hz0, hz1, hz2⟩ := info_parts infoU8
 have hBl := h.lt
 have hsm := h.small
 have zs := str_size s
 have H := Lib.hid h
 clear h
 go_enter Tryz.func97, Tryz.ntmps97
 go_wp2
 go_loopw [3, 4] (fun u i wr => ∃ (j : Nat) (o : Bs), i = .int .i64 j ∧ Hid (QuoSt s o j) ∧ Hid (wr.ownsRow w.heap.size 5 1 u o.length (o.map encU)) ∧ Hid (Scn wr B s k) ∧ Hid (w.grownBy wr (some B))) (fun _ i _ => s.length - (intOf i).toNat)
 case atStart => exact ⟨0, [], rfl, Lib.hid ⟨Nat.zero_le _, Nat.le_refl _, by simp⟩, Lib.hid (World.ownsRow_nil _ _ _ _), H, Lib.hid (grown_refl w _)⟩
 case round =>
  obtain ⟨j, o, rfl, HQ, HO, HS, HG⟩ := hrel
  obtain ⟨c0, c1, f0, f1⟩ := HS.out.cells
  have zw := HG.out.size
  have hjle := HQ.out.le
  have hole := HQ.out.few
  obtain ⟨D, hD⟩ : ∃ D, D = s.drop j := ⟨_, rfl⟩
  cases D with
  | nil =>
   have hjn : ¬ j < s.length := fun hn => by rw [List.drop_eq_getElem_cons hn] at hD; cases hD
   have HB := Lib.hid (HQ.out.bad (by rw [← hD]; rfl))
   clear hD
   go_wp2
   exact ⟨rfl, .bad HG.out HB.out⟩
  | cons c l =>
   obtain ⟨hj, hc, hn⟩ := drop_cons hD.symm
   have hjs : j < (str s).size := by omega
   have hcS : (str s)[j] = c := by rw [str_at]; exact hc
   by_cases e34 : c = 34
   ·
    subst e34
    have HF := Lib.hid (HQ.out.fin hD.symm)
    have HP := Lib.hid (HS.out.put l (by rw [← hn, List.length_drop]; omega))
    have HG2 := Lib.hid (grown_new HG.out (grown_put wr B 0 (.string (str l))) (fun k e => .inr (Option.some.inj e).symm))
    have hr : (str s).extract (j + 1) s.length = str l := by rw [str_drop, hn]
    have hx : ((str s)[j].toNat : Int) = 34 := by rw [hcS]; rfl
    have hcv := own_text rfl (own_kept HO.out (grown_put wr B 0 (.string (str l))) hBl)
    clear hD hn hcS hc
    generalize str l = L at *
    generalize str s = S at *
    go_wp2
    go_ret
    exact .fin HG2.out HF.out HP.out
   ·
    have h34 : ¬ (((str s)[j].toNat : Int) = 34) := by rw [hcS]; exact fun e => e34 ((byte_eq c 34 (by decide)).2 e)
    by_cases e92 : c = 92
    ·
     subst e92
     have hx : ((str s)[j].toNat : Int) = 92 := by rw [hcS]; rfl
     cases l with
     | nil =>
      have HB := Lib.hid (HQ.out.bad (by rw [← hD]; rfl))
      have hz : s.length = j + 1 := by
       have := congrArg List.length hD; simp only [List.length_cons, List.length_nil, List.length_drop] at this; omega
      clear hD hn hcS hc
      generalize str s = S at *
      go_wp2_with fail
      refine (must_no B _).mono ?_
      rintro e w' ⟨rfl, rfl⟩
      exact ⟨rfl, .bad HG.out HB.out⟩
     | cons d l =>
      obtain ⟨hj2, hc2, hn2⟩ := drop_cons hn
      have hj2s : j + 1 < (str s).size := by omega
      have hdS : (str s)[j + 1] = d := by rw [str_at]; exact hc2
      by_cases hd : d = 34 ∨ d = 92
      ·
       have HN := Lib.hid (HQ.out.esc hD.symm hd)
       have HE := Lib.hid (encU_snoc o d)
       have hlo : (o ++ [d]).length = o.length + 1 := by simp
       have HLO := Lib.hid hlo
       rcases hd with rfl | rfl
       ·
        have hx2 : ((str s)[j + 1].toNat : Int) = 34 := by rw [hdS]; rfl
        have hx3 : (str s)[j + 1].toNat = 34 := by rw [hdS]; rfl
        clear hD hn hcS hc hdS hc2 hn2 hlo
        generalize str s = S at *
        go_wp2_with fail
        refine (must_walk B _).mono ?_
        rintro e w' ⟨rfl, rfl⟩
        go_wp2_with (at_builtin; refine wpList_append_own _ rfl _ _ 46 rfl w.heap.size 5 i0 (.int .u8 0) 1 1 Tryz.underlying46 hi hz0 hz1 hz2 rfl (by decide) _ o.length _ rfl (HO.out.alloc _) ⟨wr.heap.size, 0, none⟩ 1 1 [.int .u8 34] rfl rfl ?a0 ?a1 ?a2 ?a3 ?a4 ?_)
        case a0 => exact cell_one_new wr (.int .u8 34) 5
        case a1 => simp [Value.oneCell']
        case a2 => unfold maxLen; omega
        case a3 => omega
        case a4 => simp; omega
        intro u' w9 hown hgr _
        have HO9 := Lib.hid hown
        have hlt := fun k e => (HO.out.lt k e).1
        have HG9 := Lib.hid (grown_new (grown_new HG.out (World.grownBy_alloc wr (Obj.cells #[.int .u8 34] 5) none) (fun k e => by cases e)) hgr (fun k e => .inl (hlt k e)))
        have HS9 := Lib.hid ((HS.out.kept (World.grownBy_alloc wr (Obj.cells #[.int .u8 34] 5) none) (by simp)).kept hgr (fun e => by have := hlt B e.symm; omega))
        clear hown hgr hlt
        go_wp2
        go_roundw
        case rel => exact ⟨j + 2, _, by go_num, HN, Lib.hid (by rw [HLO.out, HE.out]; exact HO9.out), HS9, HG9⟩
        case measure => simp [intOf]; omega
       ·
        have hx2 : ((str s)[j + 1].toNat : Int) = 92 := by rw [hdS]; rfl
        have hx3 : (str s)[j + 1].toNat = 92 := by rw [hdS]; rfl
        clear hD hn hcS hc hdS hc2 hn2 hlo
        generalize str s = S at *
        go_wp2_with fail
        refine (must_walk B _).mono ?_
        rintro e w' ⟨rfl, rfl⟩
        go_wp2_with (at_builtin; refine wpList_append_own _ rfl _ _ 46 rfl w.heap.size 5 i0 (.int .u8 0) 1 1 Tryz.underlying46 hi hz0 hz1 hz2 rfl (by decide) _ o.length _ rfl (HO.out.alloc _) ⟨wr.heap.size, 0, none⟩ 1 1 [.int .u8 92] rfl rfl ?b0 ?b1 ?b2 ?b3 ?b4 ?_)
        case b0 => exact cell_one_new wr (.int .u8 92) 5
        case b1 => simp [Value.oneCell']
        case b2 => unfold maxLen; omega
        case b3 => omega
        case b4 => simp; omega
        intro u' w9 hown hgr _
        have HO9 := Lib.hid hown
        have hlt := fun k e => (HO.out.lt k e).1
        have HG9 := Lib.hid (grown_new (grown_new HG.out (World.grownBy_alloc wr (Obj.cells #[.int .u8 92] 5) none) (fun k e => by cases e)) hgr (fun k e => .inl (hlt k e)))
        have HS9 := Lib.hid ((HS.out.kept (World.grownBy_alloc wr (Obj.cells #[.int .u8 92] 5) none) (by simp)).kept hgr (fun e => by have := hlt B e.symm; omega))
        clear hown hgr hlt
        go_wp2
        go_roundw
        case rel => exact ⟨j + 2, _, by go_num, HN, Lib.hid (by rw [HLO.out, HE.out]; exact HO9.out), HS9, HG9⟩
        case measure => simp [intOf]; omega
      ·
       have HB := Lib.hid (HQ.out.bad (by rw [← hD]; exact quo_bad1 hd))
       have hd1 : (((str s)[j + 1].toNat : Int) == 34) = false := by rw [hdS]; exact beq_eq_false_iff_ne.2 fun e => hd (.inl ((byte_eq d 34 (by decide)).2 e))
       have hd2 : (((str s)[j + 1].toNat : Int) == 92) = false := by rw [hdS]; exact beq_eq_false_iff_ne.2 fun e => hd (.inr ((byte_eq d 92 (by decide)).2 e))
       clear hD hn hcS hc hdS hc2 hn2
       generalize str s = S at *
       go_wp2_with fail
       refine (must_no B _).mono ?_
       rintro e w' ⟨rfl, rfl⟩
       exact ⟨rfl, .bad HG.out HB.out⟩
    ·
     have h92 : ¬ (((str s)[j].toNat : Int) = 92) := by rw [hcS]; exact fun e => e92 ((byte_eq c 92 (by decide)).2 e)
     by_cases h3 : 32 ≤ c.toNat ∧ c.toNat < 127
     ·
      have HN := Lib.hid (HQ.out.plain hD.symm e34 e92 h3)
      have HE := Lib.hid (encU_snoc o c)
      have HLO := Lib.hid (show (o ++ [c]).length = o.length + 1 by simp)
      obtain ⟨h3a, h3b⟩ := h3
      have hx : (str s)[j].toNat = c.toNat := by rw [hcS]
      clear hD hn hcS hc
      generalize str s = S at *
      have i1 : (32 : Int) ≤ (S[j].toNat : Int) := by omega
      have i2 : (S[j].toNat : Int) < 127 := by omega
      have HX := Lib.hid hx
      clear hx h3a h3b
      go_wp2_with fail
      refine (must_walk B _).mono ?_
      rintro e w' ⟨rfl, rfl⟩
      go_wp2_with (at_builtin; refine wpList_append_own _ rfl _ _ 46 rfl w.heap.size 5 i0 (.int .u8 0) 1 1 Tryz.underlying46 hi hz0 hz1 hz2 rfl (by decide) _ o.length _ rfl (HO.out.alloc _) ⟨wr.heap.size, 0, none⟩ 1 1 [.int .u8 (S[j].toNat : Int)] rfl rfl ?c0 ?c1 ?c2 ?c3 ?c4 ?_)
      case c0 => exact cell_one_new wr (.int .u8 (S[j].toNat : Int)) 5
      case c1 => simp [Value.oneCell']
      case c2 => unfold maxLen; omega
      case c3 => omega
      case c4 => simp; omega
      intro u' w9 hown hgr _
      have HO9 := Lib.hid hown
      have hlt := fun k e => (HO.out.lt k e).1
      have HG9 := Lib.hid (grown_new (grown_new HG.out (World.grownBy_alloc wr (Obj.cells #[.int .u8 (S[j].toNat : Int)] 5) none) (fun k e => by cases e)) hgr (fun k e => .inl (hlt k e)))
      have HS9 := Lib.hid ((HS.out.kept (World.grownBy_alloc wr (Obj.cells #[.int .u8 (S[j].toNat : Int)] 5) none) (by simp)).kept hgr (fun e => by have := hlt B e.symm; omega))
      clear hown hgr hlt
      go_wp2
      go_roundw
      case rel => exact ⟨j + 1, _, by go_num, HN, Lib.hid (by rw [HLO.out, HE.out, ← HX.out]; exact HO9.out), HS9, HG9⟩
      case measure => simp [intOf]; omega
     ·
      have HB := Lib.hid (HQ.out.bad (by rw [← hD]; exact quo_bad2 e34 e92 h3))
      have hx : (str s)[j].toNat = c.toNat := by rw [hcS]
      clear hD hn hcS hc
      generalize str s = S at *
      by_cases i1 : (32 : Int) ≤ (S[j].toNat : Int)
      ·
       have i2 : ¬ (S[j].toNat : Int) < 127 := by omega
       clear hx h3
       go_wp2_with fail
       refine (must_no B _).mono ?_
       rintro e w' ⟨rfl, rfl⟩
       exact ⟨rfl, .bad HG.out HB.out⟩
      ·
       clear hx h3
       go_wp2_with fail
       refine (must_no B _).mono ?_
       rintro e w' ⟨rfl, rfl⟩
       exact ⟨rfl, .bad HG.out HB.out⟩
open Go.RowKit
def largeB (c : UInt8) : UInt8 := if 97 ≤ c.toNat ∧ c.toNat ≤ 122 then c - 32 else c
def largeS (s : ByteArray) : ByteArray := ⟨((bs s).map largeB).toArray⟩
structure LargeSt (W : World) (g : Nat) (s : ByteArray) (k : Nat) : Prop where
 row : ∃ (cs : Array Value) (fr : Nat × Nat), W.heap[g]? = some (.cells cs 5 fr) ∧ s.size ≤ fr.1 ∧ s.size ≤ cs.size ∧ ∀ (j : Nat) (hj : j < s.size), cs[j]? = some (.int .u8 (((if j < k then largeB s[j] else s[j]).toNat : Nat) : Int))
theorem LargeSt.cell {W : World} {g k j : Nat} {s : ByteArray} (h : LargeSt W g s k) (hj : j < s.size) : W.cell? ⟨g, j, none⟩ = some (.int .u8 (((if j < k then largeB s[j] else s[j]).toNat : Nat) : Int)) ∧ W.frozen? ⟨g, j, none⟩ = false := by
 obtain ⟨cs, fr, h1, h2, h3, h4⟩ := h.row
 refine ⟨by simp [World.cell?, h1, h4 j hj], ?_⟩
 simp only [World.frozen?, h1]
 simp
 omega
theorem LargeSt.keep {W : World} {g k : Nat} {s : ByteArray} (hk : k < s.size) (h : LargeSt W g s k) (hs : largeB s[k] = s[k]) : LargeSt W g s (k + 1) := by
 obtain ⟨cs, fr, h1, h2, h3, h4⟩ := h.row
 refine ⟨cs, fr, h1, h2, h3, fun j hj => ?_⟩
 rw [h4 j hj]
 by_cases e : j = k
 ·
  subst e; rw [if_neg (by omega), if_pos (by omega), hs]
 ·
  by_cases e2 : j < k
  ·
   rw [if_pos e2, if_pos (by omega)]
  ·
   rw [if_neg e2, if_neg (by omega)]
theorem LargeSt.put {W : World} {g k : Nat} {s : ByteArray} (hk : k < s.size) (h : LargeSt W g s k) : LargeSt (W.setCell ⟨g, k, none⟩ (.int .u8 (((largeB s[k]).toNat : Nat) : Int))) g s (k + 1) := by
 obtain ⟨cs, fr, h1, h2, h3, h4⟩ := h.row
 refine ⟨cs.setIfInBounds k (.int .u8 (((largeB s[k]).toNat : Nat) : Int)), fr, by simp [World.setCell, Array.getElem?_modify, h1], h2, by simpa using h3, fun j hj => ?_⟩
 rw [Array.getElem?_setIfInBounds]
 by_cases e : k = j
 ·
  subst e; rw [if_pos rfl, if_pos (by omega), if_pos (by omega)]
 ·
  rw [if_neg e, h4 j hj]
  by_cases e2 : j < k
  ·
   rw [if_pos e2, if_pos (by omega)]
  ·
   rw [if_neg e2, if_neg (by omega)]
theorem large_up (c : UInt8) (h1 : 97 ≤ c.toNat) (h2 : c.toNat ≤ 122) : ((largeB c).toNat : Int) = (c.toNat : Int) - 97 + 65 := by
 rw [largeB, if_pos ⟨h1, h2⟩, UInt8.toNat_sub]
 have : (32 : UInt8).toNat = 32 := rfl
 omega
theorem large_not (c : UInt8) (h : ¬ (97 ≤ c.toNat ∧ c.toNat ≤ 122)) : largeB c = c := by rw [largeB, if_neg h]
theorem large_walk (s : ByteArray) (hs : s.size ≤ 1000000) (w : World) :
  Calls Tryz.prog 29 #[.string s] w fun e w' => e = .returned (.string (largeS s)) ∧ Below w.heap.size w w' := by
 obtain ⟨w1, cap, cs, fr, hcv, hB, hh, _, ⟨W, hw, rfl⟩, hcell⟩ := bytes_mark w s
 have hrun := run_bytes_of_string (P := Tryz.prog) w 9 46 5 s Tryz.underlying9 Tryz.underlying46 Tryz.underlying5
 rw [hcv] at hrun
 have hrun' := (Result.ok.inj hrun)
 have HS : LargeSt w1 w.heap.size s 0 := by
  refine ⟨_, _, by rw [hrun'.2]; exact World.alloc_heap_new w.drew _, ?_, ?_, fun j hj => ?_⟩
  ·
   simp [bytesRow]
  ·
   simp [bytesRow]
  ·
   rw [if_neg (by omega)]; exact bytesRow_at s _ j hj
 have HB := Lib.hid hB
 have HS0 := Lib.hid HS
 clear hB HS hrun hrun' hh hw hcell
 go_enter Tryz.func29, Tryz.ntmps29
 go_wp2
 clear hcv
 go_loopw [10] (fun i wr => ∃ k : Nat, k ≤ s.size ∧ i = .int .i64 k ∧ Hid (LargeSt wr w.heap.size s k) ∧ Hid (Below w.heap.size w wr)) (fun i _ => s.size - (intOf i).toNat)
 case atStart => exact ⟨0, Nat.zero_le _, rfl, HS0, HB⟩
 case round =>
  obtain ⟨k, hk, rfl, HS, HB⟩ := hrel
  have zs := HB.out.size
  by_cases hkn : k < s.size
  ·
   obtain ⟨c1, f1⟩ := HS.out.cell hkn
   rw [if_neg (Nat.lt_irrefl k)] at c1
   by_cases hu : 97 ≤ (s[k]'hkn).toNat ∧ (s[k]'hkn).toNat ≤ 122
   ·
    obtain ⟨u1, u2⟩ := hu
    have HN := Lib.hid (HS.out.put hkn)
    have HU := Lib.hid (large_up _ u1 u2)
    have HBn := Lib.hid (HB.out.setCell (p := ⟨w.heap.size, k, none⟩) (Nat.le_refl _) (.int .u8 (((largeB (s[k]'hkn)).toNat : Nat) : Int)))
    rw [HU.out] at HN HBn
    generalize (s[k]'hkn) = c at *
    have i1 : (97 : Int) ≤ (c.toNat : Int) := by omega
    have i2 : (c.toNat : Int) ≤ 122 := by omega
    go_wp2
    go_roundw
    case rel => exact ⟨k + 1, by omega, by go_num, HN, HBn⟩
    case measure => simp [intOf]; omega
   ·
    have HN := Lib.hid (HS.out.keep hkn (large_not _ hu))
    generalize (s[k]'hkn) = c at *
    by_cases i1 : (97 : Int) ≤ (c.toNat : Int)
    ·
     have i2 : ¬ (c.toNat : Int) ≤ 122 := by omega
     go_wp2
     go_roundw
     case rel => exact ⟨k + 1, by omega, by go_num, HN, HB⟩
     case measure => simp [intOf]; omega
    ·
     go_wp2
     go_roundw
     case rel => exact ⟨k + 1, by omega, by go_num, HN, HB⟩
     case measure => simp [intOf]; omega
  ·
   obtain rfl : k = s.size := by omega
   have hcv2 : (convert 46 9 (.slice (some ⟨w.heap.size, 0, none⟩) s.size cap)).run Tryz.prog wr = .ok (.string (largeS s)) wr := by
    have hl : ((bs s).map largeB).length = s.size := by rw [List.length_map, bs_size]
    have h := run_convert_bytes_back wr 46 9 5 ⟨w.heap.size, 0, none⟩ cap ((bs s).map largeB) Tryz.underlying46 Tryz.underlying5 Tryz.underlying9 (fun j hj => by
     have hj' : j < s.size := by omega
     rw [add_at]
     rw [(HS.out.cell hj').1, if_pos hj']
     simp [at_bs s j hj'])
    rw [hl] at h
    exact h
   go_wp2
   go_ret
   exact ⟨rfl, HB.out⟩
end Go.Proofs.YtgmfhldfdnnafaaGreatDoor
