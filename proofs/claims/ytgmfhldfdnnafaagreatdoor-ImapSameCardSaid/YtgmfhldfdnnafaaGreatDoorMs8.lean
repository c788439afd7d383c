/- A part of the proofs of the statements on chapter 21: walks of functions that they reach, and plain laws. What is proved is stated in the last text. Conditions: none of its own. -/
import Derived.Test.YtgmfhldfdnnafaaGreatDoorMs7
import Derived.BigQuiet
import Derived.Deep.CutRange
import Derived.Deep.RegionLaw
import Derived.Shelf.Strings.Split
set_option maxHeartbeats 8000000
set_option maxRecDepth 100000
set_option linter.unusedSimpArgs false
set_option linter.unusedVariables false
namespace Go.Proofs.YtgmfhldfdnnafaaGreatDoor
open Go.RowKit
open Pl (Bs idxB numOk numN setOk setL)
attribute [local go_sem ↓] Go.wp_at_zero Go.wp_at_succ
theorem six_cells {w : World} {b : Nat} {t : TypeId} {a0 a1 a2 a3 a4 a5 : Value} (h : w.heap[b]? = some (Obj.cells #[a0, a1, a2, a3, a4, a5] t)) : (w.cell? ⟨b, 0, none⟩ = some a0 ∧ w.cell? ⟨b, 1, none⟩ = some a1 ∧ w.cell? ⟨b, 2, none⟩ = some a2 ∧ w.cell? ⟨b, 3, none⟩ = some a3 ∧ w.cell? ⟨b, 4, none⟩ = some a4 ∧ w.cell? ⟨b, 5, none⟩ = some a5) ∧ w.frozen? ⟨b, 0, none⟩ = false ∧ w.frozen? ⟨b, 1, none⟩ = false ∧ w.frozen? ⟨b, 2, none⟩ = false ∧ w.frozen? ⟨b, 3, none⟩ = false ∧ w.frozen? ⟨b, 4, none⟩ = false ∧ w.frozen? ⟨b, 5, none⟩ = false := by
 refine ⟨⟨?_, ?_, ?_, ?_, ?_, ?_⟩, ?_, ?_, ?_, ?_, ?_, ?_⟩ <;> simp [World.cell?, World.frozen?, h]
theorem set6 (W : World) (b : Nat) (t : TypeId) (o0 o1 o2 o3 o4 o5 v0 v1 v2 v3 v4 v5 : Value) (h : W.heap[b]? = some (Obj.cells #[o0, o1, o2, o3, o4, o5] t)) :
  (((((((W.setCell ⟨b, 0, none⟩ v0).setCell ⟨b, 1, none⟩ v1).setCell ⟨b, 2, none⟩ v2).setCell ⟨b, 3, none⟩ v3).setCell ⟨b, 4, none⟩ v4).setCell ⟨b, 5, none⟩ v5).heap[b]? = some (Obj.cells #[v0, v1, v2, v3, v4, v5] t)) ∧ W.grownBy ((((((W.setCell ⟨b, 0, none⟩ v0).setCell ⟨b, 1, none⟩ v1).setCell ⟨b, 2, none⟩ v2).setCell ⟨b, 3, none⟩ v3).setCell ⟨b, 4, none⟩ v4).setCell ⟨b, 5, none⟩ v5) (some b) := by
 refine ⟨?_, ?_⟩
 ·
  have h0 := setCell_heap_same (i := 0) (v := v0) h
  have h1 := setCell_heap_same (i := 1) (v := v1) h0
  have h2 := setCell_heap_same (i := 2) (v := v2) h1
  have h3 := setCell_heap_same (i := 3) (v := v3) h2
  have h4 := setCell_heap_same (i := 4) (v := v4) h3
  have h5 := setCell_heap_same (i := 5) (v := v5) h4
  rw [h5]
  simp
 ·
  have g1 := (grown_put W b 0 v0).trans (grown_put (W.setCell ⟨b, 0, none⟩ v0) b 1 v1)
  generalize (W.setCell ⟨b, 0, none⟩ v0).setCell ⟨b, 1, none⟩ v1 = W1 at *
  have g2 := g1.trans (grown_put W1 b 2 v2)
  have g3 := g2.trans (grown_put _ b 3 v3)
  have g4 := g3.trans (grown_put _ b 4 v4)
  exact g4.trans (grown_put _ b 5 v5)
abbrev zeroKey : Obj := Obj.cells #[.string ⟨#[]⟩, .string ⟨#[]⟩, .string ⟨#[]⟩, .int .i64 0, .slice none 0 0, .slice none 0 0] 51
abbrev nameKey (nm : ByteArray) : Obj := Obj.cells #[.string nm, .string ⟨#[]⟩, .string ⟨#[]⟩, .int .i64 0, .slice none 0 0, .slice none 0 0] 51
structure KyPre (w : World) (B : Nat) (s : Bs) (k : Nat) (W : World) : Prop where
 gr : w.grownBy W (some B)
 sc : Scn W B s k
 box : W.heap[w.heap.size]? = some (Obj.cells #[scP B] 62)
 res : W.heap[w.heap.size + 1]? = some zeroKey
 old : B < w.heap.size
theorem KyPre.step {w : World} {B k k1 : Nat} {s s1 : Bs} {W W1 : World} (st : KyPre w B s k W) (hG : W.grownBy W1 (some B)) (hS : Scn W1 B s1 k1) : KyPre w B s1 k1 W1 := by
 have ho := st.old
 exact ⟨st.gr.trans hG, hS, (hG.block _ (Array.getElem?_eq_some_iff.1 st.box).1 (fun e => by have := Option.some.inj e; omega)).trans st.box, (hG.block _ (Array.getElem?_eq_some_iff.1 st.res).1 (fun e => by have := Option.some.inj e; omega)).trans st.res, ho⟩
theorem KyPre.below {w : World} {B k : Nat} {s : Bs} {W W1 : World} (st : KyPre w B s k W) (hB : Below W.heap.size W W1) : KyPre w B s k W1 := st.step (grown_below hB _) (st.sc.then hB)
theorem KyPre.room {w : World} {B k : Nat} {s : Bs} {W : World} (st : KyPre w B s k W) : w.heap.size + 2 ≤ W.heap.size := (Array.getElem?_eq_some_iff.1 st.res).1
structure KySt (w : World) (B h : Nat) (s : Bs) (k : Nat) (o : Obj) (W : World) : Prop where
 pre : KyPre w B s k W
 xb : W.heap[h]? = some o
 hlt : w.heap.size + 2 ≤ h
theorem KySt.step {w : World} {B h k k1 : Nat} {s s1 : Bs} {o : Obj} {W W1 : World} (st : KySt w B h s k o W) (hG : W.grownBy W1 (some B)) (hS : Scn W1 B s1 k1) : KySt w B h s1 k1 o W1 :=
 ⟨st.pre.step hG hS, (hG.block _ (Array.getElem?_eq_some_iff.1 st.xb).1 (fun e => by have := Option.some.inj e; have := st.hlt; have := st.pre.old; omega)).trans st.xb, st.hlt⟩
theorem KyPre.start {w : World} {B k : Nat} {s : Bs} (h : Scn w B s k) (hk : k + 1 ≤ 60) : KyPre w B s (k + 1) (((w.setCell ⟨B, 1, none⟩ (.int .i64 ((k : Int) + 1))).alloc (Obj.cells #[scP B] 62)).alloc zeroKey) := by
 have hlt := h.lt
 obtain ⟨w1, hw1⟩ : ∃ w1, w1 = w.setCell ⟨B, 1, none⟩ (.int .i64 ((k : Int) + 1)) := ⟨_, rfl⟩
 have hz : w1.heap.size = w.heap.size := by rw [hw1]; simp
 have hS1 : Scn w1 B s (k + 1) := by rw [hw1]; exact ⟨(setCell_heap_same h.heap).trans rfl, h.small, hk⟩
 have hG1 : w.grownBy w1 (some B) := by rw [hw1]; exact grown_put _ _ _ _
 rw [← hw1]
 have hB2 : Below w1.heap.size w1 ((w1.alloc (Obj.cells #[scP B] 62)).alloc zeroKey) := ((Below.refl _ _).alloc (Nat.le_refl _) _).alloc (by simp) _
 have hx1 : ((w1.alloc (Obj.cells #[scP B] 62)).alloc zeroKey).heap[w1.heap.size]? = some (Obj.cells #[scP B] 62) := (Below.heap_alloc _ _ _ (by simp)).trans (World.alloc_heap_new _ _)
 have hx2 : ((w1.alloc (Obj.cells #[scP B] 62)).alloc zeroKey).heap[w1.heap.size + 1]? = some zeroKey := by
  have := World.alloc_heap_new (w1.alloc (Obj.cells #[scP B] 62)) zeroKey; rw [World.size_alloc] at this; exact this
 rw [hz] at hx1 hx2
 exact ⟨hG1.trans (grown_below hB2 _), hS1.then hB2, hx1, hx2, hlt⟩
theorem KyPre.draw {w : World} {B k : Nat} {s : Bs} {W : World} (st : KyPre w B s k W) : KyPre w B s k W.drew := ⟨st.gr.trans ⟨rfl, rfl, rfl, Nat.le_refl _, fun _ _ _ => rfl⟩, st.sc.draws 1, st.box, st.res, st.old⟩
theorem KyPre.name {w : World} {B k : Nat} {s : Bs} {W : World} (st : KyPre w B s k W) (nm : ByteArray) : KySt w B W.heap.size s k (nameKey nm) (W.alloc (nameKey nm)) :=
 ⟨st.below ((Below.refl _ _).alloc (Nat.le_refl _) _), World.alloc_heap_new _ _, st.room⟩
theorem KeyPost.bad {w w' : World} {B : Nat} {o : Option (KeyP × Bs × Nat)} (hG : w.grownBy w' (some B)) (ho : o = none) : KeyPost w B o (.panicked [wrongE]) w' := ⟨hG, by subst ho; rfl⟩
theorem KyPre.fin {w : World} {B k : Nat} {s : Bs} {W W' : World} (st : KyPre w B s k W) {o : Option (KeyP × Bs × Nat)} {x : KeyP} {As Ak : Option Addr} {cs ck : Nat} {kcs : List Value} (ho : o = some (x, s, k)) (hg : W.grownBy W' (some (w.heap.size + 1)))
  (hP : KeyAt W (fun i => w.heap.size + 2 ≤ i ∧ i < W.heap.size) (.slice As x.set.length cs) (.slice Ak x.kids.length ck) kcs x) :
  KeyPost w B o (.returned (.agg #[.string (str x.name), .string (str x.text), .string (str x.field), .int .i64 x.n, .slice As x.set.length cs, .slice Ak x.kids.length ck])) W' := by
 subst ho
 have ho := st.old
 refine ⟨grown_new st.gr hg (fun k e => .inl (by have := Option.some.inj e; omega)), As, cs, Ak, ck, kcs, rfl, ?_, st.sc.kept hg (fun e => by have := Option.some.inj e; omega)⟩
 exact (hP.kept (fun i hi => hg.block i hi.2 (fun e => by have := Option.some.inj e; omega))).more (fun i hi => ⟨by omega, Nat.lt_of_lt_of_le hi.2 hg.size⟩)
theorem keyAt_bare (W : World) (T : Nat → Prop) (nm tx fd : Bs) (n : Int) : KeyAt W T (.slice none 0 0) (.slice none 0 0) [] (.mk nm tx fd n [] []) := ⟨rowC_nil _ _ _, rowC_nil _ _ _, .nil⟩
open Go.RowKit
open Pl (Bs idxB numOk numN setOk setL)
def zeroKeyL : List Value := [.string ⟨#[]⟩, .string ⟨#[]⟩, .string ⟨#[]⟩, .int .i64 0, .slice none 0 0, .slice none 0 0]
structure AkSt (base : Nat) (D i : Nat) (u : Value) (n : Nat) (acc : List KeyP) (cs : List Value) (T : Nat → Prop) (ds : Array Value) (t : TypeId) (W : World) : Prop where
 cmd : W.heap[D]? = some (Obj.cells ds t)
 at_ : ds[i]? = some u
 own : W.ownsRow base 51 6 u n cs
 its : KeysC W T acc cs
 len : n = acc.length
 fr : ∀ j, T j → base ≤ j ∧ j < W.heap.size ∧ u.ownBlock ≠ some j
 lt : D < base ∧ base ≤ W.heap.size
theorem AkSt.step {base D i n B : Nat} {u : Value} {acc : List KeyP} {cs : List Value} {T : Nat → Prop} {ds : Array Value} {t : TypeId} {W W1 : World} (st : AkSt base D i u n acc cs T ds t W) (hG : W.grownBy W1 (some B)) (hB : B < base) (hBD : B ≠ D) : AkSt base D i u n acc cs T ds t W1 := by
 obtain ⟨h1, h2⟩ := st.lt
 have hz := hG.size
 refine ⟨(hG.block D (Array.getElem?_eq_some_iff.1 st.cmd).1 (fun e => hBD (Option.some.inj e).symm)).trans st.cmd, st.at_, own_kept st.own hG hB, st.its.kept (fun j hj => ?_), st.len, fun j hj => ?_, h1, by omega⟩
 ·
  have := st.fr j hj; exact hG.block j this.2.1 (fun e => by have := Option.some.inj e; omega)
 ·
  have := st.fr j hj; exact ⟨this.1, by omega, this.2.2⟩
theorem AkSt.below {base D i n : Nat} {u : Value} {acc : List KeyP} {cs : List Value} {T : Nat → Prop} {ds : Array Value} {t : TypeId} {W W1 : World} (st : AkSt base D i u n acc cs T ds t W) (hB : Below W.heap.size W W1) : AkSt base D i u n acc cs T ds t W1 := by
 obtain ⟨h1, h2⟩ := st.lt
 have hz := hB.size
 refine ⟨(hB.block D (Array.getElem?_eq_some_iff.1 st.cmd).1).trans st.cmd, st.at_, own_below st.own hB, st.its.kept (fun j hj => hB.block j (st.fr j hj).2.1), st.len, fun j hj => ?_, h1, by omega⟩
 have := st.fr j hj; exact ⟨this.1, by omega, this.2.2⟩
theorem AkSt.cell {base D i n : Nat} {u : Value} {acc : List KeyP} {cs : List Value} {T : Nat → Prop} {ds : Array Value} {t : TypeId} {W : World} (st : AkSt base D i u n acc cs T ds t W) : W.cell? ⟨D, i, none⟩ = some u ∧ W.frozen? ⟨D, i, none⟩ = false := by
 have h := st.cmd
 have h2 := st.at_
 refine ⟨?_, ?_⟩ <;> simp [World.cell?, World.frozen?, h, h2]
structure AkMid (base : Nat) (D i : Nat) (u : Value) (n : Nat) (acc : List KeyP) (cs : List Value) (T : Nat → Prop) (ds : Array Value) (t : TypeId) (z : Nat) (T1 : Nat → Prop) (vs vk : Value) (kcs : List Value) (x : KeyP) (W : World) : Prop where
 st : AkSt base D i u n acc cs T ds t W
 zero : W.heap[z]? = some (Obj.cells zeroKeyL.toArray 51)
 key : KeyAt W T1 vs vk kcs x
 fr1 : ∀ j, T1 j → base ≤ j ∧ j < W.heap.size ∧ u.ownBlock ≠ some j
 zlt : base ≤ z
theorem AkMid.ofKey {base D i n B : Nat} {u : Value} {acc : List KeyP} {cs : List Value} {T : Nat → Prop} {ds : Array Value} {t : TypeId} {W W1 : World} (st : AkSt base D i u n acc cs T ds t W) (hG : W.grownBy W1 (some B)) (hB : B < base) (hBD : B ≠ D) {vs vk : Value} {kcs : List Value} {x : KeyP} (hP : KeyAt W1 (newT W W1) vs vk kcs x) :
  AkMid base D i u n acc cs T ds t W1.heap.size (newT W W1) vs vk kcs x (W1.alloc (Obj.cells zeroKeyL.toArray 51)) := by
 obtain ⟨h1, h2⟩ := st.lt
 have s1 := st.step hG hB hBD
 have hA : Below W1.heap.size W1 (W1.alloc (Obj.cells zeroKeyL.toArray 51)) := (Below.refl _ _).alloc (Nat.le_refl _) _
 refine ⟨s1.below hA, World.alloc_heap_new _ _, hP.kept (fun j hj => hA.block j hj.2), fun j hj => ⟨Nat.le_trans h2 hj.1, Nat.lt_of_lt_of_le hj.2 hA.size, fun e => ?_⟩, Nat.le_trans h2 hG.size⟩
 have := (st.own.lt j e).2
 have := hj.1
 omega
theorem AkMid.ofZero {base D i n B : Nat} {u : Value} {acc : List KeyP} {cs : List Value} {T : Nat → Prop} {ds : Array Value} {t : TypeId} {W W1 : World} (st : AkSt base D i u n acc cs T ds t W) (hG : (W.alloc (Obj.cells zeroKeyL.toArray 51)).grownBy W1 (some B)) (hB : B < base) (hBD : B ≠ D) {vs vk : Value} {kcs : List Value} {x : KeyP} (hP : KeyAt W1 (newT (W.alloc (Obj.cells zeroKeyL.toArray 51)) W1) vs vk kcs x) :
  AkMid base D i u n acc cs T ds t W.heap.size (newT (W.alloc (Obj.cells zeroKeyL.toArray 51)) W1) vs vk kcs x W1 := by
 obtain ⟨h1, h2⟩ := st.lt
 have hA : Below W.heap.size W (W.alloc (Obj.cells zeroKeyL.toArray 51)) := (Below.refl _ _).alloc (Nat.le_refl _) _
 have s1 := (st.below hA).step hG hB hBD
 refine ⟨s1, (hG.block _ (by simp) (fun e => by have := Option.some.inj e; omega)).trans (World.alloc_heap_new _ _), hP, fun j hj => ⟨by have := hj.1; simp at this; omega, hj.2, fun e => ?_⟩, h2⟩
 have := (st.own.lt j e).2
 have h3 := hj.1
 simp at h3
 omega
def put6 (W : World) (g o : Nat) (v0 v1 v2 v3 v4 v5 : Value) : World := ((((((W.setCell ⟨g, o, none⟩ v0).setCell ⟨g, o + 1, none⟩ v1).setCell ⟨g, o + 2, none⟩ v2).setCell ⟨g, o + 3, none⟩ v3).setCell ⟨g, o + 4, none⟩ v4).setCell ⟨g, o + 5, none⟩ v5)
theorem put6_grown (W : World) (g o : Nat) (v0 v1 v2 v3 v4 v5 : Value) : W.grownBy (put6 W g o v0 v1 v2 v3 v4 v5) (some g) := by
 have g1 := (grown_put W g o v0).trans (grown_put _ g (o + 1) v1)
 have g2 := g1.trans (grown_put _ g (o + 2) v2)
 have g3 := g2.trans (grown_put _ g (o + 3) v3)
 have g4 := g3.trans (grown_put _ g (o + 4) v4)
 exact g4.trans (grown_put _ g (o + 5) v5)
theorem put6_heap {W : World} {g o : Nat} {cur : Array Value} {t : TypeId} (h : W.heap[g]? = some (Obj.cells cur t)) (v0 v1 v2 v3 v4 v5 : Value) : (put6 W g o v0 v1 v2 v3 v4 v5).heap[g]? = some (Obj.cells ((((((cur.setIfInBounds o v0).setIfInBounds (o + 1) v1).setIfInBounds (o + 2) v2).setIfInBounds (o + 3) v3).setIfInBounds (o + 4) v4).setIfInBounds (o + 5) v5) t) :=
 setCell_heap_same (setCell_heap_same (setCell_heap_same (setCell_heap_same (setCell_heap_same (setCell_heap_same h)))))
theorem put6_take (cur : Array Value) (o : Nat) (xs zs : List Value) (v0 v1 v2 v3 v4 v5 : Value) (h : cur.toList.take (o + 6) = xs ++ zs) (hx : xs.length = o) (hz : zs.length = 6) (hc : o + 6 ≤ cur.size) :
  ((((((cur.setIfInBounds o v0).setIfInBounds (o + 1) v1).setIfInBounds (o + 2) v2).setIfInBounds (o + 3) v3).setIfInBounds (o + 4) v4).setIfInBounds (o + 5) v5).toList.take (o + 6) = xs ++ [v0, v1, v2, v3, v4, v5] := by
 apply List.ext_getElem?
 intro j
 have hl : cur.toList.length = cur.size := by simp
 have hj : (cur.toList.take (o + 6))[j]? = (xs ++ zs)[j]? := by rw [h]
 rw [List.getElem?_take] at hj ⊢
 by_cases hjo : j < o + 6
 ·
  rw [if_pos hjo] at hj ⊢
  simp only [Array.toList_setIfInBounds, List.getElem?_set, List.length_set, hl]
  by_cases hj2 : j < o
  ·
   rw [List.getElem?_append_left (by omega)] at hj ⊢
   rw [← hj]
   repeat (first | rw [if_neg (by omega)] | rfl)
  ·
   rw [List.getElem?_append_right (by omega), hx]
   obtain ⟨m, rfl⟩ : ∃ m, j = o + m := ⟨j - o, by omega⟩
   rw [show o + m - o = m by omega]
   have hm : m = 0 ∨ m = 1 ∨ m = 2 ∨ m = 3 ∨ m = 4 ∨ m = 5 := by omega
   rcases hm with rfl | rfl | rfl | rfl | rfl | rfl
   all_goals
    simp
    try omega
 ·
  rw [if_neg hjo, List.getElem?_append_right (by omega), hx]
  exact (List.getElem?_eq_none (by simp only [List.length_cons, List.length_nil]; omega)).symm
structure AkNew (base : Nat) (D i : Nat) (n g cap : Nat) (ds : Array Value) (t : TypeId) (W9 : World) : Prop where
 cmd : W9.heap[D]? = some (Obj.cells ds t)
 gb : base ≤ g
 gD : g ≠ D
 cells : ∀ j v, zeroKeyL[j]? = some v → W9.cell? ⟨g, n * 6 + j, none⟩ = some v ∧ W9.frozen? ⟨g, n * 6 + j, none⟩ = false
theorem AkMid.new {base D i n z g cap : Nat} {u : Value} {acc : List KeyP} {cs : List Value} {T T1 : Nat → Prop} {ds : Array Value} {t : TypeId} {vs vk : Value} {kcs : List Value} {x : KeyP} {W W9 : World} (m : AkMid base D i u n acc cs T ds t z T1 vs vk kcs x W)
  (hown : W9.ownsRow base 51 6 (.slice (some ⟨g, 0, none⟩) (n + 1) cap) (n + 1) (cs ++ zeroKeyL)) (hgr : W.grownBy W9 u.ownBlock) : AkNew base D i n g cap ds t W9 := by
 obtain ⟨h1, h2⟩ := m.st.lt
 have hu : ∀ k, u.ownBlock = some k → base ≤ k := fun k e => (m.st.own.lt k e).1
 have hgb : base ≤ g := (hown.lt g rfl).1
 have hcl : cs.length = n * 6 := m.st.own.1
 refine ⟨(hgr.block D (Array.getElem?_eq_some_iff.1 m.st.cmd).1 (fun e => by have := hu D e.symm; omega)).trans m.st.cmd, hgb, by omega, fun j v hj => ⟨?_, ?_⟩⟩
 ·
  have := hown.cells (g := g) rfl (n * 6 + j) v (by rw [List.getElem?_append_right (by omega), hcl, Nat.add_sub_cancel_left]; exact hj)
  rw [add_at] at this
  exact this
 ·
  rcases hown.2 with ⟨h, _⟩ | ⟨g', cap', cur, hv, _, hh, _, _, _, _⟩
  ·
   cases h
  ·
   simp only [Value.slice.injEq, Option.some.injEq, Addr.mk.injEq] at hv
   obtain ⟨⟨rfl, _⟩, _⟩ := hv
   simp [World.frozen?, hh]
theorem AkMid.own6 {base n g cap : Nat} {cs : List Value} {W9 : World} (hown : W9.ownsRow base 51 6 (.slice (some ⟨g, 0, none⟩) (n + 1) cap) (n + 1) (cs ++ zeroKeyL)) (hcl : cs.length = n * 6) (v0 v1 v2 v3 v4 v5 : Value) :
  (put6 W9 g (n * 6) v0 v1 v2 v3 v4 v5).ownsRow base 51 6 (.slice (some ⟨g, 0, none⟩) (n + 1) cap) (n + 1) (cs ++ [v0, v1, v2, v3, v4, v5]) := by
 rcases hown.2 with ⟨h, _⟩ | ⟨g', cap', cur, hv, hb, hh, hn, hm, hc, ht⟩
 ·
  cases h
 ·
  simp only [Value.slice.injEq, Option.some.injEq, Addr.mk.injEq] at hv
  obtain ⟨⟨rfl, _⟩, _, rfl⟩ := hv
  refine ⟨by simp [hcl]; omega, .inr ⟨g, cap, _, rfl, hb, put6_heap hh v0 v1 v2 v3 v4 v5, hn, hm, by simpa using hc, ?_⟩⟩
  have h6 : (n + 1) * 6 = n * 6 + 6 := by omega
  rw [h6] at ht ⊢
  exact put6_take cur (n * 6) cs zeroKeyL v0 v1 v2 v3 v4 v5 ht hcl rfl (by rw [hc]; have := Nat.mul_le_mul_right 6 hn; omega)
theorem AkMid.fin {base D i n z g cap : Nat} {u : Value} {acc : List KeyP} {cs : List Value} {T T1 : Nat → Prop} {ds : Array Value} {t : TypeId} {vs vk : Value} {kcs : List Value} {x : KeyP} {W W9 W' : World} (m : AkMid base D i u n acc cs T ds t z T1 vs vk kcs x W)
  (hown : W9.ownsRow base 51 6 (.slice (some ⟨g, 0, none⟩) (n + 1) cap) (n + 1) (cs ++ zeroKeyL)) (hgr : W.grownBy W9 u.ownBlock) (hat : u.ownBlock = some g ∨ g = W.heap.size) (hi : i < ds.size)
  (hW : W' = (put6 W9 g (n * 6) (.string (str x.name)) (.string (str x.text)) (.string (str x.field)) (.int .i64 x.n) vs vk).setCell ⟨D, i, none⟩ (.slice (some ⟨g, 0, none⟩) (n + 1) cap) ∨ W' = put6 (W9.setCell ⟨D, i, none⟩ (.slice (some ⟨g, 0, none⟩) (n + 1) cap)) g (n * 6) (.string (str x.name)) (.string (str x.text)) (.string (str x.field)) (.int .i64 x.n) vs vk) :
  AkSt base D i (.slice (some ⟨g, 0, none⟩) (n + 1) cap) (n + 1) (acc ++ [x]) (cs ++ keyC vs vk x) (fun j => T j ∨ T1 j) (ds.setIfInBounds i (.slice (some ⟨g, 0, none⟩) (n + 1) cap)) t W' := by
 obtain ⟨h1, h2⟩ := m.st.lt
 have nw := m.new hown hgr (cap := cap)
 have hz := hgr.size
 have hcl : cs.length = n * 6 := m.st.own.1
 have hgb := nw.gb
 have hgD := nw.gD
 have hu : ∀ k, u.ownBlock = some k → base ≤ k := fun k e => (m.st.own.lt k e).1
 have hall : ∀ j, (T j ∨ T1 j) → base ≤ j ∧ j < W.heap.size ∧ u.ownBlock ≠ some j := fun j hj => by
  rcases hj with hj | hj
  ·
   exact m.st.fr j hj
  ·
   exact m.fr1 j hj
 have hjg : ∀ j, (T j ∨ T1 j) → j ≠ g := fun j hj e => by
  have := hall j hj
  rcases hat with h | h
  ·
   exact this.2.2 (by rw [h, e])
  ·
   omega
 have key : ∀ W', (∀ j, j ≠ g → j ≠ D → W'.heap[j]? = W9.heap[j]?) → W'.heap.size = W9.heap.size → W'.heap[D]? = some (Obj.cells (ds.setIfInBounds i (.slice (some ⟨g, 0, none⟩) (n + 1) cap)) t) → W'.ownsRow base 51 6 (.slice (some ⟨g, 0, none⟩) (n + 1) cap) (n + 1) (cs ++ keyC vs vk x) → AkSt base D i (.slice (some ⟨g, 0, none⟩) (n + 1) cap) (n + 1) (acc ++ [x]) (cs ++ keyC vs vk x) (fun j => T j ∨ T1 j) (ds.setIfInBounds i (.slice (some ⟨g, 0, none⟩) (n + 1) cap)) t W' := fun W' e1 e2 e3 e4 => by
  refine ⟨e3, by simp [hi], e4, ?_, by rw [List.length_append, List.length_singleton, m.st.len], fun j hj => ?_, h1, by omega⟩
  ·
   refine KeysC.kept (w := W) (KeysC.snoc (m.st.its.more (fun j hj => .inl hj)) (m.key.set.more (fun j hj => .inr hj)) (m.key.row.more (fun j hj => .inr hj)) (m.key.kids.more (fun j hj => .inr hj))) (fun j hj => ?_)
   have := hall j hj
   exact (e1 j (hjg j hj) (by omega)).trans (hgr.block j this.2.1 (fun e => this.2.2 e.symm))
  ·
   have := hall j hj
   refine ⟨this.1, by omega, fun e => hjg j hj ?_⟩
   simpa [Value.ownBlock] using e.symm
 have hput : ∀ V : World, ∀ j, j ≠ g → (put6 V g (n * 6) (.string (str x.name)) (.string (str x.text)) (.string (str x.field)) (.int .i64 x.n) vs vk).heap[j]? = V.heap[j]? := fun V j hj => by
  simp only [put6]
  repeat rw [Below.heap_setCell _ _ _ _ (by dsimp only; exact hj)]
 have hsz : ∀ V : World, (put6 V g (n * 6) (.string (str x.name)) (.string (str x.text)) (.string (str x.field)) (.int .i64 x.n) vs vk).heap.size = V.heap.size := fun V => by simp [put6]
 rcases hW with rfl | rfl
 ·
  refine key _ (fun j hj hj2 => (Below.heap_setCell _ _ _ _ (by dsimp only; exact hj2)).trans (hput _ j hj)) (by simp [hsz]) (setCell_heap_same ((hput _ D (fun e => hgD e.symm)).trans nw.cmd)) ?_
  exact ownsRow_setCell_below (AkMid.own6 hown hcl _ _ _ _ _ _) (by dsimp only; omega) _
 ·
  refine key _ (fun j hj hj2 => (hput _ j hj).trans (Below.heap_setCell _ _ _ _ (by dsimp only; exact hj2))) (by simp [hsz]) ((hput _ D (fun e => hgD e.symm)).trans (setCell_heap_same nw.cmd)) ?_
  exact AkMid.own6 (ownsRow_setCell_below hown (by dsimp only; omega) _) hcl _ _ _ _ _ _
open Go.RowKit
open Pl (Bs idxB numOk numN setOk setL)
attribute [local go_sem ↓] Go.wp_at_zero Go.wp_at_succ
def keysLoop (sub : Rd KeyP) : Nat → Rd (List KeyP)
 | 0, _, _ => none
 | m + 1, s, k => match isB [32] s with
  | none => some ([], s, k)
  | some s1 => match sub s1 k with
   | none => none
   | some (x, s2, k2) => (keysLoop sub m s2 k2).map fun p => (x :: p.1, p.2)
def charsetN : Bs := [67, 72, 65, 82, 83, 69, 84, 32]
structure LoSt (sub : Rd KeyP) (l : List KeyP) (r : Bs) (kk : Nat) (acc : List KeyP) (s : Bs) (k m : Nat) : Prop where
 room : s.length < m
 few : acc.length + m ≤ 1000002
 spec : some (l, r, kk) = (keysLoop sub m s k).map fun p => (acc ++ p.1, p.2)
theorem LoSt.stop {sub : Rd KeyP} {l : List KeyP} {r : Bs} {kk : Nat} {acc : List KeyP} {s : Bs} {k m : Nat} (h : LoSt sub l r kk acc s k m) (h1 : isB [32] s = none) : l = acc ∧ r = s ∧ kk = k := by
 cases m with
 | zero => exact absurd h.room (Nat.not_lt_zero _)
 | succ m =>
  have e := h.spec
  rw [keysLoop, h1] at e
  simpa using e
theorem LoSt.next {sub : Rd KeyP} (hlen : ∀ s k p, sub s k = some p → p.2.1.length ≤ s.length) {l : List KeyP} {r : Bs} {kk : Nat} {acc : List KeyP} {s s1 : Bs} {k m : Nat} (h : LoSt sub l r kk acc s k m) (h1 : isB [32] s = some s1) : ∃ x s2 k2 m2, sub s1 k = some (x, s2, k2) ∧ s2.length < s.length ∧ LoSt sub l r kk (acc ++ [x]) s2 k2 m2 := by
 cases m with
 | zero => exact absurd h.room (Nat.not_lt_zero _)
 | succ m =>
  have e := h.spec
  rw [keysLoop, h1] at e
  cases hs : sub s1 k with
  | none => simp only [hs] at e; cases e
  | some p =>
   obtain ⟨x, s2, k2⟩ := p
   simp only [hs] at e
   have e1 := isB_len h1
   have e2 := hlen _ _ _ hs
   simp only [List.length_singleton] at e1
   dsimp only at e2
   refine ⟨x, s2, k2, m, rfl, by omega, ⟨by have := h.room; omega, by have := h.few; rw [List.length_append, List.length_singleton]; omega, ?_⟩⟩
   rw [e, Option.map_map]
   congr 1
   funext p
   simp
def SrSt (w : World) (B C : Nat) (acc : List KeyP) (s : Bs) (k : Nat) (cs0 : Array Value) (W : World) : Prop :=
 R2 B C w W ∧ Scn W B s k ∧ ∃ A c cells T ds, AkSt w.heap.size C 11 (.slice A acc.length c) acc.length acc cells T ds 33 W ∧ ds.size = cs0.size ∧ ∀ j, j ≠ 11 → ds[j]? = cs0[j]?
theorem grown_dr2 (w : World) (row : Option Nat) : w.grownBy w.drew row := ⟨rfl, rfl, rfl, Nat.le_refl _, fun _ _ _ => rfl⟩
theorem AkMid.done {w : World} {B D i n z g cap k : Nat} {s : Bs} {u : Value} {acc : List KeyP} {cs : List Value} {T T1 : Nat → Prop} {ds : Array Value} {t : TypeId} {vs vk : Value} {kcs : List Value} {x : KeyP} {W W9 W' : World} (m : AkMid w.heap.size D i u n acc cs T ds t z T1 vs vk kcs x W) (hR : R2 B D w W) (hS : Scn W B s k) (hB : B < w.heap.size) (hBD : B ≠ D)
  (hown : W9.ownsRow w.heap.size 51 6 (.slice (some ⟨g, 0, none⟩) (n + 1) cap) (n + 1) (cs ++ zeroKeyL)) (hgr : W.grownBy W9 u.ownBlock) (hat : u.ownBlock = some g ∨ g = W.heap.size) (hi : i < ds.size)
  (hW : W' = (put6 W9 g (n * 6) (.string (str x.name)) (.string (str x.text)) (.string (str x.field)) (.int .i64 x.n) vs vk).setCell ⟨D, i, none⟩ (.slice (some ⟨g, 0, none⟩) (n + 1) cap) ∨ W' = put6 (W9.setCell ⟨D, i, none⟩ (.slice (some ⟨g, 0, none⟩) (n + 1) cap)) g (n * 6) (.string (str x.name)) (.string (str x.text)) (.string (str x.field)) (.int .i64 x.n) vs vk) :
  R2 B D w W' ∧ Scn W' B s k ∧ AkSt w.heap.size D i (.slice (some ⟨g, 0, none⟩) (n + 1) cap) (n + 1) (acc ++ [x]) (cs ++ keyC vs vk x) (fun j => T j ∨ T1 j) (ds.setIfInBounds i (.slice (some ⟨g, 0, none⟩) (n + 1) cap)) t W' := by
 have nw := m.new (cap := cap) hown hgr
 have hgb := nw.gb
 have hu : ∀ k, u.ownBlock = some k → w.heap.size ≤ k := fun k e => (m.st.own.lt k e).1
 have h9 : R2 B D w W9 := ⟨hgr.os.trans hR.os, hgr.tape.trans hR.tape, hgr.output.trans hR.output, Nat.le_trans hR.size hgr.size, fun j hj h1 h2 => (hgr.block j (Nat.lt_of_lt_of_le hj hR.size) (fun e => by have := hu j e.symm; omega)).trans (hR.block j hj h1 h2)⟩
 have s9 : Scn W9 B s k := hS.kept hgr (fun e => by have := hu B e.symm; omega)
 have hg : ∀ (V : World) (a0 a1 a2 a3 a4 a5 : Value), R2 B D w V → Scn V B s k → R2 B D w (put6 V g (n * 6) a0 a1 a2 a3 a4 a5) ∧ Scn (put6 V g (n * 6) a0 a1 a2 a3 a4 a5) B s k := fun V a0 a1 a2 a3 a4 a5 hv hs => by
  have g6 := put6_grown V g (n * 6) a0 a1 a2 a3 a4 a5
  exact ⟨⟨g6.os.trans hv.os, g6.tape.trans hv.tape, g6.output.trans hv.output, Nat.le_trans hv.size g6.size, fun j hj h1 h2 => (g6.block j (Nat.lt_of_lt_of_le hj hv.size) (fun e => by have := Option.some.inj e; omega)).trans (hv.block j hj h1 h2)⟩, hs.kept g6 (fun e => by have := Option.some.inj e; omega)⟩
 have hd : ∀ (V : World) (v : Value), R2 B D w V → Scn V B s k → R2 B D w (V.setCell ⟨D, i, none⟩ v) ∧ Scn (V.setCell ⟨D, i, none⟩ v) B s k := fun V v hv hs => ⟨hv.trans (.ofC (grown_put V D i v)), hs.kept (grown_put V D i v) (fun e => hBD (Option.some.inj e))⟩
 have hf := m.fin hown hgr hat hi hW
 rcases hW with rfl | rfl
 ·
  have a := hg W9 (.string (str x.name)) (.string (str x.text)) (.string (str x.field)) (.int .i64 x.n) vs vk h9 s9
  have b := hd _ (.slice (some ⟨g, 0, none⟩) (n + 1) cap) a.1 a.2
  exact ⟨b.1, b.2, hf⟩
 ·
  have b := hd _ (.slice (some ⟨g, 0, none⟩) (n + 1) cap) h9 s9
  have a := hg _ (.string (str x.name)) (.string (str x.text)) (.string (str x.field)) (.int .i64 x.n) vs vk b.1 b.2
  exact ⟨a.1, a.2, hf⟩
theorem AkMid.toSr {w : World} {B D z g cap k : Nat} {s : Bs} {u : Value} {acc : List KeyP} {cs : List Value} {T T1 : Nat → Prop} {ds cs0 : Array Value} {vs vk : Value} {kcs : List Value} {x : KeyP} {W W9 W' : World} (m : AkMid w.heap.size D 11 u acc.length acc cs T ds 33 z T1 vs vk kcs x W) (hR : R2 B D w W) (hS : Scn W B s k) (hB : B < w.heap.size) (hBD : B ≠ D)
  (hown : W9.ownsRow w.heap.size 51 6 (.slice (some ⟨g, 0, none⟩) (acc.length + 1) cap) (acc.length + 1) (cs ++ zeroKeyL)) (hgr : W.grownBy W9 u.ownBlock) (hat : u.ownBlock = some g ∨ g = W.heap.size) (hi : 11 < ds.size) (hsz : ds.size = cs0.size) (hds : ∀ j, j ≠ 11 → ds[j]? = cs0[j]?)
  (hW : W' = (put6 W9 g (acc.length * 6) (.string (str x.name)) (.string (str x.text)) (.string (str x.field)) (.int .i64 x.n) vs vk).setCell ⟨D, 11, none⟩ (.slice (some ⟨g, 0, none⟩) (acc.length + 1) cap) ∨ W' = put6 (W9.setCell ⟨D, 11, none⟩ (.slice (some ⟨g, 0, none⟩) (acc.length + 1) cap)) g (acc.length * 6) (.string (str x.name)) (.string (str x.text)) (.string (str x.field)) (.int .i64 x.n) vs vk) :
  SrSt w B D (acc ++ [x]) s k cs0 W' := by
 obtain ⟨e1, e2, e3⟩ := m.done hR hS hB hBD hown hgr hat hi hW
 refine ⟨e1, e2, some ⟨g, 0, none⟩, cap, cs ++ keyC vs vk x, fun j => T j ∨ T1 j, ds.setIfInBounds 11 (.slice (some ⟨g, 0, none⟩) (acc.length + 1) cap), ?_, by simp [hsz], fun j hj => by rw [Array.getElem?_setIfInBounds, if_neg (fun e => hj e.symm)]; exact hds j hj⟩
 rw [List.length_append, List.length_singleton]
 exact e3
theorem AkNew.c0 {base D i n g cap : Nat} {ds : Array Value} {t : TypeId} {W9 : World} (h : AkNew base D i n g cap ds t W9) : (W9.cell? ⟨g, n * 6, none⟩ = some (.string ⟨#[]⟩) ∧ W9.cell? ⟨g, n * 6 + 1, none⟩ = some (.string ⟨#[]⟩) ∧ W9.cell? ⟨g, n * 6 + 2, none⟩ = some (.string ⟨#[]⟩) ∧ W9.cell? ⟨g, n * 6 + 3, none⟩ = some (.int .i64 0) ∧ W9.cell? ⟨g, n * 6 + 4, none⟩ = some (.slice none 0 0) ∧ W9.cell? ⟨g, n * 6 + 5, none⟩ = some (.slice none 0 0)) ∧ W9.frozen? ⟨g, n * 6, none⟩ = false ∧ W9.frozen? ⟨g, n * 6 + 1, none⟩ = false ∧ W9.frozen? ⟨g, n * 6 + 2, none⟩ = false ∧ W9.frozen? ⟨g, n * 6 + 3, none⟩ = false ∧ W9.frozen? ⟨g, n * 6 + 4, none⟩ = false ∧ W9.frozen? ⟨g, n * 6 + 5, none⟩ = false :=
 ⟨⟨(h.cells 0 _ rfl).1, (h.cells 1 _ rfl).1, (h.cells 2 _ rfl).1, (h.cells 3 _ rfl).1, (h.cells 4 _ rfl).1, (h.cells 5 _ rfl).1⟩, (h.cells 0 _ rfl).2, (h.cells 1 _ rfl).2, (h.cells 2 _ rfl).2, (h.cells 3 _ rfl).2, (h.cells 4 _ rfl).2, (h.cells 5 _ rfl).2⟩
theorem infoKey2 : (Tryz.prog.info? 51).map (fun i => (i.zero, i.size, i.bytes)) = some (some (.agg #[.string ⟨#[]⟩, .string ⟨#[]⟩, .string ⟨#[]⟩, .int .i64 0, .slice none 0 0, .slice none 0 0]), 6, 104) := by kernel_rfl
open Go.RowKit
open Pl (Bs idxB numOk numN setOk setL)
attribute [local go_sem ↓] Go.wp_at_zero Go.wp_at_succ
def keyNames : List Bs := [[65, 76, 76], [65, 78, 83, 87, 69, 82, 69, 68], [68, 69, 76, 69, 84, 69, 68], [68, 82, 65, 70, 84], [70, 76, 65, 71, 71, 69, 68], [83, 69, 69, 78], [85, 78, 65, 78, 83, 87, 69, 82, 69, 68], [85, 78, 68, 69, 76, 69, 84, 69, 68], [85, 78, 68, 82, 65, 70, 84], [85, 78, 70, 76, 65, 71, 71, 69, 68], [85, 78, 83, 69, 69, 78], [66, 69, 70, 79, 82, 69], [79, 78], [83, 73, 78, 67, 69], [83, 69, 78, 84, 66, 69, 70, 79, 82, 69], [83, 69, 78, 84, 79, 78], [83, 69, 78, 84, 83, 73, 78, 67, 69], [76, 65, 82, 71, 69, 82], [83, 77, 65, 76, 76, 69, 82], [66, 67, 67], [66, 79, 68, 89], [67, 67], [70, 82, 79, 77], [83, 85, 66, 74, 69, 67, 84], [84, 69, 88, 84], [84, 79], [72, 69, 65, 68, 69, 82], [78, 79, 84], [79, 82], [85, 73, 68]]
theorem KySt.setK {w : World} {B h k : Nat} {s : Bs} {nm : ByteArray} {W : World} (st : KySt w B h s k (nameKey nm) W) {v : Value} : KySt w B h s k (Obj.cells #[.string nm, .string ⟨#[]⟩, .string ⟨#[]⟩, .int .i64 0, .slice none 0 0, v] 51) (W.setCell ⟨h, 5, none⟩ v) := by
 have hl := st.hlt
 have ho := st.pre.old
 exact ⟨⟨grown_new st.pre.gr (grown_put W h 5 v) (fun k e => .inl (by have := Option.some.inj e; omega)), st.pre.sc.kept (grown_put W h 5 v) (fun e => by have := Option.some.inj e; omega), (Below.heap_setCell _ _ _ _ (by dsimp only; omega)).trans st.pre.box, (Below.heap_setCell _ _ _ _ (by dsimp only; omega)).trans st.pre.res, ho⟩, (setCell_heap_same st.xb).trans rfl, hl⟩
theorem grown_dr (w : World) (row : Option Nat) : w.grownBy w.drew row := ⟨rfl, rfl, rfl, Nat.le_refl _, fun _ _ _ => rfl⟩
theorem KySt.set6 {w : World} {B h k : Nat} {s : Bs} {a0 a1 a2 a3 a4 a5 b0 b1 b2 b3 b4 b5 : Value} {W : World} (st : KySt w B h s k (Obj.cells #[a0, a1, a2, a3, a4, a5] 51) W) : KySt w B h s k (Obj.cells #[b0, b1, b2, b3, b4, b5] 51) ((((((W.setCell ⟨h, 0, none⟩ b0).setCell ⟨h, 1, none⟩ b1).setCell ⟨h, 2, none⟩ b2).setCell ⟨h, 3, none⟩ b3).setCell ⟨h, 4, none⟩ b4).setCell ⟨h, 5, none⟩ b5) := by
 have hl := st.hlt
 have ho := st.pre.old
 obtain ⟨h1, h2⟩ := Go.Proofs.YtgmfhldfdnnafaaGreatDoor.set6 W h 51 a0 a1 a2 a3 a4 a5 b0 b1 b2 b3 b4 b5 st.xb
 have hk : ∀ i x, W.heap[i]? = some x → i ≠ h → _ := fun i x hi hne => (h2.block i (Array.getElem?_eq_some_iff.1 hi).1 (fun e => hne (Option.some.inj e))).trans hi
 exact ⟨⟨grown_new st.pre.gr h2 (fun k e => .inl (by have := Option.some.inj e; omega)), st.pre.sc.kept h2 (fun e => by have := Option.some.inj e; omega), hk _ _ st.pre.box (by omega), hk _ _ st.pre.res (by omega), ho⟩, h1, hl⟩
theorem key_not (G : Glob) (B k : Nat) (C : Nat → Prop) (hC : ∀ a b, C a → a ≤ b → C b) (sub : Rd KeyP) (hsub : KeyCon G B C sub) (hmono : ∀ s k p, sub s k = some p → k ≤ p.2.2) (s W0 r : Bs) (hk : k + 1 ≤ 50) (hv : C (k + 1) ∨ (kidsR sub 1 r (k + 1)).isSome = true) (hp : isB [40] s = none) (hw : wordB [37, 42] s = some (W0, r)) (hnm : largeL W0 = [78, 79, 84]) (w : World) (hE : EnvI G w B) (h : Scn w B s k) :
  Calls Tryz.prog 106 #[scP B] w (KeyPost w B ((kidsR sub 1 r (k + 1)).map fun p => (.mk [78, 79, 84] [] [] 0 [] p.1, p.2))) := by
 have KK : Hid (∀ W, EnvI G W B → Scn W B r (k + 1) → Calls Tryz.prog 136 #[scP B, .int .i64 1] W _) := Lib.hid (fun W hE hS => kids_walk G B (k + 1) 1 (by decide) C hC sub hsub hmono r hv W hE hS)
 generalize kidsR sub 1 r (k + 1) = oo at *
 clear hsub hmono hv hC
 have HPre := Lib.hid (KyPre.start h (by omega))
 have hk1 : ((k : Int) + 1 ≤ 50) := by omega
 have hb : ¬ (B = w.heap.size) := by have := h.lt; omega
 have hb2 : ¬ (B = w.heap.size + 1) := by have := h.lt; omega
 obtain ⟨c0, c1, f0, f1⟩ := h.cells
 have KP : Hid (∀ W, Calls Tryz.prog 99 #[.string (str s), .string ⟨#[40]⟩] W _) := Lib.hid (fun W => hasPre_no hp W)
 have KW : Hid (∀ W, Scn W B s (k + 1) → Calls Tryz.prog 26 #[scP B, .string ⟨#[37, 42]⟩] W _) := Lib.hid (fun W hW => word_ok B [37, 42] s W0 r (k + 1) hw W hW)
 have hlen := wordB_len hw
 have hsm := h.small
 have hlt := h.lt
 have KL : Hid (∀ W, Calls Tryz.prog 29 #[.string (str W0)] W fun e w' => e = .returned (.string ⟨#[78, 79, 84]⟩) ∧ Below W.heap.size W w') := Lib.hid (fun W => by have K := large_walk21 W0 (by omega) W; rw [hnm] at K; exact K)
 have HE := Lib.hid hE
 clear hw hp h hE hnm
 go_enter Tryz.func106, Tryz.ntmps106
 go_wp2_with fail
 generalize ((w.setCell ⟨B, 1, none⟩ (.int .i64 ((k : Int) + 1))).alloc (Obj.cells #[scP B] 62)).alloc (Obj.cells #[.string ⟨#[]⟩, .string ⟨#[]⟩, .string ⟨#[]⟩, .int .i64 0, .slice none 0 0, .slice none 0 0] 51) = w2 at HPre ⊢
 clear c0 c1 f0 f1
 have HPd := Lib.hid HPre.out.draw
 have d0 := (one_cells HPre.out.box).1
 obtain ⟨_, d1, _, _⟩ := HPre.out.sc.cells
 have hcast : ((k + 1 : Nat) : Int) = (k : Int) + 1 := by omega
 rw [hcast] at d1
 clear hcast
 have D0 := Lib.hid (show w2.drew.cell? ⟨w.heap.size, 0, none⟩ = some (scP B) ∧ w2.drew.cell? ⟨B, 1, none⟩ = some (.int .i64 ((k : Int) + 1)) from ⟨d0, d1⟩)
 go_region_held3 (fun W => W.cell? ⟨w.heap.size, 0, none⟩ = some (scP B) ∧ W.cell? ⟨B, 1, none⟩ = some (.int .i64 ((k : Int) + 1)))
  (first | exact D0.out)
  (first
   | (go_at_call 27; refine (must_walk B _).mono ?_; rintro e w' ⟨rfl, rfl⟩))
 generalize w2.drew = w3 at *
 clear d0 d1 D0
 have d0 := (one_cells HPd.out.box).1
 obtain ⟨d1, _, _, _⟩ := HPd.out.sc.cells
 go_wp2_with fail
 refine (KP.out _).mono ?_
 rintro e w4 ⟨rfl, rfl⟩
 go_wp2_with fail
 refine (KW.out _ HPd.out.sc).mono ?_
 rintro e w5 ⟨rfl, hS5, hG5⟩
 have HP5 := Lib.hid (HPd.out.step hG5 hS5)
 clear hS5 hG5 d0 d1
 go_wp2_with fail
 refine (KL.out _).mono ?_
 rintro e w6 ⟨rfl, hB6⟩
 have HP6 := Lib.hid (HP5.out.below hB6)
 have HK7 := Lib.hid (HP6.out.name ⟨#[78, 79, 84]⟩)
 clear hB6
 have e7 := (one_cells HK7.out.pre.box).1
 go_wp2_with fail
 refine (KK.out _ (HE.out.kept HK7.out.pre.gr) HK7.out.pre.sc).mono ?_
 rintro e w8 ⟨hG8, hP8⟩
 cases oo with
 | none =>
  subst hP8
  exact ⟨rfl, .bad (HK7.out.pre.gr.trans hG8) rfl⟩
 | some p =>
  obtain ⟨l, r8, k8⟩ := p
  obtain ⟨A8, c8, cs8, rfl, hR8, hC8, hS8⟩ := hP8
  have HK8 := Lib.hid (HK7.out.step hG8 hS8)
  have hz7 := HP6.out.room
  have HR8 := Lib.hid hR8
  have HC8 := Lib.hid hC8
  have hxl := HK8.out.xb
  have HK9 := Lib.hid (HK8.out.setK (v := .slice A8 l.length c8))
  clear hG8 hR8 hC8 hS8 e7
  obtain ⟨⟨a0, a1, a2, a3, a4, a5⟩, e0, e1, e2, e3, e4, e5⟩ := six_cells HK8.out.xb
  clear hxl
  have hz8 := HK8.out.pre.room
  obtain ⟨⟨b0, b1, b2, b3, b4, b5⟩, g0, g1, g2, g3, g4, g5⟩ := six_cells HK8.out.pre.res
  have hne : ¬ (w.heap.size + 1 = w6.heap.size) := by omega
  have hne2 : ¬ (w6.heap.size = w.heap.size + 1) := by omega
  go_wp2
  refine bodyPost_ret (v := _) ?_ rfl (KyPre.fin (x := .mk [78, 79, 84] [] [] 0 [] l) (As := none) (cs := 0) (Ak := A8) (ck := c8) (kcs := cs8) HK9.out.pre rfl (set6 _ _ _ _ _ _ _ _ _ _ _ _ _ _ _ HK9.out.pre.res).2 ⟨rowC_nil _ _ _, ?_, ?_⟩)
  ·
   rw [results_cell_one rfl]
   simp [go_sem, b0, b1, b2, b3, b4, b5, hne2]
   exact ⟨rfl, rfl, rfl, rfl, rfl, rfl⟩
  ·
   exact (HR8.out.kept (fun i hi => Below.heap_setCell _ _ _ _ (by have := hi.1; simp at this; dsimp only; omega))).more (fun i hi => ⟨by have := hi.1; simp at this; omega, by have := hi.2; simpa using this⟩)
  ·
   exact (HC8.out.kept (fun i hi => Below.heap_setCell _ _ _ _ (by have := hi.1; simp at this; dsimp only; omega))).more (fun i hi => ⟨by have := hi.1; simp at this; omega, by have := hi.2; simpa using this⟩)
theorem key_or (G : Glob) (B k : Nat) (C : Nat → Prop) (hC : ∀ a b, C a → a ≤ b → C b) (sub : Rd KeyP) (hsub : KeyCon G B C sub) (hmono : ∀ s k p, sub s k = some p → k ≤ p.2.2) (s W0 r : Bs) (hk : k + 1 ≤ 50) (hv : C (k + 1) ∨ (kidsR sub 2 r (k + 1)).isSome = true) (hp : isB [40] s = none) (hw : wordB [37, 42] s = some (W0, r)) (hnm : largeL W0 = [79, 82]) (w : World) (hE : EnvI G w B) (h : Scn w B s k) :
  Calls Tryz.prog 106 #[scP B] w (KeyPost w B ((kidsR sub 2 r (k + 1)).map fun p => (.mk [79, 82] [] [] 0 [] p.1, p.2))) := by
 have KK : Hid (∀ W, EnvI G W B → Scn W B r (k + 1) → Calls Tryz.prog 136 #[scP B, .int .i64 2] W _) := Lib.hid (fun W hE hS => kids_walk G B (k + 1) 2 (by decide) C hC sub hsub hmono r hv W hE hS)
 generalize kidsR sub 2 r (k + 1) = oo at *
 clear hsub hmono hv hC
 have HPre := Lib.hid (KyPre.start h (by omega))
 have hk1 : ((k : Int) + 1 ≤ 50) := by omega
 have hb : ¬ (B = w.heap.size) := by have := h.lt; omega
 have hb2 : ¬ (B = w.heap.size + 1) := by have := h.lt; omega
 obtain ⟨c0, c1, f0, f1⟩ := h.cells
 have KP : Hid (∀ W, Calls Tryz.prog 99 #[.string (str s), .string ⟨#[40]⟩] W _) := Lib.hid (fun W => hasPre_no hp W)
 have KW : Hid (∀ W, Scn W B s (k + 1) → Calls Tryz.prog 26 #[scP B, .string ⟨#[37, 42]⟩] W _) := Lib.hid (fun W hW => word_ok B [37, 42] s W0 r (k + 1) hw W hW)
 have hlen := wordB_len hw
 have hsm := h.small
 have hlt := h.lt
 have KL : Hid (∀ W, Calls Tryz.prog 29 #[.string (str W0)] W fun e w' => e = .returned (.string ⟨#[79, 82]⟩) ∧ Below W.heap.size W w') := Lib.hid (fun W => by have K := large_walk21 W0 (by omega) W; rw [hnm] at K; exact K)
 have HE := Lib.hid hE
 clear hw hp h hE hnm
 go_enter Tryz.func106, Tryz.ntmps106
 go_wp2_with fail
 generalize ((w.setCell ⟨B, 1, none⟩ (.int .i64 ((k : Int) + 1))).alloc (Obj.cells #[scP B] 62)).alloc (Obj.cells #[.string ⟨#[]⟩, .string ⟨#[]⟩, .string ⟨#[]⟩, .int .i64 0, .slice none 0 0, .slice none 0 0] 51) = w2 at HPre ⊢
 clear c0 c1 f0 f1
 have HPd := Lib.hid HPre.out.draw
 have d0 := (one_cells HPre.out.box).1
 obtain ⟨_, d1, _, _⟩ := HPre.out.sc.cells
 have hcast : ((k + 1 : Nat) : Int) = (k : Int) + 1 := by omega
 rw [hcast] at d1
 clear hcast
 have D0 := Lib.hid (show w2.drew.cell? ⟨w.heap.size, 0, none⟩ = some (scP B) ∧ w2.drew.cell? ⟨B, 1, none⟩ = some (.int .i64 ((k : Int) + 1)) from ⟨d0, d1⟩)
 go_region_held3 (fun W => W.cell? ⟨w.heap.size, 0, none⟩ = some (scP B) ∧ W.cell? ⟨B, 1, none⟩ = some (.int .i64 ((k : Int) + 1)))
  (first | exact D0.out)
  (first
   | (go_at_call 27; refine (must_walk B _).mono ?_; rintro e w' ⟨rfl, rfl⟩))
 generalize w2.drew = w3 at *
 clear d0 d1 D0
 have d0 := (one_cells HPd.out.box).1
 obtain ⟨d1, _, _, _⟩ := HPd.out.sc.cells
 go_wp2_with fail
 refine (KP.out _).mono ?_
 rintro e w4 ⟨rfl, rfl⟩
 go_wp2_with fail
 refine (KW.out _ HPd.out.sc).mono ?_
 rintro e w5 ⟨rfl, hS5, hG5⟩
 have HP5 := Lib.hid (HPd.out.step hG5 hS5)
 clear hS5 hG5 d0 d1
 go_wp2_with fail
 refine (KL.out _).mono ?_
 rintro e w6 ⟨rfl, hB6⟩
 have HP6 := Lib.hid (HP5.out.below hB6)
 have HK7 := Lib.hid (HP6.out.name ⟨#[79, 82]⟩)
 clear hB6
 have e7 := (one_cells HK7.out.pre.box).1
 go_wp2_with fail
 refine (KK.out _ (HE.out.kept HK7.out.pre.gr) HK7.out.pre.sc).mono ?_
 rintro e w8 ⟨hG8, hP8⟩
 cases oo with
 | none =>
  subst hP8
  exact ⟨rfl, .bad (HK7.out.pre.gr.trans hG8) rfl⟩
 | some p =>
  obtain ⟨l, r8, k8⟩ := p
  obtain ⟨A8, c8, cs8, rfl, hR8, hC8, hS8⟩ := hP8
  have HK8 := Lib.hid (HK7.out.step hG8 hS8)
  have hz7 := HP6.out.room
  have HR8 := Lib.hid hR8
  have HC8 := Lib.hid hC8
  have hxl := HK8.out.xb
  have HK9 := Lib.hid (HK8.out.setK (v := .slice A8 l.length c8))
  clear hG8 hR8 hC8 hS8 e7
  obtain ⟨⟨a0, a1, a2, a3, a4, a5⟩, e0, e1, e2, e3, e4, e5⟩ := six_cells HK8.out.xb
  clear hxl
  have hz8 := HK8.out.pre.room
  obtain ⟨⟨b0, b1, b2, b3, b4, b5⟩, g0, g1, g2, g3, g4, g5⟩ := six_cells HK8.out.pre.res
  have hne : ¬ (w.heap.size + 1 = w6.heap.size) := by omega
  have hne2 : ¬ (w6.heap.size = w.heap.size + 1) := by omega
  go_wp2
  refine bodyPost_ret (v := _) ?_ rfl (KyPre.fin (x := .mk [79, 82] [] [] 0 [] l) (As := none) (cs := 0) (Ak := A8) (ck := c8) (kcs := cs8) HK9.out.pre rfl (set6 _ _ _ _ _ _ _ _ _ _ _ _ _ _ _ HK9.out.pre.res).2 ⟨rowC_nil _ _ _, ?_, ?_⟩)
  ·
   rw [results_cell_one rfl]
   simp [go_sem, b0, b1, b2, b3, b4, b5, hne2]
   exact ⟨rfl, rfl, rfl, rfl, rfl, rfl⟩
  ·
   exact (HR8.out.kept (fun i hi => Below.heap_setCell _ _ _ _ (by have := hi.1; simp at this; dsimp only; omega))).more (fun i hi => ⟨by have := hi.1; simp at this; omega, by have := hi.2; simpa using this⟩)
  ·
   exact (HC8.out.kept (fun i hi => Below.heap_setCell _ _ _ _ (by have := hi.1; simp at this; dsimp only; omega))).more (fun i hi => ⟨by have := hi.1; simp at this; omega, by have := hi.2; simpa using this⟩)
theorem key_set (G : Glob) (B k : Nat) (s W0 r N : Bs) (hk : k + 1 ≤ 50) (hp : isB [40] s = none) (hw : wordB [37, 42] s = some (W0, r)) (hnm : largeL W0 = N) (hN : ¬ N ∈ keyNames) (w : World) (hE : EnvI G w B) (h : Scn w B s k) :
  Calls Tryz.prog 106 #[scP B] w (KeyPost w B (if setOk W0 = true then some (.mk [83, 69, 84] [] [] 0 (setL W0) [], r, k + 1) else none)) := by
 generalize hoo : (if setOk W0 = true then some (KeyP.mk [83, 69, 84] [] [] 0 (setL W0) [], r, k + 1) else none) = oo
 have HOO := Lib.hid hoo
 have HNN := Lib.hid hN
 clear hoo hN
 have HPre := Lib.hid (KyPre.start h (by omega))
 have hk1 : ((k : Int) + 1 ≤ 50) := by omega
 have hb : ¬ (B = w.heap.size) := by have := h.lt; omega
 have hb2 : ¬ (B = w.heap.size + 1) := by have := h.lt; omega
 obtain ⟨c0, c1, f0, f1⟩ := h.cells
 have KP : Hid (∀ W, Calls Tryz.prog 99 #[.string (str s), .string ⟨#[40]⟩] W _) := Lib.hid (fun W => hasPre_no hp W)
 have KW : Hid (∀ W, Scn W B s (k + 1) → Calls Tryz.prog 26 #[scP B, .string ⟨#[37, 42]⟩] W _) := Lib.hid (fun W hW => word_ok B [37, 42] s W0 r (k + 1) hw W hW)
 have hlen := wordB_len hw
 have hsm := h.small
 have hlt := h.lt
 have KL : Hid (∀ W, Calls Tryz.prog 29 #[.string (str W0)] W fun e w' => e = .returned (.string (str N)) ∧ Below W.heap.size W w') := Lib.hid (fun W => by have K := large_walk21 W0 (by omega) W; rw [hnm] at K; exact K)
 have HE := Lib.hid hE
 clear hw hp h hE hnm
 go_enter Tryz.func106, Tryz.ntmps106
 go_wp2_with fail
 generalize ((w.setCell ⟨B, 1, none⟩ (.int .i64 ((k : Int) + 1))).alloc (Obj.cells #[scP B] 62)).alloc (Obj.cells #[.string ⟨#[]⟩, .string ⟨#[]⟩, .string ⟨#[]⟩, .int .i64 0, .slice none 0 0, .slice none 0 0] 51) = w2 at HPre ⊢
 clear c0 c1 f0 f1
 have HPd := Lib.hid HPre.out.draw
 have d0 := (one_cells HPre.out.box).1
 obtain ⟨_, d1, _, _⟩ := HPre.out.sc.cells
 have hcast : ((k + 1 : Nat) : Int) = (k : Int) + 1 := by omega
 rw [hcast] at d1
 clear hcast
 have D0 := Lib.hid (show w2.drew.cell? ⟨w.heap.size, 0, none⟩ = some (scP B) ∧ w2.drew.cell? ⟨B, 1, none⟩ = some (.int .i64 ((k : Int) + 1)) from ⟨d0, d1⟩)
 go_region_held3 (fun W => W.cell? ⟨w.heap.size, 0, none⟩ = some (scP B) ∧ W.cell? ⟨B, 1, none⟩ = some (.int .i64 ((k : Int) + 1)))
  (first | exact D0.out)
  (first
   | (go_at_call 27; refine (must_walk B _).mono ?_; rintro e w' ⟨rfl, rfl⟩))
 generalize w2.drew = w3 at *
 clear d0 d1 D0
 have d0 := (one_cells HPd.out.box).1
 obtain ⟨d1, _, _, _⟩ := HPd.out.sc.cells
 go_wp2_with fail
 refine (KP.out _).mono ?_
 rintro e w4 ⟨rfl, rfl⟩
 go_wp2_with fail
 refine (KW.out _ HPd.out.sc).mono ?_
 rintro e w5 ⟨rfl, hS5, hG5⟩
 have HP5 := Lib.hid (HPd.out.step hG5 hS5)
 clear hS5 hG5 d0 d1
 go_wp2_with fail
 refine (KL.out _).mono ?_
 rintro e w6 ⟨rfl, hB6⟩
 have HP6 := Lib.hid (HP5.out.below hB6)
 have HK7 := Lib.hid (HP6.out.name (str N))
 clear hB6
 have n0 : ((str N).toList == [65, 76, 76]) = false := str_neb (fun e => HNN.out (by rw [e]; decide))
 have n1 : ((str N).toList == [65, 78, 83, 87, 69, 82, 69, 68]) = false := str_neb (fun e => HNN.out (by rw [e]; decide))
 have n2 : ((str N).toList == [68, 69, 76, 69, 84, 69, 68]) = false := str_neb (fun e => HNN.out (by rw [e]; decide))
 have n3 : ((str N).toList == [68, 82, 65, 70, 84]) = false := str_neb (fun e => HNN.out (by rw [e]; decide))
 have n4 : ((str N).toList == [70, 76, 65, 71, 71, 69, 68]) = false := str_neb (fun e => HNN.out (by rw [e]; decide))
 have n5 : ((str N).toList == [83, 69, 69, 78]) = false := str_neb (fun e => HNN.out (by rw [e]; decide))
 have n6 : ((str N).toList == [85, 78, 65, 78, 83, 87, 69, 82, 69, 68]) = false := str_neb (fun e => HNN.out (by rw [e]; decide))
 have n7 : ((str N).toList == [85, 78, 68, 69, 76, 69, 84, 69, 68]) = false := str_neb (fun e => HNN.out (by rw [e]; decide))
 have n8 : ((str N).toList == [85, 78, 68, 82, 65, 70, 84]) = false := str_neb (fun e => HNN.out (by rw [e]; decide))
 have n9 : ((str N).toList == [85, 78, 70, 76, 65, 71, 71, 69, 68]) = false := str_neb (fun e => HNN.out (by rw [e]; decide))
 have n10 : ((str N).toList == [85, 78, 83, 69, 69, 78]) = false := str_neb (fun e => HNN.out (by rw [e]; decide))
 have n11 : ((str N).toList == [66, 69, 70, 79, 82, 69]) = false := str_neb (fun e => HNN.out (by rw [e]; decide))
 have n12 : ((str N).toList == [79, 78]) = false := str_neb (fun e => HNN.out (by rw [e]; decide))
 have n13 : ((str N).toList == [83, 73, 78, 67, 69]) = false := str_neb (fun e => HNN.out (by rw [e]; decide))
 have n14 : ((str N).toList == [83, 69, 78, 84, 66, 69, 70, 79, 82, 69]) = false := str_neb (fun e => HNN.out (by rw [e]; decide))
 have n15 : ((str N).toList == [83, 69, 78, 84, 79, 78]) = false := str_neb (fun e => HNN.out (by rw [e]; decide))
 have n16 : ((str N).toList == [83, 69, 78, 84, 83, 73, 78, 67, 69]) = false := str_neb (fun e => HNN.out (by rw [e]; decide))
 have n17 : ((str N).toList == [76, 65, 82, 71, 69, 82]) = false := str_neb (fun e => HNN.out (by rw [e]; decide))
 have n18 : ((str N).toList == [83, 77, 65, 76, 76, 69, 82]) = false := str_neb (fun e => HNN.out (by rw [e]; decide))
 have n19 : ((str N).toList == [66, 67, 67]) = false := str_neb (fun e => HNN.out (by rw [e]; decide))
 have n20 : ((str N).toList == [66, 79, 68, 89]) = false := str_neb (fun e => HNN.out (by rw [e]; decide))
 have n21 : ((str N).toList == [67, 67]) = false := str_neb (fun e => HNN.out (by rw [e]; decide))
 have n22 : ((str N).toList == [70, 82, 79, 77]) = false := str_neb (fun e => HNN.out (by rw [e]; decide))
 have n23 : ((str N).toList == [83, 85, 66, 74, 69, 67, 84]) = false := str_neb (fun e => HNN.out (by rw [e]; decide))
 have n24 : ((str N).toList == [84, 69, 88, 84]) = false := str_neb (fun e => HNN.out (by rw [e]; decide))
 have n25 : ((str N).toList == [84, 79]) = false := str_neb (fun e => HNN.out (by rw [e]; decide))
 have n26 : ((str N).toList == [72, 69, 65, 68, 69, 82]) = false := str_neb (fun e => HNN.out (by rw [e]; decide))
 have n27 : ((str N).toList == [78, 79, 84]) = false := str_neb (fun e => HNN.out (by rw [e]; decide))
 have n28 : ((str N).toList == [79, 82]) = false := str_neb (fun e => HNN.out (by rw [e]; decide))
 have n29 : ((str N).toList == [85, 73, 68]) = false := str_neb (fun e => HNN.out (by rw [e]; decide))
 have KS := Lib.hid (fun W (hW : EnvI G W B) => set_walk (str W0) G.form W (by rw [str_size]; omega) hW.form hW.formI)
 rw [bs_str] at KS
 obtain ⟨t9, x9, hv9⟩ := HE.out.formI
 have HV9 := Lib.hid hv9
 clear hv9
 go_wp2_with fail
 refine (KS.out _ (HE.out.kept HK7.out.pre.gr)).mono ?_
 rintro e w8 ⟨r8, rfl, hO8, hB8⟩
 cases ho : setOk W0 with
 | false =>
  rw [setE_no ho, HV9.out]
  have HK8 := Lib.hid (HK7.out.step (grown_below hB8 _) (HK7.out.pre.sc.then hB8))
  have e7 := (one_cells HK8.out.pre.box).1
  have HO := Lib.hid (show oo = none by rw [← HOO.out, if_neg (by rw [ho]; decide)])
  clear hO8 hB8 ho HOO
  go_wp2_with fail
  refine wp_region_any (by kernel_rfl) ?_
  change wpAny _ _ _ _ _ _ _ (World.drew _)
  refine wpAny_ready (rs := [0, 1]) (by kernel_rfl) (by simp) ?_
  refine AllReady.cons rfl (fun K9 hK9 => ?_) ?_
  ·
   go_simp
   refine hK9 _ _ ?_
   clear hK9 K9
   refine wpAny_ready (rs := [1]) (by kernel_rfl) (by simp) ?_
   refine AllReady.cons rfl (fun K9 hK9 => ?_) ?_
   ·
    go_simp
    refine hK9 _ _ ?_
    clear hK9 K9
    refine wpAny_ready (rs := [2]) (by kernel_rfl) (by simp) ?_
    refine AllReady.cons rfl (fun K9 hK9 => ?_) ?_
    ·
     go_simp
     refine hK9 _ _ ?_
     clear hK9 K9
     refine wpAny_ready (rs := [3]) (by kernel_rfl) (by simp) ?_
     refine AllReady.cons rfl (fun K9 hK9 => ?_) ?_
     ·
      go_simp
      refine (must_no B _).mono ?_
      rintro e w' ⟨rfl, hw'⟩
      exact ⟨rfl, .bad (by rw [← hw']; exact HK8.out.pre.gr.trans (grown_dr _ _)) HO.out⟩
     exact AllReady.nil
    exact AllReady.nil
   exact AllReady.nil
  refine AllReady.cons rfl (fun K9 hK9 => ?_) ?_
  ·
   go_simp
   refine hK9 _ _ ?_
   clear hK9 K9
   refine wpAny_ready (rs := [0, 2]) (by kernel_rfl) (by simp) ?_
   refine AllReady.cons rfl (fun K9 hK9 => ?_) ?_
   ·
    go_simp
    refine hK9 _ _ ?_
    clear hK9 K9
    refine wpAny_ready (rs := [2]) (by kernel_rfl) (by simp) ?_
    refine AllReady.cons rfl (fun K9 hK9 => ?_) ?_
    ·
     go_simp
     refine hK9 _ _ ?_
     clear hK9 K9
     refine wpAny_ready (rs := [3]) (by kernel_rfl) (by simp) ?_
     refine AllReady.cons rfl (fun K9 hK9 => ?_) ?_
     ·
      go_simp
      refine (must_no B _).mono ?_
      rintro e w' ⟨rfl, hw'⟩
      exact ⟨rfl, .bad (by rw [← hw']; exact HK8.out.pre.gr.trans (grown_dr _ _)) HO.out⟩
     exact AllReady.nil
    exact AllReady.nil
   refine AllReady.cons rfl (fun K9 hK9 => ?_) ?_
   ·
    go_simp
    refine hK9 _ _ ?_
    clear hK9 K9
    refine wpAny_ready (rs := [0]) (by kernel_rfl) (by simp) ?_
    refine AllReady.cons rfl (fun K9 hK9 => ?_) ?_
    ·
     go_simp
     refine hK9 _ _ ?_
     clear hK9 K9
     refine wpAny_ready (rs := [3]) (by kernel_rfl) (by simp) ?_
     refine AllReady.cons rfl (fun K9 hK9 => ?_) ?_
     ·
      go_simp
      refine (must_no B _).mono ?_
      rintro e w' ⟨rfl, hw'⟩
      exact ⟨rfl, .bad (by rw [← hw']; exact HK8.out.pre.gr.trans (grown_dr _ _)) HO.out⟩
     exact AllReady.nil
    exact AllReady.nil
   exact AllReady.nil
  exact AllReady.nil
 | true =>
  rw [setE_yes ho]
  have HO := Lib.hid (show oo = some (KeyP.mk [83, 69, 84] [] [] 0 (setL W0) [], r, k + 1) by rw [← HOO.out, if_pos ho])
  have HK8 := Lib.hid (HK7.out.step (grown_below hB8 _) (HK7.out.pre.sc.then hB8))
  have HO8 := Lib.hid hO8
  have hz7 := HP6.out.room
  have hz8 := hB8.size
  simp at hz8
  have e7 := (one_cells HK8.out.pre.box).1
  obtain ⟨A8, c8, hr8, _⟩ := rowC_own hO8
  subst hr8
  have HKd := Lib.hid (HK8.out.step (k1 := k + 1) (grown_dr _ _) (HK8.out.pre.sc.draws 1))
  have hd7 := (one_cells HKd.out.pre.box).1
  have D7 := Lib.hid hd7
  clear hO8 hB8 ho HOO hd7
  go_wp2_with fail
  go_region_held3 (fun W => W.cell? ⟨w.heap.size, 0, none⟩ = some (scP B))
   (first | exact D7.out)
   (first
    | (go_at_call 27; refine (must_walk B _).mono ?_; rintro e w' ⟨rfl, rfl⟩))
  have HO9 := Lib.hid (rowC_own HO8.out)
  have HR9 : Hid (RowC w8.drew (fun i => w.heap.size + 3 ≤ i ∧ i < w8.drew.heap.size ∧ i ≠ w6.heap.size) (.slice A8 (setL W0).length c8) (setL W0).length (flat (setL W0))) := Lib.hid ((HO9.out.kept (w1 := w8.drew) (fun i hi => rfl)).more (fun i hi => ⟨by have := hi.1; simp at this; omega, hi.2, by have := hi.1; simp at this; omega⟩))
  have hz9 : w.heap.size + 3 ≤ w8.heap.size := by omega
  have HK9 := Lib.hid (HKd.out.set6 (b0 := .string ⟨#[83, 69, 84]⟩) (b1 := .string ⟨#[]⟩) (b2 := .string ⟨#[]⟩) (b3 := .int .i64 0) (b4 := .slice A8 (setL W0).length c8) (b5 := .slice none 0 0))
  generalize w8.drew = w9 at *
  clear e7 D7
  obtain ⟨⟨a0, a1, a2, a3, a4, a5⟩, e0, e1, e2, e3, e4, e5⟩ := six_cells HKd.out.xb
  obtain ⟨⟨b0, b1, b2, b3, b4, b5⟩, g0, g1, g2, g3, g4, g5⟩ := six_cells HKd.out.pre.res
  obtain ⟨w10, hw10⟩ : ∃ w10, ((((((w9.setCell ⟨w6.heap.size, 0, none⟩ (.string ⟨#[83, 69, 84]⟩)).setCell ⟨w6.heap.size, 1, none⟩ (.string ⟨#[]⟩)).setCell ⟨w6.heap.size, 2, none⟩ (.string ⟨#[]⟩)).setCell ⟨w6.heap.size, 3, none⟩ (.int .i64 0)).setCell ⟨w6.heap.size, 4, none⟩ (.slice A8 (setL W0).length c8)).setCell ⟨w6.heap.size, 5, none⟩ (.slice none 0 0)) = w10 := ⟨_, rfl⟩
  have HW10 := Lib.hid hw10
  rw [hw10] at HK9
  obtain ⟨⟨p0, p1, p2, p3, p4, p5⟩, q0, q1, q2, q3, q4, q5⟩ := six_cells HK9.out.xb
  obtain ⟨⟨r0, r1, r2, r3, r4, r5⟩, s0, s1, s2, s3, s4, s5⟩ := six_cells HK9.out.pre.res
  clear b0 b1 b2 b3 b4 b5 g0 g1 g2 g3 g4 g5
  go_wp2
  refine bodyPost_ret (v := _) ?_ rfl (KyPre.fin (x := .mk [83, 69, 84] [] [] 0 (setL W0) []) (As := A8) (cs := c8) (Ak := none) (ck := 0) (kcs := []) HK9.out.pre HO.out (set6 _ _ _ _ _ _ _ _ _ _ _ _ _ _ _ HK9.out.pre.res).2 ⟨?_, rowC_nil _ _ _, .nil⟩)
  ·
   rw [results_cell_one rfl]
   simp [go_sem, r0, r1, r2, r3, r4, r5]
   exact ⟨rfl, rfl, rfl, rfl, rfl, rfl⟩
  ·
   have hg6 := (set6 w9 w6.heap.size _ _ _ _ _ _ _ (.string ⟨#[83, 69, 84]⟩) (.string ⟨#[]⟩) (.string ⟨#[]⟩) (.int .i64 0) (.slice A8 (setL W0).length c8) (.slice none 0 0) HKd.out.xb).2
   rw [HW10.out] at hg6
   exact (HR9.out.kept (fun i hi => hg6.block i hi.2.1 (fun e => hi.2.2 (Option.some.inj e)))).more (fun i hi => ⟨by omega, Nat.lt_of_lt_of_le hi.2.1 hg6.size⟩)
open Go.Shelf Go.RowKit
open Pl (Bs)
def lays146_ren : Go.Shelf.Ren := ⟨fun | 138 => 180 | 143 => 162 | 146 => 165 | 195 => 183 | 197 => 161 | 217 => 114 | 218 => 184 | 219 => 94 | 221 => 172 | 224 => 116 | 225 => 115 | 260 => 171 | 266 => 142 | 267 => 117 | 268 => 179 | 314 => 143 | n => n, fun | 0 => 0 | 3 => 3 | 4 => 4 | 5 => 5 | 9 => 9 | 21 => 21 | 31 => 28 | 46 => 152 | 51 => 164 | 105 => 181 | 119 => 193 | 138 => 195 | 139 => 196 | 146 => 165 | n => n, fun | 1 => 13 | 3 => 14 | 4 => 15 | n => n⟩
theorem lays146 : Lays.n146 Tryz.prog lays146_ren := {
 mixed := by kernel_rfl,
 f138 := by kernel_rfl,
 f143 := by kernel_rfl,
 f146 := by kernel_rfl,
 f195 := by kernel_rfl,
 f197 := by kernel_rfl,
 f217 := by kernel_rfl,
 f218 := by kernel_rfl,
 f219 := by kernel_rfl,
 f221 := by kernel_rfl,
 f224 := by kernel_rfl,
 f225 := by kernel_rfl,
 f260 := by kernel_rfl,
 f266 := by kernel_rfl,
 f267 := by kernel_rfl,
 f268 := by kernel_rfl,
 f314 := by kernel_rfl,
 t0 := Tryz.underlying0,
 a0 := Tryz.isAgg0,
 z0 := Tryz.sizeOf0,
 v0 := Tryz.zeroValue0,
 t3 := Tryz.underlying3,
 a3 := Tryz.isAgg3,
 z3 := Tryz.sizeOf3,
 v3 := Tryz.zeroValue3,
 t4 := Tryz.underlying4,
 a4 := Tryz.isAgg4,
 z4 := Tryz.sizeOf4,
 v4 := Tryz.zeroValue4,
 t5 := Tryz.underlying5,
 a5 := Tryz.isAgg5,
 z5 := Tryz.sizeOf5,
 v5 := Tryz.zeroValue5,
 t9 := Tryz.underlying9,
 a9 := Tryz.isAgg9,
 z9 := Tryz.sizeOf9,
 v9 := Tryz.zeroValue9,
 t21 := Tryz.underlying21,
 a21 := Tryz.isAgg21,
 z21 := Tryz.sizeOf21,
 v21 := Tryz.zeroValue21,
 t31 := Tryz.underlying28,
 a31 := Tryz.isAgg28,
 z31 := Tryz.sizeOf28,
 v31 := Tryz.zeroValue28,
 t46 := Tryz.underlying152,
 a46 := Tryz.isAgg152,
 z46 := Tryz.sizeOf152,
 v46 := Tryz.zeroValue152,
 t51 := Tryz.underlying164,
 a51 := Tryz.isAgg164,
 z51 := Tryz.sizeOf164,
 v51 := Tryz.zeroValue164,
 t105 := Tryz.underlying181,
 a105 := Tryz.isAgg181,
 z105 := Tryz.sizeOf181,
 v105 := Tryz.zeroValue181,
 t119 := Tryz.underlying193,
 a119 := Tryz.isAgg193,
 z119 := Tryz.sizeOf193,
 t138 := Tryz.underlying195,
 a138 := Tryz.isAgg195,
 z138 := Tryz.sizeOf195,
 v138 := Tryz.zeroValue195,
 t139 := Tryz.underlying196,
 a139 := Tryz.isAgg196,
 z139 := Tryz.sizeOf196,
 v139 := Tryz.zeroValue196,
 t146 := Tryz.underlying165,
 a146 := Tryz.isAgg165,
 z146 := Tryz.sizeOf165,
 v146 := Tryz.zeroValue165,
 g1 := by kernel_rfl,
 g3 := by kernel_rfl,
 g4 := by kernel_rfl }
theorem split_walk (s sep : ByteArray) (m : Int) (w : World) (hs : s.size < 4294967281) (hm : w.cell? ⟨13, 0, none⟩ = some (.int .i64 m)) (h1 : 1 ≤ sep.size) :
  Calls Tryz.prog 165 #[.string s, .string sep] w fun e w' =>
   e = .returned (.slice (some ⟨w.heap.size, 0, none⟩) (Lib.countB s sep + 1) (Lib.countB s sep + 1)) ∧ w' = w.alloc (.cells ((Lib.splitB sep 0 (Lib.countB s sep) s).map Value.string).toArray 9) :=
 Any.strings_Split lays146 (by kernel_rfl) s sep m w hs hm h1
end Go.Proofs.YtgmfhldfdnnafaaGreatDoor
