/- The law for 'for p := range strings.SplitSeq(s, "x") { .. }' at the wide fence: what the caller owes is an invariant over what has come, and one walk of the loop's body. -/
import Derived.Test.YtcalbpdcjklffaaGreatDoorSplit
namespace Go.Proofs.YtcalbpdcjklffaaGreatDoor
open Go.RowKit Go.Shelf
open Pl (idxB Bs splitB)

/-- the blocks of T lie as they lay -/
def Stay (T : Nat → Prop) (W W' : World) : Prop := ∀ k o, T k → W.heap[k]? = some o → W'.heap[k]? = some o
theorem Stay.refl (T : Nat → Prop) (W : World) : Stay T W W := fun _ _ _ h => h
theorem Stay.trans {T : Nat → Prop} {A B C : World} (h : Stay T A B) (k : Stay T B C) : Stay T A C := fun i o hi ho => k i o hi (h i o hi ho)
theorem Stay.alloc (T : Nat → Prop) (W : World) (o : Obj) : Stay T W (W.alloc o) := fun _ _ _ h => (Below.heap_alloc W o _ (Array.getElem?_eq_some_iff.1 h).1).trans h
theorem Stay.drewN (T : Nat → Prop) (W : World) (q : Nat) : Stay T W (W.drewN q) := fun _ _ _ h => h
theorem Stay.setCell {T : Nat → Prop} (W : World) {a : Addr} (u : Value) (h : ¬ T a.block) : Stay T W (W.setCell a u) := fun _ _ hk ho => setCell_other ho u (fun e => h (e ▸ hk))
theorem Stay.below {T : Nat → Prop} {W W' : World} (h : Below W.heap.size W W') : Stay T W W' := fun k _ _ ho => (h.block k (Array.getElem?_eq_some_iff.1 ho).1).trans ho

/-- the blocks that the loop's body must leave alone: the iterator's cells, the loop's record, the block for deferred calls -/
def splitT (pb sb zb D : Nat) (k : Nat) : Prop := k = pb ∨ k = sb ∨ k = zb ∨ k = D ∨ k = D + 1
theorem SplitBox.stay {pb sb zb D : Nat} {x : UInt8} {s : ByteArray} {W W' : World} (h : SplitBox pb sb zb x s W) (k : Stay (splitT pb sb zb D) W W') : SplitBox pb sb zb x s W' :=
  ⟨k _ _ (.inl rfl) h.sep, k _ _ (.inr (.inl rfl)) h.str, k _ _ (.inr (.inr (.inl rfl))) h.zero⟩
theorem SplitBox.put {pb sb zb : Nat} {x : UInt8} {s : ByteArray} {W : World} (h : SplitBox pb sb zb x s W) {l : Nat} (o : Obj) (h1 : pb ≠ l) (h2 : sb ≠ l) (h3 : zb ≠ l) : SplitBox pb sb zb x s (W.putObj l o) :=
  ⟨(World.putObj_heap_other h1).trans h.sep, (World.putObj_heap_other h2).trans h.str, (World.putObj_heap_other h3).trans h.zero⟩
theorem setCell_size (W : World) (a : Addr) (u : Value) : (W.setCell a u).heap.size = W.heap.size := by simp

/-- how the body of a round may be left -/
def splitPost (T : Nat → Prop) (I : List Bs → World → Prop) (Ix : Code → List Bs → World → Prop) (pre : List Bs) (W : World) : Exit → Act → World → Prop
  | .normal, _, W' => Stay T W W' ∧ I pre W'
  | .ret, _, W' => Stay T W W' ∧ Ix .ret pre W'
  | .exit id, _, W' => Stay T W W' ∧ Ix (.exit id) pre W'
  | .goto t, _, W' => Stay T W W' ∧ Ix (.goto t) pre W'
  | .panic _, _, _ => False
  | .outgrown, _, _ => False

theorem wpIn_split (n : Nat) {g : Operand} {ps : Array Tmp} {assign body : Code} {Q : Exit → Act → World → Prop} {a : Act} {w : World} {pb sb zb : Nat} {x : UInt8} {s0 : ByteArray}
    (hg : a.eval g = .func (.func 72) #[] #[.pointer (some ⟨pb, 0, none⟩), .pointer (some ⟨sb, 0, none⟩), .pointer (some ⟨zb, 0, none⟩)]) (hps : ps.size = 1)
    (hp : pb ≠ sb) (hz : zb ≠ sb) (hs0 : s0.size ≤ 140737488351232) (hB : SplitBox pb sb zb x s0 w)
    (I : List Bs → World → Prop) (Ix : Code → List Bs → World → Prop)
    (hIs : ∀ pre W v, I pre W → I pre (W.setCell ⟨sb, 0, none⟩ v)) (hIl : ∀ pre W o, w.heap.size < W.heap.size → I pre W → I pre (W.putObj (w.heap.size + 1) o)) (hIxl : ∀ c pre W o, w.heap.size < W.heap.size → Ix c pre W → Ix c pre (W.putObj (w.heap.size + 1) o))
    (h0 : ∀ o, I [] ((w.alloc (.deferred (some []))).alloc o)) (a₁ : ByteArray → Act)
    (hassign : ∀ (l : Nat) (p : ByteArray) (W : World) (K : Act → World → Prop), K (a₁ p) W →
      assign.wpIn (Fence.wide.inRound l) (n - 1 - 1) Tryz.prog (Exit.then K (fun _ _ _ => False)) { tmps := (ps.zip #[.string p]).foldl (fun t (q, v) => t.setIfInBounds q v) a.tmps, defers := [] } W)
    (hbody : ∀ (l : Nat) (pre : List Bs) (p s : ByteArray) (W : World), I pre W → SplitBox pb sb zb x s W → p.size ≤ s0.size → w.heap.size + 1 < W.heap.size →
      body.wpIn (Fence.wide.inRound l) (n - 1 - 1) Tryz.prog (splitPost (splitT pb sb zb w.heap.size) I Ix (pre ++ [bs p]) W) (a₁ p) W)
    (hdone : ∀ W, I (splitB x (bs s0)) W → W.heap[w.heap.size]? = some (.deferred (some [])) → Q .normal { a with defers := { target := .collected w.heap.size, args := #[] } :: a.defers } W)
    (hstop : ∀ c pre W, pre <+: splitB x (bs s0) → Ix c pre W → W.heap[w.heap.size]? = some (.deferred (some [])) → c.wpIn Fence.wide n Tryz.prog Q { a with defers := { target := .collected w.heap.size, args := #[] } :: a.defers } W) :
    (Code.rangeFunc g ps assign body).wpIn Fence.wide n Tryz.prog Q a w := by
  refine wpIn_rangeFunc ?_
  intro fn hfn
  obtain ⟨rec, hrec⟩ : ∃ rec : LoopState → Option Code → Loop, rec = fun st pe => { state := st, pending := pe, fn, tmps := a.tmps, params := ps, assign, body, defers := w.heap.size } := ⟨_, rfl⟩
  obtain ⟨W1, hW1⟩ : ∃ W1, (w.alloc (.deferred (some []))).alloc (.loop (rec .ready none)) = W1 := ⟨_, rfl⟩
  have lt1 := (Array.getElem?_eq_some_iff.1 hB.sep).1
  have lt2 := (Array.getElem?_eq_some_iff.1 hB.str).1
  have lt3 := (Array.getElem?_eq_some_iff.1 hB.zero).1
  have hL1 : W1.heap[w.heap.size + 1]? = some (.loop (rec .ready none)) := by
    rw [← hW1]; have := World.alloc_heap_new (w.alloc (.deferred (some []))) (.loop (rec .ready none)); rwa [World.size_alloc] at this
  have hK1 : W1.heap[w.heap.size]? = some (.deferred (some [])) := by
    rw [← hW1]; exact (Below.heap_alloc _ _ _ (by simp)).trans (World.alloc_heap_new w _)
  have hB1 : SplitBox pb sb zb x s0 W1 := by
    rw [← hW1]
    have hst : Stay (fun _ => True) w ((w.alloc (.deferred (some []))).alloc (.loop (rec .ready none))) := (Stay.alloc _ _ _).trans (Stay.alloc _ _ _)
    exact ⟨hst _ _ trivial hB.sep, hst _ _ trivial hB.str, hst _ _ trivial hB.zero⟩
  have hI1 : I [] W1 := by rw [← hW1]; exact h0 _
  refine ⟨w.heap.size + 1, [{ target := .collected w.heap.size, args := #[] }], W1, { target := .fn (.func 72) #[.pointer (some ⟨pb, 0, none⟩), .pointer (some ⟨sb, 0, none⟩), .pointer (some ⟨zb, 0, none⟩)], args := #[.func (.yield (w.heap.size + 1)) #[] #[]] }, W1, 72,
    #[.func (.yield (w.heap.size + 1)) #[] #[], .pointer (some ⟨pb, 0, none⟩), .pointer (some ⟨sb, 0, none⟩), .pointer (some ⟨zb, 0, none⟩)], W1, ?_, ?_, ?_, ?_, fun h => (by cases h), ?_⟩
  · rw [← hW1, hrec]; exact run_enterLoop_outer _ _ _ _ _
  · simp only [resolve, hg]
    simp [go_sem]
  · intro f' _; trivial
  · simp [invoke, go_sem]
  · refine (split_iter (n - 1) (w.heap.size + 1) pb sb zb x s0
      (fun pre W => I pre W ∧ W.heap[w.heap.size + 1]? = some (.loop (rec .ready none)) ∧ W.heap[w.heap.size]? = some (.deferred (some [])))
      (fun pre W => ∃ c, Ix c pre W ∧ W.heap[w.heap.size + 1]? = some (.loop (rec .done (some c))) ∧ W.heap[w.heap.size]? = some (.deferred (some [])))
      W1 hp hz hs0
      (fun pre W v h => ⟨hIs _ _ _ h.1, setCell_other h.2.1 _ (by simp; omega), setCell_other h.2.2 _ (by simp; omega)⟩)
      ?_ hB1 ⟨hI1, hL1, hK1⟩).mono ?_
    · -- ONE ROUND
      rintro pre p s W ⟨hi, hl, hk⟩ hBx hpz
      have hlt : w.heap.size + 1 < W.heap.size := (Array.getElem?_eq_some_iff.1 hl).1
      have hy := run_yield (P := Tryz.prog) (args := #[.string p]) hl (by rw [hrec]; simpa using hps.symm)
      rw [hrec] at hy
      refine ⟨fn, _, assign, body, hy, roundIn_of_wpIn hfn (hassign _ p W _ ⟨_, run_beginRound hl (by rw [hrec]), ?_⟩)⟩
      have hl2 : (W.putObj (w.heap.size + 1) (.loop { rec .ready none with state := .busy })).heap[w.heap.size + 1]? = some (.loop { rec .ready none with state := .busy }) := World.putObj_heap_same hlt
      have hk2 : (W.putObj (w.heap.size + 1) (.loop { rec .ready none with state := .busy })).heap[w.heap.size]? = some (.deferred (some [])) := (World.putObj_heap_other (by omega)).trans hk
      have hB2 : SplitBox pb sb zb x s (W.putObj (w.heap.size + 1) (.loop { rec .ready none with state := .busy })) := hBx.put _ (by omega) (by omega) (by omega)
      refine wpIn_mono (hbody _ pre p s _ (hIl _ _ _ (by omega) hi) hB2 hpz (by rw [World.putObj_size]; exact hlt)) ?_
      have fin : ∀ (jump : Option Code) (W3 : World), Stay (splitT pb sb zb w.heap.size) (W.putObj (w.heap.size + 1) (.loop { rec .ready none with state := .busy })) W3 →
          (Instr.endRound (w.heap.size + 1) jump).run Tryz.prog W3 = .ok (.bool jump.isNone) (W3.putObj (w.heap.size + 1) (.loop (rec (if jump.isNone then .ready else .done) jump))) ∧
          w.heap.size < W3.heap.size ∧
          (W3.putObj (w.heap.size + 1) (.loop (rec (if jump.isNone then .ready else .done) jump))).heap[w.heap.size + 1]? = some (.loop (rec (if jump.isNone then .ready else .done) jump)) ∧
          (W3.putObj (w.heap.size + 1) (.loop (rec (if jump.isNone then .ready else .done) jump))).heap[w.heap.size]? = some (.deferred (some [])) ∧
          SplitBox pb sb zb x s (W3.putObj (w.heap.size + 1) (.loop (rec (if jump.isNone then .ready else .done) jump))) := fun jump W3 hk3 => by
        have hl3 := hk3 _ _ (.inr (.inr (.inr (.inr rfl)))) hl2
        have hd3 := hk3 _ _ (.inr (.inr (.inr (.inl rfl)))) hk2
        have := run_endRound (P := Tryz.prog) jump hl3
        rw [hrec] at this ⊢
        exact ⟨this, by have := (Array.getElem?_eq_some_iff.1 hl3).1; omega, World.putObj_heap_same (Array.getElem?_eq_some_iff.1 hl3).1, (World.putObj_heap_other (by omega)).trans hd3, (hB2.stay hk3).put _ (by omega) (by omega) (by omega)⟩
      rintro e a3 W3 hpost
      cases e with
      | normal =>
        obtain ⟨hk3, hi3⟩ := hpost
        obtain ⟨hr, hz3, hl4, hk4, hB4⟩ := fin none W3 hk3
        exact ⟨_, _, hr, .inl ⟨rfl, ⟨hIl _ _ _ hz3 hi3, hl4, hk4⟩, hB4⟩⟩
      | ret =>
        obtain ⟨hk3, hi3⟩ := hpost
        obtain ⟨hr, hz3, hl4, hk4, _⟩ := fin (some .ret) W3 hk3
        exact ⟨_, _, hr, .inr ⟨rfl, .ret, hIxl _ _ _ _ hz3 hi3, hl4, hk4⟩⟩
      | exit id =>
        obtain ⟨hk3, hi3⟩ := hpost
        obtain ⟨hr, hz3, hl4, hk4, _⟩ := fin (some (.exit id)) W3 hk3
        exact ⟨_, _, hr, .inr ⟨rfl, .exit id, hIxl _ _ _ _ hz3 hi3, hl4, hk4⟩⟩
      | goto t =>
        obtain ⟨hk3, hi3⟩ := hpost
        obtain ⟨hr, hz3, hl4, hk4, _⟩ := fin (some (.goto t)) W3 hk3
        exact ⟨_, _, hr, .inr ⟨rfl, .goto t, hIxl _ _ _ _ hz3 hi3, hl4, hk4⟩⟩
      | panic ch => exact hpost.elim
      | outgrown => exact hpost.elim
    · -- BEHIND THE ITERATOR
      rintro e W2 ⟨⟨v, rfl⟩, (⟨hi, hl, hk⟩ | ⟨pre, hpre, c, hi, hl, hk⟩)⟩
      · exact ⟨none, _, by have := run_endLoop (P := Tryz.prog) hl (by rw [hrec]; simp); rw [hrec] at this; exact this, hdone _ (hIl _ _ _ (Array.getElem?_eq_some_iff.1 hk).1 hi) ((World.putObj_heap_other (by omega)).trans hk)⟩
      · exact ⟨some c, _, by have := run_endLoop (P := Tryz.prog) hl (by rw [hrec]; simp); rw [hrec] at this; exact this, hstop c pre _ hpre (hIxl _ _ _ _ (Array.getElem?_eq_some_iff.1 hk).1 hi) ((World.putObj_heap_other (by omega)).trans hk)⟩
end Go.Proofs.YtcalbpdcjklffaaGreatDoor
