/- slices.Collect over header.small's closure; header.small and header.Same. -/
import Derived.Test.YtfaojafhamhncaaDoorSmall
namespace Go.Proofs.YtfaojafhamhncaaDoor
open Go.RowKit Go.Shelf
open Pl (Bs)
attribute [local go_sem] Oper.semAt_some
set_option linter.unusedSimpArgs false
set_option linter.unusedVariables false
theorem small_stops (F : Fence) (n : Nat) (h6 : F.fn 60) (hro : F.round = none) (hn : 1 ≤ n) (Bn : Nat) (s : ByteArray) (hs : s.size ≤ 140737488351232) (w : World) (hBn : Bn < w.heap.size) (hc : w.cell? ⟨Bn, 0, none⟩ = some (.string s)) :
    SeqStopsK F n Tryd.prog 60 #[.pointer (some ⟨Bn, 0, none⟩)] (fun x : UInt8 => #[encB x]) KeepsMarked (fun ys => ys = (bs s).map smallB) (fun pre => pre <+: (bs s).map smallB) s.size w := fun l J Jx W hW hJ _ hY h0 =>
  small1_in F n h6 hro hn l Bn s J Jx W hJ hY ((hW.cell (p := ⟨Bn, 0, none⟩) hBn).trans hc) hs h0
theorem marked_setCell {W : World} {b : Nat} {v u : Value} {t : TypeId} (h : W.heap[b]? = some (.cells #[v] t (0, 0))) : KeepsMarked W (W.setCell ⟨b, 0, none⟩ u) := fun k cs t' fr hf ho => setCell_other ho _ (fun e => by
  dsimp only at e
  subst e
  rw [h] at ho; cases ho; exact hf rfl)
theorem marked_alloc (W : World) (o : Obj) : KeepsMarked W (W.alloc o) := fun k cs t fr _ ho => (Below.heap_alloc W o k (Array.getElem?_eq_some_iff.1 ho).1).trans ho
theorem marked_grown {W W1 : World} {base n size : Nat} {e : TypeId} {v : Value} {xs : List Value} (h : W.ownsRow base e size v n xs) (hg : W.grownBy W1 v.ownBlock) : KeepsMarked W W1 := fun k cs t fr hf ho =>
  (hg.block k (Array.getElem?_eq_some_iff.1 ho).1 (fun e' => by
    rcases h.2 with ⟨rfl, _⟩ | ⟨g, cap, cur, rfl, _, hgb, _⟩
    · simp [Value.ownBlock] at e'
    · have : k = g := by simpa [Value.ownBlock] using e'
      subst this; rw [hgb] at ho; cases ho; exact hf rfl)).trans ho
theorem marked_put (W : World) (l : Nat) (o o' : Obj) (h : W.heap[l]? = some o) (hc : o.isCells = false) : KeepsMarked W (W.putObj l o') := fun k cs t fr hf ho => (World.putObj_heap_other (fun e => by
  subst e
  rw [h] at ho; cases ho; simp [Obj.isCells] at hc)).trans ho
theorem others_grown {W W1 : World} {base n size : Nat} {e : TypeId} {v : Value} {xs : List Value} (h : W.ownsRow base e size v n xs) (hg : W.grownBy W1 v.ownBlock) : KeepsOthers W W1 :=
  KeepsOthers.of_grownBy hg (fun j o hj ho => by
    rcases h.2 with ⟨rfl, _⟩ | ⟨g, cap, cur, rfl, _, hgb, _⟩
    · simp [Value.ownBlock] at hj
    · have : g = j := by simpa [Value.ownBlock] using hj
      subst this; rw [hgb] at ho; cases ho; rfl)
theorem own_turn {W W1 : World} {base n size : Nat} {e : TypeId} {v : Value} {xs : List Value} {row : Option Nat} (h : W.ownsRow base e size v n xs) (hg : W.grownBy W1 row) (hr : ∀ r, row = some r → ∃ o : Obj, W.heap[r]? = some o ∧ o.isCells = false) : W1.ownsRow base e size v n xs :=
  h.kept hg (by
    rcases h.2 with ⟨rfl, _⟩ | ⟨g, cap, cur, rfl, _, hgb, _⟩
    · exact .inl rfl
    · refine .inr (fun e' => ?_)
      obtain ⟨o, ho, hc⟩ := hr g (by rw [← e']; rfl)
      rw [hgb] at ho; cases ho; simp [Obj.isCells] at hc)
theorem box_turn {W W1 : World} {b : Nat} {cs : Array Value} {t : TypeId} {fr : Nat × Nat} {row : Option Nat} (h : W.heap[b]? = some (.cells cs t fr)) (hg : W.grownBy W1 row) (hr : ∀ r, row = some r → ∃ o : Obj, W.heap[r]? = some o ∧ o.isCells = false) : W1.heap[b]? = some (.cells cs t fr) :=
  (hg.block b (Array.getElem?_eq_some_iff.1 h).1 (fun e => by
    obtain ⟨o, ho, hc⟩ := hr b e.symm
    rw [h] at ho; cases ho; simp [Obj.isCells] at hc)).trans h
theorem own_shape {w : World} {base n size : Nat} {e : TypeId} {v : Value} {xs : List Value} (h : w.ownsRow base e size v n xs) : ∃ A c, v = .slice A n c := by
  rcases h.2 with ⟨rfl, rfl⟩ | ⟨g, cap, cur, rfl, _⟩
  · exact ⟨_, _, rfl⟩
  · exact ⟨_, _, rfl⟩
theorem own_less' {w : World} {base base' : Nat} {e : TypeId} {size n : Nat} {v : Value} {xs : List Value} (h : w.ownsRow base e size v n xs) (hb : base' ≤ base) : w.ownsRow base' e size v n xs := by
  refine ⟨h.1, ?_⟩
  rcases h.2 with h2 | ⟨g, cap, cur, hv, hg, r⟩
  · exact .inl h2
  · exact .inr ⟨g, cap, cur, hv, Nat.le_trans hb hg, r⟩
structure ColAt (w : World) (pre : List UInt8) (W : World) : Prop where
  own : ∃ u, W.heap[w.heap.size]? = some (.cells #[u] 72 (0, 0)) ∧ W.ownsRow (w.heap.size + 1) 5 1 u pre.length (pre.map encB)
  below : Below w.heap.size w W
theorem infoByte : (Tryd.prog.info? 5).map (fun i => (i.zero, i.size, i.bytes)) = some (some (.int .u8 0), 1, 1) := by kernel_rfl
set_option maxRecDepth 100000 in
set_option maxHeartbeats 4000000 in
theorem appendSeq_walk (Bn : Nat) (s : ByteArray) (hs : s.size ≤ 1000000) (w : World) (hBn : Bn < w.heap.size) (hc : w.cell? ⟨Bn, 0, none⟩ = some (.string s)) :
    Calls Tryd.prog 66 #[.slice none 0 0, .func (.func 60) #[] #[.pointer (some ⟨Bn, 0, none⟩)]] w fun e w' => ∃ v, e = .returned v ∧ w'.ownsRow w.heap.size 5 1 v s.size (((bs s).map smallB).map encB) ∧ Below w.heap.size w w' := by
  refine (callsIn_wide (n := 3)).1 ?_
  refine callsIn_of_wp_marks Tryd.func66 rfl trivial ?_ rfl
  simp only [Tryd.ntmps66, List.size_toArray, List.length_cons, List.length_nil, Nat.reduceAdd, Nat.reduceSub, Array.replicate_succ, Array.replicate_zero, List.push_toArray, List.append_toArray, List.nil_append, List.cons_append]
  gi_wp2_with fail
  obtain ⟨W1, hW1⟩ : ∃ W1, W1 = w.alloc (Obj.cells #[.slice none 0 0] 72) := ⟨_, rfl⟩
  have z1 : W1.heap.size = w.heap.size + 1 := by rw [hW1]; simp
  have q0 : W1.heap[w.heap.size]? = some (.cells #[.slice none 0 0] 72 (0, 0)) := by rw [hW1]; exact World.alloc_heap_new w _
  have qB : Below w.heap.size w W1 := by rw [hW1]; exact (Below.refl _ _).alloc (Nat.le_refl _) _
  rw [← hW1]
  clear hW1
  refine wpIn_rangeFunc_ownF (n := 3) (gf := 60) (lb := #[.pointer (some ⟨Bn, 0, none⟩)]) rfl (by decide) rfl trivial (enters_of Tryd.func60 (by kernel_rfl) rfl)
    (small_stops Fence.wide (3 - 1) trivial rfl (by decide) Bn s (by omega) W1 (by omega) ((qB.cell (p := ⟨Bn, 0, none⟩) hBn).trans hc)) KeepsMarked.trans (fun W l o o' _ h hc _ => marked_put W l o o' h hc) (Below.refl _ _) (fun _ => rfl)
    (fun pre W => ColAt w pre W) (fun _ _ _ => False)
    (fun pre A B row h hg hr => by
      obtain ⟨u, hb, ho⟩ := h.own
      have hr' : ∀ r, row = some r → ∃ o : Obj, A.heap[r]? = some o ∧ o.isCells = false := fun r e => (hr r e).2
      exact ⟨⟨u, box_turn hb hg hr', own_turn ho hg hr'⟩, h.below.grown hg h.below.size (fun k e => by have := (hr k e).1; omega)⟩)
    (fun _ _ _ _ _ h _ _ => h)
    ⟨⟨_, q0, World.ownsRow_nil _ _ _ _⟩, qB⟩
    (fun x => { tmps := #[.slice none 0 0, .func (.func 60) #[] #[.pointer (some ⟨Bn, 0, none⟩)], .pointer (some ⟨w.heap.size, 0, none⟩), undef, .slice none 0 0, encB x, .func (.func 60) #[] #[.pointer (some ⟨Bn, 0, none⟩)], encB x, undef, undef, undef, undef, undef], defers := [] })
    ?assign ?body ?done ?stop
  case assign =>
    intro l x W K hK
    gi_wp2
    exact hK
  case body =>
    intro l pre x W hI hlt
    obtain ⟨i0, hi, hz0, hz1, hz2⟩ := info_parts infoByte
    obtain ⟨u, hb, ho⟩ := hI.own
    obtain ⟨A, c, rfl⟩ := own_shape ho
    have k0 := cell_of_one hb
    have f0 := free_of_one hb
    have hz := hI.below.size
    have hgt : w.heap.size + 1 ≤ W.heap.size := (Array.getElem?_eq_some_iff.1 hb).1
    have HB := Lib.hid hb
    have HO := Lib.hid ho
    have HW := Lib.hid hI.below
    clear hb ho hI q0 qB
    have hx : encB x = .int .u8 (x.toNat : Int) := rfl
    gi_wp2_with (gi_at_builtin; refine wpListIn_append_own _ rfl _ _ 72 rfl (w.heap.size + 1) 5 i0 (.int .u8 0) 1 1 Tryd.underlying72 hi hz0 hz1 hz2 rfl (by decide) _ _ _ rfl (HO.out.alloc _) ⟨W.heap.size, 0, none⟩ 1 1 [.int .u8 (x.toNat : Int)] rfl rfl ?c1 ?c2 ?c3 ?c4 ?c5 ?_)
    case c1 => exact cell_one_new W (.int .u8 (x.toNat : Int)) 5
    case c2 => simp [Value.oneCell']
    case c3 => unfold maxLen; omega
    case c4 => omega
    case c5 => simp; omega
    intro v' w4 hown' hgrow _
    obtain ⟨A', c', rfl⟩ := own_shape hown'
    have hoA := HO.out.alloc (.cells #[.int .u8 (x.toNat : Int)] 5)
    have hb4 : w4.heap[w.heap.size]? = some (.cells #[.slice A pre.length c] 72 (0, 0)) := (hgrow.block _ (by simp; omega) (fun e => by have := own_base HO.out _ e.symm; omega)).trans ((Below.heap_alloc _ _ _ (by omega)).trans HB.out)
    have hB4 := below_append (HW.out.alloc hz (.cells #[.int .u8 (x.toNat : Int)] 5)) hgrow hoA (by omega) (by simp; omega)
    have k4 := cell_of_one hb4
    have f4 := free_of_one hb4
    have m4 := (marked_alloc W (.cells #[.int .u8 (x.toNat : Int)] 5)).trans ((marked_grown hoA hgrow).trans (marked_setCell (u := .slice A' (pre.length + 1) c') hb4))
    have o4 := (KeepsOthers.alloc W (.cells #[.int .u8 (x.toNat : Int)] 5)).trans ((others_grown hoA hgrow).trans (KeepsOthers.setCell w4 ⟨w.heap.size, 0, none⟩ (.slice A' (pre.length + 1) c')))
    have hat : ColAt w (pre ++ [x]) (w4.setCell ⟨w.heap.size, 0, none⟩ (.slice A' (pre.length + 1) c')) :=
      ⟨⟨_, one_setCell hb4, by rw [List.length_append, List.map_append]; exact ownsRow_setCell_below hown' (by dsimp only; omega) _⟩, hB4.setCell (Nat.le_refl _) _⟩
    have M4 := Lib.hid m4
    have O4 := Lib.hid o4
    have HAT := Lib.hid hat
    clear m4 o4 hat hB4 hb4 hoA hown' hgrow
    gi_wp2
    exact ⟨O4.out, M4.out, HAT.out⟩
  case done =>
    rintro D ys W hD rfl hI hK
    obtain ⟨u, hb, ho⟩ := hI.own
    obtain ⟨A, c, rfl⟩ := own_shape ho
    have k0 := cell_of_one hb
    have HO := Lib.hid ho
    have HW := Lib.hid hI.below
    clear hb ho hI q0 qB
    gi_wp2
    refine ⟨by simp, .inl ⟨_, _, rfl, run_takeDeferred hK, ?_⟩⟩
    refine ⟨_, results_tmp rfl _ _ _, _, rfl, ?_, ?_⟩
    · have h := own_turn HO.out (grownBy_putObj' W D (.deferred none)) (fun r e => by cases e; exact ⟨_, hK, rfl⟩)
      have hl : ((bs s).map smallB).length = s.size := by rw [List.length_map, bs_size]
      rw [hl] at h
      exact own_less' h (by omega)
    · exact below_putObj HW.out _ _ (by omega) (by have := HW.out.size; omega)
  case stop =>
    rintro D c pre W _ _ h _
    exact h.elim
end Go.Proofs.YtfaojafhamhncaaDoor
