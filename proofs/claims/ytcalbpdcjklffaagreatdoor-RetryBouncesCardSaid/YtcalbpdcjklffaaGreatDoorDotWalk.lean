/- The walk of path.dotted: whether a text is parts with dots between, each of them such; of path.Local and path.Domain. -/
import Derived.Test.YtcalbpdcjklffaaGreatDoorParts
namespace Go.Proofs.YtcalbpdcjklffaaGreatDoor
open Go.RowKit Go.Shelf
open Pl (idxB Bs splitB plainB marks atomB partL partD goLocal goDomain)
attribute [local go_sem] Oper.semAt_some

/-- a part: not empty, and such -/
def okPart (P : ByteArray → Bool) (p : ByteArray) : Bool := !(bs p).isEmpty && P p
def dotB (P : Bs → Bool) (most : Int) (s : ByteArray) : Bool := decide ((s.size : Int) ≤ most) && (splitB 46 (bs s)).all P

theorem below_putObj {B : Nat} {w W : World} (h : Below B w W) (l : Nat) (o : Obj) (hl : B ≤ l) (hs : B ≤ W.heap.size) : Below B w (W.putObj l o) := h.grown (grownBy_putObj' W l o) hs (fun k e => by cases e; exact hl)
theorem splitWorld_size (w : World) (x : UInt8) (s : ByteArray) : (splitWorld w x s).heap.size = w.heap.size + 3 := by simp [splitWorld]
theorem splitWorld_stay (w : World) (x : UInt8) (s : ByteArray) : Stay (fun _ => True) w (splitWorld w x s) := (Stay.alloc _ _ _).trans ((Stay.alloc _ _ _).trans (Stay.alloc _ _ _))
theorem splitWorld_below (w : World) (x : UInt8) (s : ByteArray) : Below w.heap.size w (splitWorld w x s) := (((Below.refl _ _).alloc (Nat.le_refl _) _).alloc (by simp) _).alloc (by simp; omega) _
theorem splitWorld_box (w : World) (x : UInt8) (s : ByteArray) : SplitBox (w.heap.size + 1) w.heap.size (w.heap.size + 2) x s (splitWorld w x s) := by
  refine ⟨?_, ?_, ?_⟩
  · have := World.alloc_heap_new (w.alloc (.cells #[.string s] 9)) (.cells #[.string ⟨#[x]⟩] 9)
    rw [World.size_alloc] at this
    exact (Below.heap_alloc _ _ _ (by simp)).trans this
  · exact (Below.heap_alloc _ _ _ (by simp; omega)).trans ((Below.heap_alloc _ _ _ (by simp)).trans (World.alloc_heap_new w _))
  · have := World.alloc_heap_new ((w.alloc (.cells #[.string s] 9)).alloc (.cells #[.string ⟨#[x]⟩] 9)) (.cells #[.int .i64 0] 3)
    rw [World.size_alloc, World.size_alloc] at this
    exact this

set_option maxRecDepth 100000 in
set_option maxHeartbeats 2000000 in
theorem dotted_walk (g : Nat) (P : Bs → Bool) (Pq : ByteArray → Bool) (eg : ∀ args w, (callFunc g args).run Tryz.prog w = .ok (.enter g args) w)
    (hg : Hid (∀ (p : ByteArray) (w : World), p.size ≤ 9223372036854775807 → 0 < p.size → Calls Tryz.prog g #[.string p] w fun e w' => e = .returned (.bool (Pq p)) ∧ w = w'))
    (hP : Hid (∀ p : ByteArray, P (bs p) = (!p.toList.isEmpty && Pq p)))
    (s : ByteArray) (most : Int) (w : World) (hs : s.size ≤ 140737488351232) (hm : most ≤ 1000) :
    Calls Tryz.prog 31 #[.string s, .int .i64 most, .func (.func g) #[] #[]] w fun e w' => e = .returned (.bool (dotB P most s)) ∧ Below w.heap.size w w' := by
  refine (callsIn_wide (n := 3)).1 ?_
  refine callsIn_of_wp_marks Tryz.func31 rfl trivial ?_ rfl
  simp only [Tryz.ntmps31, List.size_toArray, List.length_cons, List.length_nil, Nat.reduceAdd, Nat.reduceSub, Array.replicate_succ, Array.replicate_zero, List.push_toArray, List.append_toArray, List.nil_append, List.cons_append]
  by_cases hlen : (s.size : Int) ≤ most
  · gi_wp2_with fail
    refine ⟨trivial, ?_⟩
    refine (callsIn_wide.2 (splitSeq_walk _ _ _)).mono ?_
    rintro e w' ⟨rfl, rfl⟩
    gi_wp2_with fail
    obtain ⟨W1, hW1⟩ : ∃ W1, W1 = (w.alloc (.cells #[.func (.func g) #[] #[]] 32)).alloc (.cells #[.bool false] 4) := ⟨_, rfl⟩
    have z1 : W1.heap.size = w.heap.size + 2 := by rw [hW1]; simp
    have q0 : W1.heap[w.heap.size]? = some (.cells #[.func (.func g) #[] #[]] 32 (0, 0)) := by
      rw [hW1]; exact (Below.heap_alloc _ _ _ (by simp)).trans (World.alloc_heap_new w _)
    have q1 : W1.heap[w.heap.size + 1]? = some (.cells #[.bool false] 4 (0, 0)) := by
      rw [hW1]; have := World.alloc_heap_new (w.alloc (.cells #[.func (.func g) #[] #[]] 32)) (.cells #[.bool false] 4); rwa [World.size_alloc] at this
    have qB : Below w.heap.size w W1 := by rw [hW1]; exact ((Below.refl _ _).alloc (Nat.le_refl _) _).alloc (by simp) _
    rw [← hW1]
    have z0 := splitWorld_size W1 46 s
    refine wpIn_split 3 (pb := W1.heap.size + 1) (sb := W1.heap.size) (zb := W1.heap.size + 2) (x := 46) (s0 := s) rfl rfl (by omega) (by omega) hs (splitWorld_box W1 46 s)
      (fun pre W => pre.all P = true ∧ W.heap[w.heap.size]? = some (.cells #[.func (.func g) #[] #[]] 32 (0, 0)) ∧ W.heap[w.heap.size + 1]? = some (.cells #[.bool false] 4 (0, 0)) ∧ Below w.heap.size w W)
      (fun c pre W => c = .ret ∧ pre.all P = false ∧ W.heap[w.heap.size + 1]? = some (.cells #[.bool false] 4 (0, 0)) ∧ Below w.heap.size w W)
      (fun pre W v h => ⟨h.1, setCell_other h.2.1 _ (by simp; omega), setCell_other h.2.2.1 _ (by simp; omega), h.2.2.2.setCell (by simp; omega) _⟩)
      (fun pre W o hz h => ⟨h.1, (World.putObj_heap_other (by omega)).trans h.2.1, (World.putObj_heap_other (by omega)).trans h.2.2.1, below_putObj h.2.2.2 _ _ (by omega) (by omega)⟩)
      (fun c pre W o hz h => ⟨h.1, h.2.1, (World.putObj_heap_other (by omega)).trans h.2.2.1, below_putObj h.2.2.2 _ _ (by omega) (by omega)⟩)
      (fun o => ⟨rfl, ((splitWorld_stay W1 46 s).trans ((Stay.alloc _ _ _).trans (Stay.alloc _ _ _))) _ _ trivial q0, ((splitWorld_stay W1 46 s).trans ((Stay.alloc _ _ _).trans (Stay.alloc _ _ _))) _ _ trivial q1,
        ((qB.trans ((splitWorld_below W1 46 s).mono (by omega))).alloc (by omega) _).alloc (by simp; omega) _⟩)
      (fun p => { tmps := #[.string s, .int .i64 most, .func (.func g) #[] #[], undef, undef, .pointer (some ⟨w.heap.size, 0, none⟩), .pointer (some ⟨w.heap.size + 1, 0, none⟩), .string p, .string s, .int .i64 s.size, .int .i64 most, .bool (decide (most < s.size)), .string s, splitFn W1, .string p, undef, undef, undef, undef, undef, undef, undef, undef], defers := [] })
      ?assign ?body ?done ?stop
    case assign =>
      intro l p W K hK
      rw [hW1] at hK
      gi_wp2
      exact hK
    case body =>
      rintro l pre p sx W ⟨hA, r0, r1, rB⟩ hBx hpz hlt
      have k0 := cell_of_one r0
      have k1 := cell_of_one r1
      have k2 := free_of_one r1
      have HA := Lib.hid hA
      have R0 := Lib.hid r0
      have R1 := Lib.hid r1
      have RB := Lib.hid rB
      have eP := Lib.hid (hP.out p)
      clear hA r0 r1 rB q0 q1 hW1 hBx
      have hT : ¬ splitT (W1.heap.size + 1) W1.heap.size (W1.heap.size + 2) (splitWorld W1 46 s).heap.size (w.heap.size + 1) := by unfold splitT; omega
      have HT := Lib.hid hT
      clear hT
      cases he : p.toList.isEmpty with
      | true =>
        have HE := Lib.hid he
        gi_wp2
        refine ⟨fun _ h => (by cases h), ?_⟩
        gi_wp2
        exact ⟨Stay.setCell _ _ HT.out, rfl, by rw [List.all_append]; simp [eP.out, HE.out], one_setCell R1.out, RB.out.setCell (by simp) _⟩
      | false =>
        have HE := Lib.hid he
        have hpos : 0 < p.size := by
          have := HE.out
          rw [Lib.toList_data] at this
          rcases Nat.eq_zero_or_pos p.size with h0 | h0
          · have : bs p = [] := List.eq_nil_of_length_eq_zero (by rw [bs_size]; exact h0)
            simp_all [bs]
          · exact h0
        gi_wp2_with fail
        refine ⟨trivial, ?_⟩
        refine (CallsIn.inRound l (callsIn_wide.2 (hg.out p _ (by omega) hpos))).mono ?_
        rintro e w' ⟨rfl, rfl⟩
        cases hq : Pq p with
        | true =>
          have HQ := Lib.hid hq
          clear hq
          gi_wp2
          exact ⟨Stay.refl _ _, by rw [List.all_append, HA.out]; simp [eP.out, HE.out, HQ.out], R0.out, R1.out, RB.out⟩
        | false =>
          have HQ := Lib.hid hq
          clear hq
          gi_wp2
          exact ⟨Stay.setCell _ _ HT.out, rfl, by rw [List.all_append]; simp [eP.out, HE.out, HQ.out], one_setCell R1.out, RB.out.setCell (by simp) _⟩
    case done =>
      rintro W ⟨hA, r0, r1, rB⟩ hK
      have k1 := cell_of_one r1
      have k2 := free_of_one r1
      gi_wp2
      have hK2 : (W.setCell ⟨w.heap.size + 1, 0, none⟩ (.bool true)).heap[(splitWorld W1 46 s).heap.size]? = some (.deferred (some [])) := setCell_other hK _ (by simp; omega)
      have c2 : ((W.setCell ⟨w.heap.size + 1, 0, none⟩ (.bool true)).putObj (splitWorld W1 46 s).heap.size (.deferred none)).cell? ⟨w.heap.size + 1, 0, none⟩ = some (.bool true) :=
        cell_of_one ((World.putObj_heap_other (by omega)).trans (one_setCell r1))
      refine ⟨by simp, .inl ⟨_, _, rfl, run_takeDeferred hK2, ?_⟩⟩
      refine ⟨.bool true, by simp [results, Tryz.results31, go_sem, c2], ?_⟩
      refine ⟨ret_bool ?_, below_putObj (rB.setCell (by simp) _) _ _ (by omega) (by simp; have := rB.size; omega)⟩
      simp [dotB, hlen, hA]
    case stop =>
      rintro c pre W hpre ⟨rfl, hA, r1, rB⟩ hK
      gi_wp2
      have c2 : (W.putObj (splitWorld W1 46 s).heap.size (.deferred none)).cell? ⟨w.heap.size + 1, 0, none⟩ = some (.bool false) :=
        cell_of_one ((World.putObj_heap_other (by omega)).trans r1)
      refine ⟨by simp, .inl ⟨_, _, rfl, run_takeDeferred hK, ?_⟩⟩
      refine ⟨.bool false, by simp [results, Tryz.results31, go_sem, c2], ?_⟩
      refine ⟨ret_bool ?_, below_putObj rB _ _ (by omega) (by have := rB.size; omega)⟩
      obtain ⟨t, ht⟩ := hpre
      rw [dotB, ← ht, List.all_append, hA]
      simp
  · gi_wp2_with fail
    refine ⟨.bool false, by simp [results, Tryz.results31, go_sem], ?_⟩
    refine ⟨ret_bool ?_, (((Below.refl _ _).alloc (Nat.le_refl _) _).alloc (by simp) _)⟩
    rw [dotB, decide_eq_false (by omega)]
    rfl

theorem empty_iff (p : ByteArray) : p.toList.isEmpty = (bs p).isEmpty := by rw [Lib.toList_data]
set_option maxHeartbeats 400000 in
theorem local_walk (s : ByteArray) (w : World) (hs : s.size ≤ 140737488351232) :
    Calls Tryz.prog 63 #[.string s] w fun e w' => e = .returned (.bool (dotB partL 64 s)) ∧ Below w.heap.size w w' := by
  go_enter Tryz.func63, Tryz.ntmps63
  go_wp2_with fail
  refine (dotted_walk 77 partL (allB atomB) (enters_of Tryz.func77 (by kernel_rfl) rfl) (Lib.hid (fun p w h0 _ => atom_walk p w h0))
    (Lib.hid (fun p => by rw [empty_iff]; rfl)) s 64 _ hs (by decide)).mono ?_
  rintro e w' ⟨rfl, hB⟩
  have HB := Lib.hid hB
  clear hB
  go_wp2
  go_ret
  exact ⟨rfl, HB.out⟩
theorem partD_split (p : ByteArray) : partD (bs p) = (!p.toList.isEmpty && labelS p) := by
  rw [empty_iff, labelS]
  cases h : (bs p).isEmpty with
  | true => simp [partD, h]
  | false => simp
set_option maxHeartbeats 400000 in
theorem domain_walk (s : ByteArray) (w : World) (hs : s.size ≤ 140737488351232) :
    Calls Tryz.prog 15 #[.string s] w fun e w' => e = .returned (.bool (dotB partD 100 s)) ∧ Below w.heap.size w w' := by
  go_enter Tryz.func15, Tryz.ntmps15
  go_wp2_with fail
  refine (dotted_walk 32 partD labelS (enters_of Tryz.func32 (by kernel_rfl) rfl) (Lib.hid (fun p w h0 h1 => label_walk p w h0 h1))
    (Lib.hid partD_split) s 100 _ hs (by decide)).mono ?_
  rintro e w' ⟨rfl, hB⟩
  have HB := Lib.hid hB
  clear hB
  go_wp2
  go_ret
  exact ⟨rfl, HB.out⟩
theorem dot_local (s : ByteArray) : dotB partL 64 s = goLocal (bs s) := by
  rw [dotB, goLocal, bs_size]
  congr 1
  simp only [decide_eq_decide]
  omega
theorem dot_domain (s : ByteArray) : dotB partD 100 s = goDomain (bs s) := by
  rw [dotB, goDomain, bs_size]
  congr 1
  simp only [decide_eq_decide]
  omega
end Go.Proofs.YtcalbpdcjklffaaGreatDoor
