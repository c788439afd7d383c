/- The walk of RetryBounces: whatever the message is, the call answers true (printed by wip/bin/genbounces.py). -/
import Derived.Test.YtcalbpdcjklffaaGreatDoorBounceBad
import Derived.Test.YtcalbpdcjklffaaGreatDoorRefBounce
import Derived.Test.YtcalbpdcjklffaaGreatDoorBig
import Derived.Test.YtcalbpdcjklffaaGreatDoorRetryA
import Derived.Test.YtcalbpdcjklffaaGreatDoorNum
import Derived.Test.YtcalbpdcjklffaaGreatDoorRefDomain
namespace Go.Proofs.YtcalbpdcjklffaaGreatDoor
open Go.RowKit
open Pl (goDomain refDomain ref_goDomain)
set_option linter.unusedSimpArgs false
set_option linter.unusedVariables false
structure BMailAt (W : World) (B : Nat) (g dm to : ByteArray) (many id now : Int) (A : Option Addr) (n c : Nat) (msg : ByteArray) : Prop where
  heap : W.heap[B]? = some (mailObj g dm to many id now A n c msg)
theorem BMailAt.then {W W1 : World} {B : Nat} {g dm to : ByteArray} {many id now : Int} {A : Option Addr} {n c : Nat} {msg : ByteArray} (h : BMailAt W B g dm to many id now A n c msg) (hb : Below W.heap.size W W1) : BMailAt W1 B g dm to many id now A n c msg :=
  ⟨(hb.block _ (Array.getElem?_eq_some_iff.1 h.heap).1).trans h.heap⟩
theorem bwaits_below {w w1 : World} (h : Waits w) (hb : Below w.heap.size w w1) : Waits w1 := fun t h0 h3 =>
  (hb.cell (p := ⟨13, t.toNat, none⟩) (World.block_lt_of_cell? w _ (h t h0 h3))).trans (h t h0 h3)
theorem nsum_le (g dm to msg : ByteArray) (ns : List ByteArray) (h : bigB g dm to msg ns = false) : dm.size ≤ 1000 ∧ to.size ≤ 1000 ∧ msg.size ≤ 10000 ∧ nsum ns ≤ 20000 := by
  simp only [bigB, Bool.or_eq_false_iff, decide_eq_false_iff_not] at h
  omega
set_option maxHeartbeats 8000000 in
set_option maxRecDepth 100000 in
theorem retryBounces_walk {a0 a1 a2 a3 a4 a5 a6 a7 a8 a9 a10 a11 a12 : Addr} (g dm to : ByteArray) (many id now : Int) (A : Option Addr) (n c : Nat) (msg : ByteArray) (ns : List ByteArray) (w : World) (hm : id ≤ 9223372036854775807) (hN : NamesAt w A n ns) (hs : ∀ y ∈ ns, y.size ≤ 140737488355328)
    (hW : Waits w) (hT : TabW w) (hE : ErrsAt w a0 a1 a2 a3 a4 a5 a6 a7 a8 a9 a10 a11 a12) :
    Calls Tryz.prog 3 #[mailV g dm to many id now A n c msg] w fun e w' => e = .returned (.bool true) ∧ Below w.heap.size w w' := by
  have hB := (Below.refl w.heap.size w).alloc (Nat.le_refl _) (mailObj g dm to many id now A n c msg)
  have hP : BMailAt (w.alloc (mailObj g dm to many id now A n c msg)) w.heap.size g dm to many id now A n c msg := ⟨World.alloc_heap_new w _⟩
  generalize hw : w.alloc (mailObj g dm to many id now A n c msg) = w1 at hB hP
  obtain ⟨c0, c1, c2, c3, c4, c5, c6, c7⟩ := mail_cells hP.heap
  have HAl := Lib.hid (alive18 w1 (bwaits_below hW hB))
  have HBig := Lib.hid (big_walk g dm to many id now A n c msg ns w1 (hN.then hB) hs)
  have HP := Lib.hid hP
  have HE := Lib.hid (hE.below hB)
  have HT := Lib.hid (hT.then hB)
  have HN := Lib.hid (hN.then hB)
  have HB := Lib.hid hB
  clear hB hP hW hT hE hN hs
  cases hbig : bigB g dm to msg ns with
  | true =>
    rw [hbig] at HBig
    clear hbig
    go_enter Tryz.func3, Tryz.ntmps3
    go_wp2_with fail
    refine HAl.out.mono ?_
    rintro e w2 ⟨rfl, rfl⟩
    go_wp2_with fail
    refine HBig.out.mono ?_
    rintro e w2 ⟨rfl, hB2⟩
    have HB2 := Lib.hid (below_then HB.out hB2)
    clear hB2
    go_wp2
    go_ret
    exact ⟨rfl, HB2.out⟩
  | false =>
    obtain ⟨z1, z0, z2, z3⟩ := nsum_le g dm to msg ns hbig
    rw [hbig] at HBig
    clear hbig
    by_cases hbad : (now < 0 ∨ 4102444799 < now) ∨ id < 1
    · cases hmo : momentB now with
      | false =>
        have HMo := Lib.hid hmo
        have HBad := Lib.hid hbad
        clear hmo hbad
        go_enter Tryz.func3, Tryz.ntmps3
        go_wp2_with fail
        refine HAl.out.mono ?_
        rintro e w2 ⟨rfl, rfl⟩
        go_wp2_with fail
        refine HBig.out.mono ?_
        rintro e w2 ⟨rfl, hB2⟩
        have HB2 := Lib.hid (below_then HB.out hB2)
        have HE2 := Lib.hid (HE.out.below hB2)
        have HT2 := Lib.hid (HT.out.then hB2)
        have HP2 := Lib.hid (HP.out.then hB2)
        have HN2 := Lib.hid (HN.out.then hB2)
        clear hB2 c0 c1 c2 c3 c4 c5 c6 c7 hw
        obtain ⟨d0, d1, d2, d3, d4, d5, d6, d7⟩ := mail_cells HP2.out.heap
        go_wp2_with fail
        refine (bounce_range dm to msg id now A n c HBad.out _ _ w2 HT2.out HE2.out.h0.1).mono ?_
        rintro e w3 ⟨rfl, hB3⟩
        have HB3 := Lib.hid (below_then HB2.out hB3)
        have HE3 := Lib.hid (HE2.out.below hB3)
        have HP3 := Lib.hid (HP2.out.then hB3)
        have HN3 := Lib.hid (HN2.out.then hB3)
        clear hB3 d0 d1 d2 d3 d4 d5 d6 d7
        obtain ⟨d0, d1, d2, d3, d4, d5, d6, d7⟩ := mail_cells HP3.out.heap
        go_wp2_with fail
        refine (moment_walk now _).mono ?_
        rintro e w' ⟨rfl, rfl⟩
        rw [HMo.out]
        go_wp2_with fail
        refine (num_range HE3.out).mono ?_
        rintro e w4 ⟨rfl, hB4⟩
        have HB4 := Lib.hid (below_then HB3.out hB4)
        clear hB4
        go_wp2
        go_ret
        exact ⟨rfl, HB4.out⟩
      | true =>
        have hm1 : id < 1 := by
          rw [momentB, Bool.and_eq_true, decide_eq_true_eq, decide_eq_true_eq] at hmo
          omega
        have HMo := Lib.hid hmo
        have HBad := Lib.hid hbad
        clear hmo hbad
        go_enter Tryz.func3, Tryz.ntmps3
        go_wp2_with fail
        refine HAl.out.mono ?_
        rintro e w2 ⟨rfl, rfl⟩
        go_wp2_with fail
        refine HBig.out.mono ?_
        rintro e w2 ⟨rfl, hB2⟩
        have HB2 := Lib.hid (below_then HB.out hB2)
        have HE2 := Lib.hid (HE.out.below hB2)
        have HT2 := Lib.hid (HT.out.then hB2)
        have HP2 := Lib.hid (HP.out.then hB2)
        have HN2 := Lib.hid (HN.out.then hB2)
        clear hB2 c0 c1 c2 c3 c4 c5 c6 c7 hw
        obtain ⟨d0, d1, d2, d3, d4, d5, d6, d7⟩ := mail_cells HP2.out.heap
        go_wp2_with fail
        refine (bounce_range dm to msg id now A n c HBad.out _ _ w2 HT2.out HE2.out.h0.1).mono ?_
        rintro e w3 ⟨rfl, hB3⟩
        have HB3 := Lib.hid (below_then HB2.out hB3)
        have HE3 := Lib.hid (HE2.out.below hB3)
        have HP3 := Lib.hid (HP2.out.then hB3)
        have HN3 := Lib.hid (HN2.out.then hB3)
        clear hB3 d0 d1 d2 d3 d4 d5 d6 d7
        obtain ⟨d0, d1, d2, d3, d4, d5, d6, d7⟩ := mail_cells HP3.out.heap
        go_wp2_with fail
        refine (moment_walk now _).mono ?_
        rintro e w' ⟨rfl, rfl⟩
        rw [HMo.out]
        go_wp2_with fail
        refine (num_range HE3.out).mono ?_
        rintro e w4 ⟨rfl, hB4⟩
        have HB4 := Lib.hid (below_then HB3.out hB4)
        clear hB4
        go_wp2
        go_ret
        exact ⟨rfl, HB4.out⟩
    · have hn1 : 1 ≤ id := by omega
      have hmo : momentB now = true := by rw [momentB, decide_eq_true (show 0 ≤ now by omega), decide_eq_true (show now ≤ 4102444799 by omega)]; rfl
      have HMo := Lib.hid hmo
      obtain ⟨t, rfl⟩ : ∃ k : Nat, now = (k : Int) := ⟨now.toNat, by omega⟩
      obtain ⟨m, rfl⟩ : ∃ k : Nat, id = (k : Int) := ⟨id.toNat, by omega⟩
      have ht : t ≤ 4102444799 := by omega
      have hm1 : 1 ≤ m := by omega
      clear hbad hmo
      have kd := fun W => refDomain_walk dm W (by omega)
      rw [ref_goDomain] at kd
      have KD := Lib.hid kd
      have kr := fun W => refBare18_walk to W (by omega)
      rw [← bare_same] at kr
      have KB := Lib.hid kr
      clear kd kr
      cases dd : goDomain (bs dm) with
      | false =>
        rw [dd] at KD
        have HH := Lib.hid (show goDomain (bs dm) = false ∨ bareB to = false from .inl dd)
        clear dd
        go_enter Tryz.func3, Tryz.ntmps3
        go_wp2_with fail
        refine HAl.out.mono ?_
        rintro e w2 ⟨rfl, rfl⟩
        go_wp2_with fail
        refine HBig.out.mono ?_
        rintro e w2 ⟨rfl, hB2⟩
        have HB2 := Lib.hid (below_then HB.out hB2)
        have HE2 := Lib.hid (HE.out.below hB2)
        have HT2 := Lib.hid (HT.out.then hB2)
        have HP2 := Lib.hid (HP.out.then hB2)
        have HN2 := Lib.hid (HN.out.then hB2)
        clear hB2 c0 c1 c2 c3 c4 c5 c6 c7 hw
        obtain ⟨d0, d1, d2, d3, d4, d5, d6, d7⟩ := mail_cells HP2.out.heap
        go_wp2_with fail
        refine (bounce_name dm to msg m t A n c _ hn1 ht (by omega) (by omega) HH.out _ _ w2 HT2.out HE2.out.h3.1 HE2.out.h1.1 ⟨_, _, rfl⟩).mono ?_
        rintro e w3 ⟨rfl, hB3⟩
        have HB3 := Lib.hid (below_then HB2.out hB3)
        have HE3 := Lib.hid (HE2.out.below hB3)
        have HP3 := Lib.hid (HP2.out.then hB3)
        have HN3 := Lib.hid (HN2.out.then hB3)
        clear hB3 d0 d1 d2 d3 d4 d5 d6 d7
        obtain ⟨d0, d1, d2, d3, d4, d5, d6, d7⟩ := mail_cells HP3.out.heap
        go_wp2_with fail
        refine (moment_walk t _).mono ?_
        rintro e w' ⟨rfl, rfl⟩
        rw [HMo.out]
        go_wp2_with fail
        refine (KD.out _).mono ?_
        rintro e w' ⟨rfl, rfl⟩
        go_wp2_with fail
        refine (num_name HE3.out).mono ?_
        rintro e w4 ⟨rfl, hB4⟩
        have HB4 := Lib.hid (below_then HB3.out hB4)
        clear hB4
        go_wp2
        go_ret
        exact ⟨rfl, HB4.out⟩
      | true =>
        rw [dd] at KD
        cases db : bareB to with
        | false =>
          rw [db] at KB
          have HH := Lib.hid (show goDomain (bs dm) = false ∨ bareB to = false from .inr db)
          clear dd db
          go_enter Tryz.func3, Tryz.ntmps3
          go_wp2_with fail
          refine HAl.out.mono ?_
          rintro e w2 ⟨rfl, rfl⟩
          go_wp2_with fail
          refine HBig.out.mono ?_
          rintro e w2 ⟨rfl, hB2⟩
          have HB2 := Lib.hid (below_then HB.out hB2)
          have HE2 := Lib.hid (HE.out.below hB2)
          have HT2 := Lib.hid (HT.out.then hB2)
          have HP2 := Lib.hid (HP.out.then hB2)
          have HN2 := Lib.hid (HN.out.then hB2)
          clear hB2 c0 c1 c2 c3 c4 c5 c6 c7 hw
          obtain ⟨d0, d1, d2, d3, d4, d5, d6, d7⟩ := mail_cells HP2.out.heap
          go_wp2_with fail
          refine (bounce_name dm to msg m t A n c _ hn1 ht (by omega) (by omega) HH.out _ _ w2 HT2.out HE2.out.h3.1 HE2.out.h1.1 ⟨_, _, rfl⟩).mono ?_
          rintro e w3 ⟨rfl, hB3⟩
          have HB3 := Lib.hid (below_then HB2.out hB3)
          have HE3 := Lib.hid (HE2.out.below hB3)
          have HP3 := Lib.hid (HP2.out.then hB3)
          have HN3 := Lib.hid (HN2.out.then hB3)
          clear hB3 d0 d1 d2 d3 d4 d5 d6 d7
          obtain ⟨d0, d1, d2, d3, d4, d5, d6, d7⟩ := mail_cells HP3.out.heap
          go_wp2_with fail
          refine (moment_walk t _).mono ?_
          rintro e w' ⟨rfl, rfl⟩
          rw [HMo.out]
          go_wp2_with fail
          refine (KD.out _).mono ?_
          rintro e w' ⟨rfl, rfl⟩
          go_wp2_with fail
          refine (KB.out _).mono ?_
          rintro e w5 ⟨rfl, hB5⟩
          have HB5 := Lib.hid (below_then HB3.out hB5)
          have HE5 := Lib.hid (HE3.out.below hB5)
          clear hB5
          go_wp2_with fail
          refine (num_name HE5.out).mono ?_
          rintro e w4 ⟨rfl, hB4⟩
          have HB4 := Lib.hid (below_then HB5.out hB4)
          clear hB4
          go_wp2
          go_ret
          exact ⟨rfl, HB4.out⟩
        | true =>
          rw [db] at KB
          have KS := Lib.hid (fun W h1 h2 h3 => bounce_good dm to msg m t A n c ns _ hm1 (by omega) ht (by omega) (by omega) (by omega) (by omega) dd db W h1 h2 h3 ⟨128, .pointer (some a1), rfl⟩)
          have KR := Lib.hid (fun W h => refBounce_walk dm to msg m t A n c ns (by omega) ht (by omega) (by omega) (by omega) (by omega) W h)
          rw [← bounce_same] at KR
          generalize bounceS dm to m t ns msg = SS at *
          clear dd db
          go_enter Tryz.func3, Tryz.ntmps3
          go_wp2_with fail
          refine HAl.out.mono ?_
          rintro e w2 ⟨rfl, rfl⟩
          go_wp2_with fail
          refine HBig.out.mono ?_
          rintro e w2 ⟨rfl, hB2⟩
          have HB2 := Lib.hid (below_then HB.out hB2)
          have HE2 := Lib.hid (HE.out.below hB2)
          have HT2 := Lib.hid (HT.out.then hB2)
          have HP2 := Lib.hid (HP.out.then hB2)
          have HN2 := Lib.hid (HN.out.then hB2)
          clear hB2 c0 c1 c2 c3 c4 c5 c6 c7 hw
          obtain ⟨d0, d1, d2, d3, d4, d5, d6, d7⟩ := mail_cells HP2.out.heap
          go_wp2_with fail
          refine (KS.out w2 HT2.out HN2.out HE2.out.h1.1).mono ?_
          rintro e w3 ⟨rfl, hB3⟩
          have HB3 := Lib.hid (below_then HB2.out hB3)
          have HE3 := Lib.hid (HE2.out.below hB3)
          have HP3 := Lib.hid (HP2.out.then hB3)
          have HN3 := Lib.hid (HN2.out.then hB3)
          clear hB3 d0 d1 d2 d3 d4 d5 d6 d7
          obtain ⟨d0, d1, d2, d3, d4, d5, d6, d7⟩ := mail_cells HP3.out.heap
          go_wp2_with fail
          refine (moment_walk t _).mono ?_
          rintro e w' ⟨rfl, rfl⟩
          rw [HMo.out]
          go_wp2_with fail
          refine (KD.out _).mono ?_
          rintro e w' ⟨rfl, rfl⟩
          go_wp2_with fail
          refine (KB.out _).mono ?_
          rintro e w5 ⟨rfl, hB5⟩
          have HB5 := Lib.hid (below_then HB3.out hB5)
          have HP5 := Lib.hid (HP3.out.then hB5)
          have HN5 := Lib.hid (HN3.out.then hB5)
          clear hB5 d0 d1 d2 d3 d4 d5 d6 d7
          obtain ⟨d0, d1, d2, d3, d4, d5, d6, d7⟩ := mail_cells HP5.out.heap
          go_wp2_with fail
          refine (KR.out _ HN5.out).mono ?_
          rintro e w4 ⟨rfl, hB4⟩
          have HB4 := Lib.hid (below_then HB5.out hB4)
          have hss : (SS.toList == SS.toList) = true := by simp
          clear hB4
          go_wp2
          go_ret
          exact ⟨rfl, HB4.out⟩
end Go.Proofs.YtcalbpdcjklffaaGreatDoor
