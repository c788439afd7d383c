/- The walk of RetryStamps: whatever the message is, the call answers true (printed by wip/bin/genstamps.py). -/
import Derived.Test.YtcalbpdcjklffaaDoorStamp
import Derived.Test.YtcalbpdcjklffaaDoorBig
import Derived.Test.YtcalbpdcjklffaaDoorRetryNextW
import Derived.Test.YtcalbpdcjklffaaDoorRefDomain
namespace Go.Proofs.YtcalbpdcjklffaaDoor
open Go.RowKit
open Pl (goDomain refDomain ref_goDomain)
set_option linter.unusedSimpArgs false
set_option linter.unusedVariables false
structure MailAt (W : World) (B : Nat) (g dm to : ByteArray) (many id now : Int) (A : Option Addr) (n c : Nat) (msg : ByteArray) : Prop where
  heap : W.heap[B]? = some (mailObj g dm to many id now A n c msg)
theorem MailAt.then {W W1 : World} {B : Nat} {g dm to : ByteArray} {many id now : Int} {A : Option Addr} {n c : Nat} {msg : ByteArray} (h : MailAt W B g dm to many id now A n c msg) (hb : Below W.heap.size W W1) : MailAt W1 B g dm to many id now A n c msg :=
  ⟨(hb.block _ (Array.getElem?_eq_some_iff.1 h.heap).1).trans h.heap⟩
set_option maxHeartbeats 8000000 in
set_option maxRecDepth 100000 in
theorem retryStamps_walk {a0 a1 a2 a3 a4 a5 a6 a7 a8 a9 a10 a11 a12 : Addr} (g dm to : ByteArray) (many id now : Int) (A : Option Addr) (n c : Nat) (msg : ByteArray) (ns : List ByteArray) (w : World) (hm : many ≤ 9223372036854775807) (hN : NamesAt w A n ns) (hs : ∀ y ∈ ns, y.size ≤ 140737488355328)
    (hW : Waits w) (hT : TabW w) (hE : ErrsAt w a0 a1 a2 a3 a4 a5 a6 a7 a8 a9 a10 a11 a12) :
    Calls Tryd.prog 10 #[mailV g dm to many id now A n c msg] w fun e w' => e = .returned (.bool true) ∧ Below w.heap.size w w' := by
  have hB := (Below.refl w.heap.size w).alloc (Nat.le_refl _) (mailObj g dm to many id now A n c msg)
  have hP : MailAt (w.alloc (mailObj g dm to many id now A n c msg)) w.heap.size g dm to many id now A n c msg := ⟨World.alloc_heap_new w _⟩
  generalize hw : w.alloc (mailObj g dm to many id now A n c msg) = w1 at hB hP
  obtain ⟨c0, c1, c2, c3, c4, c5, c6, c7⟩ := mail_cells hP.heap
  have HAl := Lib.hid (alive18 w1 (waits_below hW hB))
  have HBig := Lib.hid (big_walk g dm to many id now A n c msg ns w1 (hN.then hB) hs)
  have HP := Lib.hid hP
  have HE := Lib.hid (hE.below hB)
  have HT := Lib.hid (hT.then hB)
  have HB := Lib.hid hB
  clear hB hP hW hT hE hN hs
  cases hbig : bigB g dm to msg ns with
  | true =>
    rw [hbig] at HBig
    clear hbig
    go_enter Tryd.func10, Tryd.ntmps10
    go_wp2_with fail
    refine HAl.out.mono ?_
    rintro e w2 ⟨rfl, rfl⟩
    go_wp2_with fail
    refine HBig.out.mono ?_
    rintro e w2 ⟨rfl, hB2⟩
    have HB2 := Lib.hid (below_then HB.out hB2)
    clear hB2
    go_wp2
    go_ret
    exact ⟨rfl, HB2.out⟩
  | false =>
    have z0 : g.size ≤ 1000 ∧ dm.size ≤ 1000 ∧ msg.size ≤ 10000 := by
      simp only [bigB, Bool.or_eq_false_iff, decide_eq_false_iff_not] at hbig
      omega
    obtain ⟨z0, z1, z2⟩ := z0
    rw [hbig] at HBig
    clear hbig
    by_cases hbad : (now < 0 ∨ 4102444799 < now) ∨ many < 1
    · cases hmo : momentB now with
      | false =>
        have HMo := Lib.hid hmo
        clear hmo
        go_enter Tryd.func10, Tryd.ntmps10
        go_wp2_with fail
        refine HAl.out.mono ?_
        rintro e w2 ⟨rfl, rfl⟩
        go_wp2_with fail
        refine HBig.out.mono ?_
        rintro e w2 ⟨rfl, hB2⟩
        have HB2 := Lib.hid (below_then HB.out hB2)
        have HE2 := Lib.hid (HE.out.below hB2)
        have HT2 := Lib.hid (HT.out.then hB2)
        have HP2 := Lib.hid (HP.out.then hB2)
        clear hB2 c0 c1 c2 c3 c4 c5 c6 c7 hw
        obtain ⟨d0, d1, d2, d3, d4, d5, d6, d7⟩ := mail_cells HP2.out.heap
        go_wp2_with fail
        refine (stamp_range g dm msg many now hbad _ _ w2 HT2.out HE2.out.h0.1).mono ?_
        rintro e w3 ⟨rfl, hB3⟩
        have HB3 := Lib.hid (below_then HB2.out hB3)
        have HE3 := Lib.hid (HE2.out.below hB3)
        have HP3 := Lib.hid (HP2.out.then hB3)
        clear hB3 d0 d1 d2 d3 d4 d5 d6 d7
        obtain ⟨d0, d1, d2, d3, d4, d5, d6, d7⟩ := mail_cells HP3.out.heap
        go_wp2_with fail
        refine (moment_walk now _).mono ?_
        rintro e w' ⟨rfl, rfl⟩
        rw [HMo.out]
        go_wp2_with fail
        refine (num_range HE3.out).mono ?_
        rintro e w4 ⟨rfl, hB4⟩
        have HB4 := Lib.hid (below_then HB3.out hB4)
        clear hB4
        go_wp2
        go_ret
        exact ⟨rfl, HB4.out⟩
      | true =>
        have hm1 : many < 1 := by
          rw [momentB, Bool.and_eq_true, decide_eq_true_eq, decide_eq_true_eq] at hmo
          omega
        have HMo := Lib.hid hmo
        have HBad := Lib.hid hbad
        clear hmo hbad
        go_enter Tryd.func10, Tryd.ntmps10
        go_wp2_with fail
        refine HAl.out.mono ?_
        rintro e w2 ⟨rfl, rfl⟩
        go_wp2_with fail
        refine HBig.out.mono ?_
        rintro e w2 ⟨rfl, hB2⟩
        have HB2 := Lib.hid (below_then HB.out hB2)
        have HE2 := Lib.hid (HE.out.below hB2)
        have HT2 := Lib.hid (HT.out.then hB2)
        have HP2 := Lib.hid (HP.out.then hB2)
        clear hB2 c0 c1 c2 c3 c4 c5 c6 c7 hw
        obtain ⟨d0, d1, d2, d3, d4, d5, d6, d7⟩ := mail_cells HP2.out.heap
        go_wp2_with fail
        refine (stamp_range g dm msg many now HBad.out _ _ w2 HT2.out HE2.out.h0.1).mono ?_
        rintro e w3 ⟨rfl, hB3⟩
        have HB3 := Lib.hid (below_then HB2.out hB3)
        have HE3 := Lib.hid (HE2.out.below hB3)
        have HP3 := Lib.hid (HP2.out.then hB3)
        clear hB3 d0 d1 d2 d3 d4 d5 d6 d7
        obtain ⟨d0, d1, d2, d3, d4, d5, d6, d7⟩ := mail_cells HP3.out.heap
        go_wp2_with fail
        refine (moment_walk now _).mono ?_
        rintro e w' ⟨rfl, rfl⟩
        rw [HMo.out]
        go_wp2_with fail
        refine (num_range HE3.out).mono ?_
        rintro e w4 ⟨rfl, hB4⟩
        have HB4 := Lib.hid (below_then HB3.out hB4)
        clear hB4
        go_wp2
        go_ret
        exact ⟨rfl, HB4.out⟩
    · have hn1 : 1 ≤ many := by omega
      have hmo : momentB now = true := by rw [momentB, decide_eq_true (show 0 ≤ now by omega), decide_eq_true (show now ≤ 4102444799 by omega)]; rfl
      have HMo := Lib.hid hmo
      obtain ⟨t, rfl⟩ : ∃ k : Nat, now = (k : Int) := ⟨now.toNat, by omega⟩
      obtain ⟨m, rfl⟩ : ∃ k : Nat, many = (k : Int) := ⟨many.toNat, by omega⟩
      have ht : t ≤ 4102444799 := by omega
      have hm1 : 1 ≤ m := by omega
      clear hbad hmo
      cases dg : goDomain (bs g) with
      | false =>
        have KG := Lib.hid (fun W => refDomain_walk g W (by omega))
        have KD := Lib.hid (fun W => refDomain_walk dm W (by omega))
        rw [ref_goDomain, dg] at KG
        have HH := Lib.hid (show goDomain (bs g) = false ∨ goDomain (bs dm) = false from .inl dg)
        clear dg
        go_enter Tryd.func10, Tryd.ntmps10
        go_wp2_with fail
        refine HAl.out.mono ?_
        rintro e w2 ⟨rfl, rfl⟩
        go_wp2_with fail
        refine HBig.out.mono ?_
        rintro e w2 ⟨rfl, hB2⟩
        have HB2 := Lib.hid (below_then HB.out hB2)
        have HE2 := Lib.hid (HE.out.below hB2)
        have HT2 := Lib.hid (HT.out.then hB2)
        have HP2 := Lib.hid (HP.out.then hB2)
        clear hB2 c0 c1 c2 c3 c4 c5 c6 c7 hw
        obtain ⟨d0, d1, d2, d3, d4, d5, d6, d7⟩ := mail_cells HP2.out.heap
        go_wp2_with fail
        refine (stamp_name g dm msg m t hn1 ht (by omega) (by omega) HH.out _ _ w2 HT2.out HE2.out.h3.1).mono ?_
        rintro e w3 ⟨rfl, hB3⟩
        have HB3 := Lib.hid (below_then HB2.out hB3)
        have HE3 := Lib.hid (HE2.out.below hB3)
        have HP3 := Lib.hid (HP2.out.then hB3)
        clear hB3 d0 d1 d2 d3 d4 d5 d6 d7
        obtain ⟨d0, d1, d2, d3, d4, d5, d6, d7⟩ := mail_cells HP3.out.heap
        go_wp2_with fail
        refine (moment_walk t _).mono ?_
        rintro e w' ⟨rfl, rfl⟩
        rw [HMo.out]
        go_wp2_with fail
        refine (KG.out _).mono ?_
        rintro e w' ⟨rfl, rfl⟩
        go_wp2_with fail
        refine (num_name HE3.out).mono ?_
        rintro e w4 ⟨rfl, hB4⟩
        have HB4 := Lib.hid (below_then HB3.out hB4)
        clear hB4
        go_wp2
        go_ret
        exact ⟨rfl, HB4.out⟩
      | true =>
        cases dd : goDomain (bs dm) with
        | false =>
          have KG := Lib.hid (fun W => refDomain_walk g W (by omega))
          have KD := Lib.hid (fun W => refDomain_walk dm W (by omega))
          rw [ref_goDomain, dg] at KG
          rw [ref_goDomain, dd] at KD
          have HH := Lib.hid (show goDomain (bs g) = false ∨ goDomain (bs dm) = false from .inr dd)
          clear dg dd
          go_enter Tryd.func10, Tryd.ntmps10
          go_wp2_with fail
          refine HAl.out.mono ?_
          rintro e w2 ⟨rfl, rfl⟩
          go_wp2_with fail
          refine HBig.out.mono ?_
          rintro e w2 ⟨rfl, hB2⟩
          have HB2 := Lib.hid (below_then HB.out hB2)
          have HE2 := Lib.hid (HE.out.below hB2)
          have HT2 := Lib.hid (HT.out.then hB2)
          have HP2 := Lib.hid (HP.out.then hB2)
          clear hB2 c0 c1 c2 c3 c4 c5 c6 c7 hw
          obtain ⟨d0, d1, d2, d3, d4, d5, d6, d7⟩ := mail_cells HP2.out.heap
          go_wp2_with fail
          refine (stamp_name g dm msg m t hn1 ht (by omega) (by omega) HH.out _ _ w2 HT2.out HE2.out.h3.1).mono ?_
          rintro e w3 ⟨rfl, hB3⟩
          have HB3 := Lib.hid (below_then HB2.out hB3)
          have HE3 := Lib.hid (HE2.out.below hB3)
          have HP3 := Lib.hid (HP2.out.then hB3)
          clear hB3 d0 d1 d2 d3 d4 d5 d6 d7
          obtain ⟨d0, d1, d2, d3, d4, d5, d6, d7⟩ := mail_cells HP3.out.heap
          go_wp2_with fail
          refine (moment_walk t _).mono ?_
          rintro e w' ⟨rfl, rfl⟩
          rw [HMo.out]
          go_wp2_with fail
          refine (KG.out _).mono ?_
          rintro e w' ⟨rfl, rfl⟩
          go_wp2_with fail
          refine (KD.out _).mono ?_
          rintro e w' ⟨rfl, rfl⟩
          go_wp2_with fail
          refine (num_name HE3.out).mono ?_
          rintro e w4 ⟨rfl, hB4⟩
          have HB4 := Lib.hid (below_then HB3.out hB4)
          clear hB4
          go_wp2
          go_ret
          exact ⟨rfl, HB4.out⟩
        | true =>
          have KG := Lib.hid (fun W => refDomain_walk g W (by omega))
          have KD := Lib.hid (fun W => refDomain_walk dm W (by omega))
          rw [ref_goDomain, dg] at KG
          rw [ref_goDomain, dd] at KD
          have KS := Lib.hid (fun W h => stamp_good g dm msg m t hm1 (by omega) ht (by omega) (by omega) (by omega) dg dd W h)
          have KR := Lib.hid (fun W => refStamp_walk g dm msg m t (by omega) ht (by omega) (by omega) (by omega) W)
          generalize stampS g dm m t msg = SS at *
          clear dg dd
          go_enter Tryd.func10, Tryd.ntmps10
          go_wp2_with fail
          refine HAl.out.mono ?_
          rintro e w2 ⟨rfl, rfl⟩
          go_wp2_with fail
          refine HBig.out.mono ?_
          rintro e w2 ⟨rfl, hB2⟩
          have HB2 := Lib.hid (below_then HB.out hB2)
          have HE2 := Lib.hid (HE.out.below hB2)
          have HT2 := Lib.hid (HT.out.then hB2)
          have HP2 := Lib.hid (HP.out.then hB2)
          clear hB2 c0 c1 c2 c3 c4 c5 c6 c7 hw
          obtain ⟨d0, d1, d2, d3, d4, d5, d6, d7⟩ := mail_cells HP2.out.heap
          go_wp2_with fail
          refine (KS.out w2 HT2.out).mono ?_
          rintro e w3 ⟨rfl, hB3⟩
          have HB3 := Lib.hid (below_then HB2.out hB3)
          have HE3 := Lib.hid (HE2.out.below hB3)
          have HP3 := Lib.hid (HP2.out.then hB3)
          clear hB3 d0 d1 d2 d3 d4 d5 d6 d7
          obtain ⟨d0, d1, d2, d3, d4, d5, d6, d7⟩ := mail_cells HP3.out.heap
          go_wp2_with fail
          refine (moment_walk t _).mono ?_
          rintro e w' ⟨rfl, rfl⟩
          rw [HMo.out]
          go_wp2_with fail
          refine (KG.out _).mono ?_
          rintro e w' ⟨rfl, rfl⟩
          go_wp2_with fail
          refine (KD.out _).mono ?_
          rintro e w' ⟨rfl, rfl⟩
          go_wp2_with fail
          refine (KR.out _).mono ?_
          rintro e w4 ⟨rfl, hB4⟩
          have HB4 := Lib.hid (below_then HB3.out hB4)
          have hss : (SS.toList == SS.toList) = true := by simp
          clear hB4
          go_wp2
          go_ret
          exact ⟨rfl, HB4.out⟩
end Go.Proofs.YtcalbpdcjklffaaDoor
