/- The walk of the document's own Take (leaves printed by wip/bin/genreftake.py). -/
import Derived.Test.YtcalbpdcjklffaaGreatDoorRefBare
import Derived.RegionTactic
import Derived.BigRegion
import Derived.Laws.ResultCell
set_option linter.unusedSimpArgs false
set_option linter.unusedVariables false
namespace Go.Proofs.YtcalbpdcjklffaaGreatDoor
open Go.RowKit
open Pl (Bs idxB idxB_at idxB_before idxB_le at_ refLocal refDomain refTake)
/-- where a byte was seen among the first k: -1, if nowhere -/
def seenI (A k : Nat) : Int := if A < k then (A : Int) else -1
theorem seen_no {A k : Nat} (h : ¬ A < k) : seenI A k = -1 := by rw [seenI, if_neg h]
theorem seen_yes {A k : Nat} (h : A < k) : seenI A k = A := by rw [seenI, if_pos h]
theorem idx_hit {x : UInt8} {s : ByteArray} {k : Nat} (hk : k < s.size) (hx : s[k] = x) : idxB x (bs s) ≤ k := by
  rcases Nat.lt_or_ge k (idxB x (bs s)) with h | h
  · have hk' : k < (bs s).length := by rw [bs_size]; exact hk
    have e : (bs s)[k] = x := by rw [← hx]; simp [bs]; rfl
    exact absurd e (idxB_before x (bs s) k hk' h)
  · exact h
theorem idx_miss {x : UInt8} {s : ByteArray} {k : Nat} (hk : k < s.size) (hx : ¬ s[k] = x) : idxB x (bs s) ≠ k := fun e => by
  subst e
  exact hx ((by simp [bs]; rfl : s[idxB x (bs s)] = (bs s)[idxB x (bs s)]'(by rw [bs_size]; exact hk)).trans (idxB_at x (bs s) (by rw [bs_size]; exact hk)))
theorem idx_byte {x : UInt8} {s : ByteArray} {k : Nat} (hk : k < s.size) (e : idxB x (bs s) = k) : s[k] = x := by
  subst e
  exact ((by simp [bs]; rfl : s[idxB x (bs s)] = (bs s)[idxB x (bs s)]'(by rw [bs_size]; exact hk)).trans (idxB_at x (bs s) (by rw [bs_size]; exact hk)))
theorem byte_62 (c : UInt8) : (c = 62) ↔ ((c.toNat : Int) = 62) := byte_eq c 62 (by decide)
theorem byte_64 (c : UInt8) : (c = 64) ↔ ((c.toNat : Int) = 64) := byte_eq c 64 (by decide)
theorem byte_60 (c : UInt8) : (c = 60) ↔ ((c.toNat : Int) = 60) := byte_eq c 60 (by decide)
/-- the document's Take, over the text itself: local part, domain, how many bytes -/
def takeLo (s : ByteArray) : ByteArray := s.extract 1 (idxB 64 (bs s))
def takeD (s : ByteArray) : ByteArray := s.extract (idxB 64 (bs s) + 1) (idxB 62 (bs s))
def takeR (s : ByteArray) : ByteArray × ByteArray × Nat :=
  if idxB 62 (bs s) = s.size ∨ at_ (bs s) 0 ≠ 60 then (⟨#[]⟩, ⟨#[]⟩, 0)
  else if idxB 62 (bs s) = 1 then (⟨#[]⟩, ⟨#[]⟩, 2)
  else if ¬ idxB 64 (bs s) < idxB 62 (bs s) ∨ refLocal (bs (takeLo s)) = false ∨ refDomain (bs (takeD s)) = false then (⟨#[]⟩, ⟨#[]⟩, 0)
  else (takeLo s, takeD s, idxB 62 (bs s) + 1)
theorem below_drew {B : Nat} {w W : World} (h : Below B w W) : Below B w W.drew := ⟨h.os, h.tape, h.output, h.size, h.block⟩
def takeV (r : ByteArray × ByteArray × Nat) : Value := .tuple #[.agg #[.string r.1, .string r.2.1], .int .i64 r.2.2]

set_option maxHeartbeats 4000000 in
set_option maxRecDepth 100000 in
theorem takeRef_walk (s : ByteArray) (w : World) (hs : s.size ≤ 140737488351232) :
    Calls Tryz.prog 22 #[.string s] w fun e w' => e = .returned (takeV (takeR s)) ∧ Below w.heap.size w w' := by
  generalize hA : idxB 64 (bs s) = A
  generalize hE : idxB 62 (bs s) = E
  have lA : A ≤ s.size := by rw [← hA, ← bs_size]; exact idxB_le _ _
  have lE : E ≤ s.size := by rw [← hE, ← bs_size]; exact idxB_le _ _
  have nAE : E < s.size → A ≠ E := fun h e => by
    have h1 := idx_byte h hE
    have h2 := idx_byte (by omega) (hA.trans e)
    rw [h1] at h2
    exact absurd h2 (by decide)
  go_enter Tryz.func22, Tryz.ntmps22
  go_wp2
  go_loop [4, 5, 6] (fun a e i => ∃ k : Nat, k ≤ s.size ∧ i = .int .i64 k ∧ a = .int .i64 (seenI A k) ∧ e = .int .i64 (seenI E k) ∧ (E < k → k = E + 1)) (fun _ _ i => s.size - (intOf i).toNat)
  case atStart => exact ⟨0, Nat.zero_le _, rfl, rfl, rfl, fun h => absurd h (Nat.not_lt_zero _)⟩
  case round =>
    obtain ⟨k, hk, rfl, rfl, rfl, hEk⟩ := hrel
    by_cases hek : E < k
    · obtain rfl := hEk hek
      have hE' : E < s.size := by omega
      rw [seen_yes hek]
      have c60s := at_get s 0 (by omega)
      by_cases c60 : (s[0].toNat : Int) = 60
      · have g60 : ((s[0].toNat : Int) != 60) = false := by rw [bne_eq_false_iff_eq]; exact c60
        have hat : ¬ (E = s.size ∨ at_ (bs s) 0 ≠ 60) := by
          rw [c60s]; exact fun h => h.elim (fun h => by omega) (fun h => h ((byte_60 _).2 c60))
        have hE0 : E ≠ 0 := fun h => by
          subst h
          have := (byte_62 _).1 (idx_byte hE' hE)
          omega
        by_cases e1 : E = 1
        · subst e1
          have v : takeR s = (⟨#[]⟩, ⟨#[]⟩, 2) := by rw [takeR, hE, if_neg hat]; rfl
          have HV := Lib.hid v
          clear v hat c60s c60
          go_wp2
          all_goals
            refine bodyPost_ret (v := takeV (takeR s)) ?_ rfl ⟨rfl, (Below.refl _ _).alloc (Nat.le_refl _) _⟩
            rw [HV.out, results_cell_tmp rfl]
            simp [takeV, go_sem]
        · by_cases hAE : A < E
          · have hA0 : A ≠ 0 := fun h => by
              subst h
              have := (byte_64 _).1 (idx_byte (by omega) hA)
              omega
            rw [seen_yes (by omega : A < E + 1)]
            have t1 : s.extract 1 A = takeLo s := by rw [takeLo, hA]
            have t2 : s.extract (A + 1) E = takeD s := by rw [takeD, hA, hE]
            have qA : ((A : Int) < 0) = False := by rw [eq_iff_iff]; constructor <;> intro h <;> first | omega | cases h
            cases hL : refLocal (bs (takeLo s)) with
            | false =>
              have v : takeR s = (⟨#[]⟩, ⟨#[]⟩, 0) := by rw [takeR, hE, hA, if_neg hat, if_neg e1, if_pos (.inr (.inl hL))]
              have HV := Lib.hid v
              rw [← t1] at hL
              have HL := Lib.hid hL
              clear v hat c60s c60 hL t1 t2
              go_wp2_with ((go_at_call 40; refine (refLocal_walk _ _ (by first | omega | (rw [ByteArray.size_extract]; omega))).mono ?_; rintro e w' ⟨rfl, rfl⟩; rw [HL.out]))
              all_goals
                refine bodyPost_ret (v := takeV (takeR s)) ?_ rfl ⟨rfl, (Below.refl _ _).alloc (Nat.le_refl _) _⟩
                rw [HV.out, results_cell_tmp rfl]
                simp [takeV, go_sem]
            | true =>
              cases hD : refDomain (bs (takeD s)) with
              | false =>
                have v : takeR s = (⟨#[]⟩, ⟨#[]⟩, 0) := by rw [takeR, hE, hA, if_neg hat, if_neg e1, if_pos (.inr (.inr hD))]
                have HV := Lib.hid v
                rw [← t1] at hL
                rw [← t2] at hD
                have HL := Lib.hid hL
                have HD := Lib.hid hD
                clear v hat c60s c60 hL hD t1 t2
                go_wp2_with (first | (go_at_call 40; refine (refLocal_walk _ _ (by first | omega | (rw [ByteArray.size_extract]; omega))).mono ?_; rintro e w' ⟨rfl, rfl⟩; rw [HL.out]) | (go_at_call 9; refine (refDomain_walk _ _ (by first | omega | (rw [ByteArray.size_extract]; omega))).mono ?_; rintro e w' ⟨rfl, rfl⟩; rw [HD.out]))
                all_goals
                  refine bodyPost_ret (v := takeV (takeR s)) ?_ rfl ⟨rfl, (Below.refl _ _).alloc (Nat.le_refl _) _⟩
                  rw [HV.out, results_cell_tmp rfl]
                  simp [takeV, go_sem]
              | true =>
                have v : takeR s = (takeLo s, takeD s, E + 1) := by
                  rw [takeR, hE, hA, if_neg hat, if_neg e1, if_neg (by simp [hL, hD, hAE])]
                rw [← t1, ← t2] at v
                have HV := Lib.hid v
                rw [← t1] at hL
                rw [← t2] at hD
                have HL := Lib.hid hL
                have HD := Lib.hid hD
                clear v hat c60s c60 hL hD t1 t2
                go_wp2_with (first | (go_at_call 40; refine (refLocal_walk _ _ (by first | omega | (rw [ByteArray.size_extract]; omega))).mono ?_; rintro e w' ⟨rfl, rfl⟩; rw [HL.out]) | (go_at_call 9; refine (refDomain_walk _ _ (by first | omega | (rw [ByteArray.size_extract]; omega))).mono ?_; rintro e w' ⟨rfl, rfl⟩; rw [HD.out]))
                all_goals
                  have b1 : (1 : Int) ≤ (A : Int) := by omega
                  have b2 : (A : Int) ≤ (s.size : Int) := by omega
                  have b3 : (A : Int) + 1 ≤ (E : Int) := by omega
                  have b4 : (E : Int) ≤ (s.size : Int) := by omega
                  have w1 : IntKind.i64.wrap ((A : Int) + 1) = (A : Int) + 1 := IntWalk.i64_in _ (by omega)
                  have w2 : IntKind.i64.wrap ((E : Int) + 1) = (E : Int) + 1 := IntWalk.i64_in _ (by omega)
                  have n1 : ((A : Int) + 1).toNat = A + 1 := by omega
                  go_region
                  all_goals
                    go_wp2
                    refine bodyPost_ret (v := takeV (takeR s)) ?_ rfl ⟨rfl, below_drew ((Below.refl _ _).alloc (Nat.le_refl _) _)⟩
                    rw [HV.out, results_cell_tmp rfl]
                    simp [takeV, go_sem]
          · have v : takeR s = (⟨#[]⟩, ⟨#[]⟩, 0) := by rw [takeR, hE, hA, if_neg hat, if_neg e1, if_pos (.inl hAE)]
            have HV := Lib.hid v
            have := nAE hE'
            rw [seen_no (by omega : ¬ A < E + 1)]
            clear v hat c60s c60
            go_wp2
            all_goals
              refine bodyPost_ret (v := takeV (takeR s)) ?_ rfl ⟨rfl, (Below.refl _ _).alloc (Nat.le_refl _) _⟩
              rw [HV.out, results_cell_tmp rfl]
              simp [takeV, go_sem]
      · have g60 : ((s[0].toNat : Int) != 60) = true := by rw [bne_iff_ne]; exact c60
        have v : takeR s = (⟨#[]⟩, ⟨#[]⟩, 0) := by
          rw [takeR, if_pos (.inr (by rw [c60s]; exact fun h => c60 ((byte_60 _).1 h)))]
        have HV := Lib.hid v
        clear v c60s c60
        go_wp2
        all_goals
          refine bodyPost_ret (v := takeV (takeR s)) ?_ rfl ⟨rfl, (Below.refl _ _).alloc (Nat.le_refl _) _⟩
          rw [HV.out, results_cell_tmp rfl]
          simp [takeV, go_sem]
    · rw [seen_no hek]
      by_cases hlt : k < s.size
      · by_cases c62 : (s[k].toNat : Int) = 62
        · have hEk' : E = k := by have := idx_hit hlt ((byte_62 _).2 c62); omega
          have nk : A ≠ k := by have := nAE (by omega); omega
          have sA : seenI A (k + 1) = seenI A k := by unfold seenI; split <;> split <;> first | rfl | omega
          have sE : seenI E (k + 1) = k := by rw [seen_yes (by omega), hEk']
          have g62 : ((s[k].toNat : Int) == 62) = true := by rw [beq_iff_eq]; exact c62
          have g64 : ((s[k].toNat : Int) == 64) = false := by rw [beq_eq_false_iff_ne, c62]; decide
          have SA := Lib.hid sA
          have SE := Lib.hid sE
          clear sA sE c62
          go_wp2
          go_round
          case rel => exact ⟨k + 1, by omega, by go_num, by rw [SA.out], by rw [SE.out], fun _ => by omega⟩
          case measure => simp [intOf]; omega
        · have nk : E ≠ k := by rw [← hE]; exact idx_miss hlt (fun h => c62 ((byte_62 _).1 h))
          have sE : seenI E (k + 1) = -1 := seen_no (by omega)
          have g62 : ((s[k].toNat : Int) == 62) = false := by rw [beq_eq_false_iff_ne]; exact c62
          have SE := Lib.hid sE
          clear sE c62
          by_cases c64 : (s[k].toNat : Int) = 64
          · have g64 : ((s[k].toNat : Int) == 64) = true := by rw [beq_iff_eq]; exact c64
            have hAk := idx_hit hlt ((byte_64 _).2 c64)
            rw [hA] at hAk
            clear c64
            by_cases ha : A < k
            · have sA : seenI A (k + 1) = A := seen_yes (by omega)
              rw [seen_yes ha]
              have SA := Lib.hid sA
              clear sA
              go_wp2
              go_round
              case rel => exact ⟨k + 1, by omega, by go_num, by rw [SA.out], by rw [SE.out], fun _ => by omega⟩
              case measure => simp [intOf]; omega
            · have sA : seenI A (k + 1) = k := by rw [seen_yes (by omega)]; congr 1; omega
              rw [seen_no ha]
              have SA := Lib.hid sA
              clear sA
              go_wp2
              go_round
              case rel => exact ⟨k + 1, by omega, by go_num, by rw [SA.out], by rw [SE.out], fun _ => by omega⟩
              case measure => simp [intOf]; omega
          · have g64 : ((s[k].toNat : Int) == 64) = false := by rw [beq_eq_false_iff_ne]; exact c64
            have nA : A ≠ k := by rw [← hA]; exact idx_miss hlt (fun h => c64 ((byte_64 _).1 h))
            have sA : seenI A (k + 1) = seenI A k := by unfold seenI; split <;> split <;> first | rfl | omega
            have SA := Lib.hid sA
            clear sA c64
            go_wp2
            go_round
            case rel => exact ⟨k + 1, by omega, by go_num, by rw [SA.out], by rw [SE.out], fun _ => by omega⟩
            case measure => simp [intOf]; omega
      · obtain rfl : k = s.size := by omega
        have v : takeR s = (⟨#[]⟩, ⟨#[]⟩, 0) := by rw [takeR, if_pos (.inl (by omega))]
        have HV := Lib.hid v
        clear v
        go_wp2
        all_goals
          refine bodyPost_ret (v := takeV (takeR s)) ?_ rfl ⟨rfl, (Below.refl _ _).alloc (Nat.le_refl _) _⟩
          rw [HV.out, results_cell_tmp rfl]
          simp [takeV, go_sem]
end Go.Proofs.YtcalbpdcjklffaaGreatDoor
