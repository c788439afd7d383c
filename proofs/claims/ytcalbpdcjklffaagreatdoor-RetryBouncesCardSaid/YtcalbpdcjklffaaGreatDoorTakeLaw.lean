/- The plain law of paths: what the program's Take and Parse read is what the document's Take reads; and what Text writes is read back. -/
import Derived.Test.YtcalbpdcjklffaaGreatDoorParse
import Derived.Test.YtcalbpdcjklffaaGreatDoorRefTake
namespace Go.Proofs.YtcalbpdcjklffaaGreatDoor
open Go.RowKit
open Pl (Bs idxB idxB_le idxB_at idxB_before idxB_eq idxB_none at_ goLocal goDomain refLocal refDomain goTake refTake go_refTake ref_goLocal ref_goDomain take_text take_nobody)
theorem bs_extract (s : ByteArray) (a b : Nat) : bs (s.extract a b) = ((bs s).take b).drop a := by
  simp only [bs, ByteArray.data_extract, Array.toList_extract, List.extract_eq_take_drop, List.drop_take]
theorem isEmpty_bs (s : ByteArray) : s.toList.isEmpty = (bs s).isEmpty := by rw [Lib.toList_data]
theorem goTake_t (s : ByteArray) : goTake (bs s) = if tOk s = true then some (bs (tLo s), bs (tD s), bs (tRest s)) else none := by
  have h1 : bs (cutL 62 s) = (bs s).take (idxB 62 (bs s)) := bs_cutL 62 s
  have h2 : preF 60 (cutL 62 s) = (((bs s).take (idxB 62 (bs s))).head? == some 60) := by rw [preF, h1]
  have h3 : bs (tIn s) = if (((bs s).take (idxB 62 (bs s))).head? == some 60) = true then ((bs s).take (idxB 62 (bs s))).drop 1 else (bs s).take (idxB 62 (bs s)) := by rw [tIn, bs_preR, h2, h1]
  have h4 : tOk s = ((((bs s).take (idxB 62 (bs s))).head? == some 60) && decide (idxB 62 (bs s) < (bs s).length) && ((bs (tIn s)).isEmpty || (decide (idxB 64 (bs (tIn s)) < (bs (tIn s)).length) && goLocal (bs (tLo s)) && goDomain (bs (tD s))))) := by
    rw [tOk, h2, isEmpty_bs]; rfl
  have h5 : bs (tLo s) = (bs (tIn s)).take (idxB 64 (bs (tIn s))) := bs_cutL 64 (tIn s)
  have h6 : bs (tD s) = (bs (tIn s)).drop (idxB 64 (bs (tIn s)) + 1) := bs_cutR 64 (tIn s)
  have h7 : bs (tRest s) = (bs s).drop (idxB 62 (bs s) + 1) := bs_cutR 62 s
  rw [h4, h5, h6, h7, goTake]
  simp only [← h3]
theorem idxB_take (x : UInt8) (l : Bs) (e : Nat) (he : e ≤ l.length) : idxB x (l.take e) = if idxB x l < e then idxB x l else e := by
  have hlen : (l.take e).length = e := by rw [List.length_take]; omega
  split
  · rename_i h
    have hl : idxB x l < l.length := by omega
    refine idxB_eq x _ _ (by omega) (by rw [List.getElem_take]; exact idxB_at x l hl) (fun i hi h1 => ?_)
    rw [List.getElem_take]
    exact idxB_before x l i (by omega) h1
  · rename_i h
    have := idxB_none x (l.take e) (fun i hi => by
      rw [List.getElem_take]
      exact idxB_before x l i (by omega) (by omega))
    rw [this, hlen]
theorem refTake_t (s : ByteArray) : refTake (bs s) = if (takeR s).2.2 = 0 then none else some (bs (takeR s).1, bs (takeR s).2.1, (takeR s).2.2) := by
  have hE := idxB_le 62 (bs s)
  have hlo : bs (takeLo s) = ((bs s).take (idxB 64 (bs s))).drop 1 := bs_extract _ _ _
  have hd : bs (takeD s) = ((bs s).take (idxB 62 (bs s))).drop (idxB 64 (bs s) + 1) := bs_extract _ _ _
  have ha := idxB_take 64 (bs s) (idxB 62 (bs s)) hE
  have hsz := bs_size s
  have hT : refTake (bs s) = (if idxB 62 (bs s) = s.size ∨ at_ (bs s) 0 ≠ 60 then none else if idxB 62 (bs s) = 1 then some ([], [], 2)
      else if (if idxB 64 (bs s) < idxB 62 (bs s) then idxB 64 (bs s) else idxB 62 (bs s)) = idxB 62 (bs s) ∨ refLocal (((bs s).take (if idxB 64 (bs s) < idxB 62 (bs s) then idxB 64 (bs s) else idxB 62 (bs s))).drop 1) = false ∨ refDomain (((bs s).take (idxB 62 (bs s))).drop ((if idxB 64 (bs s) < idxB 62 (bs s) then idxB 64 (bs s) else idxB 62 (bs s)) + 1)) = false then none
      else some (((bs s).take (if idxB 64 (bs s) < idxB 62 (bs s) then idxB 64 (bs s) else idxB 62 (bs s))).drop 1, ((bs s).take (idxB 62 (bs s))).drop ((if idxB 64 (bs s) < idxB 62 (bs s) then idxB 64 (bs s) else idxB 62 (bs s)) + 1), idxB 62 (bs s) + 1)) := by
    rw [← ha, ← hsz]; rfl
  rw [hT]
  by_cases c1 : idxB 62 (bs s) = s.size ∨ at_ (bs s) 0 ≠ 60
  · have r : takeR s = (⟨#[]⟩, ⟨#[]⟩, 0) := by rw [takeR, if_pos c1]
    rw [if_pos c1, r]; rfl
  · rw [if_neg c1]
    by_cases c2 : idxB 62 (bs s) = 1
    · have r : takeR s = (⟨#[]⟩, ⟨#[]⟩, 2) := by rw [takeR, if_neg c1, if_pos c2]
      rw [if_pos c2, r]; rfl
    · rw [if_neg c2]
      by_cases c3 : idxB 64 (bs s) < idxB 62 (bs s)
      · rw [if_pos c3, ← hlo, ← hd]
        by_cases c4 : refLocal (bs (takeLo s)) = false ∨ refDomain (bs (takeD s)) = false
        · have r : takeR s = (⟨#[]⟩, ⟨#[]⟩, 0) := by rw [takeR, if_neg c1, if_neg c2, if_pos (.inr c4)]
          rw [if_pos (.inr c4), r]; rfl
        · have r : takeR s = (takeLo s, takeD s, idxB 62 (bs s) + 1) := by rw [takeR, if_neg c1, if_neg c2, if_neg (fun h => h.elim (fun h => h c3) c4)]
          rw [if_neg (fun h => h.elim (fun h => by omega) c4), r, if_neg (by simp)]
      · have r : takeR s = (⟨#[]⟩, ⟨#[]⟩, 0) := by rw [takeR, if_neg c1, if_neg c2, if_pos (.inl c3)]
        rw [if_neg c3, if_pos (.inl rfl), r]; rfl
/-- the document's count is at most the length -/
theorem takeR_le (s : ByteArray) : (takeR s).2.2 ≤ s.size := by
  have hE := idxB_le 62 (bs s)
  rw [bs_size] at hE
  unfold takeR
  split
  · exact Nat.zero_le _
  · rename_i h
    have : idxB 62 (bs s) ≠ s.size := fun e => h (.inl e)
    split
    · show 2 ≤ s.size; omega
    · split
      · exact Nat.zero_le _
      · show _ + 1 ≤ _; omega
theorem take_no (s : ByteArray) (h : (takeR s).2.2 = 0) : tOk s = false := by
  have e := go_refTake (bs s)
  rw [goTake_t, refTake_t, if_pos h] at e
  cases ht : tOk s with
  | false => rfl
  | true => rw [ht] at e; simp at e
theorem take_yes (s : ByteArray) (h : (takeR s).2.2 ≠ 0) : tOk s = true ∧ tLo s = (takeR s).1 ∧ tD s = (takeR s).2.1 ∧ tRest s = s.extract (takeR s).2.2 s.size := by
  have e := go_refTake (bs s)
  rw [goTake_t, refTake_t, if_neg h] at e
  cases ht : tOk s with
  | false => rw [ht] at e; simp at e
  | true =>
    rw [ht, if_pos rfl] at e
    simp only [Option.map_some, Option.some.injEq, Prod.mk.injEq] at e
    refine ⟨rfl, bs_inj e.1, bs_inj e.2.1, bs_inj ?_⟩
    rw [e.2.2, bs_extract, List.take_of_length_le (by rw [bs_size]; omega)]
/-- what Take reads is what is written down -/
theorem take_reads {s lo d : ByteArray} (h : goTake (bs s) = some (bs lo, bs d, [])) : pOk s = true ∧ pLo s = lo ∧ pD s = d := by
  rw [goTake_t] at h
  cases ht : tOk s with
  | false => rw [ht] at h; simp at h
  | true =>
    rw [ht, if_pos rfl] at h
    simp only [Option.some.injEq, Prod.mk.injEq] at h
    have hp : pOk s = true := by rw [pOk, ht, isEmpty_bs, h.2.2]; rfl
    exact ⟨hp, by rw [pLo, hp, if_pos rfl]; exact bs_inj h.1, by rw [pD, hp, if_pos rfl]; exact bs_inj h.2.1⟩
theorem bs_app (a b : ByteArray) : bs (a ++ b) = bs a ++ bs b := by simp [bs]
end Go.Proofs.YtcalbpdcjklffaaGreatDoor
