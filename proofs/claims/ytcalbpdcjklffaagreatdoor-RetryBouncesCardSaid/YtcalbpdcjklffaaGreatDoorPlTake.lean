/- Plain facts on lists of bytes: what local parts, domains and paths are, as the program splits them and as the document reads them byte by byte. No program in sight. -/
import Derived.Test.YtcalbpdcjklffaaGreatDoorPlPath
namespace Go.Proofs.YtcalbpdcjklffaaGreatDoor.Pl
abbrev Bs := List UInt8
/-- where a byte stands first; the length, if nowhere -/
def idxB (x : UInt8) : Bs → Nat
  | [] => 0
  | c :: cs => if c = x then 0 else idxB x cs + 1
theorem idxB_le (x : UInt8) (l : Bs) : idxB x l ≤ l.length := by
  induction l with
  | nil => simp [idxB]
  | cons c cs ih => simp only [idxB]; split <;> simp <;> omega
theorem idxB_at (x : UInt8) (l : Bs) (h : idxB x l < l.length) : l[idxB x l] = x := by
  induction l with
  | nil => simp at h
  | cons c cs ih =>
    by_cases hc : c = x
    · subst hc
      have : idxB c (c :: cs) = 0 := by simp [idxB]
      simp [this]
    · have e : idxB x (c :: cs) = idxB x cs + 1 := by simp [idxB, hc]
      simp only [e] at h ⊢
      simp only [List.getElem_cons_succ]
      exact ih (by simpa using h)
theorem idxB_before (x : UInt8) (l : Bs) : ∀ i (h : i < l.length), i < idxB x l → l[i] ≠ x := by
  induction l with
  | nil => intro i h; simp at h
  | cons c cs ih =>
    intro i h hi
    by_cases hc : c = x
    · simp [idxB, hc] at hi
    · have e : idxB x (c :: cs) = idxB x cs + 1 := by simp [idxB, hc]
      rw [e] at hi
      cases i with
      | zero => simpa using hc
      | succ j => simp only [List.getElem_cons_succ]; exact ih j (by simpa using h) (by omega)
theorem idxB_eq (x : UInt8) (l : Bs) (k : Nat) (hk : k < l.length) (hx : l[k] = x) (hb : ∀ i (_ : i < l.length), i < k → l[i] ≠ x) : idxB x l = k := by
  by_cases h1 : idxB x l < k
  · exact absurd (idxB_at x l (by omega)) (hb _ (by omega) h1)
  · by_cases h2 : k < idxB x l
    · exact absurd hx (idxB_before x l k hk h2)
    · omega
theorem idxB_none (x : UInt8) (l : Bs) (hb : ∀ (i : Nat) (_ : i < l.length), l[i] ≠ x) : idxB x l = l.length := by
  have := idxB_le x l
  by_cases h : idxB x l < l.length
  · exact absurd (idxB_at x l h) (hb _ h)
  · omega
theorem idxB_notmem (x : UInt8) (l : Bs) (h : x ∉ l) : idxB x l = l.length :=
  idxB_none x l (fun _ hi e => h (e ▸ List.getElem_mem hi))
theorem idxB_append_mem (x : UInt8) (l m : Bs) (h : x ∉ l) : idxB x (l ++ x :: m) = l.length := by
  induction l with
  | nil => simp [idxB]
  | cons c cs ih =>
    have hc : ¬ c = x := fun e => h (by simp [e])
    simp [idxB, hc, ih (fun e => h (by simp [e]))]
/-- the path at a text's beginning, as the program has it: local part, domain, what is behind it -/
def goTake (l : Bs) : Option (Bs × Bs × Bs) :=
  let e := idxB 62 l
  let inner := l.take e
  let begins := inner.head? == some 60
  let inner' := if begins then inner.drop 1 else inner
  let a := idxB 64 inner'
  let lo := inner'.take a
  let d := inner'.drop (a + 1)
  if (begins && decide (e < l.length) && (inner'.isEmpty || (decide (a < inner'.length) && goLocal lo && goDomain d))) = true then some (lo, d, l.drop (e + 1)) else none
/-- as the document has it: local part, domain, how many bytes -/
def refTake (l : Bs) : Option (Bs × Bs × Nat) :=
  let e := idxB 62 l
  let a := idxB 64 (l.take e)
  if e = l.length ∨ at_ l 0 ≠ 60 then none
  else if e = 1 then some ([], [], 2)
  else if a = e ∨ refLocal ((l.take a).drop 1) = false ∨ refDomain ((l.take e).drop (a + 1)) = false then none
  else some ((l.take a).drop 1, (l.take e).drop (a + 1), e + 1)
theorem go_refTake (l : Bs) : goTake l = (refTake l).map (fun r => (r.1, r.2.1, l.drop r.2.2)) := by
  unfold goTake refTake
  have hle := idxB_le 62 l
  by_cases he : idxB 62 l = l.length
  · simp [he]
  · have hlt : idxB 62 l < l.length := by omega
    cases l with
    | nil => simp [idxB] at he
    | cons c cs =>
      by_cases hc : c = 60
      · subst hc
        have e1 : idxB 62 (60 :: cs) = idxB 62 cs + 1 := by simp [idxB]
        have e2 : idxB 64 (60 :: List.take (idxB 62 cs) cs) = idxB 64 (List.take (idxB 62 cs) cs) + 1 := by simp [idxB]
        rw [e1] at hlt he
        have hcs : idxB 62 cs < cs.length := by simpa using hlt
        simp only [e1, List.take_succ_cons, e2, ref_goLocal, ref_goDomain]
        have hz : at_ (60 :: cs) 0 = 60 := rfl
        have hn : ¬ (idxB 62 cs + 1 = (60 :: cs).length ∨ at_ (60 :: cs) 0 ≠ 60) := by
          rw [hz]; simp only [List.length_cons, ne_eq, not_true, or_false]; omega
        rw [if_neg hn]
        by_cases h1 : idxB 62 cs = 0
        · have hx : cs ≠ [] := by rintro rfl; simp at hcs
          simp [h1, idxB, hx]
        · have h1' : ¬ (idxB 62 cs + 1 = 1) := by omega
          rw [if_neg h1']
          have hne : (List.take (idxB 62 cs) cs).isEmpty = false := by
            cases cs with
            | nil => simp at hcs
            | cons d t => 
              cases hk : idxB 62 (d :: t) with
              | zero => exact absurd hk h1
              | succ m => simp
          have hla := idxB_le 64 (List.take (idxB 62 cs) cs)
          have hll : (List.take (idxB 62 cs) cs).length = idxB 62 cs := by rw [List.length_take]; omega
          simp only [List.head?_cons, beq_self_eq_true, List.drop_succ_cons, List.drop_zero, if_true, hne, Bool.false_or, Bool.true_and, hlt, decide_true, hll]
          have ht : List.take (idxB 64 (List.take (idxB 62 cs) cs)) (List.take (idxB 62 cs) cs) = List.take (idxB 64 (List.take (idxB 62 cs) cs)) cs := by
            rw [List.take_take]; congr 1; omega
          rw [ht]
          by_cases ha : idxB 64 (List.take (idxB 62 cs) cs) = idxB 62 cs
          · simp [ha]
          · have ha' : idxB 64 (List.take (idxB 62 cs) cs) < idxB 62 cs := by omega
            cases hL : goLocal (List.take (idxB 64 (List.take (idxB 62 cs) cs)) cs) <;>
            cases hD : goDomain (List.drop (idxB 64 (List.take (idxB 62 cs) cs) + 1) (List.take (idxB 62 cs) cs)) <;> simp [ha, ha']
      · have hh : ((List.take (idxB 62 (c :: cs)) (c :: cs)).head? == some 60) = false := by
          cases hk : idxB 62 (c :: cs) with
          | zero => simp
          | succ m => simp [hc]
        have hz : at_ (c :: cs) 0 = c := rfl
        simp [hh, hz, hc]
/-- which paths have a text: both parts empty, or a local part and a domain -/
def rightB (lo d : Bs) : Bool := (lo.isEmpty && d.isEmpty) || (goLocal lo && goDomain d)
theorem scanL_bytes (l : Bs) : ∀ b, scanL b l = true → ∀ c ∈ l, c = 46 ∨ atomB c = true := by
  induction l with
  | nil => simp
  | cons c cs ih =>
    intro b h x hx
    simp only [scanL] at h
    by_cases hc : c = 46
    · simp only [hc, if_true, Bool.and_eq_true] at h
      rcases List.mem_cons.1 hx with rfl | hx
      · exact .inl hc
      · exact ih _ h.2 x hx
    · simp only [hc, if_false, Bool.and_eq_true] at h
      rcases List.mem_cons.1 hx with rfl | hx
      · exact .inr h.1
      · exact ih _ h.2 x hx
theorem scanD_bytes (l : Bs) : ∀ s, scanD s l = true → ∀ c ∈ l, c = 46 ∨ c = 45 ∨ plainB c = true := by
  induction l with
  | nil => simp
  | cons c cs ih =>
    intro b h x hx
    simp only [scanD] at h
    by_cases hc : c = 46
    · simp only [hc, if_true, Bool.and_eq_true] at h
      rcases List.mem_cons.1 hx with rfl | hx
      · exact .inl hc
      · exact ih _ h.2 x hx
    · by_cases h5 : c = 45
      · subst h5
        simp at h
        rcases List.mem_cons.1 hx with rfl | hx
        · exact .inr (.inl rfl)
        · exact ih _ h.2 x hx
      · simp only [hc, h5, if_false, Bool.and_eq_true] at h
        rcases List.mem_cons.1 hx with rfl | hx
        · exact .inr (.inr h.1)
        · exact ih _ h.2 x hx
theorem goLocal_notmem (l : Bs) (h : goLocal l = true) : (62 : UInt8) ∉ l ∧ (64 : UInt8) ∉ l := by
  unfold goLocal at h
  rw [(split_scanL l).1, Bool.and_eq_true] at h
  have := scanL_bytes l true h.2
  refine ⟨fun hm => ?_, fun hm => ?_⟩ <;> (have := this _ hm; revert this; decide)
theorem goDomain_notmem (l : Bs) (h : goDomain l = true) : (62 : UInt8) ∉ l ∧ (64 : UInt8) ∉ l := by
  unfold goDomain at h
  rw [(split_scanD l).1, Bool.and_eq_true] at h
  have := scanD_bytes l 0 h.2
  refine ⟨fun hm => ?_, fun hm => ?_⟩ <;> (have := this _ hm; revert this; decide)
theorem goLocal_ne (l : Bs) (h : goLocal l = true) : l ≠ [] := by
  rintro rfl; revert h; decide
theorem goDomain_ne (l : Bs) (h : goDomain l = true) : l ≠ [] := by
  rintro rfl; revert h; decide
/-- what Text writes, Take reads -/
theorem take_text (lo d : Bs) (hl : goLocal lo = true) (hd : goDomain d = true) : goTake ([60] ++ (lo ++ [64] ++ d) ++ [62]) = some (lo, d, []) := by
  have e1 : idxB 62 (lo ++ 64 :: (d ++ [62])) = lo.length + 1 + d.length := by
    have h := idxB_append_mem 62 (lo ++ 64 :: d) [] (by
      simp only [List.mem_append, List.mem_cons, not_or]
      exact ⟨(goLocal_notmem lo hl).1, by decide, (goDomain_notmem d hd).1⟩)
    simp only [List.append_assoc, List.cons_append, List.length_append, List.length_cons] at h
    rw [h]; omega
  have e2 : idxB 64 (lo ++ 64 :: d) = lo.length := idxB_append_mem 64 lo d (goLocal_notmem lo hl).2
  unfold goTake
  simp only [List.cons_append, List.nil_append, List.append_assoc]
  have e0 : idxB 62 (60 :: (lo ++ 64 :: (d ++ [62]))) = lo.length + 1 + d.length + 1 := by
    rw [← e1]; simp [idxB]
  have ht : List.take (lo.length + 1 + d.length) (lo ++ 64 :: (d ++ [62])) = lo ++ 64 :: d := by
    have : lo ++ 64 :: (d ++ [62]) = (lo ++ 64 :: d) ++ [62] := by simp
    rw [this, List.take_left' (by simp; omega)]
  simp only [e0, List.take_succ_cons, ht, List.head?_cons, beq_self_eq_true, if_true, List.drop_succ_cons, List.drop_zero, e2]
  have h3 : List.take lo.length (lo ++ 64 :: d) = lo := by simp
  have h4 : List.drop (lo.length + 1) (lo ++ 64 :: d) = d := by simp
  have h5 : List.drop (lo.length + 1 + d.length + 1) (lo ++ 64 :: (d ++ [62])) = [] := by simp; omega
  simp only [h3, h4, h5, hl, hd]
  simp
  omega
theorem take_nobody : goTake ([60] ++ [62]) = some ([], [], []) := by decide

/-! two with a dot between -/
theorem scanL_dot (a b : Bs) : ∀ s, scanL s a = true → scanL s (a ++ 46 :: b) = scanL true b := by
  induction a with
  | nil => intro s h; simp only [scanL] at h; simp [scanL, h]
  | cons c cs ih =>
    intro s h
    simp only [List.cons_append, scanL] at h ⊢
    by_cases hc : c = 46
    · simp only [hc, if_true, Bool.and_eq_true] at h ⊢; rw [ih _ h.2, h.1]; rfl
    · simp only [hc, if_false, Bool.and_eq_true] at h ⊢; rw [ih _ h.2, h.1]; rfl
theorem scanD_dot (a b : Bs) : ∀ s, scanD s a = true → scanD s (a ++ 46 :: b) = scanD 0 b := by
  induction a with
  | nil => intro s h; simp only [scanD] at h; simp [scanD, h]
  | cons c cs ih =>
    intro s h
    simp only [List.cons_append, scanD] at h ⊢
    by_cases hc : c = 46
    · simp only [hc, if_true, Bool.and_eq_true] at h ⊢; rw [ih _ h.2, h.1]; rfl
    · by_cases h5 : c = 45
      · subst h5; simp at h ⊢; rw [ih _ h.2]; simp [h.1]
      · simp only [hc, h5, if_false, Bool.and_eq_true] at h ⊢; rw [ih _ h.2, h.1]; rfl
theorem scanL_end (a : Bs) : ∀ s, scanL s (a ++ [46]) = false := by
  induction a with
  | nil => intro s; cases s <;> rfl
  | cons c cs ih =>
    intro s; simp only [List.cons_append, scanL]; simp [ih]
theorem scanD_end (a : Bs) : ∀ s, scanD s (a ++ [46]) = false := by
  induction a with
  | nil => intro s; simp [scanD]
  | cons c cs ih =>
    intro s; simp only [List.cons_append, scanD]; simp [ih]
theorem local_dots (a b : Bs) (ha : goLocal a = true) (hb : goLocal b = true) : goLocal (a ++ [46] ++ b) = decide (a.length + b.length + 1 ≤ 64) := by
  unfold goLocal at *
  simp only [(split_scanL _).1, Bool.and_eq_true, List.append_assoc, List.cons_append, List.nil_append] at *
  rw [scanL_dot a b true ha.2, hb.2]
  simp only [Bool.and_true, List.length_append, List.length_cons]
  congr 1
  all_goals (first | omega | (simp only [eq_iff_iff]; omega))
theorem domain_dots (a b : Bs) (ha : goDomain a = true) (hb : goDomain b = true) : goDomain (a ++ [46] ++ b) = decide (a.length + b.length + 1 ≤ 100) := by
  unfold goDomain at *
  simp only [(split_scanD _).1, Bool.and_eq_true, List.append_assoc, List.cons_append, List.nil_append] at *
  rw [scanD_dot a b 0 ha.2, hb.2]
  simp only [Bool.and_true, List.length_append, List.length_cons]
  congr 1
  all_goals (first | omega | (simp only [eq_iff_iff]; omega))
theorem local_end (a : Bs) : goLocal (a ++ [46]) = false := by
  unfold goLocal; rw [(split_scanL _).1, scanL_end]; simp
theorem domain_end (a : Bs) : goDomain (a ++ [46]) = false := by
  unfold goDomain; rw [(split_scanD _).1, scanD_end]; simp
theorem local_begin (a : Bs) : goLocal ([46] ++ a) = false := by
  unfold goLocal; rw [(split_scanL _).1]; simp [scanL]
theorem domain_begin (a : Bs) : goDomain ([46] ++ a) = false := by
  unfold goDomain; rw [(split_scanD _).1]; simp [scanD]
theorem local_nil : goLocal [] = false := by decide
theorem domain_nil : goDomain [] = false := by decide
end Go.Proofs.YtcalbpdcjklffaaGreatDoor.Pl
