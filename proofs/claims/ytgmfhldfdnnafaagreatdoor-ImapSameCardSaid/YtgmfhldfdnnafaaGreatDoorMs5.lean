/- A part of the proofs of the statements on chapter 21: walks of functions that they reach, and plain laws. What is proved is stated in the last text. Conditions: none of its own. -/
import Derived.Test.YtgmfhldfdnnafaaGreatDoorMs4
import Derived.Laws.ResultCell
set_option maxHeartbeats 8000000
set_option maxRecDepth 100000
set_option linter.unusedSimpArgs false
set_option linter.unusedVariables false
namespace Go.Proofs.YtgmfhldfdnnafaaGreatDoor
open Go.RowKit
open Pl (Bs idxB numOk numN setOk setL)
theorem cut_walk21 (s e : Bs) (m : Int) (w : World) (hs : s.length ≤ 1000000) (hm : w.cell? ⟨13, 0, none⟩ = some (.int .i64 m)) :
  Calls Tryz.prog 22 #[.string (str s), .string (str e)] w fun en w' => en = .returned (.tuple #[.string (str (Lib.cut s e).1), .string (str (Lib.cut s e).2.1), .bool (Lib.cut s e).2.2]) ∧ ∃ n, w' = w.drewN n :=
 cutAny_walk21 (str s) (str e) m w (by rw [str_size]; omega) hm
theorem Scn.draws {w : World} {B : Nat} {s : Bs} {k : Nat} (h : Scn w B s k) (q : Nat) : Scn (w.drewN q) B s k := ⟨h.heap, h.small, h.few⟩
theorem upTo_walk (G : Glob) (B k : Nat) (s e : Bs) (w : World) (hE : EnvI G w B) (h : Scn w B s k) :
  Calls Tryz.prog 121 #[scP B, .string (str e)] w (TextPost w B k (upToB e s)) := by
 obtain ⟨c0, c1, f0, f1⟩ := h.cells
 have K := Lib.hid (cut_walk21 s e G.max w h.small hE.max)
 have HS := Lib.hid h
 have HL := Lib.hid (cut_len s e)
 have hU : upToB e s = if (Lib.cut s e).2.2 = true then some ((Lib.cut s e).1, (Lib.cut s e).2.1) else none := rfl
 generalize (Lib.cut s e).2.2 = ok at *
 generalize (Lib.cut s e).1 = X at *
 generalize (Lib.cut s e).2.1 = R at *
 generalize str e = E at *
 clear hE h
 cases ok with
 | false =>
  have HB := Lib.hid (show upToB e s = none from hU)
  clear hU HL
  go_enter Tryz.func121, Tryz.ntmps121
  go_wp2_with fail
  refine K.out.mono ?_
  rintro e w' ⟨rfl, q, rfl⟩
  go_wp2_with fail
  refine (must_no B _).mono ?_
  rintro e w'' ⟨rfl, rfl⟩
  exact ⟨rfl, .bad (grown_draws w q _) HB.out⟩
 | true =>
  have HB := Lib.hid (show upToB e s = some (X, R) from hU)
  have hlen := HL.out rfl
  clear hU HL
  go_enter Tryz.func121, Tryz.ntmps121
  go_wp2_with fail
  refine K.out.mono ?_
  rintro e w' ⟨rfl, q, hw'⟩
  have hS1 : Scn w' B s k := by rw [hw']; exact HS.out.draws q
  have hG1 : w.grownBy w' (some B) := by rw [hw']; exact grown_draws w q _
  have HG1 := Lib.hid (grown_new hG1 (grown_put w' B 0 (.string (str R))) (fun k e => .inr (Option.some.inj e).symm))
  have HP := Lib.hid (hS1.put R (by omega))
  obtain ⟨d0, d1, g0, g1⟩ := hS1.cells
  clear hw' hG1 hS1 c0 c1 f0 f1
  go_wp2_with fail
  refine (must_walk B _).mono ?_
  rintro e w'' ⟨rfl, rfl⟩
  go_wp2
  go_ret
  exact .fin HG1.out HB.out HP.out
def cntN (l : Bs) : Nat := if l = [48] then 0 else numN l
def cntOk (l : Bs) (m : Int) : Bool := (l == [48]) || (numOk l && decide ((numN l : Int) ≤ m))
theorem cnt_ok (l : Bs) (m : Nat) : cntOk l m = (countB l m).isSome := by
 unfold cntOk countB
 by_cases h : l = [48]
 ·
  simp [h]
 ·
  have : (l == [48]) = false := by simpa using h
  rw [this, if_neg h, Bool.false_or]
  by_cases h2 : numOk l = true
  ·
   by_cases h3 : numN l ≤ m
   ·
    rw [if_pos ⟨h2, h3⟩, h2, decide_eq_true (by omega)]; rfl
   ·
    rw [if_neg (fun e => h3 e.2), h2, decide_eq_false (by omega)]; rfl
  ·
   rw [if_neg (fun e => h2 e.1), Bool.eq_false_iff.2 h2]; rfl
theorem cnt_n {l : Bs} {m n : Nat} (h : countB l m = some n) : cntN l = n ∧ cntOk l m = true ∧ n ≤ m := by
 refine ⟨?_, by rw [cnt_ok, h]; rfl, ?_⟩
 ·
  unfold countB at h; unfold cntN
  split at h
  ·
   rename_i e; rw [if_pos e]; exact Option.some.inj h
  ·
   rename_i e; rw [if_neg e]; split at h
   ·
    exact Option.some.inj h
   ·
    cases h
 ·
  unfold countB at h
  split at h
  ·
   cases h; omega
  ·
   split at h
   ·
    rename_i e; cases h; exact e.2
   ·
    cases h
theorem count_in (s : ByteArray) (m : Int) (v : Value) (w : World) (hs : s.size ≤ 1000000) (hc : w.cell? ⟨0, 0, none⟩ = some v) (hv : ∃ t x, v = .iface t x) :
  Calls Tryz.prog 20 #[.string s, .int .i64 m] w fun e w' => e = .returned (.tuple #[.int .i64 (cntN (bs s)), .bool (cntOk (bs s) m)]) ∧ Below w.heap.size w w' := by
 have K := Lib.hid (number_walk s v w (by omega) hc hv)
 obtain ⟨ty, x, rfl⟩ := hv
 by_cases h0 : s = ⟨#[48]⟩
 ·
  subst h0
  have HV := Lib.hid (show cntN (bs ⟨#[48]⟩) = 0 ∧ cntOk (bs ⟨#[48]⟩) m = true from ⟨rfl, rfl⟩)
  go_enter Tryz.func20, Tryz.ntmps20
  go_wp2
  go_ret2
  exact ⟨by rw [HV.out.1, HV.out.2]; rfl, Below.refl _ _⟩
 ·
  have hne : bs s ≠ [48] := fun e => h0 (bs_inj (e.trans rfl))
  have h0' : ¬ s.toList = [48] := by rw [Lib.toList_data]; exact hne
  have h0'' : (s.toList == [48]) = false := by simpa using h0'
  have hb : (bs s == [48]) = false := by simpa using hne
  have HN := Lib.hid (show cntN (bs s) = numN (bs s) by rw [cntN, if_neg hne])
  have HO := Lib.hid (show cntOk (bs s) m = (numOk (bs s) && decide ((numN (bs s) : Int) ≤ m)) by rw [cntOk, hb, Bool.false_or])
  clear hb hne h0
  rw [numV] at K
  cases hok : numOk (bs s) with
  | false =>
   rw [hok] at HO K
   rw [if_neg (by decide)] at K
   go_enter Tryz.func20, Tryz.ntmps20
   go_wp2_with fail
   refine K.out.mono ?_
   rintro e w1 ⟨rfl, hB⟩
   have HB := Lib.hid hB
   clear hB
   go_wp2
   go_ret2
   exact ⟨by rw [HN.out, HO.out]; rfl, HB.out⟩
  | true =>
   rw [hok] at HO K
   rw [if_pos rfl] at K
   go_enter Tryz.func20, Tryz.ntmps20
   go_wp2_with fail
   refine K.out.mono ?_
   rintro e w1 ⟨rfl, hB⟩
   have HB := Lib.hid hB
   clear hB
   go_wp2
   go_ret2
   exact ⟨by rw [HN.out, HO.out]; rfl, HB.out⟩
theorem count_walk (G : Glob) (B : Nat) (l : Bs) (m : Nat) (w : World) (hs : l.length ≤ 1000000) (hE : EnvI G w B) :
  Calls Tryz.prog 20 #[.string (str l), .int .i64 (m : Int)] w fun e w' => e = .returned (.tuple #[.int .i64 (cntN l), .bool (countB l m).isSome]) ∧ Below w.heap.size w w' := by
 have K := count_in (str l) m G.form w (by rw [str_size]; exact hs) hE.form hE.formI
 rw [bs_str, cnt_ok] at K
 exact K
theorem Scn.grow {w w1 : World} {B : Nat} {s : Bs} {k : Nat} (h : Scn w B s k) (hb : Below w.heap.size w w1) : Scn w1 B s k := h.then hb
theorem grown_then {w w1 w2 : World} {B : Nat} (h : w.grownBy w1 (some B)) (hb : Below w1.heap.size w1 w2) : w.grownBy w2 (some B) := grown_new h (grown_below hb none) (fun k e => by cases e)
theorem bx (n : Nat) (l : Bs) : (l.take n).length + (l.drop n).length = l.length := by rw [← List.length_append, List.take_append_drop]
theorem literal_walk (G : Glob) (B k : Nat) (s : Bs) (w : World) (hE : EnvI G w B) (h : Scn w B s k) :
  Calls Tryz.prog 98 #[scP B] w (TextPost w B k (literalB s)) := by
 obtain ⟨c0, c1, f0, f1⟩ := h.cells
 have K : Hid (Calls Tryz.prog 22 #[.string (str s), .string ⟨#[125, 13, 10]⟩] w _) := Lib.hid (cut_walk21 s [125, 13, 10] G.max w h.small hE.max)
 have HS := Lib.hid h
 have HE := Lib.hid hE
 have HLen := Lib.hid (cut_len s [125, 13, 10])
 have hsm := h.small
 have hU : upToB [125, 13, 10] s = if (Lib.cut s [125, 13, 10]).2.2 = true then some ((Lib.cut s [125, 13, 10]).1, (Lib.cut s [125, 13, 10]).2.1) else none := rfl
 have hLit : literalB s = match upToB [125, 13, 10] s with
  | none => none
  | some (d, r) => match countB d 100000 with
   | none => none
   | some n => if n ≤ r.length then some (r.take n, r.drop n) else none := rfl
 have hl1 : (Lib.cut s [125, 13, 10]).1.length ≤ 1000000 := by
  unfold Lib.cut
  split
  ·
   simp only [List.length_take]; omega
  ·
   exact hsm
 rw [hU] at hLit
 generalize (Lib.cut s [125, 13, 10]).2.2 = ok at *
 generalize (Lib.cut s [125, 13, 10]).1 = D at *
 generalize (Lib.cut s [125, 13, 10]).2.1 = R at *
 clear hU
 have KC := Lib.hid (fun W (hW : EnvI G W B) => count_walk G B D 100000 W hl1 hW)
 clear hE h
 cases ok with
 | false =>
  have HB := Lib.hid (show literalB s = none from hLit)
  clear hLit
  go_enter Tryz.func98, Tryz.ntmps98
  go_wp2_with fail
  refine K.out.mono ?_
  rintro e w' ⟨rfl, q, hw'⟩
  have hG1 : w.grownBy w' (some B) := by rw [hw']; exact grown_draws w q _
  have HG1 := Lib.hid hG1
  have HE1 := Lib.hid (HE.out.kept hG1)
  clear hw' hG1
  go_wp2_with fail
  refine (KC.out _ HE1.out).mono ?_
  rintro e w2 ⟨rfl, hB2⟩
  have HG2 := Lib.hid (grown_then HG1.out hB2)
  clear hB2
  go_wp2_with fail
  refine (must_no B _).mono ?_
  rintro e w'' ⟨rfl, rfl⟩
  exact ⟨rfl, .bad HG2.out HB.out⟩
 | true =>
  have hlen := HLen.out rfl
  simp only [if_true] at hLit
  cases hc : countB D 100000 with
  | none =>
   rw [hc] at hLit KC
   have HB := Lib.hid (show literalB s = none from hLit)
   clear hLit
   go_enter Tryz.func98, Tryz.ntmps98
   go_wp2_with fail
   refine K.out.mono ?_
   rintro e w' ⟨rfl, q, hw'⟩
   have hG1 : w.grownBy w' (some B) := by rw [hw']; exact grown_draws w q _
   have HG1 := Lib.hid hG1
   have HE1 := Lib.hid (HE.out.kept hG1)
   clear hw' hG1
   go_wp2_with fail
   refine (KC.out _ HE1.out).mono ?_
   rintro e w2 ⟨rfl, hB2⟩
   have HG2 := Lib.hid (grown_then HG1.out hB2)
   clear hB2
   go_wp2_with fail
   refine (must_no B _).mono ?_
   rintro e w'' ⟨rfl, rfl⟩
   exact ⟨rfl, .bad HG2.out HB.out⟩
  | some n =>
   obtain ⟨hn, _, hn2⟩ := cnt_n hc
   rw [hc] at hLit KC
   rw [hn] at KC
   have hzr : (str R).size = R.length := str_size R
   by_cases hle : n ≤ R.length
   ·
    have HB := Lib.hid (show literalB s = some (R.take n, R.drop n) by rw [hLit]; exact if_pos hle)
    have hx1 : (str R).extract 0 n = str (R.take n) := str_take R n
    have hx2 : (str R).extract n R.length = str (R.drop n) := str_drop R n
    have HX1 := Lib.hid hx1
    have HX2 := Lib.hid hx2
    have hb := bx n R
    clear hLit hx1 hx2 hn
    generalize R.take n = Y at *
    generalize R.drop n = Z at *
    go_enter Tryz.func98, Tryz.ntmps98
    go_wp2_with fail
    refine K.out.mono ?_
    rintro e w' ⟨rfl, q, hw'⟩
    have hG1 : w.grownBy w' (some B) := by rw [hw']; exact grown_draws w q _
    have HG1 := Lib.hid hG1
    have HE1 := Lib.hid (HE.out.kept hG1)
    have hS1 : Scn w' B s k := by rw [hw']; exact HS.out.draws q
    have HS1 := Lib.hid hS1
    clear hw' hG1 hS1 c0 c1 f0 f1
    go_wp2_with fail
    refine (KC.out _ HE1.out).mono ?_
    rintro e w2 ⟨rfl, hB2⟩
    have HS2 := Lib.hid (HS1.out.then hB2)
    have HG2 := Lib.hid (grown_then HG1.out hB2)
    clear hB2
    go_wp2_with fail
    refine (must_walk B _).mono ?_
    rintro e w'' ⟨rfl, rfl⟩
    have HG3 := Lib.hid (grown_new HG2.out (grown_put w2 B 0 (.string (str Z))) (fun k e => .inr (Option.some.inj e).symm))
    have HP := Lib.hid (HS2.out.put Z (by omega))
    obtain ⟨d0, d1, g0, g1⟩ := HS2.out.cells
    have hx1 := HX1.out
    have hx2 := HX2.out
    go_wp2
    go_ret
    exact .fin HG3.out HB.out HP.out
   ·
    have HB := Lib.hid (show literalB s = none by rw [hLit]; exact if_neg hle)
    clear hLit hn
    go_enter Tryz.func98, Tryz.ntmps98
    go_wp2_with fail
    refine K.out.mono ?_
    rintro e w' ⟨rfl, q, hw'⟩
    have hG1 : w.grownBy w' (some B) := by rw [hw']; exact grown_draws w q _
    have HG1 := Lib.hid hG1
    have HE1 := Lib.hid (HE.out.kept hG1)
    clear hw' hG1
    go_wp2_with fail
    refine (KC.out _ HE1.out).mono ?_
    rintro e w2 ⟨rfl, hB2⟩
    have HG2 := Lib.hid (grown_then HG1.out hB2)
    clear hB2
    go_wp2_with fail
    refine (must_no B _).mono ?_
    rintro e w'' ⟨rfl, rfl⟩
    exact ⟨rfl, .bad HG2.out HB.out⟩
open Go.RowKit
open Pl (Bs idxB numOk numN setOk setL)
theorem TextPost.then {w w1 w2 : World} {B k : Nat} {o : Option (Bs × Bs)} {e : Ending} (h : TextPost w1 B k o e w2) (hg : w.grownBy w1 (some B)) : TextPost w B k o e w2 := ⟨hg.trans h.1, h.2⟩
theorem text_walk (G : Glob) (B k : Nat) (more s : Bs) (w : World) (hE : EnvI G w B) (h : Scn w B s k) :
  Calls Tryz.prog 71 #[scP B, .string (str more)] w (TextPost w B k (textB more s)) := by
 have HE := Lib.hid hE
 cases h1 : isB [34] s with
 | some r =>
  have K1 : Hid (Calls Tryz.prog 68 #[scP B, .string ⟨#[34]⟩] w _) := Lib.hid (is_ok B s [34] r k h1 w h)
  have HT : textB more s = quotedB r := by rw [textB, h1]
  have K2 := Lib.hid (fun W hW => quoted_walk B k r W hW)
  rw [← HT] at K2
  generalize str more = M at *
  generalize textB more s = o at *
  clear h1 h hE HT
  go_enter Tryz.func71, Tryz.ntmps71
  go_wp2_with fail
  refine K1.out.mono ?_
  rintro e w1 ⟨rfl, hS1, hG1⟩
  have HS1 := Lib.hid hS1
  have HG1 := Lib.hid hG1
  clear hS1 hG1
  go_wp2_with fail
  refine (K2.out _ HS1.out).mono ?_
  rintro e w2 hP
  have HP := Lib.hid (hP.then HG1.out)
  clear hP
  cases o with
  | none =>
   obtain ⟨hG, rfl⟩ := HP.out
   exact ⟨rfl, hG, rfl⟩
  | some p =>
   obtain ⟨hG, rfl, hS⟩ := HP.out
   have HP := Lib.hid (TextPost.fin (o := some p) hG rfl hS)
   clear hG hS
   go_wp2
   go_ret
   exact HP.out
 | none =>
  have K1 : Hid (Calls Tryz.prog 68 #[scP B, .string ⟨#[34]⟩] w _) := Lib.hid (is_not B s [34] k h1 w h)
  cases h2 : isB [123] s with
  | some r =>
   have HT : textB more s = literalB r := by rw [textB, h1, h2]
   have K2 : Hid (∀ W, Scn W B s k → Calls Tryz.prog 68 #[scP B, .string ⟨#[123]⟩] W _) := Lib.hid (fun W hW => is_ok B s [123] r k h2 W hW)
   have K3 := Lib.hid (fun W hE hW => literal_walk G B k r W hE hW)
   rw [← HT] at K3
   generalize str more = M at *
   generalize textB more s = o at *
   clear h1 h2 h hE HT
   go_enter Tryz.func71, Tryz.ntmps71
   go_wp2_with fail
   refine K1.out.mono ?_
   rintro e w1 ⟨rfl, hS1, hG1⟩
   have HS1 := Lib.hid hS1
   have HG1 := Lib.hid hG1
   clear hS1 hG1
   go_wp2_with fail
   refine (K2.out _ HS1.out).mono ?_
   rintro e w2 ⟨rfl, hS2, hG2⟩
   have HS2 := Lib.hid hS2
   have HG2 := Lib.hid (HG1.out.trans hG2)
   have HE2 := Lib.hid (HE.out.kept HG2.out)
   clear hS2 hG2
   go_wp2_with fail
   refine (K3.out _ HE2.out HS2.out).mono ?_
   rintro e w3 hP
   have HP := Lib.hid (hP.then HG2.out)
   clear hP
   cases o with
   | none =>
    obtain ⟨hG, rfl⟩ := HP.out
    exact ⟨rfl, hG, rfl⟩
   | some p =>
    obtain ⟨hG, rfl, hS⟩ := HP.out
    have HP := Lib.hid (TextPost.fin (o := some p) hG rfl hS)
    clear hG hS
    go_wp2
    go_ret
    exact HP.out
  | none =>
   have HT : textB more s = wordB more s := by rw [textB, h1, h2]
   have K2 : Hid (∀ W, Scn W B s k → Calls Tryz.prog 68 #[scP B, .string ⟨#[123]⟩] W _) := Lib.hid (fun W hW => is_not B s [123] k h2 W hW)
   have K3 : Hid (∀ W, Scn W B s k → Calls Tryz.prog 26 #[scP B, .string (str more)] W (TextPost W B k (wordB more s))) := Lib.hid (fun W hW => by
    cases hw : wordB more s with
    | none => exact (word_no B more s k hw W hW).mono fun e w' ⟨h1, h2⟩ => ⟨h2, h1⟩
    | some p => exact (word_ok B more s p.1 p.2 k hw W hW).mono fun e w' ⟨h1, h2, h3⟩ => ⟨h3, h1, h2⟩)
   rw [← HT] at K3
   generalize str more = M at *
   generalize textB more s = o at *
   clear h1 h2 h hE HT
   go_enter Tryz.func71, Tryz.ntmps71
   go_wp2_with fail
   refine K1.out.mono ?_
   rintro e w1 ⟨rfl, hS1, hG1⟩
   have HS1 := Lib.hid hS1
   have HG1 := Lib.hid hG1
   clear hS1 hG1
   go_wp2_with fail
   refine (K2.out _ HS1.out).mono ?_
   rintro e w2 ⟨rfl, hS2, hG2⟩
   have HS2 := Lib.hid hS2
   have HG2 := Lib.hid (HG1.out.trans hG2)
   clear hS2 hG2
   go_wp2_with fail
   refine (K3.out _ HS2.out).mono ?_
   rintro e w3 hP
   have HP := Lib.hid (hP.then HG2.out)
   clear hP
   cases o with
   | none =>
    obtain ⟨hG, rfl⟩ := HP.out
    exact ⟨rfl, hG, rfl⟩
   | some p =>
    obtain ⟨hG, rfl, hS⟩ := HP.out
    have HP := Lib.hid (TextPost.fin (o := some p) hG rfl hS)
    clear hG hS
    go_wp2
    go_ret
    exact HP.out
theorem infoStr21 : (Tryz.prog.info? 9).map (fun i => (i.zero, i.size, i.bytes)) = some (some (.string ⟨#[]⟩), 1, 16) := by kernel_rfl
def strV (x : Bs) : Value := .string (str x)
def RowPost {α : Type} (w : World) (B k : Nat) (t : TypeId) (sz : Nat) (len : α → Nat) (cells : α → List Value) (o : Option (α × Bs)) (e : Ending) (w' : World) : Prop :=
 w.grownBy w' (some B) ∧ match o with | none => e = .panicked [wrongE] | some p => ∃ u, e = .returned u ∧ w'.ownsRow w.heap.size t sz u (len p.1) (cells p.1) ∧ Scn w' B p.2 k
structure TxtSt (n : Nat) (s : Bs) (pre : List Bs) (j : Nat) (sj : Bs) : Prop where
 le : j ≤ n
 len : pre.length = j
 spec : textsB n s = (textsB (n - j) sj).map fun p => (pre ++ p.1, p.2)
theorem texts_walk (G : Glob) (B k n : Nat) (hn : n ≤ 1000) (s : Bs) (w : World) (hE : EnvI G w B) (hS : Scn w B s k) :
  Calls Tryz.prog 70 #[scP B, .int .i64 n] w (RowPost w B k 9 1 List.length (List.map strV) (textsB n s)) := by
 obtain ⟨i0, hi, hz0, hz1, hz2⟩ := info_parts infoStr21
 have hBl := hS.lt
 have HS0 := Lib.hid hS
 have HE := Lib.hid hE
 clear hS hE
 go_enter Tryz.func70, Tryz.ntmps70
 go_wp2
 go_loopw [5, 7] (fun u i wr => ∃ (j : Nat) (pre : List Bs) (sj : Bs), i = .int .i64 j ∧ Hid (TxtSt n s pre j sj) ∧ Hid (wr.ownsRow w.heap.size 9 1 u j (pre.map strV)) ∧ Hid (Scn wr B sj k) ∧ Hid (w.grownBy wr (some B))) (fun _ i _ => n - (intOf i).toNat)
 case atStart => exact ⟨0, [], s, rfl, Lib.hid ⟨Nat.zero_le _, rfl, by simp⟩, Lib.hid (World.ownsRow_nil _ _ _ _), HS0, Lib.hid (grown_refl w _)⟩
 case round =>
  obtain ⟨j, pre, sj, rfl, HQ, HO, HS, HG⟩ := hrel
  have hj := HQ.out.le
  by_cases hjn : j < n
  ·
   obtain ⟨r, hr⟩ : ∃ r, n - j = r + 1 := ⟨n - j - 1, by omega⟩
   have hsp := HQ.out.spec
   rw [hr] at hsp
   cases h1 : isB [32] sj with
   | none =>
    have HB := Lib.hid (show textsB n s = none by rw [hsp, textsB, h1]; rfl)
    have K1 := Lib.hid (fun W hW => blank_no B sj k h1 W hW)
    clear hsp h1
    go_wp2_with fail
    refine (K1.out _ HS.out).mono ?_
    rintro e w1 ⟨rfl, hG1⟩
    exact ⟨rfl, HG.out.trans hG1, by rw [HB.out]⟩
   | some s1 =>
    have K1 := Lib.hid (fun W hW => blank_ok B sj s1 k h1 W hW)
    cases h2 : textB [] s1 with
    | none =>
     have HB := Lib.hid (show textsB n s = none by rw [hsp, textsB, h1]; simp only [h2]; rfl)
     have K2 : Hid (∀ W, EnvI G W B → Scn W B s1 k → Calls Tryz.prog 71 #[scP B, .string ⟨#[]⟩] W _) := Lib.hid (fun W hE hW => text_walk G B k [] s1 W hE hW)
     rw [h2] at K2
     clear hsp h1 h2
     go_wp2_with fail
     refine (K1.out _ HS.out).mono ?_
     rintro e w1 ⟨rfl, hS1, hG1⟩
     have HS1 := Lib.hid hS1
     have HG1 := Lib.hid (HG.out.trans hG1)
     have HE1 := Lib.hid (HE.out.kept HG1.out)
     clear hS1 hG1
     go_wp2_with fail
     refine (K2.out _ HE1.out HS1.out).mono ?_
     rintro e w2 ⟨hG2, rfl⟩
     exact ⟨rfl, HG1.out.trans hG2, by rw [HB.out]⟩
    | some p =>
     have HN : Hid (TxtSt n s (pre ++ [p.1]) (j + 1) p.2) := Lib.hid ⟨by omega, by simp [HQ.out.len], by
      rw [hsp, textsB, h1]
      simp only [h2]
      rw [Option.map_map, show n - (j + 1) = r by omega]
      congr 1
      funext z
      simp⟩
     have K2 : Hid (∀ W, EnvI G W B → Scn W B s1 k → Calls Tryz.prog 71 #[scP B, .string ⟨#[]⟩] W _) := Lib.hid (fun W hE hW => text_walk G B k [] s1 W hE hW)
     rw [h2] at K2
     have HNx := Lib.hid (show (pre ++ [p.1]).map strV = pre.map strV ++ [.string (str p.1)] by rw [List.map_append]; rfl)
     clear hsp h1 h2
     go_wp2_with fail
     refine (K1.out _ HS.out).mono ?_
     rintro e w1 ⟨rfl, hS1, hG1⟩
     have HS1 := Lib.hid hS1
     have HO1 := Lib.hid (own_kept HO.out hG1 hBl)
     have HG1 := Lib.hid (HG.out.trans hG1)
     have HE1 := Lib.hid (HE.out.kept HG1.out)
     clear hS1 hG1
     go_wp2_with fail
     refine (K2.out _ HE1.out HS1.out).mono ?_
     rintro e w2 ⟨hG2, rfl, hS2⟩
     have HS2 := Lib.hid hS2
     have HO2 := Lib.hid (own_kept HO1.out hG2 hBl)
     have HG2 := Lib.hid (HG1.out.trans hG2)
     clear hS2 hG2
     have zw2 := HG2.out.size
     generalize str p.1 = Y at *
     go_wp2_with (at_builtin; refine wpList_append_own _ rfl _ _ 28 rfl w.heap.size 9 i0 (.string ⟨#[]⟩) 1 16 Tryz.underlying28 hi hz0 hz1 hz2 rfl (by decide) _ j _ rfl (HO2.out.alloc _) ⟨w2.heap.size, 0, none⟩ 1 1 [.string Y] rfl rfl ?a0 ?b0 ?c0 ?d0 ?e0 ?_)
     case a0 => exact cell_one_new w2 (.string Y) 9
     case b0 => simp [Value.oneCell']
     case c0 => unfold maxLen; omega
     case d0 => omega
     case e0 => simp; omega
     intro u' w9 hown hgr _
     have HO9 := Lib.hid hown
     have hlt := fun k e => (HO2.out.lt k e).1
     have HG9 := Lib.hid (grown_new (grown_new HG2.out (World.grownBy_alloc w2 (Obj.cells #[.string Y] 9) none) (fun k e => by cases e)) hgr (fun k e => .inl (hlt k e)))
     have HS9 := Lib.hid ((HS2.out.kept (World.grownBy_alloc w2 (Obj.cells #[.string Y] 9) none) (by simp)).kept hgr (fun e => by have := hlt B e.symm; omega))
     clear hown hgr hlt
     go_wp2
     go_roundw
     case rel => exact ⟨j + 1, _, _, by go_num, HN, Lib.hid (by rw [HNx.out]; exact HO9.out), HS9, HG9⟩
     case measure => simp [intOf]; omega
  ·
   obtain rfl : j = n := by omega
   have HB := Lib.hid (show textsB j s = some (pre, sj) by rw [HQ.out.spec, Nat.sub_self, textsB]; simp)
   have HLn := Lib.hid HQ.out.len
   go_wp2
   go_ret
   exact ⟨HG.out, by rw [HB.out]; exact ⟨_, rfl, by rw [HLn.out]; exact HO.out, HS.out⟩⟩
open Go.RowKit
open Pl (Bs idxB numOk numN setOk setL)
theorem word_walk (B k : Nat) (more s : Bs) (w : World) (h : Scn w B s k) : Calls Tryz.prog 26 #[scP B, .string (str more)] w (TextPost w B k (wordB more s)) := by
 cases hw : wordB more s with
 | none => exact (word_no B more s k hw w h).mono fun e w' ⟨h1, h2⟩ => ⟨h2, h1⟩
 | some p => exact (word_ok B more s p.1 p.2 k hw w h).mono fun e w' ⟨h1, h2, h3⟩ => ⟨h3, h1, h2⟩
def largeL (l : Bs) : Bs := l.map largeB
theorem large_walk21 (l : Bs) (hl : l.length ≤ 1000000) (w : World) : Calls Tryz.prog 29 #[.string (str l)] w fun e w' => e = .returned (.string (str (largeL l))) ∧ Below w.heap.size w w' := by
 have K := large_walk (str l) (by rw [str_size]; exact hl) w
 rw [largeS, bs_str] at K
 exact K
theorem large_len (l : Bs) : (largeL l).length = l.length := List.length_map ..
theorem own_lower {w : World} {base base' : Nat} {e : TypeId} {size n : Nat} {v : Value} {xs : List Value} (h : w.ownsRow base e size v n xs) (hb : base' ≤ base) : w.ownsRow base' e size v n xs := by
 refine ⟨h.1, h.2.imp id fun ⟨g, cap, cur, e1, e2, r⟩ => ⟨g, cap, cur, e1, by omega, r⟩⟩
theorem setE_no {l : Bs} (h : setOk l = false) (v : Value) : setE l v = v := by rw [setE, h]; rfl
theorem setE_yes {l : Bs} (h : setOk l = true) (v : Value) : setE l v = .nilIface := by rw [setE, if_pos h]
theorem rset_walk (G : Glob) (B k : Nat) (s : Bs) (w : World) (hE : EnvI G w B) (h : Scn w B s k) :
  Calls Tryz.prog 75 #[scP B] w (RowPost w B k 72 2 List.length flat (setB s)) := by
 have K1 : Hid (Calls Tryz.prog 26 #[scP B, .string ⟨#[37, 42]⟩] w _) := Lib.hid (word_walk B k [37, 42] s w h)
 have HE := Lib.hid hE
 have hsm := h.small
 have hT : setB s = match wordB [37, 42] s with
  | none => none
  | some (w, r) => if setOk w = true then some (setL w, r) else none := rfl
 obtain ⟨t, x, hv⟩ := hE.formI
 have hV := Lib.hid hv
 clear hE h hv
 cases hw : wordB [37, 42] s with
 | none =>
  rw [hw] at K1 hT
  have HB := Lib.hid hT
  clear hT
  go_enter Tryz.func75, Tryz.ntmps75
  go_wp2_with fail
  refine K1.out.mono ?_
  rintro e w1 ⟨hG1, rfl⟩
  exact ⟨rfl, hG1, by rw [HB.out]⟩
 | some p =>
  obtain ⟨X, R⟩ := p
  have hlen := wordB_len hw
  rw [hw] at K1 hT
  have K2 := Lib.hid (fun W (hW : EnvI G W B) => set_walk (str X) G.form W (by rw [str_size]; omega) hW.form hW.formI)
  rw [bs_str] at K2
  cases ho : setOk X with
  | false =>
   have HB := Lib.hid (show setB s = none by rw [hT]; dsimp only; rw [ho]; rfl)
   rw [setE_no ho, hV.out] at K2
   skip
   clear hT hw ho
   go_enter Tryz.func75, Tryz.ntmps75
   go_wp2_with fail
   refine K1.out.mono ?_
   rintro e w1 ⟨hG1, rfl, hS1⟩
   have HG1 := Lib.hid hG1
   have HE1 := Lib.hid (HE.out.kept hG1)
   clear hS1 hG1
   go_wp2_with fail
   refine (K2.out _ HE1.out).mono ?_
   rintro e w2 ⟨r, rfl, hO, hB2⟩
   have HG2 := Lib.hid (grown_then HG1.out hB2)
   clear hO hB2
   go_wp2_with fail
   refine (must_no B _).mono ?_
   rintro e w' ⟨rfl, rfl⟩
   exact ⟨rfl, HG2.out, by rw [HB.out]⟩
  | true =>
   have HB := Lib.hid (show setB s = some (setL X, R) by rw [hT]; dsimp only; rw [if_pos ho])
   rw [setE_yes ho] at K2
   skip
   clear hT hw ho hV
   go_enter Tryz.func75, Tryz.ntmps75
   go_wp2_with fail
   refine K1.out.mono ?_
   rintro e w1 ⟨hG1, rfl, hS1⟩
   have HG1 := Lib.hid hG1
   have HS1 := Lib.hid hS1
   have HE1 := Lib.hid (HE.out.kept hG1)
   clear hS1 hG1
   go_wp2_with fail
   refine (K2.out _ HE1.out).mono ?_
   rintro e w2 ⟨r, rfl, hO, hB2⟩
   have HO := Lib.hid (own_lower hO HG1.out.size)
   have HS2 := Lib.hid (HS1.out.then hB2)
   have HG2 := Lib.hid (grown_then HG1.out hB2)
   clear hO hB2
   go_wp2_with fail
   refine (must_walk B _).mono ?_
   rintro e w' ⟨rfl, rfl⟩
   go_wp2
   go_ret
   exact ⟨HG2.out, by rw [HB.out]; exact ⟨_, rfl, HO.out, HS2.out⟩⟩
def IntPost (w : World) (B k : Nat) (o : Option (Int × Bs)) (e : Ending) (w' : World) : Prop :=
 w.grownBy w' (some B) ∧ match o with | none => e = .panicked [wrongE] | some p => e = .returned (.int .i64 p.1) ∧ Scn w' B p.2 k
theorem IntPost.bad {w w' : World} {B k : Nat} {o : Option (Int × Bs)} (hG : w.grownBy w' (some B)) (ho : o = none) : IntPost w B k o (.panicked [wrongE]) w' := ⟨hG, by subst ho; rfl⟩
theorem IntPost.fin {w w' : World} {B k : Nat} {o : Option (Int × Bs)} {x : Int} {r : Bs} (hG : w.grownBy w' (some B)) (ho : o = some (x, r)) (hS : Scn w' B r k) : IntPost w B k o (.returned (.int .i64 x)) w' := ⟨hG, by subst ho; exact ⟨rfl, hS⟩⟩
def flagsB (s : Bs) : Option (Int × Bs) :=
 match upToB [41] s with
 | none => none
 | some (x, r) => if flagsOk (str (x ++ [41])) = true then some (flagsI (str (x ++ [41])), r) else none
theorem flagsE_no {s : ByteArray} (h : flagsOk s = false) (v : Value) : flagsE s v = v := by rw [flagsE, h]; rfl
theorem flagsE_yes {s : ByteArray} (h : flagsOk s = true) (v : Value) : flagsE s v = .nilIface := by rw [flagsE, if_pos h]
theorem rflags_walk (G : Glob) (B k : Nat) (s : Bs) (w : World) (hE : EnvI G w B) (h : Scn w B s k) :
  Calls Tryz.prog 100 #[scP B] w (IntPost w B k (flagsB s)) := by
 have K1 : Hid (Calls Tryz.prog 121 #[scP B, .string ⟨#[41]⟩] w _) := Lib.hid (upTo_walk G B k s [41] w hE h)
 have HE := Lib.hid hE
 have hsm := h.small
 have hT : flagsB s = match upToB [41] s with
  | none => none
  | some (x, r) => if flagsOk (str (x ++ [41])) = true then some (flagsI (str (x ++ [41])), r) else none := rfl
 obtain ⟨t, x, hv⟩ := hE.formI
 have hV := Lib.hid hv
 clear hE h hv
 cases hw : upToB [41] s with
 | none =>
  rw [hw] at K1 hT
  have HB := Lib.hid hT
  clear hT
  go_enter Tryz.func100, Tryz.ntmps100
  go_wp2_with fail
  refine K1.out.mono ?_
  rintro e w1 ⟨hG1, rfl⟩
  exact ⟨rfl, .bad hG1 HB.out⟩
 | some p =>
  obtain ⟨X, R⟩ := p
  have hlen := upToB_len hw
  rw [hw] at K1 hT
  have hap : str (X ++ [41]) = str X ++ ⟨#[41]⟩ := by apply bs_inj; simp [bs, str]
  have hz : (str X).size ≤ 1000000 := by rw [str_size]; omega
  have hz1 : (str X ++ ⟨#[41]⟩).size ≤ 1000001 := by rw [ByteArray.size_append]; have : (⟨#[41]⟩ : ByteArray).size = 1 := rfl; omega
  have hz2 : ¬ 9223372036854775807 < (str X).size + 1 := by omega
  dsimp only at hT
  rw [hap] at hT
  by_cases hz3 : (str X ++ ⟨#[41]⟩).size ≤ 1000000
  ·
   have K2 := Lib.hid (fun W (hW : EnvI G W B) => flags_walk (str X ++ ⟨#[41]⟩) G.form W hz3 hW.form hW.formI)
   cases ho : flagsOk (str X ++ ⟨#[41]⟩) with
   | false =>
    have HB := Lib.hid (show flagsB s = none by rw [hT, ho]; rfl)
    rw [flagsE_no ho, hV.out] at K2
    generalize flagsI (str X ++ ⟨#[41]⟩) = F at *
    clear hT hw ho hz1 hz3 hap
    skip
    go_enter Tryz.func100, Tryz.ntmps100
    go_wp2_with fail
    refine K1.out.mono ?_
    rintro e w1 ⟨hG1, rfl, hS1⟩
    have HG1 := Lib.hid hG1
    have HE1 := Lib.hid (HE.out.kept hG1)
    clear hS1 hG1
    go_wp2_with fail
    refine (K2.out _ HE1.out).mono ?_
    rintro e w2 ⟨rfl, hB2⟩
    have HG2 := Lib.hid (grown_then HG1.out hB2)
    clear hB2
    go_wp2_with fail
    refine (must_no B _).mono ?_
    rintro e w' ⟨rfl, rfl⟩
    exact ⟨rfl, .bad HG2.out HB.out⟩
   | true =>
    have HB := Lib.hid (show flagsB s = some (flagsI (str X ++ ⟨#[41]⟩), R) by rw [hT, if_pos ho])
    rw [flagsE_yes ho] at K2
    generalize flagsI (str X ++ ⟨#[41]⟩) = F at *
    clear hT hw ho hz1 hz3 hap
    skip
    go_enter Tryz.func100, Tryz.ntmps100
    go_wp2_with fail
    refine K1.out.mono ?_
    rintro e w1 ⟨hG1, rfl, hS1⟩
    have HG1 := Lib.hid hG1
    have HS1 := Lib.hid hS1
    have HE1 := Lib.hid (HE.out.kept hG1)
    clear hS1 hG1
    go_wp2_with fail
    refine (K2.out _ HE1.out).mono ?_
    rintro e w2 ⟨rfl, hB2⟩
    have HG2 := Lib.hid (grown_then HG1.out hB2)
    have HS2 := Lib.hid (HS1.out.then hB2)
    clear hB2
    go_wp2_with fail
    refine (must_walk B _).mono ?_
    rintro e w' ⟨rfl, rfl⟩
    go_wp2
    go_ret
    exact .fin HG2.out HB.out HS2.out
  ·
   exfalso
   have hX : X.length + 1 ≤ s.length := by
    have hc := hw
    unfold upToB at hc
    split at hc
    ·
     rename_i h2
     simp only [Option.some.injEq, Prod.mk.injEq] at hc
     rw [← hc.1]
     unfold Lib.cut at h2 ⊢
     split at h2
     ·
      rename_i h0
      rw [if_pos h0]
      have h3 := Lib.index_room s [41] h0
      simp only [List.length_singleton] at h3
      simp only [List.length_take]
      omega
     ·
      cases h2
    ·
     cases hc
   rw [ByteArray.size_append, str_size] at hz3
   have e1 : (⟨#[41]⟩ : ByteArray).size = 1 := rfl
   omega
theorem rnumber_walk (G : Glob) (B : Nat) (l : Bs) (hl : l.length ≤ 1000000) (w : World) (hE : EnvI G w B) :
  Calls Tryz.prog 135 #[scP B, .string (str l)] w fun e w' => Below w.heap.size w w' ∧ match countB l 2147483648 with | none => e = .panicked [wrongE] | some n => e = .returned (.int .i64 n) := by
 have K := Lib.hid (count_walk G B l 2147483648 w hl hE)
 generalize str l = L at *
 clear hE
 cases hc : countB l 2147483648 with
 | none =>
  rw [hc] at K
  clear hc
  go_enter Tryz.func135, Tryz.ntmps135
  go_wp2_with fail
  refine K.out.mono ?_
  rintro e w1 ⟨rfl, hB⟩
  have HB := Lib.hid hB
  clear hB
  go_wp2_with fail
  refine (must_no B _).mono ?_
  rintro e w' ⟨rfl, rfl⟩
  exact ⟨rfl, HB.out, rfl⟩
 | some n =>
  rw [hc, (cnt_n hc).1] at K
  clear hc
  go_enter Tryz.func135, Tryz.ntmps135
  go_wp2_with fail
  refine K.out.mono ?_
  rintro e w1 ⟨rfl, hB⟩
  have HB := Lib.hid hB
  clear hB
  go_wp2_with fail
  refine (must_walk B _).mono ?_
  rintro e w' ⟨rfl, rfl⟩
  go_wp2
  go_ret
  exact ⟨HB.out, rfl⟩
open Go.RowKit
open Pl (Bs)
theorem parse_idle (p q : Addr) (w : World) :
  CallsD Tryz.prog 25 #[.pointer (some p), .pointer (some q)] .returning w fun e u' w' => e = .returned (.tuple #[]) ∧ u' = .returning ∧ w' = w := by
 refine callsD_of_wpS Tryz.func25 rfl fun c₀ cs hu => ?_
 apply wpS_seq
 apply wpS_region
 simp [wpOpsS, go_sem, recoverD, hu, Tryz.ntmps25, Exit.thenS]
 apply wpS_seq
 apply wpS_region
 simp [wpOpsS, go_sem, Tryz.ntmps25, Exit.thenS]
 refine wpS_cond (t := false) (by simp [Act.eval, Array.replicate]) ?_
 simp only [Bool.false_eq_true, if_false]
 refine wpS_of_wp (wp_skip ?_)
 cases c₀
 simp_all [bodyPostS, results, Tryz.results25]
open Go.RowKit
open Pl (Bs)
def tagC (c : UInt8) : Bool := atomB [] c && !(c == 43)
def tagB (l : Bs) : Bool := l.all tagC && (decide (1 ≤ l.length) && decide (l.length ≤ 20))
theorem tag_in (s : ByteArray) (w : World) (hs : s.size ≤ 1000000) :
  Calls Tryz.prog 23 #[.string s] w fun e w' => e = .returned (.bool (tagB (bs s))) ∧ Below w.heap.size w w' := by
 obtain ⟨w1, cap, hcv, hB, hb⟩ := bytes_laid w s
 have HB := Lib.hid hB
 have HBs := Lib.hid hb
 have zl : (bs s).length = s.size := bs_size s
 clear hB hb
 go_enter Tryz.func23, Tryz.ntmps23
 go_wp2
 go_loop [8] (fun i => ∃ k : Nat, k ≤ s.size ∧ i = .int .i64 k ∧ Hid (∀ c ∈ (bs s).take k, tagC c = true)) (fun i => s.size - (intOf i).toNat)
 case atStart => exact ⟨0, Nat.zero_le _, rfl, Lib.hid (fun c h => by simp at h)⟩
 case round =>
  obtain ⟨k, hk, rfl, HA⟩ := hrel
  by_cases hlt : k < s.size
  ·
   have c0 := HBs.out k hlt
   have hat := at_bs s k hlt
   have HBad := Lib.hid (fun (hb : tagC s[k] = false) => show tagB (bs s) = false by
    rw [tagB]
    have : (bs s).all tagC = false := Bool.eq_false_iff.2 fun e => by
     have := List.all_eq_true.1 e _ (List.getElem_mem (show k < (bs s).length by omega))
     rw [hat, hb] at this; cases this
    rw [this]; rfl)
   have HN := Lib.hid (fun (hb : tagC s[k] = true) => show ∀ c ∈ (bs s).take (k + 1), tagC c = true from fun c hc => by
    rw [List.take_succ_eq_append_getElem (by omega), List.mem_append] at hc
    rcases hc with hc | hc
    ·
     exact HA.out c hc
    ·
     rw [List.mem_singleton.1 hc, hat]; exact hb)
   have HD := Lib.hid (show tagC s[k] = (atomI ⟨#[]⟩ (s[k].toNat : Int) && !(s[k] == 43)) from rfl)
   have K := Lib.hid (fun W => atom21_walk (s[k].toNat : Int) ⟨#[]⟩ W)
   clear hat
   generalize s[k] = c at *
   cases ha : atomI ⟨#[]⟩ (c.toNat : Int) with
   | false =>
    have HV := Lib.hid (HBad.out (by rw [HD.out, ha]; rfl))
    rw [ha] at K
    clear ha
    go_wp2_with fail
    refine (K.out _).mono ?_
    rintro e w' ⟨rfl, rfl⟩
    go_wp2
    go_ret
    exact ⟨by rw [HV.out]; rfl, HB.out⟩
   | true =>
    rw [ha] at K
    have hce : (c == 43) = ((c.toNat : Int) == 43) := by
     rw [Bool.eq_iff_iff, beq_iff_eq, beq_iff_eq]
     exact byte_eq c 43 (by decide)
    by_cases h43 : (c.toNat : Int) = 43
    ·
     have HV := Lib.hid (HBad.out (by rw [HD.out, ha, hce, beq_iff_eq.2 h43]; rfl))
     have g43 : ((c.toNat : Int) == 43) = true := beq_iff_eq.2 h43
     clear ha hce h43
     go_wp2_with fail
     refine (K.out _).mono ?_
     rintro e w' ⟨rfl, rfl⟩
     go_wp2
     go_ret
     exact ⟨by rw [HV.out]; rfl, HB.out⟩
    ·
     have HN2 := Lib.hid (HN.out (by rw [HD.out, ha, hce, beq_eq_false_iff_ne.2 h43]; rfl))
     have g43 : ((c.toNat : Int) == 43) = false := beq_eq_false_iff_ne.2 h43
     clear ha hce h43
     go_wp2_with fail
     refine (K.out _).mono ?_
     rintro e w' ⟨rfl, rfl⟩
     go_wp2
     go_round
     case rel => exact ⟨k + 1, by omega, by go_num, HN2⟩
     case measure => simp [intOf]; omega
  ·
   obtain rfl : k = s.size := by omega
   have ht : (bs s).take s.size = bs s := List.take_of_length_le (by omega)
   have HV := Lib.hid (show tagB (bs s) = (decide (1 ≤ s.size) && decide (s.size ≤ 20)) by
    have := HA.out
    rw [ht] at this
    rw [tagB, List.all_eq_true.2 this, Bool.true_and, zl])
   by_cases h1 : 1 ≤ s.size
   ·
    have HV2 := Lib.hid (show tagB (bs s) = decide ((s.size : Int) ≤ 20) by rw [HV.out, decide_eq_true h1, Bool.true_and, decide_eq_decide]; omega)
    have h1i : (1 : Int) ≤ (s.size : Int) := by omega
    go_wp2
    go_ret
    exact ⟨by rw [HV2.out]; rfl, HB.out⟩
   ·
    have HV2 := Lib.hid (show tagB (bs s) = false by rw [HV.out, decide_eq_false h1]; rfl)
    have h1i : ¬ (1 : Int) ≤ (s.size : Int) := by omega
    go_wp2
    go_ret
    exact ⟨by rw [HV2.out]; rfl, HB.out⟩
theorem tag_walk (l : Bs) (hl : l.length ≤ 1000000) (w : World) : Calls Tryz.prog 23 #[.string (str l)] w fun e w' => e = .returned (.bool (tagB l)) ∧ Below w.heap.size w w' := by
 have K := tag_in (str l) w (by rw [str_size]; exact hl)
 rw [bs_str] at K
 exact K
open Go.RowKit
open Pl (Bs idxB numOk numN setOk setL)
def RowC (w : World) (T : Nat → Prop) (v : Value) (n : Nat) (cells : List Value) : Prop :=
 ∃ A c, v = .slice A n c ∧ (0 < n → ∃ b, A = some ⟨b, 0, none⟩ ∧ T b ∧ ∀ j x, cells[j]? = some x → w.cell? ⟨b, j, none⟩ = some x)
theorem RowC.kept {w w1 : World} {T : Nat → Prop} {v : Value} {n : Nat} {cells : List Value} (h : RowC w T v n cells) (hk : ∀ i, T i → w1.heap[i]? = w.heap[i]?) : RowC w1 T v n cells := by
 obtain ⟨A, c, rfl, h⟩ := h
 refine ⟨A, c, rfl, fun hn => ?_⟩
 obtain ⟨b, rfl, ht, hc⟩ := h hn
 exact ⟨b, rfl, ht, fun j x hx => (World.cell?_of_block (hk b ht)).trans (hc j x hx)⟩
theorem RowC.more {w : World} {T T' : Nat → Prop} {v : Value} {n : Nat} {cells : List Value} (h : RowC w T v n cells) (hk : ∀ i, T i → T' i) : RowC w T' v n cells := by
 obtain ⟨A, c, rfl, h⟩ := h
 refine ⟨A, c, rfl, fun hn => ?_⟩
 obtain ⟨b, rfl, ht, hc⟩ := h hn
 exact ⟨b, rfl, hk _ ht, hc⟩
theorem rowC_nil (w : World) (T : Nat → Prop) (cells : List Value) : RowC w T (.slice none 0 0) 0 cells := ⟨none, 0, rfl, fun h => absurd h (Nat.lt_irrefl 0)⟩
theorem rowC_own {w : World} {base n sz : Nat} {e : TypeId} {v : Value} {xs : List Value} (h : w.ownsRow base e sz v n xs) : RowC w (fun i => base ≤ i ∧ i < w.heap.size) v n xs := by
 rcases h.2 with ⟨rfl, rfl⟩ | ⟨g, cap, cur, rfl, hb, hh, h1, h2, h3, h4⟩
 ·
  exact rowC_nil _ _ _
 ·
  refine ⟨_, _, rfl, fun _ => ⟨g, rfl, ⟨hb, (Array.getElem?_eq_some_iff.1 hh).1⟩, fun j x hx => ?_⟩⟩
  have := h.cells (g := g) rfl j x hx
  rw [add_at] at this
  exact this
def Fresh (T : Nat → Prop) (w w' : World) : Prop := ∀ i, T i → w.heap.size ≤ i ∧ i < w'.heap.size
structure SpecP where
 path : List Int
 what : Bs
 names : List Bs
structure ItemP where
 name : Bs
 spec : SpecP
 peek : Bool
 part : Bool
 frm : Int
 cnt : Int
def intV (n : Int) : Value := .int .i64 n
def itemC (vp vn : Value) (x : ItemP) : List Value := [.string (str x.name), vp, .string (str x.spec.what), vn, .bool x.peek, .bool x.part, .int .i64 x.frm, .int .i64 x.cnt]
structure SpecAt (w : World) (T : Nat → Prop) (vp vn : Value) (x : SpecP) : Prop where
 path : RowC w T vp x.path.length (x.path.map intV)
 names : RowC w T vn x.names.length (x.names.map strV)
theorem SpecAt.kept {w w1 : World} {T : Nat → Prop} {vp vn : Value} {x : SpecP} (h : SpecAt w T vp vn x) (hk : ∀ i, T i → w1.heap[i]? = w.heap[i]?) : SpecAt w1 T vp vn x := ⟨h.path.kept hk, h.names.kept hk⟩
theorem SpecAt.more {w : World} {T T' : Nat → Prop} {vp vn : Value} {x : SpecP} (h : SpecAt w T vp vn x) (hk : ∀ i, T i → T' i) : SpecAt w T' vp vn x := ⟨h.path.more hk, h.names.more hk⟩
inductive ItemsC (w : World) (T : Nat → Prop) : List ItemP → List Value → Prop
 | nil : ItemsC w T [] []
 | cons {x : ItemP} {vp vn : Value} {l : List ItemP} {cs : List Value} : SpecAt w T vp vn x.spec → ItemsC w T l cs → ItemsC w T (x :: l) (itemC vp vn x ++ cs)
theorem ItemsC.kept {w w1 : World} {T : Nat → Prop} {l : List ItemP} {cs : List Value} (h : ItemsC w T l cs) (hk : ∀ i, T i → w1.heap[i]? = w.heap[i]?) : ItemsC w1 T l cs := by
 induction h with
 | nil => exact .nil
 | cons h1 _ ih => exact .cons (h1.kept hk) ih
theorem ItemsC.more {w : World} {T T' : Nat → Prop} {l : List ItemP} {cs : List Value} (h : ItemsC w T l cs) (hk : ∀ i, T i → T' i) : ItemsC w T' l cs := by
 induction h with
 | nil => exact .nil
 | cons h1 _ ih => exact .cons (h1.more hk) ih
theorem ItemsC.snoc {w : World} {T : Nat → Prop} {l : List ItemP} {cs : List Value} (h : ItemsC w T l cs) {x : ItemP} {vp vn : Value} (hx : SpecAt w T vp vn x.spec) : ItemsC w T (l ++ [x]) (cs ++ itemC vp vn x) := by
 induction h with
 | nil => have := ItemsC.cons hx (ItemsC.nil (w := w) (T := T)); simpa using this
 | cons h1 _ ih => rw [List.cons_append, List.append_assoc]; exact .cons h1 ih
theorem ItemsC.len {w : World} {T : Nat → Prop} {l : List ItemP} {cs : List Value} (h : ItemsC w T l cs) : cs.length = l.length * 8 := by
 induction h with
 | nil => rfl
 | cons h1 _ ih => simp only [List.length_append, List.length_cons, ih]; simp [itemC]; omega
def SecPost (G : Glob) (w : World) (o : Option SpecP) (e : Ending) (w' : World) : Prop :=
 Below w.heap.size w w' ∧ match o with
  | none => e = .returned (.tuple #[.agg #[.slice none 0 0, .string ⟨#[]⟩, .slice none 0 0], G.form])
  | some x => ∃ vp vn T, e = .returned (.tuple #[.agg #[vp, .string (str x.what), vn], .nilIface]) ∧ Fresh T w w' ∧ SpecAt w' T vp vn x
def ItemPost (w : World) (B k : Nat) (o : Option (ItemP × Bs)) (e : Ending) (w' : World) : Prop :=
 w.grownBy w' (some B) ∧ match o with
  | none => e = .panicked [wrongE]
  | some p => ∃ vp vn T, e = .returned (.agg #[.string (str p.1.name), vp, .string (str p.1.spec.what), vn, .bool p.1.peek, .bool p.1.part, .int .i64 p.1.frm, .int .i64 p.1.cnt]) ∧ Fresh T w w' ∧ SpecAt w' T vp vn p.1.spec ∧ Scn w' B p.2 k
def SecCon (G : Glob) (sec : Bs → Option SpecP) : Prop := ∀ (X : Bs) (B : Nat) (w : World), X.length ≤ 1000000 → EnvI G w B → Calls Tryz.prog 151 #[.string (str X)] w (SecPost G w (sec X))
def bodyPart (r : Bs) : Option ((Bool × Int × Int) × Bs) :=
 match isB [60] r with
 | none => some ((false, 0, 0), r)
 | some r2 => match upToB [46] r2 with
  | none => none
  | some (d1, r3) => match countB d1 2147483648 with
   | none => none
   | some n1 => match upToB [62] r3 with
    | none => none
    | some (d2, r4) => match countB d2 2147483648 with
     | none => none
     | some n2 => if 0 < n2 then some ((true, (n1 : Int), (n2 : Int)), r4) else none
def bodyB (sec : Bs → Option SpecP) (peek : Bool) (s : Bs) : Option (ItemP × Bs) :=
 match upToB [93] s with
 | none => none
 | some (X, r) => match sec X with
  | none => none
  | some x => (bodyPart r).map fun p => (⟨[66, 79, 68, 89, 91], x, peek, p.1.1, p.1.2.1, p.1.2.2⟩, p.2)
end Go.Proofs.YtgmfhldfdnnafaaGreatDoor
