/- A part of the proofs of the statements on chapter 21: walks of functions that they reach, and plain laws. What is proved is stated in the last text. Conditions: none of its own. -/
import Derived.Test.YtgmfhldfdnnafaaGreatDoorMg8
import Derived.Laws.IdiomStrings
namespace Go.Proofs.YtgmfhldfdnnafaaGreatDoor
open Go.RowKit
open Pl (Bs)
open Go.Lib (decDigits)
set_option linter.unusedSimpArgs false
set_option linter.unusedVariables false
theorem byte_text (W w1 : World) (x : UInt8) (h : W.alloc (Obj.cells #[.int .u8 (x.toNat : Int)] 5) = w1) :
    (convert 46 9 (.slice (some ⟨W.heap.size, 0, none⟩) 1 1)).run Tryz.prog w1 = .ok (.string ⟨#[x]⟩) w1 := by
  have hP : w1.heap[W.heap.size]? = some (Obj.cells #[.int .u8 (x.toNat : Int)] 5) := by rw [← h]; exact heap_alloc_new W _
  refine run_convert_bytes_back w1 _ _ 5 _ 1 [x] Tryz.underlying46 Tryz.underlying5 Tryz.underlying9 (fun j hj => ?_)
  obtain rfl : j = 0 := by simpa using hj
  simp [Addr.add, World.cell?, hP]
theorem dec_dig (k : Nat) : ((UInt8.ofNat (48 + k % 10)).toNat : Int) = 48 + (k : Int) % 10 := by
  have h : (UInt8.ofNat (48 + k % 10)).toNat = 48 + k % 10 := by rw [UInt8.toNat_ofNat']; omega
  rw [h]; omega
theorem str_cons (x : UInt8) (l : Bs) : (⟨#[x]⟩ : ByteArray) ++ str l = str (x :: l) := by apply bs_inj; simp [bs, str]
theorem EnvW.kept {G : Glob} {w w1 : World} (h : EnvW G w) (hB : Hid (Below w.heap.size w w1)) : EnvW G w1 := h.then hB.out
def bytesOk (l : Bs) : Prop := ∀ c ∈ l, 32 ≤ c.toNat ∧ c.toNat ≤ 126
theorem litText (s : Bs) (D : Bs) : (⟨#[97, 32, 67, 82, 69, 65, 84, 69, 32, 123]⟩ : ByteArray) ++ str D ++ ⟨#[125, 13, 10]⟩ ++ str s = str ([97, 32, 67, 82, 69, 65, 84, 69, 32] ++ (123 :: (D ++ ([125, 13, 10] ++ s)))) := by
  apply bs_inj; simp [bs, str]
theorem quoText (q : Bs) : (⟨#[97, 32, 67, 82, 69, 65, 84, 69, 32, 34]⟩ : ByteArray) ++ str q ++ ⟨#[34]⟩ = str ([97, 32, 67, 82, 69, 65, 84, 69, 32] ++ (34 :: (q ++ [34]))) := by
  apply bs_inj; simp [bs, str]
set_option maxHeartbeats 8000000 in
set_option maxRecDepth 100000 in
theorem imapStrings_walk (G : Glob) (s : ByteArray) (w : World) (hs : s.size ≤ 140737488351232) (hE : EnvW G w) :
    Calls Tryz.prog 5 #[.string s] w fun e w' => e = .returned (.bool true) ∧ Below w.heap.size w w' := by
  obtain ⟨i0, hi, hz0, hz1, hz2⟩ := info_parts infoU8
  have HAl := Lib.hid (alive21 G w hE)
  have HE := Lib.hid hE
  clear hE
  by_cases hz : s.size ≤ 2000
  · go_enter Tryz.func5, Tryz.ntmps5
    go_wp2_with fail
    refine HAl.out.mono ?_
    rintro e w1 ⟨rfl, hB1⟩
    have HB1 := Lib.hid hB1
    clear hB1
    go_wp2
    go_loopw [3, 4] (fun dv nv wr => ∃ (m : Nat) (l : Bs), dv = .string (str l) ∧ nv = .int .i64 m ∧ m + l.length ≤ 2001 ∧ Hid (digSt m l = decDigits s.size) ∧ Hid (Below w.heap.size w wr)) (fun dv nv _ => (intOf nv).toNat + (match dv with | .string b => if b.size = 0 then 1 else 0 | _ => 0))
    case atStart => exact ⟨s.size, [], rfl, rfl, by simp; omega, Lib.hid (by simp [digSt]), HB1⟩
    case round =>
      obtain ⟨m, l, rfl, rfl, hml, HD, HB⟩ := hrel
      by_cases h0 : 0 < m
      · have h0' : (0 : Int) < (m : Int) := by omega
        have HN := Lib.hid (show digSt (m / 10) (UInt8.ofNat (48 + m % 10) :: l) = decDigits s.size from (digSt_step m l (.inl h0)).trans HD.out)
        have hx := dec_dig m
        have hb1 := (Below.refl wr.heap.size wr).alloc (Nat.le_refl _) (Obj.cells #[.int .u8 (((UInt8.ofNat (48 + m % 10)).toNat : Nat) : Int)] 5)
        generalize hw : wr.alloc (Obj.cells #[.int .u8 (((UInt8.ofNat (48 + m % 10)).toNat : Nat) : Int)] 5) = w1 at hb1
        have hcv := byte_text wr w1 _ hw
        have HB1 := Lib.hid (below_then HB.out hb1)
        have HS := Lib.hid (str_cons (UInt8.ofNat (48 + m % 10)) l)
        have hz1 : (⟨#[UInt8.ofNat (48 + m % 10)]⟩ : ByteArray).size = 1 := rfl
        have hzl : (str l).size = l.length := str_size l
        rw [hx] at hw
        clear hb1 hx
        generalize UInt8.ofNat (48 + m % 10) = x at *
        go_wp2
        go_roundw
        case rel => exact ⟨m / 10, x :: l, by rw [HS.out], by go_num, by simp only [List.length_cons]; omega, HN, HB1⟩
        case measure =>
          have e1 : ∀ z : Bs, (match (Value.string (str z) : Value) with | .string b => if b.size = 0 then 1 else 0 | _ => 0) ≤ 1 := fun z => by dsimp only; split <;> omega
          have e2 : (⟨#[x]⟩ ++ str l : ByteArray).size = l.length + 1 := by rw [ByteArray.size_append, str_size, hz1]; omega
          simp [intOf, e2]; omega
      · obtain rfl : m = 0 := by omega
        cases l with
        | nil =>
          have hemp : (str []).toList.isEmpty = true := by rw [Lib.toList_data]; rfl
          have HN := Lib.hid (show digSt 0 [48] = decDigits s.size from (digSt_step 0 [] (.inr rfl)).trans HD.out)
          have hb1 := (Below.refl wr.heap.size wr).alloc (Nat.le_refl _) (Obj.cells #[.int .u8 48] 5)
          generalize hw : wr.alloc (Obj.cells #[.int .u8 48] 5) = w1 at hb1
          have hcv := byte_text wr w1 48 hw
          have HB1 := Lib.hid (below_then HB.out hb1)
          have HS := Lib.hid (str_cons 48 [])
          have hz1 : (⟨#[48]⟩ : ByteArray).size = 1 := rfl
          have hzl : (str []).size = 0 := rfl
          clear hb1
          go_wp2
          go_roundw
          case rel => exact ⟨0, [48], by rw [HS.out], by go_num, by simp, HN, HB1⟩
          case measure =>
            have e2 : (⟨#[48]⟩ ++ str [] : ByteArray).size = 1 := by rw [ByteArray.size_append, str_size, hz1]; rfl
            simp [intOf, e2, hzl]
        | cons a l =>
          rw [show ((0 : Nat) : Int) = 0 from rfl]
          have hemp : (str (a :: l)).toList.isEmpty = false := by rw [Lib.toList_data]; rfl
          have HDl := Lib.hid (show a :: l = decDigits s.size from by have := HD.out; rwa [digSt, if_pos ⟨rfl, by simp⟩] at this)
          have HTx := Lib.hid (show (⟨#[97, 32, 67, 82, 69, 65, 84, 69, 32, 123]⟩ : ByteArray) ++ str (a :: l) ++ ⟨#[125, 13, 10]⟩ ++ s = str ([97, 32, 67, 82, 69, 65, 84, 69, 32] ++ (123 :: (decDigits s.size ++ ([125, 13, 10] ++ bs s)))) by rw [← HDl.out]; exact litText (bs s) (a :: l))
          have HEr := Lib.hid (HE.out.then HB.out)
          obtain ⟨wo, hwo⟩ : ∃ wo, wo = wr := ⟨_, rfl⟩
          subst hwo
          have K : Hid (Calls Tryz.prog 12 #[.string ((⟨#[97, 32, 67, 82, 69, 65, 84, 69, 32, 123]⟩ : ByteArray) ++ str (a :: l) ++ ⟨#[125, 13, 10]⟩ ++ s)] wo fun e w' => Below wo.heap.size wo w' ∧ ∃ c : CmdV, e = .returned (.tuple #[.agg c.cells, .nilIface]) ∧ CmdAt w' (newT wo w') c (createP (bs s))) := Lib.hid (by
            rw [HTx.out]
            have hb := lit_back (bs s) (by rw [bs_size]; omega)
            rw [bs_size] at hb
            have hdl : (decDigits s.size).length ≤ 10 := Pl.dec_len 9 s.size (by omega)
            exact parse_create G (123 :: (decDigits s.size ++ ([125, 13, 10] ++ bs s))) (bs s) hb (by simp only [List.length_cons, List.length_append, List.length_nil, bs_size]; omega) wo HEr.out)
          have hzl : (str (a :: l)).size = l.length + 1 := by rw [str_size]; rfl
          simp only [List.length_cons] at hml
          clear HD
          generalize str (a :: l) = S at *
          go_wp2_with fail
          refine K.out.mono ?_
          rintro e w2 ⟨hB2, c, rfl, hC2⟩
          have HC2 := Lib.hid hC2
          have HB2 := Lib.hid (below_then HB.out hB2)
          have HN2 := Lib.hid hB2
          obtain ⟨e0, e1, e2, ⟨en3, r3⟩, ⟨en4, r4⟩, e5, e6, e7, e8, e9, ⟨en10, r10⟩, ⟨en11, r11⟩⟩ := hC2
          obtain ⟨ctag, cname, cuid, caA, caN, caC, csA, csN, csC, chow, cflags, csilent, cdate, cbody, ciA, ciN, ciC, ckA, ckN, ckC⟩ := c
          dsimp only [createP] at e0 e1 e2 en3 en4 e5 e6 e7 e8 e9 en10 en11 r3
          subst e0 e1 e2 en3 en4 e5 e6 e7 e8 e9 en10 en11
          obtain ⟨ab, hab, hnew, hcell⟩ := r3.parts (by simp)
          subst hab
          have a0 : w2.cell? ⟨ab, 0, none⟩ = some (.string s) := hcell 0 _ rfl
          have hlt := hnew.2
          clear hB2 r3 r4 r10 r11 hcell hnew
          simp only [CmdV.cells, List.length_singleton, List.length_nil]
          obtain ⟨w3, hw3⟩ : ∃ w3, w2.alloc (Obj.cells #[.string (str [97]), .string (str [67, 82, 69, 65, 84, 69]), .bool false, .slice (some ⟨ab, 0, none⟩) 1 caC, .slice csA 0 csC, .int .i64 0, .int .i64 0, .bool false, .int .i64 (-1), .string (str []), .slice ciA 0 ciC, .slice ckA 0 ckC] 33) = w3 := ⟨_, rfl⟩
          have HX3 := Lib.hid (show w3.heap[w2.heap.size]? = some (Obj.cells #[.string (str [97]), .string (str [67, 82, 69, 65, 84, 69]), .bool false, .slice (some ⟨ab, 0, none⟩) 1 caC, .slice csA 0 csC, .int .i64 0, .int .i64 0, .bool false, .int .i64 (-1), .string (str []), .slice ciA 0 ciC, .slice ckA 0 ckC] 33) by rw [← hw3]; exact World.alloc_heap_new _ _)
          have HB3 := Lib.hid (show Below w2.heap.size w2 w3 by rw [← hw3]; exact (Below.refl _ _).alloc (Nat.le_refl _) _)
          have b0 := (HB3.out.cell (p := ⟨ab, 0, none⟩) hlt).trans a0
          have b3 := obj_cell HX3.out 3 _ rfl
          have hz3 := HB3.out.size
          go_wp2_with fail
          have hzo : (Obj.cells #[] 5 : Obj) = Obj.cells (([] : List Value).toArray) 5 := rfl
          go_loopw [7, 61] (fun qv iv wq => ∃ (k : Nat) (o : Bs), iv = .int .i64 k ∧ k ≤ s.size ∧ o.length ≤ 2 * k ∧ Hid (bytesOk ((bs s).take k) ∧ o = quoteL ((bs s).take k)) ∧ Hid (wq.ownsRow w3.heap.size 5 1 qv o.length (o.map encU)) ∧ Hid (Below w3.heap.size w3 wq)) (fun _ iv _ => s.size - (intOf iv).toNat)
          case atStart => exact ⟨0, [], rfl, Nat.zero_le _, by simp, Lib.hid ⟨fun c h => by simp at h, rfl⟩, Lib.hid ⟨rfl, .inr ⟨w3.heap.size, 0, #[], rfl, Nat.le_refl _, heap_alloc_new w3 _, Nat.le_refl _, by unfold maxLen; omega, rfl, rfl⟩⟩, Lib.hid ((Below.refl _ _).alloc (Nat.le_refl _) _)⟩
          case round =>
            obtain ⟨k, o, rfl, hk, hol, HQ, HO, HBq⟩ := hrel
            have zq := HBq.out.size
            by_cases hks : k < s.size
            · have HAt := Lib.hid (at_bs s k hks)
              have HTk := Lib.hid (show (bs s).take (k + 1) = (bs s).take k ++ [s[k]] by rw [List.take_succ_eq_append_getElem (by rw [bs_size]; exact hks), HAt.out])
              by_cases h32 : (s[k].toNat : Int) < 32
              · go_wp2
                go_ret
                exact ⟨rfl, below_then HB2.out (below_then HB3.out HBq.out)⟩
              · by_cases h126 : (126 : Int) < (s[k].toNat : Int)
                · go_wp2
                  go_ret
                  exact ⟨rfl, below_then HB2.out (below_then HB3.out HBq.out)⟩
                · have HOk := Lib.hid (show bytesOk ((bs s).take (k + 1)) from fun c hc => by
                    rw [HTk.out, List.mem_append, List.mem_singleton] at hc
                    rcases hc with hc | rfl
                    · exact HQ.out.1 c hc
                    · omega)
                  by_cases e34 : s[k] = 34
                  · have c34 : ((s[k].toNat : Int) == 34) = true := beq_iff_eq.2 ((byte_eq s[k] 34 (by decide)).1 e34)
                    have HE := Lib.hid (show s[k] = 34 ∨ s[k] = 92 from .inl e34)
                    clear e34
                    have HQn := Lib.hid (show o ++ [92] ++ [s[k]] = quoteL ((bs s).take (k + 1)) by rw [HTk.out, quoteL_snoc, if_pos HE.out, HQ.out.2]; simp)
                    have HMap := Lib.hid (show (o ++ [92] ++ [s[k]]).map encU = o.map encU ++ [.int .u8 92] ++ [.int .u8 (s[k].toNat : Int)] by simp [encU])
                    go_wp2_with (at_builtin; refine wpList_append_own _ rfl _ _ 46 rfl w3.heap.size 5 i0 (.int .u8 0) 1 1 Tryz.underlying46 hi hz0 hz1 hz2 rfl (by decide) _ o.length _ rfl (HO.out.alloc _) ⟨wr.heap.size, 0, none⟩ 1 1 [.int .u8 92] rfl rfl (cell_one_new wr (.int .u8 92) 5) (by simp [Value.oneCell']) (by unfold maxLen; omega) (by omega) (by simp; omega) ?_)
                    intro u' w9 hown hgr _
                    have HO9 := Lib.hid hown
                    have hlt9 := fun k e => (HO.out.lt k e).1
                    have HB9 := Lib.hid ((HBq.out.alloc zq (Obj.cells #[.int .u8 92] 5)).grown hgr (by simp; omega) (fun k e => hlt9 k e))
                    have hz9 := HB9.out.size
                    clear hown hgr hlt9
                    go_wp2_with (at_builtin; refine wpList_append_own _ rfl _ _ 46 rfl w3.heap.size 5 i0 (.int .u8 0) 1 1 Tryz.underlying46 hi hz0 hz1 hz2 rfl (by decide) _ (o.length + 1) _ rfl (HO9.out.alloc _) ⟨w9.heap.size, 0, none⟩ 1 1 [.int .u8 (s[k].toNat : Int)] rfl rfl (cell_one_new w9 (.int .u8 (s[k].toNat : Int)) 5) (by simp [Value.oneCell']) (by unfold maxLen; omega) (by omega) (by simp; omega) ?_)
                    intro u'' w10 hown hgr _
                    have HO10 := Lib.hid hown
                    have hlt9 := fun k e => (HO9.out.lt k e).1
                    have HB10 := Lib.hid ((HB9.out.alloc hz9 (Obj.cells #[.int .u8 (s[k].toNat : Int)] 5)).grown hgr (by simp; omega) (fun k e => hlt9 k e))
                    clear hown hgr hlt9
                    go_wp2
                    go_roundw
                    case rel => exact ⟨k + 1, o ++ [92] ++ [s[k]], by go_num, by omega, by simp; omega, Lib.hid ⟨HOk.out, HQn.out⟩, Lib.hid (by rw [HMap.out]; simpa using HO10.out), HB10⟩
                    case measure => simp [intOf]; omega
                  · by_cases e92 : s[k] = 92
                    · have c34 : ((s[k].toNat : Int) == 34) = false := beq_eq_false_iff_ne.2 (fun e => e34 ((byte_eq s[k] 34 (by decide)).2 e))
                      have c92 : ((s[k].toNat : Int) == 92) = true := beq_iff_eq.2 ((byte_eq s[k] 92 (by decide)).1 e92)
                      have HE := Lib.hid (show s[k] = 34 ∨ s[k] = 92 from .inr e92)
                      clear e34 e92
                      have HQn := Lib.hid (show o ++ [92] ++ [s[k]] = quoteL ((bs s).take (k + 1)) by rw [HTk.out, quoteL_snoc, if_pos HE.out, HQ.out.2]; simp)
                      have HMap := Lib.hid (show (o ++ [92] ++ [s[k]]).map encU = o.map encU ++ [.int .u8 92] ++ [.int .u8 (s[k].toNat : Int)] by simp [encU])
                      go_wp2_with (at_builtin; refine wpList_append_own _ rfl _ _ 46 rfl w3.heap.size 5 i0 (.int .u8 0) 1 1 Tryz.underlying46 hi hz0 hz1 hz2 rfl (by decide) _ o.length _ rfl (HO.out.alloc _) ⟨wr.heap.size, 0, none⟩ 1 1 [.int .u8 92] rfl rfl (cell_one_new wr (.int .u8 92) 5) (by simp [Value.oneCell']) (by unfold maxLen; omega) (by omega) (by simp; omega) ?_)
                      intro u' w9 hown hgr _
                      have HO9 := Lib.hid hown
                      have hlt9 := fun k e => (HO.out.lt k e).1
                      have HB9 := Lib.hid ((HBq.out.alloc zq (Obj.cells #[.int .u8 92] 5)).grown hgr (by simp; omega) (fun k e => hlt9 k e))
                      have hz9 := HB9.out.size
                      clear hown hgr hlt9
                      go_wp2_with (at_builtin; refine wpList_append_own _ rfl _ _ 46 rfl w3.heap.size 5 i0 (.int .u8 0) 1 1 Tryz.underlying46 hi hz0 hz1 hz2 rfl (by decide) _ (o.length + 1) _ rfl (HO9.out.alloc _) ⟨w9.heap.size, 0, none⟩ 1 1 [.int .u8 (s[k].toNat : Int)] rfl rfl (cell_one_new w9 (.int .u8 (s[k].toNat : Int)) 5) (by simp [Value.oneCell']) (by unfold maxLen; omega) (by omega) (by simp; omega) ?_)
                      intro u'' w10 hown hgr _
                      have HO10 := Lib.hid hown
                      have hlt9 := fun k e => (HO9.out.lt k e).1
                      have HB10 := Lib.hid ((HB9.out.alloc hz9 (Obj.cells #[.int .u8 (s[k].toNat : Int)] 5)).grown hgr (by simp; omega) (fun k e => hlt9 k e))
                      clear hown hgr hlt9
                      go_wp2
                      go_roundw
                      case rel => exact ⟨k + 1, o ++ [92] ++ [s[k]], by go_num, by omega, by simp; omega, Lib.hid ⟨HOk.out, HQn.out⟩, Lib.hid (by rw [HMap.out]; simpa using HO10.out), HB10⟩
                      case measure => simp [intOf]; omega
                    · have hE0 : ¬ (s[k] = 34 ∨ s[k] = 92) := by rintro (e | e); exact e34 e; exact e92 e
                      have c34 : ((s[k].toNat : Int) == 34) = false := beq_eq_false_iff_ne.2 (fun e => e34 ((byte_eq s[k] 34 (by decide)).2 e))
                      have c92 : ((s[k].toNat : Int) == 92) = false := beq_eq_false_iff_ne.2 (fun e => e92 ((byte_eq s[k] 92 (by decide)).2 e))
                      have HQn := Lib.hid (show o ++ [s[k]] = quoteL ((bs s).take (k + 1)) by rw [HTk.out, quoteL_snoc, if_neg hE0, HQ.out.2])
                      have HMap := Lib.hid (show (o ++ [s[k]]).map encU = o.map encU ++ [.int .u8 (s[k].toNat : Int)] by simp [encU])
                      clear hE0 e34 e92
                      go_wp2_with (at_builtin; refine wpList_append_own _ rfl _ _ 46 rfl w3.heap.size 5 i0 (.int .u8 0) 1 1 Tryz.underlying46 hi hz0 hz1 hz2 rfl (by decide) _ o.length _ rfl (HO.out.alloc _) ⟨wr.heap.size, 0, none⟩ 1 1 [.int .u8 (s[k].toNat : Int)] rfl rfl (cell_one_new wr (.int .u8 (s[k].toNat : Int)) 5) (by simp [Value.oneCell']) (by unfold maxLen; omega) (by omega) (by simp; omega) ?_)
                      intro u' w9 hown hgr _
                      have HO9 := Lib.hid hown
                      have hlt9 := fun k e => (HO.out.lt k e).1
                      have HB9 := Lib.hid ((HBq.out.alloc zq (Obj.cells #[.int .u8 (s[k].toNat : Int)] 5)).grown hgr (by simp; omega) (fun k e => hlt9 k e))
                      clear hown hgr hlt9
                      go_wp2
                      go_roundw
                      case rel => exact ⟨k + 1, o ++ [s[k]], by go_num, by omega, by simp; omega, Lib.hid ⟨HOk.out, HQn.out⟩, Lib.hid (by rw [HMap.out]; simpa using HO9.out), HB9⟩
                      case measure => simp [intOf]; omega
            · obtain rfl : k = s.size := by omega
              have HFin := Lib.hid (show bytesOk (bs s) ∧ o = quoteL (bs s) by
                have := HQ.out
                rwa [List.take_of_length_le (by rw [bs_size]; exact Nat.le_refl _)] at this)
              have hcv := own_text rfl HO.out
              have HTy := Lib.hid (show (⟨#[97, 32, 67, 82, 69, 65, 84, 69, 32, 34]⟩ : ByteArray) ++ str o ++ ⟨#[34]⟩ = str ([97, 32, 67, 82, 69, 65, 84, 69, 32] ++ (34 :: (quoteL (bs s) ++ [34]))) by rw [← HFin.out.2]; exact quoText o)
              have HBw := Lib.hid (below_then HB2.out (below_then HB3.out HBq.out))
              have HEw := Lib.hid (HE.out.then HBw.out)
              have K2 : Hid (Calls Tryz.prog 12 #[.string ((⟨#[97, 32, 67, 82, 69, 65, 84, 69, 32, 34]⟩ : ByteArray) ++ str o ++ ⟨#[34]⟩)] wr fun e w' => Below wr.heap.size wr w' ∧ ∃ c : CmdV, e = .returned (.tuple #[.agg c.cells, .nilIface]) ∧ CmdAt w' (newT wr w') c (createP (bs s))) := Lib.hid (by
                rw [HTy.out]
                have hql := quoteL_len (bs s)
                exact parse_create G (34 :: (quoteL (bs s) ++ [34])) (bs s) (quote_back (bs s) HFin.out.1) (by simp only [List.length_cons, List.length_append, List.length_nil]; rw [bs_size] at hql; omega) wr HEw.out)
              have hzo2 : (str o).size ≤ 4000 := by rw [str_size]; omega
              have HXw := Lib.hid (show wr.heap[w2.heap.size]? = _ from (HBq.out.block _ (Array.getElem?_eq_some_iff.1 HX3.out).1).trans HX3.out)
              have HCw := Lib.hid (HC2.out.kept (fun i hi => (HBq.out.block i (Nat.lt_of_lt_of_le hi.2 hz3)).trans (HB3.out.block i hi.2)))
              have HNw := Lib.hid (show ∀ i, newT wo w2 i → i < wr.heap.size from fun i hi => Nat.lt_of_lt_of_le hi.2 (Nat.le_trans hz3 zq))
              clear hcv
              have hcv := own_text rfl HO.out
              generalize str o = Q at *
              go_wp2_with fail
              refine K2.out.mono ?_
              rintro e w4 ⟨hB4, c, rfl, hC4⟩
              have HC4 := Lib.hid hC4
              have HB4 := Lib.hid hB4
              have hz4 := hB4.size
              obtain ⟨e0, e1, e2, ⟨en3, r3⟩, ⟨en4, r4⟩, e5, e6, e7, e8, e9, ⟨en10, r10⟩, ⟨en11, r11⟩⟩ := hC4
              obtain ⟨ztag, zname, zuid, zaA, zaN, zaC, zsA, zsN, zsC, zhow, zflags, zsilent, zdate, zbody, ziA, ziN, ziC, zkA, zkN, zkC⟩ := c
              dsimp only [createP] at e0 e1 e2 en3 en4 e5 e6 e7 e8 e9 en10 en11 r3
              subst e0 e1 e2 en3 en4 e5 e6 e7 e8 e9 en10 en11
              obtain ⟨zb, hab, _, _⟩ := r3.parts (by simp)
              subst hab
              clear hB4 r3 r4 r10 r11
              simp only [CmdV.cells, List.length_singleton, List.length_nil]
              obtain ⟨w5, hw5⟩ : ∃ w5, w4.alloc (Obj.cells #[.string (str [97]), .string (str [67, 82, 69, 65, 84, 69]), .bool false, .slice (some ⟨zb, 0, none⟩) 1 zaC, .slice zsA 0 zsC, .int .i64 0, .int .i64 0, .bool false, .int .i64 (-1), .string (str []), .slice ziA 0 ziC, .slice zkA 0 zkC] 33) = w5 := ⟨_, rfl⟩
              have HB5 := Lib.hid (show Below w4.heap.size w4 w5 by rw [← hw5]; exact (Below.refl _ _).alloc (Nat.le_refl _) _)
              have HX5 := Lib.hid (show w5.heap[w4.heap.size]? = some (Obj.cells #[.string (str [97]), .string (str [67, 82, 69, 65, 84, 69]), .bool false, .slice (some ⟨zb, 0, none⟩) 1 zaC, .slice zsA 0 zsC, .int .i64 0, .int .i64 0, .bool false, .int .i64 (-1), .string (str []), .slice ziA 0 ziC, .slice zkA 0 zkC] 33) by rw [← hw5]; exact World.alloc_heap_new _ _)
              have HY5 := Lib.hid (show w5.heap[w2.heap.size]? = _ from (HB5.out.block _ (Nat.lt_of_lt_of_le (Array.getElem?_eq_some_iff.1 HXw.out).1 hz4)).trans ((HB4.out.block _ (Array.getElem?_eq_some_iff.1 HXw.out).1).trans HXw.out))
              have HBz := Lib.hid (below_then HBw.out (below_then HB4.out HB5.out))
              have K5 := Lib.hid (same_walk (createP (bs s)) (createP (bs s)) (createFit _) (createFit _) _ _ _ _ w5 (fun i hi => Nat.lt_of_lt_of_le (HNw.out i hi) (Nat.le_trans hz4 HB5.out.size)) (fun i hi => Nat.lt_of_lt_of_le hi.2 HB5.out.size) (HCw.out.kept (fun i hi => (HB5.out.block i (Nat.lt_of_lt_of_le (HNw.out i hi) hz4)).trans (HB4.out.block i (HNw.out i hi)))) (HC4.out.kept (fun i hi => HB5.out.block i hi.2)))
              rw [sameC_refl] at K5
              clear hcv a0 b0 b3
              have x0 := obj_cell HY5.out 0 _ rfl
              have y0 := obj_cell HX5.out 0 _ rfl
              have x1 := obj_cell HY5.out 1 _ rfl
              have y1 := obj_cell HX5.out 1 _ rfl
              have x2 := obj_cell HY5.out 2 _ rfl
              have y2 := obj_cell HX5.out 2 _ rfl
              have x3 := obj_cell HY5.out 3 _ rfl
              have y3 := obj_cell HX5.out 3 _ rfl
              have x4 := obj_cell HY5.out 4 _ rfl
              have y4 := obj_cell HX5.out 4 _ rfl
              have x5 := obj_cell HY5.out 5 _ rfl
              have y5 := obj_cell HX5.out 5 _ rfl
              have x6 := obj_cell HY5.out 6 _ rfl
              have y6 := obj_cell HX5.out 6 _ rfl
              have x7 := obj_cell HY5.out 7 _ rfl
              have y7 := obj_cell HX5.out 7 _ rfl
              have x8 := obj_cell HY5.out 8 _ rfl
              have y8 := obj_cell HX5.out 8 _ rfl
              have x9 := obj_cell HY5.out 9 _ rfl
              have y9 := obj_cell HX5.out 9 _ rfl
              have x10 := obj_cell HY5.out 10 _ rfl
              have y10 := obj_cell HX5.out 10 _ rfl
              have x11 := obj_cell HY5.out 11 _ rfl
              have y11 := obj_cell HX5.out 11 _ rfl
              go_wp2_with fail
              refine K5.out.mono ?_
              rintro e w6 ⟨rfl, hB6⟩
              have HB6 := Lib.hid (below_then HBz.out hB6)
              clear hB6
              go_wp2
              go_ret
              exact ⟨rfl, HB6.out⟩
  · go_enter Tryz.func5, Tryz.ntmps5
    go_wp2_with fail
    refine HAl.out.mono ?_
    rintro e w1 ⟨rfl, hB1⟩
    have HB1 := Lib.hid hB1
    clear hB1
    go_wp2
    go_ret
    exact ⟨rfl, HB1.out⟩
end Go.Proofs.YtgmfhldfdnnafaaGreatDoor
