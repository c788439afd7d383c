/- The walk of the document's digits: a number in so many places. -/
import Derived.Test.YtcalbpdcjklffaaGreatDoorMailB
import Derived.Laws.AppendOwn
import Derived.Lib.Strings
import Derived.WalkLawsBesides
import Derived.Laws.IdiomStrings
namespace Go.Proofs.YtcalbpdcjklffaaGreatDoor
open Go.RowKit
open Go.Lib (decDigits)
set_option linter.unusedSimpArgs false
set_option linter.unusedVariables false
def encU (c : UInt8) : Value := .int .u8 (c.toNat : Int)
theorem infoByte : (Tryz.prog.info? 5).map (fun i => (i.zero, i.size, i.bytes)) = some (some (.int .u8 0), 1, 1) := by kernel_rfl
theorem own_text {w : World} {base n : Nat} {v : Value} {l : List UInt8} (hl : l.length = n) (h : w.ownsRow base 5 1 v n (l.map encU)) : (convert 58 9 v).run Tryz.prog w = .ok (.string ⟨l.toArray⟩) w := by
  subst hl
  rcases h.2 with ⟨rfl, h0⟩ | ⟨g, cap, cur, rfl, hb, hh, h1, h2, h3, h4⟩
  · obtain rfl : l = [] := List.eq_nil_of_length_eq_zero h0
    rw [run_convert_bytes_string w _ _ 5 none 0 0 Tryz.underlying58 Tryz.underlying5 Tryz.underlying9]
    first
    | rfl
    | (simp [Conv.bytesToString]; done)
    | (simp [Conv.bytesToString]; rfl)
  · refine run_convert_bytes_back w _ _ 5 _ cap l Tryz.underlying58 Tryz.underlying5 Tryz.underlying9 (fun j hj => ?_)
    exact h.cells (g := g) rfl j (encU l[j]) (by rw [List.getElem?_map, List.getElem?_eq_getElem hj]; rfl)
theorem own_one (W : World) (e : TypeId) (v : Value) {base : Nat} (hb : base ≤ W.heap.size) : (W.alloc (Obj.cells #[v] e)).ownsRow base e 1 (.slice (some ⟨W.heap.size, 0, none⟩) 1 1) 1 [v] :=
  ⟨by simp, .inr ⟨W.heap.size, 1, #[v], rfl, hb, heap_alloc_new W _, Nat.le_refl _, by decide, by simp, by simp⟩⟩
theorem dec_step (k : Nat) : decDigits k = (if k / 10 = 0 then [] else decDigits (k / 10)) ++ [UInt8.ofNat (48 + k % 10)] := by
  by_cases h : k < 10
  · rw [decDigits, dif_pos h, if_pos (by omega), show k % 10 = k by omega]; rfl
  · rw [decDigits, dif_neg h, if_neg (by omega)]
def DigSt (N k : Nat) (l : List UInt8) : Prop := (l = [] ∧ k = N) ∨ (l ≠ [] ∧ (if k = 0 then [] else decDigits k) ++ l = decDigits N)
theorem dig_next {N k : Nat} {l : List UInt8} (h : DigSt N k l) (hk : 0 < k ∨ l = []) : DigSt N (k / 10) (UInt8.ofNat (48 + k % 10) :: l) := by
  refine .inr ⟨by simp, ?_⟩
  rcases h with ⟨rfl, rfl⟩ | ⟨h1, h2⟩
  · rw [dec_step k]
  · have hp : 0 < k := by rcases hk with h | h
                          · exact h
                          · exact absurd h h1
    rw [if_neg (by omega), dec_step k] at h2
    rw [← h2]; simp
theorem dig_done {N : Nat} {l : List UInt8} (h : DigSt N 0 l) (hl : l ≠ []) : l = decDigits N := by
  rcases h with ⟨h1, _⟩ | ⟨_, h2⟩
  · exact absurd h1 hl
  · simpa using h2
def sliceLen : Value → Nat
  | .slice _ n _ => n
  | _ => 0
theorem own_somewhere {w : World} {base n : Nat} {e : TypeId} {v : Value} {xs : List Value} (h : w.ownsRow base e 1 v n xs) (hn : 0 < n) : ∃ g cap, v = .slice (some ⟨g, 0, none⟩) n cap := by
  rcases h.2 with ⟨_, h0⟩ | ⟨g, cap, cur, rfl, _⟩
  · omega
  · exact ⟨g, cap, rfl⟩
theorem dig_len {N k : Nat} {l : List UInt8} (h : DigSt N k l) : l.length ≤ (decDigits N).length := by
  rcases h with ⟨rfl, _⟩ | ⟨_, h2⟩
  · simp
  · rw [← h2, List.length_append]; omega
theorem dec_few (N : Nat) (hN : N ≤ 9223372036854775807) : (decDigits N).length ≤ 20 := by
  have := decS_few N hN
  rw [decS, ByteArray.size] at this; simpa using this
theorem row_cells_at {w : World} {base n g cap : Nat} {e : TypeId} {l : List UInt8} (h : w.ownsRow base e 1 (.slice (some ⟨g, 0, none⟩) n cap) n (l.map encU)) : ∀ (j : Nat) u, (l.map encU)[j]? = some u → w.cell? ((⟨g, 0, none⟩ : Addr).add j) = some u :=
  fun j u hu => h.cells (g := g) rfl j u hu
theorem enc_one (l : List UInt8) : ∀ u ∈ l.map encU, u.oneCell' = true := by
  intro u hu
  obtain ⟨x, _, rfl⟩ := List.mem_map.1 hu
  rfl
theorem enc_dig (k : Nat) : encU (UInt8.ofNat (48 + k % 10)) = .int .u8 (48 + (k : Int) % 10) := by
  have h : (UInt8.ofNat (48 + k % 10)).toNat = 48 + k % 10 := by rw [UInt8.toNat_ofNat']; omega
  rw [encU, h]; congr 1
theorem own_cons {w : World} {base : Nat} {v : Value} {x : UInt8} {u : Value} {l : List UInt8} (hu : encU x = u) (h : w.ownsRow base 5 1 v (1 + l.length) ([u] ++ l.map encU)) : w.ownsRow base 5 1 v (x :: l).length ((x :: l).map encU) := by
  rw [List.map_cons, hu, List.length_cons, Nat.add_comm]; exact h
set_option maxHeartbeats 8000000 in
set_option maxRecDepth 100000 in
theorem refDigits_walk (N p : Nat) (c : UInt8) (hN : N ≤ 9223372036854775807) (hp : p ≤ 20) (w : World) :
    Calls Tryz.prog 43 #[.int .i64 N, .int .i64 p, .int .u8 c.toNat] w fun e w' => e = .returned (.string ⟨(List.replicate (p - (decDigits N).length) c ++ decDigits N).toArray⟩) ∧ Below w.heap.size w w' := by
  obtain ⟨i0, hi, hz0, hz1, hz2⟩ := info_parts infoByte
  have HO0 := Lib.hid (own_empty w 5 1)
  have HB0 := Lib.hid (alloc_b w (Obj.cells #[] 5))
  have hd20 := dec_few N hN
  generalize hw : w.alloc (Obj.cells #[] 5) = w0 at *
  go_enter Tryz.func43, Tryz.ntmps43
  go_wp2
  clear hw
  go_loopw [0, 7] (fun nv b wr => ∃ (k : Nat) (l : List UInt8) (g cap : Nat), k ≤ 9223372036854775807 ∧ nv = .int .i64 k ∧ b = .slice (some ⟨g, 0, none⟩) l.length cap ∧ Hid (DigSt N k l) ∧ Hid (wr.ownsRow w.heap.size 5 1 b l.length (l.map encU)) ∧ Hid (Below w.heap.size w wr)) (fun nv b _ => (intOf nv).toNat + (1 - sliceLen b))
  case atStart => exact ⟨N, [], _, _, hN, rfl, rfl, Lib.hid (.inl ⟨rfl, rfl⟩), HO0, HB0⟩
  case round =>
    obtain ⟨k, l, g, cap, hk, rfl, rfl, HS, HO, HB⟩ := hrel
    have hl := dig_len HS.out
    have zs := HB.out.size
    by_cases hg : 0 < k ∨ l = []
    · have HN := Lib.hid (dig_next HS.out hg)
      have hl0 : 0 < k ∨ l.length = 0 := by rcases hg with h | h
                                            · exact .inl h
                                            · exact .inr (by rw [h]; rfl)
      clear hg
      by_cases hk0 : 0 < k
      · clear hl0
        go_wp2_with (at_builtin; refine wpList_append_own _ rfl _ _ 58 rfl w.heap.size 5 i0 (.int .u8 0) 1 1 Tryz.underlying58 hi hz0 hz1 hz2 rfl (by decide) (.slice (some ⟨wr.heap.size, 0, none⟩) 1 1) 1 [.int .u8 (48 + (k : Int) % 10)] rfl (own_one wr 5 _ zs) ⟨g, 0, none⟩ l.length cap (l.map encU) rfl (by simp) (row_cells_at (HO.out.alloc _)) (enc_one l) ?aa ?ab ?ac ?_)
        case aa => unfold maxLen; omega
        case ab => omega
        case ac => simp; omega
        intro v' w1 hown hgr _
        have HB1 := Lib.hid ((HB.out.alloc zs _).grown hgr (by simp; omega) (fun q hq => by simp [Value.ownBlock] at hq; omega))
        have hown2 := own_cons (x := UInt8.ofNat (48 + k % 10)) (enc_dig k) hown
        obtain ⟨g1, cap1, rfl⟩ := own_somewhere hown2 (by simp)
        have HO1 := Lib.hid hown2
        clear hown hown2 hgr
        go_wp2
        go_roundw
        case rel => exact ⟨k / 10, UInt8.ofNat (48 + k % 10) :: l, g1, cap1, by omega, by go_num, rfl, HN, HO1, HB1⟩
        case measure => simp [intOf, sliceLen]; omega
      · obtain rfl : k = 0 := by omega
        obtain rfl : l = [] := List.eq_nil_of_length_eq_zero (by omega)
        clear hl0 hk0 hl
        go_wp2_with (at_builtin; refine wpList_append_own _ rfl _ _ 58 rfl w.heap.size 5 i0 (.int .u8 0) 1 1 Tryz.underlying58 hi hz0 hz1 hz2 rfl (by decide) (.slice (some ⟨wr.heap.size, 0, none⟩) 1 1) 1 [.int .u8 48] rfl (own_one wr 5 _ zs) ⟨g, 0, none⟩ 0 cap [] rfl rfl (fun j u hu => by simp at hu) (fun u hu => by simp at hu) ?ba ?bb ?bc ?_)
        case ba => unfold maxLen; omega
        case bb => omega
        case bc => simp; omega
        intro v' w1 hown hgr _
        have HB1 := Lib.hid ((HB.out.alloc zs _).grown hgr (by simp; omega) (fun q hq => by simp [Value.ownBlock] at hq; omega))
        have hown2 := own_cons (x := 48) (l := []) rfl hown
        obtain ⟨g1, cap1, rfl⟩ := own_somewhere hown2 (by simp)
        have HO1 := Lib.hid hown2
        clear hown hown2 hgr
        go_wp2
        go_roundw
        case rel => exact ⟨0, [48], g1, cap1, by omega, by go_num, rfl, HN, HO1, HB1⟩
        case measure => simp [intOf, sliceLen]
    · obtain rfl : k = 0 := by
        by_cases h : 0 < k
        · exact absurd (.inl h) hg
        · omega
      have hl1 : l ≠ [] := fun h => hg (.inr h)
      have hlp : 0 < l.length := by cases l with
                                    | nil => exact absurd rfl hl1
                                    | cons => simp
      have HD := Lib.hid (dig_done HS.out hl1)
      have hlz : ((l.length : Int) == 0) = false := by rw [beq_eq_false_iff_ne]; omega
      clear hg hl1
      go_wp2
      clear hlz
      generalize ((l.length : Int) == 0) = bz
      rw [show ((0 : Nat) : Int) = 0 from rfl]
      go_loopw [7] (fun b W => ∃ (j : Nat) (l : List UInt8) (g cap : Nat), l = List.replicate j c ++ decDigits N ∧ b = .slice (some ⟨g, 0, none⟩) l.length cap ∧ (j = 0 ∨ j + (decDigits N).length ≤ p) ∧ Hid (W.ownsRow w.heap.size 5 1 b l.length (l.map encU)) ∧ Hid (Below w.heap.size w W)) (fun b _ => p - sliceLen b)
      case atStart => exact ⟨0, l, g, cap, HD.out, rfl, .inl rfl, HO, HB⟩
      case round =>
        clear HS HO HB hl zs hlp HD
        obtain ⟨j, l, g, cap, hlj, rfl, hj, HO, HB⟩ := hrel
        have zs := HB.out.size
        have hll : l.length = j + (decDigits N).length := by rw [hlj]; simp
        by_cases hlt : l.length < p
        · have HL := Lib.hid hlj
          have HLL := Lib.hid hll
          have hlq : l.length ≤ 20 := by omega
          clear hlj hll
          go_wp2_with (at_builtin; refine wpList_append_own _ rfl _ _ 58 rfl w.heap.size 5 i0 (.int .u8 0) 1 1 Tryz.underlying58 hi hz0 hz1 hz2 rfl (by decide) (.slice (some ⟨wr.heap.size, 0, none⟩) 1 1) 1 [.int .u8 ((c.toNat : Nat) : Int)] rfl (own_one wr 5 _ zs) ⟨g, 0, none⟩ l.length cap (l.map encU) rfl (by simp) (row_cells_at (HO.out.alloc _)) (enc_one l) ?ca ?cb ?cc ?_)
          case ca => unfold maxLen; omega
          case cb => omega
          case cc => simp; omega
          intro v' w1 hown hgr _
          have HB1 := Lib.hid ((HB.out.alloc zs _).grown hgr (by simp; omega) (fun q hq => by simp [Value.ownBlock] at hq; omega))
          have hown2 := own_cons (x := c) rfl hown
          obtain ⟨g1, cap1, rfl⟩ := own_somewhere hown2 (by simp)
          have HO1 := Lib.hid hown2
          clear hown hown2 hgr
          go_wp2
          go_roundw
          case rel => exact ⟨j + 1, c :: l, g1, cap1, by rw [HL.out, List.replicate_succ]; rfl, rfl, .inr (by have := HLL.out; omega), HO1, HB1⟩
          case measure => simp [sliceLen]; omega
        · have HL := Lib.hid hlj
          have hj2 : j = p - (decDigits N).length := by rcases hj with h | h <;> omega
          have HJ := Lib.hid hj2
          have hcv := own_text rfl HO.out
          clear hlj hj hj2 hll
          go_wp2
          go_ret
          exact ⟨by rw [HL.out, HJ.out]; rfl, HB.out⟩
end Go.Proofs.YtcalbpdcjklffaaGreatDoor
