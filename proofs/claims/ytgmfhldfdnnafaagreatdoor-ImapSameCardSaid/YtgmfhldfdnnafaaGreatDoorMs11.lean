/- A part of the proofs of the statements on chapter 21: walks of functions that they reach, and plain laws. What is proved is stated in the last text. Conditions: none of its own. -/
import Derived.Test.YtgmfhldfdnnafaaGreatDoorMs10
import Derived.Test.YtgmfhldfdnnafaaGreatDoorRows
import Derived.Handy
import Derived.Lib.Hide
import Derived.Deep.QuietTactic
import Derived.BigQuiet
import Derived.WalkLawsBesides
set_option maxHeartbeats 8000000
set_option maxRecDepth 100000
set_option linter.unusedSimpArgs false
set_option linter.unusedVariables false
namespace Go.Proofs.YtgmfhldfdnnafaaGreatDoor
open Go.RowKit
open Pl (Bs)
mutual
def sameKeyP : KeyP → KeyP → Bool
 | .mk a1 a2 a3 a4 a5 a6, .mk b1 b2 b3 b4 b5 b6 => decide (a1 = b1) && (decide (a2 = b2) && (decide (a3 = b3) && (decide (a4 = b4) && (decide (a5 = b5) && sameKeysP a6 b6))))
def sameKeysP : List KeyP → List KeyP → Bool
 | [], [] => true
 | a :: l, b :: m => sameKeyP a b && sameKeysP l m
 | [], _ :: _ => false
 | _ :: _, [] => false
end
theorem sameKeysP_eq : ∀ l m : List KeyP, sameKeysP l m = sameL sameKeyP l m
 | [], [] => by rw [sameKeysP, sameL]
 | a :: l, b :: m => by rw [sameKeysP, sameL, sameKeysP_eq l m]
 | [], _ :: _ => by rw [sameKeysP, sameL]
 | _ :: _, [] => by rw [sameKeysP, sameL]
theorem sameKeyP_eq (x y : KeyP) : sameKeyP x y = (decide (x.name = y.name) && (decide (x.text = y.text) && (decide (x.field = y.field) && (decide (x.n = y.n) && (decide (x.set = y.set) && sameKeysP x.kids y.kids))))) := by
 cases x; cases y; rw [sameKeyP]; rfl
inductive KeysFit : List KeyP → Prop
 | nil : KeysFit []
 | cons {x : KeyP} {l : List KeyP} : x.set.length ≤ 1000000000 → x.kids.length ≤ 1000000000 → KeysFit x.kids → KeysFit l → KeysFit (x :: l)
theorem KeysFit.at : ∀ {l : List KeyP}, KeysFit l → ∀ x ∈ l, x.set.length ≤ 1000000000 ∧ x.kids.length ≤ 1000000000 ∧ KeysFit x.kids
 | _, .nil, x, h => by simp at h
 | _, .cons a b c d, x, h => by
  rcases List.mem_cons.1 h with rfl | h
  ·
   exact ⟨a, b, c⟩
  ·
   exact d.at x h
theorem KeysC.at {w : World} {T : Nat → Prop} : ∀ {l : List KeyP} {cs : List Value}, KeysC w T l cs → ∀ (k : Nat) (x : KeyP), l[k]? = some x → ∃ vs vk kcs, KeyAt w T vs vk kcs x ∧ ∀ j, j < 6 → cs[k * 6 + j]? = (keyC vs vk x)[j]?
 | _, _, .nil, k, x, h => by simp at h
 | _, _, .cons (x := y) (vs := vs) (vk := vk) (kcs := kcs) (l := l) (cs := cs) h1 h2 h3 h4, 0, x, h => by
  obtain rfl : y = x := by simpa using h
  refine ⟨vs, vk, kcs, ⟨h1, h2, h3⟩, fun j hj => ?_⟩
  rw [Nat.zero_mul, Nat.zero_add, List.getElem?_append_left (by simpa [keyC] using hj)]
 | _, _, .cons (x := y) (vs := vs) (vk := vk) (kcs := kcs) (l := l) (cs := cs) h1 h2 h3 h4, k + 1, x, h => by
  obtain ⟨vs', vk', kcs', g1, g2⟩ := h4.at k x (by simpa using h)
  refine ⟨vs', vk', kcs', g1, fun j hj => ?_⟩
  rw [← g2 j hj, List.getElem?_append_right (by simp [keyC]; omega)]
  congr 1
  simp [keyC]; omega
theorem KeyAt.open {w : World} {T : Nat → Prop} {vs vk : Value} {kcs : List Value} {x : KeyP} (h : KeyAt w T vs vk kcs x) : ∃ A c A2 c2, vs = .slice A x.set.length c ∧ vk = .slice A2 x.kids.length c2 ∧ RowC w T (.slice A x.set.length c) x.set.length (flat x.set) ∧ RowC w T (.slice A2 x.kids.length c2) x.kids.length kcs ∧ KeysC w T x.kids kcs := by
 obtain ⟨h1, h2, h3⟩ := h
 have g1 := h1
 have g2 := h2
 obtain ⟨A, c, rfl, _⟩ := h1
 obtain ⟨A2, c2, rfl, _⟩ := h2
 exact ⟨A, c, A2, c2, rfl, rfl, g1, g2, h3⟩
def keyFn : Value := .func (.func 37) #[] #[]
def EqKeysCon (l : List KeyP) : Prop := ∀ (m : List KeyP) (A B : Option Addr) (c d : Nat) (cs cs' : List Value) (T T' : Nat → Prop) (w : World), l.length ≤ 1000000000 → KeysFit l → KeysFit m → (∀ i, T i → i < w.heap.size) → (∀ i, T' i → i < w.heap.size) →
  RowC w T (.slice A l.length c) l.length cs → KeysC w T l cs → RowC w T' (.slice B m.length d) m.length cs' → KeysC w T' m cs' →
  Calls Tryz.prog 36 #[.slice A l.length c, .slice B m.length d, keyFn] w fun e w' => e = .returned (.bool (sameKeysP l m)) ∧ Below w.heap.size w w'
def SameKeyCon (x : KeyP) : Prop := ∀ (y : KeyP) (vs vk vs' vk' : Value) (kcs kcs' : List Value) (T T' : Nat → Prop) (w : World), x.set.length ≤ 1000000000 → x.kids.length ≤ 1000000000 → KeysFit x.kids → KeysFit y.kids → (∀ i, T i → i < w.heap.size) → (∀ i, T' i → i < w.heap.size) →
  KeyAt w T vs vk kcs x → KeyAt w T' vs' vk' kcs' y →
  Calls Tryz.prog 37 #[.agg #[.string (str x.name), .string (str x.text), .string (str x.field), .int .i64 x.n, vs, vk], .agg #[.string (str y.name), .string (str y.text), .string (str y.field), .int .i64 y.n, vs', vk']] w fun e w' => e = .returned (.bool (sameKeyP x y)) ∧ Below w.heap.size w w'
theorem sameKey_of (x : KeyP) (hK : EqKeysCon x.kids) : SameKeyCon x := by
 intro y vs vk vs' vk' kcs kcs' T T' w fx1 fx2 fx fy hT hT' h1 h2
 obtain ⟨A, c, A2, c2, rfl, rfl, r1, r2, r3⟩ := h1.open
 obtain ⟨B, d, B2, d2, rfl, rfl, s1, s2, s3⟩ := h2.open
 have K4 : Hid (∀ W, Below w.heap.size w W → Calls Tryz.prog 33 #[.slice A x.set.length c, .slice B y.set.length d] W fun e w' => e = .returned (.bool (decide (x.set = y.set))) ∧ Below W.heap.size W w') := Lib.hid (fun W hB => (eqR_walk A B c d x.set y.set T T' W (r1.below hT hB) (s1.below hT' hB) (by omega)).mono fun e w' ⟨h1, h2⟩ => ⟨h1, below_q h2⟩)
 have K5 : Hid (∀ W, Below w.heap.size w W → Calls Tryz.prog 36 #[.slice A2 x.kids.length c2, .slice B2 y.kids.length d2, .func (.func 37) #[] #[]] W fun e w' => e = .returned (.bool (sameKeysP x.kids y.kids)) ∧ Below W.heap.size W w') := Lib.hid (fun W hB => hK y.kids A2 B2 c2 d2 kcs kcs' T T' W fx2 fx fy (fun i hi => Nat.lt_of_lt_of_le (hT i hi) hB.size) (fun i hi => Nat.lt_of_lt_of_le (hT' i hi) hB.size) (r2.below hT hB) (r3.kept (fun i hi => hB.block i (hT i hi))) (s2.below hT' hB) (s3.kept (fun i hi => hB.block i (hT' i hi))))
 have HV := Lib.hid (sameKeyP_eq x y)
 have e0 := str_beq x.name y.name
 have e1 := str_beq x.text y.text
 have e2 := str_beq x.field y.field
 have e3 := int_beq x.n y.n
 clear h1 h2 hT hT' fx1 fx2 fx fy r1 r2 r3 s1 s2 s3 hK
 generalize sameKeyP x y = R at *
 generalize decide (x.name = y.name) = b0 at *
 generalize decide (x.text = y.text) = b1 at *
 generalize decide (x.field = y.field) = b2 at *
 generalize decide (x.n = y.n) = b3 at *
 generalize decide (x.set = y.set) = b4 at *
 generalize sameKeysP x.kids y.kids = b5 at *
 generalize str x.name = S1 at *
 generalize str y.name = S2 at *
 generalize str x.text = S3 at *
 generalize str y.text = S4 at *
 generalize str x.field = S5 at *
 generalize str y.field = S6 at *
 generalize x.n = i1 at *
 generalize y.n = i2 at *
 generalize x.set.length = n1 at *
 generalize y.set.length = n2 at *
 generalize x.kids.length = n3 at *
 generalize y.kids.length = n4 at *
 have HX0 := Lib.hid (box2 w (Obj.cells #[.string S1, .string S3, .string S5, .int .i64 i1, .slice A n1 c, .slice A2 n3 c2] 51) (Obj.cells #[.string S2, .string S4, .string S6, .int .i64 i2, .slice B n2 d, .slice B2 n4 d2] 51)).1
 have HB0 := Lib.hid (box2 w (Obj.cells #[.string S1, .string S3, .string S5, .int .i64 i1, .slice A n1 c, .slice A2 n3 c2] 51) (Obj.cells #[.string S2, .string S4, .string S6, .int .i64 i2, .slice B n2 d, .slice B2 n4 d2] 51)).2
 cases b0 with
 | false =>
  go_enter Tryz.func37, Tryz.ntmps37
  go_wp2
  go_ret
  exact ⟨by rw [HV.out]; rfl, HB0.out⟩
 | true =>
  cases b1 with
  | false =>
   go_enter Tryz.func37, Tryz.ntmps37
   go_wp2
   go_ret
   exact ⟨by rw [HV.out]; rfl, HB0.out⟩
  | true =>
   cases b2 with
   | false =>
    go_enter Tryz.func37, Tryz.ntmps37
    go_wp2
    go_ret
    exact ⟨by rw [HV.out]; rfl, HB0.out⟩
   | true =>
    cases b3 with
    | false =>
     go_enter Tryz.func37, Tryz.ntmps37
     go_wp2
     go_ret
     exact ⟨by rw [HV.out]; rfl, HB0.out⟩
    | true =>
     cases b4 with
     | false =>
      go_enter Tryz.func37, Tryz.ntmps37
      go_wp2_with fail
      refine (K4.out _ HB0.out).mono ?_
      rintro e w5 ⟨rfl, hB5⟩
      have HB5 := Lib.hid (below_then HB0.out hB5)
      have HX5 := Lib.hid (box2_kept HX0.out hB5)
      clear hB5
      go_wp2
      go_ret
      exact ⟨by rw [HV.out]; rfl, HB5.out⟩
     | true =>
      cases b5 with
      | false =>
       go_enter Tryz.func37, Tryz.ntmps37
       go_wp2_with fail
       refine (K4.out _ HB0.out).mono ?_
       rintro e w5 ⟨rfl, hB5⟩
       have HB5 := Lib.hid (below_then HB0.out hB5)
       have HX5 := Lib.hid (box2_kept HX0.out hB5)
       clear hB5
       have x5 := obj_cell HX5.out.1 5 _ rfl
       have y5 := obj_cell HX5.out.2 5 _ rfl
       go_wp2_with fail
       refine (K5.out _ HB5.out).mono ?_
       rintro e w6 ⟨rfl, hB6⟩
       have HB6 := Lib.hid (below_then HB5.out hB6)
       have HX6 := Lib.hid (box2_kept HX5.out hB6)
       clear x5 y5
       clear hB6
       go_wp2
       go_ret
       exact ⟨by rw [HV.out]; rfl, HB6.out⟩
      | true =>
       go_enter Tryz.func37, Tryz.ntmps37
       go_wp2_with fail
       refine (K4.out _ HB0.out).mono ?_
       rintro e w5 ⟨rfl, hB5⟩
       have HB5 := Lib.hid (below_then HB0.out hB5)
       have HX5 := Lib.hid (box2_kept HX0.out hB5)
       clear hB5
       have x5 := obj_cell HX5.out.1 5 _ rfl
       have y5 := obj_cell HX5.out.2 5 _ rfl
       go_wp2_with fail
       refine (K5.out _ HB5.out).mono ?_
       rintro e w6 ⟨rfl, hB6⟩
       have HB6 := Lib.hid (below_then HB5.out hB6)
       have HX6 := Lib.hid (box2_kept HX5.out hB6)
       clear x5 y5
       clear hB6
       go_wp2
       go_ret
       exact ⟨by rw [HV.out]; rfl, HB6.out⟩
open Go.RowKit
open Pl (Bs)
theorem eqKeys_ne (A B : Option Addr) (n m c d : Nat) (v : Value) (w : World) (h : n ≠ m) :
  Calls Tryz.prog 36 #[.slice A n c, .slice B m d, v] w fun e w' => e = .returned (.bool false) ∧ w = w' := by
 have hh : ((n : Int) != (m : Int)) = true := by rw [bne_iff_ne]; omega
 go_enter Tryz.func36, Tryz.ntmps36
 go_wp2
 go_ret
 exact ⟨rfl, rfl⟩
abbrev keyO (vs vk : Value) (x : KeyP) : Obj := Obj.cells #[.string (str x.name), .string (str x.text), .string (str x.field), .int .i64 x.n, vs, vk] 51
theorem eqKeys_of (l : List KeyP) (hS : ∀ x ∈ l, SameKeyCon x) : EqKeysCon l := by
 intro m A B c d cs cs' T T' w hl hf hf' hT hT' hR hI hR' hI'
 rw [sameKeysP_eq]
 by_cases hlm : l.length = m.length
 ·
  obtain ⟨n, hn⟩ : ∃ n, l.length = n := ⟨_, rfl⟩
  have hh : ((n : Int) != (n : Int)) = false := by simp
  rw [← hlm, hn]
  by_cases h0 : n = 0
  ·
   have HV := Lib.hid (show sameL sameKeyP l m = true from sameL_all hlm (fun j x y h1 h2 => by have := (List.getElem?_eq_some_iff.1 h1).1; omega))
   subst h0
   clear hR hI hR' hI' hf hf' hT hT' hlm hn hl hS
   rw [keyFn]
   go_enter Tryz.func36, Tryz.ntmps36
   go_wp2
   refine wp_loop_rounds 1 ?_
   rw [rounds_succ]
   go_wp2
   go_ret
   exact ⟨by rw [HV.out]; rfl, Below.refl _ _⟩
  ·
   obtain ⟨b1, rfl, t1, h1⟩ := hR.parts (by omega)
   obtain ⟨b2, rfl, t2, h2⟩ := hR'.parts (by omega)
   have lt1 := hT b1 t1
   have lt2 := hT' b2 t2
   have CX := Lib.hid (fun k (hk : k < n) (wr : World) (hB : Below w.heap.size w wr) => show ∃ x vp vn kcs, l[k]? = some x ∧ (x.set.length ≤ 1000000000 ∧ x.kids.length ≤ 1000000000 ∧ KeysFit x.kids) ∧ SameKeyCon x ∧ KeyAt wr T vp vn kcs x ∧ ∀ j v, j < 6 → (keyC vp vn x)[j]? = some v → wr.cell? ⟨b1, k * 6 + j, none⟩ = some v by
    have hk' : k < l.length := by omega
    obtain ⟨vp, vn, kcs, g1, g2⟩ := hI.at k l[k] (List.getElem?_eq_getElem hk')
    exact ⟨l[k], vp, vn, kcs, List.getElem?_eq_getElem hk', hf.at _ (List.getElem_mem hk'), hS _ (List.getElem_mem hk'), g1.kept (fun i hi => hB.block i (hT i hi)), fun j v hj hv => (World.cell?_of_block (hB.block b1 lt1)).trans (h1 _ v (by rw [g2 j hj]; exact hv))⟩)
   have CY := Lib.hid (fun k (hk : k < n) (wr : World) (hB : Below w.heap.size w wr) => show ∃ x vp vn kcs, m[k]? = some x ∧ KeysFit x.kids ∧ KeyAt wr T' vp vn kcs x ∧ ∀ j v, j < 6 → (keyC vp vn x)[j]? = some v → wr.cell? ⟨b2, k * 6 + j, none⟩ = some v by
    have hk' : k < m.length := by omega
    obtain ⟨vp, vn, kcs, g1, g2⟩ := hI'.at k m[k] (List.getElem?_eq_getElem hk')
    exact ⟨m[k], vp, vn, kcs, List.getElem?_eq_getElem hk', (hf'.at _ (List.getElem_mem hk')).2.2, g1.kept (fun i hi => hB.block i (hT' i hi)), fun j v hj hv => (World.cell?_of_block (hB.block b2 lt2)).trans (h2 _ v (by rw [g2 j hj]; exact hv))⟩)
   have HL := Lib.hid (show l.length = n ∧ m.length = n from ⟨hn, by omega⟩)
   have HT := Lib.hid hT
   have HT' := Lib.hid hT'
   have hn' : n ≤ 1000000000 := by omega
   clear hR hI hR' hI' hf hf' hT hT' hlm hn hl h1 h2 hS
   rw [keyFn]
   go_enter Tryz.func36, Tryz.ntmps36
   go_wp2
   go_loopw [17] (fun i wr => ∃ k : Nat, k ≤ n ∧ i = .int .i64 k ∧ Hid (∀ j x y, j < k → l[j]? = some x → m[j]? = some y → sameKeyP x y = true) ∧ Hid (Below w.heap.size w wr)) (fun i _ => n - (intOf i).toNat)
   case atStart => exact ⟨0, Nat.zero_le _, rfl, Lib.hid (fun j x y hj => absurd hj (Nat.not_lt_zero _)), Lib.hid (Below.refl _ _)⟩
   case round =>
    obtain ⟨k, hk, rfl, HA, HB⟩ := hrel
    by_cases hkn : k < n
    ·
     obtain ⟨x, vp, vn, kcs, hx, fx, kx, sx, cx⟩ := CX.out k hkn wr HB.out
     obtain ⟨y, vp', vn', kcs', hy, fy, sy, cy⟩ := CY.out k hkn wr HB.out
     have hz := HB.out.size
     have x0 := cx 0 _ (by decide) rfl
     have x1 := cx 1 _ (by decide) rfl
     have x2 := cx 2 _ (by decide) rfl
     have x3 := cx 3 _ (by decide) rfl
     have x4 := cx 4 _ (by decide) rfl
     have x5 := cx 5 _ (by decide) rfl
     have y0 := cy 0 _ (by decide) rfl
     have y1 := cy 1 _ (by decide) rfl
     have y2 := cy 2 _ (by decide) rfl
     have y3 := cy 3 _ (by decide) rfl
     have y4 := cy 4 _ (by decide) rfl
     have y5 := cy 5 _ (by decide) rfl
     rw [Nat.add_zero] at x0 y0
     have l1 : b1 < wr.heap.size := by omega
     have l2 : b2 < wr.heap.size := by omega
     have HB2 := Lib.hid (box2 wr (keyO vp vn x) (keyO vp' vn' y)).2
     have K := Lib.hid (kx y vp vn vp' vn' kcs kcs' T T' ((wr.alloc (keyO vp vn x)).alloc (keyO vp' vn' y)) fx.1 fx.2.1 fx.2.2 fy (fun i hi => Nat.lt_of_lt_of_le (Nat.lt_of_lt_of_le (HT.out i hi) hz) HB2.out.size) (fun i hi => Nat.lt_of_lt_of_le (Nat.lt_of_lt_of_le (HT'.out i hi) hz) HB2.out.size) (sx.kept (fun i hi => HB2.out.block i (Nat.lt_of_lt_of_le (HT.out i hi) hz))) (sy.kept (fun i hi => HB2.out.block i (Nat.lt_of_lt_of_le (HT'.out i hi) hz))))
     have HX := Lib.hid (show l[k]? = some x ∧ m[k]? = some y from ⟨hx, hy⟩)
     obtain ⟨A1, c1, A2, c2, rfl, rfl, _, _, _⟩ := sx.open
     obtain ⟨A3, c3, A4, c4, rfl, rfl, _, _, _⟩ := sy.open
     clear hx hy fx fy sx sy cx cy kx
     cases hs : sameKeyP x y with
     | true =>
      rw [hs] at K
      have HN := Lib.hid (show ∀ j x y, j < k + 1 → l[j]? = some x → m[j]? = some y → sameKeyP x y = true from fun j x' y' hj h1 h2 => by
       by_cases hjk : j = k
       ·
        subst hjk
        obtain rfl := Option.some.inj (HX.out.1.symm.trans h1)
        obtain rfl := Option.some.inj (HX.out.2.symm.trans h2)
        exact hs
       ·
        exact HA.out j x' y' (by omega) h1 h2)
      clear hs
      go_wp2_with fail
      refine K.out.mono ?_
      rintro e w2 ⟨rfl, hB3⟩
      have HB3 := Lib.hid (below_then (below_then HB.out HB2.out) hB3)
      clear hB3
      go_wp2
      go_roundw
      case rel => exact ⟨k + 1, by omega, by go_num, HN, HB3⟩
      case measure => simp [intOf]; omega
     | false =>
      rw [hs] at K
      have HV := Lib.hid (show sameL sameKeyP l m = false from sameL_not HX.out.1 HX.out.2 hs)
      clear hs
      go_wp2_with fail
      refine K.out.mono ?_
      rintro e w2 ⟨rfl, hB3⟩
      have HB3 := Lib.hid (below_then (below_then HB.out HB2.out) hB3)
      clear hB3
      go_wp2
      go_ret
      exact ⟨by rw [HV.out]; rfl, HB3.out⟩
    ·
     obtain rfl : k = n := by omega
     have HV := Lib.hid (show sameL sameKeyP l m = true from sameL_all (by rw [HL.out.1, HL.out.2]) (fun j x y h1 h2 => HA.out j x y (by have := (List.getElem?_eq_some_iff.1 h1).1; have := HL.out.1; omega) h1 h2))
     go_wp2
     go_ret
     exact ⟨by rw [HV.out]; rfl, HB.out⟩
 ·
  refine (eqKeys_ne A B _ _ c d _ w hlm).mono ?_
  rintro e w' ⟨rfl, rfl⟩
  exact ⟨congrArg (fun b => Ending.returned (.bool b)) (sameL_len hlm).symm, Below.refl _ _⟩
theorem eqKeys_all : ∀ (n : Nat) (l : List KeyP), SizeOf.sizeOf l ≤ n → EqKeysCon l := by
 intro n
 induction n with
 | zero => intro l h; cases l <;> simp at h
 | succ n ih =>
  intro l h
  refine eqKeys_of l (fun x hx => sameKey_of x (ih _ ?_))
  have h1 := List.sizeOf_lt_of_mem hx
  have h2 : SizeOf.sizeOf x.kids < SizeOf.sizeOf x := by cases x; simp [KeyP.kids]; omega
  omega
theorem eqKeys_walk (l : List KeyP) : EqKeysCon l := eqKeys_all _ l (Nat.le_refl _)
theorem sameKeys_refl : ∀ (n : Nat) (l : List KeyP), SizeOf.sizeOf l ≤ n → sameKeysP l l = true := by
 intro n
 induction n with
 | zero => intro l h; cases l <;> simp at h
 | succ n ih =>
  intro l h
  rw [sameKeysP_eq]
  refine sameL_refl (fun x hx => ?_)
  have h1 := List.sizeOf_lt_of_mem hx
  have h2 : SizeOf.sizeOf x.kids < SizeOf.sizeOf x := by cases x; simp [KeyP.kids]; omega
  rw [sameKeyP_eq, ih _ (by omega)]
  simp
open Go.RowKit
open Pl (Bs)
structure CmdP where
 tag : Bs
 name : Bs
 uid : Bool
 args : List Bs
 set : List (Int × Int)
 how : Int
 flags : Int
 silent : Bool
 date : Int
 body : Bs
 items : List ItemP
 keys : List KeyP
structure CmdAt (w : World) (T : Nat → Prop) (c : CmdV) (x : CmdP) : Prop where
 tag : c.tag = str x.tag
 name : c.name = str x.name
 uid : c.uid = x.uid
 args : c.aN = x.args.length ∧ RowC w T (.slice c.aA x.args.length c.aC) x.args.length (x.args.map strV)
 set : c.sN = x.set.length ∧ RowC w T (.slice c.sA x.set.length c.sC) x.set.length (flat x.set)
 how : c.how = x.how
 flags : c.flags = x.flags
 silent : c.silent = x.silent
 date : c.date = x.date
 body : c.body = str x.body
 items : c.iN = x.items.length ∧ ∃ cs, RowC w T (.slice c.iA x.items.length c.iC) x.items.length cs ∧ ItemsC w T x.items cs
 keys : c.kN = x.keys.length ∧ ∃ cs, RowC w T (.slice c.kA x.keys.length c.kC) x.keys.length cs ∧ KeysC w T x.keys cs
theorem CmdAt.kept {w w1 : World} {T : Nat → Prop} {c : CmdV} {x : CmdP} (h : CmdAt w T c x) (hk : ∀ i, T i → w1.heap[i]? = w.heap[i]?) : CmdAt w1 T c x := by
 obtain ⟨h1, h2, h3, ⟨h4, g4⟩, ⟨h5, g5⟩, h6, h7, h8, h9, h10, ⟨h11, cs, g11, k11⟩, ⟨h12, cs', g12, k12⟩⟩ := h
 exact ⟨h1, h2, h3, ⟨h4, g4.kept hk⟩, ⟨h5, g5.kept hk⟩, h6, h7, h8, h9, h10, ⟨h11, cs, g11.kept hk, k11.kept hk⟩, ⟨h12, cs', g12.kept hk, k12.kept hk⟩⟩
theorem CmdAt.more {w : World} {T T' : Nat → Prop} {c : CmdV} {x : CmdP} (h : CmdAt w T c x) (hk : ∀ i, T i → T' i) : CmdAt w T' c x := by
 obtain ⟨h1, h2, h3, ⟨h4, g4⟩, ⟨h5, g5⟩, h6, h7, h8, h9, h10, ⟨h11, cs, g11, k11⟩, ⟨h12, cs', g12, k12⟩⟩ := h
 exact ⟨h1, h2, h3, ⟨h4, g4.more hk⟩, ⟨h5, g5.more hk⟩, h6, h7, h8, h9, h10, ⟨h11, cs, g11.more hk, k11.more hk⟩, ⟨h12, cs', g12.more hk, k12.more hk⟩⟩
structure CmdFit (x : CmdP) : Prop where
 args : x.args.length ≤ 1000000000
 set : x.set.length ≤ 1000000000
 items : x.items.length ≤ 1000000000
 each : ∀ y ∈ x.items, SpecFit y.spec
 keys : x.keys.length ≤ 1000000000
 deep : KeysFit x.keys
def sameC (x y : CmdP) : Bool := decide (x.tag = y.tag) && (decide (x.name = y.name) && (decide (x.uid = y.uid) && (decide (x.args = y.args) && (decide (x.set = y.set) && (decide (x.how = y.how) && (decide (x.flags = y.flags) && (decide (x.silent = y.silent) && (decide (x.date = y.date) && (decide (x.body = y.body) && (sameItemsP x.items y.items && (sameKeysP x.keys y.keys)))))))))))
theorem sameSpec_refl (x : SpecP) : sameSpec x x = true := by simp [sameSpec]
theorem sameItemP_refl (x : ItemP) : sameItemP x x = true := by simp [sameItemP, sameSpec_refl]
theorem sameC_refl (x : CmdP) : sameC x x = true := by
 have h1 := sameKeys_refl _ x.keys (Nat.le_refl _)
 have h2 : sameItemsP x.items x.items = true := sameL_refl (fun y _ => sameItemP_refl y)
 simp only [sameC, h1, h2, decide_true, Bool.and_self]
theorem same_walk (x y : CmdP) (hx : CmdFit x) (hy : CmdFit y) (c d : CmdV) (T T' : Nat → Prop) (w : World) (hT : ∀ i, T i → i < w.heap.size) (hT' : ∀ i, T' i → i < w.heap.size) (h1 : CmdAt w T c x) (h2 : CmdAt w T' d y) :
  Calls Tryz.prog 13 #[.agg c.cells, .agg d.cells] w fun e w' => e = .returned (.bool (sameC x y)) ∧ Below w.heap.size w w' := by
 obtain ⟨e0, e1, e2, ⟨en3, r3⟩, ⟨en4, r4⟩, e5, e6, e7, e8, e9, ⟨en10, cs, r10, k10⟩, ⟨en11, cs', r11, k11⟩⟩ := h1
 obtain ⟨f0, f1, f2, ⟨fn3, s3⟩, ⟨fn4, s4⟩, f5, f6, f7, f8, f9, ⟨fn10, ds, s10, m10⟩, ⟨fn11, ds', s11, m11⟩⟩ := h2
 obtain ⟨ctag, cname, cuid, caA, caN, caC, csA, csN, csC, chow, cflags, csilent, cdate, cbody, ciA, ciN, ciC, ckA, ckN, ckC⟩ := c
 obtain ⟨dtag, dname, duid, daA, daN, daC, dsA, dsN, dsC, dhow, dflags, dsilent, ddate, dbody, diA, diN, diC, dkA, dkN, dkC⟩ := d
 dsimp only at *
 subst e0 e1 e2 en3 en4 e5 e6 e7 e8 e9 en10 en11 f0 f1 f2 fn3 fn4 f5 f6 f7 f8 f9 fn10 fn11
 have hM : ∀ {W : World}, Below w.heap.size w W → ∀ i, T i → i < W.heap.size := fun hB i hi => Nat.lt_of_lt_of_le (hT i hi) hB.size
 have hM' : ∀ {W : World}, Below w.heap.size w W → ∀ i, T' i → i < W.heap.size := fun hB i hi => Nat.lt_of_lt_of_le (hT' i hi) hB.size
 have K3 : Hid (∀ W, Below w.heap.size w W → Calls Tryz.prog 32 #[.slice caA x.args.length caC, .slice daA y.args.length daC] W fun e w' => e = .returned (.bool (decide (x.args = y.args))) ∧ Below W.heap.size W w') := Lib.hid (fun W hB => (eqS_walk caA daA caC daC x.args y.args T T' W (r3.below hT hB) (s3.below hT' hB) (by have := hx.args; omega) (by have := hy.args; omega)).mono fun e w' ⟨h1, h2⟩ => ⟨h1, below_q h2⟩)
 have K4 : Hid (∀ W, Below w.heap.size w W → Calls Tryz.prog 33 #[.slice csA x.set.length csC, .slice dsA y.set.length dsC] W fun e w' => e = .returned (.bool (decide (x.set = y.set))) ∧ Below W.heap.size W w') := Lib.hid (fun W hB => (eqR_walk csA dsA csC dsC x.set y.set T T' W (r4.below hT hB) (s4.below hT' hB) (by have := hx.set; omega)).mono fun e w' ⟨h1, h2⟩ => ⟨h1, below_q h2⟩)
 have K10 : Hid (∀ W, Below w.heap.size w W → Calls Tryz.prog 34 #[.slice ciA x.items.length ciC, .slice diA y.items.length diC, .func (.func 35) #[] #[]] W fun e w' => e = .returned (.bool (sameItemsP x.items y.items)) ∧ Below W.heap.size W w') := Lib.hid (fun W hB => eqItems_walk ciA diA ciC diC x.items y.items cs ds T T' W hx.items hx.each hy.each (hM hB) (hM' hB) (r10.below hT hB) (k10.kept (fun i hi => hB.block i (hT i hi))) (s10.below hT' hB) (m10.kept (fun i hi => hB.block i (hT' i hi))))
 have K11 : Hid (∀ W, Below w.heap.size w W → Calls Tryz.prog 36 #[.slice ckA x.keys.length ckC, .slice dkA y.keys.length dkC, .func (.func 37) #[] #[]] W fun e w' => e = .returned (.bool (sameKeysP x.keys y.keys)) ∧ Below W.heap.size W w') := Lib.hid (fun W hB => eqKeys_walk x.keys y.keys ckA dkA ckC dkC cs' ds' T T' W hx.keys hx.deep hy.deep (hM hB) (hM' hB) (r11.below hT hB) (k11.kept (fun i hi => hB.block i (hT i hi))) (s11.below hT' hB) (m11.kept (fun i hi => hB.block i (hT' i hi))))
 have HV := Lib.hid (show sameC x y = (decide (x.tag = y.tag) && (decide (x.name = y.name) && (decide (x.uid = y.uid) && (decide (x.args = y.args) && (decide (x.set = y.set) && (decide (x.how = y.how) && (decide (x.flags = y.flags) && (decide (x.silent = y.silent) && (decide (x.date = y.date) && (decide (x.body = y.body) && (sameItemsP x.items y.items && (sameKeysP x.keys y.keys)))))))))))) from rfl)
 have e0 := str_beq x.tag y.tag
 have e1 := str_beq x.name y.name
 have e2 := bool_beq x.uid y.uid
 have e5 := int_beq x.how y.how
 have e6 := int_beq x.flags y.flags
 have e7 := bool_beq x.silent y.silent
 have e8 := int_beq x.date y.date
 have e9 := str_beq x.body y.body
 clear hT hT' hx hy hM hM' r3 s3 r4 s4 r10 s10 k10 m10 r11 s11 k11 m11
 generalize sameC x y = R at *
 generalize decide (x.tag = y.tag) = b0 at *
 generalize decide (x.name = y.name) = b1 at *
 generalize decide (x.uid = y.uid) = b2 at *
 generalize decide (x.args = y.args) = b3 at *
 generalize decide (x.set = y.set) = b4 at *
 generalize decide (x.how = y.how) = b5 at *
 generalize decide (x.flags = y.flags) = b6 at *
 generalize decide (x.silent = y.silent) = b7 at *
 generalize decide (x.date = y.date) = b8 at *
 generalize decide (x.body = y.body) = b9 at *
 generalize sameItemsP x.items y.items = b10 at *
 generalize sameKeysP x.keys y.keys = b11 at *
 generalize str x.tag = t0x at *
 generalize str x.name = n1x at *
 generalize x.uid = u2x at *
 generalize x.args.length = a3x at *
 generalize x.set.length = s4x at *
 generalize x.how = h5x at *
 generalize x.flags = f6x at *
 generalize x.silent = s7x at *
 generalize x.date = d8x at *
 generalize str x.body = b9x at *
 generalize x.items.length = i10x at *
 generalize x.keys.length = k11x at *
 generalize str y.tag = t0y at *
 generalize str y.name = n1y at *
 generalize y.uid = u2y at *
 generalize y.args.length = a3y at *
 generalize y.set.length = s4y at *
 generalize y.how = h5y at *
 generalize y.flags = f6y at *
 generalize y.silent = s7y at *
 generalize y.date = d8y at *
 generalize str y.body = b9y at *
 generalize y.items.length = i10y at *
 generalize y.keys.length = k11y at *
 have HX0 := Lib.hid (box2 w (Obj.cells #[.string t0x, .string n1x, .bool u2x, .slice caA a3x caC, .slice csA s4x csC, .int .i64 h5x, .int .i64 f6x, .bool s7x, .int .i64 d8x, .string b9x, .slice ciA i10x ciC, .slice ckA k11x ckC] 33) (Obj.cells #[.string t0y, .string n1y, .bool u2y, .slice daA a3y daC, .slice dsA s4y dsC, .int .i64 h5y, .int .i64 f6y, .bool s7y, .int .i64 d8y, .string b9y, .slice diA i10y diC, .slice dkA k11y dkC] 33)).1
 have HB0 := Lib.hid (box2 w (Obj.cells #[.string t0x, .string n1x, .bool u2x, .slice caA a3x caC, .slice csA s4x csC, .int .i64 h5x, .int .i64 f6x, .bool s7x, .int .i64 d8x, .string b9x, .slice ciA i10x ciC, .slice ckA k11x ckC] 33) (Obj.cells #[.string t0y, .string n1y, .bool u2y, .slice daA a3y daC, .slice dsA s4y dsC, .int .i64 h5y, .int .i64 f6y, .bool s7y, .int .i64 d8y, .string b9y, .slice diA i10y diC, .slice dkA k11y dkC] 33)).2
 simp only [CmdV.cells]
 cases b0 with
 | false =>
  go_enter Tryz.func13, Tryz.ntmps13
  go_wp2
  go_ret
  exact ⟨by rw [HV.out]; rfl, HB0.out⟩
 | true =>
  cases b1 with
  | false =>
   go_enter Tryz.func13, Tryz.ntmps13
   go_wp2
   go_ret
   exact ⟨by rw [HV.out]; rfl, HB0.out⟩
  | true =>
   cases b2 with
   | false =>
    go_enter Tryz.func13, Tryz.ntmps13
    go_wp2
    go_ret
    exact ⟨by rw [HV.out]; rfl, HB0.out⟩
   | true =>
    cases b3 with
    | false =>
     go_enter Tryz.func13, Tryz.ntmps13
     go_wp2_with fail
     refine (K3.out _ HB0.out).mono ?_
     rintro e w4 ⟨rfl, hB4⟩
     have HB4 := Lib.hid (below_then HB0.out hB4)
     have HX4 := Lib.hid (box2_kept HX0.out hB4)
     clear hB4
     go_wp2
     go_ret
     exact ⟨by rw [HV.out]; rfl, HB4.out⟩
    | true =>
     cases b4 with
     | false =>
      go_enter Tryz.func13, Tryz.ntmps13
      go_wp2_with fail
      refine (K3.out _ HB0.out).mono ?_
      rintro e w4 ⟨rfl, hB4⟩
      have HB4 := Lib.hid (below_then HB0.out hB4)
      have HX4 := Lib.hid (box2_kept HX0.out hB4)
      clear hB4
      have x4 := obj_cell HX4.out.1 4 _ rfl
      have y4 := obj_cell HX4.out.2 4 _ rfl
      go_wp2_with fail
      refine (K4.out _ HB4.out).mono ?_
      rintro e w5 ⟨rfl, hB5⟩
      have HB5 := Lib.hid (below_then HB4.out hB5)
      have HX5 := Lib.hid (box2_kept HX4.out hB5)
      clear x4 y4
      clear hB5
      go_wp2
      go_ret
      exact ⟨by rw [HV.out]; rfl, HB5.out⟩
     | true =>
      cases b5 with
      | false =>
       go_enter Tryz.func13, Tryz.ntmps13
       go_wp2_with fail
       refine (K3.out _ HB0.out).mono ?_
       rintro e w4 ⟨rfl, hB4⟩
       have HB4 := Lib.hid (below_then HB0.out hB4)
       have HX4 := Lib.hid (box2_kept HX0.out hB4)
       clear hB4
       have x4 := obj_cell HX4.out.1 4 _ rfl
       have y4 := obj_cell HX4.out.2 4 _ rfl
       have x5 := obj_cell HX4.out.1 5 _ rfl
       have y5 := obj_cell HX4.out.2 5 _ rfl
       go_wp2_with fail
       refine (K4.out _ HB4.out).mono ?_
       rintro e w5 ⟨rfl, hB5⟩
       have HB5 := Lib.hid (below_then HB4.out hB5)
       have HX5 := Lib.hid (box2_kept HX4.out hB5)
       clear x4 y4 x5 y5
       clear hB5
       have x5 := obj_cell HX5.out.1 5 _ rfl
       have y5 := obj_cell HX5.out.2 5 _ rfl
       go_wp2
       go_ret
       exact ⟨by rw [HV.out]; rfl, HB5.out⟩
      | true =>
       cases b6 with
       | false =>
        go_enter Tryz.func13, Tryz.ntmps13
        go_wp2_with fail
        refine (K3.out _ HB0.out).mono ?_
        rintro e w4 ⟨rfl, hB4⟩
        have HB4 := Lib.hid (below_then HB0.out hB4)
        have HX4 := Lib.hid (box2_kept HX0.out hB4)
        clear hB4
        have x4 := obj_cell HX4.out.1 4 _ rfl
        have y4 := obj_cell HX4.out.2 4 _ rfl
        have x5 := obj_cell HX4.out.1 5 _ rfl
        have y5 := obj_cell HX4.out.2 5 _ rfl
        have x6 := obj_cell HX4.out.1 6 _ rfl
        have y6 := obj_cell HX4.out.2 6 _ rfl
        go_wp2_with fail
        refine (K4.out _ HB4.out).mono ?_
        rintro e w5 ⟨rfl, hB5⟩
        have HB5 := Lib.hid (below_then HB4.out hB5)
        have HX5 := Lib.hid (box2_kept HX4.out hB5)
        clear x4 y4 x5 y5 x6 y6
        clear hB5
        have x5 := obj_cell HX5.out.1 5 _ rfl
        have y5 := obj_cell HX5.out.2 5 _ rfl
        have x6 := obj_cell HX5.out.1 6 _ rfl
        have y6 := obj_cell HX5.out.2 6 _ rfl
        go_wp2
        go_ret
        exact ⟨by rw [HV.out]; rfl, HB5.out⟩
       | true =>
        cases b7 with
        | false =>
         go_enter Tryz.func13, Tryz.ntmps13
         go_wp2_with fail
         refine (K3.out _ HB0.out).mono ?_
         rintro e w4 ⟨rfl, hB4⟩
         have HB4 := Lib.hid (below_then HB0.out hB4)
         have HX4 := Lib.hid (box2_kept HX0.out hB4)
         clear hB4
         have x4 := obj_cell HX4.out.1 4 _ rfl
         have y4 := obj_cell HX4.out.2 4 _ rfl
         have x5 := obj_cell HX4.out.1 5 _ rfl
         have y5 := obj_cell HX4.out.2 5 _ rfl
         have x6 := obj_cell HX4.out.1 6 _ rfl
         have y6 := obj_cell HX4.out.2 6 _ rfl
         have x7 := obj_cell HX4.out.1 7 _ rfl
         have y7 := obj_cell HX4.out.2 7 _ rfl
         go_wp2_with fail
         refine (K4.out _ HB4.out).mono ?_
         rintro e w5 ⟨rfl, hB5⟩
         have HB5 := Lib.hid (below_then HB4.out hB5)
         have HX5 := Lib.hid (box2_kept HX4.out hB5)
         clear x4 y4 x5 y5 x6 y6 x7 y7
         clear hB5
         have x5 := obj_cell HX5.out.1 5 _ rfl
         have y5 := obj_cell HX5.out.2 5 _ rfl
         have x6 := obj_cell HX5.out.1 6 _ rfl
         have y6 := obj_cell HX5.out.2 6 _ rfl
         have x7 := obj_cell HX5.out.1 7 _ rfl
         have y7 := obj_cell HX5.out.2 7 _ rfl
         go_wp2
         go_ret
         exact ⟨by rw [HV.out]; rfl, HB5.out⟩
        | true =>
         cases b8 with
         | false =>
          go_enter Tryz.func13, Tryz.ntmps13
          go_wp2_with fail
          refine (K3.out _ HB0.out).mono ?_
          rintro e w4 ⟨rfl, hB4⟩
          have HB4 := Lib.hid (below_then HB0.out hB4)
          have HX4 := Lib.hid (box2_kept HX0.out hB4)
          clear hB4
          have x4 := obj_cell HX4.out.1 4 _ rfl
          have y4 := obj_cell HX4.out.2 4 _ rfl
          have x5 := obj_cell HX4.out.1 5 _ rfl
          have y5 := obj_cell HX4.out.2 5 _ rfl
          have x6 := obj_cell HX4.out.1 6 _ rfl
          have y6 := obj_cell HX4.out.2 6 _ rfl
          have x7 := obj_cell HX4.out.1 7 _ rfl
          have y7 := obj_cell HX4.out.2 7 _ rfl
          have x8 := obj_cell HX4.out.1 8 _ rfl
          have y8 := obj_cell HX4.out.2 8 _ rfl
          go_wp2_with fail
          refine (K4.out _ HB4.out).mono ?_
          rintro e w5 ⟨rfl, hB5⟩
          have HB5 := Lib.hid (below_then HB4.out hB5)
          have HX5 := Lib.hid (box2_kept HX4.out hB5)
          clear x4 y4 x5 y5 x6 y6 x7 y7 x8 y8
          clear hB5
          have x5 := obj_cell HX5.out.1 5 _ rfl
          have y5 := obj_cell HX5.out.2 5 _ rfl
          have x6 := obj_cell HX5.out.1 6 _ rfl
          have y6 := obj_cell HX5.out.2 6 _ rfl
          have x7 := obj_cell HX5.out.1 7 _ rfl
          have y7 := obj_cell HX5.out.2 7 _ rfl
          have x8 := obj_cell HX5.out.1 8 _ rfl
          have y8 := obj_cell HX5.out.2 8 _ rfl
          go_wp2
          go_ret
          exact ⟨by rw [HV.out]; rfl, HB5.out⟩
         | true =>
          cases b9 with
          | false =>
           go_enter Tryz.func13, Tryz.ntmps13
           go_wp2_with fail
           refine (K3.out _ HB0.out).mono ?_
           rintro e w4 ⟨rfl, hB4⟩
           have HB4 := Lib.hid (below_then HB0.out hB4)
           have HX4 := Lib.hid (box2_kept HX0.out hB4)
           clear hB4
           have x4 := obj_cell HX4.out.1 4 _ rfl
           have y4 := obj_cell HX4.out.2 4 _ rfl
           have x5 := obj_cell HX4.out.1 5 _ rfl
           have y5 := obj_cell HX4.out.2 5 _ rfl
           have x6 := obj_cell HX4.out.1 6 _ rfl
           have y6 := obj_cell HX4.out.2 6 _ rfl
           have x7 := obj_cell HX4.out.1 7 _ rfl
           have y7 := obj_cell HX4.out.2 7 _ rfl
           have x8 := obj_cell HX4.out.1 8 _ rfl
           have y8 := obj_cell HX4.out.2 8 _ rfl
           have x9 := obj_cell HX4.out.1 9 _ rfl
           have y9 := obj_cell HX4.out.2 9 _ rfl
           go_wp2_with fail
           refine (K4.out _ HB4.out).mono ?_
           rintro e w5 ⟨rfl, hB5⟩
           have HB5 := Lib.hid (below_then HB4.out hB5)
           have HX5 := Lib.hid (box2_kept HX4.out hB5)
           clear x4 y4 x5 y5 x6 y6 x7 y7 x8 y8 x9 y9
           clear hB5
           have x5 := obj_cell HX5.out.1 5 _ rfl
           have y5 := obj_cell HX5.out.2 5 _ rfl
           have x6 := obj_cell HX5.out.1 6 _ rfl
           have y6 := obj_cell HX5.out.2 6 _ rfl
           have x7 := obj_cell HX5.out.1 7 _ rfl
           have y7 := obj_cell HX5.out.2 7 _ rfl
           have x8 := obj_cell HX5.out.1 8 _ rfl
           have y8 := obj_cell HX5.out.2 8 _ rfl
           have x9 := obj_cell HX5.out.1 9 _ rfl
           have y9 := obj_cell HX5.out.2 9 _ rfl
           go_wp2
           go_ret
           exact ⟨by rw [HV.out]; rfl, HB5.out⟩
          | true =>
           cases b10 with
           | false =>
            go_enter Tryz.func13, Tryz.ntmps13
            go_wp2_with fail
            refine (K3.out _ HB0.out).mono ?_
            rintro e w4 ⟨rfl, hB4⟩
            have HB4 := Lib.hid (below_then HB0.out hB4)
            have HX4 := Lib.hid (box2_kept HX0.out hB4)
            clear hB4
            have x4 := obj_cell HX4.out.1 4 _ rfl
            have y4 := obj_cell HX4.out.2 4 _ rfl
            have x5 := obj_cell HX4.out.1 5 _ rfl
            have y5 := obj_cell HX4.out.2 5 _ rfl
            have x6 := obj_cell HX4.out.1 6 _ rfl
            have y6 := obj_cell HX4.out.2 6 _ rfl
            have x7 := obj_cell HX4.out.1 7 _ rfl
            have y7 := obj_cell HX4.out.2 7 _ rfl
            have x8 := obj_cell HX4.out.1 8 _ rfl
            have y8 := obj_cell HX4.out.2 8 _ rfl
            have x9 := obj_cell HX4.out.1 9 _ rfl
            have y9 := obj_cell HX4.out.2 9 _ rfl
            have x10 := obj_cell HX4.out.1 10 _ rfl
            have y10 := obj_cell HX4.out.2 10 _ rfl
            go_wp2_with fail
            refine (K4.out _ HB4.out).mono ?_
            rintro e w5 ⟨rfl, hB5⟩
            have HB5 := Lib.hid (below_then HB4.out hB5)
            have HX5 := Lib.hid (box2_kept HX4.out hB5)
            clear x4 y4 x5 y5 x6 y6 x7 y7 x8 y8 x9 y9 x10 y10
            clear hB5
            have x5 := obj_cell HX5.out.1 5 _ rfl
            have y5 := obj_cell HX5.out.2 5 _ rfl
            have x6 := obj_cell HX5.out.1 6 _ rfl
            have y6 := obj_cell HX5.out.2 6 _ rfl
            have x7 := obj_cell HX5.out.1 7 _ rfl
            have y7 := obj_cell HX5.out.2 7 _ rfl
            have x8 := obj_cell HX5.out.1 8 _ rfl
            have y8 := obj_cell HX5.out.2 8 _ rfl
            have x9 := obj_cell HX5.out.1 9 _ rfl
            have y9 := obj_cell HX5.out.2 9 _ rfl
            have x10 := obj_cell HX5.out.1 10 _ rfl
            have y10 := obj_cell HX5.out.2 10 _ rfl
            go_wp2_with fail
            refine (K10.out _ HB5.out).mono ?_
            rintro e w11 ⟨rfl, hB11⟩
            have HB11 := Lib.hid (below_then HB5.out hB11)
            have HX11 := Lib.hid (box2_kept HX5.out hB11)
            clear x5 y5 x6 y6 x7 y7 x8 y8 x9 y9 x10 y10
            clear hB11
            go_wp2
            go_ret
            exact ⟨by rw [HV.out]; rfl, HB11.out⟩
           | true =>
            cases b11 with
            | false =>
             go_enter Tryz.func13, Tryz.ntmps13
             go_wp2_with fail
             refine (K3.out _ HB0.out).mono ?_
             rintro e w4 ⟨rfl, hB4⟩
             have HB4 := Lib.hid (below_then HB0.out hB4)
             have HX4 := Lib.hid (box2_kept HX0.out hB4)
             clear hB4
             have x4 := obj_cell HX4.out.1 4 _ rfl
             have y4 := obj_cell HX4.out.2 4 _ rfl
             have x5 := obj_cell HX4.out.1 5 _ rfl
             have y5 := obj_cell HX4.out.2 5 _ rfl
             have x6 := obj_cell HX4.out.1 6 _ rfl
             have y6 := obj_cell HX4.out.2 6 _ rfl
             have x7 := obj_cell HX4.out.1 7 _ rfl
             have y7 := obj_cell HX4.out.2 7 _ rfl
             have x8 := obj_cell HX4.out.1 8 _ rfl
             have y8 := obj_cell HX4.out.2 8 _ rfl
             have x9 := obj_cell HX4.out.1 9 _ rfl
             have y9 := obj_cell HX4.out.2 9 _ rfl
             have x10 := obj_cell HX4.out.1 10 _ rfl
             have y10 := obj_cell HX4.out.2 10 _ rfl
             have x11 := obj_cell HX4.out.1 11 _ rfl
             have y11 := obj_cell HX4.out.2 11 _ rfl
             go_wp2_with fail
             refine (K4.out _ HB4.out).mono ?_
             rintro e w5 ⟨rfl, hB5⟩
             have HB5 := Lib.hid (below_then HB4.out hB5)
             have HX5 := Lib.hid (box2_kept HX4.out hB5)
             clear x4 y4 x5 y5 x6 y6 x7 y7 x8 y8 x9 y9 x10 y10 x11 y11
             clear hB5
             have x5 := obj_cell HX5.out.1 5 _ rfl
             have y5 := obj_cell HX5.out.2 5 _ rfl
             have x6 := obj_cell HX5.out.1 6 _ rfl
             have y6 := obj_cell HX5.out.2 6 _ rfl
             have x7 := obj_cell HX5.out.1 7 _ rfl
             have y7 := obj_cell HX5.out.2 7 _ rfl
             have x8 := obj_cell HX5.out.1 8 _ rfl
             have y8 := obj_cell HX5.out.2 8 _ rfl
             have x9 := obj_cell HX5.out.1 9 _ rfl
             have y9 := obj_cell HX5.out.2 9 _ rfl
             have x10 := obj_cell HX5.out.1 10 _ rfl
             have y10 := obj_cell HX5.out.2 10 _ rfl
             have x11 := obj_cell HX5.out.1 11 _ rfl
             have y11 := obj_cell HX5.out.2 11 _ rfl
             go_wp2_with fail
             refine (K10.out _ HB5.out).mono ?_
             rintro e w11 ⟨rfl, hB11⟩
             have HB11 := Lib.hid (below_then HB5.out hB11)
             have HX11 := Lib.hid (box2_kept HX5.out hB11)
             clear x5 y5 x6 y6 x7 y7 x8 y8 x9 y9 x10 y10 x11 y11
             clear hB11
             have x11 := obj_cell HX11.out.1 11 _ rfl
             have y11 := obj_cell HX11.out.2 11 _ rfl
             go_wp2_with fail
             refine (K11.out _ HB11.out).mono ?_
             rintro e w12 ⟨rfl, hB12⟩
             have HB12 := Lib.hid (below_then HB11.out hB12)
             have HX12 := Lib.hid (box2_kept HX11.out hB12)
             clear x11 y11
             clear hB12
             go_wp2
             go_ret
             exact ⟨by rw [HV.out]; rfl, HB12.out⟩
            | true =>
             go_enter Tryz.func13, Tryz.ntmps13
             go_wp2_with fail
             refine (K3.out _ HB0.out).mono ?_
             rintro e w4 ⟨rfl, hB4⟩
             have HB4 := Lib.hid (below_then HB0.out hB4)
             have HX4 := Lib.hid (box2_kept HX0.out hB4)
             clear hB4
             have x4 := obj_cell HX4.out.1 4 _ rfl
             have y4 := obj_cell HX4.out.2 4 _ rfl
             have x5 := obj_cell HX4.out.1 5 _ rfl
             have y5 := obj_cell HX4.out.2 5 _ rfl
             have x6 := obj_cell HX4.out.1 6 _ rfl
             have y6 := obj_cell HX4.out.2 6 _ rfl
             have x7 := obj_cell HX4.out.1 7 _ rfl
             have y7 := obj_cell HX4.out.2 7 _ rfl
             have x8 := obj_cell HX4.out.1 8 _ rfl
             have y8 := obj_cell HX4.out.2 8 _ rfl
             have x9 := obj_cell HX4.out.1 9 _ rfl
             have y9 := obj_cell HX4.out.2 9 _ rfl
             have x10 := obj_cell HX4.out.1 10 _ rfl
             have y10 := obj_cell HX4.out.2 10 _ rfl
             have x11 := obj_cell HX4.out.1 11 _ rfl
             have y11 := obj_cell HX4.out.2 11 _ rfl
             go_wp2_with fail
             refine (K4.out _ HB4.out).mono ?_
             rintro e w5 ⟨rfl, hB5⟩
             have HB5 := Lib.hid (below_then HB4.out hB5)
             have HX5 := Lib.hid (box2_kept HX4.out hB5)
             clear x4 y4 x5 y5 x6 y6 x7 y7 x8 y8 x9 y9 x10 y10 x11 y11
             clear hB5
             have x5 := obj_cell HX5.out.1 5 _ rfl
             have y5 := obj_cell HX5.out.2 5 _ rfl
             have x6 := obj_cell HX5.out.1 6 _ rfl
             have y6 := obj_cell HX5.out.2 6 _ rfl
             have x7 := obj_cell HX5.out.1 7 _ rfl
             have y7 := obj_cell HX5.out.2 7 _ rfl
             have x8 := obj_cell HX5.out.1 8 _ rfl
             have y8 := obj_cell HX5.out.2 8 _ rfl
             have x9 := obj_cell HX5.out.1 9 _ rfl
             have y9 := obj_cell HX5.out.2 9 _ rfl
             have x10 := obj_cell HX5.out.1 10 _ rfl
             have y10 := obj_cell HX5.out.2 10 _ rfl
             have x11 := obj_cell HX5.out.1 11 _ rfl
             have y11 := obj_cell HX5.out.2 11 _ rfl
             go_wp2_with fail
             refine (K10.out _ HB5.out).mono ?_
             rintro e w11 ⟨rfl, hB11⟩
             have HB11 := Lib.hid (below_then HB5.out hB11)
             have HX11 := Lib.hid (box2_kept HX5.out hB11)
             clear x5 y5 x6 y6 x7 y7 x8 y8 x9 y9 x10 y10 x11 y11
             clear hB11
             have x11 := obj_cell HX11.out.1 11 _ rfl
             have y11 := obj_cell HX11.out.2 11 _ rfl
             go_wp2_with fail
             refine (K11.out _ HB11.out).mono ?_
             rintro e w12 ⟨rfl, hB12⟩
             have HB12 := Lib.hid (below_then HB11.out hB12)
             have HX12 := Lib.hid (box2_kept HX11.out hB12)
             clear x11 y11
             clear hB12
             go_wp2
             go_ret
             exact ⟨by rw [HV.out]; rfl, HB12.out⟩
open Go.RowKit
def IntsAt (w : World) (A : Option Addr) (n : Nat) (xs : List Int) : Prop :=
 xs.length = n ∧ n ≤ 9223372036854775807 ∧ (0 < n → ∃ g o, A = some ⟨g, o, none⟩ ∧ ∀ j, j < n → w.cell? ⟨g, o + j, none⟩ = some (.int .i64 (xs.getD j 0)))
def sameB (xs ys : List Int) : Bool := decide (xs = ys)
theorem same_upto {xs ys : List Int} {k : Nat} (hx : xs.length = ys.length) (hk : k = xs.length) (h : xs.take k = ys.take k) : sameB xs ys = true := by
 subst hk
 rw [List.take_length, hx, List.take_length] at h
 simp [sameB, h]
theorem same_next {xs ys : List Int} {k : Nat} (hk : k < xs.length) (hk' : k < ys.length) (h : xs.take k = ys.take k) (he : xs.getD k 0 = ys.getD k 0) : xs.take (k + 1) = ys.take (k + 1) := by
 rw [List.take_succ_eq_append_getElem hk, List.take_succ_eq_append_getElem hk', h]
 simp only [List.getD_eq_getElem?_getD, List.getElem?_eq_getElem hk, List.getElem?_eq_getElem hk', Option.getD_some] at he
 rw [he]
theorem same_not {xs ys : List Int} {k : Nat} (he : ¬ xs.getD k 0 = ys.getD k 0) : sameB xs ys = false := by
 simp only [sameB, decide_eq_false_iff_not]
 rintro rfl
 exact he rfl

theorem same_ne (A B : Option Addr) (n m c d : Nat) (w : World) (h : n ≠ m) :
  Calls Tryz.prog 80 #[.slice A n c, .slice B m d] w fun e w' => e = .returned (.bool false) ∧ w = w' := by
 have hh : ((n : Int) != (m : Int)) = true := by rw [bne_iff_ne]; omega
 go_enter Tryz.func80, Tryz.ntmps80
 go_wp2
 go_ret
 exact ⟨rfl, rfl⟩

theorem same_eq (A B : Option Addr) (n c d : Nat) (xs ys : List Int) (w : World) (hx : IntsAt w A n xs) (hy : IntsAt w B n ys) :
  Calls Tryz.prog 80 #[.slice A n c, .slice B n d] w fun e w' => e = .returned (.bool (sameB xs ys)) ∧ ∃ q, w' = w.drewN q := by
 obtain ⟨lx, hn, hx⟩ := hx
 obtain ⟨ly, _, hy⟩ := hy
 have hh : ((n : Int) != (n : Int)) = false := by simp
 have LX := Lib.hid lx
 have LY := Lib.hid ly
 clear lx ly
 by_cases h0 : n = 0
 ·
  subst h0
  have e : sameB xs ys = true := same_upto (by rw [LX.out, LY.out]) LX.out.symm rfl
  rw [e]
  clear hx hy
  go_enter Tryz.func80, Tryz.ntmps80
  go_wp2
  refine wp_loop_rounds 1 ?_
  rw [rounds_succ]
  go_wp2
  go_ret
  exact ⟨rfl, 0, rfl⟩
 ·
  obtain ⟨g, o, rfl, cx⟩ := hx (by omega)
  obtain ⟨g', o', rfl, cy⟩ := hy (by omega)
  have CX := Lib.hid cx
  have CY := Lib.hid cy
  clear cx cy hx hy
  go_enter Tryz.func80, Tryz.ntmps80
  go_wp2
  go_loopw [13] (fun i wr => ∃ k q : Nat, k ≤ n ∧ i = .int .i64 k ∧ Hid (xs.take k = ys.take k) ∧ wr = w.drewN q) (fun i _ => n - (intOf i).toNat)
  case atStart => exact ⟨0, 0, Nat.zero_le _, rfl, Lib.hid rfl, rfl⟩
  case round =>
   obtain ⟨k, q, hk, rfl, HS, rfl⟩ := hrel
   by_cases hkn : k < n
   ·
    have c1 := CX.out k hkn
    have c2 := CY.out k hkn
    by_cases he : xs.getD k 0 = ys.getD k 0
    ·
     have H2 := Lib.hid (same_next (by rw [LX.out]; exact hkn) (by rw [LY.out]; exact hkn) HS.out he)
     rw [he] at c1
     clear he
     go_wp2
     go_quiet (fail)
     go_wp2
     go_roundw
     case rel => exact ⟨k + 1, _, by omega, by go_num, H2, rfl⟩
     case measure => simp [intOf]; omega
    ·
     have e := same_not he
     have hd : (xs.getD k 0 != ys.getD k 0) = true := by rw [bne_iff_ne]; exact he
     have E := Lib.hid e
     clear e he
     generalize xs.getD k 0 = a at c1 hd
     generalize ys.getD k 0 = b at c2 hd
     go_wp2
     go_quiet (fail)
     go_wp2
     go_ret
     exact ⟨by rw [E.out]; rfl, _, World.drewN_drewN ..⟩
   ·
    obtain rfl : k = n := by omega
    have e := same_upto (by rw [LX.out, LY.out]) LX.out.symm HS.out
    have E := Lib.hid e
    clear e
    go_wp2
    go_ret
    exact ⟨by rw [E.out]; rfl, _, rfl⟩
open Go.RowKit
open Pl (Bs)
theorem rsS_ne (A B : Option Addr) (n m c d : Nat) (w : World) (h : n ≠ m) :
  Calls Tryz.prog 38 #[.slice A n c, .slice B m d] w fun e w' => e = .returned (.bool false) ∧ w = w' := by
 have hh : ((n : Int) != (m : Int)) = true := by rw [bne_iff_ne]; omega
 go_enter Tryz.func38, Tryz.ntmps38
 go_wp2
 go_ret
 exact ⟨rfl, rfl⟩
theorem rsS_walk (A B : Option Addr) (c d : Nat) (xs ys : List Bs) (T T' : Nat → Prop) (w : World) (hx : RowC w T (.slice A xs.length c) xs.length (xs.map strV)) (hy : RowC w T' (.slice B ys.length d) ys.length (ys.map strV)) (hn : xs.length ≤ 9223372036854775807) :
  Calls Tryz.prog 38 #[.slice A xs.length c, .slice B ys.length d] w fun e w' => e = .returned (.bool (decide (xs = ys))) ∧ ∃ q, w' = w.drewN q := by
 by_cases hl : xs.length = ys.length
 ·
  have hh : ((xs.length : Int) != (ys.length : Int)) = false := by rw [hl]; simp
  obtain ⟨n, hxn⟩ : ∃ n, xs.length = n := ⟨_, rfl⟩
  rw [← hl, hxn] at hh ⊢
  by_cases h0 : n = 0
  ·
   have HV := Lib.hid (show decide (xs = ys) = true by
    have e1 : xs = [] := List.eq_nil_of_length_eq_zero (by omega)
    have e2 : ys = [] := List.eq_nil_of_length_eq_zero (by omega)
    subst e1; subst e2; simp)
   subst h0
   clear hx hy hl hn hxn
   go_enter Tryz.func38, Tryz.ntmps38
   go_wp2
   refine wp_loop_rounds 1 ?_
   rw [rounds_succ]
   go_wp2
   go_ret
   exact ⟨by rw [HV.out]; rfl, 0, rfl⟩
  ·
   obtain ⟨b1, rfl, _, h1⟩ := hx.parts (by omega)
   obtain ⟨b2, rfl, _, h2⟩ := hy.parts (by omega)
   have CX := Lib.hid (fun k (hk : k < n) => show w.cell? ⟨b1, k, none⟩ = some (.string (str (xs.getD k []))) from h1 _ _ (by rw [List.getElem?_map, List.getElem?_eq_getElem (show k < xs.length by omega)]; simp [List.getD_eq_getElem?_getD, List.getElem?_eq_getElem (show k < xs.length by omega), strV]))
   have CY := Lib.hid (fun k (hk : k < n) => show w.cell? ⟨b2, k, none⟩ = some (.string (str (ys.getD k []))) from h2 _ _ (by rw [List.getElem?_map, List.getElem?_eq_getElem (show k < ys.length by omega)]; simp [List.getD_eq_getElem?_getD, List.getElem?_eq_getElem (show k < ys.length by omega), strV]))
   have HL := Lib.hid (show xs.length = n ∧ ys.length = n from ⟨hxn, by omega⟩)
   have hn' : n ≤ 9223372036854775807 := by omega
   clear hx hy h1 h2 hl hn hxn
   go_enter Tryz.func38, Tryz.ntmps38
   go_wp2
   go_loopw [13] (fun i wr => ∃ k : Nat, k ≤ n ∧ i = .int .i64 k ∧ Hid (∀ j, j < k → xs.getD j [] = ys.getD j []) ∧ ∃ q, wr = w.drewN q) (fun i _ => n - (intOf i).toNat)
   case atStart => exact ⟨0, Nat.zero_le _, rfl, Lib.hid (fun j hj => absurd hj (Nat.not_lt_zero _)), 0, rfl⟩
   case round =>
    obtain ⟨k, hk, rfl, HA, q, rfl⟩ := hrel
    by_cases hkn : k < n
    ·
     have x1 : (w.drewN q).cell? ⟨b1, k, none⟩ = _ := CX.out k hkn
     have y1 : (w.drewN q).cell? ⟨b2, k, none⟩ = _ := CY.out k hkn
     by_cases he : xs.getD k [] = ys.getD k []
     ·
      have HN := Lib.hid (show ∀ j, j < k + 1 → xs.getD j [] = ys.getD j [] from fun j hj => by
       by_cases hjk : j = k
       ·
        rw [hjk]; exact he
       ·
        exact HA.out j (by omega))
      rw [he] at x1
      clear he
      generalize str (ys.getD k []) = f at *
      generalize hwq : w.drewN q = wq at *
      go_wp2
      go_quiet (fail)
      go_wp2
      go_roundw
      case rel => exact ⟨k + 1, by omega, by go_num, HN, q + nq, by rw [← hwq]; simp [World.drewN, Nat.add_assoc]⟩
      case measure => simp [intOf]; omega
     ·
      have HV := Lib.hid (show decide (xs = ys) = false from decide_eq_false (fun e => he (by rw [e])))
      have hb : ((str (xs.getD k [])).toList == (str (ys.getD k [])).toList) = false := by
       rw [str_beq, decide_eq_false he]
      clear he
      generalize str (xs.getD k []) = f at *
      generalize str (ys.getD k []) = f2 at *
      generalize hwq : w.drewN q = wq at *
      go_wp2
      go_quiet (fail)
      go_wp2
      go_ret
      exact ⟨by rw [HV.out]; rfl, q + nq, by rw [← hwq]; simp [World.drewN, Nat.add_assoc]⟩
    ·
     obtain rfl : k = n := by omega
     have HV := Lib.hid (show decide (xs = ys) = true from decide_eq_true (List.ext_getElem (by rw [HL.out.1, HL.out.2]) (fun j h1 h2 => by
      have := HA.out j (by rw [← HL.out.1]; exact h1)
      simpa [List.getD_eq_getElem?_getD, List.getElem?_eq_getElem h1, List.getElem?_eq_getElem h2] using this)))
     clear HA
     go_wp2
     go_ret
     exact ⟨by rw [HV.out]; rfl, q, rfl⟩
 ·
  refine (rsS_ne A B _ _ c d w hl).mono ?_
  rintro e w' ⟨rfl, rfl⟩
  exact ⟨by rw [decide_eq_false (fun e => hl (by rw [e]))], 0, rfl⟩
theorem rsR_ne (A B : Option Addr) (n m c d : Nat) (w : World) (h : n ≠ m) :
  Calls Tryz.prog 39 #[.slice A n c, .slice B m d] w fun e w' => e = .returned (.bool false) ∧ w = w' := by
 have hh : ((n : Int) != (m : Int)) = true := by rw [bne_iff_ne]; omega
 go_enter Tryz.func39, Tryz.ntmps39
 go_wp2
 go_ret
 exact ⟨rfl, rfl⟩
theorem rsR_walk (A B : Option Addr) (c d : Nat) (xs ys : List (Int × Int)) (T T' : Nat → Prop) (w : World) (hx : RowC w T (.slice A xs.length c) xs.length (flat xs)) (hy : RowC w T' (.slice B ys.length d) ys.length (flat ys)) (hn : xs.length ≤ 4611686018427387903) :
  Calls Tryz.prog 39 #[.slice A xs.length c, .slice B ys.length d] w fun e w' => e = .returned (.bool (decide (xs = ys))) ∧ ∃ q, w' = w.drewN q := by
 by_cases hl : xs.length = ys.length
 ·
  have hh : ((xs.length : Int) != (ys.length : Int)) = false := by rw [hl]; simp
  obtain ⟨n, hxn⟩ : ∃ n, xs.length = n := ⟨_, rfl⟩
  rw [← hl, hxn] at hh ⊢
  by_cases h0 : n = 0
  ·
   have HV := Lib.hid (show decide (xs = ys) = true by
    have e1 : xs = [] := List.eq_nil_of_length_eq_zero (by omega)
    have e2 : ys = [] := List.eq_nil_of_length_eq_zero (by omega)
    subst e1; subst e2; simp)
   subst h0
   clear hx hy hl hn hxn
   go_enter Tryz.func39, Tryz.ntmps39
   go_wp2
   refine wp_loop_rounds 1 ?_
   rw [rounds_succ]
   go_wp2
   go_ret
   exact ⟨by rw [HV.out]; rfl, 0, rfl⟩
  ·
   obtain ⟨b1, rfl, _, h1⟩ := hx.parts (by omega)
   obtain ⟨b2, rfl, _, h2⟩ := hy.parts (by omega)
   have CX := Lib.hid (fun k (hk : k < n) => show w.cell? ⟨b1, k * 2, none⟩ = some (.int .i64 (xs.getD k (0, 0)).1) ∧ w.cell? ⟨b1, k * 2 + 1, none⟩ = some (.int .i64 (xs.getD k (0, 0)).2) from ⟨h1 _ _ (flat_at xs k (by omega)).1, h1 _ _ (flat_at xs k (by omega)).2⟩)
   have CY := Lib.hid (fun k (hk : k < n) => show w.cell? ⟨b2, k * 2, none⟩ = some (.int .i64 (ys.getD k (0, 0)).1) ∧ w.cell? ⟨b2, k * 2 + 1, none⟩ = some (.int .i64 (ys.getD k (0, 0)).2) from ⟨h2 _ _ (flat_at ys k (by omega)).1, h2 _ _ (flat_at ys k (by omega)).2⟩)
   have HL := Lib.hid (show xs.length = n ∧ ys.length = n from ⟨hxn, by omega⟩)
   have hn' : n ≤ 4611686018427387903 := by omega
   clear hx hy h1 h2 hl hn hxn
   go_enter Tryz.func39, Tryz.ntmps39
   go_wp2
   go_loopw [13] (fun i wr => ∃ k : Nat, k ≤ n ∧ i = .int .i64 k ∧ Hid (∀ j, j < k → xs.getD j (0, 0) = ys.getD j (0, 0)) ∧ ∃ q, wr = w.drewN q) (fun i _ => n - (intOf i).toNat)
   case atStart => exact ⟨0, Nat.zero_le _, rfl, Lib.hid (fun j hj => absurd hj (Nat.not_lt_zero _)), 0, rfl⟩
   case round =>
    obtain ⟨k, hk, rfl, HA, q, rfl⟩ := hrel
    by_cases hkn : k < n
    ·
     have x1 : (w.drewN q).cell? ⟨b1, k * 2, none⟩ = _ := (CX.out k hkn).1
     have x2 : (w.drewN q).cell? ⟨b1, k * 2 + 1, none⟩ = _ := (CX.out k hkn).2
     have y1 : (w.drewN q).cell? ⟨b2, k * 2, none⟩ = _ := (CY.out k hkn).1
     have y2 : (w.drewN q).cell? ⟨b2, k * 2 + 1, none⟩ = _ := (CY.out k hkn).2
     by_cases he : xs.getD k (0, 0) = ys.getD k (0, 0)
     ·
      have HN := Lib.hid (show ∀ j, j < k + 1 → xs.getD j (0, 0) = ys.getD j (0, 0) from fun j hj => by
       by_cases hjk : j = k
       ·
        rw [hjk]; exact he
       ·
        exact HA.out j (by omega))
      rw [he] at x1 x2
      clear he
      generalize (ys.getD k (0, 0)).1 = f at *
      generalize (ys.getD k (0, 0)).2 = t at *
      generalize hwq : w.drewN q = wq at *
      go_wp2
      go_quiet (fail)
      go_wp2
      go_roundw
      case rel => exact ⟨k + 1, by omega, by go_num, HN, q + nq, by rw [← hwq]; simp [World.drewN, Nat.add_assoc]⟩
      case measure => simp [intOf]; omega
     ·
      have HV := Lib.hid (show decide (xs = ys) = false from decide_eq_false (fun e => he (by rw [e])))
      have hne : ¬ ((xs.getD k (0, 0)).1 = (ys.getD k (0, 0)).1 ∧ (xs.getD k (0, 0)).2 = (ys.getD k (0, 0)).2) := fun h => he (Prod.ext h.1 h.2)
      clear he
      generalize (xs.getD k (0, 0)).1 = f at *
      generalize (xs.getD k (0, 0)).2 = t at *
      generalize (ys.getD k (0, 0)).1 = f2 at *
      generalize (ys.getD k (0, 0)).2 = t2 at *
      generalize hwq : w.drewN q = wq at *
      by_cases hf : f = f2
      ·
       subst hf
       have hb : (t == t2) = false := beq_eq_false_iff_ne.2 (fun e => hne ⟨rfl, e⟩)
       clear hne
       go_wp2
       go_quiet (fail)
       go_wp2
       go_ret
       exact ⟨by rw [HV.out]; rfl, q + nq, by rw [← hwq]; simp [World.drewN, Nat.add_assoc]⟩
      ·
       have hb : (f == f2) = false := beq_eq_false_iff_ne.2 hf
       clear hne hf
       go_wp2
       go_quiet (fail)
       go_wp2
       go_ret
       exact ⟨by rw [HV.out]; rfl, q + nq, by rw [← hwq]; simp [World.drewN, Nat.add_assoc]⟩
    ·
     obtain rfl : k = n := by omega
     have HV := Lib.hid (show decide (xs = ys) = true from decide_eq_true (List.ext_getElem (by rw [HL.out.1, HL.out.2]) (fun j h1 h2 => by
      have := HA.out j (by rw [← HL.out.1]; exact h1)
      simpa [List.getD_eq_getElem?_getD, List.getElem?_eq_getElem h1, List.getElem?_eq_getElem h2] using this)))
     go_wp2
     go_ret
     exact ⟨by rw [HV.out]; rfl, q, rfl⟩
 ·
  refine (rsR_ne A B _ _ c d w hl).mono ?_
  rintro e w' ⟨rfl, rfl⟩
  exact ⟨by rw [decide_eq_false (fun e => hl (by rw [e]))], 0, rfl⟩
theorem rsI_walk (A B : Option Addr) (c d : Nat) (xs ys : List Int) (T T' : Nat → Prop) (w : World) (hx : RowC w T (.slice A xs.length c) xs.length (xs.map intV)) (hy : RowC w T' (.slice B ys.length d) ys.length (ys.map intV)) (hn : xs.length ≤ 9223372036854775807) :
  Calls Tryz.prog 80 #[.slice A xs.length c, .slice B ys.length d] w fun e w' => e = .returned (.bool (decide (xs = ys))) ∧ ∃ q, w' = w.drewN q := by
 by_cases hl : xs.length = ys.length
 ·
  have at_ : ∀ (zs : List Int) (A : Option Addr) (c : Nat) (T : Nat → Prop), zs.length ≤ 9223372036854775807 → RowC w T (.slice A zs.length c) zs.length (zs.map intV) → IntsAt w A zs.length zs := fun zs A c T hz h => ⟨rfl, hz, fun hp => by
   obtain ⟨b, rfl, _, h1⟩ := h.parts hp
   exact ⟨b, 0, rfl, fun j hj => by rw [Nat.zero_add]; exact h1 j _ (by simp [List.getElem?_eq_getElem hj, intV])⟩⟩
  have h2 := at_ ys B d T' (by omega) hy
  have K := same_eq A B xs.length c d xs ys w (at_ xs A c T hn hx) (by rw [hl]; exact h2)
  rw [hl] at K ⊢
  exact K
 ·
  refine (same_ne A B _ _ c d w hl).mono ?_
  rintro e w' ⟨rfl, rfl⟩
  exact ⟨by rw [decide_eq_false (fun e => hl (by rw [e]))], 0, rfl⟩
end Go.Proofs.YtgmfhldfdnnafaaGreatDoor
