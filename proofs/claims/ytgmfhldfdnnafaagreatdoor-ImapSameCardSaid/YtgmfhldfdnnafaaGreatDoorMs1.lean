/- A part of the proofs of the statements on chapter 21: walks of functions that they reach, and plain laws. What is proved is stated in the last text. Conditions: none of its own. -/
import Derived.Stop.LaidErr
import Derived.Lib.LaidTab
import Derived.MakeChecks
import Derived.Test.YtgmfhldfdnnafaaGreatDoorRows
import Derived.LaidLaws
import Derived.Shelf.Strings.Prefix
import Derived.Shelf.Small.Wraps
import Derived.Shelf.Strings.Cut
import Derived.Shelf.Strings.LastIndex
import Derived.Shelf.Slices.Turned
import Derived.Shelf.Slices.Equal
import Derived.Test.YtgmfhldfdnnafaaGreatDoorChecked
import Derived.Lib.Bytealg
import Derived.Lib.Strings
import Derived.Lib.Slices
import Derived.Lib.Walk
import Derived.Lib.Hide
import Derived.WalkKit
import Derived.WalkSpells
import Derived.WalkLawsBesides
import Derived.Handy
import Derived.IntWalk
import Derived.Deep.QuietTactic
import Derived.BigQuiet
import Derived.RangeFuncNested
import Derived.RangeFuncBound
import Derived.RangeFuncCalls
import Derived.RangeFuncLeaves
import Derived.Shelf.Abstract
import Derived.Shelf.RegionOpen
import Derived.OwnWalkIn
import Derived.TacticsInMore
import Derived.LoopNIn
import Derived.LoopIn
import Derived.OneCell
import Derived.Laws.AppendOwn
import Derived.Maps.AppendAt
import Derived.Deep.Draws
import Derived.Laws.Rows
import Derived.RangeFuncRecord
import Derived.Laws.IdiomStrings
set_option maxHeartbeats 8000000
set_option maxRecDepth 100000
set_option linter.unusedSimpArgs false
set_option linter.unusedVariables false
namespace Go.Proofs.YtgmfhldfdnnafaaGreatDoor
open Go

theorem laid_part {P : Program} {W : World} {n : String} {d : DataW Unit} : ∀ {l : List (String × DataW Unit)} {ps : List MemPlace} {i : Nat}, DataW.LaidVars P W l ps → l[i]? = some (n, d) →
  ∃ g t cs fuel p, P.globalNamed n = some g ∧ (P.globals[g]?).map (·.type) = some t ∧ W.var? P n = some cs ∧ DataW.trod (fun _ => ()) P W 0 (fun _ => true) false fuel t cs.toList = some (d, p) ∧
   ∀ x, x ∈ MemPlace.row ⟨g, 0, none⟩ cs.size ++ p → x ∈ ps
 | [], _, _, _, h => by simp at h
 | (n', d') :: r, ps, 0, h, hi => by
  obtain ⟨g, t, cs, fuel, p, q, h1, h2, h3, h4, h5, rfl⟩ := h
  simp only [List.getElem?_cons_zero, Option.some.injEq, Prod.mk.injEq] at hi
  obtain ⟨rfl, rfl⟩ := hi
  exact ⟨g, t, cs, fuel, p, h1, h2, h3, h4, fun x hx => List.mem_append_left _ hx⟩
 | (n', d') :: r, ps, i + 1, h, hi => by
  obtain ⟨g, t, cs, fuel, p, q, h1, h2, h3, h4, h5, rfl⟩ := h
  obtain ⟨g', t', cs', fuel', p', e1, e2, e3, e4, e5⟩ := laid_part h5 (by simpa using hi)
  exact ⟨g', t', cs', fuel', p', e1, e2, e3, e4, fun x hx => List.mem_append_right _ (e5 x hx)⟩

structure ErrTypes (P : Program) (nm : String) (ti tp te ts : TypeId) : Prop where
 iface : ∃ ms, P.underlying ti = some (.interface ms)
 row : ∀ u, P.typeName? 3 u = some nm → u = tp
 ptr : P.underlying tp = some (.pointer te)
 str : ∃ f : Field, P.underlying te = some (.struct #[f]) ∧ f.type = ts ∧ f.offset = 0
 text : P.underlying ts = some .string
 one : P.cellsOf te = 1
 one' : P.cellsOf ts = 1

def SentAt (W : World) (g tp : Nat) (a : Addr) : Prop :=
 W.cell? ⟨g, 0, none⟩ = some (.iface tp (.pointer (some a))) ∧ ∃ (c : Array Value) (t : TypeId), W.heap[a.block]? = some (.cells c t (0, 0))

theorem sent_part {P : Program} {W : World} {l : List (String × DataW Unit)} {ps : List MemPlace} {name nm : String} {text : List UInt8} {i g : Nat} {ti tp te ts : TypeId} (hl : DataW.LaidVars P W l ps)
  (hr : ∀ b off, MemPlace.cell b off ∈ ps → (∃ c t, W.heap[b]? = some (.cells c t (0, 0))) ∧ ∀ u v, W.cell? ⟨b, off, none⟩ = some (.iface u v) → Value.okWide P W .any 0 u v)
  (hi : l[i]? = some (name, .iface nm (.ptr (.agg [.lit (.string text)])))) (T : ErrTypes P nm ti tp te ts) (hg : P.globalNamed name = some g) (hty : (P.globals[g]?).map (·.type) = some ti) :
  ∃ a, SentAt W g tp a ∧ MemPlace.cell a.block a.off ∈ ps := by
 obtain ⟨g', t', cs, fuel, p, e1, e2, e3, e4, e5⟩ := laid_part hl hi
 obtain rfl := Option.some.inj (hg.symm.trans e1)
 obtain rfl := Option.some.inj (hty.symm.trans e2)
 obtain ⟨ms, hms⟩ := T.iface
 obtain ⟨f, hf, hft, hfo⟩ := T.str
 obtain ⟨l0⟩ := cs
 have ok : ∀ u v, l0 = [.iface u v] → Value.okWide P W .any 0 u v := fun u v e => by
  subst e
  exact (hr g 0 (e5 _ (by simp [MemPlace.row]))).2 u v (by simpa using World.var?_cell hg e3 0)
 obtain ⟨a, s, rfl, hc, _, _, rfl⟩ := errorString_of_trod hms T.row T.ptr hf hft hfo T.text T.one T.one' e4 ok
 have hm : MemPlace.cell a.block a.off ∈ ps := e5 _ (by simp [MemPlace.row])
 exact ⟨a, ⟨by simpa using World.var?_cell hg e3 0, (hr a.block a.off hm).1⟩, hm⟩

theorem sent_get {P : Program} {W : World} {l : List (String × DataW Unit)} {name nm : String} {text : List UInt8} {g : Nat} {ti tp te ts : TypeId} (h : laidMet P l W) (i : Nat)
  (hi : l[i]? = some (name, .iface nm (.ptr (.agg [.lit (.string text)])))) (T : ErrTypes P nm ti tp te ts) (hg : P.globalNamed name = some g) (hty : (P.globals[g]?).map (·.type) = some ti) :
  ∃ a, SentAt W g tp a := by
 obtain ⟨ps, hl, _, hr⟩ := h
 obtain ⟨a, ha, _⟩ := sent_part hl hr hi T hg hty
 exact ⟨a, ha⟩

open Go
theorem starErr : "*" ++ "errors.errorString" = "*errors.errorString" := by decide
theorem errTypes : ErrTypes Tryz.prog "*errors.errorString" 35 200 223 9 where
 iface := ⟨_, Tryz.underlying35⟩
 row := fun u h => typeName_ptr_named (nm := "errors.errorString") (by rw [starErr]; kernel_rfl) (by kernel_rfl) (by decide) u (by rw [starErr]; exact h)
 ptr := Tryz.underlying200
 str := ⟨_, Tryz.underlying223, rfl, rfl⟩
 text := Tryz.underlying9
 one := by kernel_rfl
 one' := by kernel_rfl
open Go.Shelf Go.RowKit
def lays99_ren : Go.Shelf.Ren := ⟨fun | 99 => 99 | 206 => 119 | n => n, fun | 3 => 3 | 4 => 4 | 9 => 9 | n => n, fun n => n⟩
theorem lays99 : Lays.n99 Tryz.prog lays99_ren := {
 mixed := by kernel_rfl,
 f99 := by kernel_rfl,
 f206 := by kernel_rfl,
 t3 := Tryz.underlying3,
 a3 := Tryz.isAgg3,
 z3 := Tryz.sizeOf3,
 v3 := Tryz.zeroValue3,
 t4 := Tryz.underlying4,
 a4 := Tryz.isAgg4,
 z4 := Tryz.sizeOf4,
 v4 := Tryz.zeroValue4,
 t9 := Tryz.underlying9,
 a9 := Tryz.isAgg9,
 z9 := Tryz.sizeOf9,
 v9 := Tryz.zeroValue9 }
def lays103_ren : Go.Shelf.Ren := ⟨fun | 103 => 96 | 206 => 119 | 210 => 118 | n => n, fun | 3 => 3 | 4 => 4 | 9 => 9 | 24 => 52 | n => n, fun n => n⟩
theorem lays103 : Lays.n103 Tryz.prog lays103_ren := {
 mixed := by kernel_rfl,
 f103 := by kernel_rfl,
 f206 := by kernel_rfl,
 f210 := by kernel_rfl,
 t3 := Tryz.underlying3,
 a3 := Tryz.isAgg3,
 z3 := Tryz.sizeOf3,
 v3 := Tryz.zeroValue3,
 t4 := Tryz.underlying4,
 a4 := Tryz.isAgg4,
 z4 := Tryz.sizeOf4,
 v4 := Tryz.zeroValue4,
 t9 := Tryz.underlying9,
 a9 := Tryz.isAgg9,
 z9 := Tryz.sizeOf9,
 v9 := Tryz.zeroValue9,
 t24 := Tryz.underlying52,
 a24 := Tryz.isAgg52,
 z24 := Tryz.sizeOf52,
 v24 := Tryz.zeroValue52 }
def lays104_ren : Go.Shelf.Ren := ⟨fun | 104 => 18 | 207 => 93 | 211 => 61 | n => n, fun | 3 => 3 | 4 => 4 | 9 => 9 | 24 => 52 | n => n, fun n => n⟩
theorem lays104 : Lays.n104 Tryz.prog lays104_ren := {
 mixed := by kernel_rfl,
 f104 := by kernel_rfl,
 f207 := by kernel_rfl,
 f211 := by kernel_rfl,
 t3 := Tryz.underlying3,
 a3 := Tryz.isAgg3,
 z3 := Tryz.sizeOf3,
 v3 := Tryz.zeroValue3,
 t4 := Tryz.underlying4,
 a4 := Tryz.isAgg4,
 z4 := Tryz.sizeOf4,
 v4 := Tryz.zeroValue4,
 t9 := Tryz.underlying9,
 a9 := Tryz.isAgg9,
 z9 := Tryz.sizeOf9,
 v9 := Tryz.zeroValue9,
 t24 := Tryz.underlying52,
 a24 := Tryz.isAgg52,
 z24 := Tryz.sizeOf52,
 v24 := Tryz.zeroValue52 }
def lays145_ren : Go.Shelf.Ren := ⟨fun | 145 => 22 | 217 => 114 | 219 => 94 | 220 => 65 | 224 => 116 | 225 => 115 | 266 => 142 | 267 => 117 | 314 => 143 | n => n, fun | 3 => 3 | 4 => 4 | 5 => 5 | 9 => 9 | 46 => 152 | 51 => 164 | 59 => 57 | 146 => 165 | n => n, fun | 1 => 13 | n => n⟩
theorem lays145 : Lays.n145 Tryz.prog lays145_ren := {
 mixed := by kernel_rfl,
 f145 := by kernel_rfl,
 f217 := by kernel_rfl,
 f219 := by kernel_rfl,
 f220 := by kernel_rfl,
 f224 := by kernel_rfl,
 f225 := by kernel_rfl,
 f266 := by kernel_rfl,
 f267 := by kernel_rfl,
 f314 := by kernel_rfl,
 t3 := Tryz.underlying3,
 a3 := Tryz.isAgg3,
 z3 := Tryz.sizeOf3,
 v3 := Tryz.zeroValue3,
 t4 := Tryz.underlying4,
 a4 := Tryz.isAgg4,
 z4 := Tryz.sizeOf4,
 v4 := Tryz.zeroValue4,
 t5 := Tryz.underlying5,
 a5 := Tryz.isAgg5,
 z5 := Tryz.sizeOf5,
 v5 := Tryz.zeroValue5,
 t9 := Tryz.underlying9,
 a9 := Tryz.isAgg9,
 z9 := Tryz.sizeOf9,
 v9 := Tryz.zeroValue9,
 t46 := Tryz.underlying152,
 a46 := Tryz.isAgg152,
 z46 := Tryz.sizeOf152,
 v46 := Tryz.zeroValue152,
 t51 := Tryz.underlying164,
 a51 := Tryz.isAgg164,
 z51 := Tryz.sizeOf164,
 v51 := Tryz.zeroValue164,
 t59 := Tryz.underlying57,
 a59 := Tryz.isAgg57,
 z59 := Tryz.sizeOf57,
 v59 := Tryz.zeroValue57,
 t146 := Tryz.underlying165,
 a146 := Tryz.isAgg165,
 z146 := Tryz.sizeOf165,
 v146 := Tryz.zeroValue165,
 g1 := by kernel_rfl }
def lays110_ren : Go.Shelf.Ren := ⟨fun | 109 => 69 | 110 => 30 | n => n, fun | 0 => 0 | 3 => 3 | 4 => 4 | 9 => 9 | 31 => 28 | n => n, fun n => n⟩
theorem lays110 : Lays.n110 Tryz.prog lays110_ren := {
 mixed := by kernel_rfl,
 f109 := by kernel_rfl,
 f110 := by kernel_rfl,
 t0 := Tryz.underlying0,
 a0 := Tryz.isAgg0,
 z0 := Tryz.sizeOf0,
 v0 := Tryz.zeroValue0,
 t3 := Tryz.underlying3,
 a3 := Tryz.isAgg3,
 z3 := Tryz.sizeOf3,
 v3 := Tryz.zeroValue3,
 t4 := Tryz.underlying4,
 a4 := Tryz.isAgg4,
 z4 := Tryz.sizeOf4,
 v4 := Tryz.zeroValue4,
 t9 := Tryz.underlying9,
 a9 := Tryz.isAgg9,
 z9 := Tryz.sizeOf9,
 v9 := Tryz.zeroValue9,
 t31 := Tryz.underlying28,
 a31 := Tryz.isAgg28,
 z31 := Tryz.sizeOf28,
 v31 := Tryz.zeroValue28 }
def lays193_ren : Go.Shelf.Ren := ⟨fun | 193 => 32 | n => n, fun | 0 => 0 | 3 => 3 | 4 => 4 | 9 => 9 | 31 => 28 | n => n, fun n => n⟩
theorem lays193 : Lays.n193 Tryz.prog lays193_ren := {
 mixed := by kernel_rfl,
 f193 := by kernel_rfl,
 t0 := Tryz.underlying0,
 a0 := Tryz.isAgg0,
 z0 := Tryz.sizeOf0,
 v0 := Tryz.zeroValue0,
 t3 := Tryz.underlying3,
 a3 := Tryz.isAgg3,
 z3 := Tryz.sizeOf3,
 v3 := Tryz.zeroValue3,
 t4 := Tryz.underlying4,
 a4 := Tryz.isAgg4,
 z4 := Tryz.sizeOf4,
 v4 := Tryz.zeroValue4,
 t9 := Tryz.underlying9,
 a9 := Tryz.isAgg9,
 z9 := Tryz.sizeOf9,
 v9 := Tryz.zeroValue9,
 t31 := Tryz.underlying28,
 a31 := Tryz.isAgg28,
 z31 := Tryz.sizeOf28,
 v31 := Tryz.zeroValue28 }
def lays111_ren : Go.Shelf.Ren := ⟨fun | 111 => 107 | n => n, fun | 0 => 0 | 3 => 3 | 4 => 4 | 28 => 74 | n => n, fun n => n⟩
theorem lays111 : Lays.n111 Tryz.prog lays111_ren := {
 mixed := by kernel_rfl,
 f111 := by kernel_rfl,
 t0 := Tryz.underlying0,
 a0 := Tryz.isAgg0,
 z0 := Tryz.sizeOf0,
 v0 := Tryz.zeroValue0,
 t3 := Tryz.underlying3,
 a3 := Tryz.isAgg3,
 z3 := Tryz.sizeOf3,
 v3 := Tryz.zeroValue3,
 t4 := Tryz.underlying4,
 a4 := Tryz.isAgg4,
 z4 := Tryz.sizeOf4,
 v4 := Tryz.zeroValue4,
 t28 := Tryz.underlying74,
 a28 := Tryz.isAgg74,
 z28 := Tryz.sizeOf74,
 v28 := Tryz.zeroValue74 }
theorem hasPre_walk21 (s p : ByteArray) (w : World) :
  Calls Tryz.prog 99 #[.string s, .string p] w fun e w' => e = .returned (.bool (Lib.hasPrefix s.data.toList p.data.toList)) ∧ w' = w := Any.strings_HasPrefix lays99 s p w
theorem cutPre_walk21 (s p : ByteArray) (w : World) :
  Calls Tryz.prog 96 #[.string s, .string p] w fun e w' => e = .returned (.tuple #[.string ⟨(Lib.trimPrefix s.data.toList p.data.toList).toArray⟩, .bool (Lib.hasPrefix s.data.toList p.data.toList)]) ∧ w' = w := Any.strings_CutPrefix lays103 s p w
theorem cutSuf_walk21 (s p : ByteArray) (w : World) (hs : s.size ≤ 9223372036854775807) :
  Calls Tryz.prog 18 #[.string s, .string p] w fun e w' => e = .returned (.tuple #[.string ⟨(Lib.trimSuffix s.data.toList p.data.toList).toArray⟩, .bool (Lib.hasSuffix s.data.toList p.data.toList)]) ∧ w' = w := Any.strings_CutSuffix lays104 s p w hs
theorem cutAny_walk21 (s sep : ByteArray) (m : Int) (w : World) (hs : s.size < 4294967281) (hm : w.cell? ⟨13, 0, none⟩ = some (.int .i64 m)) :
  Calls Tryz.prog 22 #[.string s, .string sep] w fun e w' => e = .returned (.tuple #[.string ⟨(Lib.cut s.data.toList sep.data.toList).1.toArray⟩, .string ⟨(Lib.cut s.data.toList sep.data.toList).2.1.toArray⟩, .bool (Lib.cut s.data.toList sep.data.toList).2.2]) ∧ ∃ n, w' = w.drewN n := Any.strings_Cut lays145 s sep m w hs hm
theorem contains_walk21 (b off n c : Nat) (zs : List ByteArray) (x : ByteArray) (w : World) (hz : n ≤ zs.length) (hbig : n ≤ 9223372036854775807) (hc : ∀ j, j < zs.length → w.cell? ⟨b, off + j, none⟩ = some (.string (zs.getD j ByteArray.empty))) :
  Calls Tryz.prog 30 #[.slice (some ⟨b, off, none⟩) n c, .string x] w fun e w' => e = .returned (.bool (Lib.containsS (zs.take n) x)) ∧ w' = w := Any.slices_Contains_string lays110 b off n c zs x w hz hbig hc
end Go.Proofs.YtgmfhldfdnnafaaGreatDoor
namespace Go.Proofs.YtgmfhldfdnnafaaGreatDoor.Pl
def digB (c : UInt8) : Bool := decide (48 ≤ c.toNat) && decide (c.toNat ≤ 57)
def val (l : List UInt8) : Nat := l.foldl (fun n c => 10 * n + (c.toNat - 48)) 0
theorem val_next (l : List UInt8) (k : Nat) (hk : k < l.length) : val (l.take (k + 1)) = 10 * val (l.take k) + (l[k].toNat - 48) := by
 rw [val, List.take_succ_eq_append_getElem hk, List.foldl_append]; rfl
theorem val_small (l : List UInt8) : (∀ c ∈ l, digB c = true) → val l < 10 ^ l.length := by
 intro h
 have key : ∀ (l : List UInt8) (n : Nat), (∀ c ∈ l, digB c = true) → l.foldl (fun n c => 10 * n + (c.toNat - 48)) n < (n + 1) * 10 ^ l.length := by
  intro l
  induction l with
  | nil => intro n _; simp
  | cons c cs ih =>
   intro n hh
   have hc := hh c (List.mem_cons_self ..)
   simp only [digB, Bool.and_eq_true, decide_eq_true_eq] at hc
   have := ih (10 * n + (c.toNat - 48)) (fun x hx => hh x (List.mem_cons_of_mem _ hx))
   simp only [List.foldl_cons, List.length_cons, Nat.pow_succ]
   refine Nat.lt_of_lt_of_le this ?_
   have h1 : 10 * n + (c.toNat - 48) + 1 ≤ (n + 1) * 10 := by omega
   calc (10 * n + (c.toNat - 48) + 1) * 10 ^ cs.length ≤ ((n + 1) * 10) * 10 ^ cs.length := Nat.mul_le_mul_right _ h1
    _ = (n + 1) * (10 ^ cs.length * 10) := by rw [Nat.mul_assoc, Nat.mul_comm 10]
 simpa [val] using key l 0 h
def numOk (l : List UInt8) : Bool := decide (1 ≤ l.length) && decide (l.length ≤ 10) && !(l.head? == some 48) && l.all digB && decide (val l ≤ 2147483648)
def numN (l : List UInt8) : Nat := if numOk l = true then val l else 0
theorem val_pos (l : List UInt8) (h0 : 1 ≤ l.length) (h : ∀ c ∈ l, digB c = true) (h1 : ¬ l.head? = some 48) : 0 < val l := by
 cases l with
 | nil => simp at h0
 | cons c cs =>
  have key : ∀ (l : List UInt8) (n : Nat), 0 < n → 0 < l.foldl (fun n c => 10 * n + (c.toNat - 48)) n := by
   intro l
   induction l with
   | nil => intro n hn; exact hn
   | cons c cs ih => intro n hn; exact ih (10 * n + (c.toNat - 48)) (by omega)
  have hc := h c (List.mem_cons_self ..)
  simp only [digB, Bool.and_eq_true, decide_eq_true_eq] at hc
  have hne : c.toNat ≠ 48 := fun e => h1 (by simp [← UInt8.toNat_inj]; exact e)
  exact key cs (10 * 0 + (c.toNat - 48)) (by omega)
theorem numN_pos (l : List UInt8) (h : numOk l = true) : numN l = val l ∧ 0 < val l ∧ val l ≤ 2147483648 := by
 have h' := h
 simp only [numOk, Bool.and_eq_true, decide_eq_true_eq, Bool.not_eq_true', beq_eq_false_iff_ne] at h'
 refine ⟨by rw [numN, if_pos h], val_pos l h'.1.1.1.1 (fun c hc => List.all_eq_true.1 h'.1.2 c hc) h'.1.1.2, h'.2⟩
theorem numN_zero (l : List UInt8) (h : numOk l = false) : numN l = 0 := by rw [numN, if_neg (by rw [h]; decide)]
theorem num_len (l : List UInt8) (h : l.length = 0 ∨ 10 < l.length) : numOk l = false := by
 cases e : numOk l with
 | false => rfl
 | true =>
  simp only [numOk, Bool.and_eq_true, decide_eq_true_eq] at e
  omega
theorem num_digit (l : List UInt8) (k : Nat) (hk : k < l.length) (h : digB l[k] = false) : numOk l = false := by
 cases e : numOk l with
 | false => rfl
 | true =>
  simp only [numOk, Bool.and_eq_true] at e
  have := List.all_eq_true.1 e.1.2 l[k] (List.getElem_mem hk)
  rw [h] at this; cases this
theorem num_zero (l : List UInt8) (h : l.head? = some 48) : numOk l = false := by simp [numOk, h]
theorem num_big (l : List UInt8) (h : 2147483648 < val l) : numOk l = false := by
 cases e : numOk l with
 | false => rfl
 | true =>
  simp only [numOk, Bool.and_eq_true, decide_eq_true_eq] at e
  omega
theorem num_yes (l : List UInt8) (h1 : 1 ≤ l.length) (h2 : l.length ≤ 10) (h3 : ¬ l.head? = some 48) (h4 : ∀ c ∈ l, digB c = true) (h5 : val l ≤ 2147483648) : numOk l = true := by
 simp only [numOk, Bool.and_eq_true, decide_eq_true_eq, Bool.not_eq_true', beq_eq_false_iff_ne]
 exact ⟨⟨⟨⟨h1, h2⟩, h3⟩, List.all_eq_true.2 h4⟩, h5⟩
def endOk (l : List UInt8) : Bool := (l == [42]) || numOk l
def endN (l : List UInt8) : Nat := if l = [42] then 0 else numN l
end Go.Proofs.YtgmfhldfdnnafaaGreatDoor.Pl
namespace Go.Proofs.YtgmfhldfdnnafaaGreatDoor.Pl
def plainB (c : UInt8) : Bool := (97 ≤ c && c ≤ 122) || (65 ≤ c && c ≤ 90) || (48 ≤ c && c ≤ 57)
def marks : List UInt8 := [33, 35, 36, 37, 38, 39, 42, 43, 45, 47, 61, 63, 94, 95, 96, 123, 124, 125, 126]
def atomB (c : UInt8) : Bool := plainB c || marks.contains c
def splitB (x : UInt8) : List UInt8 → List (List UInt8)
 | [] => [[]]
 | c :: cs => if c = x then [] :: splitB x cs else match splitB x cs with
  | h :: t => (c :: h) :: t
  | [] => [[c]]
def at_ (l : List UInt8) (i : Nat) : UInt8 := l.getD i 0
/-! domains -/
end Go.Proofs.YtgmfhldfdnnafaaGreatDoor.Pl
namespace Go.Proofs.YtgmfhldfdnnafaaGreatDoor.Pl
abbrev Bs := List UInt8
def idxB (x : UInt8) : Bs → Nat
 | [] => 0
 | c :: cs => if c = x then 0 else idxB x cs + 1
theorem idxB_le (x : UInt8) (l : Bs) : idxB x l ≤ l.length := by
 induction l with
 | nil => simp [idxB]
 | cons c cs ih => simp only [idxB]; split <;> simp <;> omega
/-! two with a dot between -/
end Go.Proofs.YtgmfhldfdnnafaaGreatDoor.Pl
namespace Go.Proofs.YtgmfhldfdnnafaaGreatDoor
open Go.RowKit
open Pl (idxB Bs)

abbrev bs (s : ByteArray) : Bs := s.data.toList
def idxI (x : UInt8) (l : Bs) : Int := if idxB x l < l.length then (idxB x l : Int) else -1
theorem idxI_lib (x : UInt8) (l : Bs) : Lib.indexByte l x = idxI x l := by
 induction l with
 | nil => rfl
 | cons c cs ih =>
  have hle := Pl.idxB_le x cs
  by_cases hc : c = x
  ·
   subst hc
   have e : idxB c (c :: cs) = 0 := by simp [idxB]
   simp [Lib.indexByte, idxI, e]
  ·
   have e : idxB x (c :: cs) = idxB x cs + 1 := by simp [idxB, hc]
   simp only [Lib.indexByte, ih, idxI, e, beq_iff_eq, hc, if_false, List.length_cons, Nat.add_lt_add_iff_right]
   by_cases h : idxB x cs < cs.length
   ·
    simp only [h, if_true]
    rw [if_neg (by omega)]
    omega
   ·
    simp only [h, if_false, if_true]

theorem indexByteLite_walk (s : ByteArray) (c : Int) (w : World) :
  Calls Tryz.prog 114 #[.string s, .int .u8 c] w fun e w' => e = .returned (.int .i64 (idxI c.toNat.toUInt8 (bs s))) ∧ w = w' := by
 go_enter Tryz.func114, Tryz.ntmps114
 go_wp2
 rw [run_callFunc_extern Tryz.func142 (by kernel_rfl) (by kernel_rfl) (by kernel_rfl) (e := Extern.BytealgIndexByte.indexByte) (by kernel_rfl), Lib.run_indexByteString]
 simp only [Result.andThen]
 rw [Oper.upon_value]
 go_wp2
 go_ret
 exact ⟨by rw [← idxI_lib]; rfl, rfl⟩

theorem indexByte_walk (s : ByteArray) (c : Int) (w : World) :
  Calls Tryz.prog 95 #[.string s, .int .u8 c] w fun e w' => e = .returned (.int .i64 (idxI c.toNat.toUInt8 (bs s))) ∧ w = w' := by
 go_enter Tryz.func95, Tryz.ntmps95
 go_wp2_with fail
 refine (indexByteLite_walk _ _ _).mono ?_
 rintro e w' ⟨rfl, rfl⟩
 go_wp2
 go_ret
 exact ⟨rfl, rfl⟩

theorem idxI_self (x : UInt8) : idxI x [x] = 0 := by simp [idxI, idxB]

theorem indexLite_walk (s : ByteArray) (x : UInt8) (w : World) :
  Calls Tryz.prog 94 #[.string s, .string ⟨#[x]⟩] w fun e w' => e = .returned (.int .i64 (idxI x (bs s))) ∧ w = w' := by
 have e1 : ((⟨#[x]⟩ : ByteArray).size : Int) = 1 := rfl
 by_cases hs : ([x] == s.toList) = true
 ·
  have e0 : idxI x (bs s) = 0 := by
   have h := (beq_iff_eq.1 hs).symm
   rw [Lib.toList_data] at h
   rw [bs, h, idxI_self]
  rw [e0]
  clear e0
  go_enter Tryz.func94, Tryz.ntmps94
  go_wp2_with fail
  go_ret
  exact ⟨rfl, rfl⟩
 ·
  have hb : ([x] == s.toList) = false := by simpa using hs
  clear hs
  go_enter Tryz.func94, Tryz.ntmps94
  go_wp2_with fail
  refine (indexByteLite_walk _ _ _).mono ?_
  rintro e w' ⟨rfl, rfl⟩
  have e2 : ((({ data := #[x] } : ByteArray)[0].toNat : Int)).toNat.toUInt8 = x := by
   show ((x.toNat : Int)).toNat.toUInt8 = x
   simp
  rw [e2]
  clear e2
  go_wp2
  go_ret
  exact ⟨rfl, rfl⟩

theorem index_walk (s : ByteArray) (x : UInt8) (w : World) :
  Calls Tryz.prog 162 #[.string s, .string ⟨#[x]⟩] w fun e w' => e = .returned (.int .i64 (idxI x (bs s))) ∧ w = w' := by
 go_enter Tryz.func162, Tryz.ntmps162
 go_wp2_with fail
 refine (indexLite_walk _ _ _).mono ?_
 rintro e w' ⟨rfl, rfl⟩
 go_wp2
 go_ret
 exact ⟨rfl, rfl⟩

/-! cut at one byte -/
def cutL (x : UInt8) (s : ByteArray) : ByteArray := s.extract 0 (idxB x (bs s))
def cutR (x : UInt8) (s : ByteArray) : ByteArray := s.extract (idxB x (bs s) + 1) s.size
def cutF (x : UInt8) (s : ByteArray) : Bool := decide (idxB x (bs s) < (bs s).length)
theorem bs_size (s : ByteArray) : (bs s).length = s.size := by simp [bs]
theorem bs_cutL (x : UInt8) (s : ByteArray) : bs (cutL x s) = (bs s).take (idxB x (bs s)) := by
 simp [bs, cutL]
theorem bs_cutR (x : UInt8) (s : ByteArray) : bs (cutR x s) = (bs s).drop (idxB x (bs s) + 1) := by
 unfold bs cutR
 rw [Lib.extract_data]
 exact List.take_of_length_le (by simp)
theorem bs_inj {s t : ByteArray} (h : bs s = bs t) : s = t := by
 obtain ⟨⟨l⟩⟩ := s
 obtain ⟨⟨m⟩⟩ := t
 simp only [bs] at h
 subst h
 rfl
theorem cutL_miss {x : UInt8} {s : ByteArray} (h : ¬ idxB x (bs s) < (bs s).length) : cutL x s = s := by
 apply bs_inj
 rw [bs_cutL, List.take_of_length_le (by have := Pl.idxB_le x (bs s); omega)]
theorem cutR_miss {x : UInt8} {s : ByteArray} (h : ¬ idxB x (bs s) < (bs s).length) : cutR x s = ⟨#[]⟩ := by
 apply bs_inj
 rw [bs_cutR, List.drop_of_length_le (by omega)]
theorem cutLite_walk (s : ByteArray) (x : UInt8) (w : World) (hs : s.size ≤ 9223372036854775807) :
  Calls Tryz.prog 65 #[.string s, .string ⟨#[x]⟩] w fun e w' => e = .returned (.tuple #[.string (cutL x s), .string (cutR x s), .bool (cutF x s)]) ∧ ∃ q, w' = w.drewN q := by
 have hle := Pl.idxB_le x (bs s)
 have hz := bs_size s
 by_cases h : idxB x (bs s) < (bs s).length
 ·
  have e0 : idxI x (bs s) = (idxB x (bs s) : Int) := by rw [idxI, if_pos h]
  have e1 : cutF x s = true := by rw [cutF]; exact decide_eq_true h
  have e2 : cutL x s = s.extract 0 (idxB x (bs s)) := rfl
  have e3 : cutR x s = s.extract (idxB x (bs s) + 1) s.size := rfl
  rw [e1, e2, e3]
  rw [hz] at hle h
  clear e1 e2 e3 hz
  generalize idxB x (bs s) = k at e0 hle h ⊢
  have E0 := Lib.hid e0
  clear e0
  go_enter Tryz.func65, Tryz.ntmps65
  go_wp2_with fail
  refine (indexLite_walk _ _ _).mono ?_
  rintro e w' ⟨rfl, rfl⟩
  rw [E0.out]
  clear E0
  have w1 : IntKind.i64.wrap ((k : Int) + 1) = (k : Int) + 1 := IntWalk.i64_in _ (by omega)
  have t1 : ((k : Int) + 1).toNat = k + 1 := by omega
  go_wp2
  go_quiet (fail)
  go_wp2
  go_ret3
  exact ⟨rfl, _, rfl⟩
 ·
  have e0 : idxI x (bs s) = -1 := by rw [idxI, if_neg h]
  have e1 : cutF x s = false := by rw [cutF]; exact decide_eq_false h
  rw [e1, cutL_miss h, cutR_miss h]
  have E0 := Lib.hid e0
  clear e0 e1 hz h hle
  go_enter Tryz.func65, Tryz.ntmps65
  go_wp2_with fail
  refine (indexLite_walk _ _ _).mono ?_
  rintro e w' ⟨rfl, rfl⟩
  rw [E0.out]
  go_wp2
  go_ret3
  exact ⟨rfl, 0, rfl⟩

theorem cut_walk (s : ByteArray) (x : UInt8) (w : World) (hs : s.size ≤ 9223372036854775807) :
  Calls Tryz.prog 22 #[.string s, .string ⟨#[x]⟩] w fun e w' => e = .returned (.tuple #[.string (cutL x s), .string (cutR x s), .bool (cutF x s)]) ∧ ∃ q, w' = w.drewN q := by
 go_enter Tryz.func22, Tryz.ntmps22
 go_wp2_with fail
 refine (cutLite_walk _ _ _ hs).mono ?_
 rintro e w' ⟨rfl, q, rfl⟩
 go_wp2
 go_ret3
 exact ⟨rfl, q, rfl⟩

/-! a prefix of one byte -/
def preF (x : UInt8) (s : ByteArray) : Bool := (bs s).head? == some x
def preR (x : UInt8) (s : ByteArray) : ByteArray := if preF x s = true then s.extract 1 s.size else s
theorem preF_raw (x : UInt8) (s : ByteArray) (h : 1 ≤ s.size) : ((s.extract 0 1).toList == [x]) = preF x s := by
 have e : (s.extract 0 1).toList = (bs s).take 1 := by rw [Lib.toList_data, Lib.extract_data]; simp [bs]
 rw [e, preF]
 have hl : 1 ≤ (bs s).length := by rw [bs_size]; exact h
 cases hb : bs s with
 | nil => rw [hb] at hl; simp at hl
 | cons c t => simp
theorem preF_small (x : UInt8) (s : ByteArray) (h : ¬ 1 ≤ s.size) : preF x s = false := by
 have hl : (bs s).length = 0 := by rw [bs_size]; omega
 rw [preF, List.eq_nil_of_length_eq_zero hl]; rfl
theorem hasPre_walk (s : ByteArray) (x : UInt8) (w : World) (hs : s.size ≤ 9223372036854775807) :
  Calls Tryz.prog 119 #[.string s, .string ⟨#[x]⟩] w fun e w' => e = .returned (.bool (preF x s)) ∧ w = w' := by
 have e1 : ((⟨#[x]⟩ : ByteArray).size : Int) = 1 := rfl
 by_cases h : 1 ≤ s.size
 ·
  have e := preF_raw x s h
  have E := Lib.hid e
  clear e
  go_enter Tryz.func119, Tryz.ntmps119
  go_wp2_with fail
  go_ret
  exact ⟨by rw [← E.out]; rfl, rfl⟩
 ·
  rw [preF_small x s h]
  go_enter Tryz.func119, Tryz.ntmps119
  go_wp2_with fail
  go_ret
  exact ⟨rfl, rfl⟩
theorem preF_pos {x : UInt8} {s : ByteArray} (h : preF x s = true) : 1 ≤ s.size := by
 by_cases h1 : 1 ≤ s.size
 ·
  exact h1
 ·
  rw [preF_small x s h1] at h; cases h
theorem bs_preR (x : UInt8) (s : ByteArray) : bs (preR x s) = if preF x s = true then (bs s).drop 1 else bs s := by
 unfold preR
 split
 ·
  unfold bs; rw [Lib.extract_data]; exact List.take_of_length_le (by simp)
 ·
  rfl
theorem cutPreLite_walk (s : ByteArray) (x : UInt8) (w : World) (hs : s.size ≤ 9223372036854775807) :
  Calls Tryz.prog 118 #[.string s, .string ⟨#[x]⟩] w fun e w' => e = .returned (.tuple #[.string (preR x s), .bool (preF x s)]) ∧ w = w' := by
 have e1 : ((⟨#[x]⟩ : ByteArray).size : Int) = 1 := rfl
 by_cases h : preF x s = true
 ·
  have h1 := preF_pos h
  have er : preR x s = s.extract 1 s.size := by rw [preR, if_pos h]
  rw [er, h]
  have H := Lib.hid h
  clear h er
  go_enter Tryz.func118, Tryz.ntmps118
  go_wp2_with fail
  refine (hasPre_walk _ _ _ hs).mono ?_
  rintro e w' ⟨rfl, rfl⟩
  rw [H.out]
  go_wp2
  go_ret2
  exact ⟨rfl, rfl⟩
 ·
  have er : preR x s = s := by rw [preR, if_neg h]
  have h : preF x s = false := by simpa using h
  rw [er, h]
  have H := Lib.hid h
  clear h er
  go_enter Tryz.func118, Tryz.ntmps118
  go_wp2_with fail
  refine (hasPre_walk _ _ _ hs).mono ?_
  rintro e w' ⟨rfl, rfl⟩
  rw [H.out]
  go_wp2
  go_ret2
  exact ⟨rfl, rfl⟩
theorem cutPre_walk (s : ByteArray) (x : UInt8) (w : World) (hs : s.size ≤ 9223372036854775807) :
  Calls Tryz.prog 96 #[.string s, .string ⟨#[x]⟩] w fun e w' => e = .returned (.tuple #[.string (preR x s), .bool (preF x s)]) ∧ w = w' := by
 go_enter Tryz.func96, Tryz.ntmps96
 go_wp2_with fail
 refine (cutPreLite_walk _ _ _ hs).mono ?_
 rintro e w' ⟨rfl, rfl⟩
 go_wp2
 go_ret2
 exact ⟨rfl, rfl⟩
open Go.RowKit Go.Shelf
open Pl (idxB Bs splitB)
attribute [local go_sem] Oper.semAt_some

structure SplitBox (pb sb zb : Nat) (x : UInt8) (s : ByteArray) (W : World) : Prop where
 sep : W.heap[pb]? = some (.cells #[.string ⟨#[x]⟩] 9 (0, 0))
 str : W.heap[sb]? = some (.cells #[.string s] 9 (0, 0))
 zero : W.heap[zb]? = some (.cells #[.int .i64 0] 3 (0, 0))

def splitWorld (w : World) (x : UInt8) (s : ByteArray) : World := ((w.alloc (.cells #[.string s] 9)).alloc (.cells #[.string ⟨#[x]⟩] 9)).alloc (.cells #[.int .i64 0] 3)
abbrev splitFn (w : World) : Value := .func (.func 160) #[] #[.pointer (some ⟨w.heap.size + 1, 0, none⟩), .pointer (some ⟨w.heap.size, 0, none⟩), .pointer (some ⟨w.heap.size + 2, 0, none⟩)]

theorem splitSeq_walk (s : ByteArray) (x : UInt8) (w : World) :
  Calls Tryz.prog 130 #[.string s, .string ⟨#[x]⟩] w fun e w' => e = .returned (splitFn w) ∧ w' = splitWorld w x s := by
 go_enter Tryz.func130, Tryz.ntmps130
 go_wp2
 go_ret
 exact ⟨rfl, rfl⟩

theorem splitB_hit (x : UInt8) (l : Bs) (h : idxB x l < l.length) : splitB x l = l.take (idxB x l) :: splitB x (l.drop (idxB x l + 1)) := by
 induction l with
 | nil => simp at h
 | cons c cs ih =>
  by_cases hc : c = x
  ·
   have e : idxB x (c :: cs) = 0 := by simp [idxB, hc]
   rw [e]; simp [splitB, hc]
  ·
   have e : idxB x (c :: cs) = idxB x cs + 1 := by simp [idxB, hc]
   rw [e] at h ⊢
   have := ih (by simpa using h)
   simp only [splitB, if_neg hc, this, List.take_succ_cons, List.drop_succ_cons]
theorem splitB_miss (x : UInt8) (l : Bs) (h : ¬ idxB x l < l.length) : splitB x l = [l] := by
 induction l with
 | nil => rfl
 | cons c cs ih =>
  by_cases hc : c = x
  ·
   exact absurd (by simp [idxB, hc]) h
  ·
   have e : idxB x (c :: cs) = idxB x cs + 1 := by simp [idxB, hc]
   rw [e] at h
   have := ih (by simpa using h)
   simp only [splitB, if_neg hc, this]

noncomputable def leftOf (sb : Nat) (W : World) : Nat := match W.cell? ⟨sb, 0, none⟩ with
 | some (.string s) => s.size
 | _ => 0

theorem setCell_other {W : World} {b : Nat} {o : Obj} (h : W.heap[b]? = some o) {a : Addr} (u : Value) (hne : b ≠ a.block) : (W.setCell a u).heap[b]? = some o :=
 (Below.heap_setCell W a u b hne).trans h
theorem SplitBox.step {pb sb zb : Nat} {x : UInt8} {s : ByteArray} {W : World} (h : SplitBox pb sb zb x s W) (hp : pb ≠ sb) (hz : zb ≠ sb) (s' : ByteArray) : SplitBox pb sb zb x s' (W.setCell ⟨sb, 0, none⟩ (.string s')) :=
 ⟨setCell_other h.sep _ hp, one_setCell h.str, setCell_other h.zero _ hz⟩
theorem leftOf_box {pb sb zb : Nat} {x : UInt8} {s : ByteArray} {W : World} (h : SplitBox pb sb zb x s W) : leftOf sb W = s.size := by
 unfold leftOf; rw [cell_of_one h.str]

theorem split_iter (n : Nat) (l pb sb zb : Nat) (x : UInt8) (s0 : ByteArray) (J Jx : List Bs → World → Prop) (W : World) (hp : pb ≠ sb) (hz : zb ≠ sb) (hs0 : s0.size ≤ 140737488351232)
  (hJ : ∀ pre W v, J pre W → J pre (W.setCell ⟨sb, 0, none⟩ v))
  (hY : ∀ pre (p : ByteArray) s W1, J pre W1 → SplitBox pb sb zb x s W1 → p.size ≤ s0.size → YieldAt Fence.wide (n - 1) Tryz.prog l #[.string p] W1 fun e W' =>
   (e = .returned (.bool true) ∧ J (pre ++ [bs p]) W' ∧ SplitBox pb sb zb x s W') ∨ (e = .returned (.bool false) ∧ Jx (pre ++ [bs p]) W'))
  (hB : SplitBox pb sb zb x s0 W) (h0 : J [] W) :
  CallsIn Fence.wide n Tryz.prog 160 #[.func (.yield l) #[] #[], .pointer (some ⟨pb, 0, none⟩), .pointer (some ⟨sb, 0, none⟩), .pointer (some ⟨zb, 0, none⟩)] W fun e W' =>
   (∃ v, e = .returned v) ∧ (J (splitB x (bs s0)) W' ∨ ∃ pre, pre <+: splitB x (bs s0) ∧ Jx pre W') := by
 refine callsIn_of_wp Tryz.func160 rfl trivial ?_ rfl
 simp only [Tryz.ntmps160, List.size_toArray, List.length_cons, List.length_nil, Nat.reduceAdd, Nat.reduceSub, Array.replicate_succ, Array.replicate_zero, List.push_toArray, List.append_toArray, List.nil_append, List.cons_append]
 have c1 := cell_of_one hB.sep
 have HB0 := Lib.hid hB
 have H0 := Lib.hid h0
 have HY := Lib.hid hY
 have HJ := Lib.hid hJ
 clear hB h0 hY hJ
 gi_wp2
 gi_loopw [7] (fun _ wr => ∃ (pre : List Bs) (s : ByteArray), Hid (splitB x (bs s0) = pre ++ splitB x (bs s)) ∧ s.size ≤ s0.size ∧ Hid (J pre wr) ∧ Hid (SplitBox pb sb zb x s wr)) (fun _ wr => leftOf sb wr)
 case atStart => exact ⟨[], s0, Lib.hid rfl, Nat.le_refl _, H0, HB0⟩
 case round =>
  obtain ⟨pre, s, HS, hsz, HJ1, HB1⟩ := hrel
  have k1 := cell_of_one HB1.out.sep
  have k2 := cell_of_one HB1.out.str
  have k3 := cell_of_one HB1.out.zero
  have k4 := free_of_one HB1.out.str
  have hle := Pl.idxB_le x (bs s)
  rw [bs_size] at hle
  by_cases hh : idxB x (bs s) < (bs s).length
  ·
   have e0 : idxI x (bs s) = (idxB x (bs s) : Int) := by rw [idxI, if_pos hh]
   have hs1 := splitB_hit x (bs s) hh
   rw [bs_size] at hh
   have hx1 : bs (s.extract 0 (idxB x (bs s))) = (bs s).take (idxB x (bs s)) := bs_cutL x s
   have hx2 : bs (s.extract (idxB x (bs s) + 1) s.size) = (bs s).drop (idxB x (bs s) + 1) := bs_cutR x s
   have E0 := Lib.hid e0
   have HS1 := Lib.hid hs1
   have HX1 := Lib.hid hx1
   have HX2 := Lib.hid hx2
   clear e0 hs1 hx1 hx2
   generalize idxB x (bs s) = k at *
   obtain ⟨fn, tmps, assign, body, hy, hR⟩ := HY.out pre (s.extract 0 k) s wr HJ1.out HB1.out (by simp; omega)
   gi_wp2_with fail
   refine ⟨trivial, fun h => (by cases h), ?_⟩
   refine (callsIn_wide.2 (index_walk _ _ _)).mono ?_
   rintro e w' ⟨rfl, rfl⟩
   rw [E0.out]
   gi_wp2_with fail
   refine ⟨fun h => (by cases h), ?_⟩
   refine hR.mono ?_
   rintro e W3 (⟨rfl, hJ3, hB3⟩ | ⟨rfl, hJx3⟩)
   ·
    clear k1 k2 k3 k4 hy hR
    have k1 := cell_of_one hB3.sep
    have k2 := cell_of_one hB3.str
    have k3 := cell_of_one hB3.zero
    have k4 := free_of_one hB3.str
    have HJ3 := Lib.hid hJ3
    have HB3 := Lib.hid hB3
    clear hJ3 hB3
    have hne : k + 1 ≤ s.size := by omega
    gi_wp2
    go_roundw
    case rel =>
     refine ⟨pre ++ [bs (s.extract 0 k)], s.extract (k + 1) s.size, Lib.hid ?_, ?_, Lib.hid (HJ.out _ _ _ HJ3.out), Lib.hid (HB3.out.step hp hz _)⟩
     ·
      rw [HS.out, HS1.out, HX1.out, HX2.out]; simp
     ·
      simp; omega
    case measure =>
     rw [leftOf_box (HB3.out.step hp hz _), leftOf_box HB1.out]
     simp; omega
   ·
    gi_wp2
    refine bodyPost_ret (results_none rfl _ _ _) rfl ?_
    refine ⟨⟨_, rfl⟩, .inr ⟨pre ++ [bs (s.extract 0 k)], ?_, hJx3⟩⟩
    rw [HS.out, HS1.out, HX1.out]
    exact ⟨splitB x ((bs s).drop (k + 1)), by simp⟩
  ·
   have e0 : idxI x (bs s) = -1 := by rw [idxI, if_neg hh]
   have hs1 := splitB_miss x (bs s) hh
   have E0 := Lib.hid e0
   have HS1 := Lib.hid hs1
   clear e0 hs1 hh hle
   obtain ⟨fn, tmps, assign, body, hy, hR⟩ := HY.out pre s s wr HJ1.out HB1.out hsz
   gi_wp2_with fail
   refine ⟨trivial, fun h => (by cases h), ?_⟩
   refine (callsIn_wide.2 (index_walk _ _ _)).mono ?_
   rintro e w' ⟨rfl, rfl⟩
   rw [E0.out]
   gi_wp2_with fail
   refine ⟨fun h => (by cases h), ?_⟩
   refine hR.mono ?_
   rintro e W3 (⟨rfl, hJ3, hB3⟩ | ⟨rfl, hJx3⟩)
   ·
    have HJ3 := Lib.hid hJ3
    clear hJ3 hB3 k1 k2 k3 k4 hy hR
    gi_wp2
    go_end0
    refine ⟨⟨_, rfl⟩, .inl ?_⟩
    rw [HS.out, HS1.out]
    exact HJ3.out
   ·
    clear k1 k2 k3 k4 hy hR
    have HJ3 := Lib.hid hJx3
    clear hJx3
    gi_wp2
    go_end0
    refine ⟨⟨_, rfl⟩, .inr ⟨pre ++ [bs s], ?_, HJ3.out⟩⟩
    rw [HS.out, HS1.out]
    exact List.prefix_refl _
open Go.RowKit Go.Shelf
open Pl (idxB Bs splitB)

def Stay (T : Nat → Prop) (W W' : World) : Prop := ∀ k o, T k → W.heap[k]? = some o → W'.heap[k]? = some o
theorem Stay.refl (T : Nat → Prop) (W : World) : Stay T W W := fun _ _ _ h => h
theorem Stay.trans {T : Nat → Prop} {A B C : World} (h : Stay T A B) (k : Stay T B C) : Stay T A C := fun i o hi ho => k i o hi (h i o hi ho)
theorem Stay.alloc (T : Nat → Prop) (W : World) (o : Obj) : Stay T W (W.alloc o) := fun _ _ _ h => (Below.heap_alloc W o _ (Array.getElem?_eq_some_iff.1 h).1).trans h
theorem Stay.drewN (T : Nat → Prop) (W : World) (q : Nat) : Stay T W (W.drewN q) := fun _ _ _ h => h
theorem Stay.setCell {T : Nat → Prop} (W : World) {a : Addr} (u : Value) (h : ¬ T a.block) : Stay T W (W.setCell a u) := fun _ _ hk ho => setCell_other ho u (fun e => h (e ▸ hk))
theorem Stay.below {T : Nat → Prop} {W W' : World} (h : Below W.heap.size W W') : Stay T W W' := fun k _ _ ho => (h.block k (Array.getElem?_eq_some_iff.1 ho).1).trans ho

def splitT (pb sb zb D : Nat) (k : Nat) : Prop := k = pb ∨ k = sb ∨ k = zb ∨ k = D ∨ k = D + 1
theorem SplitBox.stay {pb sb zb D : Nat} {x : UInt8} {s : ByteArray} {W W' : World} (h : SplitBox pb sb zb x s W) (k : Stay (splitT pb sb zb D) W W') : SplitBox pb sb zb x s W' :=
 ⟨k _ _ (.inl rfl) h.sep, k _ _ (.inr (.inl rfl)) h.str, k _ _ (.inr (.inr (.inl rfl))) h.zero⟩
theorem SplitBox.put {pb sb zb : Nat} {x : UInt8} {s : ByteArray} {W : World} (h : SplitBox pb sb zb x s W) {l : Nat} (o : Obj) (h1 : pb ≠ l) (h2 : sb ≠ l) (h3 : zb ≠ l) : SplitBox pb sb zb x s (W.putObj l o) :=
 ⟨(World.putObj_heap_other h1).trans h.sep, (World.putObj_heap_other h2).trans h.str, (World.putObj_heap_other h3).trans h.zero⟩
def splitPost (T : Nat → Prop) (I : List Bs → World → Prop) (Ix : Code → List Bs → World → Prop) (pre : List Bs) (W : World) : Exit → Act → World → Prop
 | .normal, _, W' => Stay T W W' ∧ I pre W'
 | .ret, _, W' => Stay T W W' ∧ Ix .ret pre W'
 | .exit id, _, W' => Stay T W W' ∧ Ix (.exit id) pre W'
 | .goto t, _, W' => Stay T W W' ∧ Ix (.goto t) pre W'
 | .panic _, _, _ => False
 | .outgrown, _, _ => False

theorem wpIn_split (n : Nat) {g : Operand} {ps : Array Tmp} {assign body : Code} {Q : Exit → Act → World → Prop} {a : Act} {w : World} {pb sb zb : Nat} {x : UInt8} {s0 : ByteArray}
  (hg : a.eval g = .func (.func 160) #[] #[.pointer (some ⟨pb, 0, none⟩), .pointer (some ⟨sb, 0, none⟩), .pointer (some ⟨zb, 0, none⟩)]) (hps : ps.size = 1)
  (hp : pb ≠ sb) (hz : zb ≠ sb) (hs0 : s0.size ≤ 140737488351232) (hB : SplitBox pb sb zb x s0 w)
  (I : List Bs → World → Prop) (Ix : Code → List Bs → World → Prop)
  (hIs : ∀ pre W v, I pre W → I pre (W.setCell ⟨sb, 0, none⟩ v)) (hIl : ∀ pre W o, w.heap.size < W.heap.size → I pre W → I pre (W.putObj (w.heap.size + 1) o)) (hIxl : ∀ c pre W o, w.heap.size < W.heap.size → Ix c pre W → Ix c pre (W.putObj (w.heap.size + 1) o))
  (h0 : ∀ o, I [] ((w.alloc (.deferred (some []))).alloc o)) (a₁ : ByteArray → Act)
  (hassign : ∀ (l : Nat) (p : ByteArray) (W : World) (K : Act → World → Prop), K (a₁ p) W →
   assign.wpIn (Fence.wide.inRound l) (n - 1 - 1) Tryz.prog (Exit.then K (fun _ _ _ => False)) { tmps := (ps.zip #[.string p]).foldl (fun t (q, v) => t.setIfInBounds q v) a.tmps, defers := [] } W)
  (hbody : ∀ (l : Nat) (pre : List Bs) (p s : ByteArray) (W : World), I pre W → SplitBox pb sb zb x s W → p.size ≤ s0.size → w.heap.size + 1 < W.heap.size →
   body.wpIn (Fence.wide.inRound l) (n - 1 - 1) Tryz.prog (splitPost (splitT pb sb zb w.heap.size) I Ix (pre ++ [bs p]) W) (a₁ p) W)
  (hdone : ∀ W, I (splitB x (bs s0)) W → W.heap[w.heap.size]? = some (.deferred (some [])) → Q .normal { a with defers := { target := .collected w.heap.size, args := #[] } :: a.defers } W)
  (hstop : ∀ c pre W, pre <+: splitB x (bs s0) → Ix c pre W → W.heap[w.heap.size]? = some (.deferred (some [])) → c.wpIn Fence.wide n Tryz.prog Q { a with defers := { target := .collected w.heap.size, args := #[] } :: a.defers } W) :
  (Code.rangeFunc g ps assign body).wpIn Fence.wide n Tryz.prog Q a w := by
 refine wpIn_rangeFunc ?_
 intro fn hfn
 obtain ⟨rec, hrec⟩ : ∃ rec : LoopState → Option Code → Loop, rec = fun st pe => { state := st, pending := pe, fn, tmps := a.tmps, params := ps, assign, body, defers := w.heap.size } := ⟨_, rfl⟩
 obtain ⟨W1, hW1⟩ : ∃ W1, (w.alloc (.deferred (some []))).alloc (.loop (rec .ready none)) = W1 := ⟨_, rfl⟩
 have lt1 := (Array.getElem?_eq_some_iff.1 hB.sep).1
 have lt2 := (Array.getElem?_eq_some_iff.1 hB.str).1
 have lt3 := (Array.getElem?_eq_some_iff.1 hB.zero).1
 have hL1 : W1.heap[w.heap.size + 1]? = some (.loop (rec .ready none)) := by
  rw [← hW1]; have := World.alloc_heap_new (w.alloc (.deferred (some []))) (.loop (rec .ready none)); rwa [World.size_alloc] at this
 have hK1 : W1.heap[w.heap.size]? = some (.deferred (some [])) := by
  rw [← hW1]; exact (Below.heap_alloc _ _ _ (by simp)).trans (World.alloc_heap_new w _)
 have hB1 : SplitBox pb sb zb x s0 W1 := by
  rw [← hW1]
  have hst : Stay (fun _ => True) w ((w.alloc (.deferred (some []))).alloc (.loop (rec .ready none))) := (Stay.alloc _ _ _).trans (Stay.alloc _ _ _)
  exact ⟨hst _ _ trivial hB.sep, hst _ _ trivial hB.str, hst _ _ trivial hB.zero⟩
 have hI1 : I [] W1 := by rw [← hW1]; exact h0 _
 refine ⟨w.heap.size + 1, [{ target := .collected w.heap.size, args := #[] }], W1, { target := .fn (.func 160) #[.pointer (some ⟨pb, 0, none⟩), .pointer (some ⟨sb, 0, none⟩), .pointer (some ⟨zb, 0, none⟩)], args := #[.func (.yield (w.heap.size + 1)) #[] #[]] }, W1, 160,
  #[.func (.yield (w.heap.size + 1)) #[] #[], .pointer (some ⟨pb, 0, none⟩), .pointer (some ⟨sb, 0, none⟩), .pointer (some ⟨zb, 0, none⟩)], W1, ?_, ?_, ?_, ?_, fun h => (by cases h), ?_⟩
 ·
  rw [← hW1, hrec]; exact run_enterLoop_outer _ _ _ _ _
 ·
  simp only [resolve, hg]
  simp [go_sem]
 ·
  intro f' _; trivial
 ·
  simp [invoke, go_sem]
 ·
  refine (split_iter (n - 1) (w.heap.size + 1) pb sb zb x s0
   (fun pre W => I pre W ∧ W.heap[w.heap.size + 1]? = some (.loop (rec .ready none)) ∧ W.heap[w.heap.size]? = some (.deferred (some [])))
   (fun pre W => ∃ c, Ix c pre W ∧ W.heap[w.heap.size + 1]? = some (.loop (rec .done (some c))) ∧ W.heap[w.heap.size]? = some (.deferred (some [])))
   W1 hp hz hs0
   (fun pre W v h => ⟨hIs _ _ _ h.1, setCell_other h.2.1 _ (by simp; omega), setCell_other h.2.2 _ (by simp; omega)⟩)
   ?_ hB1 ⟨hI1, hL1, hK1⟩).mono ?_
  ·
   -- ONE ROUND
   rintro pre p s W ⟨hi, hl, hk⟩ hBx hpz
   have hlt : w.heap.size + 1 < W.heap.size := (Array.getElem?_eq_some_iff.1 hl).1
   have hy := run_yield (P := Tryz.prog) (args := #[.string p]) hl (by rw [hrec]; simpa using hps.symm)
   rw [hrec] at hy
   refine ⟨fn, _, assign, body, hy, roundIn_of_wpIn hfn (hassign _ p W _ ⟨_, run_beginRound hl (by rw [hrec]), ?_⟩)⟩
   have hl2 : (W.putObj (w.heap.size + 1) (.loop { rec .ready none with state := .busy })).heap[w.heap.size + 1]? = some (.loop { rec .ready none with state := .busy }) := World.putObj_heap_same hlt
   have hk2 : (W.putObj (w.heap.size + 1) (.loop { rec .ready none with state := .busy })).heap[w.heap.size]? = some (.deferred (some [])) := (World.putObj_heap_other (by omega)).trans hk
   have hB2 : SplitBox pb sb zb x s (W.putObj (w.heap.size + 1) (.loop { rec .ready none with state := .busy })) := hBx.put _ (by omega) (by omega) (by omega)
   refine wpIn_mono (hbody _ pre p s _ (hIl _ _ _ (by omega) hi) hB2 hpz (by rw [World.putObj_size]; exact hlt)) ?_
   have fin : ∀ (jump : Option Code) (W3 : World), Stay (splitT pb sb zb w.heap.size) (W.putObj (w.heap.size + 1) (.loop { rec .ready none with state := .busy })) W3 →
     (Instr.endRound (w.heap.size + 1) jump).run Tryz.prog W3 = .ok (.bool jump.isNone) (W3.putObj (w.heap.size + 1) (.loop (rec (if jump.isNone then .ready else .done) jump))) ∧
     w.heap.size < W3.heap.size ∧
     (W3.putObj (w.heap.size + 1) (.loop (rec (if jump.isNone then .ready else .done) jump))).heap[w.heap.size + 1]? = some (.loop (rec (if jump.isNone then .ready else .done) jump)) ∧
     (W3.putObj (w.heap.size + 1) (.loop (rec (if jump.isNone then .ready else .done) jump))).heap[w.heap.size]? = some (.deferred (some [])) ∧
     SplitBox pb sb zb x s (W3.putObj (w.heap.size + 1) (.loop (rec (if jump.isNone then .ready else .done) jump))) := fun jump W3 hk3 => by
    have hl3 := hk3 _ _ (.inr (.inr (.inr (.inr rfl)))) hl2
    have hd3 := hk3 _ _ (.inr (.inr (.inr (.inl rfl)))) hk2
    have := run_endRound (P := Tryz.prog) jump hl3
    rw [hrec] at this ⊢
    exact ⟨this, by have := (Array.getElem?_eq_some_iff.1 hl3).1; omega, World.putObj_heap_same (Array.getElem?_eq_some_iff.1 hl3).1, (World.putObj_heap_other (by omega)).trans hd3, (hB2.stay hk3).put _ (by omega) (by omega) (by omega)⟩
   rintro e a3 W3 hpost
   cases e with
   | normal =>
    obtain ⟨hk3, hi3⟩ := hpost
    obtain ⟨hr, hz3, hl4, hk4, hB4⟩ := fin none W3 hk3
    exact ⟨_, _, hr, .inl ⟨rfl, ⟨hIl _ _ _ hz3 hi3, hl4, hk4⟩, hB4⟩⟩
   | ret =>
    obtain ⟨hk3, hi3⟩ := hpost
    obtain ⟨hr, hz3, hl4, hk4, _⟩ := fin (some .ret) W3 hk3
    exact ⟨_, _, hr, .inr ⟨rfl, .ret, hIxl _ _ _ _ hz3 hi3, hl4, hk4⟩⟩
   | exit id =>
    obtain ⟨hk3, hi3⟩ := hpost
    obtain ⟨hr, hz3, hl4, hk4, _⟩ := fin (some (.exit id)) W3 hk3
    exact ⟨_, _, hr, .inr ⟨rfl, .exit id, hIxl _ _ _ _ hz3 hi3, hl4, hk4⟩⟩
   | goto t =>
    obtain ⟨hk3, hi3⟩ := hpost
    obtain ⟨hr, hz3, hl4, hk4, _⟩ := fin (some (.goto t)) W3 hk3
    exact ⟨_, _, hr, .inr ⟨rfl, .goto t, hIxl _ _ _ _ hz3 hi3, hl4, hk4⟩⟩
   | panic ch => exact hpost.elim
   | outgrown => exact hpost.elim
  ·
   -- BEHIND THE ITERATOR
   rintro e W2 ⟨⟨v, rfl⟩, (⟨hi, hl, hk⟩ | ⟨pre, hpre, c, hi, hl, hk⟩)⟩
   ·
    exact ⟨none, _, by have := run_endLoop (P := Tryz.prog) hl (by rw [hrec]; simp); rw [hrec] at this; exact this, hdone _ (hIl _ _ _ (Array.getElem?_eq_some_iff.1 hk).1 hi) ((World.putObj_heap_other (by omega)).trans hk)⟩
   ·
    exact ⟨some c, _, by have := run_endLoop (P := Tryz.prog) hl (by rw [hrec]; simp); rw [hrec] at this; exact this, hstop c pre _ hpre (hIxl _ _ _ _ (Array.getElem?_eq_some_iff.1 hk).1 hi) ((World.putObj_heap_other (by omega)).trans hk)⟩
open Go.RowKit
theorem own_base {w : World} {base : Nat} {e : TypeId} {size n : Nat} {v : Value} {xs : List Value} (h : w.ownsRow base e size v n xs) : ∀ k, v.ownBlock = some k → base ≤ k := by
 intro k hk
 rcases h.2 with ⟨rfl, _⟩ | ⟨g, cap, cur, rfl, hb, _⟩
 ·
  cases hk
 ·
  have : g = k := by simpa [Value.ownBlock] using hk
  omega
theorem below_append {w wr w1 : World} {base base' : Nat} {e : TypeId} {size n : Nat} {v : Value} {xs : List Value} {W2 : World} (hB : Below base w wr) (hg : wr.grownBy w1 v.ownBlock) (hown : W2.ownsRow base' e size v n xs) (hbb : base ≤ base') (hs : base ≤ wr.heap.size) : Below base w w1 :=
 hB.grown hg hs (fun k hk => Nat.le_trans hbb (own_base hown k hk))
theorem add_at (g j : Nat) : (⟨g, 0, none⟩ : Addr).add j = ⟨g, j, none⟩ := by
 unfold Addr.add; split <;> simp_all
theorem below_then {w W1 W2 : World} (h : Below w.heap.size w W1) (k : Below W1.heap.size W1 W2) : Below w.heap.size w W2 := h.trans (k.mono h.size)
theorem own_below {w w1 : World} {base : Nat} {e : TypeId} {size n : Nat} {v : Value} {xs : List Value} (h : w.ownsRow base e size v n xs) (hb : Below w.heap.size w w1) : w1.ownsRow base e size v n xs :=
 h.kept (row := none) ⟨hb.os, hb.tape, hb.output, hb.size, fun i hi _ => hb.block i hi⟩ (by cases v.ownBlock <;> simp)
theorem below_draws {B : Nat} {w W : World} (h : Below B w W) (q : Nat) : Below B w (W.drewN q) := ⟨h.os, h.tape, h.output, h.size, h.block⟩
open Go.RowKit
def RangesAt (w : World) (A : Option Addr) (n : Nat) (xs : List (Int × Int)) : Prop :=
 xs.length = n ∧ n ≤ 9223372036854775807 ∧ (0 < n → ∃ g o, A = some ⟨g, o, none⟩ ∧ g < w.heap.size ∧ ∀ j, j < n → w.cell? ⟨g, o + j * 2, none⟩ = some (.int .i64 (xs.getD j (0, 0)).1) ∧ w.cell? ⟨g, o + j * 2 + 1, none⟩ = some (.int .i64 (xs.getD j (0, 0)).2))
theorem RangesAt.then {w w1 : World} {A : Option Addr} {n : Nat} {xs : List (Int × Int)} (h : RangesAt w A n xs) (hb : Below w.heap.size w w1) : RangesAt w1 A n xs := by
 refine ⟨h.1, h.2.1, fun hp => ?_⟩
 obtain ⟨g, o, rfl, hg, hc⟩ := h.2.2 hp
 exact ⟨g, o, rfl, Nat.lt_of_lt_of_le hg hb.size, fun j hj => ⟨(hb.cell (p := ⟨g, _, none⟩) hg).trans (hc j hj).1, (hb.cell (p := ⟨g, _, none⟩) hg).trans (hc j hj).2⟩⟩
theorem two_cells {w : World} {b : Nat} {t : TypeId} {x y : Value} (h : w.heap[b]? = some (Obj.cells #[x, y] t)) :
  w.cell? ⟨b, 0, none⟩ = some x ∧ w.cell? ⟨b, 1, none⟩ = some y ∧ w.frozen? ⟨b, 0, none⟩ = false ∧ w.frozen? ⟨b, 1, none⟩ = false := by
 refine ⟨?_, ?_, ?_, ?_⟩
 ·
  simp [World.cell?, h]
 ·
  simp [World.cell?, h]
 ·
  simp [World.frozen?, h]
 ·
  simp [World.frozen?, h]
open Go.RowKit
open Pl (Bs digB val val_next val_small numOk numN numN_pos numN_zero num_len num_digit num_zero num_big num_yes endOk endN)
theorem below_drew {B : Nat} {w W : World} (h : Below B w W) : Below B w W.drew := ⟨h.os, h.tape, h.output, h.size, h.block⟩
theorem sent_then {w w1 : World} {g : Nat} {v : Value} (h : w.cell? ⟨g, 0, none⟩ = some v) (hb : Below w.heap.size w w1) : w1.cell? ⟨g, 0, none⟩ = some v := (hb.cell (p := ⟨g, 0, none⟩) (World.block_lt_of_cell? w _ h)).trans h
theorem bytes_laid (w : World) (s : ByteArray) : ∃ (w1 : World) (cap : Nat), (convert 9 46 (.string s)).run Tryz.prog w = .ok (.slice (some ⟨w.heap.size, 0, none⟩) s.size cap) w1 ∧ Below w.heap.size w w1 ∧ ∀ j (hj : j < s.size), w1.cell? ⟨w.heap.size, j, none⟩ = some (.int .u8 (s[j].toNat : Int)) := by
 refine ⟨_, _, run_bytes_of_string w _ _ 5 s Tryz.underlying9 Tryz.underlying46 Tryz.underlying5, ?_, ?_⟩
 ·
  exact (below_drew (Below.refl _ _)).alloc (Nat.le_refl _) _
 ·
  intro j hj
  exact (World.cell?_alloc_mark w.drew _ _ _ j).trans (bytesRow_at s _ j hj)
theorem at_bs (s : ByteArray) (k : Nat) (h : k < s.size) : (bs s)[k]'(by rw [bs_size]; exact h) = s[k] := by simp [bs]; rfl
theorem head_bs (s : ByteArray) (h : 0 < s.size) : (bs s).head? = some s[0] := by
 rw [← at_bs s 0 h]
 exact List.head?_eq_getElem? .. |>.trans (List.getElem?_eq_getElem _)
theorem byte_eq (c : UInt8) (n : Nat) (hn : n < 256) : (c = n.toUInt8) ↔ ((c.toNat : Int) = (n : Int)) := by
 have e : (Nat.toUInt8 n).toNat = n := by simp [Nat.toUInt8, UInt8.toNat_ofNat']; omega
 rw [← UInt8.toNat_inj, e]; omega
theorem size_zero {s : ByteArray} (h : s.size = 0) : s = ⟨#[]⟩ := bs_inj (List.eq_nil_of_length_eq_zero (by rw [bs_size]; exact h))
def numV (l : Bs) (v : Value) : Value := .tuple #[.int .i64 (numN l), if numOk l = true then .nilIface else v]
theorem numV_no {l : Bs} (h : numOk l = false) (v : Value) : numV l v = .tuple #[.int .i64 0, v] := by rw [numV, numN_zero l h, h]; rfl
theorem number_walk (s : ByteArray) (v : Value) (w : World) (hs : s.size ≤ 140737488351232) (hc : w.cell? ⟨0, 0, none⟩ = some v) (hv : ∃ t x, v = .iface t x) :
  Calls Tryz.prog 63 #[.string s] w fun e w' => e = .returned (numV (bs s) v) ∧ Below w.heap.size w w' := by
 obtain ⟨w1, cap, hcv, hB, hb⟩ := bytes_laid w s
 have hc1 := sent_then hc hB
 have HB := Lib.hid hB
 have HBs := Lib.hid hb
 clear hB hb hc
 obtain ⟨ty, x, rfl⟩ := hv
 by_cases z0 : s.size = 0
 ·
  obtain rfl := size_zero z0
  have HV := Lib.hid (numV_no (num_len (bs ⟨#[]⟩) (.inl rfl)) (.iface ty x))
  clear z0
  go_enter Tryz.func63, Tryz.ntmps63
  go_wp2
  refine wp_loop_rounds 1 ?_
  rw [rounds_succ]
  go_wp2
  go_quiet (fail)
  go_wp2
  go_ret2
  exact ⟨by rw [HV.out]; rfl, below_draws HB.out _⟩
 ·
  by_cases z1 : 10 < s.size
  ·
   have HV := Lib.hid (numV_no (num_len (bs s) (.inr (by rw [bs_size]; exact z1))) (.iface ty x))
   have c0 := HBs.out 0 (by omega)
   go_enter Tryz.func63, Tryz.ntmps63
   go_wp2
   refine wp_loop_rounds 1 ?_
   rw [rounds_succ]
   go_wp2
   all_goals
    go_quiet (fail)
    go_wp2
    go_ret2
    exact ⟨by rw [HV.out]; rfl, below_draws HB.out _⟩
  ·
   have zl : (bs s).length = s.size := bs_size s
   go_enter Tryz.func63, Tryz.ntmps63
   go_wp2
   go_loop [4, 10] (fun n i => ∃ k : Nat, k ≤ s.size ∧ i = .int .i64 k ∧ n = .int .i64 (val ((bs s).take k)) ∧ Hid (∀ c ∈ (bs s).take k, digB c = true)) (fun _ i => s.size - (intOf i).toNat)
   case atStart => exact ⟨0, Nat.zero_le _, rfl, rfl, Lib.hid (fun c h => by simp at h)⟩
   case round =>
    obtain ⟨k, hk, rfl, rfl, HA⟩ := hrel
    have hN : val ((bs s).take k) ≤ 9999999999 := by
     have h1 := val_small _ HA.out
     have h2 : 10 ^ ((bs s).take k).length ≤ 10 ^ 10 := Nat.pow_le_pow_right (by decide) (by rw [List.length_take]; omega)
     have h3 : (10 : Nat) ^ 10 = 10000000000 := by decide
     omega
    by_cases hlt : k < s.size
    ·
     have c0 := HBs.out k hlt
     have hat := at_bs s k hlt
     by_cases hd : digB s[k] = true
     ·
      have hd' := hd
      simp only [digB, Bool.and_eq_true, decide_eq_true_eq] at hd'
      obtain ⟨d1, d2⟩ := hd'
      have hv := val_next (bs s) k (by omega)
      rw [hat] at hv
      have HN := Lib.hid (show ∀ c ∈ (bs s).take (k + 1), digB c = true from fun c hc => by
       rw [List.take_succ_eq_append_getElem (by omega), List.mem_append] at hc
       rcases hc with hc | hc
       ·
        exact HA.out c hc
       ·
        rw [List.mem_singleton.1 hc, hat]; exact hd)
      generalize val ((bs s).take k) = N at *
      have hv' : (val ((bs s).take (k + 1)) : Int) = 10 * (N : Int) + ((s[k].toNat : Int) - 48) := by omega
      have HV := Lib.hid hv'
      clear hv hd hat hv'
      have b1 : (48 : Int) ≤ (s[k].toNat : Int) := by omega
      have b2 : (s[k].toNat : Int) ≤ 57 := by omega
      generalize (s[k].toNat : Int) = C at *
      go_wp2
      go_round
      case rel => exact ⟨k + 1, by omega, by go_num, by rw [HV.out], HN⟩
      case measure => simp [intOf]; omega
     ·
      have HV := Lib.hid (numV_no (num_digit (bs s) k (by omega) (by rw [hat]; simpa using hd)) (.iface ty x))
      have hd' : s[k].toNat < 48 ∨ 57 < s[k].toNat := by
       simp only [digB, Bool.and_eq_true, decide_eq_true_eq] at hd; omega
      clear hd hat
      have b1 : (s[k].toNat : Int) < 48 ∨ 57 < (s[k].toNat : Int) := by omega
      clear hd'
      generalize (s[k].toNat : Int) = C at *
      by_cases b2 : C < 48
      ·
       clear b1
       go_wp2
       go_quiet (fail)
       go_wp2
       go_ret2
       exact ⟨by rw [HV.out]; rfl, below_draws HB.out _⟩
      ·
       have b3 : 57 < C := by omega
       have b4 : 48 ≤ C := by omega
       clear b1 b2
       go_wp2
       go_quiet (fail)
       go_wp2
       go_ret2
       exact ⟨by rw [HV.out]; rfl, below_draws HB.out _⟩
    ·
     obtain rfl : k = s.size := by omega
     have ht : (bs s).take s.size = bs s := List.take_of_length_le (by omega)
     rw [ht] at hN HA ⊢
     have he : s.toList.isEmpty = false := by
      rw [Lib.toList_data]
      show (bs s).isEmpty = false
      cases e : bs s with
      | nil => rw [e] at zl; simp at zl; omega
      | cons => rfl
     have hh := head_bs s (by omega)
     by_cases h48 : (s[0].toNat : Int) = 48
     ·
      have g48 : ((s[0].toNat : Int) == 48) = true := by rw [beq_iff_eq]; exact h48
      have HV := Lib.hid (numV_no (num_zero (bs s) (by rw [hh, (byte_eq s[0] 48 (by decide)).2 h48]; rfl)) (.iface ty x))
      clear h48 hh ht
      generalize val (bs s) = N at *
      go_wp2
      go_quiet (fail)
      go_wp2
      go_ret2
      exact ⟨by rw [HV.out]; rfl, below_draws HB.out _⟩
     ·
      have g48 : ((s[0].toNat : Int) == 48) = false := by rw [beq_eq_false_iff_ne]; exact h48
      have hh' : ¬ (bs s).head? = some 48 := by
       rw [hh]; intro e
       exact h48 ((byte_eq s[0] 48 (by decide)).1 (Option.some.inj e))
      by_cases hbig : 2147483648 < val (bs s)
      ·
       have HV := Lib.hid (numV_no (num_big (bs s) hbig) (.iface ty x))
       clear hh ht hh'
       generalize val (bs s) = N at *
       have hb' : (2147483648 : Int) < (N : Int) := by omega
       go_wp2
       go_quiet (fail)
       go_wp2
       go_ret2
       exact ⟨by rw [HV.out]; rfl, below_draws HB.out _⟩
      ·
       have ho := num_yes (bs s) (by omega) (by omega) hh' HA.out (by omega)
       have HV := Lib.hid (show numV (bs s) (.iface ty x) = .tuple #[.int .i64 (val (bs s)), .nilIface] by rw [numV, numN, ho]; rfl)
       clear hh ht hh' ho
       generalize val (bs s) = N at *
       have hb' : (N : Int) ≤ (2147483648 : Int) := by omega
       go_wp2
       go_ret2
       exact ⟨by rw [HV.out]; rfl, HB.out⟩
end Go.Proofs.YtgmfhldfdnnafaaGreatDoor
