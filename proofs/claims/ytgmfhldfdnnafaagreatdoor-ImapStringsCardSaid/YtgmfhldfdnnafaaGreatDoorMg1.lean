/- A part of the proofs of the statements on chapter 21: walks of functions that they reach, and plain laws. What is proved is stated in the last text. Conditions: none of its own. -/
import Derived.Stop.LaidErr
import Derived.Lib.LaidTab
import Derived.MakeChecks
import Derived.Test.YtgmfhldfdnnafaaGreatDoorRows
import Derived.LaidLaws
import Derived.Shelf.Strings.Prefix
import Derived.Shelf.Small.Wraps
import Derived.Shelf.Strings.Cut
import Derived.Shelf.Strings.LastIndex
import Derived.Shelf.Slices.Turned
import Derived.Shelf.Slices.Equal
import Derived.Test.YtgmfhldfdnnafaaGreatDoorChecked
import Derived.Lib.Bytealg
import Derived.Lib.Strings
import Derived.Lib.Slices
import Derived.Lib.Walk
import Derived.Lib.Hide
import Derived.WalkKit
import Derived.WalkSpells
import Derived.WalkLawsBesides
import Derived.Handy
import Derived.IntWalk
import Derived.Deep.QuietTactic
import Derived.BigQuiet
import Derived.RangeFuncNested
import Derived.RangeFuncBound
import Derived.RangeFuncCalls
import Derived.RangeFuncLeaves
import Derived.Shelf.Abstract
import Derived.Shelf.RegionOpen
import Derived.OwnWalkIn
import Derived.TacticsInMore
import Derived.LoopNIn
import Derived.LoopIn
import Derived.OneCell
import Derived.Laws.AppendOwn
import Derived.Maps.AppendAt
import Derived.Deep.Draws
import Derived.Laws.Rows
import Derived.Deep.Slices
import Derived.Deep.Fields
import Derived.ChangeSame
import Derived.OpenShut
import Derived.RangeFuncRecord
import Derived.Laws.IdiomStrings
import Derived.Lib.ItoaNum
namespace Go.Proofs.YtgmfhldfdnnafaaGreatDoor
open Go

/-- one entry of the list: its variable, its reading, its places among all places -/
theorem laid_part {P : Program} {W : World} {n : String} {d : DataW Unit} : ∀ {l : List (String × DataW Unit)} {ps : List MemPlace} {i : Nat}, DataW.LaidVars P W l ps → l[i]? = some (n, d) →
    ∃ g t cs fuel p, P.globalNamed n = some g ∧ (P.globals[g]?).map (·.type) = some t ∧ W.var? P n = some cs ∧ DataW.trod (fun _ => ()) P W 0 (fun _ => true) false fuel t cs.toList = some (d, p) ∧
      ∀ x, x ∈ MemPlace.row ⟨g, 0, none⟩ cs.size ++ p → x ∈ ps
  | [], _, _, _, h => by simp at h
  | (n', d') :: r, ps, 0, h, hi => by
    obtain ⟨g, t, cs, fuel, p, q, h1, h2, h3, h4, h5, rfl⟩ := h
    simp only [List.getElem?_cons_zero, Option.some.injEq, Prod.mk.injEq] at hi
    obtain ⟨rfl, rfl⟩ := hi
    exact ⟨g, t, cs, fuel, p, h1, h2, h3, h4, fun x hx => List.mem_append_left _ hx⟩
  | (n', d') :: r, ps, i + 1, h, hi => by
    obtain ⟨g, t, cs, fuel, p, q, h1, h2, h3, h4, h5, rfl⟩ := h
    obtain ⟨g', t', cs', fuel', p', e1, e2, e3, e4, e5⟩ := laid_part h5 (by simpa using hi)
    exact ⟨g', t', cs', fuel', p', e1, e2, e3, e4, fun x hx => List.mem_append_right _ (e5 x hx)⟩

/-- a table of numbers, wherever it stands on the list -/
theorem laid_table {P : Program} {W : World} {l : List (String × DataW Unit)} {name : String} {k : IntKind} {zs : List Int} {i g : Nat} {t e : TypeId} {n : Nat} (h : laidMet P l W) (hi : l[i]? = some (name, Lib.tabData k zs))
    (hg : P.globalNamed name = some g) (hty : (P.globals[g]?).map (·.type) = some t) (ht : P.underlying t = some (.array n e)) (he : P.underlying e = some (.int k)) (hce : P.cellsOf e = 1) (hct : P.cellsOf t = n) (j : Nat) (hj : j < zs.length) :
    W.cell? ⟨g, j, none⟩ = some (.int k (zs.getD j 0)) := by
  obtain ⟨ps, hv, _, _⟩ := h
  obtain ⟨g', t', cs, fuel, p, e1, e2, e3, e4, _⟩ := laid_part hv hi
  obtain rfl := Option.some.inj (hg.symm.trans e1)
  obtain rfl := Option.some.inj (hty.symm.trans e2)
  have hx : Lib.TabIs P W name k zs := by
    unfold Lib.TabIs
    rw [e3, ← Lib.cells_of_tab ht he hce hct e4]
  rw [World.var?_cell hg hx j]
  simp [List.getElem?_eq_getElem hj]

/-- the numbers of the types on the way to a sentinel's text -/
structure ErrTypes (P : Program) (nm : String) (ti tp te ts : TypeId) : Prop where
  iface : ∃ ms, P.underlying ti = some (.interface ms)
  row : ∀ u, P.typeName? 3 u = some nm → u = tp
  ptr : P.underlying tp = some (.pointer te)
  str : ∃ f : Field, P.underlying te = some (.struct #[f]) ∧ f.type = ts ∧ f.offset = 0
  text : P.underlying ts = some .string
  one : P.cellsOf te = 1
  one' : P.cellsOf ts = 1

/-- variable g holds the sentinel at a -/
def SentAt (W : World) (g tp : Nat) (a : Addr) : Prop :=
  W.cell? ⟨g, 0, none⟩ = some (.iface tp (.pointer (some a))) ∧ ∃ (c : Array Value) (t : TypeId), W.heap[a.block]? = some (.cells c t (0, 0))

theorem sent_part {P : Program} {W : World} {l : List (String × DataW Unit)} {ps : List MemPlace} {name nm : String} {text : List UInt8} {i g : Nat} {ti tp te ts : TypeId} (hl : DataW.LaidVars P W l ps)
    (hr : ∀ b off, MemPlace.cell b off ∈ ps → (∃ c t, W.heap[b]? = some (.cells c t (0, 0))) ∧ ∀ u v, W.cell? ⟨b, off, none⟩ = some (.iface u v) → Value.okWide P W .any 0 u v)
    (hi : l[i]? = some (name, .iface nm (.ptr (.agg [.lit (.string text)])))) (T : ErrTypes P nm ti tp te ts) (hg : P.globalNamed name = some g) (hty : (P.globals[g]?).map (·.type) = some ti) :
    ∃ a, SentAt W g tp a ∧ MemPlace.cell a.block a.off ∈ ps := by
  obtain ⟨g', t', cs, fuel, p, e1, e2, e3, e4, e5⟩ := laid_part hl hi
  obtain rfl := Option.some.inj (hg.symm.trans e1)
  obtain rfl := Option.some.inj (hty.symm.trans e2)
  obtain ⟨ms, hms⟩ := T.iface
  obtain ⟨f, hf, hft, hfo⟩ := T.str
  obtain ⟨l0⟩ := cs
  have ok : ∀ u v, l0 = [.iface u v] → Value.okWide P W .any 0 u v := fun u v e => by
    subst e
    exact (hr g 0 (e5 _ (by simp [MemPlace.row]))).2 u v (by simpa using World.var?_cell hg e3 0)
  obtain ⟨a, s, rfl, hc, _, _, rfl⟩ := errorString_of_trod hms T.row T.ptr hf hft hfo T.text T.one T.one' e4 ok
  have hm : MemPlace.cell a.block a.off ∈ ps := e5 _ (by simp [MemPlace.row])
  exact ⟨a, ⟨by simpa using World.var?_cell hg e3 0, (hr a.block a.off hm).1⟩, hm⟩

theorem SentAt.unique {W : World} {g tp : Nat} {a b : Addr} (h : SentAt W g tp a) (k : SentAt W g tp b) : a = b := by
  have := h.1.symm.trans k.1
  simpa using this

theorem sent_ne_aux {P : Program} {W : World} {nm : String} {ti tp te ts : TypeId} (T : ErrTypes P nm ti tp te ts) : ∀ {l : List (String × DataW Unit)} {ps : List MemPlace}, DataW.LaidVars P W l ps → ps.Nodup →
    (∀ b off, MemPlace.cell b off ∈ ps → (∃ c t, W.heap[b]? = some (.cells c t (0, 0))) ∧ ∀ u v, W.cell? ⟨b, off, none⟩ = some (.iface u v) → Value.okWide P W .any 0 u v) →
    ∀ {i j : Nat} {n1 n2 : String} {t1 t2 : List UInt8} {g1 g2 : Nat} {a b : Addr}, i < j → l[i]? = some (n1, .iface nm (.ptr (.agg [.lit (.string t1)]))) → l[j]? = some (n2, .iface nm (.ptr (.agg [.lit (.string t2)]))) →
      P.globalNamed n1 = some g1 → (P.globals[g1]?).map (·.type) = some ti → P.globalNamed n2 = some g2 → (P.globals[g2]?).map (·.type) = some ti → SentAt W g1 tp a → SentAt W g2 tp b → a ≠ b
  | [], _, _, _, _, _, _, _, _, _, _, _, _, _, _, _, h, _, _, _, _, _, _, _ => by simp at h
  | (n', d') :: r, ps, hl, hnd, hr, 0, j + 1, n1, n2, t1, t2, g1, g2, a, b, _, hi, hj, hg1, ht1, hg2, ht2, ha, hb => by
    rintro rfl
    have hl0 := hl
    obtain ⟨g, t, cs, fuel, p, q, h1, h2, h3, h4, h5, rfl⟩ := hl
    have hr' : ∀ b off, MemPlace.cell b off ∈ q → (∃ c t, W.heap[b]? = some (.cells c t (0, 0))) ∧ ∀ u v, W.cell? ⟨b, off, none⟩ = some (.iface u v) → Value.okWide P W .any 0 u v := fun b off hm => hr b off (List.mem_append_right _ hm)
    obtain ⟨a2, hs2, hm2⟩ := sent_part h5 hr' (by simpa using hj) T hg2 ht2
    obtain rfl := hs2.unique hb
    -- the head's own places hold the same cell
    have hone : DataW.LaidVars P W [(n', d')] (MemPlace.row ⟨g, 0, none⟩ cs.size ++ p) := ⟨g, t, cs, fuel, p, [], h1, h2, h3, h4, rfl, by simp⟩
    obtain ⟨a1, hs1, hm1⟩ := sent_part (i := 0) hone (fun b off hm => hr b off (List.mem_append_left _ hm)) (by simpa using hi) T hg1 ht1
    obtain rfl := hs1.unique ha
    exact (List.nodup_append.1 hnd).2.2 _ hm1 _ hm2 rfl
  | (n', d') :: r, ps, hl, hnd, hr, i + 1, j + 1, n1, n2, t1, t2, g1, g2, a, b, hij, hi, hj, hg1, ht1, hg2, ht2, ha, hb => by
    obtain ⟨g, t, cs, fuel, p, q, h1, h2, h3, h4, h5, rfl⟩ := hl
    exact sent_ne_aux T h5 (List.nodup_append.1 hnd).2.1 (fun b off hm => hr b off (List.mem_append_right _ hm)) (Nat.lt_of_succ_lt_succ hij) (by simpa using hi) (by simpa using hj) hg1 ht1 hg2 ht2 ha hb

theorem sent_get {P : Program} {W : World} {l : List (String × DataW Unit)} {name nm : String} {text : List UInt8} {g : Nat} {ti tp te ts : TypeId} (h : laidMet P l W) (i : Nat)
    (hi : l[i]? = some (name, .iface nm (.ptr (.agg [.lit (.string text)])))) (T : ErrTypes P nm ti tp te ts) (hg : P.globalNamed name = some g) (hty : (P.globals[g]?).map (·.type) = some ti) :
    ∃ a, SentAt W g tp a := by
  obtain ⟨ps, hl, _, hr⟩ := h
  obtain ⟨a, ha, _⟩ := sent_part hl hr hi T hg hty
  exact ⟨a, ha⟩

theorem sent_ne {P : Program} {W : World} {l : List (String × DataW Unit)} {n1 n2 nm : String} {t1 t2 : List UInt8} {g1 g2 : Nat} {ti tp te ts : TypeId} {a b : Addr} (h : laidMet P l W) (i j : Nat) (hij : i < j)
    (hi : l[i]? = some (n1, .iface nm (.ptr (.agg [.lit (.string t1)])))) (hj : l[j]? = some (n2, .iface nm (.ptr (.agg [.lit (.string t2)])))) (T : ErrTypes P nm ti tp te ts)
    (hg1 : P.globalNamed n1 = some g1) (ht1 : (P.globals[g1]?).map (·.type) = some ti) (hg2 : P.globalNamed n2 = some g2) (ht2 : (P.globals[g2]?).map (·.type) = some ti)
    (ha : SentAt W g1 tp a) (hb : SentAt W g2 tp b) : a ≠ b := by
  obtain ⟨ps, hl, hnd, hr⟩ := h
  exact sent_ne_aux T hl hnd hr hij hi hj hg1 ht1 hg2 ht2 ha hb
end Go.Proofs.YtgmfhldfdnnafaaGreatDoor
namespace Go.Proofs.YtgmfhldfdnnafaaGreatDoor
open Go
theorem starErr : "*" ++ "errors.errorString" = "*errors.errorString" := by decide
theorem errTypes : ErrTypes Tryz.prog "*errors.errorString" 35 200 223 9 where
  iface := ⟨_, Tryz.underlying35⟩
  row := fun u h => typeName_ptr_named (nm := "errors.errorString") (by rw [starErr]; kernel_rfl) (by kernel_rfl) (by decide) u (by rw [starErr]; exact h)
  ptr := Tryz.underlying200
  str := ⟨_, Tryz.underlying223, rfl, rfl⟩
  text := Tryz.underlying9
  one := by kernel_rfl
  one' := by kernel_rfl
end Go.Proofs.YtgmfhldfdnnafaaGreatDoor
namespace Go.Proofs.YtgmfhldfdnnafaaGreatDoor
open Go.Shelf Go.RowKit
def lays99_ren : Go.Shelf.Ren := ⟨fun | 99 => 99 | 206 => 119 | n => n, fun | 3 => 3 | 4 => 4 | 9 => 9 | n => n, fun n => n⟩
theorem lays99 : Lays.n99 Tryz.prog lays99_ren := {
  mixed := by kernel_rfl,
  f99 := by kernel_rfl,
  f206 := by kernel_rfl,
  t3 := Tryz.underlying3,
  a3 := Tryz.isAgg3,
  z3 := Tryz.sizeOf3,
  v3 := Tryz.zeroValue3,
  t4 := Tryz.underlying4,
  a4 := Tryz.isAgg4,
  z4 := Tryz.sizeOf4,
  v4 := Tryz.zeroValue4,
  t9 := Tryz.underlying9,
  a9 := Tryz.isAgg9,
  z9 := Tryz.sizeOf9,
  v9 := Tryz.zeroValue9 }
def lays103_ren : Go.Shelf.Ren := ⟨fun | 103 => 96 | 206 => 119 | 210 => 118 | n => n, fun | 3 => 3 | 4 => 4 | 9 => 9 | 24 => 52 | n => n, fun n => n⟩
theorem lays103 : Lays.n103 Tryz.prog lays103_ren := {
  mixed := by kernel_rfl,
  f103 := by kernel_rfl,
  f206 := by kernel_rfl,
  f210 := by kernel_rfl,
  t3 := Tryz.underlying3,
  a3 := Tryz.isAgg3,
  z3 := Tryz.sizeOf3,
  v3 := Tryz.zeroValue3,
  t4 := Tryz.underlying4,
  a4 := Tryz.isAgg4,
  z4 := Tryz.sizeOf4,
  v4 := Tryz.zeroValue4,
  t9 := Tryz.underlying9,
  a9 := Tryz.isAgg9,
  z9 := Tryz.sizeOf9,
  v9 := Tryz.zeroValue9,
  t24 := Tryz.underlying52,
  a24 := Tryz.isAgg52,
  z24 := Tryz.sizeOf52,
  v24 := Tryz.zeroValue52 }
def lays104_ren : Go.Shelf.Ren := ⟨fun | 104 => 18 | 207 => 93 | 211 => 61 | n => n, fun | 3 => 3 | 4 => 4 | 9 => 9 | 24 => 52 | n => n, fun n => n⟩
theorem lays104 : Lays.n104 Tryz.prog lays104_ren := {
  mixed := by kernel_rfl,
  f104 := by kernel_rfl,
  f207 := by kernel_rfl,
  f211 := by kernel_rfl,
  t3 := Tryz.underlying3,
  a3 := Tryz.isAgg3,
  z3 := Tryz.sizeOf3,
  v3 := Tryz.zeroValue3,
  t4 := Tryz.underlying4,
  a4 := Tryz.isAgg4,
  z4 := Tryz.sizeOf4,
  v4 := Tryz.zeroValue4,
  t9 := Tryz.underlying9,
  a9 := Tryz.isAgg9,
  z9 := Tryz.sizeOf9,
  v9 := Tryz.zeroValue9,
  t24 := Tryz.underlying52,
  a24 := Tryz.isAgg52,
  z24 := Tryz.sizeOf52,
  v24 := Tryz.zeroValue52 }
def lays145_ren : Go.Shelf.Ren := ⟨fun | 145 => 22 | 217 => 114 | 219 => 94 | 220 => 65 | 224 => 116 | 225 => 115 | 266 => 142 | 267 => 117 | 314 => 143 | n => n, fun | 3 => 3 | 4 => 4 | 5 => 5 | 9 => 9 | 46 => 152 | 51 => 164 | 59 => 57 | 146 => 165 | n => n, fun | 1 => 13 | n => n⟩
theorem lays145 : Lays.n145 Tryz.prog lays145_ren := {
  mixed := by kernel_rfl,
  f145 := by kernel_rfl,
  f217 := by kernel_rfl,
  f219 := by kernel_rfl,
  f220 := by kernel_rfl,
  f224 := by kernel_rfl,
  f225 := by kernel_rfl,
  f266 := by kernel_rfl,
  f267 := by kernel_rfl,
  f314 := by kernel_rfl,
  t3 := Tryz.underlying3,
  a3 := Tryz.isAgg3,
  z3 := Tryz.sizeOf3,
  v3 := Tryz.zeroValue3,
  t4 := Tryz.underlying4,
  a4 := Tryz.isAgg4,
  z4 := Tryz.sizeOf4,
  v4 := Tryz.zeroValue4,
  t5 := Tryz.underlying5,
  a5 := Tryz.isAgg5,
  z5 := Tryz.sizeOf5,
  v5 := Tryz.zeroValue5,
  t9 := Tryz.underlying9,
  a9 := Tryz.isAgg9,
  z9 := Tryz.sizeOf9,
  v9 := Tryz.zeroValue9,
  t46 := Tryz.underlying152,
  a46 := Tryz.isAgg152,
  z46 := Tryz.sizeOf152,
  v46 := Tryz.zeroValue152,
  t51 := Tryz.underlying164,
  a51 := Tryz.isAgg164,
  z51 := Tryz.sizeOf164,
  v51 := Tryz.zeroValue164,
  t59 := Tryz.underlying57,
  a59 := Tryz.isAgg57,
  z59 := Tryz.sizeOf57,
  v59 := Tryz.zeroValue57,
  t146 := Tryz.underlying165,
  a146 := Tryz.isAgg165,
  z146 := Tryz.sizeOf165,
  v146 := Tryz.zeroValue165,
  g1 := by kernel_rfl }
def lays149_ren : Go.Shelf.Ren := ⟨fun | 149 => 19 | 222 => 62 | n => n, fun | 3 => 3 | 4 => 4 | 5 => 5 | 9 => 9 | n => n, fun n => n⟩
theorem lays149 : Lays.n149 Tryz.prog lays149_ren := {
  mixed := by kernel_rfl,
  f149 := by kernel_rfl,
  f222 := by kernel_rfl,
  t3 := Tryz.underlying3,
  a3 := Tryz.isAgg3,
  z3 := Tryz.sizeOf3,
  v3 := Tryz.zeroValue3,
  t4 := Tryz.underlying4,
  a4 := Tryz.isAgg4,
  z4 := Tryz.sizeOf4,
  v4 := Tryz.zeroValue4,
  t5 := Tryz.underlying5,
  a5 := Tryz.isAgg5,
  z5 := Tryz.sizeOf5,
  v5 := Tryz.zeroValue5,
  t9 := Tryz.underlying9,
  a9 := Tryz.isAgg9,
  z9 := Tryz.sizeOf9,
  v9 := Tryz.zeroValue9 }
def lays110_ren : Go.Shelf.Ren := ⟨fun | 109 => 69 | 110 => 30 | n => n, fun | 0 => 0 | 3 => 3 | 4 => 4 | 9 => 9 | 31 => 28 | n => n, fun n => n⟩
theorem lays110 : Lays.n110 Tryz.prog lays110_ren := {
  mixed := by kernel_rfl,
  f109 := by kernel_rfl,
  f110 := by kernel_rfl,
  t0 := Tryz.underlying0,
  a0 := Tryz.isAgg0,
  z0 := Tryz.sizeOf0,
  v0 := Tryz.zeroValue0,
  t3 := Tryz.underlying3,
  a3 := Tryz.isAgg3,
  z3 := Tryz.sizeOf3,
  v3 := Tryz.zeroValue3,
  t4 := Tryz.underlying4,
  a4 := Tryz.isAgg4,
  z4 := Tryz.sizeOf4,
  v4 := Tryz.zeroValue4,
  t9 := Tryz.underlying9,
  a9 := Tryz.isAgg9,
  z9 := Tryz.sizeOf9,
  v9 := Tryz.zeroValue9,
  t31 := Tryz.underlying28,
  a31 := Tryz.isAgg28,
  z31 := Tryz.sizeOf28,
  v31 := Tryz.zeroValue28 }
def lays193_ren : Go.Shelf.Ren := ⟨fun | 193 => 32 | n => n, fun | 0 => 0 | 3 => 3 | 4 => 4 | 9 => 9 | 31 => 28 | n => n, fun n => n⟩
theorem lays193 : Lays.n193 Tryz.prog lays193_ren := {
  mixed := by kernel_rfl,
  f193 := by kernel_rfl,
  t0 := Tryz.underlying0,
  a0 := Tryz.isAgg0,
  z0 := Tryz.sizeOf0,
  v0 := Tryz.zeroValue0,
  t3 := Tryz.underlying3,
  a3 := Tryz.isAgg3,
  z3 := Tryz.sizeOf3,
  v3 := Tryz.zeroValue3,
  t4 := Tryz.underlying4,
  a4 := Tryz.isAgg4,
  z4 := Tryz.sizeOf4,
  v4 := Tryz.zeroValue4,
  t9 := Tryz.underlying9,
  a9 := Tryz.isAgg9,
  z9 := Tryz.sizeOf9,
  v9 := Tryz.zeroValue9,
  t31 := Tryz.underlying28,
  a31 := Tryz.isAgg28,
  z31 := Tryz.sizeOf28,
  v31 := Tryz.zeroValue28 }
def lays111_ren : Go.Shelf.Ren := ⟨fun | 111 => 107 | n => n, fun | 0 => 0 | 3 => 3 | 4 => 4 | 28 => 74 | n => n, fun n => n⟩
theorem lays111 : Lays.n111 Tryz.prog lays111_ren := {
  mixed := by kernel_rfl,
  f111 := by kernel_rfl,
  t0 := Tryz.underlying0,
  a0 := Tryz.isAgg0,
  z0 := Tryz.sizeOf0,
  v0 := Tryz.zeroValue0,
  t3 := Tryz.underlying3,
  a3 := Tryz.isAgg3,
  z3 := Tryz.sizeOf3,
  v3 := Tryz.zeroValue3,
  t4 := Tryz.underlying4,
  a4 := Tryz.isAgg4,
  z4 := Tryz.sizeOf4,
  v4 := Tryz.zeroValue4,
  t28 := Tryz.underlying74,
  a28 := Tryz.isAgg74,
  z28 := Tryz.sizeOf74,
  v28 := Tryz.zeroValue74 }
theorem hasPre_walk21 (s p : ByteArray) (w : World) :
    Calls Tryz.prog 99 #[.string s, .string p] w fun e w' => e = .returned (.bool (Lib.hasPrefix s.data.toList p.data.toList)) ∧ w' = w := Any.strings_HasPrefix lays99 s p w
theorem cutPre_walk21 (s p : ByteArray) (w : World) :
    Calls Tryz.prog 96 #[.string s, .string p] w fun e w' => e = .returned (.tuple #[.string ⟨(Lib.trimPrefix s.data.toList p.data.toList).toArray⟩, .bool (Lib.hasPrefix s.data.toList p.data.toList)]) ∧ w' = w := Any.strings_CutPrefix lays103 s p w
theorem cutSuf_walk21 (s p : ByteArray) (w : World) (hs : s.size ≤ 9223372036854775807) :
    Calls Tryz.prog 18 #[.string s, .string p] w fun e w' => e = .returned (.tuple #[.string ⟨(Lib.trimSuffix s.data.toList p.data.toList).toArray⟩, .bool (Lib.hasSuffix s.data.toList p.data.toList)]) ∧ w' = w := Any.strings_CutSuffix lays104 s p w hs
theorem cutAny_walk21 (s sep : ByteArray) (m : Int) (w : World) (hs : s.size < 4294967281) (hm : w.cell? ⟨13, 0, none⟩ = some (.int .i64 m)) :
    Calls Tryz.prog 22 #[.string s, .string sep] w fun e w' => e = .returned (.tuple #[.string ⟨(Lib.cut s.data.toList sep.data.toList).1.toArray⟩, .string ⟨(Lib.cut s.data.toList sep.data.toList).2.1.toArray⟩, .bool (Lib.cut s.data.toList sep.data.toList).2.2]) ∧ ∃ n, w' = w.drewN n := Any.strings_Cut lays145 s sep m w hs hm
theorem lastByte_walk21 (s : ByteArray) (c : Int) (hs : s.size < 4611686018427387904) (w : World) :
    Calls Tryz.prog 19 #[.string s, .int .u8 c] w fun e w' => e = .returned (.int .i64 (Lib.lastIndexByte s c)) ∧ w' = w := Any.strings_LastIndexByte lays149 s c hs w
theorem contains_walk21 (b off n c : Nat) (zs : List ByteArray) (x : ByteArray) (w : World) (hz : n ≤ zs.length) (hbig : n ≤ 9223372036854775807) (hc : ∀ j, j < zs.length → w.cell? ⟨b, off + j, none⟩ = some (.string (zs.getD j ByteArray.empty))) :
    Calls Tryz.prog 30 #[.slice (some ⟨b, off, none⟩) n c, .string x] w fun e w' => e = .returned (.bool (Lib.containsS (zs.take n) x)) ∧ w' = w := Any.slices_Contains_string lays110 b off n c zs x w hz hbig hc
end Go.Proofs.YtgmfhldfdnnafaaGreatDoor
namespace Go.Proofs.YtgmfhldfdnnafaaGreatDoor.Pl
def digB (c : UInt8) : Bool := decide (48 ≤ c.toNat) && decide (c.toNat ≤ 57)
def val (l : List UInt8) : Nat := l.foldl (fun n c => 10 * n + (c.toNat - 48)) 0
theorem val_next (l : List UInt8) (k : Nat) (hk : k < l.length) : val (l.take (k + 1)) = 10 * val (l.take k) + (l[k].toNat - 48) := by
  rw [val, List.take_succ_eq_append_getElem hk, List.foldl_append]; rfl
theorem val_small (l : List UInt8) : (∀ c ∈ l, digB c = true) → val l < 10 ^ l.length := by
  intro h
  have key : ∀ (l : List UInt8) (n : Nat), (∀ c ∈ l, digB c = true) → l.foldl (fun n c => 10 * n + (c.toNat - 48)) n < (n + 1) * 10 ^ l.length := by
    intro l
    induction l with
    | nil => intro n _; simp
    | cons c cs ih =>
      intro n hh
      have hc := hh c (List.mem_cons_self ..)
      simp only [digB, Bool.and_eq_true, decide_eq_true_eq] at hc
      have := ih (10 * n + (c.toNat - 48)) (fun x hx => hh x (List.mem_cons_of_mem _ hx))
      simp only [List.foldl_cons, List.length_cons, Nat.pow_succ]
      refine Nat.lt_of_lt_of_le this ?_
      have h1 : 10 * n + (c.toNat - 48) + 1 ≤ (n + 1) * 10 := by omega
      calc (10 * n + (c.toNat - 48) + 1) * 10 ^ cs.length ≤ ((n + 1) * 10) * 10 ^ cs.length := Nat.mul_le_mul_right _ h1
        _ = (n + 1) * (10 ^ cs.length * 10) := by rw [Nat.mul_assoc, Nat.mul_comm 10]
  simpa [val] using key l 0 h
/-- the number of a text; 0: it is none -/
def numOk (l : List UInt8) : Bool := decide (1 ≤ l.length) && decide (l.length ≤ 10) && !(l.head? == some 48) && l.all digB && decide (val l ≤ 2147483648)
def numN (l : List UInt8) : Nat := if numOk l = true then val l else 0
theorem val_pos (l : List UInt8) (h0 : 1 ≤ l.length) (h : ∀ c ∈ l, digB c = true) (h1 : ¬ l.head? = some 48) : 0 < val l := by
  cases l with
  | nil => simp at h0
  | cons c cs =>
    have key : ∀ (l : List UInt8) (n : Nat), 0 < n → 0 < l.foldl (fun n c => 10 * n + (c.toNat - 48)) n := by
      intro l
      induction l with
      | nil => intro n hn; exact hn
      | cons c cs ih => intro n hn; exact ih (10 * n + (c.toNat - 48)) (by omega)
    have hc := h c (List.mem_cons_self ..)
    simp only [digB, Bool.and_eq_true, decide_eq_true_eq] at hc
    have hne : c.toNat ≠ 48 := fun e => h1 (by simp [← UInt8.toNat_inj]; exact e)
    exact key cs (10 * 0 + (c.toNat - 48)) (by omega)
theorem numN_pos (l : List UInt8) (h : numOk l = true) : numN l = val l ∧ 0 < val l ∧ val l ≤ 2147483648 := by
  have h' := h
  simp only [numOk, Bool.and_eq_true, decide_eq_true_eq, Bool.not_eq_true', beq_eq_false_iff_ne] at h'
  refine ⟨by rw [numN, if_pos h], val_pos l h'.1.1.1.1 (fun c hc => List.all_eq_true.1 h'.1.2 c hc) h'.1.1.2, h'.2⟩
theorem numN_zero (l : List UInt8) (h : numOk l = false) : numN l = 0 := by rw [numN, if_neg (by rw [h]; decide)]
theorem num_len (l : List UInt8) (h : l.length = 0 ∨ 10 < l.length) : numOk l = false := by
  cases e : numOk l with
  | false => rfl
  | true =>
    simp only [numOk, Bool.and_eq_true, decide_eq_true_eq] at e
    omega
theorem num_digit (l : List UInt8) (k : Nat) (hk : k < l.length) (h : digB l[k] = false) : numOk l = false := by
  cases e : numOk l with
  | false => rfl
  | true =>
    simp only [numOk, Bool.and_eq_true] at e
    have := List.all_eq_true.1 e.1.2 l[k] (List.getElem_mem hk)
    rw [h] at this; cases this
theorem num_zero (l : List UInt8) (h : l.head? = some 48) : numOk l = false := by simp [numOk, h]
theorem num_big (l : List UInt8) (h : 2147483648 < val l) : numOk l = false := by
  cases e : numOk l with
  | false => rfl
  | true =>
    simp only [numOk, Bool.and_eq_true, decide_eq_true_eq] at e
    omega
theorem num_yes (l : List UInt8) (h1 : 1 ≤ l.length) (h2 : l.length ≤ 10) (h3 : ¬ l.head? = some 48) (h4 : ∀ c ∈ l, digB c = true) (h5 : val l ≤ 2147483648) : numOk l = true := by
  simp only [numOk, Bool.and_eq_true, decide_eq_true_eq, Bool.not_eq_true', beq_eq_false_iff_ne]
  exact ⟨⟨⟨⟨h1, h2⟩, h3⟩, List.all_eq_true.2 h4⟩, h5⟩
/-- an end of a range: '*' is 0 -/
def endOk (l : List UInt8) : Bool := (l == [42]) || numOk l
def endN (l : List UInt8) : Nat := if l = [42] then 0 else numN l
end Go.Proofs.YtgmfhldfdnnafaaGreatDoor.Pl
namespace Go.Proofs.YtgmfhldfdnnafaaGreatDoor.Pl
def plainB (c : UInt8) : Bool := (97 ≤ c && c ≤ 122) || (65 ≤ c && c ≤ 90) || (48 ≤ c && c ≤ 57)
/-- the marks of an atom: ! # $ % & ' * + - / = ? ^ _ ` { | } ~ -/
def marks : List UInt8 := [33, 35, 36, 37, 38, 39, 42, 43, 45, 47, 61, 63, 94, 95, 96, 123, 124, 125, 126]
def atomB (c : UInt8) : Bool := plainB c || marks.contains c
def splitB (x : UInt8) : List UInt8 → List (List UInt8)
  | [] => [[]]
  | c :: cs => if c = x then [] :: splitB x cs else match splitB x cs with
    | h :: t => (c :: h) :: t
    | [] => [[c]]
theorem splitB_ne (x : UInt8) (l : List UInt8) : ∃ h t, splitB x l = h :: t := by
  cases l with
  | nil => exact ⟨_, _, rfl⟩
  | cons c cs =>
    unfold splitB
    split
    · exact ⟨_, _, rfl⟩
    · split <;> exact ⟨_, _, rfl⟩
def scanL : Bool → List UInt8 → Bool
  | b, [] => !b
  | b, c :: cs => if c = 46 then !b && scanL true cs else atomB c && scanL false cs
def partL (p : List UInt8) : Bool := !p.isEmpty && p.all atomB
def goLocal (l : List UInt8) : Bool := decide (l.length ≤ 64) && (splitB 46 l).all partL
theorem split_scanL (l : List UInt8) : (splitB 46 l).all partL = scanL true l ∧ ∀ h t, splitB 46 l = h :: t → (h.all atomB && t.all partL) = scanL false l := by
  induction l with
  | nil => exact ⟨rfl, by rintro h t ⟨⟩; rfl⟩
  | cons c cs ih =>
    obtain ⟨h0, t0, e0⟩ := splitB_ne 46 cs
    have i2 := ih.2 h0 t0 e0
    by_cases hc : c = 46
    · subst hc
      simp only [splitB, scanL, if_true]
      refine ⟨by simp [partL], ?_⟩
      rintro h t ⟨⟩
      simp [ih.1]
    · simp only [splitB, scanL, if_neg hc, e0]
      refine ⟨?_, ?_⟩
      · rw [← i2]; simp [partL, Bool.and_assoc]
      · rintro h t ⟨⟩; rw [← i2]; simp [Bool.and_assoc]
/-- the byte at a place -/
def at_ (l : List UInt8) (i : Nat) : UInt8 := l.getD i 0
def condL (l : List UInt8) (i : Nat) : Bool :=
  if at_ l i = 46 then !(decide (i = 0) || decide (i + 1 = l.length) || decide (at_ l (i - 1) = 46)) else atomB (at_ l i)
def condLb (b : Bool) (l : List UInt8) (i : Nat) : Bool :=
  if at_ l i = 46 then !((decide (i = 0) && b) || decide (i + 1 = l.length) || (decide (0 < i) && decide (at_ l (i - 1) = 46))) else atomB (at_ l i)
theorem condLb_scan (l : List UInt8) : ∀ b, ((b = true → l ≠ []) ∧ ∀ i, i < l.length → condLb b l i = true) ↔ scanL b l = true := by
  induction l with
  | nil => intro b; cases b <;> simp [scanL]
  | cons c cs ih =>
    intro b
    have key : (∀ i, i < (c :: cs).length → condLb b (c :: cs) i = true) ↔ (condLb b (c :: cs) 0 = true ∧ ∀ i, i < cs.length → condLb (decide (c = 46)) cs i = true) := by
      have hs : ∀ i, i < cs.length → condLb b (c :: cs) (i + 1) = condLb (decide (c = 46)) cs i := by
        intro i _
        unfold condLb at_
        cases i with
        | zero => simp [eq_comm (a := 1), Bool.and_comm]
        | succ j => simp
      constructor
      · intro h; exact ⟨h 0 (by simp), fun i hi => by rw [← hs i hi]; exact h (i + 1) (by simp; omega)⟩
      · rintro ⟨h0, h⟩ i hi
        cases i with
        | zero => exact h0
        | succ j => rw [hs j (by simpa using hi)]; exact h j (by simpa using hi)
    rw [key]
    by_cases hc : c = 46
    · subst hc
      have i1 := ih true
      simp only [scanL, if_true, Bool.and_eq_true, ← i1, decide_true]
      have e0 : condLb b (46 :: cs) 0 = (!b && !cs.isEmpty) := by
        unfold condLb at_; cases cs <;> simp
      rw [e0]
      cases cs <;> simp
    · have i1 := ih false
      simp only [scanL, if_neg hc, Bool.and_eq_true, ← i1]
      have e0 : condLb b (c :: cs) 0 = atomB c := by
        unfold condLb at_; simp [hc]
      rw [e0]
      simp [hc]
def refLocal (l : List UInt8) : Bool := decide (1 ≤ l.length) && decide (l.length ≤ 64) && decide (∀ i, i < l.length → condL l i = true)
theorem ref_goLocal (l : List UInt8) : refLocal l = goLocal l := by
  unfold refLocal goLocal
  rw [(split_scanL l).1]
  have h := condLb_scan l true
  have e : ∀ i, condLb true l i = condL l i := by
    intro i; unfold condLb condL; cases i <;> simp
  simp only [e] at h
  rw [Bool.eq_iff_iff]
  simp only [Bool.and_eq_true, decide_eq_true_eq, ← h]
  constructor
  · rintro ⟨⟨a, b⟩, c⟩; exact ⟨b, by rintro - rfl; simp at a, c⟩
  · rintro ⟨b, a, c⟩; exact ⟨⟨by cases l <;> simp at a ⊢, b⟩, c⟩

/-! domains -/
def partD (p : List UInt8) : Bool := !p.isEmpty && (p.all (fun c => plainB c || c == 45) && !(p.head? == some 45) && !(p.getLast? == some 45))
def goDomain (l : List UInt8) : Bool := decide (l.length ≤ 100) && (splitB 46 l).all partD
/-- s: 0 at a label's begin; 1 behind a letter or digit; 2 behind '-' -/
def scanD : Nat → List UInt8 → Bool
  | s, [] => s == 1
  | s, c :: cs => if c = 46 then s == 1 && scanD 0 cs else if c = 45 then s != 0 && scanD 2 cs else plainB c && scanD 1 cs
theorem plain_45 : plainB 45 = false := by decide
theorem plain_46 : plainB 46 = false := by decide
/-- the rest of a label, behind a first byte: s = 1 or 2 -/
def tailD (s : Nat) (h : List UInt8) : Bool := h.all (fun c => plainB c || c == 45) && (match h.getLast? with | none => s == 1 | some x => !(x == 45))
theorem partD_cons (c : UInt8) (h : List UInt8) : partD (c :: h) = if c = 45 then false else plainB c && tailD 1 h := by
  by_cases hc : c = 45
  · subst hc; simp [partD]
  · rw [if_neg hc]
    have hb : (c == 45) = false := by simp [hc]
    unfold partD tailD
    cases h with
    | nil => simp [hb]
    | cons d t => 
      have : (c :: d :: t).getLast? = (d :: t).getLast? := by simp
      rw [this]
      have hl : ∃ x, (d :: t).getLast? = some x := ⟨(d :: t).getLast (by simp), by simp [List.getLast?_eq_some_getLast]⟩
      obtain ⟨x, hx⟩ := hl
      rw [hx]
      simp [hb, Bool.and_assoc]
theorem tailD_cons (s : Nat) (c : UInt8) (h : List UInt8) : tailD s (c :: h) = if c = 45 then tailD 2 h else plainB c && tailD 1 h := by
  unfold tailD
  cases h with
  | nil =>
    by_cases hc : c = 45
    · simp [hc]
    · have hb : (c == 45) = false := by simp [hc]
      simp [hb, hc]
  | cons d t =>
    have : (c :: d :: t).getLast? = (d :: t).getLast? := by simp
    rw [this]
    have hl : ∃ x, (d :: t).getLast? = some x := ⟨(d :: t).getLast (by simp), by simp [List.getLast?_eq_some_getLast]⟩
    obtain ⟨x, hx⟩ := hl
    rw [hx]
    by_cases hc : c = 45
    · simp [hc]
    · have hb : (c == 45) = false := by simp [hc]
      simp [hb, hc, Bool.and_assoc]
theorem split_scanD (l : List UInt8) : (splitB 46 l).all partD = scanD 0 l ∧ ∀ h t, splitB 46 l = h :: t → (tailD 1 h && t.all partD) = scanD 1 l ∧ (tailD 2 h && t.all partD) = scanD 2 l := by
  induction l with
  | nil => exact ⟨rfl, by rintro h t ⟨⟩; exact ⟨rfl, rfl⟩⟩
  | cons c cs ih =>
    obtain ⟨h0, t0, e0⟩ := splitB_ne 46 cs
    obtain ⟨i1, i2⟩ := ih.2 h0 t0 e0
    by_cases hc : c = 46
    · subst hc
      simp only [splitB, scanD, if_true]
      refine ⟨by simp [partD], ?_⟩
      rintro h t ⟨⟩
      simp [ih.1, tailD]
    · simp only [splitB, scanD, if_neg hc, e0]
      refine ⟨?_, ?_⟩
      · rw [List.all_cons, partD_cons]
        by_cases h5 : c = 45
        · simp [h5]
        · rw [if_neg h5, if_neg h5, ← i1]; simp [Bool.and_assoc]
      · rintro h t ⟨⟩
        rw [tailD_cons, tailD_cons]
        by_cases h5 : c = 45
        · simp [h5, i2]
        · rw [if_neg h5, if_neg h5, if_neg h5, ← i1]; simp [Bool.and_assoc]
def condD (l : List UInt8) (i : Nat) : Bool :=
  let c := at_ l i
  let plain := plainB c
  let e3 := decide (i = 0) || decide (i + 1 = l.length) || decide (at_ l (i - 1) = 46)
  (plain || c == 45 || c == 46) && !((e3 || decide (at_ l (i + 1) = 46)) && !(c == 46) && !plain || (c == 46) && e3)
def refDomain (l : List UInt8) : Bool := decide (1 ≤ l.length) && decide (l.length ≤ 100) && decide (∀ i, i < l.length → condD l i = true)
/-- b: at a label's begin -/
def condDb (b : Bool) (l : List UInt8) (i : Nat) : Bool :=
  let c := at_ l i
  let plain := plainB c
  let e3 := (decide (i = 0) && b) || decide (i + 1 = l.length) || (decide (0 < i) && decide (at_ l (i - 1) = 46))
  (plain || c == 45 || c == 46) && !((e3 || decide (at_ l (i + 1) = 46)) && !(c == 46) && !plain || (c == 46) && e3)
/-- what may stand behind '-': a byte, no dot -/
def goesOn : List UInt8 → Bool
  | [] => false
  | c :: _ => !(c == 46)
theorem condDb_scan (l : List UInt8) : (((l ≠ [] ∧ ∀ i, i < l.length → condDb true l i = true) ↔ scanD 0 l = true)) ∧ ((∀ i, i < l.length → condDb false l i = true) ↔ scanD 1 l = true) ∧ ((goesOn l = true ∧ ∀ i, i < l.length → condDb false l i = true) ↔ scanD 2 l = true) := by
  induction l with
  | nil => simp [scanD, goesOn]
  | cons c cs ih =>
    have key : ∀ b, (∀ i, i < (c :: cs).length → condDb b (c :: cs) i = true) ↔ (condDb b (c :: cs) 0 = true ∧ ∀ i, i < cs.length → condDb (decide (c = 46)) cs i = true) := by
      intro b
      have hs : ∀ i, i < cs.length → condDb b (c :: cs) (i + 1) = condDb (decide (c = 46)) cs i := by
        intro i _
        unfold condDb at_
        cases i with
        | zero =>
          have hq : decide (1 = cs.length) = decide (cs.length = 1) := by simp [eq_comm]
          simp [hq]
          cases decide (cs.length = 1) <;> cases decide (c = 46) <;> simp
        | succ j => simp
      constructor
      · intro h; exact ⟨h 0 (by simp), fun i hi => by rw [← hs i hi]; exact h (i + 1) (by simp; omega)⟩
      · rintro ⟨h0, h⟩ i hi
        cases i with
        | zero => exact h0
        | succ j => rw [hs j (by simpa using hi)]; exact h j (by simpa using hi)
    obtain ⟨ih0, ih1, ih2⟩ := ih
    simp only [key]
    by_cases hc : c = 46
    · subst hc
      have e0 : ∀ b, condDb b (46 :: cs) 0 = (!b && !cs.isEmpty) := by
        intro b; unfold condDb at_; cases cs <;> simp [plain_46]
      simp only [e0, scanD, if_true, decide_true]
      have := ih0
      cases cs with
      | nil => simp [scanD, goesOn]
      | cons d t => simp [goesOn] at this ⊢; exact this
    · by_cases h5 : c = 45
      · subst h5
        have e0 : ∀ b, condDb b (45 :: cs) 0 = (!b && goesOn cs) := by
          intro b; unfold condDb at_ goesOn; cases cs <;> simp [plain_45]
          cases b <;> simp
          rw [Bool.eq_iff_iff]; simp
        simp only [e0, scanD, if_neg hc, if_true]
        have h46 : decide ((45 : UInt8) = 46) = false := by decide
        simp only [h46]
        have h2 := ih2
        simp only [Bool.not_true, Bool.false_and, Bool.not_false, Bool.true_and, goesOn]
        simp
        exact h2
      · have e0 : ∀ b, condDb b (c :: cs) 0 = plainB c := by
          intro b; unfold condDb at_
          cases h : plainB c <;> simp [hc, h5, h]
        simp only [e0, scanD, if_neg hc, if_neg h5]
        simp [hc, goesOn, ih1]
theorem ref_goDomain (l : List UInt8) : refDomain l = goDomain l := by
  unfold refDomain goDomain
  rw [(split_scanD l).1]
  have h := (condDb_scan l).1
  have e : ∀ i, condDb true l i = condD l i := by
    intro i; unfold condDb condD; cases i <;> simp
  simp only [e] at h
  rw [Bool.eq_iff_iff]
  simp only [Bool.and_eq_true, decide_eq_true_eq, ← h]
  constructor
  · rintro ⟨⟨a, b⟩, c⟩; exact ⟨b, by rintro rfl; simp at a, c⟩
  · rintro ⟨b, a, c⟩; exact ⟨⟨by cases l <;> simp at a ⊢, b⟩, c⟩
end Go.Proofs.YtgmfhldfdnnafaaGreatDoor.Pl
namespace Go.Proofs.YtgmfhldfdnnafaaGreatDoor.Pl
abbrev Bs := List UInt8
/-- where a byte stands first; the length, if nowhere -/
def idxB (x : UInt8) : Bs → Nat
  | [] => 0
  | c :: cs => if c = x then 0 else idxB x cs + 1
theorem idxB_le (x : UInt8) (l : Bs) : idxB x l ≤ l.length := by
  induction l with
  | nil => simp [idxB]
  | cons c cs ih => simp only [idxB]; split <;> simp <;> omega
theorem idxB_at (x : UInt8) (l : Bs) (h : idxB x l < l.length) : l[idxB x l] = x := by
  induction l with
  | nil => simp at h
  | cons c cs ih =>
    by_cases hc : c = x
    · subst hc
      have : idxB c (c :: cs) = 0 := by simp [idxB]
      simp [this]
    · have e : idxB x (c :: cs) = idxB x cs + 1 := by simp [idxB, hc]
      simp only [e] at h ⊢
      simp only [List.getElem_cons_succ]
      exact ih (by simpa using h)
theorem idxB_before (x : UInt8) (l : Bs) : ∀ i (h : i < l.length), i < idxB x l → l[i] ≠ x := by
  induction l with
  | nil => intro i h; simp at h
  | cons c cs ih =>
    intro i h hi
    by_cases hc : c = x
    · simp [idxB, hc] at hi
    · have e : idxB x (c :: cs) = idxB x cs + 1 := by simp [idxB, hc]
      rw [e] at hi
      cases i with
      | zero => simpa using hc
      | succ j => simp only [List.getElem_cons_succ]; exact ih j (by simpa using h) (by omega)
theorem idxB_eq (x : UInt8) (l : Bs) (k : Nat) (hk : k < l.length) (hx : l[k] = x) (hb : ∀ i (_ : i < l.length), i < k → l[i] ≠ x) : idxB x l = k := by
  by_cases h1 : idxB x l < k
  · exact absurd (idxB_at x l (by omega)) (hb _ (by omega) h1)
  · by_cases h2 : k < idxB x l
    · exact absurd hx (idxB_before x l k hk h2)
    · omega
theorem idxB_none (x : UInt8) (l : Bs) (hb : ∀ (i : Nat) (_ : i < l.length), l[i] ≠ x) : idxB x l = l.length := by
  have := idxB_le x l
  by_cases h : idxB x l < l.length
  · exact absurd (idxB_at x l h) (hb _ h)
  · omega
theorem idxB_notmem (x : UInt8) (l : Bs) (h : x ∉ l) : idxB x l = l.length :=
  idxB_none x l (fun _ hi e => h (e ▸ List.getElem_mem hi))
theorem idxB_append_mem (x : UInt8) (l m : Bs) (h : x ∉ l) : idxB x (l ++ x :: m) = l.length := by
  induction l with
  | nil => simp [idxB]
  | cons c cs ih =>
    have hc : ¬ c = x := fun e => h (by simp [e])
    simp [idxB, hc, ih (fun e => h (by simp [e]))]
/-- the path at a text's beginning, as the program has it: local part, domain, what is behind it -/
def goTake (l : Bs) : Option (Bs × Bs × Bs) :=
  let e := idxB 62 l
  let inner := l.take e
  let begins := inner.head? == some 60
  let inner' := if begins then inner.drop 1 else inner
  let a := idxB 64 inner'
  let lo := inner'.take a
  let d := inner'.drop (a + 1)
  if (begins && decide (e < l.length) && (inner'.isEmpty || (decide (a < inner'.length) && goLocal lo && goDomain d))) = true then some (lo, d, l.drop (e + 1)) else none
/-- as the document has it: local part, domain, how many bytes -/
def refTake (l : Bs) : Option (Bs × Bs × Nat) :=
  let e := idxB 62 l
  let a := idxB 64 (l.take e)
  if e = l.length ∨ at_ l 0 ≠ 60 then none
  else if e = 1 then some ([], [], 2)
  else if a = e ∨ refLocal ((l.take a).drop 1) = false ∨ refDomain ((l.take e).drop (a + 1)) = false then none
  else some ((l.take a).drop 1, (l.take e).drop (a + 1), e + 1)
theorem go_refTake (l : Bs) : goTake l = (refTake l).map (fun r => (r.1, r.2.1, l.drop r.2.2)) := by
  unfold goTake refTake
  have hle := idxB_le 62 l
  by_cases he : idxB 62 l = l.length
  · simp [he]
  · have hlt : idxB 62 l < l.length := by omega
    cases l with
    | nil => simp [idxB] at he
    | cons c cs =>
      by_cases hc : c = 60
      · subst hc
        have e1 : idxB 62 (60 :: cs) = idxB 62 cs + 1 := by simp [idxB]
        have e2 : idxB 64 (60 :: List.take (idxB 62 cs) cs) = idxB 64 (List.take (idxB 62 cs) cs) + 1 := by simp [idxB]
        rw [e1] at hlt he
        have hcs : idxB 62 cs < cs.length := by simpa using hlt
        simp only [e1, List.take_succ_cons, e2, ref_goLocal, ref_goDomain]
        have hz : at_ (60 :: cs) 0 = 60 := rfl
        have hn : ¬ (idxB 62 cs + 1 = (60 :: cs).length ∨ at_ (60 :: cs) 0 ≠ 60) := by
          rw [hz]; simp only [List.length_cons, ne_eq, not_true, or_false]; omega
        rw [if_neg hn]
        by_cases h1 : idxB 62 cs = 0
        · have hx : cs ≠ [] := by rintro rfl; simp at hcs
          simp [h1, idxB, hx]
        · have h1' : ¬ (idxB 62 cs + 1 = 1) := by omega
          rw [if_neg h1']
          have hne : (List.take (idxB 62 cs) cs).isEmpty = false := by
            cases cs with
            | nil => simp at hcs
            | cons d t => 
              cases hk : idxB 62 (d :: t) with
              | zero => exact absurd hk h1
              | succ m => simp
          have hla := idxB_le 64 (List.take (idxB 62 cs) cs)
          have hll : (List.take (idxB 62 cs) cs).length = idxB 62 cs := by rw [List.length_take]; omega
          simp only [List.head?_cons, beq_self_eq_true, List.drop_succ_cons, List.drop_zero, if_true, hne, Bool.false_or, Bool.true_and, hlt, decide_true, hll]
          have ht : List.take (idxB 64 (List.take (idxB 62 cs) cs)) (List.take (idxB 62 cs) cs) = List.take (idxB 64 (List.take (idxB 62 cs) cs)) cs := by
            rw [List.take_take]; congr 1; omega
          rw [ht]
          by_cases ha : idxB 64 (List.take (idxB 62 cs) cs) = idxB 62 cs
          · simp [ha]
          · have ha' : idxB 64 (List.take (idxB 62 cs) cs) < idxB 62 cs := by omega
            cases hL : goLocal (List.take (idxB 64 (List.take (idxB 62 cs) cs)) cs) <;>
            cases hD : goDomain (List.drop (idxB 64 (List.take (idxB 62 cs) cs) + 1) (List.take (idxB 62 cs) cs)) <;> simp [ha, ha']
      · have hh : ((List.take (idxB 62 (c :: cs)) (c :: cs)).head? == some 60) = false := by
          cases hk : idxB 62 (c :: cs) with
          | zero => simp
          | succ m => simp [hc]
        have hz : at_ (c :: cs) 0 = c := rfl
        simp [hh, hz, hc]
/-- which paths have a text: both parts empty, or a local part and a domain -/
def rightB (lo d : Bs) : Bool := (lo.isEmpty && d.isEmpty) || (goLocal lo && goDomain d)
theorem scanL_bytes (l : Bs) : ∀ b, scanL b l = true → ∀ c ∈ l, c = 46 ∨ atomB c = true := by
  induction l with
  | nil => simp
  | cons c cs ih =>
    intro b h x hx
    simp only [scanL] at h
    by_cases hc : c = 46
    · simp only [hc, if_true, Bool.and_eq_true] at h
      rcases List.mem_cons.1 hx with rfl | hx
      · exact .inl hc
      · exact ih _ h.2 x hx
    · simp only [hc, if_false, Bool.and_eq_true] at h
      rcases List.mem_cons.1 hx with rfl | hx
      · exact .inr h.1
      · exact ih _ h.2 x hx
theorem scanD_bytes (l : Bs) : ∀ s, scanD s l = true → ∀ c ∈ l, c = 46 ∨ c = 45 ∨ plainB c = true := by
  induction l with
  | nil => simp
  | cons c cs ih =>
    intro b h x hx
    simp only [scanD] at h
    by_cases hc : c = 46
    · simp only [hc, if_true, Bool.and_eq_true] at h
      rcases List.mem_cons.1 hx with rfl | hx
      · exact .inl hc
      · exact ih _ h.2 x hx
    · by_cases h5 : c = 45
      · subst h5
        simp at h
        rcases List.mem_cons.1 hx with rfl | hx
        · exact .inr (.inl rfl)
        · exact ih _ h.2 x hx
      · simp only [hc, h5, if_false, Bool.and_eq_true] at h
        rcases List.mem_cons.1 hx with rfl | hx
        · exact .inr (.inr h.1)
        · exact ih _ h.2 x hx
theorem goLocal_notmem (l : Bs) (h : goLocal l = true) : (62 : UInt8) ∉ l ∧ (64 : UInt8) ∉ l := by
  unfold goLocal at h
  rw [(split_scanL l).1, Bool.and_eq_true] at h
  have := scanL_bytes l true h.2
  refine ⟨fun hm => ?_, fun hm => ?_⟩ <;> (have := this _ hm; revert this; decide)
theorem goDomain_notmem (l : Bs) (h : goDomain l = true) : (62 : UInt8) ∉ l ∧ (64 : UInt8) ∉ l := by
  unfold goDomain at h
  rw [(split_scanD l).1, Bool.and_eq_true] at h
  have := scanD_bytes l 0 h.2
  refine ⟨fun hm => ?_, fun hm => ?_⟩ <;> (have := this _ hm; revert this; decide)
theorem goLocal_ne (l : Bs) (h : goLocal l = true) : l ≠ [] := by
  rintro rfl; revert h; decide
theorem goDomain_ne (l : Bs) (h : goDomain l = true) : l ≠ [] := by
  rintro rfl; revert h; decide
/-- what Text writes, Take reads -/
theorem take_text (lo d : Bs) (hl : goLocal lo = true) (hd : goDomain d = true) : goTake ([60] ++ (lo ++ [64] ++ d) ++ [62]) = some (lo, d, []) := by
  have e1 : idxB 62 (lo ++ 64 :: (d ++ [62])) = lo.length + 1 + d.length := by
    have h := idxB_append_mem 62 (lo ++ 64 :: d) [] (by
      simp only [List.mem_append, List.mem_cons, not_or]
      exact ⟨(goLocal_notmem lo hl).1, by decide, (goDomain_notmem d hd).1⟩)
    simp only [List.append_assoc, List.cons_append, List.length_append, List.length_cons] at h
    rw [h]; omega
  have e2 : idxB 64 (lo ++ 64 :: d) = lo.length := idxB_append_mem 64 lo d (goLocal_notmem lo hl).2
  unfold goTake
  simp only [List.cons_append, List.nil_append, List.append_assoc]
  have e0 : idxB 62 (60 :: (lo ++ 64 :: (d ++ [62]))) = lo.length + 1 + d.length + 1 := by
    rw [← e1]; simp [idxB]
  have ht : List.take (lo.length + 1 + d.length) (lo ++ 64 :: (d ++ [62])) = lo ++ 64 :: d := by
    have : lo ++ 64 :: (d ++ [62]) = (lo ++ 64 :: d) ++ [62] := by simp
    rw [this, List.take_left' (by simp; omega)]
  simp only [e0, List.take_succ_cons, ht, List.head?_cons, beq_self_eq_true, if_true, List.drop_succ_cons, List.drop_zero, e2]
  have h3 : List.take lo.length (lo ++ 64 :: d) = lo := by simp
  have h4 : List.drop (lo.length + 1) (lo ++ 64 :: d) = d := by simp
  have h5 : List.drop (lo.length + 1 + d.length + 1) (lo ++ 64 :: (d ++ [62])) = [] := by simp; omega
  simp only [h3, h4, h5, hl, hd]
  simp
  omega
theorem take_nobody : goTake ([60] ++ [62]) = some ([], [], []) := by decide

/-! two with a dot between -/
theorem scanL_dot (a b : Bs) : ∀ s, scanL s a = true → scanL s (a ++ 46 :: b) = scanL true b := by
  induction a with
  | nil => intro s h; simp only [scanL] at h; simp [scanL, h]
  | cons c cs ih =>
    intro s h
    simp only [List.cons_append, scanL] at h ⊢
    by_cases hc : c = 46
    · simp only [hc, if_true, Bool.and_eq_true] at h ⊢; rw [ih _ h.2, h.1]; rfl
    · simp only [hc, if_false, Bool.and_eq_true] at h ⊢; rw [ih _ h.2, h.1]; rfl
theorem scanD_dot (a b : Bs) : ∀ s, scanD s a = true → scanD s (a ++ 46 :: b) = scanD 0 b := by
  induction a with
  | nil => intro s h; simp only [scanD] at h; simp [scanD, h]
  | cons c cs ih =>
    intro s h
    simp only [List.cons_append, scanD] at h ⊢
    by_cases hc : c = 46
    · simp only [hc, if_true, Bool.and_eq_true] at h ⊢; rw [ih _ h.2, h.1]; rfl
    · by_cases h5 : c = 45
      · subst h5; simp at h ⊢; rw [ih _ h.2]; simp [h.1]
      · simp only [hc, h5, if_false, Bool.and_eq_true] at h ⊢; rw [ih _ h.2, h.1]; rfl
theorem scanL_end (a : Bs) : ∀ s, scanL s (a ++ [46]) = false := by
  induction a with
  | nil => intro s; cases s <;> rfl
  | cons c cs ih =>
    intro s; simp only [List.cons_append, scanL]; simp [ih]
theorem scanD_end (a : Bs) : ∀ s, scanD s (a ++ [46]) = false := by
  induction a with
  | nil => intro s; simp [scanD]
  | cons c cs ih =>
    intro s; simp only [List.cons_append, scanD]; simp [ih]
theorem local_dots (a b : Bs) (ha : goLocal a = true) (hb : goLocal b = true) : goLocal (a ++ [46] ++ b) = decide (a.length + b.length + 1 ≤ 64) := by
  unfold goLocal at *
  simp only [(split_scanL _).1, Bool.and_eq_true, List.append_assoc, List.cons_append, List.nil_append] at *
  rw [scanL_dot a b true ha.2, hb.2]
  simp only [Bool.and_true, List.length_append, List.length_cons]
  congr 1
  all_goals (first | omega | (simp only [eq_iff_iff]; omega))
theorem domain_dots (a b : Bs) (ha : goDomain a = true) (hb : goDomain b = true) : goDomain (a ++ [46] ++ b) = decide (a.length + b.length + 1 ≤ 100) := by
  unfold goDomain at *
  simp only [(split_scanD _).1, Bool.and_eq_true, List.append_assoc, List.cons_append, List.nil_append] at *
  rw [scanD_dot a b 0 ha.2, hb.2]
  simp only [Bool.and_true, List.length_append, List.length_cons]
  congr 1
  all_goals (first | omega | (simp only [eq_iff_iff]; omega))
theorem local_end (a : Bs) : goLocal (a ++ [46]) = false := by
  unfold goLocal; rw [(split_scanL _).1, scanL_end]; simp
theorem domain_end (a : Bs) : goDomain (a ++ [46]) = false := by
  unfold goDomain; rw [(split_scanD _).1, scanD_end]; simp
theorem local_begin (a : Bs) : goLocal ([46] ++ a) = false := by
  unfold goLocal; rw [(split_scanL _).1]; simp [scanL]
theorem domain_begin (a : Bs) : goDomain ([46] ++ a) = false := by
  unfold goDomain; rw [(split_scanD _).1]; simp [scanD]
theorem local_nil : goLocal [] = false := by decide
theorem domain_nil : goDomain [] = false := by decide
end Go.Proofs.YtgmfhldfdnnafaaGreatDoor.Pl
namespace Go.Proofs.YtgmfhldfdnnafaaGreatDoor
open Go.RowKit
open Pl (idxB Bs)

/-- a text's bytes -/
abbrev bs (s : ByteArray) : Bs := s.data.toList
/-- a byte's place as Go has it -/
def idxI (x : UInt8) (l : Bs) : Int := if idxB x l < l.length then (idxB x l : Int) else -1
theorem idxI_lib (x : UInt8) (l : Bs) : Lib.indexByte l x = idxI x l := by
  induction l with
  | nil => rfl
  | cons c cs ih =>
    have hle := Pl.idxB_le x cs
    by_cases hc : c = x
    · subst hc
      have e : idxB c (c :: cs) = 0 := by simp [idxB]
      simp [Lib.indexByte, idxI, e]
    · have e : idxB x (c :: cs) = idxB x cs + 1 := by simp [idxB, hc]
      simp only [Lib.indexByte, ih, idxI, e, beq_iff_eq, hc, if_false, List.length_cons, Nat.add_lt_add_iff_right]
      by_cases h : idxB x cs < cs.length
      · simp only [h, if_true]
        rw [if_neg (by omega)]
        omega
      · simp only [h, if_false, if_true]

set_option maxHeartbeats 1000000 in
set_option maxRecDepth 100000 in
theorem indexByteLite_walk (s : ByteArray) (c : Int) (w : World) :
    Calls Tryz.prog 114 #[.string s, .int .u8 c] w fun e w' => e = .returned (.int .i64 (idxI c.toNat.toUInt8 (bs s))) ∧ w = w' := by
  go_enter Tryz.func114, Tryz.ntmps114
  go_wp2
  rw [run_callFunc_extern Tryz.func142 (by kernel_rfl) (by kernel_rfl) (by kernel_rfl) (e := Extern.BytealgIndexByte.indexByte) (by kernel_rfl), Lib.run_indexByteString]
  simp only [Result.andThen]
  rw [Oper.upon_value]
  go_wp2
  go_ret
  exact ⟨by rw [← idxI_lib]; rfl, rfl⟩

set_option maxHeartbeats 400000 in
theorem indexByte_walk (s : ByteArray) (c : Int) (w : World) :
    Calls Tryz.prog 95 #[.string s, .int .u8 c] w fun e w' => e = .returned (.int .i64 (idxI c.toNat.toUInt8 (bs s))) ∧ w = w' := by
  go_enter Tryz.func95, Tryz.ntmps95
  go_wp2_with fail
  refine (indexByteLite_walk _ _ _).mono ?_
  rintro e w' ⟨rfl, rfl⟩
  go_wp2
  go_ret
  exact ⟨rfl, rfl⟩

theorem idxI_self (x : UInt8) : idxI x [x] = 0 := by simp [idxI, idxB]

set_option maxHeartbeats 400000 in
set_option maxRecDepth 100000 in
theorem indexLite_walk (s : ByteArray) (x : UInt8) (w : World) :
    Calls Tryz.prog 94 #[.string s, .string ⟨#[x]⟩] w fun e w' => e = .returned (.int .i64 (idxI x (bs s))) ∧ w = w' := by
  have e1 : ((⟨#[x]⟩ : ByteArray).size : Int) = 1 := rfl
  by_cases hs : ([x] == s.toList) = true
  · have e0 : idxI x (bs s) = 0 := by
      have h := (beq_iff_eq.1 hs).symm
      rw [Lib.toList_data] at h
      rw [bs, h, idxI_self]
    rw [e0]
    clear e0
    go_enter Tryz.func94, Tryz.ntmps94
    go_wp2_with fail
    go_ret
    exact ⟨rfl, rfl⟩
  · have hb : ([x] == s.toList) = false := by simpa using hs
    clear hs
    go_enter Tryz.func94, Tryz.ntmps94
    go_wp2_with fail
    refine (indexByteLite_walk _ _ _).mono ?_
    rintro e w' ⟨rfl, rfl⟩
    have e2 : ((({ data := #[x] } : ByteArray)[0].toNat : Int)).toNat.toUInt8 = x := by
      show ((x.toNat : Int)).toNat.toUInt8 = x
      simp
    rw [e2]
    clear e2
    go_wp2
    go_ret
    exact ⟨rfl, rfl⟩

set_option maxHeartbeats 400000 in
theorem index_walk (s : ByteArray) (x : UInt8) (w : World) :
    Calls Tryz.prog 162 #[.string s, .string ⟨#[x]⟩] w fun e w' => e = .returned (.int .i64 (idxI x (bs s))) ∧ w = w' := by
  go_enter Tryz.func162, Tryz.ntmps162
  go_wp2_with fail
  refine (indexLite_walk _ _ _).mono ?_
  rintro e w' ⟨rfl, rfl⟩
  go_wp2
  go_ret
  exact ⟨rfl, rfl⟩

/-! cut at one byte -/
def cutL (x : UInt8) (s : ByteArray) : ByteArray := s.extract 0 (idxB x (bs s))
def cutR (x : UInt8) (s : ByteArray) : ByteArray := s.extract (idxB x (bs s) + 1) s.size
def cutF (x : UInt8) (s : ByteArray) : Bool := decide (idxB x (bs s) < (bs s).length)
theorem bs_size (s : ByteArray) : (bs s).length = s.size := by simp [bs]
theorem bs_cutL (x : UInt8) (s : ByteArray) : bs (cutL x s) = (bs s).take (idxB x (bs s)) := by
  simp [bs, cutL]
theorem bs_cutR (x : UInt8) (s : ByteArray) : bs (cutR x s) = (bs s).drop (idxB x (bs s) + 1) := by
  unfold bs cutR
  rw [Lib.extract_data]
  exact List.take_of_length_le (by simp)
theorem bs_inj {s t : ByteArray} (h : bs s = bs t) : s = t := by
  obtain ⟨⟨l⟩⟩ := s
  obtain ⟨⟨m⟩⟩ := t
  simp only [bs] at h
  subst h
  rfl
theorem cutL_miss {x : UInt8} {s : ByteArray} (h : ¬ idxB x (bs s) < (bs s).length) : cutL x s = s := by
  apply bs_inj
  rw [bs_cutL, List.take_of_length_le (by have := Pl.idxB_le x (bs s); omega)]
theorem cutR_miss {x : UInt8} {s : ByteArray} (h : ¬ idxB x (bs s) < (bs s).length) : cutR x s = ⟨#[]⟩ := by
  apply bs_inj
  rw [bs_cutR, List.drop_of_length_le (by omega)]
set_option maxHeartbeats 400000 in
set_option maxRecDepth 100000 in
theorem cutLite_walk (s : ByteArray) (x : UInt8) (w : World) (hs : s.size ≤ 9223372036854775807) :
    Calls Tryz.prog 65 #[.string s, .string ⟨#[x]⟩] w fun e w' => e = .returned (.tuple #[.string (cutL x s), .string (cutR x s), .bool (cutF x s)]) ∧ ∃ q, w' = w.drewN q := by
  have hle := Pl.idxB_le x (bs s)
  have hz := bs_size s
  by_cases h : idxB x (bs s) < (bs s).length
  · have e0 : idxI x (bs s) = (idxB x (bs s) : Int) := by rw [idxI, if_pos h]
    have e1 : cutF x s = true := by rw [cutF]; exact decide_eq_true h
    have e2 : cutL x s = s.extract 0 (idxB x (bs s)) := rfl
    have e3 : cutR x s = s.extract (idxB x (bs s) + 1) s.size := rfl
    rw [e1, e2, e3]
    rw [hz] at hle h
    clear e1 e2 e3 hz
    generalize idxB x (bs s) = k at e0 hle h ⊢
    have E0 := Lib.hid e0
    clear e0
    go_enter Tryz.func65, Tryz.ntmps65
    go_wp2_with fail
    refine (indexLite_walk _ _ _).mono ?_
    rintro e w' ⟨rfl, rfl⟩
    rw [E0.out]
    clear E0
    have w1 : IntKind.i64.wrap ((k : Int) + 1) = (k : Int) + 1 := IntWalk.i64_in _ (by omega)
    have t1 : ((k : Int) + 1).toNat = k + 1 := by omega
    go_wp2
    go_quiet (fail)
    go_wp2
    go_ret3
    exact ⟨rfl, _, rfl⟩
  · have e0 : idxI x (bs s) = -1 := by rw [idxI, if_neg h]
    have e1 : cutF x s = false := by rw [cutF]; exact decide_eq_false h
    rw [e1, cutL_miss h, cutR_miss h]
    have E0 := Lib.hid e0
    clear e0 e1 hz h hle
    go_enter Tryz.func65, Tryz.ntmps65
    go_wp2_with fail
    refine (indexLite_walk _ _ _).mono ?_
    rintro e w' ⟨rfl, rfl⟩
    rw [E0.out]
    go_wp2
    go_ret3
    exact ⟨rfl, 0, rfl⟩

set_option maxHeartbeats 400000 in
theorem cut_walk (s : ByteArray) (x : UInt8) (w : World) (hs : s.size ≤ 9223372036854775807) :
    Calls Tryz.prog 22 #[.string s, .string ⟨#[x]⟩] w fun e w' => e = .returned (.tuple #[.string (cutL x s), .string (cutR x s), .bool (cutF x s)]) ∧ ∃ q, w' = w.drewN q := by
  go_enter Tryz.func22, Tryz.ntmps22
  go_wp2_with fail
  refine (cutLite_walk _ _ _ hs).mono ?_
  rintro e w' ⟨rfl, q, rfl⟩
  go_wp2
  go_ret3
  exact ⟨rfl, q, rfl⟩

/-! a prefix of one byte -/
def preF (x : UInt8) (s : ByteArray) : Bool := (bs s).head? == some x
def preR (x : UInt8) (s : ByteArray) : ByteArray := if preF x s = true then s.extract 1 s.size else s
theorem preF_raw (x : UInt8) (s : ByteArray) (h : 1 ≤ s.size) : ((s.extract 0 1).toList == [x]) = preF x s := by
  have e : (s.extract 0 1).toList = (bs s).take 1 := by rw [Lib.toList_data, Lib.extract_data]; simp [bs]
  rw [e, preF]
  have hl : 1 ≤ (bs s).length := by rw [bs_size]; exact h
  cases hb : bs s with
  | nil => rw [hb] at hl; simp at hl
  | cons c t => simp
theorem preF_small (x : UInt8) (s : ByteArray) (h : ¬ 1 ≤ s.size) : preF x s = false := by
  have hl : (bs s).length = 0 := by rw [bs_size]; omega
  rw [preF, List.eq_nil_of_length_eq_zero hl]; rfl
set_option maxHeartbeats 400000 in
set_option maxRecDepth 100000 in
theorem hasPre_walk (s : ByteArray) (x : UInt8) (w : World) (hs : s.size ≤ 9223372036854775807) :
    Calls Tryz.prog 119 #[.string s, .string ⟨#[x]⟩] w fun e w' => e = .returned (.bool (preF x s)) ∧ w = w' := by
  have e1 : ((⟨#[x]⟩ : ByteArray).size : Int) = 1 := rfl
  by_cases h : 1 ≤ s.size
  · have e := preF_raw x s h
    have E := Lib.hid e
    clear e
    go_enter Tryz.func119, Tryz.ntmps119
    go_wp2_with fail
    go_ret
    exact ⟨by rw [← E.out]; rfl, rfl⟩
  · rw [preF_small x s h]
    go_enter Tryz.func119, Tryz.ntmps119
    go_wp2_with fail
    go_ret
    exact ⟨rfl, rfl⟩
theorem preF_pos {x : UInt8} {s : ByteArray} (h : preF x s = true) : 1 ≤ s.size := by
  by_cases h1 : 1 ≤ s.size
  · exact h1
  · rw [preF_small x s h1] at h; cases h
theorem bs_preR (x : UInt8) (s : ByteArray) : bs (preR x s) = if preF x s = true then (bs s).drop 1 else bs s := by
  unfold preR
  split
  · unfold bs; rw [Lib.extract_data]; exact List.take_of_length_le (by simp)
  · rfl
set_option maxHeartbeats 400000 in
set_option maxRecDepth 100000 in
theorem cutPreLite_walk (s : ByteArray) (x : UInt8) (w : World) (hs : s.size ≤ 9223372036854775807) :
    Calls Tryz.prog 118 #[.string s, .string ⟨#[x]⟩] w fun e w' => e = .returned (.tuple #[.string (preR x s), .bool (preF x s)]) ∧ w = w' := by
  have e1 : ((⟨#[x]⟩ : ByteArray).size : Int) = 1 := rfl
  by_cases h : preF x s = true
  · have h1 := preF_pos h
    have er : preR x s = s.extract 1 s.size := by rw [preR, if_pos h]
    rw [er, h]
    have H := Lib.hid h
    clear h er
    go_enter Tryz.func118, Tryz.ntmps118
    go_wp2_with fail
    refine (hasPre_walk _ _ _ hs).mono ?_
    rintro e w' ⟨rfl, rfl⟩
    rw [H.out]
    go_wp2
    go_ret2
    exact ⟨rfl, rfl⟩
  · have er : preR x s = s := by rw [preR, if_neg h]
    have h : preF x s = false := by simpa using h
    rw [er, h]
    have H := Lib.hid h
    clear h er
    go_enter Tryz.func118, Tryz.ntmps118
    go_wp2_with fail
    refine (hasPre_walk _ _ _ hs).mono ?_
    rintro e w' ⟨rfl, rfl⟩
    rw [H.out]
    go_wp2
    go_ret2
    exact ⟨rfl, rfl⟩
set_option maxHeartbeats 400000 in
theorem cutPre_walk (s : ByteArray) (x : UInt8) (w : World) (hs : s.size ≤ 9223372036854775807) :
    Calls Tryz.prog 96 #[.string s, .string ⟨#[x]⟩] w fun e w' => e = .returned (.tuple #[.string (preR x s), .bool (preF x s)]) ∧ w = w' := by
  go_enter Tryz.func96, Tryz.ntmps96
  go_wp2_with fail
  refine (cutPreLite_walk _ _ _ hs).mono ?_
  rintro e w' ⟨rfl, rfl⟩
  go_wp2
  go_ret2
  exact ⟨rfl, rfl⟩
end Go.Proofs.YtgmfhldfdnnafaaGreatDoor
namespace Go.Proofs.YtgmfhldfdnnafaaGreatDoor
open Go.RowKit Go.Shelf
open Pl (idxB Bs splitB)
attribute [local go_sem] Oper.semAt_some

/-- the iterator's own cells: what is still to be split, the byte, and 0 -/
structure SplitBox (pb sb zb : Nat) (x : UInt8) (s : ByteArray) (W : World) : Prop where
  sep : W.heap[pb]? = some (.cells #[.string ⟨#[x]⟩] 9 (0, 0))
  str : W.heap[sb]? = some (.cells #[.string s] 9 (0, 0))
  zero : W.heap[zb]? = some (.cells #[.int .i64 0] 3 (0, 0))

/-- the world behind 'strings.SplitSeq(s, "x")' -/
def splitWorld (w : World) (x : UInt8) (s : ByteArray) : World := ((w.alloc (.cells #[.string s] 9)).alloc (.cells #[.string ⟨#[x]⟩] 9)).alloc (.cells #[.int .i64 0] 3)
abbrev splitFn (w : World) : Value := .func (.func 160) #[] #[.pointer (some ⟨w.heap.size + 1, 0, none⟩), .pointer (some ⟨w.heap.size, 0, none⟩), .pointer (some ⟨w.heap.size + 2, 0, none⟩)]

set_option maxHeartbeats 400000 in
theorem splitSeq_walk (s : ByteArray) (x : UInt8) (w : World) :
    Calls Tryz.prog 130 #[.string s, .string ⟨#[x]⟩] w fun e w' => e = .returned (splitFn w) ∧ w' = splitWorld w x s := by
  go_enter Tryz.func130, Tryz.ntmps130
  go_wp2
  go_ret
  exact ⟨rfl, rfl⟩

theorem splitB_hit (x : UInt8) (l : Bs) (h : idxB x l < l.length) : splitB x l = l.take (idxB x l) :: splitB x (l.drop (idxB x l + 1)) := by
  induction l with
  | nil => simp at h
  | cons c cs ih =>
    by_cases hc : c = x
    · have e : idxB x (c :: cs) = 0 := by simp [idxB, hc]
      rw [e]; simp [splitB, hc]
    · have e : idxB x (c :: cs) = idxB x cs + 1 := by simp [idxB, hc]
      rw [e] at h ⊢
      have := ih (by simpa using h)
      simp only [splitB, if_neg hc, this, List.take_succ_cons, List.drop_succ_cons]
theorem splitB_miss (x : UInt8) (l : Bs) (h : ¬ idxB x l < l.length) : splitB x l = [l] := by
  induction l with
  | nil => rfl
  | cons c cs ih =>
    by_cases hc : c = x
    · exact absurd (by simp [idxB, hc]) h
    · have e : idxB x (c :: cs) = idxB x cs + 1 := by simp [idxB, hc]
      rw [e] at h
      have := ih (by simpa using h)
      simp only [splitB, if_neg hc, this]

/-- how much is still to be split, read off the world -/
noncomputable def leftOf (sb : Nat) (W : World) : Nat := match W.cell? ⟨sb, 0, none⟩ with
  | some (.string s) => s.size
  | _ => 0

theorem setCell_other {W : World} {b : Nat} {o : Obj} (h : W.heap[b]? = some o) {a : Addr} (u : Value) (hne : b ≠ a.block) : (W.setCell a u).heap[b]? = some o :=
  (Below.heap_setCell W a u b hne).trans h
theorem SplitBox.step {pb sb zb : Nat} {x : UInt8} {s : ByteArray} {W : World} (h : SplitBox pb sb zb x s W) (hp : pb ≠ sb) (hz : zb ≠ sb) (s' : ByteArray) : SplitBox pb sb zb x s' (W.setCell ⟨sb, 0, none⟩ (.string s')) :=
  ⟨setCell_other h.sep _ hp, one_setCell h.str, setCell_other h.zero _ hz⟩
theorem leftOf_box {pb sb zb : Nat} {x : UInt8} {s : ByteArray} {W : World} (h : SplitBox pb sb zb x s W) : leftOf sb W = s.size := by
  unfold leftOf; rw [cell_of_one h.str]

set_option maxRecDepth 100000 in
set_option maxHeartbeats 1000000 in
/-- THE ITERATOR: for every loop body that keeps the iterator's cells. -/
theorem split_iter (n : Nat) (l pb sb zb : Nat) (x : UInt8) (s0 : ByteArray) (J Jx : List Bs → World → Prop) (W : World) (hp : pb ≠ sb) (hz : zb ≠ sb) (hs0 : s0.size ≤ 140737488351232)
    (hJ : ∀ pre W v, J pre W → J pre (W.setCell ⟨sb, 0, none⟩ v))
    (hY : ∀ pre (p : ByteArray) s W1, J pre W1 → SplitBox pb sb zb x s W1 → p.size ≤ s0.size → YieldAt Fence.wide (n - 1) Tryz.prog l #[.string p] W1 fun e W' =>
      (e = .returned (.bool true) ∧ J (pre ++ [bs p]) W' ∧ SplitBox pb sb zb x s W') ∨ (e = .returned (.bool false) ∧ Jx (pre ++ [bs p]) W'))
    (hB : SplitBox pb sb zb x s0 W) (h0 : J [] W) :
    CallsIn Fence.wide n Tryz.prog 160 #[.func (.yield l) #[] #[], .pointer (some ⟨pb, 0, none⟩), .pointer (some ⟨sb, 0, none⟩), .pointer (some ⟨zb, 0, none⟩)] W fun e W' =>
      (∃ v, e = .returned v) ∧ (J (splitB x (bs s0)) W' ∨ ∃ pre, pre <+: splitB x (bs s0) ∧ Jx pre W') := by
  refine callsIn_of_wp Tryz.func160 rfl trivial ?_ rfl
  simp only [Tryz.ntmps160, List.size_toArray, List.length_cons, List.length_nil, Nat.reduceAdd, Nat.reduceSub, Array.replicate_succ, Array.replicate_zero, List.push_toArray, List.append_toArray, List.nil_append, List.cons_append]
  have c1 := cell_of_one hB.sep
  have HB0 := Lib.hid hB
  have H0 := Lib.hid h0
  have HY := Lib.hid hY
  have HJ := Lib.hid hJ
  clear hB h0 hY hJ
  gi_wp2
  gi_loopw [7] (fun _ wr => ∃ (pre : List Bs) (s : ByteArray), Hid (splitB x (bs s0) = pre ++ splitB x (bs s)) ∧ s.size ≤ s0.size ∧ Hid (J pre wr) ∧ Hid (SplitBox pb sb zb x s wr)) (fun _ wr => leftOf sb wr)
  case atStart => exact ⟨[], s0, Lib.hid rfl, Nat.le_refl _, H0, HB0⟩
  case round =>
    obtain ⟨pre, s, HS, hsz, HJ1, HB1⟩ := hrel
    have k1 := cell_of_one HB1.out.sep
    have k2 := cell_of_one HB1.out.str
    have k3 := cell_of_one HB1.out.zero
    have k4 := free_of_one HB1.out.str
    have hle := Pl.idxB_le x (bs s)
    rw [bs_size] at hle
    by_cases hh : idxB x (bs s) < (bs s).length
    · have e0 : idxI x (bs s) = (idxB x (bs s) : Int) := by rw [idxI, if_pos hh]
      have hs1 := splitB_hit x (bs s) hh
      rw [bs_size] at hh
      have hx1 : bs (s.extract 0 (idxB x (bs s))) = (bs s).take (idxB x (bs s)) := bs_cutL x s
      have hx2 : bs (s.extract (idxB x (bs s) + 1) s.size) = (bs s).drop (idxB x (bs s) + 1) := bs_cutR x s
      have E0 := Lib.hid e0
      have HS1 := Lib.hid hs1
      have HX1 := Lib.hid hx1
      have HX2 := Lib.hid hx2
      clear e0 hs1 hx1 hx2
      generalize idxB x (bs s) = k at *
      obtain ⟨fn, tmps, assign, body, hy, hR⟩ := HY.out pre (s.extract 0 k) s wr HJ1.out HB1.out (by simp; omega)
      gi_wp2_with fail
      refine ⟨trivial, fun h => (by cases h), ?_⟩
      refine (callsIn_wide.2 (index_walk _ _ _)).mono ?_
      rintro e w' ⟨rfl, rfl⟩
      rw [E0.out]
      gi_wp2_with fail
      refine ⟨fun h => (by cases h), ?_⟩
      refine hR.mono ?_
      rintro e W3 (⟨rfl, hJ3, hB3⟩ | ⟨rfl, hJx3⟩)
      · clear k1 k2 k3 k4 hy hR
        have k1 := cell_of_one hB3.sep
        have k2 := cell_of_one hB3.str
        have k3 := cell_of_one hB3.zero
        have k4 := free_of_one hB3.str
        have HJ3 := Lib.hid hJ3
        have HB3 := Lib.hid hB3
        clear hJ3 hB3
        have hne : k + 1 ≤ s.size := by omega
        gi_wp2
        go_roundw
        case rel =>
          refine ⟨pre ++ [bs (s.extract 0 k)], s.extract (k + 1) s.size, Lib.hid ?_, ?_, Lib.hid (HJ.out _ _ _ HJ3.out), Lib.hid (HB3.out.step hp hz _)⟩
          · rw [HS.out, HS1.out, HX1.out, HX2.out]; simp
          · simp; omega
        case measure =>
          rw [leftOf_box (HB3.out.step hp hz _), leftOf_box HB1.out]
          simp; omega
      · gi_wp2
        refine bodyPost_ret (results_none rfl _ _ _) rfl ?_
        refine ⟨⟨_, rfl⟩, .inr ⟨pre ++ [bs (s.extract 0 k)], ?_, hJx3⟩⟩
        rw [HS.out, HS1.out, HX1.out]
        exact ⟨splitB x ((bs s).drop (k + 1)), by simp⟩
    · have e0 : idxI x (bs s) = -1 := by rw [idxI, if_neg hh]
      have hs1 := splitB_miss x (bs s) hh
      have E0 := Lib.hid e0
      have HS1 := Lib.hid hs1
      clear e0 hs1 hh hle
      obtain ⟨fn, tmps, assign, body, hy, hR⟩ := HY.out pre s s wr HJ1.out HB1.out hsz
      gi_wp2_with fail
      refine ⟨trivial, fun h => (by cases h), ?_⟩
      refine (callsIn_wide.2 (index_walk _ _ _)).mono ?_
      rintro e w' ⟨rfl, rfl⟩
      rw [E0.out]
      gi_wp2_with fail
      refine ⟨fun h => (by cases h), ?_⟩
      refine hR.mono ?_
      rintro e W3 (⟨rfl, hJ3, hB3⟩ | ⟨rfl, hJx3⟩)
      · have HJ3 := Lib.hid hJ3
        clear hJ3 hB3 k1 k2 k3 k4 hy hR
        gi_wp2
        go_end0
        refine ⟨⟨_, rfl⟩, .inl ?_⟩
        rw [HS.out, HS1.out]
        exact HJ3.out
      · clear k1 k2 k3 k4 hy hR
        have HJ3 := Lib.hid hJx3
        clear hJx3
        gi_wp2
        go_end0
        refine ⟨⟨_, rfl⟩, .inr ⟨pre ++ [bs s], ?_, HJ3.out⟩⟩
        rw [HS.out, HS1.out]
        exact List.prefix_refl _
end Go.Proofs.YtgmfhldfdnnafaaGreatDoor
namespace Go.Proofs.YtgmfhldfdnnafaaGreatDoor
open Go.RowKit Go.Shelf
open Pl (idxB Bs splitB)

/-- the blocks of T lie as they lay -/
def Stay (T : Nat → Prop) (W W' : World) : Prop := ∀ k o, T k → W.heap[k]? = some o → W'.heap[k]? = some o
theorem Stay.refl (T : Nat → Prop) (W : World) : Stay T W W := fun _ _ _ h => h
theorem Stay.trans {T : Nat → Prop} {A B C : World} (h : Stay T A B) (k : Stay T B C) : Stay T A C := fun i o hi ho => k i o hi (h i o hi ho)
theorem Stay.alloc (T : Nat → Prop) (W : World) (o : Obj) : Stay T W (W.alloc o) := fun _ _ _ h => (Below.heap_alloc W o _ (Array.getElem?_eq_some_iff.1 h).1).trans h
theorem Stay.drewN (T : Nat → Prop) (W : World) (q : Nat) : Stay T W (W.drewN q) := fun _ _ _ h => h
theorem Stay.setCell {T : Nat → Prop} (W : World) {a : Addr} (u : Value) (h : ¬ T a.block) : Stay T W (W.setCell a u) := fun _ _ hk ho => setCell_other ho u (fun e => h (e ▸ hk))
theorem Stay.below {T : Nat → Prop} {W W' : World} (h : Below W.heap.size W W') : Stay T W W' := fun k _ _ ho => (h.block k (Array.getElem?_eq_some_iff.1 ho).1).trans ho

/-- the blocks that the loop's body must leave alone: the iterator's cells, the loop's record, the block for deferred calls -/
def splitT (pb sb zb D : Nat) (k : Nat) : Prop := k = pb ∨ k = sb ∨ k = zb ∨ k = D ∨ k = D + 1
theorem SplitBox.stay {pb sb zb D : Nat} {x : UInt8} {s : ByteArray} {W W' : World} (h : SplitBox pb sb zb x s W) (k : Stay (splitT pb sb zb D) W W') : SplitBox pb sb zb x s W' :=
  ⟨k _ _ (.inl rfl) h.sep, k _ _ (.inr (.inl rfl)) h.str, k _ _ (.inr (.inr (.inl rfl))) h.zero⟩
theorem SplitBox.put {pb sb zb : Nat} {x : UInt8} {s : ByteArray} {W : World} (h : SplitBox pb sb zb x s W) {l : Nat} (o : Obj) (h1 : pb ≠ l) (h2 : sb ≠ l) (h3 : zb ≠ l) : SplitBox pb sb zb x s (W.putObj l o) :=
  ⟨(World.putObj_heap_other h1).trans h.sep, (World.putObj_heap_other h2).trans h.str, (World.putObj_heap_other h3).trans h.zero⟩
theorem setCell_size (W : World) (a : Addr) (u : Value) : (W.setCell a u).heap.size = W.heap.size := by simp

/-- how the body of a round may be left -/
def splitPost (T : Nat → Prop) (I : List Bs → World → Prop) (Ix : Code → List Bs → World → Prop) (pre : List Bs) (W : World) : Exit → Act → World → Prop
  | .normal, _, W' => Stay T W W' ∧ I pre W'
  | .ret, _, W' => Stay T W W' ∧ Ix .ret pre W'
  | .exit id, _, W' => Stay T W W' ∧ Ix (.exit id) pre W'
  | .goto t, _, W' => Stay T W W' ∧ Ix (.goto t) pre W'
  | .panic _, _, _ => False
  | .outgrown, _, _ => False

theorem wpIn_split (n : Nat) {g : Operand} {ps : Array Tmp} {assign body : Code} {Q : Exit → Act → World → Prop} {a : Act} {w : World} {pb sb zb : Nat} {x : UInt8} {s0 : ByteArray}
    (hg : a.eval g = .func (.func 160) #[] #[.pointer (some ⟨pb, 0, none⟩), .pointer (some ⟨sb, 0, none⟩), .pointer (some ⟨zb, 0, none⟩)]) (hps : ps.size = 1)
    (hp : pb ≠ sb) (hz : zb ≠ sb) (hs0 : s0.size ≤ 140737488351232) (hB : SplitBox pb sb zb x s0 w)
    (I : List Bs → World → Prop) (Ix : Code → List Bs → World → Prop)
    (hIs : ∀ pre W v, I pre W → I pre (W.setCell ⟨sb, 0, none⟩ v)) (hIl : ∀ pre W o, w.heap.size < W.heap.size → I pre W → I pre (W.putObj (w.heap.size + 1) o)) (hIxl : ∀ c pre W o, w.heap.size < W.heap.size → Ix c pre W → Ix c pre (W.putObj (w.heap.size + 1) o))
    (h0 : ∀ o, I [] ((w.alloc (.deferred (some []))).alloc o)) (a₁ : ByteArray → Act)
    (hassign : ∀ (l : Nat) (p : ByteArray) (W : World) (K : Act → World → Prop), K (a₁ p) W →
      assign.wpIn (Fence.wide.inRound l) (n - 1 - 1) Tryz.prog (Exit.then K (fun _ _ _ => False)) { tmps := (ps.zip #[.string p]).foldl (fun t (q, v) => t.setIfInBounds q v) a.tmps, defers := [] } W)
    (hbody : ∀ (l : Nat) (pre : List Bs) (p s : ByteArray) (W : World), I pre W → SplitBox pb sb zb x s W → p.size ≤ s0.size → w.heap.size + 1 < W.heap.size →
      body.wpIn (Fence.wide.inRound l) (n - 1 - 1) Tryz.prog (splitPost (splitT pb sb zb w.heap.size) I Ix (pre ++ [bs p]) W) (a₁ p) W)
    (hdone : ∀ W, I (splitB x (bs s0)) W → W.heap[w.heap.size]? = some (.deferred (some [])) → Q .normal { a with defers := { target := .collected w.heap.size, args := #[] } :: a.defers } W)
    (hstop : ∀ c pre W, pre <+: splitB x (bs s0) → Ix c pre W → W.heap[w.heap.size]? = some (.deferred (some [])) → c.wpIn Fence.wide n Tryz.prog Q { a with defers := { target := .collected w.heap.size, args := #[] } :: a.defers } W) :
    (Code.rangeFunc g ps assign body).wpIn Fence.wide n Tryz.prog Q a w := by
  refine wpIn_rangeFunc ?_
  intro fn hfn
  obtain ⟨rec, hrec⟩ : ∃ rec : LoopState → Option Code → Loop, rec = fun st pe => { state := st, pending := pe, fn, tmps := a.tmps, params := ps, assign, body, defers := w.heap.size } := ⟨_, rfl⟩
  obtain ⟨W1, hW1⟩ : ∃ W1, (w.alloc (.deferred (some []))).alloc (.loop (rec .ready none)) = W1 := ⟨_, rfl⟩
  have lt1 := (Array.getElem?_eq_some_iff.1 hB.sep).1
  have lt2 := (Array.getElem?_eq_some_iff.1 hB.str).1
  have lt3 := (Array.getElem?_eq_some_iff.1 hB.zero).1
  have hL1 : W1.heap[w.heap.size + 1]? = some (.loop (rec .ready none)) := by
    rw [← hW1]; have := World.alloc_heap_new (w.alloc (.deferred (some []))) (.loop (rec .ready none)); rwa [World.size_alloc] at this
  have hK1 : W1.heap[w.heap.size]? = some (.deferred (some [])) := by
    rw [← hW1]; exact (Below.heap_alloc _ _ _ (by simp)).trans (World.alloc_heap_new w _)
  have hB1 : SplitBox pb sb zb x s0 W1 := by
    rw [← hW1]
    have hst : Stay (fun _ => True) w ((w.alloc (.deferred (some []))).alloc (.loop (rec .ready none))) := (Stay.alloc _ _ _).trans (Stay.alloc _ _ _)
    exact ⟨hst _ _ trivial hB.sep, hst _ _ trivial hB.str, hst _ _ trivial hB.zero⟩
  have hI1 : I [] W1 := by rw [← hW1]; exact h0 _
  refine ⟨w.heap.size + 1, [{ target := .collected w.heap.size, args := #[] }], W1, { target := .fn (.func 160) #[.pointer (some ⟨pb, 0, none⟩), .pointer (some ⟨sb, 0, none⟩), .pointer (some ⟨zb, 0, none⟩)], args := #[.func (.yield (w.heap.size + 1)) #[] #[]] }, W1, 160,
    #[.func (.yield (w.heap.size + 1)) #[] #[], .pointer (some ⟨pb, 0, none⟩), .pointer (some ⟨sb, 0, none⟩), .pointer (some ⟨zb, 0, none⟩)], W1, ?_, ?_, ?_, ?_, fun h => (by cases h), ?_⟩
  · rw [← hW1, hrec]; exact run_enterLoop_outer _ _ _ _ _
  · simp only [resolve, hg]
    simp [go_sem]
  · intro f' _; trivial
  · simp [invoke, go_sem]
  · refine (split_iter (n - 1) (w.heap.size + 1) pb sb zb x s0
      (fun pre W => I pre W ∧ W.heap[w.heap.size + 1]? = some (.loop (rec .ready none)) ∧ W.heap[w.heap.size]? = some (.deferred (some [])))
      (fun pre W => ∃ c, Ix c pre W ∧ W.heap[w.heap.size + 1]? = some (.loop (rec .done (some c))) ∧ W.heap[w.heap.size]? = some (.deferred (some [])))
      W1 hp hz hs0
      (fun pre W v h => ⟨hIs _ _ _ h.1, setCell_other h.2.1 _ (by simp; omega), setCell_other h.2.2 _ (by simp; omega)⟩)
      ?_ hB1 ⟨hI1, hL1, hK1⟩).mono ?_
    · -- ONE ROUND
      rintro pre p s W ⟨hi, hl, hk⟩ hBx hpz
      have hlt : w.heap.size + 1 < W.heap.size := (Array.getElem?_eq_some_iff.1 hl).1
      have hy := run_yield (P := Tryz.prog) (args := #[.string p]) hl (by rw [hrec]; simpa using hps.symm)
      rw [hrec] at hy
      refine ⟨fn, _, assign, body, hy, roundIn_of_wpIn hfn (hassign _ p W _ ⟨_, run_beginRound hl (by rw [hrec]), ?_⟩)⟩
      have hl2 : (W.putObj (w.heap.size + 1) (.loop { rec .ready none with state := .busy })).heap[w.heap.size + 1]? = some (.loop { rec .ready none with state := .busy }) := World.putObj_heap_same hlt
      have hk2 : (W.putObj (w.heap.size + 1) (.loop { rec .ready none with state := .busy })).heap[w.heap.size]? = some (.deferred (some [])) := (World.putObj_heap_other (by omega)).trans hk
      have hB2 : SplitBox pb sb zb x s (W.putObj (w.heap.size + 1) (.loop { rec .ready none with state := .busy })) := hBx.put _ (by omega) (by omega) (by omega)
      refine wpIn_mono (hbody _ pre p s _ (hIl _ _ _ (by omega) hi) hB2 hpz (by rw [World.putObj_size]; exact hlt)) ?_
      have fin : ∀ (jump : Option Code) (W3 : World), Stay (splitT pb sb zb w.heap.size) (W.putObj (w.heap.size + 1) (.loop { rec .ready none with state := .busy })) W3 →
          (Instr.endRound (w.heap.size + 1) jump).run Tryz.prog W3 = .ok (.bool jump.isNone) (W3.putObj (w.heap.size + 1) (.loop (rec (if jump.isNone then .ready else .done) jump))) ∧
          w.heap.size < W3.heap.size ∧
          (W3.putObj (w.heap.size + 1) (.loop (rec (if jump.isNone then .ready else .done) jump))).heap[w.heap.size + 1]? = some (.loop (rec (if jump.isNone then .ready else .done) jump)) ∧
          (W3.putObj (w.heap.size + 1) (.loop (rec (if jump.isNone then .ready else .done) jump))).heap[w.heap.size]? = some (.deferred (some [])) ∧
          SplitBox pb sb zb x s (W3.putObj (w.heap.size + 1) (.loop (rec (if jump.isNone then .ready else .done) jump))) := fun jump W3 hk3 => by
        have hl3 := hk3 _ _ (.inr (.inr (.inr (.inr rfl)))) hl2
        have hd3 := hk3 _ _ (.inr (.inr (.inr (.inl rfl)))) hk2
        have := run_endRound (P := Tryz.prog) jump hl3
        rw [hrec] at this ⊢
        exact ⟨this, by have := (Array.getElem?_eq_some_iff.1 hl3).1; omega, World.putObj_heap_same (Array.getElem?_eq_some_iff.1 hl3).1, (World.putObj_heap_other (by omega)).trans hd3, (hB2.stay hk3).put _ (by omega) (by omega) (by omega)⟩
      rintro e a3 W3 hpost
      cases e with
      | normal =>
        obtain ⟨hk3, hi3⟩ := hpost
        obtain ⟨hr, hz3, hl4, hk4, hB4⟩ := fin none W3 hk3
        exact ⟨_, _, hr, .inl ⟨rfl, ⟨hIl _ _ _ hz3 hi3, hl4, hk4⟩, hB4⟩⟩
      | ret =>
        obtain ⟨hk3, hi3⟩ := hpost
        obtain ⟨hr, hz3, hl4, hk4, _⟩ := fin (some .ret) W3 hk3
        exact ⟨_, _, hr, .inr ⟨rfl, .ret, hIxl _ _ _ _ hz3 hi3, hl4, hk4⟩⟩
      | exit id =>
        obtain ⟨hk3, hi3⟩ := hpost
        obtain ⟨hr, hz3, hl4, hk4, _⟩ := fin (some (.exit id)) W3 hk3
        exact ⟨_, _, hr, .inr ⟨rfl, .exit id, hIxl _ _ _ _ hz3 hi3, hl4, hk4⟩⟩
      | goto t =>
        obtain ⟨hk3, hi3⟩ := hpost
        obtain ⟨hr, hz3, hl4, hk4, _⟩ := fin (some (.goto t)) W3 hk3
        exact ⟨_, _, hr, .inr ⟨rfl, .goto t, hIxl _ _ _ _ hz3 hi3, hl4, hk4⟩⟩
      | panic ch => exact hpost.elim
      | outgrown => exact hpost.elim
    · -- BEHIND THE ITERATOR
      rintro e W2 ⟨⟨v, rfl⟩, (⟨hi, hl, hk⟩ | ⟨pre, hpre, c, hi, hl, hk⟩)⟩
      · exact ⟨none, _, by have := run_endLoop (P := Tryz.prog) hl (by rw [hrec]; simp); rw [hrec] at this; exact this, hdone _ (hIl _ _ _ (Array.getElem?_eq_some_iff.1 hk).1 hi) ((World.putObj_heap_other (by omega)).trans hk)⟩
      · exact ⟨some c, _, by have := run_endLoop (P := Tryz.prog) hl (by rw [hrec]; simp); rw [hrec] at this; exact this, hstop c pre _ hpre (hIxl _ _ _ _ (Array.getElem?_eq_some_iff.1 hk).1 hi) ((World.putObj_heap_other (by omega)).trans hk)⟩
end Go.Proofs.YtgmfhldfdnnafaaGreatDoor
namespace Go.Proofs.YtgmfhldfdnnafaaGreatDoor
open Go.RowKit
theorem own_base {w : World} {base : Nat} {e : TypeId} {size n : Nat} {v : Value} {xs : List Value} (h : w.ownsRow base e size v n xs) : ∀ k, v.ownBlock = some k → base ≤ k := by
  intro k hk
  rcases h.2 with ⟨rfl, _⟩ | ⟨g, cap, cur, rfl, hb, _⟩
  · cases hk
  · have : g = k := by simpa [Value.ownBlock] using hk
    omega
/-- behind an append to a row of the call's own: what lay below the call's base lies as it lay -/
theorem below_append {w wr w1 : World} {base base' : Nat} {e : TypeId} {size n : Nat} {v : Value} {xs : List Value} {W2 : World} (hB : Below base w wr) (hg : wr.grownBy w1 v.ownBlock) (hown : W2.ownsRow base' e size v n xs) (hbb : base ≤ base') (hs : base ≤ wr.heap.size) : Below base w w1 :=
  hB.grown hg hs (fun k hk => Nat.le_trans hbb (own_base hown k hk))
theorem add_at (g j : Nat) : (⟨g, 0, none⟩ : Addr).add j = ⟨g, j, none⟩ := by
  unfold Addr.add; split <;> simp_all
/-- an owned row of numbers read as a slice -/
theorem own_cells {w : World} {base n : Nat} {e : TypeId} {k : IntKind} {v : Value} {xs : List Int} (h : w.ownsRow base e 1 v n (xs.map (Value.int k))) :
    xs.length = n ∧ ∃ A c, v = .slice A n c ∧ (0 < n → ∃ g, A = some ⟨g, 0, none⟩ ∧ g < w.heap.size ∧ base ≤ g ∧ ∀ j, j < n → w.cell? ⟨g, j, none⟩ = some (.int k (xs.getD j 0))) := by
  have hl : xs.length = n := by simpa using h.1
  refine ⟨hl, ?_⟩
  rcases h.2 with ⟨rfl, rfl⟩ | ⟨g, cap, cur, rfl, hb, hh, h1, h2, h3, h4⟩
  · exact ⟨none, 0, rfl, fun hp => absurd hp (by omega)⟩
  · refine ⟨_, _, rfl, fun _ => ⟨g, rfl, (Array.getElem?_eq_some_iff.1 hh).1, hb, fun j hj => ?_⟩⟩
    have := h.cells (g := g) rfl j (.int k (xs.getD j 0)) (by simp [List.getElem?_eq_getElem (show j < xs.length by omega), List.getD_eq_getElem?_getD])
    rw [add_at] at this
    exact this
theorem below_then {w W1 W2 : World} (h : Below w.heap.size w W1) (k : Below W1.heap.size W1 W2) : Below w.heap.size w W2 := h.trans (k.mono h.size)
theorem own_below {w w1 : World} {base : Nat} {e : TypeId} {size n : Nat} {v : Value} {xs : List Value} (h : w.ownsRow base e size v n xs) (hb : Below w.heap.size w w1) : w1.ownsRow base e size v n xs :=
  h.kept (row := none) ⟨hb.os, hb.tape, hb.output, hb.size, fun i hi _ => hb.block i hi⟩ (by cases v.ownBlock <;> simp)
/-- '[]T{}': a row of its own, of no elements -/
theorem own_empty (w : World) (e : TypeId) (size : Nat) : (w.alloc (.cells #[] e)).ownsRow w.heap.size e size (.slice (some ⟨w.heap.size, 0, none⟩) 0 0) 0 [] :=
  ⟨by simp, .inr ⟨w.heap.size, 0, #[], rfl, Nat.le_refl _, heap_alloc_new w _, Nat.le_refl _, Nat.zero_le _, by simp, by simp⟩⟩
theorem below_draws {B : Nat} {w W : World} (h : Below B w W) (q : Nat) : Below B w (W.drewN q) := ⟨h.os, h.tape, h.output, h.size, h.block⟩
end Go.Proofs.YtgmfhldfdnnafaaGreatDoor
namespace Go.Proofs.YtgmfhldfdnnafaaGreatDoor
open Go Go.ChangeShapes Go.WideShapes Go.Deep Go.RowKit
variable {H : Type} {enc : TypeId × Value → H} {P : Program} {w : World} {base : Nat} {spare : Nat → Bool} {held : Bool}

/-- element i's field j: its cell, and that the cell reads at the field's type -/
theorem structs_cells {t e : TypeId} {fs : Array Field} {fuel : Nat} {cs : List Value} {x : DataW H × List MemPlace} (ht : P.underlying t = some (.slice e)) (he : P.underlying e = some (.struct fs))
    (hone : oneCellFields P fs = true) (hC : P.cellsOf e = fs.size) (h : DataW.trod enc P w base spare held fuel t cs = some x) :
    cs = [.slice none 0 0] ∨
    ∃ (a : Addr) (len cap : Nat) (F : Nat → Nat → Value), cs = [.slice (some a) len cap] ∧ base ≤ a.block ∧ len ≤ cap ∧ cap ≤ maxLen ∧
      ∀ i j f, i < len → fs[j]? = some f → w.cell? (a.add (i * fs.size + j)) = some (F i j) ∧ ∃ n y, DataW.trod enc P w base spare held n f.type [F i j] = some y := by
  rcases open_slice ht h with ⟨h0, _⟩ | ⟨a, len, cap, m, n, D, Pl, hcs, hb, hl, hm, hmm, _, hel⟩
  · exact .inl h0
  · refine .inr ⟨a, len, cap, fun i j => (w.cell? (a.add (i * fs.size + j))).getD (.bool false), hcs, hb, hl, hm, fun i j f hi hj => ?_⟩
    have him : i < m := by rw [hmm]; split <;> omega
    obtain ⟨cs', hc, ht'⟩ := hel i him
    rw [hC] at hc
    obtain ⟨_, hlen, hat⟩ := World.cells?_some hc
    obtain ⟨ys, n', _, _, _, _, hf⟩ := DataW.trod_struct he ht'
    obtain ⟨ho, hk⟩ := hone_of hone j f hj
    have hjl : j < fs.size := (Array.getElem?_eq_some_iff.1 hj).1
    have hget := hat j hjl
    rw [add_add, List.getElem?_eq_getElem (by omega)] at hget
    have hread := hf j f hj
    rw [ho, hk, List.drop_eq_getElem_cons (by omega : j < cs'.length), List.take_succ_cons, List.take_zero] at hread
    simp only [hget, Option.getD_some]
    refine ⟨trivial, n', ?_⟩
    cases hy : ys[j]? with
    | some y => exact ⟨y, by rw [hread, hy]⟩
    | none =>
      exfalso
      obtain ⟨ys', n'', _, _, _, hyl, hf'⟩ := DataW.trod_struct he ht'
      have h1 := hf' j f hj
      rw [ho, hk, List.drop_eq_getElem_cons (by omega : j < cs'.length), List.take_succ_cons, List.take_zero, List.getElem?_eq_getElem (by omega)] at h1
      rename_i hn _ _ _
      simp_all

/-- where there is an element the address is a plain one -/
theorem plain_addr {a : Addr} {v : Value} (h : w.cell? (a.add 0) = some v) : ∃ b off, a = ⟨b, off, none⟩ := by
  obtain ⟨b, off, spot⟩ := a
  have hspot : spot = none := by simpa [Addr.add] using World.cell?_spot h
  subst hspot
  exact ⟨b, off, rfl⟩
theorem cell_lt {a : Addr} {v : Value} (h : w.cell? a = some v) : a.block < w.heap.size := World.block_lt_of_cell? w a h
theorem one_int {t : TypeId} {k : IntKind} {n : Nat} {v : Value} {y : DataW H × List MemPlace} (ht : P.underlying t = some (.int k)) (h : DataW.trod enc P w base spare held n t [v] = some y) : v.oneCell' = true := by
  obtain ⟨z, e, _⟩ := DataW.trod_int ht h
  obtain rfl : v = _ := by simpa using e
  rfl
theorem one_str {t : TypeId} {n : Nat} {v : Value} {y : DataW H × List MemPlace} (ht : P.underlying t = some .string) (h : DataW.trod enc P w base spare held n t [v] = some y) : v.oneCell' = true := by
  obtain ⟨z, e, _⟩ := DataW.trod_string ht h
  obtain rfl : v = _ := by simpa using e
  rfl
theorem one_slice {t e : TypeId} {n : Nat} {v : Value} {y : DataW H × List MemPlace} (ht : P.underlying t = some (.slice e)) (h : DataW.trod enc P w base spare held n t [v] = some y) : v.oneCell' = true := by
  rcases open_slice ht h with ⟨h0, _⟩ | ⟨a, len, cap, _, _, _, _, h0, _⟩ <;> (obtain rfl : v = _ := by simpa using h0) <;> rfl
end Go.Proofs.YtgmfhldfdnnafaaGreatDoor
namespace Go.Proofs.YtgmfhldfdnnafaaGreatDoor
open Go.RowKit
set_option linter.unusedSimpArgs false
set_option linter.unusedVariables false
/-- a set: a slice that reads as a list of ranges -/
def RangesAt (w : World) (A : Option Addr) (n : Nat) (xs : List (Int × Int)) : Prop :=
  xs.length = n ∧ n ≤ 9223372036854775807 ∧ (0 < n → ∃ g o, A = some ⟨g, o, none⟩ ∧ g < w.heap.size ∧ ∀ j, j < n → w.cell? ⟨g, o + j * 2, none⟩ = some (.int .i64 (xs.getD j (0, 0)).1) ∧ w.cell? ⟨g, o + j * 2 + 1, none⟩ = some (.int .i64 (xs.getD j (0, 0)).2))
theorem RangesAt.then {w w1 : World} {A : Option Addr} {n : Nat} {xs : List (Int × Int)} (h : RangesAt w A n xs) (hb : Below w.heap.size w w1) : RangesAt w1 A n xs := by
  refine ⟨h.1, h.2.1, fun hp => ?_⟩
  obtain ⟨g, o, rfl, hg, hc⟩ := h.2.2 hp
  exact ⟨g, o, rfl, Nat.lt_of_lt_of_le hg hb.size, fun j hj => ⟨(hb.cell (p := ⟨g, _, none⟩) hg).trans (hc j hj).1, (hb.cell (p := ⟨g, _, none⟩) hg).trans (hc j hj).2⟩⟩
def hasP (f t n m : Int) : Prop := 1 ≤ n ∧ (((if f = 0 then m else f) ≤ n ∧ n ≤ (if t = 0 then m else t)) ∨ ((if t = 0 then m else t) ≤ n ∧ n ≤ (if f = 0 then m else f)))
instance (f t n m : Int) : Decidable (hasP f t n m) := by unfold hasP; infer_instance
def hasB (n m : Int) (r : Int × Int) : Bool := decide (hasP r.1 r.2 n m)
def topI (m : Int) : Int := if m < 0 then 0 else m
def inB (xs : List (Int × Int)) (n m : Int) : Bool := xs.any (hasB n (topI m))
theorem in_hit {xs : List (Int × Int)} {n m : Int} {k : Nat} (hk : k < xs.length) (h : hasP (xs.getD k (0, 0)).1 (xs.getD k (0, 0)).2 n (topI m)) : inB xs n m = true := by
  rw [inB, List.any_eq_true]
  refine ⟨xs[k], List.getElem_mem hk, ?_⟩
  rw [hasB, decide_eq_true_iff]
  simpa [List.getD_eq_getElem?_getD, List.getElem?_eq_getElem hk] using h
theorem in_none {xs : List (Int × Int)} {n m : Int} {k : Nat} (hk : k = xs.length) (h : ∀ j, j < k → ¬ hasP (xs.getD j (0, 0)).1 (xs.getD j (0, 0)).2 n (topI m)) : inB xs n m = false := by
  rw [inB, List.any_eq_false]
  intro x hx
  obtain ⟨j, hj, rfl⟩ := List.getElem_of_mem hx
  have := h j (by omega)
  rw [hasB, decide_eq_true_iff]
  simpa [List.getD_eq_getElem?_getD, List.getElem?_eq_getElem hj] using this
theorem upto_next {q : Nat → Prop} {k : Nat} (h : ∀ j, j < k → q j) (hk : q k) : ∀ j, j < k + 1 → q j := fun j hj => by
  by_cases e : j = k
  · subst e; exact hk
  · exact h j (by omega)
/-- a struct of two numbers, laid anew at a block -/
theorem two_laid (w : World) (x y : Int) {w3 w4 : World} (h3 : w.alloc (Obj.cells #[.int .i64 0, .int .i64 0] 72) = w3)
    (h4 : (w3.setCell ⟨w.heap.size, 0, none⟩ (.int .i64 x)).setCell ⟨w.heap.size, 1, none⟩ (.int .i64 y) = w4) :
    Below w.heap.size w w4 ∧ w4.heap[w.heap.size]? = some (Obj.cells #[.int .i64 x, .int .i64 y] 72) ∧ w3.heap[w.heap.size]? = some (Obj.cells #[.int .i64 0, .int .i64 0] 72) ∧ Below w.heap.size w w3 := by
  subst h4
  subst h3
  have h0 : (w.alloc (Obj.cells #[.int .i64 0, .int .i64 0] 72)).heap[w.heap.size]? = some (Obj.cells #[.int .i64 0, .int .i64 0] 72) := World.alloc_heap_new w _
  refine ⟨(((Below.refl _ _).alloc (Nat.le_refl _) _).setCell (Nat.le_refl _) _).setCell (Nat.le_refl _) _, ?_, h0, (Below.refl _ _).alloc (Nat.le_refl _) _⟩
  obtain ⟨hl, hx⟩ := Array.getElem?_eq_some_iff.1 h0
  simp [World.setCell, Array.getElem_modify]
  rw [hx]
  rfl
theorem two_cells {w : World} {b : Nat} {t : TypeId} {x y : Value} (h : w.heap[b]? = some (Obj.cells #[x, y] t)) :
    w.cell? ⟨b, 0, none⟩ = some x ∧ w.cell? ⟨b, 1, none⟩ = some y ∧ w.frozen? ⟨b, 0, none⟩ = false ∧ w.frozen? ⟨b, 1, none⟩ = false := by
  refine ⟨?_, ?_, ?_, ?_⟩
  · simp [World.cell?, h]
  · simp [World.cell?, h]
  · simp [World.frozen?, h]
  · simp [World.frozen?, h]
end Go.Proofs.YtgmfhldfdnnafaaGreatDoor
namespace Go.Proofs.YtgmfhldfdnnafaaGreatDoor
open Go.RowKit
set_option linter.unusedSimpArgs false
set_option linter.unusedVariables false
theorem ret_bool {x y : Bool} (h : x = y) : Ending.returned (.bool x) = Ending.returned (.bool y) := by rw [h]
theorem hasB_def (f t x m : Int) : hasB x m (f, t) = decide (1 ≤ x ∧ (((if f = 0 then m else f) ≤ x ∧ x ≤ (if t = 0 then m else t)) ∨ ((if t = 0 then m else t) ≤ x ∧ x ≤ (if f = 0 then m else f)))) := rfl
end Go.Proofs.YtgmfhldfdnnafaaGreatDoor
namespace Go.Proofs.YtgmfhldfdnnafaaGreatDoor
open Go.RowKit
open Pl (Bs digB val val_next val_small numOk numN numN_pos numN_zero num_len num_digit num_zero num_big num_yes endOk endN)
set_option linter.unusedSimpArgs false
set_option linter.unusedVariables false
theorem below_drew {B : Nat} {w W : World} (h : Below B w W) : Below B w W.drew := ⟨h.os, h.tape, h.output, h.size, h.block⟩
theorem sent_then {w w1 : World} {g : Nat} {v : Value} (h : w.cell? ⟨g, 0, none⟩ = some v) (hb : Below w.heap.size w w1) : w1.cell? ⟨g, 0, none⟩ = some v := (hb.cell (p := ⟨g, 0, none⟩) (World.block_lt_of_cell? w _ h)).trans h
/-- '[]byte(s)': new memory with the bytes -/
theorem bytes_laid (w : World) (s : ByteArray) : ∃ (w1 : World) (cap : Nat), (convert 9 46 (.string s)).run Tryz.prog w = .ok (.slice (some ⟨w.heap.size, 0, none⟩) s.size cap) w1 ∧ Below w.heap.size w w1 ∧ ∀ j (hj : j < s.size), w1.cell? ⟨w.heap.size, j, none⟩ = some (.int .u8 (s[j].toNat : Int)) := by
  refine ⟨_, _, run_bytes_of_string w _ _ 5 s Tryz.underlying9 Tryz.underlying46 Tryz.underlying5, ?_, ?_⟩
  · exact (below_drew (Below.refl _ _)).alloc (Nat.le_refl _) _
  · intro j hj
    exact (World.cell?_alloc_mark w.drew _ _ _ j).trans (bytesRow_at s _ j hj)
theorem at_bs (s : ByteArray) (k : Nat) (h : k < s.size) : (bs s)[k]'(by rw [bs_size]; exact h) = s[k] := by simp [bs]; rfl
theorem head_bs (s : ByteArray) (h : 0 < s.size) : (bs s).head? = some s[0] := by
  rw [← at_bs s 0 h]
  exact List.head?_eq_getElem? .. |>.trans (List.getElem?_eq_getElem _)
theorem byte_eq (c : UInt8) (n : Nat) (hn : n < 256) : (c = n.toUInt8) ↔ ((c.toNat : Int) = (n : Int)) := by
  have e : (Nat.toUInt8 n).toNat = n := by simp [Nat.toUInt8, UInt8.toNat_ofNat']; omega
  rw [← UInt8.toNat_inj, e]; omega
theorem size_zero {s : ByteArray} (h : s.size = 0) : s = ⟨#[]⟩ := bs_inj (List.eq_nil_of_length_eq_zero (by rw [bs_size]; exact h))
def numV (l : Bs) (v : Value) : Value := .tuple #[.int .i64 (numN l), if numOk l = true then .nilIface else v]
theorem numV_no {l : Bs} (h : numOk l = false) (v : Value) : numV l v = .tuple #[.int .i64 0, v] := by rw [numV, numN_zero l h, h]; rfl
set_option maxHeartbeats 4000000 in
set_option maxRecDepth 100000 in
theorem number_walk (s : ByteArray) (v : Value) (w : World) (hs : s.size ≤ 140737488351232) (hc : w.cell? ⟨0, 0, none⟩ = some v) (hv : ∃ t x, v = .iface t x) :
    Calls Tryz.prog 63 #[.string s] w fun e w' => e = .returned (numV (bs s) v) ∧ Below w.heap.size w w' := by
  obtain ⟨w1, cap, hcv, hB, hb⟩ := bytes_laid w s
  have hc1 := sent_then hc hB
  have HB := Lib.hid hB
  have HBs := Lib.hid hb
  clear hB hb hc
  obtain ⟨ty, x, rfl⟩ := hv
  by_cases z0 : s.size = 0
  · obtain rfl := size_zero z0
    have HV := Lib.hid (numV_no (num_len (bs ⟨#[]⟩) (.inl rfl)) (.iface ty x))
    clear z0
    go_enter Tryz.func63, Tryz.ntmps63
    go_wp2
    refine wp_loop_rounds 1 ?_
    rw [rounds_succ]
    go_wp2
    go_quiet (fail)
    go_wp2
    go_ret2
    exact ⟨by rw [HV.out]; rfl, below_draws HB.out _⟩
  · by_cases z1 : 10 < s.size
    · have HV := Lib.hid (numV_no (num_len (bs s) (.inr (by rw [bs_size]; exact z1))) (.iface ty x))
      have c0 := HBs.out 0 (by omega)
      go_enter Tryz.func63, Tryz.ntmps63
      go_wp2
      refine wp_loop_rounds 1 ?_
      rw [rounds_succ]
      go_wp2
      all_goals
        go_quiet (fail)
        go_wp2
        go_ret2
        exact ⟨by rw [HV.out]; rfl, below_draws HB.out _⟩
    · have zl : (bs s).length = s.size := bs_size s
      go_enter Tryz.func63, Tryz.ntmps63
      go_wp2
      go_loop [4, 10] (fun n i => ∃ k : Nat, k ≤ s.size ∧ i = .int .i64 k ∧ n = .int .i64 (val ((bs s).take k)) ∧ Hid (∀ c ∈ (bs s).take k, digB c = true)) (fun _ i => s.size - (intOf i).toNat)
      case atStart => exact ⟨0, Nat.zero_le _, rfl, rfl, Lib.hid (fun c h => by simp at h)⟩
      case round =>
        obtain ⟨k, hk, rfl, rfl, HA⟩ := hrel
        have hN : val ((bs s).take k) ≤ 9999999999 := by
          have h1 := val_small _ HA.out
          have h2 : 10 ^ ((bs s).take k).length ≤ 10 ^ 10 := Nat.pow_le_pow_right (by decide) (by rw [List.length_take]; omega)
          have h3 : (10 : Nat) ^ 10 = 10000000000 := by decide
          omega
        by_cases hlt : k < s.size
        · have c0 := HBs.out k hlt
          have hat := at_bs s k hlt
          by_cases hd : digB s[k] = true
          · have hd' := hd
            simp only [digB, Bool.and_eq_true, decide_eq_true_eq] at hd'
            obtain ⟨d1, d2⟩ := hd'
            have hv := val_next (bs s) k (by omega)
            rw [hat] at hv
            have HN := Lib.hid (show ∀ c ∈ (bs s).take (k + 1), digB c = true from fun c hc => by
              rw [List.take_succ_eq_append_getElem (by omega), List.mem_append] at hc
              rcases hc with hc | hc
              · exact HA.out c hc
              · rw [List.mem_singleton.1 hc, hat]; exact hd)
            generalize val ((bs s).take k) = N at *
            have hv' : (val ((bs s).take (k + 1)) : Int) = 10 * (N : Int) + ((s[k].toNat : Int) - 48) := by omega
            have HV := Lib.hid hv'
            clear hv hd hat hv'
            have b1 : (48 : Int) ≤ (s[k].toNat : Int) := by omega
            have b2 : (s[k].toNat : Int) ≤ 57 := by omega
            generalize (s[k].toNat : Int) = C at *
            go_wp2
            go_round
            case rel => exact ⟨k + 1, by omega, by go_num, by rw [HV.out], HN⟩
            case measure => simp [intOf]; omega
          · have HV := Lib.hid (numV_no (num_digit (bs s) k (by omega) (by rw [hat]; simpa using hd)) (.iface ty x))
            have hd' : s[k].toNat < 48 ∨ 57 < s[k].toNat := by
              simp only [digB, Bool.and_eq_true, decide_eq_true_eq] at hd; omega
            clear hd hat
            have b1 : (s[k].toNat : Int) < 48 ∨ 57 < (s[k].toNat : Int) := by omega
            clear hd'
            generalize (s[k].toNat : Int) = C at *
            by_cases b2 : C < 48
            · clear b1
              go_wp2
              go_quiet (fail)
              go_wp2
              go_ret2
              exact ⟨by rw [HV.out]; rfl, below_draws HB.out _⟩
            · have b3 : 57 < C := by omega
              have b4 : 48 ≤ C := by omega
              clear b1 b2
              go_wp2
              go_quiet (fail)
              go_wp2
              go_ret2
              exact ⟨by rw [HV.out]; rfl, below_draws HB.out _⟩
        · obtain rfl : k = s.size := by omega
          have ht : (bs s).take s.size = bs s := List.take_of_length_le (by omega)
          rw [ht] at hN HA ⊢
          have he : s.toList.isEmpty = false := by
            rw [Lib.toList_data]
            show (bs s).isEmpty = false
            cases e : bs s with
            | nil => rw [e] at zl; simp at zl; omega
            | cons => rfl
          have hh := head_bs s (by omega)
          by_cases h48 : (s[0].toNat : Int) = 48
          · have g48 : ((s[0].toNat : Int) == 48) = true := by rw [beq_iff_eq]; exact h48
            have HV := Lib.hid (numV_no (num_zero (bs s) (by rw [hh, (byte_eq s[0] 48 (by decide)).2 h48]; rfl)) (.iface ty x))
            clear h48 hh ht
            generalize val (bs s) = N at *
            go_wp2
            go_quiet (fail)
            go_wp2
            go_ret2
            exact ⟨by rw [HV.out]; rfl, below_draws HB.out _⟩
          · have g48 : ((s[0].toNat : Int) == 48) = false := by rw [beq_eq_false_iff_ne]; exact h48
            have hh' : ¬ (bs s).head? = some 48 := by
              rw [hh]; intro e
              exact h48 ((byte_eq s[0] 48 (by decide)).1 (Option.some.inj e))
            by_cases hbig : 2147483648 < val (bs s)
            · have HV := Lib.hid (numV_no (num_big (bs s) hbig) (.iface ty x))
              clear hh ht hh'
              generalize val (bs s) = N at *
              have hb' : (2147483648 : Int) < (N : Int) := by omega
              go_wp2
              go_quiet (fail)
              go_wp2
              go_ret2
              exact ⟨by rw [HV.out]; rfl, below_draws HB.out _⟩
            · have ho := num_yes (bs s) (by omega) (by omega) hh' HA.out (by omega)
              have HV := Lib.hid (show numV (bs s) (.iface ty x) = .tuple #[.int .i64 (val (bs s)), .nilIface] by rw [numV, numN, ho]; rfl)
              clear hh ht hh' ho
              generalize val (bs s) = N at *
              have hb' : (N : Int) ≤ (2147483648 : Int) := by omega
              go_wp2
              go_ret2
              exact ⟨by rw [HV.out]; rfl, HB.out⟩
end Go.Proofs.YtgmfhldfdnnafaaGreatDoor
namespace Go.Proofs.YtgmfhldfdnnafaaGreatDoor
open Go.RowKit
open Pl (Bs idxB)
set_option linter.unusedSimpArgs false
set_option linter.unusedVariables false
/-- a scanner at a block: what is left, and how many keys were read -/
structure ScanAt (w : World) (B : Nat) (s : ByteArray) (k : Int) : Prop where
  heap : w.heap[B]? = some (Obj.cells #[.string s, .int .i64 k] 64)
theorem ScanAt.lt {w : World} {B : Nat} {s : ByteArray} {k : Int} (h : ScanAt w B s k) : B < w.heap.size := (Array.getElem?_eq_some_iff.1 h.heap).1
theorem ScanAt.cells {w : World} {B : Nat} {s : ByteArray} {k : Int} (h : ScanAt w B s k) : w.cell? ⟨B, 0, none⟩ = some (.string s) ∧ w.cell? ⟨B, 1, none⟩ = some (.int .i64 k) ∧ w.frozen? ⟨B, 0, none⟩ = false ∧ w.frozen? ⟨B, 1, none⟩ = false := two_cells h.heap
theorem ScanAt.put {w : World} {B : Nat} {s : ByteArray} {k : Int} (h : ScanAt w B s k) (r : ByteArray) : ScanAt (w.setCell ⟨B, 0, none⟩ (.string r)) B r k := by
  exact ⟨by simp [World.setCell, Array.getElem?_modify, h.heap]⟩
theorem ScanAt.putKeys {w : World} {B : Nat} {s : ByteArray} {k : Int} (h : ScanAt w B s k) (j : Int) : ScanAt (w.setCell ⟨B, 1, none⟩ (.int .i64 j)) B s j := by
  exact ⟨by simp [World.setCell, Array.getElem?_modify, h.heap]⟩
theorem ScanAt.kept {w w1 : World} {B : Nat} {s : ByteArray} {k : Int} {row : Option Nat} (h : ScanAt w B s k) (hg : w.grownBy w1 row) (hne : some B ≠ row) : ScanAt w1 B s k := ⟨(hg.block B h.lt hne).trans h.heap⟩
theorem ScanAt.then {w w1 : World} {B : Nat} {s : ByteArray} {k : Int} (h : ScanAt w B s k) (hb : Below w.heap.size w w1) : ScanAt w1 B s k := ⟨(hb.block _ h.lt).trans h.heap⟩
theorem grown_put (w : World) (B i : Nat) (v : Value) : w.grownBy (w.setCell ⟨B, i, none⟩ v) (some B) :=
  ⟨rfl, rfl, rfl, by rw [World.size_setCell]; exact Nat.le_refl _, fun k hk hne => Below.heap_setCell w _ v k (fun e => hne (by rw [e]))⟩
theorem grown_below {w w1 : World} (hb : Below w.heap.size w w1) (row : Option Nat) : w.grownBy w1 row := ⟨hb.os, hb.tape, hb.output, hb.size, fun i hi _ => hb.block i hi⟩
theorem grown_refl (w : World) (row : Option Nat) : w.grownBy w row := ⟨rfl, rfl, rfl, Nat.le_refl _, fun _ _ _ => rfl⟩
theorem grown_draws (w : World) (q : Nat) (row : Option Nat) : w.grownBy (w.drewN q) row := ⟨rfl, rfl, rfl, Nat.le_refl _, fun _ _ _ => rfl⟩
/-- behind steps that change one new block alone -/
theorem below_grown {b B : Nat} {w0 w w1 : World} (h : Below b w0 w) (hg : w.grownBy w1 (some B)) (hB : b ≤ B) (hs : b ≤ w.heap.size) : Below b w0 w1 :=
  h.grown hg hs (fun k hk => by rw [← Option.some.inj hk]; exact hB)
abbrev scP (B : Nat) : Value := .pointer (some ⟨B, 0, none⟩)
/-- a text's beginning, off the library's words -/
theorem pre_yes {s t r : ByteArray} (h : s = t ++ r) : (⟨(Lib.trimPrefix s.data.toList t.data.toList).toArray⟩ : ByteArray) = r ∧ Lib.hasPrefix s.data.toList t.data.toList = true := by
  subst h
  have h1 : Lib.hasPrefix (t ++ r).data.toList t.data.toList = true := by
    rw [Lib.hasPrefix, List.isPrefixOf_iff_prefix, ByteArray.data_append, Array.toList_append]; exact List.prefix_append _ _
  refine ⟨?_, h1⟩
  rw [Lib.trimPrefix, h1, if_pos rfl, ByteArray.data_append, Array.toList_append, List.drop_left']
  rfl
theorem pre_no {s t : ByteArray} (h : Lib.hasPrefix s.data.toList t.data.toList = false) : (⟨(Lib.trimPrefix s.data.toList t.data.toList).toArray⟩ : ByteArray) = s := by
  rw [Lib.trimPrefix, h]; rfl
theorem must_walk (B : Nat) (w : World) : Calls Tryz.prog 27 #[scP B, .bool true] w fun e w' => e = .returned (.tuple #[]) ∧ w = w' := by
  go_enter Tryz.func27, Tryz.ntmps27
  go_wp2
  go_end0
  exact ⟨rfl, rfl⟩
set_option maxRecDepth 100000 in
theorem is_yes (B : Nat) (s t r : ByteArray) (k : Int) (hs : s = t ++ r) (w : World) (h : ScanAt w B s k) :
    Calls Tryz.prog 68 #[scP B, .string t] w fun e w' => e = .returned (.bool true) ∧ ScanAt w' B r k ∧ w.grownBy w' (some B) := by
  obtain ⟨p0, p1⟩ := pre_yes hs
  obtain ⟨c0, c1, f0, f1⟩ := h.cells
  have HP := Lib.hid (h.put r)
  have HG := Lib.hid (grown_put w B 0 (.string r))
  have K := Lib.hid (cutPre_walk21 s t w)
  rw [p0, p1] at K
  clear p0 p1 hs h
  go_enter Tryz.func68, Tryz.ntmps68
  go_wp2_with fail
  refine K.out.mono ?_
  rintro e w' ⟨rfl, rfl⟩
  go_wp2
  go_ret
  exact ⟨rfl, HP.out, HG.out⟩
set_option maxRecDepth 100000 in
theorem is_no (B : Nat) (s t : ByteArray) (k : Int) (hs : Lib.hasPrefix s.data.toList t.data.toList = false) (w : World) (h : ScanAt w B s k) :
    Calls Tryz.prog 68 #[scP B, .string t] w fun e w' => e = .returned (.bool false) ∧ ScanAt w' B s k ∧ w.grownBy w' (some B) := by
  have p0 := pre_no hs
  obtain ⟨c0, c1, f0, f1⟩ := h.cells
  have HP := Lib.hid (h.put s)
  have HG := Lib.hid (grown_put w B 0 (.string s))
  have K := Lib.hid (cutPre_walk21 s t w)
  rw [p0, hs] at K
  clear p0 hs h
  go_enter Tryz.func68, Tryz.ntmps68
  go_wp2_with fail
  refine K.out.mono ?_
  rintro e w' ⟨rfl, rfl⟩
  go_wp2
  go_ret
  exact ⟨rfl, HP.out, HG.out⟩
set_option maxRecDepth 100000 in
theorem blank_walk (B : Nat) (s r : ByteArray) (k : Int) (hs : s = ⟨#[32]⟩ ++ r) (w : World) (h : ScanAt w B s k) :
    Calls Tryz.prog 28 #[scP B] w fun e w' => e = .returned (.tuple #[]) ∧ ScanAt w' B r k ∧ w.grownBy w' (some B) := by
  have K := Lib.hid (is_yes B s ⟨#[32]⟩ r k hs w h)
  clear hs h
  go_enter Tryz.func28, Tryz.ntmps28
  go_wp2_with fail
  refine K.out.mono ?_
  rintro e w1 ⟨rfl, hS, hG⟩
  have HS := Lib.hid hS
  have HG := Lib.hid hG
  clear hS hG
  go_wp2_with fail
  refine (must_walk B _).mono ?_
  rintro e w' ⟨rfl, rfl⟩
  go_wp2
  go_end0
  exact ⟨rfl, HS.out, HG.out⟩
/-- may a byte stand in an atom? -/
def specB : Bs := [40, 41, 123, 37, 42, 34, 92]
def atomI (more : ByteArray) (c : Int) : Bool := decide (32 < c) && decide (c < 127) && (decide (idxI c.toNat.toUInt8 specB < 0) || decide (0 ≤ idxI c.toNat.toUInt8 (bs more)))
set_option maxRecDepth 100000 in
theorem atom21_walk (c : Int) (more : ByteArray) (w : World) :
    Calls Tryz.prog 66 #[.int .u8 c, .string more] w fun e w' => e = .returned (.bool (atomI more c)) ∧ w = w' := by
  have K1 := Lib.hid (indexByte_walk ⟨#[40, 41, 123, 37, 42, 34, 92]⟩ c w)
  have K2 := Lib.hid (indexByte_walk more c w)
  rw [show bs ⟨#[40, 41, 123, 37, 42, 34, 92]⟩ = specB from rfl] at K1
  have HD := Lib.hid (show atomI more c = (decide (32 < c) && decide (c < 127) && (decide (idxI c.toNat.toUInt8 specB < 0) || decide (0 ≤ idxI c.toNat.toUInt8 (bs more)))) from rfl)
  generalize idxI c.toNat.toUInt8 specB = i1 at *
  generalize idxI c.toNat.toUInt8 (bs more) = i2 at *
  by_cases h1 : 32 < c
  · by_cases h2 : c < 127
    · by_cases h3 : i1 < 0
      · have HV := Lib.hid (show atomI more c = true by rw [HD.out, decide_eq_true h1, decide_eq_true h2, decide_eq_true h3]; rfl)
        go_enter Tryz.func66, Tryz.ntmps66
        go_wp2_with fail
        refine K1.out.mono ?_
        rintro e w' ⟨rfl, rfl⟩
        go_wp2
        go_ret
        exact ⟨by rw [HV.out]; rfl, rfl⟩
      · have HV := Lib.hid (show atomI more c = (decide (i1 < 0) || decide (0 ≤ i2)) by rw [HD.out, decide_eq_true h1, decide_eq_true h2]; rfl)
        go_enter Tryz.func66, Tryz.ntmps66
        go_wp2_with fail
        refine K1.out.mono ?_
        rintro e w' ⟨rfl, rfl⟩
        go_wp2_with fail
        refine K2.out.mono ?_
        rintro e w' ⟨rfl, rfl⟩
        go_wp2
        go_ret
        exact ⟨by rw [HV.out]; rfl, rfl⟩
    · have HV := Lib.hid (show atomI more c = false by rw [HD.out, decide_eq_false h2]; simp)
      go_enter Tryz.func66, Tryz.ntmps66
      go_wp2
      go_ret
      exact ⟨by rw [HV.out]; rfl, rfl⟩
  · have HV := Lib.hid (show atomI more c = false by rw [HD.out, decide_eq_false h1]; simp)
    go_enter Tryz.func66, Tryz.ntmps66
    go_wp2
    go_ret
    exact ⟨by rw [HV.out]; rfl, rfl⟩
end Go.Proofs.YtgmfhldfdnnafaaGreatDoor
namespace Go.Proofs.YtgmfhldfdnnafaaGreatDoor.Pl
open Go.Lib (decDigits)
theorem dec_one {u : Nat} (h : u < 10) : decDigits u = [UInt8.ofNat (48 + u)] := by rw [decDigits, dif_pos h]
theorem dec_more {u : Nat} (h : ¬ u < 10) : decDigits u = decDigits (u / 10) ++ [UInt8.ofNat (48 + u % 10)] := by rw [decDigits, dif_neg h]
theorem dig_nat {k : Nat} (h : k < 10) : (UInt8.ofNat (48 + k)).toNat = 48 + k := by
  rw [UInt8.toNat_ofNat']; omega
theorem dec_ne (u : Nat) : decDigits u ≠ [] := by
  by_cases h : u < 10
  · rw [dec_one h]; simp
  · rw [dec_more h]; simp
theorem val_snoc (l : List UInt8) (c : UInt8) : val (l ++ [c]) = 10 * val l + (c.toNat - 48) := by rw [val, List.foldl_append]; rfl
theorem dec_val : ∀ u, val (decDigits u) = u := by
  intro u
  induction u using Nat.strongRecOn with
  | _ u ih =>
    by_cases h : u < 10
    · rw [dec_one h]
      show 10 * 0 + ((UInt8.ofNat (48 + u)).toNat - 48) = u
      rw [dig_nat h]; omega
    · rw [dec_more h, val_snoc, ih (u / 10) (by omega), dig_nat (by omega)]; omega
theorem dec_digits : ∀ u, ∀ c ∈ decDigits u, digB c = true := by
  intro u
  induction u using Nat.strongRecOn with
  | _ u ih =>
    have one : ∀ k, k < 10 → digB (UInt8.ofNat (48 + k)) = true := fun k hk => by
      simp only [digB, Bool.and_eq_true, decide_eq_true_eq, dig_nat hk]; omega
    by_cases h : u < 10
    · rw [dec_one h]; intro c hc; simp only [List.mem_singleton] at hc; subst hc; exact one u h
    · rw [dec_more h]; intro c hc
      rcases List.mem_append.1 hc with hc | hc
      · exact ih (u / 10) (by omega) c hc
      · simp only [List.mem_singleton] at hc; subst hc; exact one _ (by omega)
theorem dec_len : ∀ k u, u < 10 ^ (k + 1) → (decDigits u).length ≤ k + 1 := by
  intro k
  induction k with
  | zero => intro u hu; rw [dec_one (by simpa using hu)]; simp
  | succ k ih =>
    intro u hu
    by_cases h : u < 10
    · rw [dec_one h]; simp
    · rw [dec_more h, List.length_append]
      have := ih (u / 10) (by rw [Nat.div_lt_iff_lt_mul (by decide)]; rw [Nat.pow_succ] at hu; exact hu)
      simp only [List.length_singleton]; omega
theorem dec_head : ∀ u, 0 < u → ¬ (decDigits u).head? = some 48 := by
  intro u
  induction u using Nat.strongRecOn with
  | _ u ih =>
    intro h0
    by_cases h : u < 10
    · rw [dec_one h]
      intro e
      simp only [List.head?_cons, Option.some.injEq] at e
      have := congrArg UInt8.toNat e
      rw [dig_nat h] at this
      have h48 : (48 : UInt8).toNat = 48 := rfl
      omega
    · rw [dec_more h, List.head?_append]
      have := ih (u / 10) (by omega) (by omega)
      cases e : (decDigits (u / 10)).head? with
      | none => rw [List.head?_eq_none_iff] at e; exact absurd e (dec_ne _)
      | some c => rw [e] at this; simpa using this
theorem dec_numOk (u : Nat) (h0 : 0 < u) (h1 : u ≤ 2147483648) : numOk (decDigits u) = true := by
  refine num_yes _ ?_ (dec_len 9 u (by omega)) (dec_head u h0) (dec_digits u) (by rw [dec_val]; exact h1)
  have := dec_ne u
  cases e : decDigits u with
  | nil => exact absurd e this
  | cons => simp
theorem dec_numN (u : Nat) (h0 : 0 < u) (h1 : u ≤ 2147483648) : numN (decDigits u) = u := by
  rw [numN, if_pos (dec_numOk u h0 h1), dec_val]
end Go.Proofs.YtgmfhldfdnnafaaGreatDoor.Pl
namespace Go.Proofs.YtgmfhldfdnnafaaGreatDoor.Pl
/-- an item's two ends -/
def fromB (l : Bs) : Bs := l.take (idxB 58 l)
def toB (l : Bs) : Bs := if idxB 58 l < l.length then l.drop (idxB 58 l + 1) else fromB l
def okItem (l : Bs) : Bool := endOk (fromB l) && endOk (toB l)
def rangeV (l : Bs) : Int × Int := ((endN (fromB l) : Int), (endN (toB l) : Int))
def items (l : Bs) : List Bs := splitB 44 l
def setOk (l : Bs) : Bool := (items l).all okItem && decide ((items l).length ≤ 50)
def setL (l : Bs) : List (Int × Int) := if setOk l = true then (items l).map rangeV else []
/-- a prefix that fails: the set fails -/
theorem set_fails {l : Bs} {pre : List Bs} (hp : pre <+: items l) (h : (pre.all okItem && decide (pre.length ≤ 50)) = false) : setOk l = false := by
  obtain ⟨t, ht⟩ := hp
  cases e : setOk l with
  | false => rfl
  | true =>
    rw [setOk, ← ht, List.all_append, List.length_append] at e
    simp only [Bool.and_eq_true, decide_eq_true_eq] at e
    rw [e.1.1, decide_eq_true (by omega)] at h
    exact absurd h (by decide)
end Go.Proofs.YtgmfhldfdnnafaaGreatDoor.Pl
