/- What a row's list of variables gives a walk, entry by entry, of whatever program: a table's cells; a sentinel's pointer; that two sentinels are two pointers. -/
import Derived.Stop.LaidErr
import Derived.Lib.LaidTab
import Derived.MakeChecks
namespace Go.Proofs.YtcalbpdcjklffaaGreatDoor
open Go

/-- one entry of the list: its variable, its reading, its places among all places -/
theorem laid_part {P : Program} {W : World} {n : String} {d : DataW Unit} : ∀ {l : List (String × DataW Unit)} {ps : List MemPlace} {i : Nat}, DataW.LaidVars P W l ps → l[i]? = some (n, d) →
    ∃ g t cs fuel p, P.globalNamed n = some g ∧ (P.globals[g]?).map (·.type) = some t ∧ W.var? P n = some cs ∧ DataW.trod (fun _ => ()) P W 0 (fun _ => true) false fuel t cs.toList = some (d, p) ∧
      ∀ x, x ∈ MemPlace.row ⟨g, 0, none⟩ cs.size ++ p → x ∈ ps
  | [], _, _, _, h => by simp at h
  | (n', d') :: r, ps, 0, h, hi => by
    obtain ⟨g, t, cs, fuel, p, q, h1, h2, h3, h4, h5, rfl⟩ := h
    simp only [List.getElem?_cons_zero, Option.some.injEq, Prod.mk.injEq] at hi
    obtain ⟨rfl, rfl⟩ := hi
    exact ⟨g, t, cs, fuel, p, h1, h2, h3, h4, fun x hx => List.mem_append_left _ hx⟩
  | (n', d') :: r, ps, i + 1, h, hi => by
    obtain ⟨g, t, cs, fuel, p, q, h1, h2, h3, h4, h5, rfl⟩ := h
    obtain ⟨g', t', cs', fuel', p', e1, e2, e3, e4, e5⟩ := laid_part h5 (by simpa using hi)
    exact ⟨g', t', cs', fuel', p', e1, e2, e3, e4, fun x hx => List.mem_append_right _ (e5 x hx)⟩

/-- a table of numbers, wherever it stands on the list -/
theorem laid_table {P : Program} {W : World} {l : List (String × DataW Unit)} {name : String} {k : IntKind} {zs : List Int} {i g : Nat} {t e : TypeId} {n : Nat} (h : laidMet P l W) (hi : l[i]? = some (name, Lib.tabData k zs))
    (hg : P.globalNamed name = some g) (hty : (P.globals[g]?).map (·.type) = some t) (ht : P.underlying t = some (.array n e)) (he : P.underlying e = some (.int k)) (hce : P.cellsOf e = 1) (hct : P.cellsOf t = n) (j : Nat) (hj : j < zs.length) :
    W.cell? ⟨g, j, none⟩ = some (.int k (zs.getD j 0)) := by
  obtain ⟨ps, hv, _, _⟩ := h
  obtain ⟨g', t', cs, fuel, p, e1, e2, e3, e4, _⟩ := laid_part hv hi
  obtain rfl := Option.some.inj (hg.symm.trans e1)
  obtain rfl := Option.some.inj (hty.symm.trans e2)
  have hx : Lib.TabIs P W name k zs := by
    unfold Lib.TabIs
    rw [e3, ← Lib.cells_of_tab ht he hce hct e4]
  rw [World.var?_cell hg hx j]
  simp [List.getElem?_eq_getElem hj]

/-- the numbers of the types on the way to a sentinel's text -/
structure ErrTypes (P : Program) (nm : String) (ti tp te ts : TypeId) : Prop where
  iface : ∃ ms, P.underlying ti = some (.interface ms)
  row : ∀ u, P.typeName? 3 u = some nm → u = tp
  ptr : P.underlying tp = some (.pointer te)
  str : ∃ f : Field, P.underlying te = some (.struct #[f]) ∧ f.type = ts ∧ f.offset = 0
  text : P.underlying ts = some .string
  one : P.cellsOf te = 1
  one' : P.cellsOf ts = 1

/-- variable g holds the sentinel at a -/
def SentAt (W : World) (g tp : Nat) (a : Addr) : Prop :=
  W.cell? ⟨g, 0, none⟩ = some (.iface tp (.pointer (some a))) ∧ ∃ (c : Array Value) (t : TypeId), W.heap[a.block]? = some (.cells c t (0, 0))

theorem sent_part {P : Program} {W : World} {l : List (String × DataW Unit)} {ps : List MemPlace} {name nm : String} {text : List UInt8} {i g : Nat} {ti tp te ts : TypeId} (hl : DataW.LaidVars P W l ps)
    (hr : ∀ b off, MemPlace.cell b off ∈ ps → (∃ c t, W.heap[b]? = some (.cells c t (0, 0))) ∧ ∀ u v, W.cell? ⟨b, off, none⟩ = some (.iface u v) → Value.okWide P W .any 0 u v)
    (hi : l[i]? = some (name, .iface nm (.ptr (.agg [.lit (.string text)])))) (T : ErrTypes P nm ti tp te ts) (hg : P.globalNamed name = some g) (hty : (P.globals[g]?).map (·.type) = some ti) :
    ∃ a, SentAt W g tp a ∧ MemPlace.cell a.block a.off ∈ ps := by
  obtain ⟨g', t', cs, fuel, p, e1, e2, e3, e4, e5⟩ := laid_part hl hi
  obtain rfl := Option.some.inj (hg.symm.trans e1)
  obtain rfl := Option.some.inj (hty.symm.trans e2)
  obtain ⟨ms, hms⟩ := T.iface
  obtain ⟨f, hf, hft, hfo⟩ := T.str
  obtain ⟨l0⟩ := cs
  have ok : ∀ u v, l0 = [.iface u v] → Value.okWide P W .any 0 u v := fun u v e => by
    subst e
    exact (hr g 0 (e5 _ (by simp [MemPlace.row]))).2 u v (by simpa using World.var?_cell hg e3 0)
  obtain ⟨a, s, rfl, hc, _, _, rfl⟩ := errorString_of_trod hms T.row T.ptr hf hft hfo T.text T.one T.one' e4 ok
  have hm : MemPlace.cell a.block a.off ∈ ps := e5 _ (by simp [MemPlace.row])
  exact ⟨a, ⟨by simpa using World.var?_cell hg e3 0, (hr a.block a.off hm).1⟩, hm⟩

theorem SentAt.unique {W : World} {g tp : Nat} {a b : Addr} (h : SentAt W g tp a) (k : SentAt W g tp b) : a = b := by
  have := h.1.symm.trans k.1
  simpa using this

theorem sent_ne_aux {P : Program} {W : World} {nm : String} {ti tp te ts : TypeId} (T : ErrTypes P nm ti tp te ts) : ∀ {l : List (String × DataW Unit)} {ps : List MemPlace}, DataW.LaidVars P W l ps → ps.Nodup →
    (∀ b off, MemPlace.cell b off ∈ ps → (∃ c t, W.heap[b]? = some (.cells c t (0, 0))) ∧ ∀ u v, W.cell? ⟨b, off, none⟩ = some (.iface u v) → Value.okWide P W .any 0 u v) →
    ∀ {i j : Nat} {n1 n2 : String} {t1 t2 : List UInt8} {g1 g2 : Nat} {a b : Addr}, i < j → l[i]? = some (n1, .iface nm (.ptr (.agg [.lit (.string t1)]))) → l[j]? = some (n2, .iface nm (.ptr (.agg [.lit (.string t2)]))) →
      P.globalNamed n1 = some g1 → (P.globals[g1]?).map (·.type) = some ti → P.globalNamed n2 = some g2 → (P.globals[g2]?).map (·.type) = some ti → SentAt W g1 tp a → SentAt W g2 tp b → a ≠ b
  | [], _, _, _, _, _, _, _, _, _, _, _, _, _, _, _, h, _, _, _, _, _, _, _ => by simp at h
  | (n', d') :: r, ps, hl, hnd, hr, 0, j + 1, n1, n2, t1, t2, g1, g2, a, b, _, hi, hj, hg1, ht1, hg2, ht2, ha, hb => by
    rintro rfl
    have hl0 := hl
    obtain ⟨g, t, cs, fuel, p, q, h1, h2, h3, h4, h5, rfl⟩ := hl
    have hr' : ∀ b off, MemPlace.cell b off ∈ q → (∃ c t, W.heap[b]? = some (.cells c t (0, 0))) ∧ ∀ u v, W.cell? ⟨b, off, none⟩ = some (.iface u v) → Value.okWide P W .any 0 u v := fun b off hm => hr b off (List.mem_append_right _ hm)
    obtain ⟨a2, hs2, hm2⟩ := sent_part h5 hr' (by simpa using hj) T hg2 ht2
    obtain rfl := hs2.unique hb
    -- the head's own places hold the same cell
    have hone : DataW.LaidVars P W [(n', d')] (MemPlace.row ⟨g, 0, none⟩ cs.size ++ p) := ⟨g, t, cs, fuel, p, [], h1, h2, h3, h4, rfl, by simp⟩
    obtain ⟨a1, hs1, hm1⟩ := sent_part (i := 0) hone (fun b off hm => hr b off (List.mem_append_left _ hm)) (by simpa using hi) T hg1 ht1
    obtain rfl := hs1.unique ha
    exact (List.nodup_append.1 hnd).2.2 _ hm1 _ hm2 rfl
  | (n', d') :: r, ps, hl, hnd, hr, i + 1, j + 1, n1, n2, t1, t2, g1, g2, a, b, hij, hi, hj, hg1, ht1, hg2, ht2, ha, hb => by
    obtain ⟨g, t, cs, fuel, p, q, h1, h2, h3, h4, h5, rfl⟩ := hl
    exact sent_ne_aux T h5 (List.nodup_append.1 hnd).2.1 (fun b off hm => hr b off (List.mem_append_right _ hm)) (Nat.lt_of_succ_lt_succ hij) (by simpa using hi) (by simpa using hj) hg1 ht1 hg2 ht2 ha hb

theorem sent_get {P : Program} {W : World} {l : List (String × DataW Unit)} {name nm : String} {text : List UInt8} {g : Nat} {ti tp te ts : TypeId} (h : laidMet P l W) (i : Nat)
    (hi : l[i]? = some (name, .iface nm (.ptr (.agg [.lit (.string text)])))) (T : ErrTypes P nm ti tp te ts) (hg : P.globalNamed name = some g) (hty : (P.globals[g]?).map (·.type) = some ti) :
    ∃ a, SentAt W g tp a := by
  obtain ⟨ps, hl, _, hr⟩ := h
  obtain ⟨a, ha, _⟩ := sent_part hl hr hi T hg hty
  exact ⟨a, ha⟩

theorem sent_ne {P : Program} {W : World} {l : List (String × DataW Unit)} {n1 n2 nm : String} {t1 t2 : List UInt8} {g1 g2 : Nat} {ti tp te ts : TypeId} {a b : Addr} (h : laidMet P l W) (i j : Nat) (hij : i < j)
    (hi : l[i]? = some (n1, .iface nm (.ptr (.agg [.lit (.string t1)])))) (hj : l[j]? = some (n2, .iface nm (.ptr (.agg [.lit (.string t2)])))) (T : ErrTypes P nm ti tp te ts)
    (hg1 : P.globalNamed n1 = some g1) (ht1 : (P.globals[g1]?).map (·.type) = some ti) (hg2 : P.globalNamed n2 = some g2) (ht2 : (P.globals[g2]?).map (·.type) = some ti)
    (ha : SentAt W g1 tp a) (hb : SentAt W g2 tp b) : a ≠ b := by
  obtain ⟨ps, hl, hnd, hr⟩ := h
  exact sent_ne_aux T hl hnd hr hij hi hj hg1 ht1 hg2 ht2 ha hb
end Go.Proofs.YtcalbpdcjklffaaGreatDoor
