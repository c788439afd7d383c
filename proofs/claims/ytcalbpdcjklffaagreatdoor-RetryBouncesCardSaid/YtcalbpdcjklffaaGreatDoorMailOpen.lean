/- A struct that came in, of texts, numbers and a list of texts: what a message is stamped with. -/
import Derived.Test.YtcalbpdcjklffaaGreatDoorStructs
import Derived.Test.YtcalbpdcjklffaaGreatDoorOwn
import Derived.Test.YtcalbpdcjklffaaGreatDoorChecked
import Derived.ChangeSame
import Derived.WideShapes
import Derived.OpenShut
import Derived.SizedLaws
import Derived.WalkArith
namespace Go.Proofs.YtcalbpdcjklffaaGreatDoor
open Go Go.ChangeShapes Go.WideShapes Go.Deep Go.RowKit
/-- a slice that reads as a list of texts -/
def NamesAt (w : World) (A : Option Addr) (n : Nat) (ns : List ByteArray) : Prop :=
  ns.length = n ∧ n ≤ 9223372036854775807 ∧ (0 < n → ∃ g o, A = some ⟨g, o, none⟩ ∧ g < w.heap.size ∧ ∀ (j : Nat) x, ns[j]? = some x → w.cell? ⟨g, o + j, none⟩ = some (.string x))
theorem NamesAt.then {w w1 : World} {A : Option Addr} {n : Nat} {ns : List ByteArray} (h : NamesAt w A n ns) (hb : Below w.heap.size w w1) : NamesAt w1 A n ns := by
  refine ⟨h.1, h.2.1, fun hp => ?_⟩
  obtain ⟨g, o, rfl, hg, hc⟩ := h.2.2 hp
  exact ⟨g, o, rfl, Nat.lt_of_lt_of_le hg hb.size, fun j x hj => (hb.cell (p := ⟨g, _, none⟩) hg).trans (hc j x hj)⟩
theorem mem_weightsAll {H : Type} {P : Program} {e : TypeId} {d : DataW H} {k : Nat} (hk : k ∈ d.weights P e) : ∀ {l : List (DataW H)}, d ∈ l → k ∈ DataW.weightsAll P e l
  | x :: r, h => by
    rw [DataW.weightsAll, List.mem_append]
    rcases List.mem_cons.1 h with rfl | h
    · exact .inl hk
    · exact .inr (mem_weightsAll hk h)
set_option maxRecDepth 100000 in
theorem names_open {H : Type} {enc : TypeId × Value → H} {W : World} {base : Nat} {sp : Nat → Bool} {held : Bool} {fuel : Nat} {v : Value} {x : DataW H × List MemPlace} (h : DataW.trod enc Tryz.prog W base sp held fuel 22 [v] = some x)
    (hs : ∀ k ∈ x.1.weights Tryz.prog 22, k ≤ reachBytes) : ∃ A n c ns, v = .slice A n c ∧ NamesAt W A n ns ∧ ∀ y ∈ ns, y.size ≤ 140737488355328 := by
  rcases open_slice1 Tryz.underlying22 (by kernel_rfl) h with ⟨h0, _⟩ | ⟨a, len, cap, m, n, V, D, Pl, hcs, _, hl, hm, hmm, hx, hel⟩
  · simp only [List.cons.injEq, and_true] at h0
    exact ⟨none, 0, 0, [], h0, ⟨rfl, Nat.zero_le _, fun hp => absurd hp (Nat.lt_irrefl 0)⟩, fun y hy => by cases hy⟩
  · simp only [List.cons.injEq, and_true] at hcs
    subst hcs
    have hlm : len ≤ m := by rw [hmm]; split <;> omega
    have hn' : len ≤ 9223372036854775807 := by unfold maxLen at hm; omega
    have hv : ∀ i, i < len → ∃ z : ByteArray, V i = .string z ∧ D i = .lit (.string z.data.toList) := fun i hi => by
      obtain ⟨z, e, e2, _⟩ := DataW.trod_string Tryz.underlying9 (hel i (by omega)).2
      exact ⟨z, by simpa using e, (Prod.mk.inj e2).1⟩
    obtain ⟨zs, hzs⟩ := choose_lt hv
    refine ⟨_, len, cap, (List.range len).map zs, rfl, ⟨by simp, hn', fun hp => ?_⟩, fun y hy => ?_⟩
    · obtain ⟨b, off, rfl⟩ := plain_addr (by simpa using (hel 0 (by omega)).1)
      refine ⟨b, off, rfl, cell_lt (hel 0 (by omega)).1, fun j y hj => ?_⟩
      have hjl : j < len := by
        have := (List.getElem?_eq_some_iff.1 hj).1
        simpa using this
      rw [List.getElem?_map, List.getElem?_range hjl] at hj
      obtain rfl : zs j = y := by simpa using hj
      have k := (hel j (by omega)).1
      rw [(hzs j hjl).1] at k
      simpa [add_plain] using k
    · obtain ⟨j, hj, rfl⟩ := List.mem_map.1 hy
      have hjl : j < len := by simpa using hj
      have hw := hs (zs j).data.toList.length (by
        rw [hx]
        simp only [DataW.weights, Tryz.underlying22]
        refine List.mem_cons_of_mem _ (List.mem_append_left _ (mem_weightsAll (d := D j) ?_ (List.mem_map.2 ⟨j, hj, rfl⟩)))
        rw [(hzs j hjl).2]; simp [DataW.weights])
      have : (zs j).data.toList.length = (zs j).size := by simp
      have hr : reachBytes < 2 ^ 47 := reachBytes_lt
      omega
theorem max64 : IntKind.max .i64 = 9223372036854775807 := by decide
theorem mailT_cells : Tryz.prog.cellsOf 24 = 8 := by kernel_rfl
theorem one_int_cells : Tryz.prog.cellsOf 3 = 1 := by kernel_rfl
theorem one_string_cells : Tryz.prog.cellsOf 9 = 1 := by kernel_rfl
theorem one_slice_cells : Tryz.prog.cellsOf 22 = 1 := by kernel_rfl
set_option maxRecDepth 100000 in
theorem mail_open {H : Type} {enc : TypeId × Value → H} {W : World} {b0 base : Nat} {sp : Nat → Bool} {held : Bool} {v : Value} {d : DataW H} {ps : List MemPlace} (hval : Value.okWide Tryz.prog W .any b0 24 v) (hd : DataW.Trod enc Tryz.prog W base sp held 24 v d ps)
    (hs : ∀ k ∈ d.weights Tryz.prog 24, k ≤ reachBytes) :
    ∃ (g dm to : ByteArray) (many id now : Int) (A : Option Addr) (n c : Nat) (msg : ByteArray) (ns : List ByteArray), v = .agg #[.string g, .string dm, .string to, .int .i64 many, .int .i64 id, .int .i64 now, .slice A n c, .string msg] ∧
      many ≤ 9223372036854775807 ∧ id ≤ 9223372036854775807 ∧ NamesAt W A n ns ∧ ∀ y ∈ ns, y.size ≤ 140737488355328 := by
  obtain ⟨cs, rfl, hz⟩ := okWide_struct (P := Tryz.prog) (w := W) (r := .any) (base := b0) (t := 24) Tryz.underlying24 hval
  rw [mailT_cells] at hz
  obtain ⟨fuel, hf⟩ := hd
  obtain ⟨xs, n, _, hx, _, hlen, hf⟩ := DataW.trod_struct Tryz.underlying24 hf
  obtain ⟨l⟩ := cs
  match xs, hlen, l, hz, hx with
  | [y0, y1, y2, y3, y4, y5, y6, y7], _, [c0, c1, c2, c3, c4, c5, c6, c7], _, hx =>
    have h0 := hf 0 _ rfl
    have h1 := hf 1 _ rfl
    have h2 := hf 2 _ rfl
    have h3 := hf 3 _ rfl
    have h4 := hf 4 _ rfl
    have h5 := hf 5 _ rfl
    have h6 := hf 6 _ rfl
    have h7 := hf 7 _ rfl
    obtain ⟨z0, e0, _⟩ := DataW.trod_string Tryz.underlying9 h0
    obtain ⟨z1, e1, _⟩ := DataW.trod_string Tryz.underlying9 h1
    obtain ⟨z2, e2, _⟩ := DataW.trod_string Tryz.underlying9 h2
    obtain ⟨z3, e3, _, w3⟩ := DataW.trod_int Tryz.underlying3 h3
    obtain ⟨z4, e4, _, w4⟩ := DataW.trod_int Tryz.underlying3 h4
    obtain ⟨z5, e5, _⟩ := DataW.trod_int Tryz.underlying3 h5
    obtain ⟨z7, e7, _⟩ := DataW.trod_string Tryz.underlying9 h7
    simp [Value.cells, one_int_cells, one_string_cells] at e0 e1 e2 e3 e4 e5 e7
    simp [Value.cells, one_slice_cells] at h6
    have hd6 : ∀ k ∈ y6.1.weights Tryz.prog 22, k ≤ reachBytes := fun k hk => hs k (by
      rw [(Prod.mk.inj hx).1]
      simp only [DataW.weights, Tryz.underlying24]
      exact DataW.weights_mem_each (j := 6) rfl rfl k hk)
    obtain ⟨A, k, c, ns, e6, hn, hb⟩ := names_open h6 hd6
    refine ⟨z0, z1, z2, z3, z4, z5, A, k, c, z7, ns, by rw [e0, e1, e2, e3, e4, e5, e6, e7], ?_, ?_, hn, hb⟩
    · rw [Lit.wf, Bool.and_eq_true, decide_eq_true_eq, decide_eq_true_eq, max64] at w3; exact w3.2
    · rw [Lit.wf, Bool.and_eq_true, decide_eq_true_eq, decide_eq_true_eq, max64] at w4; exact w4.2
end Go.Proofs.YtcalbpdcjklffaaGreatDoor
