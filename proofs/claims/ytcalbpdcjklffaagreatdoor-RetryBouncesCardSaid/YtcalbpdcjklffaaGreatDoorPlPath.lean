/- Plain facts on lists of bytes: what local parts, domains and paths are, as the program splits them and as the document reads them byte by byte. No program in sight. -/
namespace Go.Proofs.YtcalbpdcjklffaaGreatDoor.Pl
def plainB (c : UInt8) : Bool := (97 ≤ c && c ≤ 122) || (65 ≤ c && c ≤ 90) || (48 ≤ c && c ≤ 57)
/-- the marks of an atom: ! # $ % & ' * + - / = ? ^ _ ` { | } ~ -/
def marks : List UInt8 := [33, 35, 36, 37, 38, 39, 42, 43, 45, 47, 61, 63, 94, 95, 96, 123, 124, 125, 126]
def atomB (c : UInt8) : Bool := plainB c || marks.contains c
def splitB (x : UInt8) : List UInt8 → List (List UInt8)
  | [] => [[]]
  | c :: cs => if c = x then [] :: splitB x cs else match splitB x cs with
    | h :: t => (c :: h) :: t
    | [] => [[c]]
theorem splitB_ne (x : UInt8) (l : List UInt8) : ∃ h t, splitB x l = h :: t := by
  cases l with
  | nil => exact ⟨_, _, rfl⟩
  | cons c cs =>
    unfold splitB
    split
    · exact ⟨_, _, rfl⟩
    · split <;> exact ⟨_, _, rfl⟩
def scanL : Bool → List UInt8 → Bool
  | b, [] => !b
  | b, c :: cs => if c = 46 then !b && scanL true cs else atomB c && scanL false cs
def partL (p : List UInt8) : Bool := !p.isEmpty && p.all atomB
def goLocal (l : List UInt8) : Bool := decide (l.length ≤ 64) && (splitB 46 l).all partL
theorem split_scanL (l : List UInt8) : (splitB 46 l).all partL = scanL true l ∧ ∀ h t, splitB 46 l = h :: t → (h.all atomB && t.all partL) = scanL false l := by
  induction l with
  | nil => exact ⟨rfl, by rintro h t ⟨⟩; rfl⟩
  | cons c cs ih =>
    obtain ⟨h0, t0, e0⟩ := splitB_ne 46 cs
    have i2 := ih.2 h0 t0 e0
    by_cases hc : c = 46
    · subst hc
      simp only [splitB, scanL, if_true]
      refine ⟨by simp [partL], ?_⟩
      rintro h t ⟨⟩
      simp [ih.1]
    · simp only [splitB, scanL, if_neg hc, e0]
      refine ⟨?_, ?_⟩
      · rw [← i2]; simp [partL, Bool.and_assoc]
      · rintro h t ⟨⟩; rw [← i2]; simp [Bool.and_assoc]
/-- the byte at a place -/
def at_ (l : List UInt8) (i : Nat) : UInt8 := l.getD i 0
def condL (l : List UInt8) (i : Nat) : Bool :=
  if at_ l i = 46 then !(decide (i = 0) || decide (i + 1 = l.length) || decide (at_ l (i - 1) = 46)) else atomB (at_ l i)
def condLb (b : Bool) (l : List UInt8) (i : Nat) : Bool :=
  if at_ l i = 46 then !((decide (i = 0) && b) || decide (i + 1 = l.length) || (decide (0 < i) && decide (at_ l (i - 1) = 46))) else atomB (at_ l i)
theorem condLb_scan (l : List UInt8) : ∀ b, ((b = true → l ≠ []) ∧ ∀ i, i < l.length → condLb b l i = true) ↔ scanL b l = true := by
  induction l with
  | nil => intro b; cases b <;> simp [scanL]
  | cons c cs ih =>
    intro b
    have key : (∀ i, i < (c :: cs).length → condLb b (c :: cs) i = true) ↔ (condLb b (c :: cs) 0 = true ∧ ∀ i, i < cs.length → condLb (decide (c = 46)) cs i = true) := by
      have hs : ∀ i, i < cs.length → condLb b (c :: cs) (i + 1) = condLb (decide (c = 46)) cs i := by
        intro i _
        unfold condLb at_
        cases i with
        | zero => simp [eq_comm (a := 1), Bool.and_comm]
        | succ j => simp
      constructor
      · intro h; exact ⟨h 0 (by simp), fun i hi => by rw [← hs i hi]; exact h (i + 1) (by simp; omega)⟩
      · rintro ⟨h0, h⟩ i hi
        cases i with
        | zero => exact h0
        | succ j => rw [hs j (by simpa using hi)]; exact h j (by simpa using hi)
    rw [key]
    by_cases hc : c = 46
    · subst hc
      have i1 := ih true
      simp only [scanL, if_true, Bool.and_eq_true, ← i1, decide_true]
      have e0 : condLb b (46 :: cs) 0 = (!b && !cs.isEmpty) := by
        unfold condLb at_; cases cs <;> simp
      rw [e0]
      cases cs <;> simp
    · have i1 := ih false
      simp only [scanL, if_neg hc, Bool.and_eq_true, ← i1]
      have e0 : condLb b (c :: cs) 0 = atomB c := by
        unfold condLb at_; simp [hc]
      rw [e0]
      simp [hc]
def refLocal (l : List UInt8) : Bool := decide (1 ≤ l.length) && decide (l.length ≤ 64) && decide (∀ i, i < l.length → condL l i = true)
theorem ref_goLocal (l : List UInt8) : refLocal l = goLocal l := by
  unfold refLocal goLocal
  rw [(split_scanL l).1]
  have h := condLb_scan l true
  have e : ∀ i, condLb true l i = condL l i := by
    intro i; unfold condLb condL; cases i <;> simp
  simp only [e] at h
  rw [Bool.eq_iff_iff]
  simp only [Bool.and_eq_true, decide_eq_true_eq, ← h]
  constructor
  · rintro ⟨⟨a, b⟩, c⟩; exact ⟨b, by rintro - rfl; simp at a, c⟩
  · rintro ⟨b, a, c⟩; exact ⟨⟨by cases l <;> simp at a ⊢, b⟩, c⟩

/-! domains -/
def partD (p : List UInt8) : Bool := !p.isEmpty && (p.all (fun c => plainB c || c == 45) && !(p.head? == some 45) && !(p.getLast? == some 45))
def goDomain (l : List UInt8) : Bool := decide (l.length ≤ 100) && (splitB 46 l).all partD
/-- s: 0 at a label's begin; 1 behind a letter or digit; 2 behind '-' -/
def scanD : Nat → List UInt8 → Bool
  | s, [] => s == 1
  | s, c :: cs => if c = 46 then s == 1 && scanD 0 cs else if c = 45 then s != 0 && scanD 2 cs else plainB c && scanD 1 cs
theorem plain_45 : plainB 45 = false := by decide
theorem plain_46 : plainB 46 = false := by decide
/-- the rest of a label, behind a first byte: s = 1 or 2 -/
def tailD (s : Nat) (h : List UInt8) : Bool := h.all (fun c => plainB c || c == 45) && (match h.getLast? with | none => s == 1 | some x => !(x == 45))
theorem partD_cons (c : UInt8) (h : List UInt8) : partD (c :: h) = if c = 45 then false else plainB c && tailD 1 h := by
  by_cases hc : c = 45
  · subst hc; simp [partD]
  · rw [if_neg hc]
    have hb : (c == 45) = false := by simp [hc]
    unfold partD tailD
    cases h with
    | nil => simp [hb]
    | cons d t => 
      have : (c :: d :: t).getLast? = (d :: t).getLast? := by simp
      rw [this]
      have hl : ∃ x, (d :: t).getLast? = some x := ⟨(d :: t).getLast (by simp), by simp [List.getLast?_eq_some_getLast]⟩
      obtain ⟨x, hx⟩ := hl
      rw [hx]
      simp [hb, Bool.and_assoc]
theorem tailD_cons (s : Nat) (c : UInt8) (h : List UInt8) : tailD s (c :: h) = if c = 45 then tailD 2 h else plainB c && tailD 1 h := by
  unfold tailD
  cases h with
  | nil =>
    by_cases hc : c = 45
    · simp [hc]
    · have hb : (c == 45) = false := by simp [hc]
      simp [hb, hc]
  | cons d t =>
    have : (c :: d :: t).getLast? = (d :: t).getLast? := by simp
    rw [this]
    have hl : ∃ x, (d :: t).getLast? = some x := ⟨(d :: t).getLast (by simp), by simp [List.getLast?_eq_some_getLast]⟩
    obtain ⟨x, hx⟩ := hl
    rw [hx]
    by_cases hc : c = 45
    · simp [hc]
    · have hb : (c == 45) = false := by simp [hc]
      simp [hb, hc, Bool.and_assoc]
theorem split_scanD (l : List UInt8) : (splitB 46 l).all partD = scanD 0 l ∧ ∀ h t, splitB 46 l = h :: t → (tailD 1 h && t.all partD) = scanD 1 l ∧ (tailD 2 h && t.all partD) = scanD 2 l := by
  induction l with
  | nil => exact ⟨rfl, by rintro h t ⟨⟩; exact ⟨rfl, rfl⟩⟩
  | cons c cs ih =>
    obtain ⟨h0, t0, e0⟩ := splitB_ne 46 cs
    obtain ⟨i1, i2⟩ := ih.2 h0 t0 e0
    by_cases hc : c = 46
    · subst hc
      simp only [splitB, scanD, if_true]
      refine ⟨by simp [partD], ?_⟩
      rintro h t ⟨⟩
      simp [ih.1, tailD]
    · simp only [splitB, scanD, if_neg hc, e0]
      refine ⟨?_, ?_⟩
      · rw [List.all_cons, partD_cons]
        by_cases h5 : c = 45
        · simp [h5]
        · rw [if_neg h5, if_neg h5, ← i1]; simp [Bool.and_assoc]
      · rintro h t ⟨⟩
        rw [tailD_cons, tailD_cons]
        by_cases h5 : c = 45
        · simp [h5, i2]
        · rw [if_neg h5, if_neg h5, if_neg h5, ← i1]; simp [Bool.and_assoc]
def condD (l : List UInt8) (i : Nat) : Bool :=
  let c := at_ l i
  let plain := plainB c
  let e3 := decide (i = 0) || decide (i + 1 = l.length) || decide (at_ l (i - 1) = 46)
  (plain || c == 45 || c == 46) && !((e3 || decide (at_ l (i + 1) = 46)) && !(c == 46) && !plain || (c == 46) && e3)
def refDomain (l : List UInt8) : Bool := decide (1 ≤ l.length) && decide (l.length ≤ 100) && decide (∀ i, i < l.length → condD l i = true)
/-- b: at a label's begin -/
def condDb (b : Bool) (l : List UInt8) (i : Nat) : Bool :=
  let c := at_ l i
  let plain := plainB c
  let e3 := (decide (i = 0) && b) || decide (i + 1 = l.length) || (decide (0 < i) && decide (at_ l (i - 1) = 46))
  (plain || c == 45 || c == 46) && !((e3 || decide (at_ l (i + 1) = 46)) && !(c == 46) && !plain || (c == 46) && e3)
/-- what may stand behind '-': a byte, no dot -/
def goesOn : List UInt8 → Bool
  | [] => false
  | c :: _ => !(c == 46)
theorem condDb_scan (l : List UInt8) : (((l ≠ [] ∧ ∀ i, i < l.length → condDb true l i = true) ↔ scanD 0 l = true)) ∧ ((∀ i, i < l.length → condDb false l i = true) ↔ scanD 1 l = true) ∧ ((goesOn l = true ∧ ∀ i, i < l.length → condDb false l i = true) ↔ scanD 2 l = true) := by
  induction l with
  | nil => simp [scanD, goesOn]
  | cons c cs ih =>
    have key : ∀ b, (∀ i, i < (c :: cs).length → condDb b (c :: cs) i = true) ↔ (condDb b (c :: cs) 0 = true ∧ ∀ i, i < cs.length → condDb (decide (c = 46)) cs i = true) := by
      intro b
      have hs : ∀ i, i < cs.length → condDb b (c :: cs) (i + 1) = condDb (decide (c = 46)) cs i := by
        intro i _
        unfold condDb at_
        cases i with
        | zero =>
          have hq : decide (1 = cs.length) = decide (cs.length = 1) := by simp [eq_comm]
          simp [hq]
          cases decide (cs.length = 1) <;> cases decide (c = 46) <;> simp
        | succ j => simp
      constructor
      · intro h; exact ⟨h 0 (by simp), fun i hi => by rw [← hs i hi]; exact h (i + 1) (by simp; omega)⟩
      · rintro ⟨h0, h⟩ i hi
        cases i with
        | zero => exact h0
        | succ j => rw [hs j (by simpa using hi)]; exact h j (by simpa using hi)
    obtain ⟨ih0, ih1, ih2⟩ := ih
    simp only [key]
    by_cases hc : c = 46
    · subst hc
      have e0 : ∀ b, condDb b (46 :: cs) 0 = (!b && !cs.isEmpty) := by
        intro b; unfold condDb at_; cases cs <;> simp [plain_46]
      simp only [e0, scanD, if_true, decide_true]
      have := ih0
      cases cs with
      | nil => simp [scanD, goesOn]
      | cons d t => simp [goesOn] at this ⊢; exact this
    · by_cases h5 : c = 45
      · subst h5
        have e0 : ∀ b, condDb b (45 :: cs) 0 = (!b && goesOn cs) := by
          intro b; unfold condDb at_ goesOn; cases cs <;> simp [plain_45]
          cases b <;> simp
          rw [Bool.eq_iff_iff]; simp
        simp only [e0, scanD, if_neg hc, if_true]
        have h46 : decide ((45 : UInt8) = 46) = false := by decide
        simp only [h46]
        have h2 := ih2
        simp only [Bool.not_true, Bool.false_and, Bool.not_false, Bool.true_and, goesOn]
        simp
        exact h2
      · have e0 : ∀ b, condDb b (c :: cs) 0 = plainB c := by
          intro b; unfold condDb at_
          cases h : plainB c <;> simp [hc, h5, h]
        simp only [e0, scanD, if_neg hc, if_neg h5]
        simp [hc, goesOn, ih1]
theorem ref_goDomain (l : List UInt8) : refDomain l = goDomain l := by
  unfold refDomain goDomain
  rw [(split_scanD l).1]
  have h := (condDb_scan l).1
  have e : ∀ i, condDb true l i = condD l i := by
    intro i; unfold condDb condD; cases i <;> simp
  simp only [e] at h
  rw [Bool.eq_iff_iff]
  simp only [Bool.and_eq_true, decide_eq_true_eq, ← h]
  constructor
  · rintro ⟨⟨a, b⟩, c⟩; exact ⟨b, by rintro rfl; simp at a, c⟩
  · rintro ⟨b, a, c⟩; exact ⟨⟨by cases l <;> simp at a ⊢, b⟩, c⟩
end Go.Proofs.YtcalbpdcjklffaaGreatDoor.Pl
