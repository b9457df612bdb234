/- What the program's address functions compute, on lists of bytes: plain Lean, no Go and no memory. -/
import Derived.Lib.Split
import Derived.Lib.AtoiAll
import Derived.Lib.ItoaNum
namespace Go.Proofs.YtkmikhinkbbnnaaGreatDoor.Sp

/-- A text cut at each byte c. -/
def splitOn (c : UInt8) : List UInt8 → List (List UInt8)
  | [] => [[]]
  | b :: r => if b = c then [] :: splitOn c r else match splitOn c r with
    | [] => [[b]]
    | h :: t => (b :: h) :: t

theorem splitOn_ne (c : UInt8) (l : List UInt8) : splitOn c l ≠ [] := by
  cases l with
  | nil => simp [splitOn]
  | cons b r =>
    unfold splitOn
    split
    · simp
    · split <;> simp

theorem splitOn_none (c : UInt8) : ∀ (l : List UInt8), (∀ b ∈ l, b ≠ c) → splitOn c l = [l]
  | [], _ => rfl
  | b :: r, h => by
    have hb : b ≠ c := h b (by simp)
    have ih := splitOn_none c r (fun x hx => h x (by simp [hx]))
    unfold splitOn
    rw [if_neg hb, ih]

theorem splitOn_at (c : UInt8) : ∀ (p q : List UInt8), (∀ b ∈ p, b ≠ c) → splitOn c (p ++ c :: q) = p :: splitOn c q
  | [], q, _ => by simp [splitOn]
  | b :: p, q, h => by
    have hb : b ≠ c := h b (by simp)
    have ih := splitOn_at c p q (fun x hx => h x (by simp [hx]))
    show splitOn c (b :: (p ++ c :: q)) = _
    conv => lhs; unfold splitOn
    rw [if_neg hb, ih]

theorem splitOn_len (c : UInt8) : ∀ (l x : List UInt8), x ∈ splitOn c l → x.length ≤ l.length
  | [], x, h => by simp [splitOn] at h; simp [h]
  | b :: r, x, h => by
    unfold splitOn at h
    split at h
    · rcases List.mem_cons.1 h with rfl | h
      · simp
      · have := splitOn_len c r x h; simp; omega
    · split at h
      · simp at h; subst h; simp
      · rename_i y t e
        rcases List.mem_cons.1 h with rfl | h
        · have := splitOn_len c r y (by rw [e]; simp); simp; omega
        · have := splitOn_len c r x (by rw [e]; simp [h]); simp; omega

/-- What lies ahead of the first c, or all. -/
theorem index_one_split (c : UInt8) (l : List UInt8) : (Lib.index l [c] = -1 ∧ ∀ b ∈ l, b ≠ c) ∨ ∃ p q, l = p ++ c :: q ∧ (∀ b ∈ p, b ≠ c) ∧ Lib.index l [c] = p.length := by
  induction l with
  | nil => exact .inl ⟨rfl, by simp⟩
  | cons b r ih =>
    by_cases hb : b = c
    · subst hb
      exact .inr ⟨[], r, rfl, by simp, by simp [Lib.index]⟩
    · have h0 : ([c].isPrefixOf (b :: r)) = false := by
        show (c == b && ([] : List UInt8).isPrefixOf r) = false
        rw [beq_eq_false_iff_ne.2 (fun e => hb e.symm)]; rfl
      rcases ih with ⟨h1, h2⟩ | ⟨p, q, rfl, h2, h3⟩
      · refine .inl ⟨by unfold Lib.index; rw [h0, h1]; rfl, fun x hx => ?_⟩
        rcases List.mem_cons.1 hx with rfl | hx
        · exact hb
        · exact h2 x hx
      · refine .inr ⟨b :: p, q, rfl, fun x hx => ?_, ?_⟩
        · rcases List.mem_cons.1 hx with rfl | hx
          · exact hb
          · exact h2 x hx
        · unfold Lib.index
          rw [h0, h3]
          have : (((p.length : Nat) : Int) == -1) = false := by rw [beq_eq_false_iff_ne]; omega
          simp [this]

theorem splitK_eq (c : UInt8) : ∀ (n : Nat) (l : List UInt8) (k : Nat), l.length ≤ n → Lib.countFrom [c] (n + 1) l = k → Lib.splitK [c] 0 k l = splitOn c l := by
  intro n
  induction n with
  | zero =>
    intro l k hl hk
    obtain rfl : l = [] := List.eq_nil_of_length_eq_zero (by omega)
    cases k with
    | zero => rfl
    | succ k => simp [Lib.countFrom, Lib.index] at hk
  | succ n ih =>
    intro l k hl hk
    rw [Lib.countFrom] at hk
    rcases index_one_split c l with ⟨h1, h2⟩ | ⟨p, q, rfl, h2, h3⟩
    · rw [h1] at hk
      simp at hk
      subst hk
      rw [splitOn_none c l h2]; rfl
    · rw [h3] at hk
      have : (((p.length : Nat) : Int) == -1) = false := by rw [beq_eq_false_iff_ne]; omega
      rw [this] at hk
      simp only [Bool.false_eq_true, if_false] at hk
      have hd : List.drop (((p.length : Nat) : Int).toNat + [c].length) (p ++ c :: q) = q := by simp
      rw [hd] at hk
      subst hk
      rw [Nat.add_comm 1, Lib.splitK, h3, this]
      simp only [Bool.false_eq_true, if_false]
      rw [hd, splitOn_at c p q h2, ih q _ (by simp at hl; omega) rfl]
      simp

theorem split_eq (c : UInt8) (l : List UInt8) : Lib.split l [c] = splitOn c l := splitK_eq c l.length l _ (Nat.le_refl _) rfl

theorem splitOn_length (c : UInt8) : ∀ (n : Nat) (l : List UInt8), l.length ≤ n → (splitOn c l).length = Lib.countFrom [c] (n + 1) l + 1 := by
  intro n
  induction n with
  | zero =>
    intro l hl
    obtain rfl : l = [] := List.eq_nil_of_length_eq_zero (by omega)
    simp [Lib.countFrom, Lib.index, splitOn]
  | succ n ih =>
    intro l hl
    rw [Lib.countFrom]
    rcases index_one_split c l with ⟨h1, h2⟩ | ⟨p, q, rfl, h2, h3⟩
    · rw [h1, splitOn_none c l h2]; simp
    · rw [h3]
      have : (((p.length : Nat) : Int) == -1) = false := by rw [beq_eq_false_iff_ne]; omega
      rw [this]
      simp only [Bool.false_eq_true, if_false]
      have hd : List.drop (((p.length : Nat) : Int).toNat + [c].length) (p ++ c :: q) = q := by simp
      rw [hd, splitOn_at c p q h2, List.length_cons, ih q (by simp at hl; omega)]
      omega

theorem count_eq (c : UInt8) (l : List UInt8) : Lib.count l [c] + 1 = (splitOn c l).length := (splitOn_length c l.length l (Nat.le_refl _)).symm

theorem splitOn_le (c : UInt8) : ∀ l : List UInt8, (splitOn c l).length ≤ l.length + 1
  | [] => by simp [splitOn]
  | b :: r => by
    have := splitOn_le c r
    unfold splitOn
    split
    · simp; omega
    · split
      · simp
      · rename_i e; rw [e] at this; simp at this ⊢; omega

def lowerB (c : UInt8) : UInt8 := if 65 ≤ c ∧ c ≤ 90 then c ||| 32 else c
def lower (l : List UInt8) : List UInt8 := l.map lowerB
def letterB (c : UInt8) : Bool := (decide (97 ≤ (c ||| 32)) && decide ((c ||| 32) ≤ 122)) || (decide (48 ≤ c) && decide (c ≤ 57))
def visibleB (c : UInt8) : Bool := decide (32 ≤ c) && decide (c ≤ 126)
def marks : List UInt8 := [33, 35, 36, 37, 38, 39, 42, 43, 45, 47, 61, 63, 94, 95, 96, 123, 124, 125, 126]
def atomB (c : UInt8) : Bool := letterB c || marks.contains c
def labelC (c : UInt8) : Bool := letterB c || c == 45
def labelB (l : List UInt8) : Bool := !l.isEmpty && l.head? != some 45 && l.getLast? != some 45 && l.all labelC
def numberB (l : List UInt8) : Bool := match Lib.atoiAll l with
  | .ok v => decide (0 ≤ v) && decide (v ≤ 255) && Lib.itoa v == l
  | _ => false
def shapedB (l : List UInt8) : Bool :=
  if 1 < l.length ∧ l.head? = some 91 ∧ l.getLast? = some 93 then
    decide ((splitOn 46 (l.drop 1).dropLast).length = 4) && (splitOn 46 (l.drop 1).dropLast).all numberB
  else (splitOn 46 l).all labelB
def domainB (l : List UInt8) : Bool := decide (l.length ≤ 255) && shapedB l && (splitOn 46 l).all (fun x => decide (x.length ≤ 63))
def localB (l : List UInt8) : Bool := !l.isEmpty && decide (l.length ≤ 64) && l.all visibleB
def wordB (l : List UInt8) : Bool := !l.isEmpty && l.all atomB
def plainB (l : List UInt8) : Bool := (splitOn 46 l).all wordB
def digitB (c : UInt8) : Bool := decide (48 ≤ c) && decide (c ≤ 57)
def alphaB (c : UInt8) : Bool := (decide (65 ≤ c) && decide (c ≤ 90)) || (decide (97 ≤ c) && decide (c ≤ 122))

theorem all256 {p : UInt8 → Bool} (h : ∀ n : Nat, n < 256 → p (UInt8.ofNat n) = true) (c : UInt8) : p c = true := by
  have := h c.toNat c.toNat_lt
  rwa [UInt8.ofNat_toNat] at this
theorem letter_eq (c : UInt8) : letterB c = (alphaB c || digitB c) := by
  have h := all256 (p := fun c => letterB c == (alphaB c || digitB c)) (by decide +kernel) c
  exact beq_iff_eq.1 h
theorem atom_no_dot : atomB 46 = false := by decide +kernel
theorem labelC_no_dot : labelC 46 = false := by decide +kernel

/-- Words with dots between, byte by byte; st: a word must begin here. -/
def words : Bool → List UInt8 → Bool
  | st, [] => !st
  | st, c :: r => if c = 46 then !st && words true r else atomB c && words false r

theorem words_split (st : Bool) (l : List UInt8) : words st l = (match splitOn 46 l with
    | [] => false
    | h :: t => (!(st && h.isEmpty)) && h.all atomB && t.all wordB) := by
  induction l generalizing st with
  | nil => simp [words, splitOn]
  | cons c r ih =>
    unfold words splitOn
    by_cases h : c = 46
    · rw [if_pos h, if_pos h, ih true]
      have := splitOn_ne 46 r
      cases hs : splitOn 46 r with
      | nil => exact absurd hs this
      | cons x t =>
        simp only [List.isEmpty_nil, Bool.and_true, List.all_nil, List.all_cons, wordB, Bool.true_and]
    · rw [if_neg h, if_neg h, ih false]
      have := splitOn_ne 46 r
      cases hs : splitOn 46 r with
      | nil => exact absurd hs this
      | cons x t => simp [Bool.and_assoc]

theorem plain_words (l : List UInt8) : plainB l = words true l := by
  rw [words_split, plainB]
  have := splitOn_ne 46 l
  cases hs : splitOn 46 l with
  | nil => exact absurd hs this
  | cons x t => simp [wordB]
end Go.Proofs.YtkmikhinkbbnnaaGreatDoor.Sp
