/- Plain laws: the program's tests of domains and the reference's are one. -/
import Derived.Test.YtkmikhinkbbnnaaGreatDoorManV
namespace Go.Proofs.YtkmikhinkbbnnaaGreatDoor.Sp
open Go.Proofs.YtkmikhinkbbnnaaGreatDoor.M

/-- A number below a thousand, in digits. -/
def itoa3 (v : Int) : List UInt8 :=
  let u := v.toNat
  if u < 10 then [UInt8.ofNat (48 + u)] else if u < 100 then [UInt8.ofNat (48 + u / 10), UInt8.ofNat (48 + u % 10)] else [UInt8.ofNat (48 + u / 10 / 10), UInt8.ofNat (48 + u / 10 % 10), UInt8.ofNat (48 + u % 10)]
theorem itoa_small (v : Int) (h0 : 0 ≤ v) (h1 : v ≤ 255) : Lib.itoa v = itoa3 v := by
  have hn : ¬ v < 0 := by omega
  unfold Lib.itoa itoa3
  rw [if_neg hn]
  generalize hu : v.toNat = u
  have h3 : u < 1000 := by omega
  by_cases a : u < 10
  · rw [Lib.decDigits, dif_pos a, if_pos a]
  · rw [Lib.decDigits, dif_neg a, if_neg a]
    by_cases b : u < 100
    · rw [Lib.decDigits, dif_pos (by omega), if_pos b]; rfl
    · rw [Lib.decDigits, dif_neg (by omega), if_neg b, Lib.decDigits, dif_pos (by omega)]; rfl

def numberB' (l : List UInt8) : Bool := match Lib.atoiAll l with
  | .ok v => decide (0 ≤ v) && decide (v ≤ 255) && itoa3 v == l
  | _ => false
theorem number_eq (l : List UInt8) : numberB l = numberB' l := by
  unfold numberB numberB'
  generalize Lib.atoiAll l = A
  cases A with
  | ok v =>
    show (decide (0 ≤ v) && decide (v ≤ 255) && Lib.itoa v == l) = (decide (0 ≤ v) && decide (v ≤ 255) && itoa3 v == l)
    by_cases h0 : 0 ≤ v
    · by_cases h1 : v ≤ 255
      · rw [itoa_small v h0 h1]
      · rw [decide_eq_false h1]; simp
    · rw [decide_eq_false h0]; simp
  | _ => rfl

theorem itoa3_form : ∀ n : Nat, n < 256 → ((itoa3 (n : Int)).all digitB && decide (1 ≤ (itoa3 (n : Int)).length) && decide ((itoa3 (n : Int)).length ≤ 3)) = true := by decide +kernel
theorem number_form {l : List UInt8} (h : numberB' l = true) : l.all digitB = true ∧ 1 ≤ l.length ∧ l.length ≤ 3 := by
  unfold numberB' at h
  split at h
  · rename_i v _
    simp only [Bool.and_eq_true, decide_eq_true_eq, beq_iff_eq] at h
    obtain ⟨⟨h0, h1⟩, rfl⟩ := h
    have := itoa3_form v.toNat (by omega)
    rw [Int.toNat_of_nonneg h0] at this
    simp only [Bool.and_eq_true, decide_eq_true_eq] at this
    exact ⟨this.1.1, this.1.2, this.2⟩
  · cases h

theorem oct1 : ∀ a : Nat, a < 10 → octetB [UInt8.ofNat (48 + a)] = numberB' [UInt8.ofNat (48 + a)] := by decide +kernel
theorem oct2 : ∀ a : Nat, a < 10 → ∀ b : Nat, b < 10 → octetB [UInt8.ofNat (48 + a), UInt8.ofNat (48 + b)] = numberB' [UInt8.ofNat (48 + a), UInt8.ofNat (48 + b)] := by decide +kernel
theorem oct3 : ∀ a : Nat, a < 10 → ∀ b : Nat, b < 10 → ∀ c : Nat, c < 10 → octetB [UInt8.ofNat (48 + a), UInt8.ofNat (48 + b), UInt8.ofNat (48 + c)] = numberB' [UInt8.ofNat (48 + a), UInt8.ofNat (48 + b), UInt8.ofNat (48 + c)] := by decide +kernel
theorem digit_form {c : UInt8} (h : digitB c = true) : ∃ a, a < 10 ∧ c = UInt8.ofNat (48 + a) := by
  obtain ⟨h0, h1⟩ := digit_bd h
  exact ⟨c.toNat - 48, by omega, by rw [show 48 + (c.toNat - 48) = c.toNat by omega, UInt8.ofNat_toNat]⟩
theorem octet_eq (l : List UInt8) : octetB l = numberB l := by
  rw [number_eq]
  by_cases hd : l.all digitB = true ∧ 1 ≤ l.length ∧ l.length ≤ 3
  · obtain ⟨h1, h2, h3⟩ := hd
    match l, h1, h2, h3 with
    | [a], h1, _, _ =>
      simp only [List.all_cons, Bool.and_eq_true] at h1
      obtain ⟨x, hx, rfl⟩ := digit_form h1.1
      exact oct1 x hx
    | [a, b], h1, _, _ =>
      simp only [List.all_cons, Bool.and_eq_true] at h1
      obtain ⟨x, hx, rfl⟩ := digit_form h1.1
      obtain ⟨y, hy, rfl⟩ := digit_form h1.2.1
      exact oct2 x hx y hy
    | [a, b, c], h1, _, _ =>
      simp only [List.all_cons, Bool.and_eq_true] at h1
      obtain ⟨x, hx, rfl⟩ := digit_form h1.1
      obtain ⟨y, hy, rfl⟩ := digit_form h1.2.1
      obtain ⟨z, hz, rfl⟩ := digit_form h1.2.2.1
      exact oct3 x hx y hy z hz
  · have e1 : numberB' l = false := by
      rw [Bool.eq_false_iff]; exact fun h => hd (number_form h)
    have e2 : octetB l = false := by
      rw [Bool.eq_false_iff]
      intro h
      unfold octetB at h
      simp only [Bool.and_eq_true, decide_eq_true_eq, Bool.not_eq_true', List.isEmpty_eq_false_iff] at h
      refine hd ⟨h.1.2, ?_, h.1.1.1.2⟩
      exact List.length_pos_iff.2 h.1.1.1.1
    rw [e1, e2]

theorem splitOn_sum (c : UInt8) : ∀ l : List UInt8, (splitOn c l).foldr (fun x a => x.length + 1 + a) 0 = l.length + 1
  | [] => rfl
  | b :: r => by
    have ih := splitOn_sum c r
    unfold splitOn
    split
    · simp only [List.foldr_cons, List.length_nil, List.length_cons, ih]; omega
    · have hne := splitOn_ne c r
      cases hs : splitOn c r with
      | nil => exact absurd hs hne
      | cons h t => rw [hs] at ih; simp only [List.foldr_cons, List.length_cons] at ih ⊢; omega
theorem number_len {l : List UInt8} (h : numberB l = true) : l.length ≤ 3 := by rw [number_eq] at h; exact (number_form h).2.2
theorem sum_le (k : Nat) : ∀ xs : List (List UInt8), (∀ x ∈ xs, x.length ≤ k) → xs.foldr (fun x a => x.length + 1 + a) 0 ≤ xs.length * (k + 1)
  | [], _ => by simp
  | x :: t, h => by
    have h1 := sum_le k t (fun y hy => h y (by simp [hy]))
    have h2 := h x (by simp)
    simp only [List.foldr_cons, List.length_cons, Nat.succ_mul]
    omega

/-- A literal of numbers is short. -/
theorem literal_short {l : List UInt8} (_h1 : 1 < l.length) (h : (splitOn 46 (l.drop 1).dropLast).all numberB = true) (h4 : (splitOn 46 (l.drop 1).dropLast).length = 4) : l.length ≤ 17 := by
  have hs := splitOn_sum 46 (l.drop 1).dropLast
  have hb := sum_le 3 (splitOn 46 (l.drop 1).dropLast) (fun x hx => number_len (List.all_eq_true.1 h x hx))
  rw [h4] at hb
  simp only [List.length_dropLast, List.length_drop] at hs
  omega
theorem pieces_short {l : List UInt8} (k : Nat) (h : l.length ≤ k) : (splitOn 46 l).all (fun x => decide (x.length ≤ k)) = true := by
  rw [List.all_eq_true]; intro x hx; have := splitOn_len 46 l x hx; simp; omega

theorem head_piece {l : List UInt8} {c : UInt8} (h : l.head? = some c) (hc : c ≠ 46) : ∃ x t, splitOn 46 l = (c :: x) :: t := by
  cases l with
  | nil => cases h
  | cons b r =>
    simp only [List.head?_cons, Option.some.injEq] at h
    subst h
    have hne := splitOn_ne 46 r
    unfold splitOn
    rw [if_neg hc]
    cases hs : splitOn 46 r with
    | nil => exact absurd hs hne
    | cons y t => exact ⟨y, t, rfl⟩
theorem bracket_label : labelC 91 = false := by decide +kernel
theorem bracket_no {l : List UInt8} (h : l.head? = some 91) : (splitOn 46 l).all labelB = false := by
  obtain ⟨x, t, e⟩ := head_piece h (by decide)
  rw [e, List.all_cons]
  have : labelB (91 :: x) = false := by unfold labelB; rw [List.all_cons, bracket_label]; simp
  rw [this]; rfl
theorem octets_eq (xs : List (List UInt8)) : xs.all octetB = xs.all numberB := by congr 1; funext l; exact octet_eq l

theorem all_and {α : Type} (p q : α → Bool) (l : List α) : l.all (fun x => p x && q x) = (l.all p && l.all q) := by
  induction l with
  | nil => rfl
  | cons a t ih => simp only [List.all_cons, ih]; cases p a <;> cases q a <;> simp

theorem domain_eq (l : List UInt8) : domainR l = domainB l := by
  unfold domainR domainB
  by_cases h0 : l = []
  · subst h0; rfl
  · have hE : l.isEmpty = false := by cases l with | nil => exact absurd rfl h0 | cons _ _ => rfl
    by_cases h255 : l.length ≤ 255
    · rw [hE, decide_eq_false (by omega), decide_eq_true h255]
      simp only [Bool.or_false, Bool.false_eq_true, if_false, Bool.true_and]
      by_cases h91 : l.head? = some 91
      · rw [if_pos h91]
        by_cases hlit : l.getLast? = some 93 ∧ 2 ≤ l.length
        · rw [if_pos hlit, shapedB_lit (by omega) h91 hlit.1, octets_eq]
          by_cases h4 : (splitOn 46 (l.drop 1).dropLast).length = 4
          · cases hn : (splitOn 46 (l.drop 1).dropLast).all numberB with
            | true => rw [decide_eq_true h4, pieces_short 63 (by have := literal_short (by omega) hn h4; omega)]; rfl
            | false => simp
          · rw [decide_eq_false h4]; simp
        · rw [if_neg hlit, shapedB_plain (fun h => hlit ⟨h.2.2, by omega⟩), bracket_no h91]; rfl
      · rw [if_neg h91, shapedB_plain (fun h => h91 h.2.1), ← all_and]; rfl
    · rw [hE, decide_eq_true (by omega), decide_eq_false h255]; rfl

theorem shape_eq (l : List UInt8) : shapeR l = shapedB l := by
  unfold shapeR
  rw [domain_eq]
  unfold domainB
  by_cases h91 : l.head? = some 91
  · rw [h91]
    simp only [beq_self_eq_true, Bool.not_true, Bool.and_false, Bool.false_and, Bool.or_false]
    by_cases hlit : 1 < l.length ∧ l.head? = some 91 ∧ l.getLast? = some 93
    · rw [shapedB_lit hlit.1 hlit.2.1 hlit.2.2]
      by_cases h4 : (splitOn 46 (l.drop 1).dropLast).length = 4
      · cases hn : (splitOn 46 (l.drop 1).dropLast).all numberB with
        | true =>
          have := literal_short hlit.1 hn h4
          rw [decide_eq_true h4, decide_eq_true (by omega), pieces_short 63 (by omega)]; rfl
        | false => simp
      · rw [decide_eq_false h4]; simp
    · rw [shapedB_plain hlit, bracket_no h91]; simp
  · have hb : (l.head? == some 91) = false := beq_eq_false_iff_ne.2 h91
    rw [shapedB_plain (fun h => h91 h.2.1), hb]
    by_cases h0 : l = []
    · subst h0; rfl
    · have hE : l.isEmpty = false := by cases l with | nil => exact absurd rfl h0 | cons _ _ => rfl
      rw [hE]
      cases (splitOn 46 l).all labelB <;> simp
end Go.Proofs.YtkmikhinkbbnnaaGreatDoor.Sp
