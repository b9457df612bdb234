/- Digits: what the library's reading of a number comes to where all bytes are digits. -/
import Derived.Test.YtkmikhinkbbnnaaGreatDoorSpecA
import Derived.Lib.SlTrimSet
namespace Go.Proofs.YtkmikhinkbbnnaaGreatDoor.Sp

/-- The number that digits spell. -/
def numF (acc : Nat) : List UInt8 → Nat
  | [] => acc
  | c :: r => numF (10 * acc + (c.toNat - 48)) r
def ten9 : List UInt8 := [48, 49, 50, 51, 52, 53, 54, 55, 56, 57]
def digitsOk (l : List UInt8) : Bool := !l.isEmpty && decide (l.length ≤ 9) && l.all digitB

theorem digit_nat {c : UInt8} (h : digitB c = true) : 48 ≤ c.toNat ∧ c.toNat ≤ 57 := by
  simp only [digitB, Bool.and_eq_true, decide_eq_true_eq, UInt8.le_iff_toNat_le] at h
  exact h
theorem digit_not {c : UInt8} (h : digitB c = false) : ¬ (48 ≤ c.toNat ∧ c.toNat ≤ 57) := fun k => by
  simp only [digitB, Bool.and_eq_false_iff, decide_eq_false_iff_not, UInt8.le_iff_toNat_le] at h
  rcases h with h | h
  · exact h k.1
  · exact h k.2

theorem parse_digits : ∀ (l : List UInt8) (acc : Nat), l.all digitB = true → (acc + 1) * 10 ^ l.length ≤ 1000000000 → Lib.parseUint10 acc l = .ok (numF acc l) ∧ numF acc l < 1000000000
  | [], acc, _, h => ⟨rfl, by simp at h; show acc < _; omega⟩
  | c :: r, acc, hd, h => by
    rw [List.all_cons, Bool.and_eq_true] at hd
    obtain ⟨h0, h1⟩ := digit_nat hd.1
    have hp : 1 ≤ 10 ^ r.length := Nat.one_le_pow _ _ (by omega)
    rw [List.length_cons, Nat.pow_succ, Nat.mul_comm (10 ^ r.length) 10, ← Nat.mul_assoc] at h
    have hk : (acc + 1) * 10 ≤ 1000000000 := Nat.le_trans (Nat.le_mul_of_pos_right _ hp) h
    have h2 : (acc * 10 + (c.toNat - 48) + 1) * 10 ^ r.length ≤ 1000000000 := Nat.le_trans (Nat.mul_le_mul_right _ (by omega)) h
    have ih := parse_digits r (acc * 10 + (c.toNat - 48)) hd.2 h2
    show (if 48 ≤ c.toNat ∧ c.toNat ≤ 57 then _ else _) = Lib.NumEnd.ok (numF (10 * acc + (c.toNat - 48)) r) ∧ numF (10 * acc + (c.toNat - 48)) r < _
    rw [if_pos ⟨h0, h1⟩, if_neg (by omega), if_neg (by omega), Nat.mul_comm 10 acc]
    exact ih

theorem ten9_digit (c : UInt8) : ten9.contains c = digitB c := by
  have h := all256 (p := fun c => ten9.contains c == digitB c) (by decide +kernel) c
  exact beq_iff_eq.1 h
theorem dropWhile_nil {α : Type} (p : α → Bool) : ∀ l : List α, l.dropWhile p = [] ↔ l.all p = true
  | [] => by simp
  | a :: r => by
    rw [List.dropWhile_cons, List.all_cons]
    cases h : p a with
    | true => simp only [if_true, Bool.true_and]; exact dropWhile_nil p r
    | false => simp
theorem dropWhile_head {α : Type} (p : α → Bool) : ∀ (l : List α) (a : α) (r : List α), l.dropWhile p = a :: r → p a = false
  | [], _, _, h => by cases h
  | b :: l, a, r, h => by
    rw [List.dropWhile_cons] at h
    cases hb : p b with
    | true => rw [hb, if_pos rfl] at h; exact dropWhile_head p l a r h
    | false => rw [hb, if_neg (by decide)] at h; injection h with h1 h2; rw [← h1, hb]
theorem trimS_nil (l : List UInt8) : (Lib.trimS l ten9).isEmpty = l.all digitB := by
  have hp : (fun c => ten9.contains c) = digitB := funext ten9_digit
  unfold Lib.trimS Lib.trimLeftS Lib.trimRightS
  rw [hp, Bool.eq_iff_iff, List.isEmpty_iff, dropWhile_nil]
  constructor
  · intro h
    cases hr : l.reverse.dropWhile digitB with
    | nil => rw [dropWhile_nil] at hr; simpa using hr
    | cons a r =>
      have := dropWhile_head _ _ _ _ hr
      rw [hr] at h
      simp [this] at h
  · intro h
    have : l.reverse.dropWhile digitB = [] := (dropWhile_nil _ _).2 (by simpa using h)
    rw [this]; rfl

theorem atoi_digits {l : List UInt8} (h : digitsOk l = true) : Lib.atoiAll l = .ok (numF 0 l : Int) ∧ numF 0 l < 1000000000 := by
  simp only [digitsOk, Bool.and_eq_true, decide_eq_true_eq, Bool.not_eq_true'] at h
  obtain ⟨⟨h0, h1⟩, h2⟩ := h
  obtain ⟨h3, h4⟩ := parse_digits l 0 h2 (by rw [Nat.zero_add, Nat.one_mul]; exact Nat.pow_le_pow_right (by omega) h1)
  refine ⟨?_, h4⟩
  cases l with
  | nil => cases h0
  | cons c r =>
    rw [List.all_cons, Bool.and_eq_true] at h2
    obtain ⟨h5, h6⟩ := digit_nat h2.1
    unfold Lib.atoiAll
    simp only
    rw [if_neg (by omega)]
    unfold Lib.parseMag
    rw [if_neg (by simp), h3]
    simp only
    rw [if_neg (by omega), if_neg (by omega), if_neg (by omega)]

theorem atoi_ok_digits {l : List UInt8} : (match Lib.atoiAll l with
  | .ok _ => decide (l.length ≤ 9) && (Lib.trimS l ten9).isEmpty
  | _ => false) = digitsOk l := by
  rw [trimS_nil]
  cases hd : digitsOk l with
  | true =>
    rw [(atoi_digits hd).1]
    simp only [digitsOk, Bool.and_eq_true] at hd
    simp only [hd.1.2, hd.2, Bool.and_self]
  | false =>
    split
    · rename_i v hv
      cases l with
      | nil => cases hv
      | cons c r => simpa [digitsOk] using hd
    · rfl
end Go.Proofs.YtkmikhinkbbnnaaGreatDoor.Sp
