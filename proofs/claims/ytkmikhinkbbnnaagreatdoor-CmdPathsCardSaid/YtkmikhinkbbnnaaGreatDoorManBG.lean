/- Plain laws: a line of a word, a blank and a text. -/
import Derived.Test.YtkmikhinkbbnnaaGreatDoorManBF
namespace Go.Proofs.YtkmikhinkbbnnaaGreatDoor.M
open Go.RowKit Go.Proofs.YtkmikhinkbbnnaaGreatDoor.Sp

theorem index_at (c : UInt8) : ∀ (h t : List UInt8), (∀ b ∈ h, b ≠ c) → Lib.index (h ++ c :: t) [c] = h.length
  | [], t, _ => by simp [Lib.index]
  | b :: h, t, hh => by
    have hb : b ≠ c := hh b (by simp)
    have h0 : ([c].isPrefixOf (b :: (h ++ c :: t))) = false := by
      show (c == b && ([] : List UInt8).isPrefixOf _) = false
      rw [beq_eq_false_iff_ne.2 (fun e => hb e.symm)]; rfl
    have ih := index_at c h t (fun x hx => hh x (by simp [hx]))
    show Lib.index (b :: (h ++ c :: t)) [c] = _
    unfold Lib.index
    rw [h0, ih]
    have : (((h.length : Nat) : Int) == -1) = false := by rw [beq_eq_false_iff_ne]; omega
    simp [this]
theorem cut_at (h t : List UInt8) (hh : ∀ b ∈ h, b ≠ 32) : Lib.cut (h ++ 32 :: t) [32] = (h, t, true) := by
  unfold Lib.cut
  rw [index_at 32 h t hh, if_pos (by omega)]
  simp
theorem trim_none (l : List UInt8) (c : UInt8) (h : ∀ b, l.getLast? = some b → b ≠ c) : Lib.trimRightB l c = l := by
  unfold Lib.trimRightB
  have : l.reverse.dropWhile (· == c) = l.reverse := by
    cases hr : l.reverse with
    | nil => rfl
    | cons a r =>
      have hl : l.getLast? = some a := by rw [← List.head?_reverse, hr]; rfl
      have ha := h a hl
      rw [List.dropWhile_cons_of_neg]
      simpa using ha
  rw [this, List.reverse_reverse]
/-- A byte that is seen, and no blank. -/
def inkB (c : UInt8) : Bool := decide (33 ≤ c) && decide (c ≤ 126)
theorem ink_visible {c : UInt8} (h : inkB c = true) : visibleB c = true ∧ c ≠ 32 := by
  have := all256 (p := fun c => !inkB c || (visibleB c && !(c == 32))) (by decide +kernel) c
  rw [h] at this
  simp only [Bool.not_true, Bool.false_or, Bool.and_eq_true, Bool.not_eq_true', beq_eq_false_iff_ne] at this
  exact this
theorem line_cut (h t : List UInt8) (hh : h.all inkB = true) (ht : t.all inkB = true) (hne : t ≠ []) : parseL (h ++ 32 :: t) = wordsL (kindL (lower h)) t true (32 :: t) := by
  have hv : (h ++ 32 :: t).all visibleB = true := by
    rw [List.all_append, List.all_cons]
    rw [List.all_eq_true] at hh ht
    have h1 : h.all visibleB = true := List.all_eq_true.2 fun x hx => (ink_visible (hh x hx)).1
    have h2 : t.all visibleB = true := List.all_eq_true.2 fun x hx => (ink_visible (ht x hx)).1
    rw [h1, h2]; decide
  have htr : Lib.trimRightB (h ++ 32 :: t) 32 = h ++ 32 :: t := trim_none _ _ fun b hb => by
    rw [List.getLast?_append, List.getLast?_cons] at hb
    cases hl : t.getLast? with
    | none => exact absurd (List.getLast?_eq_none_iff.1 hl) hne
    | some x =>
      rw [hl] at hb
      simp at hb
      subst hb
      exact (ink_visible (List.all_eq_true.1 ht x (List.mem_of_getLast? hl))).2
  unfold parseL
  rw [hv, if_pos rfl, htr]
  unfold parseT
  rw [cut_at h t (fun b hb => (ink_visible (List.all_eq_true.1 hh b hb)).2)]
  simp

theorem kind_z (r : List UInt8) : kindL (lower (90 :: r)) = 0 := by
  have hz : lower (90 :: r) = 122 :: lower r := rfl
  rw [hz]
  refine kind_none (fun j h1 h2 => nine (P := fun j => kw j ≠ 122 :: lower r) ?_ ?_ ?_ ?_ ?_ ?_ ?_ ?_ ?_ j h1 h2)
  all_goals
    intro e
    have h := congrArg List.head? e
    revert h
    rw [List.head?_cons]
    decide +kernel
theorem z_line (r t : List UInt8) (hr : r.all inkB = true) (ht : t.all inkB = true) (hne : t ≠ []) : parseL ((90 :: r) ++ 32 :: t) = cmdE 500 := by
  rw [line_cut (90 :: r) t (by rw [List.all_cons, hr]; decide) ht hne, kind_z]; rfl
def bareW (k : Nat) : List UInt8 := if k = 0 then [68, 65, 84, 65] else if k = 1 then [82, 83, 69, 84] else [81, 85, 73, 84]
theorem bare_line (k : Nat) (hk : k < 3) (t : List UInt8) (ht : t.all inkB = true) (hne : t ≠ []) : parseL (bareW k ++ 32 :: t) = cmdE 501 := by
  match k, hk with
  | 0, _ => rw [line_cut _ t (by decide +kernel) ht hne, show kindL (lower (bareW 0)) = 5 from by decide +kernel]; rfl
  | 1, _ => rw [line_cut _ t (by decide +kernel) ht hne, show kindL (lower (bareW 1)) = 6 from by decide +kernel]; rfl
  | 2, _ => rw [line_cut _ t (by decide +kernel) ht hne, show kindL (lower (bareW 2)) = 8 from by decide +kernel]; rfl
theorem bare_alone (k : Nat) (hk : k < 3) : ∃ n, parseL (bareW k) = (n, [], [], [], 0, 0) := by
  match k, hk with
  | 0, _ => exact ⟨5, by decide +kernel⟩
  | 1, _ => exact ⟨6, by decide +kernel⟩
  | 2, _ => exact ⟨8, by decide +kernel⟩
/-- The bytes of which CmdWords makes its text, its word. -/
def inkOf (c : UInt8) : UInt8 := 33 + c % 94
def capOf (c : UInt8) : UInt8 := 65 + c % 26
theorem inkOf_ink (c : UInt8) : inkB (inkOf c) = true := all256 (p := fun c => inkB (inkOf c)) (by decide +kernel) c
theorem capOf_ink (c : UInt8) : inkB (capOf c) = true := all256 (p := fun c => inkB (capOf c)) (by decide +kernel) c
end Go.Proofs.YtkmikhinkbbnnaaGreatDoor.M
