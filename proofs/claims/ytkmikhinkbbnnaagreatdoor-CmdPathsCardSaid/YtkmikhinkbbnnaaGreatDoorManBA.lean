/- Package cmd: words and kinds, by hand. -/
import Derived.Test.YtkmikhinkbbnnaaGreatDoorManAH
namespace Go.Proofs.YtkmikhinkbbnnaaGreatDoor.M
open Go.RowKit Go.Proofs.YtkmikhinkbbnnaaGreatDoor.Sp
attribute [local go_sem ↓] Go.wp_at_zero Go.wp_at_succ

/-- The commands' words. -/
def wordS : Nat → ByteArray
  | 1 => ⟨#[72, 69, 76, 79]⟩
  | 2 => ⟨#[69, 72, 76, 79]⟩
  | 3 => ⟨#[77, 65, 73, 76]⟩
  | 4 => ⟨#[82, 67, 80, 84]⟩
  | 5 => ⟨#[68, 65, 84, 65]⟩
  | 6 => ⟨#[82, 83, 69, 84]⟩
  | 7 => ⟨#[78, 79, 79, 80]⟩
  | 8 => ⟨#[81, 85, 73, 84]⟩
  | 9 => ⟨#[86, 82, 70, 89]⟩
  | _ => ⟨#[]⟩
theorem nine {P : Nat → Prop} (h1 : P 1) (h2 : P 2) (h3 : P 3) (h4 : P 4) (h5 : P 5) (h6 : P 6) (h7 : P 7) (h8 : P 8) (h9 : P 9) (k : Nat) (ha : 1 ≤ k) (hb : k ≤ 9) : P k := by
  match k, ha, hb with
  | 1, _, _ => exact h1
  | 2, _, _ => exact h2
  | 3, _, _ => exact h3
  | 4, _, _ => exact h4
  | 5, _, _ => exact h5
  | 6, _, _ => exact h6
  | 7, _, _ => exact h7
  | 8, _, _ => exact h8
  | 9, _, _ => exact h9
theorem wordS_size (k : Nat) (ha : 1 ≤ k) (hb : k ≤ 9) : (wordS k).size = 4 := nine (P := fun k => (wordS k).size = 4) rfl rfl rfl rfl rfl rfl rfl rfl rfl k ha hb

theorem cword_any (k : Nat) (ha : 1 ≤ k) (hb : k ≤ 9) : ∀ (w : World),
    Calls Tryz.prog 82 #[.int .i64 (k : Int)] w fun e w' => e = .returned (.string (wordS k)) ∧ w = w' := by
  refine nine (P := fun k => ∀ (w : World), Calls Tryz.prog 82 #[.int .i64 (k : Int)] w fun e w' => e = .returned (.string (wordS k)) ∧ w = w') ?_ ?_ ?_ ?_ ?_ ?_ ?_ ?_ ?_ k ha hb
  all_goals
    intro w
    go_enter Tryz.func82, Tryz.ntmps82
    go_wp2
    go_ret
    exact ⟨rfl, rfl⟩

def kw (k : Nat) : List UInt8 := lower (wordS k).data.toList
def kindL (l : List UInt8) : Nat :=
  if kw 1 = l then 1 else if kw 2 = l then 2 else if kw 3 = l then 3 else if kw 4 = l then 4 else if kw 5 = l then 5 else if kw 6 = l then 6 else if kw 7 = l then 7 else if kw 8 = l then 8 else if kw 9 = l then 9 else 0
theorem kind_found {l : List UInt8} (k : Nat) (ha : 1 ≤ k) (hb : k ≤ 9) (h1 : ∀ j, 1 ≤ j → j < k → kw j ≠ l) (h2 : kw k = l) : kindL l = k := by
  unfold kindL
  match k, ha, hb with
  | 1, _, _ => rw [if_pos h2]
  | 2, _, _ => rw [if_neg (h1 1 (by omega) (by omega)), if_pos h2]
  | 3, _, _ => rw [if_neg (h1 1 (by omega) (by omega)), if_neg (h1 2 (by omega) (by omega)), if_pos h2]
  | 4, _, _ => rw [if_neg (h1 1 (by omega) (by omega)), if_neg (h1 2 (by omega) (by omega)), if_neg (h1 3 (by omega) (by omega)), if_pos h2]
  | 5, _, _ => rw [if_neg (h1 1 (by omega) (by omega)), if_neg (h1 2 (by omega) (by omega)), if_neg (h1 3 (by omega) (by omega)), if_neg (h1 4 (by omega) (by omega)), if_pos h2]
  | 6, _, _ => rw [if_neg (h1 1 (by omega) (by omega)), if_neg (h1 2 (by omega) (by omega)), if_neg (h1 3 (by omega) (by omega)), if_neg (h1 4 (by omega) (by omega)), if_neg (h1 5 (by omega) (by omega)), if_pos h2]
  | 7, _, _ => rw [if_neg (h1 1 (by omega) (by omega)), if_neg (h1 2 (by omega) (by omega)), if_neg (h1 3 (by omega) (by omega)), if_neg (h1 4 (by omega) (by omega)), if_neg (h1 5 (by omega) (by omega)), if_neg (h1 6 (by omega) (by omega)), if_pos h2]
  | 8, _, _ => rw [if_neg (h1 1 (by omega) (by omega)), if_neg (h1 2 (by omega) (by omega)), if_neg (h1 3 (by omega) (by omega)), if_neg (h1 4 (by omega) (by omega)), if_neg (h1 5 (by omega) (by omega)), if_neg (h1 6 (by omega) (by omega)), if_neg (h1 7 (by omega) (by omega)), if_pos h2]
  | 9, _, _ => rw [if_neg (h1 1 (by omega) (by omega)), if_neg (h1 2 (by omega) (by omega)), if_neg (h1 3 (by omega) (by omega)), if_neg (h1 4 (by omega) (by omega)), if_neg (h1 5 (by omega) (by omega)), if_neg (h1 6 (by omega) (by omega)), if_neg (h1 7 (by omega) (by omega)), if_neg (h1 8 (by omega) (by omega)), if_pos h2]
theorem kind_none {l : List UInt8} (h1 : ∀ j, 1 ≤ j → j ≤ 9 → kw j ≠ l) : kindL l = 0 := by
  unfold kindL
  rw [if_neg (h1 1 (by omega) (by omega)), if_neg (h1 2 (by omega) (by omega)), if_neg (h1 3 (by omega) (by omega)), if_neg (h1 4 (by omega) (by omega)), if_neg (h1 5 (by omega) (by omega)), if_neg (h1 6 (by omega) (by omega)), if_neg (h1 7 (by omega) (by omega)), if_neg (h1 8 (by omega) (by omega)), if_neg (h1 9 (by omega) (by omega))]

def kwS (k : Nat) : ByteArray := ⟨(kw k).toArray⟩
theorem kwS_list (k : Nat) : (kwS k).data.toList = kw k := by simp [kwS]

theorem kind_any (s : ByteArray) (w : World) :
    Calls Tryz.prog 72 #[.string s] w fun e w' => e = .returned (.int .i64 (kindL s.data.toList : Int)) ∧ Below w.heap.size w w' := by
  go_enter Tryz.func72, Tryz.ntmps72
  go_wp2
  go_loopw [3] (fun c wr => ∃ k : Nat, 1 ≤ k ∧ k ≤ 10 ∧ c = .int .i64 (k : Int) ∧ Hid (Below w.heap.size w wr) ∧ Hid (∀ j, 1 ≤ j → j < k → kw j ≠ s.data.toList)) (fun c _ => 10 - (intOf c).toNat)
  case atStart => exact ⟨1, Nat.le_refl _, by omega, rfl, Lib.hid (Below.refl _ _), Lib.hid (fun j h1 h2 => absurd h2 (by omega))⟩
  case round =>
    obtain ⟨k, h1, h2, rfl, HB, HQ⟩ := hrel
    by_cases hk : k ≤ 9
    · have cw := cword_any k h1 hk
      have cl := fun W => lower_walk (wordS k) (by rw [wordS_size k h1 hk]; decide) _ rfl W
      have hlow : (⟨(lower (wordS k).data.toList).toArray⟩ : ByteArray) = kwS k := rfl
      rw [hlow] at cl
      have hq : (((kwS k).toList == s.toList) : Bool) = (kw k == s.data.toList) := by rw [str_eq, kwS_list]
      have i0 : (k : Int) ≤ 9 := by omega
      have hfound : (kw k == s.data.toList) = true → Hid (kindL s.data.toList = k) := fun h => Lib.hid (kind_found k h1 hk HQ.out (beq_iff_eq.1 h))
      have hnext : (kw k == s.data.toList) = false → Hid (∀ j, 1 ≤ j → j < k + 1 → kw j ≠ s.data.toList) := fun h => Lib.hid (fun j a b => by
        by_cases e : j = k
        · subst e; exact beq_eq_false_iff_ne.1 h
        · exact HQ.out j a (by omega))
      clear hlow
      generalize (kw k == s.data.toList) = m at hq hfound hnext
      generalize kwS k = z at cl hq
      generalize wordS k = y at cw cl
      cases m with
      | true =>
        have hf := hfound rfl
        clear hfound hnext
        go_wp2_with (first | (go_at_call 82; refine (cw _).mono ?_; rintro e w1 ⟨rfl, rfl⟩) | (go_at_call 69; refine (cl _).mono ?_; rintro e w2 ⟨rfl, HB2⟩))
        go_ret
        exact ⟨by rw [hf.out]; rfl, belowT HB.out HB2⟩
      | false =>
        have hn := hnext rfl
        clear hfound hnext
        go_wp2_with (first | (go_at_call 82; refine (cw _).mono ?_; rintro e w1 ⟨rfl, rfl⟩) | (go_at_call 69; refine (cl _).mono ?_; rintro e w2 ⟨rfl, HB2⟩))
        go_roundw
        case rel => exact ⟨k + 1, by omega, by omega, by go_num, Lib.hid (belowT HB.out HB2), hn⟩
        case measure => simp [intOf]; omega
    · have hf : Hid (kindL s.data.toList = 0) := Lib.hid (kind_none (fun j a b => HQ.out j a (by omega)))
      have i0 : ¬ (k : Int) ≤ 9 := by omega
      go_wp2
      go_ret
      exact ⟨by rw [hf.out]; rfl, HB.out⟩
end Go.Proofs.YtkmikhinkbbnnaaGreatDoor.M
