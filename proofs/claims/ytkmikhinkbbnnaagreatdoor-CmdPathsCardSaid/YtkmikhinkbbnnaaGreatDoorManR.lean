/- The reference's addresses (mailbagref14), by hand: letters, labels, words. -/
import Derived.Test.YtkmikhinkbbnnaaGreatDoorManI
namespace Go.Proofs.YtkmikhinkbbnnaaGreatDoor.M
open Go.RowKit Go.Proofs.YtkmikhinkbbnnaaGreatDoor.Sp

theorem rdigit_any (c : UInt8) (w : World) : Calls Tryz.prog 157 #[.int .u8 (c.toNat : Int)] w fun e w' => e = .returned (.bool (digitB c)) ∧ w = w' := by
  have hc := c.toNat_lt
  go_enter Tryz.func157, Tryz.ntmps157
  go_wp2
  all_goals go_ret
  all_goals exact ⟨ret_bool (by rw [Bool.eq_iff_iff]; simp [digitB, UInt8.le_iff_toNat_le]; omega), rfl⟩
theorem rletter_any (c : UInt8) (w : World) : Calls Tryz.prog 158 #[.int .u8 (c.toNat : Int)] w fun e w' => e = .returned (.bool (alphaB c)) ∧ w = w' := by
  have hc := c.toNat_lt
  go_enter Tryz.func158, Tryz.ntmps158
  go_wp2
  all_goals go_ret
  all_goals exact ⟨ret_bool (by rw [Bool.eq_iff_iff]; simp [alphaB, UInt8.le_iff_toNat_le]; omega), rfl⟩

def labelR (l : List UInt8) : Bool := labelB l && decide (l.length ≤ 63)

theorem isEmpty_false {s : ByteArray} (h : 0 < s.size) : s.toList.isEmpty = false := by
  rw [Go.ByteArray.toList_eq]
  cases e : s.data.toList with
  | nil => have := len_eq s; rw [e] at this; simp at this; omega
  | cons _ _ => rfl
theorem size_zero {s : ByteArray} (h : ¬ 0 < s.size) : s = ⟨#[]⟩ := bytes_empty (List.eq_nil_of_length_eq_zero (by have := len_eq s; omega))
theorem isEmpty_data {s : ByteArray} (h : 0 < s.size) : s.data.toList.isEmpty = false := by rw [← Go.ByteArray.toList_eq]; exact isEmpty_false h

theorem all_of {s : ByteArray} {p : UInt8 → Bool} (h : ∀ j (hj : j < s.size), p s[j] = true) : s.data.toList.all p = true := by
  rw [List.all_eq_true]
  intro x hx
  rw [Array.mem_toList_iff] at hx
  obtain ⟨j, hj, rfl⟩ := Array.getElem_of_mem hx
  exact h j hj
theorem not_all_of {s : ByteArray} {p : UInt8 → Bool} (k : Nat) (hk : k < s.size) (h : p s[k] = false) : s.data.toList.all p = false := by
  rw [List.all_eq_false]
  exact ⟨s[k], by rw [Array.mem_toList_iff]; exact Array.getElem_mem (xs := s.data) hk, by simp [h]⟩

theorem labelB_get {s : ByteArray} (hp : 0 < s.size) : labelB s.data.toList = (!((s[0]'hp) == 45) && !((s[s.size - 1]'(by omega)) == 45) && s.data.toList.all labelC) := by
  rw [labelB, head_get s hp, last_get s hp, isEmpty_data hp]
  simp only [bne, Option.some_beq_some, Bool.not_false, Bool.true_and]

set_option maxHeartbeats 2000000 in
theorem rlabel_any (s : ByteArray) (hs : s.size ≤ 140737488355328) (w : World) :
    Calls Tryz.prog 119 #[.string s] w fun e w' => e = .returned (.bool (labelR s.data.toList)) ∧ w = w' := by
  by_cases hp : 0 < s.size
  · have hE := isEmpty_false hp
    have fin0 : labelR s.data.toList = (!((s[0]'hp) == 45) && !((s[s.size - 1]'(by omega)) == 45) && s.data.toList.all labelC && decide (s.size ≤ 63)) := by rw [labelR, labelB_get hp, len_eq]
    have q0 : (((((s[0]'hp).toNat : Int)) == 45) : Bool) = ((s[0]'hp) == 45) := u8_eq _ 45
    have q1 : (((((s[s.size - 1]'(by omega)).toNat : Int)) == 45) : Bool) = ((s[s.size - 1]'(by omega)) == 45) := u8_eq _ 45
    have hn : ((s.size : Int) - 1).toNat = s.size - 1 := by omega
    have hb0 : 0 ≤ (s.size : Int) - 1 := by omega
    have hb1 : (s.size : Int) - 1 < (s.size : Int) := by omega
    by_cases hl : s.size ≤ 63
    · have i0 : ¬ (63 : Int) < (s.size : Int) := by omega
      rw [decide_eq_true hl] at fin0
      generalize ha : ((s[0]'hp) == 45) = a at q0 fin0
      generalize hb : ((s[s.size - 1]'(by omega)) == 45) = b at q1 fin0
      clear ha hb
      generalize hR : s.data.toList.all labelC = R at fin0
      have HR := Lib.hid hR
      have fin := Lib.hid fin0
      clear hR fin0
      cases a with
      | true =>
        clear q1
        go_enter Tryz.func119, Tryz.ntmps119
        go_wp2
        go_ret
        exact ⟨ret_bool (by rw [fin.out]; rfl), rfl⟩
      | false =>
        cases b with
        | true =>
          go_enter Tryz.func119, Tryz.ntmps119
          go_wp2
          go_ret
          exact ⟨ret_bool (by rw [fin.out]; rfl), rfl⟩
        | false =>
          go_enter Tryz.func119, Tryz.ntmps119
          go_wp2
          go_loop [3] (fun i => ∃ k : Nat, k ≤ s.size ∧ i = .int .i64 k ∧ Hid (∀ j (h : j < s.size), j < k → labelC s[j] = true)) (fun i => s.size - (intOf i).toNat)
          case atStart => exact ⟨0, Nat.zero_le _, rfl, Lib.hid (fun j _ hj => absurd hj (Nat.not_lt_zero _))⟩
          case round =>
            obtain ⟨k, hk, rfl, hall⟩ := hrel
            clear q0 q1
            by_cases hlt : k < s.size
            · have c1 := rletter_any s[k]
              have c2 := rdigit_any s[k]
              have c3 : ((((s[k].toNat : Int)) == 45) : Bool) = (s[k] == 45) := u8_eq _ 45
              have c3' : ((((s[k].toNat : Int)) != 45) : Bool) = !(s[k] == 45) := by rw [bne, c3]
              have HC : Hid (labelC s[k] = (alphaB s[k] || digitB s[k] || s[k] == 45)) := Lib.hid (by rw [labelC, letter_eq])
              clear c3
              generalize hx : alphaB s[k] = x at c1 HC
              generalize hy : digitB s[k] = y at c2 HC
              generalize hz : (s[k] == 45) = z at c3' HC
              clear hx hy hz
              have hstep : (x || y || z) = true → Hid (∀ j (h : j < s.size), j < k + 1 → labelC s[j] = true) := fun hh => Lib.hid (fun j h hj => by
                by_cases e : j = k
                · subst e; rw [HC.out]; exact hh
                · exact hall.out j h (by omega))
              have hstop : (x || y || z) = false → Hid (R = false) := fun hh => Lib.hid (by rw [← HR.out]; exact not_all_of k hlt (by rw [HC.out]; exact hh))
              cases x <;> cases y <;> cases z
              case false.false.false =>
                go_wp2_with (first | (go_at_call 158; refine (c1 _).mono ?_; rintro e w' ⟨rfl, rfl⟩) | (go_at_call 157; refine (c2 _).mono ?_; rintro e w' ⟨rfl, rfl⟩))
                go_ret
                exact ⟨ret_bool (by rw [fin.out, (hstop rfl).out]; rfl), rfl⟩
              all_goals
                have hst := hstep rfl
                clear hstep hstop
                go_wp2_with (first | (go_at_call 158; refine (c1 _).mono ?_; rintro e w' ⟨rfl, rfl⟩) | (go_at_call 157; refine (c2 _).mono ?_; rintro e w' ⟨rfl, rfl⟩))
                go_round
                case rel => exact ⟨k + 1, by omega, by go_num, hst⟩
                case measure => simp [intOf]; omega
            · go_wp2
              go_ret
              exact ⟨ret_bool (by rw [fin.out, ← HR.out, all_of (fun j hj => hall.out j hj (by omega))]; rfl), rfl⟩
    · have i0 : (63 : Int) < (s.size : Int) := by omega
      rw [decide_eq_false hl, Bool.and_false] at fin0
      have fin := Lib.hid fin0
      clear fin0 q0 q1
      go_enter Tryz.func119, Tryz.ntmps119
      go_wp2
      go_ret
      exact ⟨ret_bool (by rw [fin.out]), rfl⟩
  · obtain rfl := size_zero hp
    clear hp hs
    go_enter Tryz.func119, Tryz.ntmps119
    go_wp2
    go_ret
    exact ⟨ret_bool (by simp [labelR, labelB]), rfl⟩
end Go.Proofs.YtkmikhinkbbnnaaGreatDoor.M
