/- Package addr: local parts, labels, numbers, texts cut at dots, domains, by hand. -/
import Derived.Test.YtkmikhinkbbnnaaGreatDoorManB
namespace Go.Proofs.YtkmikhinkbbnnaaGreatDoor.M
open Go.RowKit Go.Proofs.YtkmikhinkbbnnaaGreatDoor.Sp

theorem visible_enters : ∀ args w, (callFunc 125 args).run Tryz.prog w = .ok (.enter 125 args) w := enters_of Tryz.func125 (by kernel_rfl) rfl
theorem labelC_enters : ∀ args w, (callFunc 165 args).run Tryz.prog w = .ok (.enter 165 args) w := enters_of Tryz.func165 (by kernel_rfl) rfl
theorem atom_enters : ∀ args w, (callFunc 164 args).run Tryz.prog w = .ok (.enter 164 args) w := enters_of Tryz.func164 (by kernel_rfl) rfl

theorem len_eq (s : ByteArray) : s.data.toList.length = s.size := by rw [Array.length_toList]; rfl

theorem bytes_empty {s : ByteArray} (h : s.data.toList = []) : s = ⟨#[]⟩ := by
  cases s with | mk d => congr; exact Array.toList_inj.1 h

theorem local_any (s : ByteArray) (hs : s.size ≤ 140737488355328) (w : World) :
    Calls Tryz.prog 80 #[.string s] w fun e w' => e = .returned (.bool (localB s.data.toList)) ∧ w = w' := by
  have hv := every_any 125 visible_enters visibleB visible_any s hs
  have hlen := len_eq s
  generalize hR : s.data.toList.all visibleB = R at hv
  by_cases h0 : s.data.toList = []
  · obtain rfl := bytes_empty h0
    clear hR hv hlen
    go_enter Tryz.func80, Tryz.ntmps80
    go_wp2
    go_ret
    exact ⟨ret_bool (by simp [localB]), rfl⟩
  · by_cases h1 : s.size ≤ 64
    · have hE0 : s.data.toList.isEmpty = false := by cases h : s.data.toList with | nil => exact absurd h h0 | cons _ _ => rfl
      have fin : Hid (localB s.data.toList = R) := Lib.hid (by rw [localB, hR, hlen, decide_eq_true h1, hE0]; rfl)
      have i1 : (s.size : Int) ≤ 64 := by omega
      have hE : s.toList.isEmpty = false := by rw [Go.ByteArray.toList_eq]; exact hE0
      clear hR hlen h0 hE0
      go_enter Tryz.func80, Tryz.ntmps80
      go_wp2_with (go_at_call 124; refine (hv _).mono ?_; rintro e w' ⟨rfl, rfl⟩)
      go_ret
      exact ⟨ret_bool fin.out.symm, rfl⟩
    · have fin : Hid (localB s.data.toList = false) := Lib.hid (by rw [localB, hlen, decide_eq_false h1]; simp)
      have i1 : ¬ (s.size : Int) ≤ 64 := by omega
      have hE : s.toList.isEmpty = false := by
        rw [Go.ByteArray.toList_eq]
        cases h : s.data.toList with
        | nil => exact absurd h h0
        | cons _ _ => rfl
      clear hR hlen hv h0
      go_enter Tryz.func80, Tryz.ntmps80
      go_wp2
      go_ret
      exact ⟨ret_bool fin.out.symm, rfl⟩

theorem head_get (s : ByteArray) (h : 0 < s.size) : s.data.toList.head? = some (s[0]'h) := by
  rw [List.head?_eq_getElem?, List.getElem?_eq_getElem (by have := len_eq s; omega)]; rfl
theorem last_get (s : ByteArray) (h : 0 < s.size) : s.data.toList.getLast? = some (s[s.size - 1]'(by omega)) := by
  have hl := len_eq s
  rw [List.getLast?_eq_getElem?, List.getElem?_eq_getElem (by omega)]
  congr 1

theorem label_any (s : ByteArray) (hs : s.size ≤ 140737488355328) (w : World) :
    Calls Tryz.prog 130 #[.string s] w fun e w' => e = .returned (.bool (labelB s.data.toList)) ∧ w = w' := by
  have hv := every_any 165 labelC_enters labelC labelC_any s hs
  generalize hR : s.data.toList.all labelC = R at hv
  by_cases h0 : s.data.toList = []
  · obtain rfl := bytes_empty h0
    clear hR hv
    go_enter Tryz.func130, Tryz.ntmps130
    go_wp2
    go_ret
    exact ⟨ret_bool (by simp [labelB]), rfl⟩
  · have hp : 0 < s.size := by
      rcases Nat.eq_zero_or_pos s.size with h | h
      · exact absurd (List.eq_nil_of_length_eq_zero (by have := len_eq s; omega)) h0
      · exact h
    have q0 := u8_eq (s[0]'hp) 45
    have q1 := u8_eq (s[s.size - 1]'(by omega)) 45
    have hh := head_get s hp
    have hl := last_get s hp
    have hE0 : s.data.toList.isEmpty = false := by cases h : s.data.toList with | nil => exact absurd h h0 | cons _ _ => rfl
    have hE : s.toList.isEmpty = false := by rw [Go.ByteArray.toList_eq]; exact hE0
    have hn : ((s.size : Int) - 1).toNat = s.size - 1 := by omega
    have hb0 : 0 ≤ (s.size : Int) - 1 := by omega
    have hb1 : (s.size : Int) - 1 < (s.size : Int) := by omega
    have fin : Hid (labelB s.data.toList = (!((s[0]'hp) == 45) && !((s[s.size - 1]'(by omega)) == 45) && R)) := Lib.hid (by
      rw [labelB, hR, hh, hl, hE0]
      simp only [bne, Option.some_beq_some, Bool.not_false, Bool.true_and])
    clear hR hh hl hE0 h0
    generalize ha : ((s[0]'hp) == 45) = a at q0 fin
    generalize hb : ((s[s.size - 1]'(by omega)) == 45) = b at q1 fin
    clear ha hb
    cases a with
    | true =>
      have q0' : ((((s[0]'hp).toNat : Int) != 45) : Bool) = false := by rw [bne, show (45 : Int) = ((45 : UInt8).toNat : Int) from rfl, q0]; rfl
      clear q0 q1
      go_enter Tryz.func130, Tryz.ntmps130
      go_wp2
      go_ret
      exact ⟨ret_bool (by rw [fin.out]; rfl), rfl⟩
    | false =>
      have q0' : ((((s[0]'hp).toNat : Int) != 45) : Bool) = true := by rw [bne, show (45 : Int) = ((45 : UInt8).toNat : Int) from rfl, q0]; rfl
      clear q0
      cases b with
      | true =>
        have q1' : ((((s[s.size - 1]'(by omega)).toNat : Int) != 45) : Bool) = false := by rw [bne, show (45 : Int) = ((45 : UInt8).toNat : Int) from rfl, q1]; rfl
        clear q1
        go_enter Tryz.func130, Tryz.ntmps130
        go_wp2
        go_ret
        exact ⟨ret_bool (by rw [fin.out]; rfl), rfl⟩
      | false =>
        have q1' : ((((s[s.size - 1]'(by omega)).toNat : Int) != 45) : Bool) = true := by rw [bne, show (45 : Int) = ((45 : UInt8).toNat : Int) from rfl, q1]; rfl
        clear q1
        go_enter Tryz.func130, Tryz.ntmps130
        go_wp2_with (go_at_call 124; refine (hv _).mono ?_; rintro e w' ⟨rfl, rfl⟩)
        go_ret
        exact ⟨ret_bool (by rw [fin.out]; rfl), rfl⟩
end Go.Proofs.YtkmikhinkbbnnaaGreatDoor.M
