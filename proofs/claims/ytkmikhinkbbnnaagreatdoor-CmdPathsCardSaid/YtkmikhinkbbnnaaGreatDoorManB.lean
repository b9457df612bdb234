/- Package addr: the functions with function values (letters, words, labels, domains), by hand, over the contracts of Go's library. -/
import Derived.Test.YtkmikhinkbbnnaaGreatDoorManA
import Derived.Test.YtkmikhinkbbnnaaGreatDoorSpecA
import Derived.Test.YtkmikhinkbbnnaaGreatDoorShelf
import Derived.Lib.Hide
namespace Go.Proofs.YtkmikhinkbbnnaaGreatDoor.M
open Go.RowKit Go.Proofs.YtkmikhinkbbnnaaGreatDoor.Sp

theorem or32_n : ∀ n : Nat, n < 256 → bits BinOp.or IntKind.u8 (n : Int) 32 = ((UInt8.ofNat n ||| 32).toNat : Int) := by decide +kernel
theorem or32 (c : UInt8) : bits BinOp.or IntKind.u8 (c.toNat : Int) 32 = ((c ||| 32).toNat : Int) := by
  have h := or32_n c.toNat c.toNat_lt
  rwa [UInt8.ofNat_toNat] at h
theorem ret_bool {a b : Bool} (h : a = b) : Ending.returned (.bool a) = .returned (.bool b) := by rw [h]

theorem visible_any (c : UInt8) (w : World) : Calls Tryz.prog 125 #[.int .u8 (c.toNat : Int)] w fun e w' => e = .returned (.bool (visibleB c)) ∧ w = w' := by
  have hc := c.toNat_lt
  go_enter Tryz.func125, Tryz.ntmps125
  go_wp2
  all_goals go_ret
  all_goals exact ⟨ret_bool (by rw [Bool.eq_iff_iff]; simp [visibleB, UInt8.le_iff_toNat_le]; omega), rfl⟩
theorem letter_any (c : UInt8) (w : World) : Calls Tryz.prog 166 #[.int .u8 (c.toNat : Int)] w fun e w' => e = .returned (.bool (letterB c)) ∧ w = w' := by
  have hc := c.toNat_lt
  have ho := or32 c
  go_enter Tryz.func166, Tryz.ntmps166
  go_wp2
  all_goals go_ret
  all_goals exact ⟨ret_bool (by rw [Bool.eq_iff_iff]; simp [letterB, UInt8.le_iff_toNat_le]; omega), rfl⟩

theorem u8_eq (c d : UInt8) : (((c.toNat : Int) == (d.toNat : Int)) : Bool) = (c == d) := by
  rw [Bool.eq_iff_iff, beq_iff_eq, beq_iff_eq, Int.ofNat_inj, UInt8.toNat_inj]

theorem labelC_any (c : UInt8) (w : World) : Calls Tryz.prog 165 #[.int .u8 (c.toNat : Int)] w fun e w' => e = .returned (.bool (labelC c)) ∧ w = w' := by
  have hc := c.toNat_lt
  have hq : (((c.toNat : Int) == 45) : Bool) = (c == 45) := u8_eq c 45
  cases hl : letterB c with
  | true =>
    have hcall := letter_any c
    rw [hl] at hcall
    go_enter Tryz.func165, Tryz.ntmps165
    go_wp2_with (go_at_call 166; refine (hcall _).mono ?_; rintro e w' ⟨rfl, rfl⟩)
    go_ret
    exact ⟨ret_bool (by simp [labelC, hl]), rfl⟩
  | false =>
    have hcall := letter_any c
    rw [hl] at hcall
    go_enter Tryz.func165, Tryz.ntmps165
    go_wp2_with (go_at_call 166; refine (hcall _).mono ?_; rintro e w' ⟨rfl, rfl⟩)
    go_ret
    exact ⟨ret_bool (by simp [labelC, hl]), rfl⟩

/-- 'marks' as a text. -/
def marksS : ByteArray := ⟨marks.toArray⟩
theorem indexByte_pos (l : List UInt8) (c : UInt8) : decide (0 ≤ Lib.indexByte l c) = l.contains c := by
  induction l with
  | nil => simp [Lib.indexByte]
  | cons b r ih =>
    unfold Lib.indexByte
    by_cases h : b = c
    · subst h; simp
    · have h1 : (b == c) = false := beq_eq_false_iff_ne.2 h
      have h2 : (c == b) = false := beq_eq_false_iff_ne.2 (fun e => h e.symm)
      rw [h1]
      simp only [Bool.false_eq_true, if_false, List.contains_cons, h2, Bool.false_or, ← ih]
      have := Lib.indexByte_ge r c
      by_cases hm : Lib.indexByte r c = -1
      · rw [hm]; simp
      · have : (Lib.indexByte r c == -1) = false := beq_eq_false_iff_ne.2 hm
        rw [this]; simp; omega

theorem atom_any (c : UInt8) (w : World) : Calls Tryz.prog 164 #[.int .u8 (c.toNat : Int)] w fun e w' => e = .returned (.bool (atomB c)) ∧ w = w' := by
  have hc := c.toNat_lt
  have hix := Tryz.strings_IndexByte marksS c.toNat
  have hm : Hid (decide (0 ≤ Lib.indexByte marks c) = marks.contains c) := Lib.hid (indexByte_pos marks c)
  have e1 : (c.toNat : Int).toNat.toUInt8 = c := by simp
  rw [e1] at hix
  change ∀ W, Calls Tryz.prog 189 _ W (fun e w' => e = .returned (.int .i64 (Lib.indexByte marks c)) ∧ w' = W) at hix
  generalize hr : Lib.indexByte marks c = r at hix hm
  clear e1
  cases hl : letterB c with
  | true =>
    have hcall := letter_any c
    rw [hl] at hcall
    clear hr
    go_enter Tryz.func164, Tryz.ntmps164
    go_wp2_with (go_at_call 166; refine (hcall _).mono ?_; rintro e w' ⟨rfl, rfl⟩)
    go_ret
    exact ⟨ret_bool (by simp [atomB, hl]), rfl⟩
  | false =>
    have hcall := letter_any c
    rw [hl] at hcall
    clear hr
    go_enter Tryz.func164, Tryz.ntmps164
    go_wp2_with (first | (go_at_call 166; refine (hcall _).mono ?_; rintro e w' ⟨rfl, rfl⟩) | (go_at_call 189; refine (hix _).mono ?_; rintro e w' ⟨rfl, rfl⟩))
    go_ret
    exact ⟨ret_bool (by rw [atomB, hl, ← hm.out]; simp), rfl⟩

/-- 'every(s, says)', says a function without captured variables that tells p. -/
theorem every_any (g : Nat) (eg : ∀ args w, (callFunc g args).run Tryz.prog w = .ok (.enter g args) w) (p : UInt8 → Bool) (hp : ∀ (c : UInt8) (W : World), Calls Tryz.prog g #[.int .u8 (c.toNat : Int)] W fun e w' => e = .returned (.bool (p c)) ∧ W = w')
    (s : ByteArray) (hs : s.size ≤ 140737488355328) (w : World) :
    Calls Tryz.prog 124 #[.string s, .func (.func g) #[] #[]] w fun e w' => e = .returned (.bool (s.data.toList.all p)) ∧ w = w' := by
  generalize hR : s.data.toList.all p = R
  have HR := Lib.hid hR
  clear hR
  go_enter Tryz.func124, Tryz.ntmps124
  go_wp2
  go_loop [5, 8] (fun _ i => ∃ k : Nat, k ≤ s.size ∧ i = .int .i64 k ∧ Hid (∀ j (h : j < s.size), j < k → p s[j] = true)) (fun _ i => s.size - (intOf i).toNat)
  case atStart => exact ⟨0, Nat.zero_le _, rfl, Lib.hid (fun j _ hj => absurd hj (Nat.not_lt_zero _))⟩
  case round =>
    obtain ⟨k, hk, rfl, hall⟩ := hrel
    by_cases hlt : k < s.size
    · have hcall := hp s[k]
      cases hb : p s[k] with
      | true =>
        rw [hb] at hcall
        go_wp2_with (go_at_fn g; refine (hcall _).mono ?_; rintro e w' ⟨rfl, rfl⟩)
        go_round
        case rel =>
          refine ⟨k + 1, by omega, by go_num, Lib.hid (fun j h hj => ?_)⟩
          by_cases e : j = k
          · subst e; exact hb
          · exact hall.out j h (by omega)
        case measure => simp [intOf]; omega
      | false =>
        rw [hb] at hcall
        go_wp2_with (go_at_fn g; refine (hcall _).mono ?_; rintro e w' ⟨rfl, rfl⟩)
        go_ret
        refine ⟨ret_bool ?_, rfl⟩
        symm
        rw [← HR.out, List.all_eq_false]
        exact ⟨s[k], by rw [Array.mem_toList_iff]; exact Array.getElem_mem (xs := s.data) hlt, by simp [hb]⟩
    · go_wp2
      go_ret
      refine ⟨ret_bool ?_, rfl⟩
      symm
      rw [← HR.out, List.all_eq_true]
      intro x hx
      rw [Array.mem_toList_iff] at hx
      obtain ⟨j, hj, rfl⟩ := Array.getElem_of_mem hx
      exact hall.out j hj (by have : j < s.size := hj; omega)
end Go.Proofs.YtkmikhinkbbnnaaGreatDoor.M
