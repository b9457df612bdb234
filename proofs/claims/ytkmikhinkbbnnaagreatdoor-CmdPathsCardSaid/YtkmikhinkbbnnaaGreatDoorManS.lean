/- The reference's addresses (mailbagref14), by hand: numbers, words, local parts. -/
import Derived.Test.YtkmikhinkbbnnaaGreatDoorManR
namespace Go.Proofs.YtkmikhinkbbnnaaGreatDoor.M
open Go.RowKit Go.Proofs.YtkmikhinkbbnnaaGreatDoor.Sp

/-- The number that digits spell. -/
def valL (l : List UInt8) : Nat := l.foldl (fun a c => 10 * a + (c.toNat - 48)) 0
theorem valL_snoc (l : List UInt8) (c : UInt8) : valL (l ++ [c]) = 10 * valL l + (c.toNat - 48) := by simp [valL]
def octetB (l : List UInt8) : Bool := !l.isEmpty && decide (l.length ≤ 3) && !(l.head? == some 48 && decide (1 < l.length)) && l.all digitB && decide (valL l ≤ 255)

theorem take_get (s : ByteArray) (k : Nat) (h : k < s.size) : s.data.toList.take (k + 1) = s.data.toList.take k ++ [s[k]] := by
  rw [List.take_succ_eq_append_getElem (by rw [len_eq]; exact h)]; rfl

theorem digit_bd {c : UInt8} (h : digitB c = true) : 48 ≤ c.toNat ∧ c.toNat ≤ 57 := by
  simp [digitB, UInt8.le_iff_toNat_le] at h; exact h

set_option maxHeartbeats 2000000 in
theorem octet_any (s : ByteArray) (hs : s.size ≤ 140737488355328) (w : World) :
    Calls Tryz.prog 118 #[.string s] w fun e w' => e = .returned (.bool (octetB s.data.toList)) ∧ w = w' := by
  by_cases hp : 0 < s.size
  · have hE := isEmpty_false hp
    have q0 : (((((s[0]'hp).toNat : Int)) == 48) : Bool) = ((s[0]'hp) == 48) := u8_eq _ 48
    by_cases hl : s.size ≤ 3
    · have i0 : ¬ (3 : Int) < (s.size : Int) := by omega
      have fin0 : octetB s.data.toList = (!((s[0]'hp) == 48 && decide (1 < s.size)) && s.data.toList.all digitB && decide (valL s.data.toList ≤ 255)) := by
        rw [octetB, isEmpty_data hp, len_eq, decide_eq_true hl, head_get s hp]
        simp only [Option.some_beq_some, Bool.not_false, Bool.true_and]
      generalize hR : s.data.toList.all digitB = R at fin0
      have HR := Lib.hid hR
      by_cases hz : ((s[0]'hp) == 48) = true ∧ 1 < s.size
      · obtain ⟨hz0, hz1⟩ := hz
        rw [hz0] at q0
        rw [hz0, decide_eq_true hz1] at fin0
        have fin := Lib.hid fin0
        have i1 : (1 : Int) < (s.size : Int) := by omega
        clear fin0 hz0 hR
        go_enter Tryz.func118, Tryz.ntmps118
        go_wp2
        go_ret
        exact ⟨ret_bool (by rw [fin.out]; rfl), rfl⟩
      · have fin1 : octetB s.data.toList = (R && decide (valL s.data.toList ≤ 255)) := by
          rw [fin0]
          have : ((s[0]'hp) == 48 && decide (1 < s.size)) = false := by
            rw [Bool.eq_false_iff]; intro h; simp at h; exact hz ⟨by simp [h.1], h.2⟩
          rw [this]; rfl
        have fin := Lib.hid fin1
        clear fin0 fin1 hR
        have hfront : ∀ (P : Prop), ((((s[0]'hp).toNat : Int) == 48) = true → ¬ (1 : Int) < (s.size : Int) → P) → ((((s[0]'hp).toNat : Int) == 48) = false → P) → P := fun P h1 h2 => by
          cases h : (((s[0]'hp).toNat : Int) == 48) with
          | true => exact h1 h (fun hh => hz ⟨by rw [← q0]; exact h, by omega⟩)
          | false => exact h2 h
        clear hz
        refine hfront _ (fun q0' i1 => ?_) (fun q0' => ?_)
        all_goals
          clear q0 hfront
          go_enter Tryz.func118, Tryz.ntmps118
          go_wp2
          go_loop [3, 4] (fun v i => ∃ k : Nat, k ≤ s.size ∧ i = .int .i64 k ∧ (∃ z : Nat, v = .int .i64 (z : Int) ∧ z ≤ 10 ^ k - 1 ∧ Hid (z = valL (s.data.toList.take k))) ∧ Hid (∀ j (h : j < s.size), j < k → digitB s[j] = true)) (fun _ i => s.size - (intOf i).toNat)
          case atStart => exact ⟨0, Nat.zero_le _, rfl, ⟨0, rfl, by decide, Lib.hid rfl⟩, Lib.hid (fun j _ hj => absurd hj (Nat.not_lt_zero _))⟩
          case round =>
            obtain ⟨k, hk, rfl, ⟨z, rfl, hz, HZ⟩, hall⟩ := hrel
            clear q0'
            by_cases hlt : k < s.size
            · have c2 := rdigit_any s[k]
              cases hd : digitB s[k] with
              | true =>
                rw [hd] at c2
                have HD := Lib.hid hd
                have HS := Lib.hid (take_get s k hlt)
                obtain ⟨d0, d1⟩ := digit_bd hd
                clear hd
                have d2 : (48 : Int) ≤ (s[k].toNat : Int) := by omega
                have d3 : (s[k].toNat : Int) ≤ 57 := by omega
                have z3 : z ≤ 99 := by
                  have : k = 0 ∨ k = 1 ∨ k = 2 := by omega
                  rcases this with rfl | rfl | rfl <;> omega
                have z4 : 10 * z + 9 ≤ 10 ^ (k + 1) - 1 := by
                  have : k = 0 ∨ k = 1 ∨ k = 2 := by omega
                  rcases this with rfl | rfl | rfl <;> omega
                clear hz
                go_wp2_with (go_at_call 157; refine (c2 _).mono ?_; rintro e w' ⟨rfl, rfl⟩)
                go_round
                case rel =>
                  refine ⟨k + 1, by omega, by go_num, ⟨10 * z + (s[k].toNat - 48), ?_, by omega, Lib.hid ?_⟩, Lib.hid (fun j h hj => ?_)⟩
                  · congr 1; omega
                  · rw [HS.out, valL_snoc, ← HZ.out]
                  · by_cases e : j = k
                    · subst e; exact HD.out
                    · exact hall.out j h (by omega)
                case measure => simp [intOf]; omega
              | false =>
                rw [hd] at c2
                have HD := Lib.hid hd
                clear hd
                go_wp2_with (go_at_call 157; refine (c2 _).mono ?_; rintro e w' ⟨rfl, rfl⟩)
                go_ret
                exact ⟨ret_bool (by rw [fin.out, ← HR.out, not_all_of k hlt HD.out]; rfl), rfl⟩
            · obtain rfl : k = s.size := by omega
              have hR2 : Hid (R = true) := Lib.hid (by rw [← HR.out]; exact all_of (fun j hj => hall.out j hj hj))
              have hv : Hid (z = valL s.data.toList) := Lib.hid (by rw [HZ.out, List.take_of_length_le (by rw [len_eq]; omega)])
              go_wp2
              go_ret
              exact ⟨ret_bool (by rw [fin.out, hR2.out, ← hv.out, Bool.eq_iff_iff]; simp; omega), rfl⟩
    · have i0 : (3 : Int) < (s.size : Int) := by omega
      have fin : Hid (octetB s.data.toList = false) := Lib.hid (by rw [octetB, len_eq, decide_eq_false hl]; simp)
      clear q0
      go_enter Tryz.func118, Tryz.ntmps118
      go_wp2
      go_ret
      exact ⟨ret_bool (by rw [fin.out]), rfl⟩
  · obtain rfl := size_zero hp
    clear hp hs
    go_enter Tryz.func118, Tryz.ntmps118
    go_wp2
    go_ret
    exact ⟨ret_bool (by simp [octetB]), rfl⟩

theorem rlocal_any (s : ByteArray) (hs : s.size ≤ 140737488355328) (w : World) :
    Calls Tryz.prog 98 #[.string s] w fun e w' => e = .returned (.bool (localB s.data.toList)) ∧ w = w' := by
  by_cases hp : 0 < s.size
  · have hE := isEmpty_false hp
    by_cases hl : s.size ≤ 64
    · have i0 : ¬ (64 : Int) < (s.size : Int) := by omega
      have fin0 : localB s.data.toList = s.data.toList.all visibleB := by
        rw [localB, isEmpty_data hp, len_eq, decide_eq_true hl]; rfl
      have fin := Lib.hid fin0
      clear fin0
      go_enter Tryz.func98, Tryz.ntmps98
      go_wp2
      go_loop [3] (fun i => ∃ k : Nat, k ≤ s.size ∧ i = .int .i64 k ∧ Hid (∀ j (h : j < s.size), j < k → visibleB s[j] = true)) (fun i => s.size - (intOf i).toNat)
      case atStart => exact ⟨0, Nat.zero_le _, rfl, Lib.hid (fun j _ hj => absurd hj (Nat.not_lt_zero _))⟩
      case round =>
        obtain ⟨k, hk, rfl, hall⟩ := hrel
        by_cases hlt : k < s.size
        · by_cases hv : 32 ≤ s[k].toNat ∧ s[k].toNat ≤ 126
          · have HV : Hid (visibleB s[k] = true) := Lib.hid (by simp [visibleB, UInt8.le_iff_toNat_le]; exact hv)
            have v0 : ¬ (s[k].toNat : Int) < 32 := by omega
            have v1 : ¬ (126 : Int) < (s[k].toNat : Int) := by omega
            clear hv
            go_wp2
            go_round
            case rel =>
              refine ⟨k + 1, by omega, by go_num, Lib.hid (fun j h hj => ?_)⟩
              by_cases e : j = k
              · subst e; exact HV.out
              · exact hall.out j h (by omega)
            case measure => simp [intOf]; omega
          · have HV : Hid (visibleB s[k] = false) := Lib.hid (by rw [Bool.eq_false_iff]; simp [visibleB, UInt8.le_iff_toNat_le]; omega)
            have v0 : (s[k].toNat : Int) < 32 ∨ (¬ (s[k].toNat : Int) < 32 ∧ (126 : Int) < (s[k].toNat : Int)) := by omega
            clear hv
            rcases v0 with v0 | ⟨v0, v1⟩
            all_goals
              go_wp2
              go_ret
              exact ⟨ret_bool (by rw [fin.out, not_all_of k hlt HV.out]), rfl⟩
        · go_wp2
          go_ret
          exact ⟨ret_bool (by rw [fin.out, all_of (fun j hj => hall.out j hj (by omega))]), rfl⟩
    · have i0 : (64 : Int) < (s.size : Int) := by omega
      have fin : Hid (localB s.data.toList = false) := Lib.hid (by rw [localB, len_eq, decide_eq_false hl]; simp)
      go_enter Tryz.func98, Tryz.ntmps98
      go_wp2
      go_ret
      exact ⟨ret_bool (by rw [fin.out]), rfl⟩
  · obtain rfl := size_zero hp
    clear hp hs
    go_enter Tryz.func98, Tryz.ntmps98
    go_wp2
    go_ret
    exact ⟨ret_bool (by simp [localB]), rfl⟩

def marks18 : ByteArray := ⟨#[33, 35, 36, 37, 38, 39, 42, 43, 45, 47, 61, 63, 94, 95, 123, 124, 125, 126]⟩
theorem atom_eq (c : UInt8) : atomB c = (alphaB c || digitB c || marks18.data.toList.contains c || c == 96) := by
  have h := all256 (p := fun c => atomB c == (alphaB c || digitB c || marks18.data.toList.contains c || c == 96)) (by decide +kernel) c
  exact beq_iff_eq.1 h
theorem contains_of (s : ByteArray) (k : Nat) (h : k < s.size) (c : UInt8) (e : s[k] = c) : s.data.toList.contains c = true := by
  rw [List.contains_iff_mem, ← e, Array.mem_toList_iff]; exact Array.getElem_mem (xs := s.data) h
theorem not_contains_of (s : ByteArray) (c : UInt8) (h : ∀ j (hj : j < s.size), s[j] ≠ c) : s.data.toList.contains c = false := by
  rw [Bool.eq_false_iff]
  intro hc
  rw [List.contains_iff_mem, Array.mem_toList_iff] at hc
  obtain ⟨j, hj, e⟩ := Array.getElem_of_mem hc
  exact h j hj e

set_option maxHeartbeats 2000000 in
theorem atext_any (c : UInt8) (w : World) : Calls Tryz.prog 150 #[.int .u8 (c.toNat : Int)] w fun e w' => e = .returned (.bool (atomB c)) ∧ w = w' := by
  have c1 := rletter_any c
  have c2 := rdigit_any c
  have fin0 := atom_eq c
  have c3 : (((c.toNat : Int) == 96) : Bool) = (c == 96) := u8_eq _ 96
  generalize hx : alphaB c = x at c1 fin0
  generalize hy : digitB c = y at c2 fin0
  generalize hz : (c == 96) = z at c3 fin0
  have fin := Lib.hid fin0
  clear hx hy hz fin0
  cases x with
  | true =>
    go_enter Tryz.func150, Tryz.ntmps150
    go_wp2_with (first | (go_at_call 158; refine (c1 _).mono ?_; rintro e w' ⟨rfl, rfl⟩) | (go_at_call 157; refine (c2 _).mono ?_; rintro e w' ⟨rfl, rfl⟩))
    go_ret
    exact ⟨ret_bool (by rw [fin.out]; rfl), rfl⟩
  | false =>
    cases y with
    | true =>
      go_enter Tryz.func150, Tryz.ntmps150
      go_wp2_with (first | (go_at_call 158; refine (c1 _).mono ?_; rintro e w' ⟨rfl, rfl⟩) | (go_at_call 157; refine (c2 _).mono ?_; rintro e w' ⟨rfl, rfl⟩))
      go_ret
      exact ⟨ret_bool (by rw [fin.out]; rfl), rfl⟩
    | false =>
      have HM : Hid ((⟨#[33, 35, 36, 37, 38, 39, 42, 43, 45, 47, 61, 63, 94, 95, 123, 124, 125, 126]⟩ : ByteArray) = marks18) := Lib.hid rfl
      have hsz : marks18.size = 18 := rfl
      go_enter Tryz.func150, Tryz.ntmps150
      go_wp2_with (first | (go_at_call 158; refine (c1 _).mono ?_; rintro e w' ⟨rfl, rfl⟩) | (go_at_call 157; refine (c2 _).mono ?_; rintro e w' ⟨rfl, rfl⟩))
      rw [HM.out]
      generalize hm : marks18 = m at hsz fin
      have HM2 := Lib.hid hm
      have hs1 : m.size ≤ 18 := by omega
      have hs2 : 18 ≤ m.size := by omega
      clear HM hsz hm
      go_loop [4] (fun i => ∃ k : Nat, k ≤ m.size ∧ i = .int .i64 k ∧ Hid (∀ j (h : j < m.size), j < k → m[j] ≠ c)) (fun i => m.size - (intOf i).toNat)
      case atStart => exact ⟨0, Nat.zero_le _, rfl, Lib.hid (fun j _ hj => absurd hj (Nat.not_lt_zero _))⟩
      case round =>
        obtain ⟨k, hk, rfl, hall⟩ := hrel
        by_cases hlt : k < m.size
        · have c4 : (((m[k].toNat : Int) == (c.toNat : Int)) : Bool) = (m[k] == c) := u8_eq _ c
          cases he : (m[k] == c) with
          | true =>
            rw [he] at c4
            have HE := Lib.hid (beq_iff_eq.1 he)
            clear he
            go_wp2
            go_ret
            exact ⟨ret_bool (by rw [fin.out, contains_of m k hlt c HE.out]; rfl), rfl⟩
          | false =>
            rw [he] at c4
            have HE := Lib.hid (beq_eq_false_iff_ne.1 he)
            clear he
            go_wp2
            go_round
            case rel =>
              refine ⟨k + 1, by omega, by go_num, Lib.hid (fun j h hj => ?_)⟩
              by_cases e : j = k
              · subst e; exact HE.out
              · exact hall.out j h (by omega)
            case measure => simp [intOf]; omega
        · go_wp2
          go_ret
          exact ⟨ret_bool (by rw [fin.out, not_contains_of m c (fun j hj => hall.out j hj (by omega))]; rfl), rfl⟩
end Go.Proofs.YtkmikhinkbbnnaaGreatDoor.M
