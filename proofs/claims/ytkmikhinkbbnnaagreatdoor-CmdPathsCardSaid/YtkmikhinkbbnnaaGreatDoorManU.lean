/- The reference's addresses (mailbagref14), by hand: domains. -/
import Derived.Test.YtkmikhinkbbnnaaGreatDoorManT
namespace Go.Proofs.YtkmikhinkbbnnaaGreatDoor.M
open Go.RowKit Go.Proofs.YtkmikhinkbbnnaaGreatDoor.Sp

set_option maxHeartbeats 8000000 in
set_option maxRecDepth 100000 in
theorem rdomain_num (s t : ByteArray) (hs : s.size ≤ 140737488355328) (hp : 0 < s.size) (h255 : s.size ≤ 255) (h91 : s[0] = 91) (h93 : s[s.size - 1]'(by omega) = 93) (h2 : 2 ≤ s.size) (ht : t = s.extract 1 (s.size - 1)) (hts : t.size ≤ s.size)
    (fin : Hid (domainR s.data.toList = ((splitOn 46 t.data.toList).all octetB && decide ((splitOn 46 t.data.toList).length = 4)))) (w : World) :
    Calls Tryz.prog 77 #[.string s] w fun e w' => e = .returned (.bool (domainR s.data.toList)) ∧ w = w' := by
  have hE := isEmpty_false hp
  have i255 : ¬ (255 : Int) < (s.size : Int) := by omega
  have q0 : (((s[0].toNat : Int) == 91) : Bool) = true := by rw [h91]; rfl
  have q1 : ((((s[s.size - 1]'(by omega)).toNat : Int) != 93) : Bool) = false := by rw [h93]; rfl
  have n1 : ((s.size : Int) - 1).toNat = s.size - 1 := by omega
  have n2 : 0 ≤ (s.size : Int) - 1 := by omega
  have n3 : (s.size : Int) - 1 < (s.size : Int) := by omega
  have n4 : (1 : Int) ≤ (s.size : Int) - 1 := by omega
  have n5 : ¬ (s.size : Int) < 2 := by omega
  have ht' := ht.symm
  clear h91 h93 ht
  go_enter Tryz.func77, Tryz.ntmps77
  go_wp2
  clear q0 q1 ht' i255
  go_loop [4, 5, 6] (fun va vp vi => ∃ (a i : Nat) (done : List (List UInt8)), va = .int .i64 a ∧ vp = .int .i64 done.length ∧ vi = .int .i64 i ∧ a ≤ i ∧ i ≤ t.size + 1 ∧ (t.size < i → a = i) ∧ done.length ≤ i ∧ Hid (∀ j (h : j < t.size), a ≤ j → j < i → t[j] ≠ 46) ∧ Hid (splitOn 46 t.data.toList = done ++ segs t.data.toList a) ∧ Hid (done.all octetB = true)) (fun _ _ vi => t.size + 1 - (intOf vi).toNat)
  case atStart => exact ⟨0, 0, [], rfl, rfl, rfl, Nat.le_refl _, Nat.zero_le _, fun _ => rfl, Nat.le_refl _, Lib.hid (fun j _ _ hj => absurd hj (Nat.not_lt_zero _)), Lib.hid (by rw [segs_zero]; rfl), Lib.hid rfl⟩
  case round =>
    obtain ⟨a, i, done, rfl, rfl, rfl, hai, hi, hend, hdl, hno, hsp, hall⟩ := hrel
    by_cases hle : i ≤ t.size
    · have HEND := Lib.hid hend
      clear hend
      have i0 : (i : Int) ≤ (t.size : Int) := by omega
      by_cases hlt : i < t.size
      · have c2 : (((t[i].toNat : Int) == 46) : Bool) = (t[i] == 46) := u8_eq _ 46
        have c2' : (((t[i].toNat : Int) != 46) : Bool) = !(t[i] == 46) := by rw [bne, c2]
        clear c2
        cases hd : (t[i] == 46) with
        | false =>
          rw [hd] at c2'
          have HD := Lib.hid (beq_eq_false_iff_ne.1 hd)
          clear hd
          go_wp2
          go_round
          case rel =>
            refine ⟨a, i + 1, done, rfl, rfl, by go_num, by omega, by omega, fun h => absurd h (by omega), by omega, Lib.hid (fun j h h1 h2 => ?_), hsp, hall⟩
            by_cases e : j = i
            · subst e; exact HD.out
            · exact hno.out j h h1 (by omega)
          case measure => simp [intOf]; omega
        | true =>
          rw [hd] at c2'
          have hst := segs_step t a i hai hle hno.out (fun _ => beq_iff_eq.1 hd)
          have HSTEP := Lib.hid hst
          clear hd hst
          have hcall := octet_any (t.extract a i) (by rw [ByteArray.size_extract]; omega)
          cases hp : octetB (t.extract a i).data.toList with
          | true =>
            rw [hp] at hcall
            have HP := Lib.hid hp
            clear hp
            go_wp2_with (go_at_call 118; refine (hcall _).mono ?_; rintro e w' ⟨rfl, rfl⟩)
            go_round
            case rel =>
              exact ⟨i + 1, i + 1, done ++ [(t.extract a i).data.toList], by go_num, by rw [List.length_append]; go_num, by go_num, Nat.le_refl _, by omega, fun _ => rfl, by rw [List.length_append]; simp; omega, Lib.hid (fun j _ h1 h2 => absurd h2 (by omega)), Lib.hid (by rw [hsp.out, HSTEP.out, List.append_assoc]; rfl), Lib.hid (all_snoc _ _ _ hall.out HP.out)⟩
            case measure => simp [intOf]; omega
          | false =>
            rw [hp] at hcall
            have hno2 : Hid ((splitOn 46 t.data.toList).all octetB = false) := Lib.hid (by rw [hsp.out, HSTEP.out]; exact not_all_mid _ _ _ _ hp)
            clear hp
            go_wp2_with (go_at_call 118; refine (hcall _).mono ?_; rintro e w' ⟨rfl, rfl⟩)
            go_ret
            exact ⟨ret_bool (by rw [fin.out, hno2.out] <;> rfl), rfl⟩
      · have hst := segs_step t a i hai hle hno.out (fun h => absurd h hlt)
        have HSTEP := Lib.hid hst
        clear hst
        have hcall := octet_any (t.extract a i) (by rw [ByteArray.size_extract]; omega)
        cases hp : octetB (t.extract a i).data.toList with
        | true =>
          rw [hp] at hcall
          have HP := Lib.hid hp
          clear hp
          go_wp2_with (go_at_call 118; refine (hcall _).mono ?_; rintro e w' ⟨rfl, rfl⟩)
          go_round
          case rel =>
            exact ⟨i + 1, i + 1, done ++ [(t.extract a i).data.toList], by go_num, by rw [List.length_append]; go_num, by go_num, Nat.le_refl _, by omega, fun _ => rfl, by rw [List.length_append]; simp; omega, Lib.hid (fun j _ h1 h2 => absurd h2 (by omega)), Lib.hid (by rw [hsp.out, HSTEP.out, List.append_assoc]; rfl), Lib.hid (all_snoc _ _ _ hall.out HP.out)⟩
          case measure => simp [intOf]; omega
        | false =>
          rw [hp] at hcall
          have hno2 : Hid ((splitOn 46 t.data.toList).all octetB = false) := Lib.hid (by rw [hsp.out, HSTEP.out]; exact not_all_mid _ _ _ _ hp)
          clear hp
          go_wp2_with (go_at_call 118; refine (hcall _).mono ?_; rintro e w' ⟨rfl, rfl⟩)
          go_ret
          exact ⟨ret_bool (by rw [fin.out, hno2.out] <;> rfl), rfl⟩
    · obtain rfl : i = t.size + 1 := by omega
      have i0 : ¬ ((t.size : Int) + 1) ≤ (t.size : Int) := by omega
      obtain rfl : a = t.size + 1 := hend (by omega)
      have hsp2 : Hid (splitOn 46 t.data.toList = done) := Lib.hid (by rw [hsp.out, ← len_eq, segs_over, List.append_nil])
      clear hend
      have HA : Hid (done.all octetB = true) := hall
      by_cases e4 : done.length = 4
      · have e4b : (((done.length : Nat) : Int) == 4) = true := by rw [beq_iff_eq]; omega
        have HF : Hid (domainR s.data.toList = true) := Lib.hid (by rw [fin.out, hsp2.out, HA.out, decide_eq_true e4]; rfl)
        clear e4
        go_wp2
        go_ret
        exact ⟨ret_bool (by rw [HF.out]), rfl⟩
      · have e4b : (((done.length : Nat) : Int) == 4) = false := by rw [beq_eq_false_iff_ne]; omega
        have HF : Hid (domainR s.data.toList = false) := Lib.hid (by rw [fin.out, hsp2.out, decide_eq_false e4, Bool.and_false])
        clear e4
        go_wp2
        go_ret
        exact ⟨ret_bool (by rw [HF.out]), rfl⟩

set_option maxHeartbeats 8000000 in
set_option maxRecDepth 100000 in
theorem rdomain_lab (s t : ByteArray) (hs : s.size ≤ 140737488355328) (hp : 0 < s.size) (h255 : s.size ≤ 255) (h91 : (s[0] == 91) = false) (ht : s = t)
    (fin : Hid (domainR s.data.toList = (splitOn 46 t.data.toList).all labelR)) (w : World) :
    Calls Tryz.prog 77 #[.string s] w fun e w' => e = .returned (.bool (domainR s.data.toList)) ∧ w = w' := by
  subst ht
  obtain ⟨t, ht⟩ : ∃ t, t = s := ⟨s, rfl⟩
  subst ht
  have hE := isEmpty_false hp
  have i255 : ¬ (255 : Int) < (t.size : Int) := by omega
  have q0 : (((t[0].toNat : Int) == 91) : Bool) = false := by have := u8_eq t[0] 91; rw [show (91 : Int) = ((91 : UInt8).toNat : Int) from rfl, this, h91]
  clear h91
  go_enter Tryz.func77, Tryz.ntmps77
  go_wp2
  clear q0 i255
  go_loop [4, 5, 6] (fun va vp vi => ∃ (a i : Nat) (done : List (List UInt8)), va = .int .i64 a ∧ vp = .int .i64 done.length ∧ vi = .int .i64 i ∧ a ≤ i ∧ i ≤ t.size + 1 ∧ (t.size < i → a = i) ∧ done.length ≤ i ∧ Hid (∀ j (h : j < t.size), a ≤ j → j < i → t[j] ≠ 46) ∧ Hid (splitOn 46 t.data.toList = done ++ segs t.data.toList a) ∧ Hid (done.all labelR = true)) (fun _ _ vi => t.size + 1 - (intOf vi).toNat)
  case atStart => exact ⟨0, 0, [], rfl, rfl, rfl, Nat.le_refl _, Nat.zero_le _, fun _ => rfl, Nat.le_refl _, Lib.hid (fun j _ _ hj => absurd hj (Nat.not_lt_zero _)), Lib.hid (by rw [segs_zero]; rfl), Lib.hid rfl⟩
  case round =>
    obtain ⟨a, i, done, rfl, rfl, rfl, hai, hi, hend, hdl, hno, hsp, hall⟩ := hrel
    by_cases hle : i ≤ t.size
    · have HEND := Lib.hid hend
      clear hend
      have i0 : (i : Int) ≤ (t.size : Int) := by omega
      by_cases hlt : i < t.size
      · have c2 : (((t[i].toNat : Int) == 46) : Bool) = (t[i] == 46) := u8_eq _ 46
        have c2' : (((t[i].toNat : Int) != 46) : Bool) = !(t[i] == 46) := by rw [bne, c2]
        clear c2
        cases hd : (t[i] == 46) with
        | false =>
          rw [hd] at c2'
          have HD := Lib.hid (beq_eq_false_iff_ne.1 hd)
          clear hd
          go_wp2
          go_round
          case rel =>
            refine ⟨a, i + 1, done, rfl, rfl, by go_num, by omega, by omega, fun h => absurd h (by omega), by omega, Lib.hid (fun j h h1 h2 => ?_), hsp, hall⟩
            by_cases e : j = i
            · subst e; exact HD.out
            · exact hno.out j h h1 (by omega)
          case measure => simp [intOf]; omega
        | true =>
          rw [hd] at c2'
          have hst := segs_step t a i hai hle hno.out (fun _ => beq_iff_eq.1 hd)
          have HSTEP := Lib.hid hst
          clear hd hst
          have hcall := rlabel_any (t.extract a i) (by rw [ByteArray.size_extract]; omega)
          cases hp : labelR (t.extract a i).data.toList with
          | true =>
            rw [hp] at hcall
            have HP := Lib.hid hp
            clear hp
            go_wp2_with (go_at_call 119; refine (hcall _).mono ?_; rintro e w' ⟨rfl, rfl⟩)
            go_round
            case rel =>
              exact ⟨i + 1, i + 1, done ++ [(t.extract a i).data.toList], by go_num, by rw [List.length_append]; go_num, by go_num, Nat.le_refl _, by omega, fun _ => rfl, by rw [List.length_append]; simp; omega, Lib.hid (fun j _ h1 h2 => absurd h2 (by omega)), Lib.hid (by rw [hsp.out, HSTEP.out, List.append_assoc]; rfl), Lib.hid (all_snoc _ _ _ hall.out HP.out)⟩
            case measure => simp [intOf]; omega
          | false =>
            rw [hp] at hcall
            have hno2 : Hid ((splitOn 46 t.data.toList).all labelR = false) := Lib.hid (by rw [hsp.out, HSTEP.out]; exact not_all_mid _ _ _ _ hp)
            clear hp
            go_wp2_with (go_at_call 119; refine (hcall _).mono ?_; rintro e w' ⟨rfl, rfl⟩)
            go_ret
            exact ⟨ret_bool (by rw [fin.out, hno2.out] <;> rfl), rfl⟩
      · have hst := segs_step t a i hai hle hno.out (fun h => absurd h hlt)
        have HSTEP := Lib.hid hst
        clear hst
        have hcall := rlabel_any (t.extract a i) (by rw [ByteArray.size_extract]; omega)
        cases hp : labelR (t.extract a i).data.toList with
        | true =>
          rw [hp] at hcall
          have HP := Lib.hid hp
          clear hp
          go_wp2_with (go_at_call 119; refine (hcall _).mono ?_; rintro e w' ⟨rfl, rfl⟩)
          go_round
          case rel =>
            exact ⟨i + 1, i + 1, done ++ [(t.extract a i).data.toList], by go_num, by rw [List.length_append]; go_num, by go_num, Nat.le_refl _, by omega, fun _ => rfl, by rw [List.length_append]; simp; omega, Lib.hid (fun j _ h1 h2 => absurd h2 (by omega)), Lib.hid (by rw [hsp.out, HSTEP.out, List.append_assoc]; rfl), Lib.hid (all_snoc _ _ _ hall.out HP.out)⟩
          case measure => simp [intOf]; omega
        | false =>
          rw [hp] at hcall
          have hno2 : Hid ((splitOn 46 t.data.toList).all labelR = false) := Lib.hid (by rw [hsp.out, HSTEP.out]; exact not_all_mid _ _ _ _ hp)
          clear hp
          go_wp2_with (go_at_call 119; refine (hcall _).mono ?_; rintro e w' ⟨rfl, rfl⟩)
          go_ret
          exact ⟨ret_bool (by rw [fin.out, hno2.out] <;> rfl), rfl⟩
    · obtain rfl : i = t.size + 1 := by omega
      have i0 : ¬ ((t.size : Int) + 1) ≤ (t.size : Int) := by omega
      obtain rfl : a = t.size + 1 := hend (by omega)
      have hsp2 : Hid (splitOn 46 t.data.toList = done) := Lib.hid (by rw [hsp.out, ← len_eq, segs_over, List.append_nil])
      clear hend
      go_wp2
      go_ret
      exact ⟨ret_bool (by rw [fin.out, hsp2.out, hall.out]), rfl⟩

theorem rdomain_any (s : ByteArray) (hs : s.size ≤ 140737488355328) (w : World) :
    Calls Tryz.prog 77 #[.string s] w fun e w' => e = .returned (.bool (domainR s.data.toList)) ∧ w = w' := by
  by_cases hp : 0 < s.size
  · have hE := isEmpty_false hp
    by_cases h255 : s.size ≤ 255
    · have g0 : (s.data.toList.isEmpty || decide (255 < s.data.toList.length)) = false := by rw [isEmpty_data hp, len_eq, decide_eq_false (by omega)]; rfl
      cases h91 : (s[0] == 91) with
      | true =>
        have e91 : s[0] = 91 := beq_iff_eq.1 h91
        have g1 : s.data.toList.head? = some 91 := by rw [head_get s hp, e91]
        by_cases h93 : s[s.size - 1]'(by omega) = 93
        · by_cases h2 : 2 ≤ s.size
          · refine rdomain_num s _ hs hp h255 e91 h93 h2 rfl (by rw [ByteArray.size_extract]; omega) (Lib.hid ?_) w
            rw [domainR, if_neg (by rw [g0]; decide), if_pos g1, if_pos ⟨by rw [last_get s hp, h93], by rw [len_eq]; exact h2⟩, mid_eq]
          · have fin : Hid (domainR s.data.toList = false) := Lib.hid (by rw [domainR, if_neg (by rw [g0]; decide), if_pos g1, if_neg (fun h => h2 (by rw [← len_eq]; exact h.2))])
            have i255 : ¬ (255 : Int) < (s.size : Int) := by omega
            have q0 : (((s[0].toNat : Int) == 91) : Bool) = true := by rw [e91]; rfl
            have q1 : ((((s[s.size - 1]'(by omega)).toNat : Int) != 93) : Bool) = false := by rw [h93]; rfl
            have n1 : ((s.size : Int) - 1).toNat = s.size - 1 := by omega
            have n2 : 0 ≤ (s.size : Int) - 1 := by omega
            have n3 : (s.size : Int) - 1 < (s.size : Int) := by omega
            have n5 : (s.size : Int) < 2 := by omega
            clear h91 e91 g1 h93 g0
            go_enter Tryz.func77, Tryz.ntmps77
            go_wp2
            go_ret
            exact ⟨ret_bool (by rw [fin.out]), rfl⟩
        · have fin : Hid (domainR s.data.toList = false) := Lib.hid (by rw [domainR, if_neg (by rw [g0]; decide), if_pos g1, if_neg (fun h => h93 (by have := h.1; rw [last_get s hp] at this; exact Option.some.inj this))])
          have i255 : ¬ (255 : Int) < (s.size : Int) := by omega
          have q0 : (((s[0].toNat : Int) == 91) : Bool) = true := by rw [e91]; rfl
          have q1 : ((((s[s.size - 1]'(by omega)).toNat : Int) != 93) : Bool) = true := by
            have := u8_eq (s[s.size - 1]'(by omega)) 93
            rw [bne, show (93 : Int) = ((93 : UInt8).toNat : Int) from rfl, this, beq_eq_false_iff_ne.2 h93]; rfl
          have n1 : ((s.size : Int) - 1).toNat = s.size - 1 := by omega
          have n2 : 0 ≤ (s.size : Int) - 1 := by omega
          have n3 : (s.size : Int) - 1 < (s.size : Int) := by omega
          clear h91 e91 g1 h93 g0
          go_enter Tryz.func77, Tryz.ntmps77
          go_wp2
          go_ret
          exact ⟨ret_bool (by rw [fin.out]), rfl⟩
      | false =>
        refine rdomain_lab s s hs hp h255 h91 rfl (Lib.hid ?_) w
        rw [domainR, if_neg (by rw [g0]; decide), if_neg (fun h => by rw [head_get s hp] at h; rw [Option.some.inj h] at h91; exact absurd h91 (by decide))]
    · have i255 : (255 : Int) < (s.size : Int) := by omega
      have fin : Hid (domainR s.data.toList = false) := Lib.hid (by rw [domainR, len_eq, decide_eq_true (by omega), Bool.or_true, if_pos rfl])
      go_enter Tryz.func77, Tryz.ntmps77
      go_wp2
      go_ret
      exact ⟨ret_bool (by rw [fin.out]), rfl⟩
  · obtain rfl := size_zero hp
    clear hp hs
    go_enter Tryz.func77, Tryz.ntmps77
    go_wp2
    go_ret
    exact ⟨ret_bool (by simp [domainR]), rfl⟩
end Go.Proofs.YtkmikhinkbbnnaaGreatDoor.M
