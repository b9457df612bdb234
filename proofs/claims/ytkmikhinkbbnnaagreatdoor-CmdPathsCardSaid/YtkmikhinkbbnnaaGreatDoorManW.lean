/- The reference's addresses (mailbagref14), by hand: routes. -/
import Derived.Test.YtkmikhinkbbnnaaGreatDoorSpecC
namespace Go.Proofs.YtkmikhinkbbnnaaGreatDoor.M
open Go.RowKit Go.Proofs.YtkmikhinkbbnnaaGreatDoor.Sp

theorem rshaped_any (t : ByteArray) (hs : t.size ≤ 140737488355328) (w : World) :
    Calls Tryz.prog 162 #[.string t] w fun e w' => e = .returned (.bool (shapedB t.data.toList)) ∧ w = w' := by
  rw [← shape_eq]; exact rshape_any t hs w

/-- How far a route goes: -1: it is none. -/
def routeN (l : List UInt8) : Int := match routeO l with
  | none => -1
  | some q => (l.length : Int) - q.length

theorem extract_end (s : ByteArray) (k : Nat) : (s.extract k s.size).data.toList = s.data.toList.drop k := by
  rw [Lib.extract_data, List.take_of_length_le (by rw [List.length_drop, len_eq]; omega)]
theorem extract_mid (s : ByteArray) (k n : Nat) : (s.extract k (k + n)).data.toList = (s.data.toList.drop k).take n := by
  rw [Lib.extract_data]; congr 1; omega
theorem domN_take (l : List UInt8) : l.take (domN l) = l.takeWhile domC ∧ l.drop (domN l) = l.dropWhile domC := by
  unfold domN
  induction l with
  | nil => simp
  | cons c r ih =>
    cases h : domC c with
    | true => simp [h, ih.1, ih.2]
    | false => simp [h]
theorem domN_le (l : List UInt8) : domN l ≤ l.length := (List.takeWhile_sublist domC).length_le

theorem u8_lit (c : UInt8) (n : UInt8) (h : c = n) : (((c.toNat : Int) == (n.toNat : Int)) : Bool) = true := by rw [h]; exact beq_self_eq_true _
theorem u8_nlit (c : UInt8) (n : UInt8) (h : c ≠ n) : (((c.toNat : Int) == (n.toNat : Int)) : Bool) = false := by rw [u8_eq]; exact beq_eq_false_iff_ne.2 h
theorem u8_lit' (c : UInt8) (n : UInt8) (h : c = n) : (((c.toNat : Int) != (n.toNat : Int)) : Bool) = false := by rw [bne, u8_lit c n h]; rfl
theorem u8_nlit' (c : UInt8) (n : UInt8) (h : c ≠ n) : (((c.toNat : Int) != (n.toNat : Int)) : Bool) = true := by rw [bne, u8_nlit c n h]; rfl

theorem rev_route (s : ByteArray) (k : Nat) (hk : k < s.size) (h : s[k] = 64) : routeR (s.data.toList.drop k) =
    if shapedB ((s.data.toList.drop (k + 1)).take (domN (s.data.toList.drop (k + 1)))) then (match (s.data.toList.drop (k + 1 + domN (s.data.toList.drop (k + 1)))) with
      | [] => none
      | d :: q => if d = 58 then some q else if d = 44 then routeR q else none) else none := by
  rw [drop_get s k hk, routeR_cons h, (domN_take _).1, ← (domN_take (s.data.toList.drop (k + 1))).2, List.drop_drop]
  rfl

set_option maxHeartbeats 8000000 in
set_option maxRecDepth 100000 in
theorem rroute_any (s : ByteArray) (hs : s.size ≤ 140737488355328) (w : World) :
    Calls Tryz.prog 159 #[.string s] w fun e w' => e = .returned (.int .i64 (routeN s.data.toList)) ∧ w = w' := by
  by_cases hp : 0 < s.size
  · have hE := isEmpty_false hp
    by_cases h64 : s[0] = 64
    · have q0 : (((s[0].toNat : Int) != 64) : Bool) = false := u8_lit' s[0] 64 h64
      have fin0 : routeN s.data.toList = (match routeR s.data.toList with
          | none => -1
          | some q => (s.size : Int) - q.length) := by
        unfold routeN routeO; rw [head_get s hp, h64, if_pos rfl, len_eq]
      have fin := Lib.hid fin0
      clear h64 fin0
      go_enter Tryz.func159, Tryz.ntmps159
      go_wp2
      clear q0
      go_loop [3, 4] (fun i _ => ∃ k : Nat, k ≤ s.size ∧ i = .int .i64 k ∧ Hid (routeR s.data.toList = routeR (s.data.toList.drop k))) (fun i _ => s.size - (intOf i).toNat)
      case atStart => exact ⟨0, Nat.zero_le _, rfl, Lib.hid rfl⟩
      case round =>
        obtain ⟨k, hk, rfl, hR⟩ := hrel
        by_cases hlt : k < s.size
        · by_cases h : s[k] = 64
          · have q1 : (((s[k].toNat : Int) == 64) : Bool) = true := u8_lit s[k] 64 h
            have hst := Lib.hid (rev_route s k hlt h)
            clear h
            have x1 : (s.extract (k + 1) s.size).size ≤ 140737488355328 := by rw [ByteArray.size_extract]; omega
            have c1 := rdomN_any (s.extract (k + 1) s.size) x1
            rw [extract_end s (k + 1)] at c1
            have hn : domN (s.data.toList.drop (k + 1)) ≤ s.size - (k + 1) := by have := domN_le (s.data.toList.drop (k + 1)); rw [List.length_drop, len_eq] at this; exact this
            generalize hN : domN (s.data.toList.drop (k + 1)) = n at c1 hst hn
            have c2 := rshaped_any (s.extract (k + 1) (k + 1 + n)) (by rw [ByteArray.size_extract]; omega)
            rw [extract_mid s (k + 1) n] at c2
            clear hN x1
            have b1 : (k : Int) + 1 ≤ (s.size : Int) := by omega
            have b2 : (k : Int) + 1 + (n : Int) ≤ (s.size : Int) := by omega
            have b3 : (k : Int) + 1 ≤ (k : Int) + 1 + (n : Int) := by omega
            have e1 : ((k : Int) + 1).toNat = k + 1 := by omega
            have e2 : ((k : Int) + 1 + (n : Int)).toNat = k + 1 + n := by omega
            cases hsh : shapedB ((s.data.toList.drop (k + 1)).take n) with
            | false =>
              rw [hsh] at c2 hst
              have hno : Hid (routeN s.data.toList = -1) := Lib.hid (by rw [fin.out, hR.out, hst.out]; rfl)
              clear hsh
              go_wp2_with (first | (go_at_call 161; refine (c1 _).mono ?_; rintro e w' ⟨rfl, rfl⟩) | (go_at_call 162; refine (c2 _).mono ?_; rintro e w' ⟨rfl, rfl⟩))
              go_ret
              exact ⟨ret_int (by rw [hno.out]), rfl⟩
            | true =>
              rw [hsh] at c2 hst
              clear hsh
              by_cases hin : k + 1 + n < s.size
              · have hg := Lib.hid (drop_get s (k + 1 + n) hin)
                have i1 : (k : Int) + 1 + (n : Int) < (s.size : Int) := by omega
                have i2 : 0 ≤ (k : Int) + 1 + (n : Int) := by omega
                by_cases h58 : s[k + 1 + n] = 58
                · have q2 : (((s[k + 1 + n].toNat : Int) == 58) : Bool) = true := u8_lit s[k + 1 + n] 58 h58
                  have hfin : Hid (routeN s.data.toList = ((k + 1 + n + 1 : Nat) : Int)) := Lib.hid (by
                    rw [fin.out, hR.out, hst.out, hg.out]
                    simp only [if_true, if_pos h58]
                    show (s.size : Int) - ((s.data.toList.drop (k + 1 + n + 1)).length : Int) = _
                    rw [List.length_drop, len_eq]
                    omega)
                  clear h58
                  go_wp2_with (first | (go_at_call 161; refine (c1 _).mono ?_; rintro e w' ⟨rfl, rfl⟩) | (go_at_call 162; refine (c2 _).mono ?_; rintro e w' ⟨rfl, rfl⟩))
                  go_ret
                  exact ⟨ret_int (by rw [hfin.out]; omega), rfl⟩
                · by_cases h44 : s[k + 1 + n] = 44
                  · have q2 : (((s[k + 1 + n].toNat : Int) == 58) : Bool) = false := u8_nlit s[k + 1 + n] 58 h58
                    have q3 : (((s[k + 1 + n].toNat : Int) != 44) : Bool) = false := u8_lit' s[k + 1 + n] 44 h44
                    have hR2 : Hid (routeR s.data.toList = routeR (s.data.toList.drop (k + 1 + n + 1))) := Lib.hid (by
                      rw [hR.out, hst.out, hg.out]
                      simp only [if_true, if_neg h58, if_pos h44])
                    clear h58 h44
                    go_wp2_with (first | (go_at_call 161; refine (c1 _).mono ?_; rintro e w' ⟨rfl, rfl⟩) | (go_at_call 162; refine (c2 _).mono ?_; rintro e w' ⟨rfl, rfl⟩))
                    go_round
                    case rel => exact ⟨k + 1 + n + 1, by omega, by go_num, hR2⟩
                    case measure => simp [intOf]; omega
                  · have q2 : (((s[k + 1 + n].toNat : Int) == 58) : Bool) = false := u8_nlit s[k + 1 + n] 58 h58
                    have q3 : (((s[k + 1 + n].toNat : Int) != 44) : Bool) = true := u8_nlit' s[k + 1 + n] 44 h44
                    have hno : Hid (routeN s.data.toList = -1) := Lib.hid (by
                      rw [fin.out, hR.out, hst.out, hg.out]
                      simp only [if_true, if_neg h58, if_neg h44])
                    clear h58 h44
                    go_wp2_with (first | (go_at_call 161; refine (c1 _).mono ?_; rintro e w' ⟨rfl, rfl⟩) | (go_at_call 162; refine (c2 _).mono ?_; rintro e w' ⟨rfl, rfl⟩))
                    go_ret
                    exact ⟨ret_int (by rw [hno.out]), rfl⟩
              · have i1 : ¬ (k : Int) + 1 + (n : Int) < (s.size : Int) := by omega
                have hno : Hid (routeN s.data.toList = -1) := Lib.hid (by
                  rw [fin.out, hR.out, hst.out, List.drop_of_length_le (by rw [len_eq]; omega)]; rfl)
                go_wp2_with (first | (go_at_call 161; refine (c1 _).mono ?_; rintro e w' ⟨rfl, rfl⟩) | (go_at_call 162; refine (c2 _).mono ?_; rintro e w' ⟨rfl, rfl⟩))
                go_ret
                exact ⟨ret_int (by rw [hno.out]), rfl⟩
          · have q1 : (((s[k].toNat : Int) == 64) : Bool) = false := u8_nlit s[k] 64 h
            have hno : Hid (routeN s.data.toList = -1) := Lib.hid (by rw [fin.out, hR.out, drop_get s k hlt, routeR_other h])
            clear h
            go_wp2
            go_ret
            exact ⟨ret_int (by rw [hno.out]), rfl⟩
        · have hno : Hid (routeN s.data.toList = -1) := Lib.hid (by rw [fin.out, hR.out, List.drop_of_length_le (by rw [len_eq]; omega), routeR_nil])
          go_wp2
          go_ret
          exact ⟨ret_int (by rw [hno.out]), rfl⟩
    · have q0 : (((s[0].toNat : Int) != 64) : Bool) = true := u8_nlit' s[0] 64 h64
      have fin : Hid (routeN s.data.toList = 0) := Lib.hid (by
        unfold routeN routeO; rw [head_get s hp, if_neg (fun h => h64 (Option.some.inj h))]; simp)
      clear h64
      go_enter Tryz.func159, Tryz.ntmps159
      go_wp2
      go_ret
      exact ⟨ret_int (by rw [fin.out]), rfl⟩
  · obtain rfl := size_zero hp
    have fin : Hid (routeN [] = 0) := Lib.hid rfl
    clear hp hs
    go_enter Tryz.func159, Tryz.ntmps159
    go_wp2
    go_ret
    exact ⟨ret_int (by rw [← fin.out]), rfl⟩
end Go.Proofs.YtkmikhinkbbnnaaGreatDoor.M
