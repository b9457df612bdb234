/- The reference's addresses (mailbagref14), by hand: words with dots, domains. -/
import Derived.Test.YtkmikhinkbbnnaaGreatDoorManS
namespace Go.Proofs.YtkmikhinkbbnnaaGreatDoor.M
open Go.RowKit Go.Proofs.YtkmikhinkbbnnaaGreatDoor.Sp

theorem drop_get (s : ByteArray) (k : Nat) (h : k < s.size) : s.data.toList.drop k = s[k] :: s.data.toList.drop (k + 1) := by
  rw [List.drop_eq_getElem_cons (by rw [len_eq]; exact h)]; rfl

set_option maxHeartbeats 2000000 in
theorem rplain_any (s : ByteArray) (hs : s.size ≤ 140737488355328) (w : World) :
    Calls Tryz.prog 111 #[.string s] w fun e w' => e = .returned (.bool (plainB s.data.toList)) ∧ w = w' := by
  have fin := Lib.hid (plain_words s.data.toList)
  go_enter Tryz.func111, Tryz.ntmps111
  go_wp2
  go_loop [3, 4] (fun i _ => ∃ k : Nat, k ≤ s.size ∧ i = .int .i64 k ∧ ∃ st : Bool, Hid (words true s.data.toList = words st (s.data.toList.drop k)) ∧ (k = 0 → st = true) ∧ (0 < k → k = s.size → st = false) ∧ Hid (∀ h : 0 < k, ∀ h2 : k ≤ s.size, st = (s[k - 1] == 46))) (fun i _ => s.size - (intOf i).toNat)
  case atStart => exact ⟨0, Nat.zero_le _, rfl, true, Lib.hid rfl, fun _ => rfl, fun h => absurd h (Nat.lt_irrefl _), Lib.hid (fun h => absurd h (Nat.lt_irrefl _))⟩
  case round =>
    obtain ⟨k, hk, rfl, st, hW, h0, h1, h2⟩ := hrel
    by_cases hlt : k < s.size
    · have c1 := atext_any s[k]
      have c2 : (((s[k].toNat : Int) == 46) : Bool) = (s[k] == 46) := u8_eq _ 46
      have HD := Lib.hid (drop_get s k hlt)
      have H0 := Lib.hid h0
      clear h0 h1
      cases hd : (s[k] == 46) with
      | true =>
        rw [hd] at c2
        have e46 : s[k] = 46 := beq_iff_eq.1 hd
        rw [show atomB s[k] = false from by rw [e46]; exact atom_no_dot] at c1
        have HS : Hid (words st (s.data.toList.drop k) = (!st && words true (s.data.toList.drop (k + 1)))) := Lib.hid (by rw [HD.out, words, if_pos e46])
        have H46 := Lib.hid hd
        clear hd e46
        cases hst : st with
        | true =>
          subst hst
          have hno : Hid (plainB s.data.toList = false) := Lib.hid (by rw [fin.out, hW.out, HS.out]; rfl)
          by_cases hk0 : 0 < k
          · have q : (((s[k - 1].toNat : Int) != 46) : Bool) = false := by
              have := u8_eq s[k - 1] 46
              rw [bne, show (46 : Int) = ((46 : UInt8).toNat : Int) from rfl, this, ← h2.out hk0 hk]; rfl
            have i0 : (0 : Int) < (k : Int) := by omega
            have n1 : ((k : Int) - 1).toNat = k - 1 := by omega
            have n2 : 0 ≤ (k : Int) - 1 := by omega
            have n3 : (k : Int) - 1 < (s.size : Int) := by omega
            have n4 : k - 1 < s.size := by omega
            clear h2 HS H0
            by_cases hkl : k + 1 < s.size
            · have i1 : (k : Int) + 1 < (s.size : Int) := by omega
              go_wp2_with (go_at_call 150; refine (c1 _).mono ?_; rintro e w' ⟨rfl, rfl⟩)
              go_ret
              exact ⟨ret_bool (by rw [hno.out]), rfl⟩
            · have i1 : ¬ (k : Int) + 1 < (s.size : Int) := by omega
              go_wp2_with (go_at_call 150; refine (c1 _).mono ?_; rintro e w' ⟨rfl, rfl⟩)
              go_ret
              exact ⟨ret_bool (by rw [hno.out]), rfl⟩
          · have i0 : ¬ (0 : Int) < (k : Int) := by omega
            clear h2 HS H0
            go_wp2_with (go_at_call 150; refine (c1 _).mono ?_; rintro e w' ⟨rfl, rfl⟩)
            go_ret
            exact ⟨ret_bool (by rw [hno.out]), rfl⟩
        | false =>
          subst hst
          have hk0 : 0 < k := by
            rcases Nat.eq_zero_or_pos k with h | h
            · exact absurd (H0.out h) (by decide)
            · exact h
          have q : (((s[k - 1].toNat : Int) != 46) : Bool) = true := by
            have := u8_eq s[k - 1] 46
            rw [bne, show (46 : Int) = ((46 : UInt8).toNat : Int) from rfl, this, ← h2.out hk0 hk]; rfl
          have i0 : (0 : Int) < (k : Int) := by omega
          have n1 : ((k : Int) - 1).toNat = k - 1 := by omega
          have n2 : 0 ≤ (k : Int) - 1 := by omega
          have n3 : (k : Int) - 1 < (s.size : Int) := by omega
          have n4 : k - 1 < s.size := by omega
          clear h2 H0
          by_cases hkl : k + 1 < s.size
          · have i1 : (k : Int) + 1 < (s.size : Int) := by omega
            go_wp2_with (go_at_call 150; refine (c1 _).mono ?_; rintro e w' ⟨rfl, rfl⟩)
            go_round
            case rel => exact ⟨k + 1, by omega, by go_num, true, Lib.hid (by rw [hW.out, HS.out]; rfl), fun h => absurd h (by omega), fun _ h => absurd h (by omega), Lib.hid (fun _ _ => by rw [show s[k + 1 - 1] = s[k] from rfl, H46.out])⟩
            case measure => simp [intOf]; omega
          · have i1 : ¬ (k : Int) + 1 < (s.size : Int) := by omega
            have hno : Hid (plainB s.data.toList = false) := Lib.hid (by rw [fin.out, hW.out, HS.out, List.drop_of_length_le (by rw [len_eq]; omega)]; rfl)
            go_wp2_with (go_at_call 150; refine (c1 _).mono ?_; rintro e w' ⟨rfl, rfl⟩)
            go_ret
            exact ⟨ret_bool (by rw [hno.out]), rfl⟩
      | false =>
        rw [hd] at c2
        have e46 : ¬ s[k] = 46 := beq_eq_false_iff_ne.1 hd
        have HS : Hid (words st (s.data.toList.drop k) = (atomB s[k] && words false (s.data.toList.drop (k + 1)))) := Lib.hid (by rw [HD.out, words, if_neg e46])
        have H46 := Lib.hid hd
        clear hd e46 h2 H0
        cases ha : atomB s[k] with
        | true =>
          rw [ha] at c1
          have HA := Lib.hid ha
          clear ha
          go_wp2_with (go_at_call 150; refine (c1 _).mono ?_; rintro e w' ⟨rfl, rfl⟩)
          go_round
          case rel => exact ⟨k + 1, by omega, by go_num, false, Lib.hid (by rw [hW.out, HS.out, HA.out]; rfl), fun h => absurd h (by omega), fun _ _ => rfl, Lib.hid (fun _ _ => by rw [show s[k + 1 - 1] = s[k] from rfl, H46.out])⟩
          case measure => simp [intOf]; omega
        | false =>
          rw [ha] at c1
          have hno : Hid (plainB s.data.toList = false) := Lib.hid (by rw [fin.out, hW.out, HS.out, ha]; rfl)
          clear ha
          go_wp2_with (go_at_call 150; refine (c1 _).mono ?_; rintro e w' ⟨rfl, rfl⟩)
          go_ret
          exact ⟨ret_bool (by rw [hno.out]), rfl⟩
    · obtain rfl : k = s.size := by omega
      have hr : Hid (plainB s.data.toList = !st) := Lib.hid (by rw [fin.out, hW.out, List.drop_of_length_le (by rw [len_eq]; omega)]; rfl)
      by_cases hp : 0 < s.size
      · have hE := isEmpty_false hp
        have hst := h1 hp rfl
        subst hst
        clear h0 h1 h2
        go_wp2
        go_ret
        exact ⟨ret_bool (by rw [hr.out]; rfl), rfl⟩
      · have hz : s.size = 0 := by omega
        have hst := h0 hz
        subst hst
        have hE : s.toList.isEmpty = true := by rw [size_zero hp, Go.ByteArray.toList_eq]; rfl
        clear h0 h1 h2 hz
        go_wp2
        go_ret
        exact ⟨ret_bool (by rw [hr.out]; rfl), rfl⟩

/-- What is left of a cut text behind place 'at'. -/
def segs (l : List UInt8) (k : Nat) : List (List UInt8) := if k ≤ l.length then splitOn 46 (l.drop k) else []
theorem segs_zero (l : List UInt8) : segs l 0 = splitOn 46 l := by simp [segs]
theorem segs_dot (l : List UInt8) (a i : Nat) (ha : a ≤ i) (hi : i < l.length) (hno : ∀ j (h : j < l.length), a ≤ j → j < i → l[j] ≠ 46) (hd : l[i] = 46) : segs l a = (l.drop a).take (i - a) :: segs l (i + 1) := by
  rw [segs, if_pos (by omega), segs, if_pos (by omega)]
  have e : l.drop a = (l.drop a).take (i - a) ++ 46 :: l.drop (i + 1) := by
    conv => lhs; rw [← List.take_append_drop (i - a) (l.drop a)]
    rw [List.drop_drop, show a + (i - a) = i by omega, List.drop_eq_getElem_cons hi, hd]
  conv => lhs; rw [e]
  refine splitOn_at 46 _ _ fun b hb => ?_
  obtain ⟨j, hj, rfl⟩ := List.getElem_of_mem hb
  simp only [List.length_take, List.length_drop] at hj
  simp only [List.getElem_take, List.getElem_drop]
  exact hno _ _ (by omega) (by omega)
theorem segs_end (l : List UInt8) (a : Nat) (ha : a ≤ l.length) (hno : ∀ j (h : j < l.length), a ≤ j → l[j] ≠ 46) : segs l a = [(l.drop a).take (l.length - a)] := by
  rw [segs, if_pos ha, splitOn_none 46 _ fun b hb => ?_, List.take_of_length_le (by simp)]
  obtain ⟨j, hj, rfl⟩ := List.getElem_of_mem hb
  simp only [List.length_drop] at hj
  simp only [List.getElem_drop]
  exact hno _ _ (by omega)
theorem segs_over (l : List UInt8) : segs l (l.length + 1) = [] := by rw [segs, if_neg (by omega)]

/-- The reference's test of a domain. -/
def domainR (l : List UInt8) : Bool :=
  if l.isEmpty || decide (255 < l.length) then false
  else if l.head? = some 91 then
    if l.getLast? = some 93 ∧ 2 ≤ l.length then (splitOn 46 (l.drop 1).dropLast).all octetB && decide ((splitOn 46 (l.drop 1).dropLast).length = 4) else false
  else (splitOn 46 l).all labelR

theorem extract_seg (s : ByteArray) (a i : Nat) : (s.extract a i).data.toList = (s.data.toList.drop a).take (i - a) := by rw [Lib.extract_data]

/-- One step of the cut: the piece at hand. -/
theorem segs_step (s : ByteArray) (a i : Nat) (ha : a ≤ i) (hi : i ≤ s.size) (hno : ∀ j (h : j < s.size), a ≤ j → j < i → s[j] ≠ 46) (hd : ∀ h : i < s.size, s[i] = 46) :
    segs s.data.toList a = (s.extract a i).data.toList :: segs s.data.toList (i + 1) := by
  have hl := len_eq s
  rw [extract_seg]
  by_cases h : i < s.size
  · exact segs_dot _ a i ha (by omega) (fun j hj h1 h2 => hno j (by omega) h1 h2) (hd h)
  · obtain rfl : i = s.size := by omega
    rw [segs_end s.data.toList a (by omega) (fun j hj h1 => hno j (by omega) h1 (by omega)), hl]
    congr 1
    rw [← hl, segs_over]

theorem not_all_mid {α : Type} (p : α → Bool) (xs ys : List α) (y : α) (h : p y = false) : (xs ++ y :: ys).all p = false := by
  rw [List.all_append, List.all_cons, h, Bool.false_and, Bool.and_false]
theorem all_snoc {α : Type} (p : α → Bool) (xs : List α) (y : α) (h1 : xs.all p = true) (h2 : p y = true) : (xs ++ [y]).all p = true := by simp [h1, h2]
end Go.Proofs.YtkmikhinkbbnnaaGreatDoor.M
