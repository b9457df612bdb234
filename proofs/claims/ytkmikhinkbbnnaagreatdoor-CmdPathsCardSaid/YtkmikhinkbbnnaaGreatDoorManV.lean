/- The reference's addresses (mailbagref14), by hand: how far a domain goes, its shape. -/
import Derived.Test.YtkmikhinkbbnnaaGreatDoorManU
namespace Go.Proofs.YtkmikhinkbbnnaaGreatDoor.M
open Go.RowKit Go.Proofs.YtkmikhinkbbnnaaGreatDoor.Sp

theorem ret_int {k : IntKind} {a b : Int} (h : a = b) : Ending.returned (.int k a) = .returned (.int k b) := by rw [h]
def domC (c : UInt8) : Bool := letterB c || c == 45 || c == 46 || c == 91 || c == 93
def domN (l : List UInt8) : Nat := (l.takeWhile domC).length

theorem takeWhile_of (s : ByteArray) (p : UInt8 → Bool) (k : Nat) (hk : k ≤ s.size) (h1 : ∀ j (h : j < s.size), j < k → p s[j] = true) (h2 : ∀ h : k < s.size, p s[k] = false) :
    s.data.toList.takeWhile p = s.data.toList.take k ∧ s.data.toList.dropWhile p = s.data.toList.drop k := by
  have hl := len_eq s
  have key : ∀ (l : List UInt8) (k : Nat), k ≤ l.length → (∀ j (h : j < l.length), j < k → p l[j] = true) → (∀ h : k < l.length, p l[k] = false) → l.takeWhile p = l.take k ∧ l.dropWhile p = l.drop k := by
    intro l
    induction l with
    | nil => intro k _ _ _; simp
    | cons c r ih =>
      intro k hk h1 h2
      cases k with
      | zero =>
        have := h2 (by simp)
        simp only [List.getElem_cons_zero] at this
        simp [this]
      | succ k =>
        have hc : p c = true := h1 0 (by simp) (by omega)
        obtain ⟨e1, e2⟩ := ih k (by simp at hk; omega) (fun j h hj => h1 (j + 1) (by simp; omega) (by omega)) (fun h => h2 (by simp; omega))
        simp [hc, e1, e2]
  exact key s.data.toList k (by omega) (fun j h hj => h1 j (by omega) hj) (fun h => h2 (by omega))

theorem seven {P : Prop} {x y a b c d : Bool} (h1 : x = true → P) (h2 : x = false → y = true → P) (h3 : x = false → y = false → a = true → P) (h4 : x = false → y = false → a = false → b = true → P)
    (h5 : x = false → y = false → a = false → b = false → c = true → P) (h6 : x = false → y = false → a = false → b = false → c = false → d = true → P)
    (h7 : x = false → y = false → a = false → b = false → c = false → d = false → P) : P := by
  cases x with
  | true => exact h1 rfl
  | false => cases y with
    | true => exact h2 rfl rfl
    | false => cases a with
      | true => exact h3 rfl rfl rfl
      | false => cases b with
        | true => exact h4 rfl rfl rfl rfl
        | false => cases c with
          | true => exact h5 rfl rfl rfl rfl rfl
          | false => cases d with
            | true => exact h6 rfl rfl rfl rfl rfl rfl
            | false => exact h7 rfl rfl rfl rfl rfl rfl

set_option maxHeartbeats 4000000 in
theorem rdomN_any (s : ByteArray) (hs : s.size ≤ 140737488355328) (w : World) :
    Calls Tryz.prog 161 #[.string s] w fun e w' => e = .returned (.int .i64 (domN s.data.toList)) ∧ w = w' := by
  go_enter Tryz.func161, Tryz.ntmps161
  go_wp2
  go_loop [3] (fun i => ∃ k : Nat, k ≤ s.size ∧ i = .int .i64 k ∧ Hid (∀ j (h : j < s.size), j < k → domC s[j] = true)) (fun i => s.size - (intOf i).toNat)
  case atStart => exact ⟨0, Nat.zero_le _, rfl, Lib.hid (fun j _ hj => absurd hj (Nat.not_lt_zero _))⟩
  case round =>
    obtain ⟨k, hk, rfl, hall⟩ := hrel
    by_cases hlt : k < s.size
    · have c1 := rletter_any s[k]
      have c2 := rdigit_any s[k]
      have c3 : (((s[k].toNat : Int) == 45) : Bool) = (s[k] == 45) := u8_eq _ 45
      have c4 : (((s[k].toNat : Int) == 46) : Bool) = (s[k] == 46) := u8_eq _ 46
      have c5 : (((s[k].toNat : Int) == 91) : Bool) = (s[k] == 91) := u8_eq _ 91
      have c6 : (((s[k].toNat : Int) == 93) : Bool) = (s[k] == 93) := u8_eq _ 93
      have HC : Hid (domC s[k] = (alphaB s[k] || digitB s[k] || s[k] == 45 || s[k] == 46 || s[k] == 91 || s[k] == 93)) := Lib.hid (by rw [domC, letter_eq])
      generalize hx : alphaB s[k] = x at c1 HC
      generalize hy : digitB s[k] = y at c2 HC
      generalize hz : (s[k] == 45) = z at c3 HC
      generalize hb : (s[k] == 46) = b at c4 HC
      generalize hc : (s[k] == 91) = c at c5 HC
      generalize hd : (s[k] == 93) = d at c6 HC
      clear hx hy hz hb hc hd
      have hstep : (x || y || z || b || c || d) = true → Hid (∀ j (h : j < s.size), j < k + 1 → domC s[j] = true) := fun hh => Lib.hid (fun j h hj => by
        by_cases e : j = k
        · subst e; rw [HC.out]; exact hh
        · exact hall.out j h (by omega))
      have hstop : (x || y || z || b || c || d) = false → Hid (domN s.data.toList = k) := fun hh => Lib.hid (by
        rw [domN, (takeWhile_of s domC k hk hall.out (fun _ => by rw [HC.out]; exact hh)).1, List.length_take, len_eq]; omega)
      refine seven (x := x) (y := y) (a := z) (b := b) (c := c) (d := d) ?h1 ?h2 ?h3 ?h4 ?h5 ?h6 ?h7
      case h7 =>
        rintro rfl rfl rfl rfl rfl rfl
        have hst := hstop rfl
        clear hstep hstop
        go_wp2_with (first | (go_at_call 158; refine (c1 _).mono ?_; rintro e w' ⟨rfl, rfl⟩) | (go_at_call 157; refine (c2 _).mono ?_; rintro e w' ⟨rfl, rfl⟩))
        go_ret
        exact ⟨ret_int (by rw [hst.out]), rfl⟩
      all_goals
        repeat (intro hq; subst hq)
        have hst := hstep rfl
        clear hstep hstop
        go_wp2_with (first | (go_at_call 158; refine (c1 _).mono ?_; rintro e w' ⟨rfl, rfl⟩) | (go_at_call 157; refine (c2 _).mono ?_; rintro e w' ⟨rfl, rfl⟩))
        go_round
        case rel => exact ⟨k + 1, by omega, by go_num, hst⟩
        case measure => simp [intOf]; omega
    · obtain rfl : k = s.size := by omega
      have hst : Hid (domN s.data.toList = s.size) := Lib.hid (by
        rw [domN, (takeWhile_of s domC s.size hk hall.out (fun h => absurd h (Nat.lt_irrefl _))).1, List.length_take, len_eq]; omega)
      go_wp2
      go_ret
      exact ⟨ret_int (by rw [hst.out]), rfl⟩

theorem domainR_empty : domainR [] = false := rfl
/-- The shape of a domain, as the reference tests it. -/
def shapeR (l : List UInt8) : Bool := domainR l || (!l.isEmpty && !(l.head? == some 91) && (splitOn 46 l).all labelB)

set_option maxHeartbeats 8000000 in
set_option maxRecDepth 100000 in
theorem rshape_any (t : ByteArray) (hs : t.size ≤ 140737488355328) (w : World) :
    Calls Tryz.prog 162 #[.string t] w fun e w' => e = .returned (.bool (shapeR t.data.toList)) ∧ w = w' := by
  have hdom := rdomain_any t hs
  cases hD : domainR t.data.toList with
  | true =>
    rw [hD] at hdom
    have fin : Hid (shapeR t.data.toList = true) := Lib.hid (by rw [shapeR, hD]; rfl)
    clear hD
    go_enter Tryz.func162, Tryz.ntmps162
    go_wp2_with (go_at_call 77; refine (hdom _).mono ?_; rintro e w' ⟨rfl, rfl⟩)
    go_ret
    exact ⟨ret_bool (by rw [fin.out]), rfl⟩
  | false =>
    rw [hD] at hdom
    by_cases hp : 0 < t.size
    · have hE := isEmpty_false hp
      cases h91 : (t[0] == 91) with
      | true =>
        have q0 : (((t[0].toNat : Int) == 91) : Bool) = true := by rw [beq_iff_eq.1 h91]; rfl
        have fin : Hid (shapeR t.data.toList = false) := Lib.hid (by rw [shapeR, hD, head_get t hp, beq_iff_eq.1 h91]; simp)
        clear h91 hD
        go_enter Tryz.func162, Tryz.ntmps162
        go_wp2_with (go_at_call 77; refine (hdom _).mono ?_; rintro e w' ⟨rfl, rfl⟩)
        go_ret
        exact ⟨ret_bool (by rw [fin.out]), rfl⟩
      | false =>
        have q0 : (((t[0].toNat : Int) == 91) : Bool) = false := by have := u8_eq t[0] 91; rw [show (91 : Int) = ((91 : UInt8).toNat : Int) from rfl, this, h91]
        have fin0 : shapeR t.data.toList = (splitOn 46 t.data.toList).all labelB := by rw [shapeR, hD, head_get t hp, isEmpty_data hp, Option.some_beq_some, h91]; rfl
        have fin := Lib.hid fin0
        clear h91 hD fin0
        go_enter Tryz.func162, Tryz.ntmps162
        go_wp2_with (go_at_call 77; refine (hdom _).mono ?_; rintro e w' ⟨rfl, rfl⟩)
        clear hdom q0
        go_loop [3, 4] (fun va vi => ∃ (a i : Nat) (done : List (List UInt8)), va = .int .i64 a ∧ vi = .int .i64 i ∧ a ≤ i ∧ i ≤ t.size + 1 ∧ (t.size < i → a = i) ∧ Hid (∀ j (h : j < t.size), a ≤ j → j < i → t[j] ≠ 46) ∧ Hid (splitOn 46 t.data.toList = done ++ segs t.data.toList a) ∧ Hid (done.all labelB = true)) (fun _ vi => t.size + 1 - (intOf vi).toNat)
        case atStart => exact ⟨0, 0, [], rfl, rfl, Nat.le_refl _, Nat.zero_le _, fun _ => rfl, Lib.hid (fun j _ _ hj => absurd hj (Nat.not_lt_zero _)), Lib.hid (by rw [segs_zero]; rfl), Lib.hid rfl⟩
        case round =>
          obtain ⟨a, i, done, rfl, rfl, hai, hi, hend, hno, hsp, hall⟩ := hrel
          by_cases hle : i ≤ t.size
          · have HEND := Lib.hid hend
            clear hend
            have i0 : (i : Int) ≤ (t.size : Int) := by omega
            by_cases hgo : ∃ h : i < t.size, t[i] ≠ 46
            · obtain ⟨hlt, hd⟩ := hgo
              have c2 : (((t[i].toNat : Int) != 46) : Bool) = true := by have := u8_eq t[i] 46; rw [bne, show (46 : Int) = ((46 : UInt8).toNat : Int) from rfl, this, beq_eq_false_iff_ne.2 hd]; rfl
              have HD := Lib.hid hd
              clear hd
              go_wp2
              go_round
              case rel =>
                refine ⟨a, i + 1, done, rfl, by go_num, by omega, by omega, fun h => absurd h (by omega), Lib.hid (fun j h h1 h2 => ?_), hsp, hall⟩
                by_cases e : j = i
                · subst e; exact HD.out
                · exact hno.out j h h1 (by omega)
              case measure => simp [intOf]; omega
            · have hst := segs_step t a i hai hle hno.out (fun h => by
                rcases Decidable.em (t[i] = 46) with e | e
                · exact e
                · exact absurd ⟨h, e⟩ hgo)
              have HSTEP := Lib.hid hst
              have htest : (∃ h : i < t.size, (((t[i].toNat : Int) != 46) : Bool) = false) ∨ ¬ i < t.size := by
                by_cases h : i < t.size
                · refine .inl ⟨h, ?_⟩
                  have e : t[i] = 46 := by
                    rcases Decidable.em (t[i] = 46) with e | e
                    · exact e
                    · exact absurd ⟨h, e⟩ hgo
                  rw [e]; rfl
                · exact .inr h
              clear hst hgo
              have hpz : (t.extract a i).size ≤ 140737488355328 := by rw [ByteArray.size_extract]; omega
              generalize hx : t.extract a i = x at HSTEP hpz
              have hx' := hx
              clear hx
              have hbad : labelB x.data.toList = false → Hid (shapeR t.data.toList = false) := fun hh => Lib.hid (by rw [fin.out, hsp.out, HSTEP.out]; exact not_all_mid _ _ _ _ hh)
              have hgood : labelB x.data.toList = true → Hid (splitOn 46 t.data.toList = (done ++ [x.data.toList]) ++ segs t.data.toList (i + 1)) ∧ Hid ((done ++ [x.data.toList]).all labelB = true) := fun hh => ⟨Lib.hid (by rw [hsp.out, HSTEP.out, List.append_assoc]; rfl), Lib.hid (all_snoc _ _ _ hall.out hh)⟩
              by_cases hxp : 0 < x.size
              · have hxE := isEmpty_false hxp
                have hlb := Lib.hid (labelB_get hxp)
                have n1 : ((x.size : Int) - 1).toNat = x.size - 1 := by omega
                have n2 : 0 ≤ (x.size : Int) - 1 := by omega
                have n3 : (x.size : Int) - 1 < (x.size : Int) := by omega
                have r0 : (((((x[0]'hxp).toNat : Int)) == 45) : Bool) = ((x[0]'hxp) == 45) := u8_eq _ 45
                have r1 : (((((x[x.size - 1]'(by omega)).toNat : Int)) == 45) : Bool) = ((x[x.size - 1]'(by omega)) == 45) := u8_eq _ 45
                generalize hA : ((x[0]'hxp) == 45) = A at r0 hlb
                generalize hB : ((x[x.size - 1]'(by omega)) == 45) = B at r1 hlb
                clear hA hB
                generalize hR : x.data.toList.all labelC = R at hlb
                have HR := Lib.hid hR
                clear hR
                cases A with
                | true =>
                  have hb := hbad (by rw [hlb.out]; rfl)
                  clear hbad hgood r1
                  rcases htest with ⟨hlt, c2⟩ | hlt
                  all_goals
                    go_wp2
                    go_ret
                    exact ⟨ret_bool (by rw [hb.out]), rfl⟩
                | false =>
                  cases B with
                  | true =>
                    have hb := hbad (by rw [hlb.out]; rfl)
                    clear hbad hgood
                    rcases htest with ⟨hlt, c2⟩ | hlt
                    all_goals
                      go_wp2
                      go_ret
                      exact ⟨ret_bool (by rw [hb.out]), rfl⟩
                  | false =>
                    have hb : R = false → Hid (shapeR t.data.toList = false) := fun hh => hbad (by rw [hlb.out, hh]; rfl)
                    have hg : R = true → Hid (splitOn 46 t.data.toList = (done ++ [x.data.toList]) ++ segs t.data.toList (i + 1)) ∧ Hid ((done ++ [x.data.toList]).all labelB = true) := fun hh => hgood (by rw [hlb.out, hh]; rfl)
                    clear hbad hgood
                    rcases htest with ⟨hlt, c2⟩ | hlt
                    all_goals
                      go_wp2
                      go_loop [6] (fun vk => ∃ k : Nat, k ≤ x.size ∧ vk = .int .i64 k ∧ Hid (∀ j (h : j < x.size), j < k → labelC x[j] = true)) (fun vk => x.size - (intOf vk).toNat)
                      case atStart => exact ⟨0, Nat.zero_le _, rfl, Lib.hid (fun j _ hj => absurd hj (Nat.not_lt_zero _))⟩
                      case round =>
                        obtain ⟨k, hk, rfl, hallk⟩ := hrel
                        clear r0 r1
                        by_cases hkl : k < x.size
                        · have c1 := rletter_any x[k]
                          have d1 := rdigit_any x[k]
                          have c3 : ((((x[k].toNat : Int)) == 45) : Bool) = (x[k] == 45) := u8_eq _ 45
                          have c3' : ((((x[k].toNat : Int)) != 45) : Bool) = !(x[k] == 45) := by rw [bne, c3]
                          have HC : Hid (labelC x[k] = (alphaB x[k] || digitB x[k] || x[k] == 45)) := Lib.hid (by rw [labelC, letter_eq])
                          clear c3
                          generalize hX : alphaB x[k] = X at c1 HC
                          generalize hY : digitB x[k] = Y at d1 HC
                          generalize hZ : (x[k] == 45) = Z at c3' HC
                          clear hX hY hZ
                          have hstep : (X || Y || Z) = true → Hid (∀ j (h : j < x.size), j < k + 1 → labelC x[j] = true) := fun hh => Lib.hid (fun j h hj => by
                            by_cases e : j = k
                            · subst e; rw [HC.out]; exact hh
                            · exact hallk.out j h (by omega))
                          have hstop : (X || Y || Z) = false → Hid (shapeR t.data.toList = false) := fun hh => hb (by rw [← HR.out]; exact not_all_of k hkl (by rw [HC.out]; exact hh))
                          cases X <;> cases Y <;> cases Z
                          case false.false.false =>
                            have hfin := hstop rfl
                            clear hstep hstop hb hg
                            go_wp2_with (first | (go_at_call 158; refine (c1 _).mono ?_; rintro e w' ⟨rfl, rfl⟩) | (go_at_call 157; refine (d1 _).mono ?_; rintro e w' ⟨rfl, rfl⟩))
                            go_ret
                            exact ⟨ret_bool (by rw [hfin.out]), rfl⟩
                          all_goals
                            have hst := hstep rfl
                            clear hstep hstop hb hg
                            go_wp2_with (first | (go_at_call 158; refine (c1 _).mono ?_; rintro e w' ⟨rfl, rfl⟩) | (go_at_call 157; refine (d1 _).mono ?_; rintro e w' ⟨rfl, rfl⟩))
                            go_round
                            case rel => exact ⟨k + 1, by omega, by go_num, hst⟩
                            case measure => simp [intOf]; omega
                        · obtain ⟨g1, g2⟩ := hg (by rw [← HR.out]; exact all_of (fun j hj => hallk.out j hj (by omega)))
                          clear hb hg
                          go_wp2
                          go_round
                          case rel => exact ⟨i + 1, i + 1, done ++ [x.data.toList], by go_num, by go_num, Nat.le_refl _, by omega, fun _ => rfl, Lib.hid (fun j _ h1 h2 => absurd h2 (by omega)), g1, g2⟩
                          case measure => simp [intOf]; omega
              · obtain rfl := size_zero hxp
                have hb := hbad rfl
                clear hbad hgood hxp
                rcases htest with ⟨hlt, c2⟩ | hlt
                all_goals
                  go_wp2
                  go_ret
                  exact ⟨ret_bool (by rw [hb.out]), rfl⟩
          · obtain rfl : i = t.size + 1 := by omega
            have i0 : ¬ ((t.size : Int) + 1) ≤ (t.size : Int) := by omega
            obtain rfl : a = t.size + 1 := hend (by omega)
            have hsp2 : Hid (shapeR t.data.toList = true) := Lib.hid (by rw [fin.out, hsp.out, ← len_eq, segs_over, List.append_nil, hall.out])
            clear hend
            go_wp2
            go_ret
            exact ⟨ret_bool (by rw [hsp2.out]), rfl⟩
    · obtain rfl := size_zero hp
      have fin : Hid (shapeR [] = false) := Lib.hid rfl
      clear hp hs hD
      go_enter Tryz.func162, Tryz.ntmps162
      go_wp2_with (go_at_call 77; refine (hdom _).mono ?_; rintro e w' ⟨rfl, rfl⟩)
      go_ret
      exact ⟨ret_bool (by rw [← fin.out]), rfl⟩
end Go.Proofs.YtkmikhinkbbnnaaGreatDoor.M
