/- The reference's addresses (mailbagref14), by hand: local parts. -/
import Derived.Test.YtkmikhinkbbnnaaGreatDoorManX
namespace Go.Proofs.YtkmikhinkbbnnaaGreatDoor.M
open Go.RowKit Go.Proofs.YtkmikhinkbbnnaaGreatDoor.Sp

theorem visible_yes {c : UInt8} (h : 32 ≤ c.toNat ∧ c.toNat ≤ 126) : visibleB c = true := by simp [visibleB, UInt8.le_iff_toNat_le]; exact h
theorem visible_no {c : UInt8} (h : ¬ (32 ≤ c.toNat ∧ c.toNat ≤ 126)) : visibleB c = false := by rw [Bool.eq_false_iff]; simp [visibleB, UInt8.le_iff_toNat_le]; omega

/-- What 'local' comes to: the text, and how many bytes it took; -1: none. -/
def LocalEnd (s : ByteArray) (w : World) (e : Ending) (w' : World) : Prop :=
  (match localO s.data.toList with
    | none => e = .returned (.tuple #[.string ⟨#[]⟩, .int .i64 (-1)])
    | some (lo, r) => e = .returned (.tuple #[.string ⟨lo.toArray⟩, .int .i64 ((s.size : Int) - r.length)])) ∧ Below w.heap.size w w'
theorem localEnd_none {s : ByteArray} {w w' : World} (h : localO s.data.toList = none) (hb : Below w.heap.size w w') : LocalEnd s w (.returned (.tuple #[.string ⟨#[]⟩, .int .i64 (-1)])) w' := by
  unfold LocalEnd; rw [h]; exact ⟨rfl, hb⟩
theorem localEnd_some {s : ByteArray} {w w' : World} {lo r : List UInt8} {n : Int} (h : localO s.data.toList = some (lo, r)) (hn : n = (s.size : Int) - r.length) (hb : Below w.heap.size w w') : LocalEnd s w (.returned (.tuple #[.string ⟨lo.toArray⟩, .int .i64 n])) w' := by
  unfold LocalEnd; rw [h]; exact ⟨by rw [hn], hb⟩

theorem quoteGo_end (acc : List UInt8) : quoteGo acc [] = none := rfl
theorem quoteGo_quote (acc r : List UInt8) (c : UInt8) (h : c = 34) : quoteGo acc (c :: r) = if acc = [] then none else some (acc, r) := by
  rw [quoteGo.eq_def]; simp only [if_pos h]
theorem quoteGo_stroke (acc r : List UInt8) (c d : UInt8) (h : c = 92) : quoteGo acc (c :: d :: r) = if visibleB d then quoteGo (acc ++ [d]) r else none := by
  conv => lhs; rw [quoteGo.eq_def]
  simp only [if_neg (show ¬ c = 34 by rw [h]; decide), if_pos h]
theorem quoteGo_stroke_end (acc : List UInt8) (c : UInt8) (h : c = 92) : quoteGo acc [c] = none := by
  rw [quoteGo.eq_def]; simp only [if_neg (show ¬ c = 34 by rw [h]; decide), if_pos h]
theorem quoteGo_other (acc r : List UInt8) (c : UInt8) (h1 : c ≠ 34) (h2 : c ≠ 92) : quoteGo acc (c :: r) = if visibleB c then quoteGo (acc ++ [c]) r else none := by
  conv => lhs; rw [quoteGo.eq_def]
  simp only [if_neg h1, if_neg h2]

set_option maxHeartbeats 8000000 in
set_option maxRecDepth 100000 in
theorem rlocal_quoted (s : ByteArray) (hs : s.size ≤ 140737488355327) (hp : 0 < s.size) (h34 : s[0] = 34) (w : World) :
    Calls Tryz.prog 160 #[.string s] w (LocalEnd s w) := by
  have hE := isEmpty_false hp
  have q0 : (((s[0].toNat : Int) == 34) : Bool) = true := u8_lit s[0] 34 h34
  have fin0 : localO s.data.toList = quoteGo [] (s.data.toList.drop 1) := by unfold localO; rw [head_get s hp, h34, if_pos rfl]
  have fin := Lib.hid fin0
  clear h34 fin0
  go_enter Tryz.func160, Tryz.ntmps160
  go_wp2
  clear q0
  go_loopw [4, 5] (fun b i wr => ∃ (k : Nat) (acc : List UInt8) (bv : Value), k ≤ s.size ∧ 1 ≤ k ∧ acc.length ≤ k ∧ i = .int .i64 k ∧ bv = b ∧ Hid (OwnB wr w.heap.size bv acc) ∧ Hid (Below w.heap.size w wr) ∧ Hid (localO s.data.toList = quoteGo acc (s.data.toList.drop k))) (fun _ i _ => s.size - (intOf i).toNat)
  case atStart => exact ⟨1, [], .slice none 0 0, by omega, Nat.le_refl _, Nat.zero_le _, rfl, rfl, Lib.hid (ownB_nil _ _), Lib.hid (Below.refl _ _), fin⟩
  case round =>
    obtain ⟨k, acc, bv, hk, hk1, hacc, rfl, rfl, HO, HB, HQ⟩ := hrel
    by_cases hlt : k < s.size
    · have hg := Lib.hid (drop_get s k hlt)
      by_cases h34 : s[k] = 34
      · have q1 : (((s[k].toNat : Int) != 34) : Bool) = false := u8_lit' s[k] 34 h34
        have hst := Lib.hid (quoteGo_quote acc (s.data.toList.drop (k + 1)) s[k] h34)
        have i0 : ¬ (s.size : Int) ≤ (k : Int) := by omega
        have hcv := ownB_string HO.out
        obtain ⟨pa, pc, rfl, hlen⟩ := ownB_form HO.out
        clear h34
        by_cases hac : acc = []
        · subst hac
          have hno : Hid (localO s.data.toList = none) := Lib.hid (by rw [HQ.out, hg.out, hst.out, if_pos rfl])
          go_wp2
          go_ret2
          exact localEnd_none hno.out HB.out
        · have hne : (((acc.length : Nat) : Int) == 0) = false := by
            rw [beq_eq_false_iff_ne]; have := List.length_pos_iff.2 hac; omega
          have hyes : Hid (localO s.data.toList = some (acc, s.data.toList.drop (k + 1))) := Lib.hid (by rw [HQ.out, hg.out, hst.out, if_neg hac])
          have hlr : Hid ((k : Int) + 1 = (s.size : Int) - (s.data.toList.drop (k + 1)).length) := Lib.hid (by rw [List.length_drop, len_eq]; omega)
          clear hac
          go_wp2
          go_ret2
          exact localEnd_some hyes.out hlr.out HB.out
      · have q1 : (((s[k].toNat : Int) != 34) : Bool) = true := u8_nlit' s[k] 34 h34
        by_cases h92 : s[k] = 92
        · have q2 : (((s[k].toNat : Int) == 92) : Bool) = true := u8_lit s[k] 92 h92
          by_cases hlt2 : k + 1 < s.size
          · have hg2 := Lib.hid (drop_get s (k + 1) hlt2)
            have hst := Lib.hid (quoteGo_stroke acc (s.data.toList.drop (k + 1 + 1)) s[k] s[k + 1] h92)
            have i1 : ¬ (s.size : Int) ≤ (k : Int) + 1 := by omega
            have i2 : (k : Int) + 1 < (s.size : Int) := by omega
            have i3 : ((k : Int) + 1).toNat = k + 1 := by omega
            clear h34 h92
            by_cases hv : 32 ≤ s[k + 1].toNat ∧ s[k + 1].toNat ≤ 126
            · have hQ : Hid (localO s.data.toList = quoteGo (acc ++ [s[k + 1]]) (s.data.toList.drop (k + 1 + 1))) := Lib.hid (by rw [HQ.out, hg.out, hg2.out, hst.out, visible_yes hv, if_pos rfl])
              have v0 : ¬ (s[k + 1].toNat : Int) < 32 := by omega
              have v1 : ¬ (126 : Int) < (s[k + 1].toNat : Int) := by omega
              clear hv
              go_wp2_with (at_builtin; refine appB1 w.heap.size rfl _ _ rfl bv acc s[k + 1] rfl rfl HO.out (Below.size HB.out) (by omega) ?_; intro v1 w1 HO1 HB1)
              go_roundw
              case rel => exact ⟨k + 1 + 1, acc ++ [s[k + 1]], v1, by omega, by omega, by rw [List.length_append]; simp; omega, by go_num, rfl, Lib.hid HO1, Lib.hid (HB.out.trans HB1), hQ⟩
              case measure => simp [intOf]; omega
            · have hno : Hid (localO s.data.toList = none) := Lib.hid (by rw [HQ.out, hg.out, hg2.out, hst.out, visible_no hv, if_neg (by decide)])
              have v0 : (s[k + 1].toNat : Int) < 32 ∨ (¬ (s[k + 1].toNat : Int) < 32 ∧ (126 : Int) < (s[k + 1].toNat : Int)) := by omega
              clear hv
              rcases v0 with v0 | ⟨v0, v1⟩
              all_goals
                go_wp2
                go_ret2
                exact localEnd_none hno.out HB.out
          · have hno : Hid (localO s.data.toList = none) := Lib.hid (by rw [HQ.out, hg.out, List.drop_of_length_le (by rw [len_eq]; omega), quoteGo_stroke_end acc _ h92])
            have i1 : (s.size : Int) ≤ (k : Int) + 1 := by omega
            clear h34 h92
            go_wp2
            go_ret2
            exact localEnd_none hno.out HB.out
        · have q2 : (((s[k].toNat : Int) == 92) : Bool) = false := u8_nlit s[k] 92 h92
          have hst := Lib.hid (quoteGo_other acc (s.data.toList.drop (k + 1)) s[k] h34 h92)
          have i1 : ¬ (s.size : Int) ≤ (k : Int) := by omega
          clear h34 h92
          by_cases hv : 32 ≤ s[k].toNat ∧ s[k].toNat ≤ 126
          · have hQ : Hid (localO s.data.toList = quoteGo (acc ++ [s[k]]) (s.data.toList.drop (k + 1))) := Lib.hid (by rw [HQ.out, hg.out, hst.out, visible_yes hv, if_pos rfl])
            have v0 : ¬ (s[k].toNat : Int) < 32 := by omega
            have v1 : ¬ (126 : Int) < (s[k].toNat : Int) := by omega
            clear hv
            go_wp2_with (at_builtin; refine appB1 w.heap.size rfl _ _ rfl bv acc s[k] rfl rfl HO.out (Below.size HB.out) (by omega) ?_; intro v1 w1 HO1 HB1)
            go_roundw
            case rel => exact ⟨k + 1, acc ++ [s[k]], v1, by omega, by omega, by rw [List.length_append]; simp; omega, by go_num, rfl, Lib.hid HO1, Lib.hid (HB.out.trans HB1), hQ⟩
            case measure => simp [intOf]; omega
          · have hno : Hid (localO s.data.toList = none) := Lib.hid (by rw [HQ.out, hg.out, hst.out, visible_no hv, if_neg (by decide)])
            have v0 : (s[k].toNat : Int) < 32 ∨ (¬ (s[k].toNat : Int) < 32 ∧ (126 : Int) < (s[k].toNat : Int)) := by omega
            clear hv
            rcases v0 with v0 | ⟨v0, v1⟩
            all_goals
              go_wp2
              go_ret2
              exact localEnd_none hno.out HB.out
    · have hno : Hid (localO s.data.toList = none) := Lib.hid (by rw [HQ.out, List.drop_of_length_le (by rw [len_eq]; omega), quoteGo_end])
      have i0 : (s.size : Int) ≤ (k : Int) := by omega
      go_wp2
      go_ret2
      exact localEnd_none hno.out HB.out

theorem three {P : Prop} {x y : Bool} (h1 : x = true → P) (h2 : x = false → y = true → P) (h3 : x = false → y = false → P) : P := by
  cases x with
  | true => exact h1 rfl
  | false => cases y with
    | true => exact h2 rfl rfl
    | false => exact h3 rfl rfl

theorem localO_plain {s : ByteArray} (h : s.data.toList.head? ≠ some 34) (k : Nat) (hk : k ≤ s.size) (h1 : ∀ j (h : j < s.size), j < k → wordC s[j] = true) (h2 : ∀ h : k < s.size, wordC s[k] = false) :
    localO s.data.toList = if plainB (s.data.toList.take k) then some (s.data.toList.take k, s.data.toList.drop k) else none := by
  obtain ⟨e1, e2⟩ := takeWhile_of s wordC k hk h1 h2
  unfold localO
  rw [if_neg h, e1, e2]

theorem take_mk (s : ByteArray) (k : Nat) : (⟨(s.data.toList.take k).toArray⟩ : ByteArray) = s.extract 0 k := by
  apply Go.WideShapes.bytes_inj
  rw [Lib.extract_from_zero]

set_option maxHeartbeats 8000000 in
set_option maxRecDepth 100000 in
theorem rlocal_plain_empty (s : ByteArray) (hs : s.size ≤ 140737488355327) (H34 : Hid (s.data.toList.head? ≠ some 34)) (hE : s.toList.isEmpty = true) (w : World) :
    Calls Tryz.prog 160 #[.string s] w (LocalEnd s w) := by
  go_enter Tryz.func160, Tryz.ntmps160
  go_wp2
  go_loop [6] (fun i => ∃ k : Nat, k ≤ s.size ∧ i = .int .i64 k ∧ Hid (∀ j (h : j < s.size), j < k → wordC s[j] = true)) (fun i => s.size - (intOf i).toNat)
  case atStart => exact ⟨0, Nat.zero_le _, rfl, Lib.hid (fun j _ hj => absurd hj (Nat.not_lt_zero _))⟩
  case round =>
    obtain ⟨k, hk, rfl, hall⟩ := hrel
    have hexit : (∀ h : k < s.size, wordC s[k] = false) → Hid (localO s.data.toList = if plainB (s.data.toList.take k) then some (s.data.toList.take k, s.data.toList.drop k) else none) := fun h => Lib.hid (localO_plain H34.out k hk hall.out h)
    have cp := rplain_any (s.extract 0 k) (by rw [ByteArray.size_extract]; omega)
    rw [Lib.extract_from_zero] at cp
    have hlr : Hid ((k : Int) = (s.size : Int) - (s.data.toList.drop k).length) := Lib.hid (by rw [List.length_drop, len_eq]; omega)
    have htk := Lib.hid (take_mk s k)
    by_cases hlt : k < s.size
    · have c1 := atext_any s[k]
      have c2 : (((s[k].toNat : Int) == 46) : Bool) = (s[k] == 46) := u8_eq _ 46
      have HC : Hid (wordC s[k] = (atomB s[k] || s[k] == 46)) := Lib.hid rfl
      generalize hx : atomB s[k] = x at c1 HC
      generalize hy : (s[k] == 46) = y at c2 HC
      clear hx hy
      have hstep : (x || y) = true → Hid (∀ j (h : j < s.size), j < k + 1 → wordC s[j] = true) := fun hh => Lib.hid (fun j h hj => by
        by_cases e : j = k
        · subst e; rw [HC.out]; exact hh
        · exact hall.out j h (by omega))
      refine three (x := x) (y := y) ?h1 ?h2 ?h3
      case h3 =>
        intro hq; subst hq; intro hq; subst hq
        have hE2 := hexit (fun _ => HC.out)
        clear hexit hstep
        cases hpl : plainB (s.data.toList.take k) with
        | true =>
          rw [hpl] at cp hE2
          clear hpl
          go_wp2_with (first | (go_at_call 150; refine (c1 _).mono ?_; rintro e w' ⟨rfl, rfl⟩) | (go_at_call 111; refine (cp _).mono ?_; rintro e w' ⟨rfl, rfl⟩))
          go_ret2
          rw [← htk.out]
          exact localEnd_some hE2.out hlr.out (Below.refl _ _)
        | false =>
          rw [hpl] at cp hE2
          clear hpl
          go_wp2_with (first | (go_at_call 150; refine (c1 _).mono ?_; rintro e w' ⟨rfl, rfl⟩) | (go_at_call 111; refine (cp _).mono ?_; rintro e w' ⟨rfl, rfl⟩))
          go_ret2
          exact localEnd_none hE2.out (Below.refl _ _)
      all_goals
        repeat (intro hq; subst hq)
        have hst := hstep rfl
        clear hexit hstep cp
        go_wp2_with (go_at_call 150; refine (c1 _).mono ?_; rintro e w' ⟨rfl, rfl⟩)
        go_round
        case rel => exact ⟨k + 1, by omega, by go_num, hst⟩
        case measure => simp [intOf]; omega
    · have hE2 := hexit (fun h => absurd h hlt)
      clear hexit
      cases hpl : plainB (s.data.toList.take k) with
      | true =>
        rw [hpl] at cp hE2
        clear hpl
        go_wp2_with (go_at_call 111; refine (cp _).mono ?_; rintro e w' ⟨rfl, rfl⟩)
        go_ret2
        rw [← htk.out]
        exact localEnd_some hE2.out hlr.out (Below.refl _ _)
      | false =>
        rw [hpl] at cp hE2
        clear hpl
        go_wp2_with (go_at_call 111; refine (cp _).mono ?_; rintro e w' ⟨rfl, rfl⟩)
        go_ret2
        exact localEnd_none hE2.out (Below.refl _ _)

set_option maxHeartbeats 8000000 in
set_option maxRecDepth 100000 in
theorem rlocal_plain_full (s : ByteArray) (hs : s.size ≤ 140737488355327) (H34 : Hid (s.data.toList.head? ≠ some 34)) (hp : 0 < s.size) (hE : s.toList.isEmpty = false) (q0 : (((s[0].toNat : Int) == 34) : Bool) = false) (w : World) :
    Calls Tryz.prog 160 #[.string s] w (LocalEnd s w) := by
  go_enter Tryz.func160, Tryz.ntmps160
  go_wp2
  go_loop [6] (fun i => ∃ k : Nat, k ≤ s.size ∧ i = .int .i64 k ∧ Hid (∀ j (h : j < s.size), j < k → wordC s[j] = true)) (fun i => s.size - (intOf i).toNat)
  case atStart => exact ⟨0, Nat.zero_le _, rfl, Lib.hid (fun j _ hj => absurd hj (Nat.not_lt_zero _))⟩
  case round =>
    obtain ⟨k, hk, rfl, hall⟩ := hrel
    have hexit : (∀ h : k < s.size, wordC s[k] = false) → Hid (localO s.data.toList = if plainB (s.data.toList.take k) then some (s.data.toList.take k, s.data.toList.drop k) else none) := fun h => Lib.hid (localO_plain H34.out k hk hall.out h)
    have cp := rplain_any (s.extract 0 k) (by rw [ByteArray.size_extract]; omega)
    rw [Lib.extract_from_zero] at cp
    have hlr : Hid ((k : Int) = (s.size : Int) - (s.data.toList.drop k).length) := Lib.hid (by rw [List.length_drop, len_eq]; omega)
    have htk := Lib.hid (take_mk s k)
    by_cases hlt : k < s.size
    · have c1 := atext_any s[k]
      have c2 : (((s[k].toNat : Int) == 46) : Bool) = (s[k] == 46) := u8_eq _ 46
      have HC : Hid (wordC s[k] = (atomB s[k] || s[k] == 46)) := Lib.hid rfl
      generalize hx : atomB s[k] = x at c1 HC
      generalize hy : (s[k] == 46) = y at c2 HC
      clear hx hy
      have hstep : (x || y) = true → Hid (∀ j (h : j < s.size), j < k + 1 → wordC s[j] = true) := fun hh => Lib.hid (fun j h hj => by
        by_cases e : j = k
        · subst e; rw [HC.out]; exact hh
        · exact hall.out j h (by omega))
      refine three (x := x) (y := y) ?h1 ?h2 ?h3
      case h3 =>
        intro hq; subst hq; intro hq; subst hq
        have hE2 := hexit (fun _ => HC.out)
        clear hexit hstep
        cases hpl : plainB (s.data.toList.take k) with
        | true =>
          rw [hpl] at cp hE2
          clear hpl
          go_wp2_with (first | (go_at_call 150; refine (c1 _).mono ?_; rintro e w' ⟨rfl, rfl⟩) | (go_at_call 111; refine (cp _).mono ?_; rintro e w' ⟨rfl, rfl⟩))
          go_ret2
          rw [← htk.out]
          exact localEnd_some hE2.out hlr.out (Below.refl _ _)
        | false =>
          rw [hpl] at cp hE2
          clear hpl
          go_wp2_with (first | (go_at_call 150; refine (c1 _).mono ?_; rintro e w' ⟨rfl, rfl⟩) | (go_at_call 111; refine (cp _).mono ?_; rintro e w' ⟨rfl, rfl⟩))
          go_ret2
          exact localEnd_none hE2.out (Below.refl _ _)
      all_goals
        repeat (intro hq; subst hq)
        have hst := hstep rfl
        clear hexit hstep cp
        go_wp2_with (go_at_call 150; refine (c1 _).mono ?_; rintro e w' ⟨rfl, rfl⟩)
        go_round
        case rel => exact ⟨k + 1, by omega, by go_num, hst⟩
        case measure => simp [intOf]; omega
    · have hE2 := hexit (fun h => absurd h hlt)
      clear hexit
      cases hpl : plainB (s.data.toList.take k) with
      | true =>
        rw [hpl] at cp hE2
        clear hpl
        go_wp2_with (go_at_call 111; refine (cp _).mono ?_; rintro e w' ⟨rfl, rfl⟩)
        go_ret2
        rw [← htk.out]
        exact localEnd_some hE2.out hlr.out (Below.refl _ _)
      | false =>
        rw [hpl] at cp hE2
        clear hpl
        go_wp2_with (go_at_call 111; refine (cp _).mono ?_; rintro e w' ⟨rfl, rfl⟩)
        go_ret2
        exact localEnd_none hE2.out (Below.refl _ _)

theorem rlocal_plain (s : ByteArray) (hs : s.size ≤ 140737488355327) (h34 : s.data.toList.head? ≠ some 34) (w : World) :
    Calls Tryz.prog 160 #[.string s] w (LocalEnd s w) := by
  by_cases hp : 0 < s.size
  · have : s[0] ≠ 34 := fun e => h34 (by rw [head_get s hp, e])
    exact rlocal_plain_full s hs (Lib.hid h34) hp (isEmpty_false hp) (u8_nlit s[0] 34 this) w
  · refine rlocal_plain_empty s hs (Lib.hid h34) ?_ w
    rw [size_zero hp, Go.ByteArray.toList_eq]; rfl

theorem rlocalp_any (s : ByteArray) (hs : s.size ≤ 140737488355327) (w : World) :
    Calls Tryz.prog 160 #[.string s] w (LocalEnd s w) := by
  by_cases h : s.data.toList.head? = some 34
  · have hp : 0 < s.size := by
      rcases Nat.eq_zero_or_pos s.size with h0 | h0
      · rw [size_zero (s := s) (by omega)] at h; cases h
      · exact h0
    rw [head_get s hp] at h
    exact rlocal_quoted s hs hp (Option.some.inj h) w
  · exact rlocal_plain s hs h w
end Go.Proofs.YtkmikhinkbbnnaaGreatDoor.M
