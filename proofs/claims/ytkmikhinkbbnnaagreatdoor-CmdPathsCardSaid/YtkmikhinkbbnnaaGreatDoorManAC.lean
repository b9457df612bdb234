/- Package addr: the scanner's domains, by hand. -/
import Derived.Test.YtkmikhinkbbnnaaGreatDoorManAB
namespace Go.Proofs.YtkmikhinkbbnnaaGreatDoor.M
open Go.RowKit Go.Proofs.YtkmikhinkbbnnaaGreatDoor.Sp
attribute [local go_sem ↓] Go.wp_at_zero Go.wp_at_succ

theorem six {P : Prop} {x a b c d : Bool} (h1 : x = true → P) (h2 : x = false → a = true → P) (h3 : x = false → a = false → b = true → P) (h4 : x = false → a = false → b = false → c = true → P)
    (h5 : x = false → a = false → b = false → c = false → d = true → P) (h6 : x = false → a = false → b = false → c = false → d = false → P) : P := by
  cases x with
  | true => exact h1 rfl
  | false => cases a with
    | true => exact h2 rfl rfl
    | false => cases b with
      | true => exact h3 rfl rfl rfl
      | false => cases c with
        | true => exact h4 rfl rfl rfl rfl
        | false => cases d with
          | true => exact h5 rfl rfl rfl rfl rfl
          | false => exact h6 rfl rfl rfl rfl rfl

theorem domN_cons {c : UInt8} {r : List UInt8} (h : domC c = true) : domN (c :: r) = domN r + 1 := by simp [domN, h]
theorem domC_zero {c : UInt8} (h : domC c = true) : c ≠ 0 := by rintro rfl; revert h; decide +kernel
theorem nextB_get {s : ByteArray} {k : Nat} (h : k < s.size) : nextB s k false = s[k] := by unfold nextB; rw [drop_get s k h]; rfl
theorem domN_step {s : ByteArray} {k : Nat} (h : domC (nextB s k false) = true) : k < s.size ∧ domN (s.data.toList.drop k) = domN (s.data.toList.drop (k + 1)) + 1 := by
  obtain ⟨hk, _⟩ := nextB_lt (domC_zero h) rfl
  refine ⟨hk, ?_⟩
  rw [nextB_get hk] at h
  rw [drop_get s k hk, domN_cons h]
theorem domN_stop {s : ByteArray} {k : Nat} (h : domC (nextB s k false) = false) : domN (s.data.toList.drop k) = 0 := by
  unfold nextB at h
  cases hd : s.data.toList.drop k with
  | nil => rfl
  | cons c r =>
    rw [hd] at h
    have h' : domC c = false := h
    simp [domN, h']

theorem Sc.drewN {w : World} {g : Nat} {s : ByteArray} {i : Nat} {b : Bool} (h : Sc w g s i b) (n : Nat) : Sc (w.drewN n) g s i b := h.below (belowN (Below.refl _ _) _)

/-- The scanner's domain at place i. -/
theorem sdomain_ok (s : ByteArray) (g i : Nat) (w : World) (h : Sc w g s i false) (hs : s.size ≤ 4000000000) (hi : i ≤ s.size) (hG : GB g w) :
    Calls Tryz.prog 146 #[.pointer (some ⟨g, 0, none⟩)] w fun e w' => e = .returned (.string (s.extract i (i + domN (s.data.toList.drop i)))) ∧ But g w w' ∧ Sc w' g s (i + domN (s.data.toList.drop i)) (!shapedB ((s.data.toList.drop i).take (domN (s.data.toList.drop i)))) := by
  have cn := fun k (hk : k ≤ s.size) W (hS : Sc W g s k false) => next_any s g k false W hS (by omega) hk
  have HS := Lib.hid h
  obtain ⟨h0, h1, h2, h3, h4⟩ := h
  go_enter Tryz.func146, Tryz.ntmps146
  go_wp2_with (go_at_call 175; refine (cn i hi _ HS.out).mono ?_; rintro e w1 ⟨rfl, HB⟩)
  have HS1 := Lib.hid (HS.out.below HB)
  go_loopw [4] (fun c wr => ∃ k : Nat, i ≤ k ∧ k ≤ s.size ∧ c = .int .u8 ((nextB s k false).toNat : Int) ∧ Hid (Sc wr g s k false) ∧ Hid (But g w wr) ∧ Hid (k + domN (s.data.toList.drop k) = i + domN (s.data.toList.drop i))) (fun _ wr => s.size - (intOf ((wr.cell? ⟨g, 1, none⟩).getD undef)).toNat)
  case atStart => exact ⟨i, Nat.le_refl _, hi, rfl, HS1, Lib.hid (But.ofBelow HB), Lib.hid rfl⟩
  case round =>
    obtain ⟨k, hik, hk, rfl, HS2, HB2, HQ⟩ := hrel
    obtain ⟨e0, e1, e2, e3, e4⟩ := HS2.out
    have hgl : Hid (GB g wr) := Lib.hid (hG.step HB2.out)
    have hstep0 := fun h => domN_step (s := s) (k := k) h
    have hstop0 := fun h => domN_stop (s := s) (k := k) h
    generalize nextB s k false = q at hstep0 hstop0
    have c1 := letter_any q
    have c3 : (((q.toNat : Int) == 45) : Bool) = (q == 45) := u8_eq _ 45
    have c4 : (((q.toNat : Int) == 46) : Bool) = (q == 46) := u8_eq _ 46
    have c5 : (((q.toNat : Int) == 91) : Bool) = (q == 91) := u8_eq _ 91
    have c6 : (((q.toNat : Int) == 93) : Bool) = (q == 93) := u8_eq _ 93
    have HC : Hid (domC q = (letterB q || q == 45 || q == 46 || q == 91 || q == 93)) := Lib.hid rfl
    generalize hx : letterB q = x at c1 HC
    generalize hz : (q == 45) = z at c3 HC
    generalize hb : (q == 46) = b at c4 HC
    generalize hc : (q == 91) = c at c5 HC
    generalize hd : (q == 93) = d at c6 HC
    clear hx hz hb hc hd
    have hstep : (x || z || b || c || d) = true → k < s.size ∧ Hid (k + 1 + domN (s.data.toList.drop (k + 1)) = i + domN (s.data.toList.drop i)) := fun hh => by
      obtain ⟨a1, a2⟩ := hstep0 (by rw [HC.out]; exact hh)
      exact ⟨a1, Lib.hid (by rw [← HQ.out, a2]; omega)⟩
    have hstop : (x || z || b || c || d) = false → Hid (i + domN (s.data.toList.drop i) = k) := fun hh => Lib.hid (by
      rw [← HQ.out, hstop0 (by rw [HC.out]; exact hh)]; rfl)
    clear hstep0 hstop0
    refine six (x := x) (a := z) (b := b) (c := c) (d := d) ?h1 ?h2 ?h3 ?h4 ?h5 ?h6
    case h6 =>
      intro hq; subst hq; intro hq; subst hq; intro hq; subst hq; intro hq; subst hq; intro hq; subst hq
      have hst := hstop rfl
      clear hstep hstop
      have csh := fun W (hW : GL W) => shaped_any (s.extract i k) (by rw [ByteArray.size_extract]; omega) W hW
      have i0 : (0 : Int) ≤ (i : Int) := by omega
      have i1 : (i : Int) ≤ (k : Int) := by omega
      have i2 : (k : Int) ≤ (s.size : Int) := by omega
      have HE : Hid ((s.extract i k).data.toList = (s.data.toList.drop i).take (domN (s.data.toList.drop i))) := Lib.hid (by rw [← extract_mid, hst.out])
      generalize hsh : shapedB (s.extract i k).data.toList = m at csh
      have HM : Hid (shapedB ((s.data.toList.drop i).take (domN (s.data.toList.drop i))) = m) := Lib.hid (by rw [← HE.out]; exact hsh)
      clear hsh
      go_wp2_with (go_at_call 166; refine (c1 _).mono ?_; rintro e w' ⟨rfl, rfl⟩)
      go_quiet (fail)
      go_wp2_with (go_at_call 86; refine (csh _ (hgl.out.gl.drewN _)).mono ?_; rintro e w2 ⟨rfl, HB3⟩; have HS4 := Lib.hid ((HS2.out.drewN _).below HB3); obtain ⟨k0, k1, k2, k3, k4⟩ := HS4.out)
      go_ret
      refine ⟨?_, (HB2.out.trans ((But.ofBelow (belowN (Below.refl _ _) _)).trans (But.ofBelow HB3))).trans (But.set _ _ _), ?_⟩
      · rw [hst.out]; rfl
      · rw [hst.out, HM.out]; exact HS4.out.spoil _
    all_goals
      repeat (intro hq; subst hq)
      obtain ⟨hlt, hst⟩ := hstep rfl
      clear hstep hstop
      have i0 : (k : Int) + 1 ≤ 9223372036854775807 := by omega
      have HS3 := Lib.hid (HS2.out.at (k + 1))
      go_wp2_with (first | (go_at_call 166; refine (c1 _).mono ?_; rintro e w' ⟨rfl, rfl⟩) | (go_at_call 175; refine (cn (k + 1) (by omega) _ HS3.out).mono ?_; rintro e w2 ⟨rfl, HB3⟩; have HS4 := Lib.hid (HS3.out.below HB3); have HB4 := Lib.hid (HB2.out.trans ((But.set _ _ _).trans (But.ofBelow HB3)))))
      go_roundw
      case rel => exact ⟨k + 1, by omega, by omega, rfl, HS4, HB4, hst⟩
      case measure => rw [HS4.out.c1, e1]; simp [intOf]; omega

theorem nextB_bad (s : ByteArray) (i : Nat) : nextB s i true = 0 := rfl

/-- The scanner's domain behind a fault. -/
theorem sdomain_bad (s : ByteArray) (g i : Nat) (w : World) (h : Sc w g s i true) (hs : s.size ≤ 4000000000) (hi : i ≤ s.size) (hG : GB g w) :
    Calls Tryz.prog 146 #[.pointer (some ⟨g, 0, none⟩)] w fun e w' => e = .returned (.string ByteArray.empty) ∧ But g w w' ∧ Sc w' g s i true := by
  have cn := fun W (hS : Sc W g s i true) => next_any s g i true W hS (by omega) hi
  rw [nextB_bad] at cn
  have c1 := letter_any 0
  rw [show letterB 0 = false from by decide +kernel] at c1
  have HS := Lib.hid h
  obtain ⟨h0, h1, h2, h3, h4⟩ := h
  have i0 : (0 : Int) ≤ (i : Int) := by omega
  have i2 : (i : Int) ≤ (s.size : Int) := by omega
  have hgl : Hid (GB g w) := Lib.hid hG
  go_enter Tryz.func146, Tryz.ntmps146
  go_wp2_with (go_at_call 175; refine (cn _ HS.out).mono ?_; rintro e w1 ⟨rfl, HB⟩)
  have HS1 := Lib.hid (HS.out.below HB)
  go_loopw [4] (fun c wr => c = .int .u8 ((0 : UInt8).toNat : Int) ∧ Hid (Sc wr g s i true) ∧ Hid (But g w wr)) (fun _ _ => 0)
  case atStart => exact ⟨rfl, HS1, Lib.hid (But.ofBelow HB)⟩
  case round =>
    obtain ⟨rfl, HS2, HB2⟩ := hrel
    obtain ⟨e0, e1, e2, e3, e4⟩ := HS2.out
    go_wp2_with (go_at_call 166; refine (c1 _).mono ?_; rintro e w' ⟨rfl, rfl⟩)
    go_quiet (fail)
    go_wp2
    go_ret
    exact ⟨rfl, HB2.out.trans ((But.ofBelow (belowN (Below.refl _ _) _)).trans (But.set _ _ _)), (HS2.out.drewN _).spoil true⟩
end Go.Proofs.YtkmikhinkbbnnaaGreatDoor.M
