/- Package addr: the scanner's local parts, by hand. -/
import Derived.Test.YtkmikhinkbbnnaaGreatDoorManAE
namespace Go.Proofs.YtkmikhinkbbnnaaGreatDoor.M
open Go.RowKit Go.Proofs.YtkmikhinkbbnnaaGreatDoor.Sp
attribute [local go_sem ↓] Go.wp_at_zero Go.wp_at_succ

def SLocalEnd (s : ByteArray) (g i : Nat) (w : World) (e : Ending) (w' : World) : Prop :=
  But g w w' ∧ match localO (s.data.toList.drop i) with
    | none => (∃ t, e = .returned (.string t)) ∧ ∃ j, j ≤ s.size ∧ Sc w' g s j true
    | some (lo, r) => e = .returned (.string ⟨lo.toArray⟩) ∧ Sc w' g s (s.size - r.length) false
theorem slocalEnd_none {s : ByteArray} {g i : Nat} {w w' : World} {t : ByteArray} (h : localO (s.data.toList.drop i) = none) (hb : But g w w') (j : Nat) (hj : j ≤ s.size) (hs : Sc w' g s j true) : SLocalEnd s g i w (.returned (.string t)) w' := by
  unfold SLocalEnd; rw [h]; exact ⟨hb, ⟨t, rfl⟩, j, hj, hs⟩
theorem slocalEnd_some {s : ByteArray} {g i : Nat} {w w' : World} {lo r : List UInt8} {t : ByteArray} (h : localO (s.data.toList.drop i) = some (lo, r)) (ht : t = ⟨lo.toArray⟩) (hb : But g w w') (hs : Sc w' g s (s.size - r.length) false) : SLocalEnd s g i w (.returned (.string t)) w' := by
  unfold SLocalEnd; rw [h]; exact ⟨hb, by rw [ht], hs⟩

theorem localO_quote {s : ByteArray} {i : Nat} (h : nextB s i false = 34) : localO (s.data.toList.drop i) = quoteGo [] (s.data.toList.drop (i + 1)) := by
  obtain ⟨hk, _⟩ := nextB_lt (by decide) h
  rw [nextB_get hk] at h
  unfold localO
  rw [drop_get s i hk, h]
  rfl
def wordN (l : List UInt8) : Nat := (l.takeWhile wordC).length
theorem wordN_take (l : List UInt8) : l.take (wordN l) = l.takeWhile wordC ∧ l.drop (wordN l) = l.dropWhile wordC := by
  unfold wordN
  induction l with
  | nil => simp
  | cons c r ih =>
    cases h : wordC c with
    | true => simp [h, ih.1, ih.2]
    | false => simp [h]
theorem localO_words {s : ByteArray} {i : Nat} (h : nextB s i false ≠ 34) : localO (s.data.toList.drop i) =
    if plainB ((s.data.toList.drop i).take (wordN (s.data.toList.drop i))) then some ((s.data.toList.drop i).take (wordN (s.data.toList.drop i)), s.data.toList.drop (i + wordN (s.data.toList.drop i))) else none := by
  have hh : (s.data.toList.drop i).head? ≠ some 34 := by
    unfold nextB at h
    cases hd : s.data.toList.drop i with
    | nil => simp
    | cons c r =>
      rw [hd] at h
      have h' : c ≠ 34 := h
      simp [h']
  unfold localO
  rw [if_neg hh, (wordN_take _).1, ← List.drop_drop, (wordN_take _).2]
theorem wordC_zero {c : UInt8} (h : wordC c = true) : c ≠ 0 := by rintro rfl; revert h; decide +kernel
theorem wordN_step {s : ByteArray} {k : Nat} (h : wordC (nextB s k false) = true) : k < s.size ∧ wordN (s.data.toList.drop k) = wordN (s.data.toList.drop (k + 1)) + 1 := by
  obtain ⟨hk, _⟩ := nextB_lt (wordC_zero h) rfl
  refine ⟨hk, ?_⟩
  rw [nextB_get hk] at h
  rw [drop_get s k hk]
  simp [wordN, h]
theorem wordN_stop {s : ByteArray} {k : Nat} (h : wordC (nextB s k false) = false) : wordN (s.data.toList.drop k) = 0 := by
  unfold nextB at h
  cases hd : s.data.toList.drop k with
  | nil => rfl
  | cons c r =>
    rw [hd] at h
    have h' : wordC c = false := h
    simp [wordN, h']
theorem four {P : Prop} {x a b : Bool} (h1 : x = true → P) (h2 : x = false → a = true → P) (h3 : x = false → a = false → b = true → P) (h4 : x = false → a = false → b = false → P) : P := by
  cases x with
  | true => exact h1 rfl
  | false => cases a with
    | true => exact h2 rfl rfl
    | false => cases b with
      | true => exact h3 rfl rfl rfl
      | false => exact h4 rfl rfl rfl

set_option maxHeartbeats 8000000 in
set_option maxRecDepth 100000 in
theorem slocal_ok (s : ByteArray) (g i : Nat) (w : World) (h : Sc w g s i false) (hs : s.size ≤ 4000000000) (hi : i ≤ s.size) (hG : GB g w) :
    Calls Tryz.prog 145 #[.pointer (some ⟨g, 0, none⟩)] w (SLocalEnd s g i w) := by
  have cn := fun k (hk : k ≤ s.size) W (hS : Sc W g s k false) => next_any s g k false W hS (by omega) hk
  have cn0 := fun W (hS : Sc W g s i false) => next_any s g i false W hS (by omega) hi
  have HS := Lib.hid h
  by_cases h34 : nextB s i false = 34
  · have cq := fun W (hS : Sc W g s i false) => squoted_ok s g i W hS hs h34
    have HL : Hid (localO (s.data.toList.drop i) = quoteGo [] (s.data.toList.drop (i + 1))) := Lib.hid (localO_quote h34)
    rw [h34] at cn0
    clear h34 h
    have hend : ∀ w1 e w2, But g w w1 → QuoteEnd s g i w1 e w2 → ∃ t, e = .returned (.string t) ∧ SLocalEnd s g i w (.returned (.string t)) w2 := fun w1 e w2 hb hq => by
      obtain ⟨h1, h2⟩ := hq
      rw [← HL.out] at h2
      cases hl : localO (s.data.toList.drop i) with
      | none =>
        rw [hl] at h2
        obtain ⟨⟨t, rfl⟩, j, hj, hS⟩ := h2
        exact ⟨t, rfl, slocalEnd_none hl (hb.trans h1) j hj hS⟩
      | some p =>
        obtain ⟨lo, r⟩ := p
        rw [hl] at h2
        exact ⟨_, h2.1, slocalEnd_some hl rfl (hb.trans h1) h2.2⟩
    have HE := Lib.hid hend
    clear hend
    go_enter Tryz.func145, Tryz.ntmps145
    go_wp2_with (first | (go_at_call 175; refine (cn0 _ HS.out).mono ?_; rintro e w1 ⟨rfl, HB⟩; have HS1 := Lib.hid (HS.out.below HB)) | (go_at_call 176; refine (cq _ HS1.out).mono ?_; intro e w2 hq; obtain ⟨t, rfl, hq2⟩ := HE.out _ _ _ (But.ofBelow HB) hq; have HF := Lib.hid hq2; clear hq hq2))
    go_ret
    exact HF.out
  · have HL : Hid (localO (s.data.toList.drop i) = if plainB ((s.data.toList.drop i).take (wordN (s.data.toList.drop i))) then some ((s.data.toList.drop i).take (wordN (s.data.toList.drop i)), s.data.toList.drop (i + wordN (s.data.toList.drop i))) else none) := Lib.hid (localO_words h34)
    have HN0 : ∀ q0, nextB s i false = q0 → Hid (q0 = nextB s i false) := fun q0 h => Lib.hid h.symm
    generalize hq0 : nextB s i false = q0 at cn0 h34
    have HN := HN0 q0 hq0
    have z0 : (((q0.toNat : Int) == 34) : Bool) = false := u8_nlit q0 34 h34
    clear h34 hq0 HN0 h
    go_enter Tryz.func145, Tryz.ntmps145
    go_wp2_with (first | (go_at_call 175; refine (cn0 _ ?_).mono ?_; exact HS.out; rintro e w1 ⟨rfl, HB⟩; have HS1 := Lib.hid (HS.out.below HB); obtain ⟨h0, h1, h2, h3, h4⟩ := HS1.out) | (go_at_call 175; refine (cn0 _ ?_).mono ?_; exact HS1.out; rintro e w2 ⟨rfl, HB2⟩; have HS2 := Lib.hid (HS1.out.below HB2)))
    rw [HN.out]
    go_loopw [4] (fun c wr => ∃ k : Nat, i ≤ k ∧ k ≤ s.size ∧ c = .int .u8 ((nextB s k false).toNat : Int) ∧ Hid (Sc wr g s k false) ∧ Hid (But g w wr) ∧ Hid (k + wordN (s.data.toList.drop k) = i + wordN (s.data.toList.drop i))) (fun _ wr => s.size - (intOf ((wr.cell? ⟨g, 1, none⟩).getD undef)).toNat)
    case atStart => exact ⟨i, Nat.le_refl _, hi, rfl, HS2, Lib.hid ((But.ofBelow HB).trans (But.ofBelow HB2)), Lib.hid rfl⟩
    case round =>
      obtain ⟨k, hik, hk, rfl, HSk, HBk, HQ⟩ := hrel
      obtain ⟨e0, e1, e2, e3, e4⟩ := HSk.out
      have hgl : Hid (GB g wr) := Lib.hid (hG.step HBk.out)
      have hstep0 := fun h => wordN_step (s := s) (k := k) h
      have hstop0 := fun h => wordN_stop (s := s) (k := k) h
      generalize nextB s k false = q at hstep0 hstop0
      have c1 := atom_any q
      have c2 : (((q.toNat : Int) == 46) : Bool) = (q == 46) := u8_eq _ 46
      have c3 : (((q.toNat : Int) != 0) : Bool) = !(q == 0) := congrArg (fun z => !z) (u8_eq q 0)
      have HZ : Hid ((q == 0) = true → atomB q = false) := Lib.hid (fun e => by rw [beq_iff_eq.1 e]; decide +kernel)
      have HC : Hid (wordC q = (atomB q || q == 46)) := Lib.hid rfl
      generalize hx : atomB q = x at c1 HC HZ
      generalize hz : (q == 46) = z at c2 HC
      generalize hb : (q == 0) = b at c3 HZ
      clear hx hz hb
      have hstep : (x || z) = true → k < s.size ∧ Hid (k + 1 + wordN (s.data.toList.drop (k + 1)) = i + wordN (s.data.toList.drop i)) := fun hh => by
        obtain ⟨a1, a2⟩ := hstep0 (by rw [HC.out]; exact hh)
        exact ⟨a1, Lib.hid (by rw [← HQ.out, a2]; omega)⟩
      have hstop : (x || z) = false → Hid (i + wordN (s.data.toList.drop i) = k) := fun hh => Lib.hid (by
        rw [← HQ.out, hstop0 (by rw [HC.out]; exact hh)]; rfl)
      clear hstep0 hstop0
      have hgo : (x || z) = true → (W : World) → True := fun _ _ => trivial
      clear hgo
      refine four (x := z) (a := b) (b := x) ?h1 ?h2 ?h3 ?h4
      case h1 =>
        intro hq; subst hq
        obtain ⟨hlt, hst⟩ := hstep (by simp)
        clear hstep hstop
        have i0 : (k : Int) + 1 ≤ 9223372036854775807 := by omega
        have HS3 := Lib.hid (HSk.out.at (k + 1))
        go_wp2_with (go_at_call 175; refine (cn (k + 1) (by omega) _ HS3.out).mono ?_; rintro e w3 ⟨rfl, HB3⟩; have HS4 := Lib.hid (HS3.out.below HB3); have HB4 := Lib.hid (HBk.out.trans ((But.set _ _ _).trans (But.ofBelow HB3))))
        go_roundw
        case rel => exact ⟨k + 1, by omega, by omega, rfl, HS4, HB4, hst⟩
        case measure => rw [HS4.out.c1, e1]; simp [intOf]; omega
      case h3 =>
        intro hq; subst hq; intro hq; subst hq; intro hq; subst hq
        obtain ⟨hlt, hst⟩ := hstep rfl
        clear hstep hstop
        have i0 : (k : Int) + 1 ≤ 9223372036854775807 := by omega
        have HS3 := Lib.hid (HSk.out.at (k + 1))
        go_wp2_with (first | (go_at_call 164; refine (c1 _).mono ?_; rintro e w' ⟨rfl, rfl⟩) | (go_at_call 175; refine (cn (k + 1) (by omega) _ HS3.out).mono ?_; rintro e w3 ⟨rfl, HB3⟩; have HS4 := Lib.hid (HS3.out.below HB3); have HB4 := Lib.hid (HBk.out.trans ((But.set _ _ _).trans (But.ofBelow HB3)))))
        go_roundw
        case rel => exact ⟨k + 1, by omega, by omega, rfl, HS4, HB4, hst⟩
        case measure => rw [HS4.out.c1, e1]; simp [intOf]; omega
      all_goals
        first | (intro hq1 hq2 hq3; have hxz : (x || z) = false := by (rw [hq1, hq3]; rfl)) | (intro hq1 hq2; have hxz : (x || z) = false := by (rw [hq1, HZ.out hq2]; rfl))
        have hst := hstop hxz
        clear hstep hstop hxz
        have cpl := fun W (hW : GL W) => plain_any (s.extract i k) (by rw [ByteArray.size_extract]; omega) W hW
        have i0 : (0 : Int) ≤ (i : Int) := by omega
        have i1 : (i : Int) ≤ (k : Int) := by omega
        have i2 : (k : Int) ≤ (s.size : Int) := by omega
        have HE : Hid ((s.extract i k).data.toList = (s.data.toList.drop i).take (wordN (s.data.toList.drop i))) := Lib.hid (by rw [← extract_mid, hst.out])
        generalize hsh : plainB (s.extract i k).data.toList = m at cpl
        have HM : Hid (plainB ((s.data.toList.drop i).take (wordN (s.data.toList.drop i))) = m) := Lib.hid (by rw [← HE.out]; exact hsh)
        clear hsh
        first | subst hq3 | skip
        subst hq2
        subst hq1
        cases m with
        | true =>
          have hyes : Hid (localO (s.data.toList.drop i) = some ((s.data.toList.drop i).take (wordN (s.data.toList.drop i)), s.data.toList.drop k)) := Lib.hid (by rw [HL.out, HM.out, if_pos rfl, hst.out])
          go_wp2_with (go_at_call 164; refine (c1 _).mono ?_; rintro e w' ⟨rfl, rfl⟩)
          go_quiet (fail)
          go_wp2_with (go_at_call 126; refine (cpl _ (hgl.out.gl.drewN _)).mono ?_; rintro e w3 ⟨rfl, HB3⟩; have HS4 := Lib.hid ((HSk.out.drewN _).below HB3); obtain ⟨k0, k1, k2, k3, k4⟩ := HS4.out)
          go_ret
          exact slocalEnd_some hyes.out (bstr HE.out) ((HBk.out.trans ((But.ofBelow (belowN (Below.refl _ _) _)).trans (But.ofBelow HB3))).trans (But.set _ _ _)) (by rw [List.length_drop, len_eq, show s.size - (s.size - k) = k by omega]; exact HS4.out.spoil _)
        | false =>
          have hno : Hid (localO (s.data.toList.drop i) = none) := Lib.hid (by rw [HL.out, HM.out, if_neg (by decide)])
          go_wp2_with (go_at_call 164; refine (c1 _).mono ?_; rintro e w' ⟨rfl, rfl⟩)
          go_quiet (fail)
          go_wp2_with (go_at_call 126; refine (cpl _ (hgl.out.gl.drewN _)).mono ?_; rintro e w3 ⟨rfl, HB3⟩; have HS4 := Lib.hid ((HSk.out.drewN _).below HB3); obtain ⟨k0, k1, k2, k3, k4⟩ := HS4.out)
          go_ret
          exact slocalEnd_none hno.out ((HBk.out.trans ((But.ofBelow (belowN (Below.refl _ _) _)).trans (But.ofBelow HB3))).trans (But.set _ _ _)) k hk (HS4.out.spoil _)

theorem slocal_bad (s : ByteArray) (g i : Nat) (w : World) (h : Sc w g s i true) (hs : s.size ≤ 4000000000) (hi : i ≤ s.size) (hG : GB g w) :
    Calls Tryz.prog 145 #[.pointer (some ⟨g, 0, none⟩)] w fun e w' => e = .returned (.string ByteArray.empty) ∧ But g w w' ∧ Sc w' g s i true := by
  have cn0 := fun W (hS : Sc W g s i true) => next_any s g i true W hS (by omega) hi
  rw [nextB_bad] at cn0
  have HS := Lib.hid h
  have i0 : (0 : Int) ≤ (i : Int) := by omega
  have i2 : (i : Int) ≤ (s.size : Int) := by omega
  have hgl : Hid (GB g w) := Lib.hid hG
  clear h
  go_enter Tryz.func145, Tryz.ntmps145
  go_wp2_with (first | (go_at_call 175; refine (cn0 _ ?_).mono ?_; exact HS.out; rintro e w1 ⟨rfl, HB⟩; have HS1 := Lib.hid (HS.out.below HB); obtain ⟨h0, h1, h2, h3, h4⟩ := HS1.out) | (go_at_call 175; refine (cn0 _ ?_).mono ?_; exact HS1.out; rintro e w2 ⟨rfl, HB2⟩; have HS2 := Lib.hid (HS1.out.below HB2)))
  go_loopw [4] (fun c wr => c = .int .u8 ((0 : UInt8).toNat : Int) ∧ Hid (Sc wr g s i true) ∧ Hid (But g w wr)) (fun _ _ => 0)
  case atStart => exact ⟨rfl, HS2, Lib.hid ((But.ofBelow HB).trans (But.ofBelow HB2))⟩
  case round =>
    obtain ⟨rfl, HSk, HBk⟩ := hrel
    obtain ⟨e0, e1, e2, e3, e4⟩ := HSk.out
    go_wp2
    go_quiet (fail)
    go_wp2
    go_ret
    exact ⟨rfl, HBk.out.trans ((But.ofBelow (belowN (Below.refl _ _) _)).trans (But.set _ _ _)), (HSk.out.drewN _).spoil true⟩
end Go.Proofs.YtkmikhinkbbnnaaGreatDoor.M
