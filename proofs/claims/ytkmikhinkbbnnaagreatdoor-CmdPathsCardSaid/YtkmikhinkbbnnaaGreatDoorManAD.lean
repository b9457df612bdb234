/- Package addr: the scanner's routes, by hand. -/
import Derived.Test.YtkmikhinkbbnnaaGreatDoorManAC
import Derived.Deep.RegionWith
namespace Go.Proofs.YtkmikhinkbbnnaaGreatDoor.M
open Go.RowKit Go.Proofs.YtkmikhinkbbnnaaGreatDoor.Sp
attribute [local go_sem ↓] Go.wp_at_zero Go.wp_at_succ

def RouteEnd (s : ByteArray) (g i : Nat) (w : World) (e : Ending) (w' : World) : Prop :=
  e = .returned (.tuple #[]) ∧ But g w w' ∧ match routeO (s.data.toList.drop i) with
    | none => ∃ j, j ≤ s.size ∧ Sc w' g s j true
    | some q => Sc w' g s (s.size - q.length) false
theorem routeEnd_none {s : ByteArray} {g i : Nat} {w w' : World} (h : routeO (s.data.toList.drop i) = none) (hb : But g w w') (j : Nat) (hj : j ≤ s.size) (hs : Sc w' g s j true) : RouteEnd s g i w (.returned (.tuple #[])) w' := by
  unfold RouteEnd; rw [h]; exact ⟨rfl, hb, j, hj, hs⟩
theorem routeEnd_some {s : ByteArray} {g i : Nat} {w w' : World} {q : List UInt8} (h : routeO (s.data.toList.drop i) = some q) (hb : But g w w') (hs : Sc w' g s (s.size - q.length) false) : RouteEnd s g i w (.returned (.tuple #[])) w' := by
  unfold RouteEnd; rw [h]; exact ⟨rfl, hb, hs⟩

theorem routeO_at {s : ByteArray} {k : Nat} (h : nextB s k false = 64) : routeO (s.data.toList.drop k) = routeR (s.data.toList.drop k) := by
  obtain ⟨hk, _⟩ := nextB_lt (by decide) h
  rw [nextB_get hk] at h
  unfold routeO
  rw [drop_get s k hk, h]
  rfl
theorem routeO_not {s : ByteArray} {k : Nat} (h : nextB s k false ≠ 64) : routeO (s.data.toList.drop k) = some (s.data.toList.drop k) := by
  unfold nextB at h
  unfold routeO
  cases hd : s.data.toList.drop k with
  | nil => rfl
  | cons c r =>
    rw [hd] at h
    have h' : c ≠ 64 := h
    simp [h']
theorem routeR_not {s : ByteArray} {k : Nat} (h : nextB s k false ≠ 64) : routeR (s.data.toList.drop k) = none := by
  unfold nextB at h
  cases hd : s.data.toList.drop k with
  | nil => rfl
  | cons c r =>
    rw [hd] at h
    exact routeR_other h

/-- One '@domain' of a route, as the scanner goes on behind it. -/
theorem routeR_step {s : ByteArray} {k n : Nat} (h : nextB s k false = 64) (hn : n = domN (s.data.toList.drop (k + 1))) : routeR (s.data.toList.drop k) =
    if shapedB ((s.data.toList.drop (k + 1)).take n) then (if nextB s (k + 1 + n) false = 58 then some (s.data.toList.drop (k + 1 + n + 1)) else if nextB s (k + 1 + n) false = 44 then routeR (s.data.toList.drop (k + 1 + n + 1)) else none) else none := by
  obtain ⟨hk, _⟩ := nextB_lt (by decide) h
  rw [nextB_get hk] at h
  subst hn
  rw [rev_route s k hk h]
  congr 1
  generalize k + 1 + domN (s.data.toList.drop (k + 1)) = m
  unfold nextB
  rcases Nat.lt_or_ge m s.size with hm | hm
  · rw [drop_get s m hm]; rfl
  · rw [List.drop_of_length_le (by rw [len_eq]; exact hm)]; rfl

set_option maxHeartbeats 8000000 in
set_option maxRecDepth 100000 in
theorem sroute_ok (s : ByteArray) (g i : Nat) (w : World) (h : Sc w g s i false) (hs : s.size ≤ 4000000000) (hi : i ≤ s.size) (hG : GB g w) :
    Calls Tryz.prog 144 #[.pointer (some ⟨g, 0, none⟩)] w (RouteEnd s g i w) := by
  have HS := Lib.hid h
  clear h
  go_enter Tryz.func144, Tryz.ntmps144
  go_wp2
  go_loopw [2] (fun f wr => ∃ (k : Nat) (fb : Bool), k ≤ s.size ∧ f = .bool fb ∧ Hid (Sc wr g s k false) ∧ Hid (But g w wr) ∧ Hid (routeO (s.data.toList.drop i) = if fb then routeO (s.data.toList.drop k) else routeR (s.data.toList.drop k))) (fun _ wr => s.size - (intOf ((wr.cell? ⟨g, 1, none⟩).getD undef)).toNat)
  case atStart => exact ⟨i, true, hi, rfl, HS, Lib.hid (But.refl _ _), Lib.hid rfl⟩
  case round =>
    obtain ⟨k, fb, hk, rfl, HS2, HB2, HQ⟩ := hrel
    have cn := next_any s g k false wr HS2.out (by omega) hk
    have hgl : Hid (GB g wr) := Lib.hid (hG.step HB2.out)
    by_cases h64 : nextB s k false = 64
    · have HR : Hid (routeO (s.data.toList.drop i) = routeR (s.data.toList.drop k)) := Lib.hid (by
        rw [HQ.out, routeO_at h64]; cases fb <;> rfl)
      have hk1 := (nextB_lt (by decide) h64).1
      have cw := fun W (hS : Sc W g s k false) => want_yesL 64 s g k false 64 W hS (by omega) (by decide) h64 (by decide)
      rw [h64] at cn
      generalize hn : domN (s.data.toList.drop (k + 1)) = n
      have hst := routeR_step h64 hn.symm
      have hn2 : k + 1 + n ≤ s.size := by
        have := domN_le (s.data.toList.drop (k + 1))
        rw [List.length_drop, len_eq] at this; omega
      have cd := fun W (hS : Sc W g s (k + 1) false) (hGW : GB g W) => sdomain_ok s g (k + 1) W hS hs (by omega) hGW
      rw [hn] at cd
      clear h64 HS
      cases hsh : shapedB ((s.data.toList.drop (k + 1)).take n) with
      | false =>
        rw [hsh] at hst cd
        have hno : Hid (routeO (s.data.toList.drop i) = none) := Lib.hid (by rw [HR.out, hst]; rfl)
        clear hst hsh hn
        have ct := fun W (hS : Sc W g s (k + 1 + n) true) => takes_noL 44 s g (k + 1 + n) true 44 W hS (by omega) hn2 (by rw [nextB_bad]; decide) (by decide)
        have cw2 := fun W (hS : Sc W g s (k + 1 + n) true) => want_noL 58 s g (k + 1 + n) true 58 W hS (by omega) hn2 (by rw [nextB_bad]; decide) (by decide)
        go_wp2_with (first | (go_at_call 175; refine (cn).mono ?_; rintro e w1 ⟨rfl, HB1⟩; have HS3 := Lib.hid (HS2.out.below HB1); have HT1 := Lib.hid (HB2.out.trans (But.ofBelow HB1))) | (go_at_call_of 142 (Value.int IntKind.u8 64); refine (cw _ HS3.out).mono ?_; rintro e w2 ⟨rfl, HB3, HS4⟩; have HS5 := Lib.hid HS4; have HT2 := Lib.hid (HT1.out.trans HB3)) | (go_at_call 146; refine (cd _ HS5.out (hG.step HT2.out)).mono ?_; rintro e w3 ⟨rfl, HB4, HS6⟩; have HS7 := Lib.hid HS6; have HT3 := Lib.hid (HT2.out.trans HB4)) | (go_at_call 143; refine (ct _ HS7.out).mono ?_; rintro e w4 ⟨rfl, HB5⟩; have HS8 := Lib.hid (HS7.out.below HB5); have HT4 := Lib.hid (HT3.out.trans (But.ofBelow HB5))) | (go_at_call_of 142 (Value.int IntKind.u8 58); refine (cw2 _ HS8.out).mono ?_; rintro e w5 ⟨rfl, HB6, HS9⟩; have HS10 := Lib.hid HS9; have HT5 := Lib.hid (HT4.out.trans HB6)))
        (try simp only [Exit.inBlock, Exit.then])
        refine bodyPost_ret (results_none rfl _ _ _) rfl ?_
        exact routeEnd_none hno.out HT5.out _ hn2 HS10.out
      | true =>
        rw [hsh, if_pos rfl] at hst
        rw [hsh] at cd
        clear hsh hn
        by_cases h58 : nextB s (k + 1 + n) false = 58
        · have hn3 := (nextB_lt (by decide) h58).1
          have ct := fun W (hS : Sc W g s (k + 1 + n) false) => takes_noL 44 s g (k + 1 + n) false 44 W hS (by omega) hn2 (by rw [h58]; decide) (by decide)
          have cw2 := fun W (hS : Sc W g s (k + 1 + n) false) => want_yesL 58 s g (k + 1 + n) false 58 W hS (by omega) (by decide) h58 (by decide)
          rw [if_pos h58] at hst
          have hyes : Hid (routeO (s.data.toList.drop i) = some (s.data.toList.drop (k + 1 + n + 1))) := Lib.hid (by rw [HR.out, hst])
          clear hst h58
          go_wp2_with (first | (go_at_call 175; refine (cn).mono ?_; rintro e w1 ⟨rfl, HB1⟩; have HS3 := Lib.hid (HS2.out.below HB1); have HT1 := Lib.hid (HB2.out.trans (But.ofBelow HB1))) | (go_at_call_of 142 (Value.int IntKind.u8 64); refine (cw _ HS3.out).mono ?_; rintro e w2 ⟨rfl, HB3, HS4⟩; have HS5 := Lib.hid HS4; have HT2 := Lib.hid (HT1.out.trans HB3)) | (go_at_call 146; refine (cd _ HS5.out (hG.step HT2.out)).mono ?_; rintro e w3 ⟨rfl, HB4, HS6⟩; have HS7 := Lib.hid HS6; have HT3 := Lib.hid (HT2.out.trans HB4)) | (go_at_call 143; refine (ct _ HS7.out).mono ?_; rintro e w4 ⟨rfl, HB5⟩; have HS8 := Lib.hid (HS7.out.below HB5); have HT4 := Lib.hid (HT3.out.trans (But.ofBelow HB5))) | (go_at_call_of 142 (Value.int IntKind.u8 58); refine (cw2 _ HS8.out).mono ?_; rintro e w5 ⟨rfl, HB6, HS9⟩; have HS10 := Lib.hid HS9; have HT5 := Lib.hid (HT4.out.trans HB6)))
          (try simp only [Exit.inBlock, Exit.then])
          refine bodyPost_ret (results_none rfl _ _ _) rfl ?_
          exact routeEnd_some hyes.out HT5.out (by rw [List.length_drop, len_eq, show s.size - (s.size - (k + 1 + n + 1)) = k + 1 + n + 1 by omega]; exact HS10.out)
        · rw [if_neg h58] at hst
          by_cases h44 : nextB s (k + 1 + n) false = 44
          · have hn3 := (nextB_lt (by decide) h44).1
            have ct := fun W (hS : Sc W g s (k + 1 + n) false) => takes_yesL 44 s g (k + 1 + n) false 44 W hS (by omega) (by decide) h44 (by decide)
            rw [if_pos h44] at hst
            have hgo : Hid (routeO (s.data.toList.drop i) = routeR (s.data.toList.drop (k + 1 + n + 1))) := Lib.hid (by rw [HR.out, hst])
            have hc1 := Lib.hid HS2.out.c1
            clear hst h58 h44
            go_wp2_with (first | (go_at_call 175; refine (cn).mono ?_; rintro e w1 ⟨rfl, HB1⟩; have HS3 := Lib.hid (HS2.out.below HB1); have HT1 := Lib.hid (HB2.out.trans (But.ofBelow HB1))) | (go_at_call_of 142 (Value.int IntKind.u8 64); refine (cw _ HS3.out).mono ?_; rintro e w2 ⟨rfl, HB3, HS4⟩; have HS5 := Lib.hid HS4; have HT2 := Lib.hid (HT1.out.trans HB3)) | (go_at_call 146; refine (cd _ HS5.out (hG.step HT2.out)).mono ?_; rintro e w3 ⟨rfl, HB4, HS6⟩; have HS7 := Lib.hid HS6; have HT3 := Lib.hid (HT2.out.trans HB4)) | (go_at_call 143; refine (ct _ HS7.out).mono ?_; rintro e w4 ⟨rfl, HB5, HS8⟩; have HS9 := Lib.hid HS8; have HT4 := Lib.hid (HT3.out.trans HB5)))
            go_roundw
            case rel => exact ⟨k + 1 + n + 1, false, by omega, rfl, HS9, HT4, hgo⟩
            case measure => rw [HS9.out.c1, hc1.out]; simp [intOf]; omega
          · have ct := fun W (hS : Sc W g s (k + 1 + n) false) => takes_noL 44 s g (k + 1 + n) false 44 W hS (by omega) hn2 h44 (by decide)
            have cw2 := fun W (hS : Sc W g s (k + 1 + n) false) => want_noL 58 s g (k + 1 + n) false 58 W hS (by omega) hn2 h58 (by decide)
            rw [if_neg h44] at hst
            have hno : Hid (routeO (s.data.toList.drop i) = none) := Lib.hid (by rw [HR.out, hst])
            clear hst h58 h44
            go_wp2_with (first | (go_at_call 175; refine (cn).mono ?_; rintro e w1 ⟨rfl, HB1⟩; have HS3 := Lib.hid (HS2.out.below HB1); have HT1 := Lib.hid (HB2.out.trans (But.ofBelow HB1))) | (go_at_call_of 142 (Value.int IntKind.u8 64); refine (cw _ HS3.out).mono ?_; rintro e w2 ⟨rfl, HB3, HS4⟩; have HS5 := Lib.hid HS4; have HT2 := Lib.hid (HT1.out.trans HB3)) | (go_at_call 146; refine (cd _ HS5.out (hG.step HT2.out)).mono ?_; rintro e w3 ⟨rfl, HB4, HS6⟩; have HS7 := Lib.hid HS6; have HT3 := Lib.hid (HT2.out.trans HB4)) | (go_at_call 143; refine (ct _ HS7.out).mono ?_; rintro e w4 ⟨rfl, HB5⟩; have HS8 := Lib.hid (HS7.out.below HB5); have HT4 := Lib.hid (HT3.out.trans (But.ofBelow HB5))) | (go_at_call_of 142 (Value.int IntKind.u8 58); refine (cw2 _ HS8.out).mono ?_; rintro e w5 ⟨rfl, HB6, HS9⟩; have HS10 := Lib.hid HS9; have HT5 := Lib.hid (HT4.out.trans HB6)))
            (try simp only [Exit.inBlock, Exit.then])
            refine bodyPost_ret (results_none rfl _ _ _) rfl ?_
            exact routeEnd_none hno.out HT5.out _ hn2 HS10.out
    · have hne : Hid (nextB s k false ≠ 64) := Lib.hid h64
      generalize nextB s k false = q at cn h64
      have q0 : (((q.toNat : Int) == 64) : Bool) = false := u8_nlit q 64 h64
      clear h64
      cases fb with
      | true =>
        have hyes : Hid (routeO (s.data.toList.drop i) = some (s.data.toList.drop k)) := Lib.hid (by rw [HQ.out, if_pos rfl, routeO_not hne.out])
        go_wp2_with (first | (go_at_call 175; refine (cn).mono ?_; rintro e w1 ⟨rfl, HB1⟩; have HS3 := Lib.hid (HS2.out.below HB1); have HT1 := Lib.hid (HB2.out.trans (But.ofBelow HB1))))
        go_end0
        exact routeEnd_some hyes.out HT1.out (by rw [List.length_drop, len_eq, show s.size - (s.size - k) = k by omega]; exact HS3.out)
      | false =>
        have hno : Hid (routeO (s.data.toList.drop i) = none) := Lib.hid (by rw [HQ.out, if_neg (by decide), routeR_not hne.out])
        have cw := fun W (hS : Sc W g s k false) => want_noL 64 s g k false 64 W hS (by omega) hk hne.out (by decide)
        have cd := fun W (hS : Sc W g s k true) (hGW : GB g W) => sdomain_bad s g k W hS hs hk hGW
        have ct := fun W (hS : Sc W g s k true) => takes_noL 44 s g k true 44 W hS (by omega) hk (by rw [nextB_bad]; decide) (by decide)
        have cw2 := fun W (hS : Sc W g s k true) => want_noL 58 s g k true 58 W hS (by omega) hk (by rw [nextB_bad]; decide) (by decide)
        go_wp2_with (first | (go_at_call 175; refine (cn).mono ?_; rintro e w1 ⟨rfl, HB1⟩; have HS3 := Lib.hid (HS2.out.below HB1); have HT1 := Lib.hid (HB2.out.trans (But.ofBelow HB1))) | (go_at_call_of 142 (Value.int IntKind.u8 64); refine (cw _ HS3.out).mono ?_; rintro e w2 ⟨rfl, HB3, HS4⟩; have HS5 := Lib.hid HS4; have HT2 := Lib.hid (HT1.out.trans HB3)) | (go_at_call 146; refine (cd _ HS5.out (hG.step HT2.out)).mono ?_; rintro e w3 ⟨rfl, HB4, HS6⟩; have HS7 := Lib.hid HS6; have HT3 := Lib.hid (HT2.out.trans HB4)) | (go_at_call 143; refine (ct _ HS7.out).mono ?_; rintro e w4 ⟨rfl, HB5⟩; have HS8 := Lib.hid (HS7.out.below HB5); have HT4 := Lib.hid (HT3.out.trans (But.ofBelow HB5))) | (go_at_call_of 142 (Value.int IntKind.u8 58); refine (cw2 _ HS8.out).mono ?_; rintro e w5 ⟨rfl, HB6, HS9⟩; have HS10 := Lib.hid HS9; have HT5 := Lib.hid (HT4.out.trans HB6)))
        (try simp only [Exit.inBlock, Exit.then])
        refine bodyPost_ret (results_none rfl _ _ _) rfl ?_
        exact routeEnd_none hno.out HT5.out _ hk HS10.out

theorem sroute_bad (s : ByteArray) (g i : Nat) (w : World) (h : Sc w g s i true) (hs : s.size ≤ 4000000000) (hi : i ≤ s.size) :
    Calls Tryz.prog 144 #[.pointer (some ⟨g, 0, none⟩)] w fun e w' => e = .returned (.tuple #[]) ∧ But g w w' ∧ Sc w' g s i true := by
  have cn := fun W (hS : Sc W g s i true) => next_any s g i true W hS (by omega) hi
  rw [nextB_bad] at cn
  have HS := Lib.hid h
  clear h
  go_enter Tryz.func144, Tryz.ntmps144
  go_wp2
  go_loopw [2] (fun f wr => f = .bool true ∧ Hid (Sc wr g s i true) ∧ Hid (But g w wr)) (fun _ _ => 0)
  case atStart => exact ⟨rfl, HS, Lib.hid (But.refl _ _)⟩
  case round =>
    obtain ⟨rfl, HS2, HB2⟩ := hrel
    go_wp2_with (go_at_call 175; refine (cn _ HS2.out).mono ?_; rintro e w1 ⟨rfl, HB1⟩)
    go_end0
    exact ⟨rfl, HB2.out.trans (But.ofBelow HB1), HS2.out.below HB1⟩
end Go.Proofs.YtkmikhinkbbnnaaGreatDoor.M
