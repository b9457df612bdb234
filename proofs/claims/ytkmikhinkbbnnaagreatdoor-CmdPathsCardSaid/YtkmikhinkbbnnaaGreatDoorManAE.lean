/- Package addr: the scanner's local parts in quotes, by hand. -/
import Derived.Test.YtkmikhinkbbnnaaGreatDoorManAD
namespace Go.Proofs.YtkmikhinkbbnnaaGreatDoor.M
open Go.RowKit Go.Proofs.YtkmikhinkbbnnaaGreatDoor.Sp
attribute [local go_sem ↓] Go.wp_at_zero Go.wp_at_succ

theorem size_setCell (w : World) (a : Addr) (v : Value) : (w.setCell a v).heap.size = w.heap.size := by simp [World.setCell]
theorem But.step {g : Nat} {w W W' : World} (h : But g w W) (k : Below w.heap.size W W') : But g w W' :=
  ⟨k.os.trans h.os, k.tape.trans h.tape, k.output.trans h.output, Nat.le_trans h.size k.size, fun i hi hn => (k.block i hi).trans (h.block i hi hn)⟩
theorem Sc.step {w W : World} {g B : Nat} {s : ByteArray} {i : Nat} {b : Bool} (h : Sc w g s i b) (hb : Below B w W) (hg : g < B) : Sc W g s i b :=
  ⟨(hb.cell hg).trans h.c0, (hb.cell hg).trans h.c1, (hb.cell hg).trans h.c2, (hb.frozen hg).trans h.f1, (hb.frozen hg).trans h.f2⟩
theorem ownB_but {w w1 : World} {base g : Nat} {v : Value} {l : List UInt8} (h : OwnB w base v l) (hg : g < base) (hb : But g w w1) : OwnB w1 base v l := by
  refine ⟨h.1, ?_⟩
  rcases h.2 with h0 | ⟨g', cap, cur, h1, h2, h3, h4⟩
  · exact .inl h0
  · exact .inr ⟨g', cap, cur, h1, h2, (hb.block g' (Array.getElem?_eq_some_iff.1 h3).1 (by omega)).trans h3, h4⟩

def QuoteEnd (s : ByteArray) (g i : Nat) (w : World) (e : Ending) (w' : World) : Prop :=
  But g w w' ∧ match quoteGo [] (s.data.toList.drop (i + 1)) with
    | none => (∃ t, e = .returned (.string t)) ∧ ∃ j, j ≤ s.size ∧ Sc w' g s j true
    | some (lo, r) => e = .returned (.string ⟨lo.toArray⟩) ∧ Sc w' g s (s.size - r.length) false
theorem quoteEnd_none {s : ByteArray} {g i : Nat} {w w' : World} {t : ByteArray} (h : quoteGo [] (s.data.toList.drop (i + 1)) = none) (hb : But g w w') (j : Nat) (hj : j ≤ s.size) (hs : Sc w' g s j true) : QuoteEnd s g i w (.returned (.string t)) w' := by
  unfold QuoteEnd; rw [h]; exact ⟨hb, ⟨t, rfl⟩, j, hj, hs⟩
theorem quoteEnd_some {s : ByteArray} {g i : Nat} {w w' : World} {lo r : List UInt8} (h : quoteGo [] (s.data.toList.drop (i + 1)) = some (lo, r)) (hb : But g w w') (hs : Sc w' g s (s.size - r.length) false) : QuoteEnd s g i w (.returned (.string ⟨lo.toArray⟩)) w' := by
  unfold QuoteEnd; rw [h]; exact ⟨hb, rfl, hs⟩

theorem visible_zero {c : UInt8} (h : visibleB c = true) : c ≠ 0 := by rintro rfl; revert h; decide +kernel
theorem quoteStep_strokeY {s : ByteArray} {k : Nat} {acc : List UInt8} (h : nextB s k false = 92) (hv : visibleB (nextB s (k + 1) false) = true) :
    k + 1 + 1 ≤ s.size ∧ quoteGo acc (s.data.toList.drop k) = quoteGo (acc ++ [nextB s (k + 1) false]) (s.data.toList.drop (k + 1 + 1)) := by
  obtain ⟨hk, _⟩ := nextB_lt (by decide) h
  obtain ⟨hk1, _⟩ := nextB_lt (visible_zero hv) rfl
  rw [nextB_get hk1] at hv ⊢
  rw [nextB_get hk] at h
  exact ⟨hk1, by rw [drop_get s k hk, drop_get s (k + 1) hk1, quoteGo_stroke _ _ _ _ h, hv, if_pos rfl]⟩
theorem quoteStep_strokeN {s : ByteArray} {k : Nat} {acc : List UInt8} (h : nextB s k false = 92) (hv : visibleB (nextB s (k + 1) false) = false) :
    quoteGo acc (s.data.toList.drop k) = none := by
  obtain ⟨hk, _⟩ := nextB_lt (by decide) h
  rw [nextB_get hk] at h
  rw [drop_get s k hk]
  rcases Nat.lt_or_ge (k + 1) s.size with hk1 | hk1
  · rw [nextB_get hk1] at hv
    rw [drop_get s (k + 1) hk1, quoteGo_stroke _ _ _ _ h, hv, if_neg (by decide)]
  · rw [List.drop_of_length_le (by rw [len_eq]; exact hk1), quoteGo_stroke_end _ _ h]
theorem quoteStep_plainY {s : ByteArray} {k : Nat} {acc : List UInt8} (h : nextB s k false ≠ 34 ∧ nextB s k false ≠ 92) (hv : visibleB (nextB s k false) = true) :
    k + 1 ≤ s.size ∧ quoteGo acc (s.data.toList.drop k) = quoteGo (acc ++ [nextB s k false]) (s.data.toList.drop (k + 1)) := by
  obtain ⟨hk, _⟩ := nextB_lt (visible_zero hv) rfl
  rw [nextB_get hk] at hv h ⊢
  exact ⟨hk, by rw [drop_get s k hk, quoteGo_other _ _ _ h.1 h.2, hv, if_pos rfl]⟩
theorem quoteStep_plainN {s : ByteArray} {k : Nat} {acc : List UInt8} (h : nextB s k false ≠ 34 ∧ nextB s k false ≠ 92) (hv : visibleB (nextB s k false) = false) :
    quoteGo acc (s.data.toList.drop k) = none := by
  rcases Nat.lt_or_ge k s.size with hk | hk
  · rw [nextB_get hk] at hv h
    rw [drop_get s k hk, quoteGo_other _ _ _ h.1 h.2, hv, if_neg (by decide)]
  · rw [List.drop_of_length_le (by rw [len_eq]; exact hk), quoteGo_end]

set_option maxHeartbeats 8000000 in
set_option maxRecDepth 100000 in
theorem squoted_ok (s : ByteArray) (g i : Nat) (w : World) (h : Sc w g s i false) (hs : s.size ≤ 4000000000) (hq : nextB s i false = 34) :
    Calls Tryz.prog 176 #[.pointer (some ⟨g, 0, none⟩)] w (QuoteEnd s g i w) := by
  have cw := fun W (hS : Sc W g s i false) => want_yesL 34 s g i false 34 W hS (by omega) (by decide) hq (by decide)
  have hi := (nextB_lt (by decide) hq).1
  have hgw : g < w.heap.size := h.lt
  have HS := Lib.hid h
  clear h hq
  go_enter Tryz.func176, Tryz.ntmps176
  go_wp2_with (go_at_call 142; refine (cw _ HS.out).mono ?_; rintro e w1 ⟨rfl, HB1, HS1⟩; have HS2 := Lib.hid HS1; have HT1 := Lib.hid HB1)
  go_loopw [3] (fun b wr => ∃ (k : Nat) (acc : List UInt8) (bv : Value), k ≤ s.size ∧ acc.length ≤ k ∧ bv = b ∧ Hid (OwnB wr w.heap.size bv acc) ∧ Hid (Sc wr g s k false) ∧ Hid (But g w wr) ∧ Hid (quoteGo [] (s.data.toList.drop (i + 1)) = quoteGo acc (s.data.toList.drop k))) (fun _ wr => s.size - (intOf ((wr.cell? ⟨g, 1, none⟩).getD undef)).toNat)
  case atStart => exact ⟨i + 1, [], _, hi, by simp, rfl, Lib.hid (ownB_nil _ _), HS2, HT1, Lib.hid rfl⟩
  case round =>
    obtain ⟨k, acc, bv, hk, hacc, rfl, HO, HSk, HB, HQ⟩ := hrel
    obtain ⟨e0, e1, e2, e3, e4⟩ := HSk.out
    by_cases h34 : nextB s k false = 34
    · have hk1 := (nextB_lt (by decide) h34).1
      have ct := fun W (hS : Sc W g s k false) => takes_yesL 34 s g k false 34 W hS (by omega) (by decide) h34 (by decide)
      have hgo : Hid (quoteGo [] (s.data.toList.drop (i + 1)) = if acc = [] then none else some (acc, s.data.toList.drop (k + 1))) := Lib.hid (by
        rw [nextB_get hk1] at h34
        rw [HQ.out, drop_get s k hk1, quoteGo_quote _ _ _ h34])
      clear h34
      by_cases hac : acc = []
      · have hno : Hid (quoteGo [] (s.data.toList.drop (i + 1)) = none) := Lib.hid (by rw [hgo.out, if_pos hac])
        subst hac
        have hform : ∃ a c, bv = .slice a 0 c := by obtain ⟨a, c, h1, _⟩ := ownB_form HO.out; exact ⟨a, c, h1⟩
        obtain ⟨pa, pc, rfl⟩ := hform
        go_wp2_with (first | (go_at_call 143; refine (ct _ HSk.out).mono ?_; rintro e w2 ⟨rfl, HB2, HS3⟩; have HS4 := Lib.hid HS3; have HT2 := Lib.hid (HB.out.trans HB2); have hcv := ownB_string (ownB_but HO.out hgw (HB2.trans (But.set _ 2 (.bool true)))); obtain ⟨k0, k1, k2, k3, k4⟩ := HS4.out))
        go_ret
        exact quoteEnd_none hno.out (HT2.out.trans (But.set _ 2 (.bool true))) _ hk1 (HS4.out.spoil true)
      · have hyes : Hid (quoteGo [] (s.data.toList.drop (i + 1)) = some (acc, s.data.toList.drop (k + 1))) := Lib.hid (by rw [hgo.out, if_neg hac])
        have hne : (((acc.length : Nat) : Int) == 0) = false := by
          rw [beq_eq_false_iff_ne]; have := List.length_pos_iff.2 hac; omega
        obtain ⟨pa, pc, rfl, hlen⟩ := ownB_form HO.out
        clear hac hgo
        go_wp2_with (first | (go_at_call 143; refine (ct _ HSk.out).mono ?_; rintro e w2 ⟨rfl, HB2, HS3⟩; have HS4 := Lib.hid HS3; have HT2 := Lib.hid (HB.out.trans HB2); have hcv := ownB_string (ownB_but HO.out hgw (HB2.trans (But.set _ 2 (.bool false)))); obtain ⟨k0, k1, k2, k3, k4⟩ := HS4.out))
        go_ret
        exact quoteEnd_some hyes.out (HT2.out.trans (But.set _ 2 (.bool false))) (by rw [List.length_drop, len_eq, show s.size - (s.size - (k + 1)) = k + 1 by omega]; exact HS4.out.spoil false)
    · have ct := fun W (hS : Sc W g s k false) => takes_noL 34 s g k false 34 W hS (by omega) hk h34 (by decide)
      by_cases h92 : nextB s k false = 92
      · have hk1 := (nextB_lt (by decide) h92).1
        have hk2 : k + 1 ≤ s.size := hk1
        have ct9 := fun W (hS : Sc W g s k false) => takes_yesL 92 s g k false 92 W hS (by omega) (by decide) h92 (by decide)
        have h9 := h92
        clear h34 h92
        have cn := fun W (hS : Sc W g s (k + 1) false) => next_any s g (k + 1) false W hS (by omega) hk2
        have hyes := fun h => quoteStep_strokeY (acc := acc) h9 h
        have hnone := fun h => quoteStep_strokeN (acc := acc) h9 h
        generalize nextB s (k + 1) false = q at cn hyes hnone
        have cv := visible_any q
        cases hv : visibleB q with
        | true =>
          obtain ⟨hk3, hq⟩ := hyes hv
          have hQ : Hid (quoteGo [] (s.data.toList.drop (i + 1)) = quoteGo (acc ++ [q]) (s.data.toList.drop (k + 1 + 1))) := Lib.hid (by rw [HQ.out, hq])
          rw [hv] at cv
          have i0 : ((k + 1 : Nat) : Int) + 1 ≤ 9223372036854775807 := by omega
          clear hyes hnone hv hq h9
          go_wp2_with (first | (go_at_call_of 143 (Value.int IntKind.u8 34); refine (ct _ HSk.out).mono ?_; rintro e w2 ⟨rfl, HB2⟩; have HS4 := Lib.hid (HSk.out.below HB2); have HT2 := Lib.hid (HB.out.trans (But.ofBelow HB2)); have HO2 := Lib.hid (ownB_but HO.out hgw (But.ofBelow HB2))) | (go_at_call_of 143 (Value.int IntKind.u8 92); refine (ct9 _ HS4.out).mono ?_; rintro e w3 ⟨rfl, HB3, HS5⟩; have HS6 := Lib.hid HS5; have HT3 := Lib.hid (HT2.out.trans HB3); have HO3 := Lib.hid (ownB_but HO2.out hgw HB3)) | (go_at_call 175; refine (cn _ HS6.out).mono ?_; rintro e w4 ⟨rfl, HB4⟩; have HS7 := Lib.hid (HS6.out.below HB4); have HT4 := Lib.hid (HT3.out.trans (But.ofBelow HB4)); have HO4 := Lib.hid (ownB_but HO3.out hgw (But.ofBelow HB4)); obtain ⟨k0, k1, k2, k3, k4⟩ := HS7.out; have HO5 : ∀ v, OwnB (w4.setCell ⟨g, 1, none⟩ v) w.heap.size bv acc := (fun v => ownB_but HO4.out hgw (But.set w4 1 v)); have hsz5 : ∀ v, w.heap.size ≤ (w4.setCell ⟨g, 1, none⟩ v).heap.size := (fun v => (HT4.out.trans (But.set w4 1 v)).size)) | (go_at_call 125; refine (cv _).mono ?_; rintro e w5 ⟨rfl, rfl⟩) | (at_builtin; refine appB1 w.heap.size rfl _ _ rfl bv acc q rfl (by rw [size_setCell]; rfl) (HO5 _) (hsz5 _) (by omega) ?_; intro v1 w6 HO6 HB6))
          have HS8 := Lib.hid ((HS7.out.at (k + 1 + 1)).step HB6 hgw)
          have HT8 := Lib.hid ((HT4.out.trans (But.set _ 1 _)).step HB6)
          go_roundw
          case rel => exact ⟨k + 1 + 1, acc ++ [q], v1, hk3, by rw [List.length_append]; simp; omega, rfl, Lib.hid HO6, HS8, HT8, hQ⟩
          case measure => rw [HS8.out.c1, e1]; simp [intOf]; omega
        | false =>
          have hno : Hid (quoteGo [] (s.data.toList.drop (i + 1)) = none) := Lib.hid (by rw [HQ.out, hnone hv])
          rw [hv] at cv
          clear hyes hnone hv h9
          go_wp2_with (first | (go_at_call_of 143 (Value.int IntKind.u8 34); refine (ct _ HSk.out).mono ?_; rintro e w2 ⟨rfl, HB2⟩; have HS4 := Lib.hid (HSk.out.below HB2); have HT2 := Lib.hid (HB.out.trans (But.ofBelow HB2)); have HO2 := Lib.hid (ownB_but HO.out hgw (But.ofBelow HB2))) | (go_at_call_of 143 (Value.int IntKind.u8 92); refine (ct9 _ HS4.out).mono ?_; rintro e w3 ⟨rfl, HB3, HS5⟩; have HS6 := Lib.hid HS5; have HT3 := Lib.hid (HT2.out.trans HB3); have HO3 := Lib.hid (ownB_but HO2.out hgw HB3)) | (go_at_call 175; refine (cn _ HS6.out).mono ?_; rintro e w4 ⟨rfl, HB4⟩; have HS7 := Lib.hid (HS6.out.below HB4); have HT4 := Lib.hid (HT3.out.trans (But.ofBelow HB4)); have HO4 := Lib.hid (ownB_but HO3.out hgw (But.ofBelow HB4)); obtain ⟨k0, k1, k2, k3, k4⟩ := HS7.out; have hcv := ownB_string (ownB_but HO4.out hgw ((But.set _ 2 (.bool true)).trans (But.set _ 2 (.bool true))))) | (go_at_call 125; refine (cv _).mono ?_; rintro e w5 ⟨rfl, rfl⟩))
          go_ret
          exact quoteEnd_none hno.out (HT4.out.trans ((But.set _ 2 (.bool true)).trans (But.set _ 2 (.bool true)))) _ hk2 ((HS7.out.spoil true).spoil true)
      · have hk2 : k ≤ s.size := hk
        have ct9 := fun W (hS : Sc W g s k false) => takes_noL 92 s g k false 92 W hS (by omega) hk h92 (by decide)
        have h9 : nextB s k false ≠ 34 ∧ nextB s k false ≠ 92 := ⟨h34, h92⟩
        clear h34 h92
        have cn := fun W (hS : Sc W g s (k) false) => next_any s g (k) false W hS (by omega) hk2
        have hyes := fun h => quoteStep_plainY (acc := acc) h9 h
        have hnone := fun h => quoteStep_plainN (acc := acc) h9 h
        generalize nextB s (k) false = q at cn hyes hnone
        have cv := visible_any q
        cases hv : visibleB q with
        | true =>
          obtain ⟨hk3, hq⟩ := hyes hv
          have hQ : Hid (quoteGo [] (s.data.toList.drop (i + 1)) = quoteGo (acc ++ [q]) (s.data.toList.drop (k + 1))) := Lib.hid (by rw [HQ.out, hq])
          rw [hv] at cv
          have i0 : ((k : Nat) : Int) + 1 ≤ 9223372036854775807 := by omega
          clear hyes hnone hv hq h9
          go_wp2_with (first | (go_at_call_of 143 (Value.int IntKind.u8 34); refine (ct _ HSk.out).mono ?_; rintro e w2 ⟨rfl, HB2⟩; have HS4 := Lib.hid (HSk.out.below HB2); have HT2 := Lib.hid (HB.out.trans (But.ofBelow HB2)); have HO2 := Lib.hid (ownB_but HO.out hgw (But.ofBelow HB2))) | (go_at_call_of 143 (Value.int IntKind.u8 92); refine (ct9 _ HS4.out).mono ?_; rintro e w3 ⟨rfl, HB3⟩; have HS6 := Lib.hid (HS4.out.below HB3); have HT3 := Lib.hid (HT2.out.trans (But.ofBelow HB3)); have HO3 := Lib.hid (ownB_but HO2.out hgw (But.ofBelow HB3))) | (go_at_call 175; refine (cn _ HS6.out).mono ?_; rintro e w4 ⟨rfl, HB4⟩; have HS7 := Lib.hid (HS6.out.below HB4); have HT4 := Lib.hid (HT3.out.trans (But.ofBelow HB4)); have HO4 := Lib.hid (ownB_but HO3.out hgw (But.ofBelow HB4)); obtain ⟨k0, k1, k2, k3, k4⟩ := HS7.out; have HO5 : ∀ v, OwnB (w4.setCell ⟨g, 1, none⟩ v) w.heap.size bv acc := (fun v => ownB_but HO4.out hgw (But.set w4 1 v)); have hsz5 : ∀ v, w.heap.size ≤ (w4.setCell ⟨g, 1, none⟩ v).heap.size := (fun v => (HT4.out.trans (But.set w4 1 v)).size)) | (go_at_call 125; refine (cv _).mono ?_; rintro e w5 ⟨rfl, rfl⟩) | (at_builtin; refine appB1 w.heap.size rfl _ _ rfl bv acc q rfl (by rw [size_setCell]; rfl) (HO5 _) (hsz5 _) (by omega) ?_; intro v1 w6 HO6 HB6))
          have HS8 := Lib.hid ((HS7.out.at (k + 1)).step HB6 hgw)
          have HT8 := Lib.hid ((HT4.out.trans (But.set _ 1 _)).step HB6)
          go_roundw
          case rel => exact ⟨k + 1, acc ++ [q], v1, hk3, by rw [List.length_append]; simp; omega, rfl, Lib.hid HO6, HS8, HT8, hQ⟩
          case measure => rw [HS8.out.c1, e1]; simp [intOf]; omega
        | false =>
          have hno : Hid (quoteGo [] (s.data.toList.drop (i + 1)) = none) := Lib.hid (by rw [HQ.out, hnone hv])
          rw [hv] at cv
          clear hyes hnone hv h9
          go_wp2_with (first | (go_at_call_of 143 (Value.int IntKind.u8 34); refine (ct _ HSk.out).mono ?_; rintro e w2 ⟨rfl, HB2⟩; have HS4 := Lib.hid (HSk.out.below HB2); have HT2 := Lib.hid (HB.out.trans (But.ofBelow HB2)); have HO2 := Lib.hid (ownB_but HO.out hgw (But.ofBelow HB2))) | (go_at_call_of 143 (Value.int IntKind.u8 92); refine (ct9 _ HS4.out).mono ?_; rintro e w3 ⟨rfl, HB3⟩; have HS6 := Lib.hid (HS4.out.below HB3); have HT3 := Lib.hid (HT2.out.trans (But.ofBelow HB3)); have HO3 := Lib.hid (ownB_but HO2.out hgw (But.ofBelow HB3))) | (go_at_call 175; refine (cn _ HS6.out).mono ?_; rintro e w4 ⟨rfl, HB4⟩; have HS7 := Lib.hid (HS6.out.below HB4); have HT4 := Lib.hid (HT3.out.trans (But.ofBelow HB4)); have HO4 := Lib.hid (ownB_but HO3.out hgw (But.ofBelow HB4)); obtain ⟨k0, k1, k2, k3, k4⟩ := HS7.out; have hcv := ownB_string (ownB_but HO4.out hgw ((But.set _ 2 (.bool true)).trans (But.set _ 2 (.bool true))))) | (go_at_call 125; refine (cv _).mono ?_; rintro e w5 ⟨rfl, rfl⟩))
          go_ret
          exact quoteEnd_none hno.out (HT4.out.trans ((But.set _ 2 (.bool true)).trans (But.set _ 2 (.bool true)))) _ hk2 ((HS7.out.spoil true).spoil true)
end Go.Proofs.YtkmikhinkbbnnaaGreatDoor.M
