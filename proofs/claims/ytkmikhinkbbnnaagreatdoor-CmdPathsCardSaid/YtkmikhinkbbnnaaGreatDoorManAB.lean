/- Package addr: the scanner's steps, by hand. -/
import Derived.Test.YtkmikhinkbbnnaaGreatDoorManAA
import Derived.Deep.RegionHeld3
import Derived.Deep.DrawnRows
import Derived.Deep.QuietTactic
import Derived.BigQuiet
import Derived.RegionTactic
namespace Go.Proofs.YtkmikhinkbbnnaaGreatDoor.M
open Go.RowKit Go.Proofs.YtkmikhinkbbnnaaGreatDoor.Sp
attribute [local go_sem ↓] Go.wp_at_zero Go.wp_at_succ

/-- Every block but g is as it was. -/
structure But (g : Nat) (w w' : World) : Prop where
  os : w'.os = w.os
  tape : w'.tape = w.tape
  output : w'.output = w.output
  size : w.heap.size ≤ w'.heap.size
  block : ∀ k, k < w.heap.size → k ≠ g → w'.heap[k]? = w.heap[k]?

theorem But.refl (g : Nat) (w : World) : But g w w := ⟨rfl, rfl, rfl, Nat.le_refl _, fun _ _ _ => rfl⟩
theorem But.trans {g : Nat} {a b c : World} (h : But g a b) (k : But g b c) : But g a c :=
  ⟨k.os.trans h.os, k.tape.trans h.tape, k.output.trans h.output, Nat.le_trans h.size k.size, fun i hi hn => (k.block i (Nat.lt_of_lt_of_le hi h.size) hn).trans (h.block i hi hn)⟩
theorem But.ofBelow {g : Nat} {w w' : World} (h : Below w.heap.size w w') : But g w w' := ⟨h.os, h.tape, h.output, h.size, fun k hk _ => h.block k hk⟩
theorem But.set {g : Nat} (w : World) (o : Nat) (v : Value) : But g w (w.setCell ⟨g, o, none⟩ v) :=
  ⟨rfl, rfl, rfl, by simp [World.setCell], fun k _ hn => Below.heap_setCell w ⟨g, o, none⟩ v k hn⟩
theorem But.below {g : Nat} {w0 w w' : World} (hb : Below w0.heap.size w0 w) (h : But g w w') (hg : w0.heap.size ≤ g) : Below w0.heap.size w0 w' :=
  hb.trans ⟨h.os, h.tape, h.output, h.size, fun k hk => h.block k (Nat.lt_of_lt_of_le hk hb.size) (by omega)⟩
theorem But.cell {g : Nat} {w w' : World} (h : But g w w') {p : Addr} (hp : p.block < w.heap.size) (hn : p.block ≠ g) : w'.cell? p = w.cell? p := World.cell?_of_block (w := w) (h.block p.block hp hn)

/-- The globals stand whatever the scanner's block holds. -/
def GB (g : Nat) (w : World) : Prop := ∀ W, But g w W → GL W
theorem GB.gl {g : Nat} {w : World} (h : GB g w) : GL w := h w (But.refl _ _)
theorem GB.step {g : Nat} {w w' : World} (h : GB g w) (k : But g w w') : GB g w' := fun _ hW => h _ (k.trans hW)
theorem gb_of {g : Nat} {w0 w : World} (h : GL w0) (hb : Below w0.heap.size w0 w) (hg : w0.heap.size ≤ g) : GB g w := fun _ hW => h.step (hW.below hb hg)

/-- Block g is the scanner: the text, the place, whether it is bad. -/
structure Sc (w : World) (g : Nat) (s : ByteArray) (i : Nat) (b : Bool) : Prop where
  c0 : w.cell? ⟨g, 0, none⟩ = some (.string s)
  c1 : w.cell? ⟨g, 1, none⟩ = some (.int .i64 (i : Int))
  c2 : w.cell? ⟨g, 2, none⟩ = some (.bool b)
  f1 : w.frozen? ⟨g, 1, none⟩ = false
  f2 : w.frozen? ⟨g, 2, none⟩ = false
theorem Sc.lt {w : World} {g : Nat} {s : ByteArray} {i : Nat} {b : Bool} (h : Sc w g s i b) : g < w.heap.size := World.block_lt_of_cell? w _ h.c0
theorem Sc.below {w w' : World} {g : Nat} {s : ByteArray} {i : Nat} {b : Bool} (h : Sc w g s i b) (hb : Below w.heap.size w w') : Sc w' g s i b :=
  ⟨(hb.cell h.lt).trans h.c0, (hb.cell h.lt).trans h.c1, (hb.cell h.lt).trans h.c2, (hb.frozen h.lt).trans h.f1, (hb.frozen h.lt).trans h.f2⟩
theorem Sc.at {w : World} {g : Nat} {s : ByteArray} {i : Nat} {b : Bool} (h : Sc w g s i b) (j : Nat) : Sc (w.setCell ⟨g, 1, none⟩ (.int .i64 (j : Int))) g s j b :=
  ⟨by rw [World.cell?_setCell_other w _ _ _ (by simp), h.c0], by rw [World.cell?_setCell_same w _ _ h.c1], by rw [World.cell?_setCell_other w _ _ _ (by simp), h.c2], by rw [World.frozen?_setCell]; exact h.f1, by rw [World.frozen?_setCell]; exact h.f2⟩
theorem Sc.spoil {w : World} {g : Nat} {s : ByteArray} {i : Nat} {b : Bool} (h : Sc w g s i b) (b' : Bool) : Sc (w.setCell ⟨g, 2, none⟩ (.bool b')) g s i b' :=
  ⟨by rw [World.cell?_setCell_other w _ _ _ (by simp), h.c0], by rw [World.cell?_setCell_other w _ _ _ (by simp), h.c1], by rw [World.cell?_setCell_same w _ _ h.c2], by rw [World.frozen?_setCell]; exact h.f1, by rw [World.frozen?_setCell]; exact h.f2⟩

def nextB (s : ByteArray) (i : Nat) (b : Bool) : UInt8 := if b then 0 else (s.data.toList.drop i).headD 0

theorem next_any (s : ByteArray) (g i : Nat) (b : Bool) (w : World) (h : Sc w g s i b) (hs : s.size ≤ 140737488355327) (hi : i ≤ s.size) :
    Calls Tryz.prog 175 #[.pointer (some ⟨g, 0, none⟩)] w fun e w' => e = .returned (.int .u8 ((nextB s i b).toNat : Int)) ∧ Below w.heap.size w w' := by
  obtain ⟨h0, h1, h2, _, _⟩ := h
  cases b with
  | true =>
    go_enter Tryz.func175, Tryz.ntmps175
    go_wp2
    go_quiet (fail)
    go_wp2
    go_ret
    exact ⟨rfl, belowN (Below.refl _ _) _⟩
  | false =>
    by_cases hlt : i < s.size
    · have HN : Hid (nextB s i false = s[i]) := Lib.hid (by unfold nextB; rw [drop_get s i hlt]; rfl)
      have i0 : decide (s.size ≤ i) = false := decide_eq_false (by omega)
      have i1 : (0 : Int) ≤ (i : Int) := by omega
      have i2 : (i : Int) < (s.size : Int) := by omega
      go_enter Tryz.func175, Tryz.ntmps175
      go_wp2
      go_quiet (fail)
      go_wp2
      go_quiet (fail)
      go_wp2
      go_ret
      exact ⟨by rw [HN.out]; rfl, belowN (belowN (Below.refl _ _) _) _⟩
    · have HN : Hid (nextB s i false = 0) := Lib.hid (by unfold nextB; rw [List.drop_of_length_le (by rw [len_eq]; omega)]; rfl)
      have i0 : decide (s.size ≤ i) = true := decide_eq_true (by omega)
      go_enter Tryz.func175, Tryz.ntmps175
      go_wp2
      go_quiet (fail)
      go_wp2
      go_ret
      exact ⟨by rw [HN.out]; rfl, belowN (Below.refl _ _) _⟩

theorem nextB_lt {s : ByteArray} {i : Nat} {b : Bool} {c : UInt8} (hc : c ≠ 0) (h : nextB s i b = c) : i < s.size ∧ b = false := by
  unfold nextB at h
  cases b with
  | true => exact absurd h.symm hc
  | false =>
    refine ⟨?_, rfl⟩
    rcases Nat.lt_or_ge i s.size with h' | h'
    · exact h'
    · rw [List.drop_of_length_le (by rw [len_eq]; exact h')] at h
      exact absurd h.symm hc

theorem takes_no (s : ByteArray) (g i : Nat) (b : Bool) (c : UInt8) (w : World) (h : Sc w g s i b) (hs : s.size ≤ 140737488355327) (hi : i ≤ s.size) (hn : nextB s i b ≠ c) :
    Calls Tryz.prog 143 #[.pointer (some ⟨g, 0, none⟩), .int .u8 (c.toNat : Int)] w fun e w' => e = .returned (.bool false) ∧ Below w.heap.size w w' := by
  have cn := next_any s g i b w h hs hi
  generalize nextB s i b = d at cn hn
  have q0 : (((d.toNat : Int) != (c.toNat : Int)) : Bool) = true := u8_nlit' d c hn
  go_enter Tryz.func143, Tryz.ntmps143
  go_wp2_with (go_at_call 175; refine cn.mono ?_; rintro e w' ⟨rfl, HB⟩)
  go_ret
  exact ⟨rfl, HB⟩

theorem takes_yes (s : ByteArray) (g i : Nat) (b : Bool) (c : UInt8) (w : World) (h : Sc w g s i b) (hs : s.size ≤ 140737488355327) (hc : c ≠ 0) (hn : nextB s i b = c) :
    Calls Tryz.prog 143 #[.pointer (some ⟨g, 0, none⟩), .int .u8 (c.toNat : Int)] w fun e w' => e = .returned (.bool true) ∧ But g w w' ∧ Sc w' g s (i + 1) b := by
  obtain ⟨hi, rfl⟩ := nextB_lt hc hn
  have cn := next_any s g i false w h hs (by omega)
  rw [hn] at cn
  have HS := Lib.hid h
  have i0 : (i : Int) + 1 ≤ 9223372036854775807 := by omega
  clear hn h
  go_enter Tryz.func143, Tryz.ntmps143
  go_wp2_with (go_at_call 175; refine cn.mono ?_; rintro e w1 ⟨rfl, HB⟩; have HS1 := Lib.hid (HS.out.below HB); obtain ⟨h0, h1, h2, h3, h4⟩ := HS1.out)
  go_ret
  exact ⟨rfl, (But.ofBelow HB).trans (But.set w1 _ _), HS1.out.at (i + 1)⟩

theorem want_no (s : ByteArray) (g i : Nat) (b : Bool) (c : UInt8) (w : World) (h : Sc w g s i b) (hs : s.size ≤ 140737488355327) (hi : i ≤ s.size) (hn : nextB s i b ≠ c) :
    Calls Tryz.prog 142 #[.pointer (some ⟨g, 0, none⟩), .int .u8 (c.toNat : Int)] w fun e w' => e = .returned (.tuple #[]) ∧ But g w w' ∧ Sc w' g s i true := by
  have cn := takes_no s g i b c w h hs hi hn
  have HS := Lib.hid h
  obtain ⟨h0, h1, h2, h3, h4⟩ := h
  cases b with
  | true =>
    go_enter Tryz.func142, Tryz.ntmps142
    go_wp2
    go_end0
    exact ⟨rfl, But.set w _ _, HS.out.spoil true⟩
  | false =>
    go_enter Tryz.func142, Tryz.ntmps142
    go_wp2_with (go_at_call 143; refine cn.mono ?_; rintro e w1 ⟨rfl, HB⟩; have HS1 := Lib.hid (HS.out.below HB); obtain ⟨k0, k1, k2, k3, k4⟩ := HS1.out)
    go_end0
    exact ⟨rfl, (But.ofBelow HB).trans (But.set w1 _ _), HS1.out.spoil true⟩

theorem want_yes (s : ByteArray) (g i : Nat) (b : Bool) (c : UInt8) (w : World) (h : Sc w g s i b) (hs : s.size ≤ 140737488355327) (hc : c ≠ 0) (hn : nextB s i b = c) :
    Calls Tryz.prog 142 #[.pointer (some ⟨g, 0, none⟩), .int .u8 (c.toNat : Int)] w fun e w' => e = .returned (.tuple #[]) ∧ But g w w' ∧ Sc w' g s (i + 1) false := by
  have ct := takes_yes s g i b c w h hs hc hn
  obtain ⟨hi, rfl⟩ := nextB_lt hc hn
  obtain ⟨h0, h1, h2, h3, h4⟩ := h
  go_enter Tryz.func142, Tryz.ntmps142
  go_wp2_with (go_at_call 143; refine ct.mono ?_; rintro e w1 ⟨rfl, HB1, HS1⟩; have HS := Lib.hid HS1; obtain ⟨k0, k1, k2, k3, k4⟩ := HS1)
  go_end0
  exact ⟨rfl, HB1.trans (But.set w1 _ _), HS.out.spoil false⟩
theorem takes_noL (n : Int) (s : ByteArray) (g i : Nat) (b : Bool) (c : UInt8) (w : World) (h : Sc w g s i b) (hs : s.size ≤ 140737488355327) (hi : i ≤ s.size) (hn : nextB s i b ≠ c) (en : (c.toNat : Int) = n) :
    Calls Tryz.prog 143 #[.pointer (some ⟨g, 0, none⟩), .int .u8 n] w fun e w' => e = .returned (.bool false) ∧ Below w.heap.size w w' := by
  subst en; exact takes_no s g i b c w h hs hi hn
theorem takes_yesL (n : Int) (s : ByteArray) (g i : Nat) (b : Bool) (c : UInt8) (w : World) (h : Sc w g s i b) (hs : s.size ≤ 140737488355327) (hc : c ≠ 0) (hn : nextB s i b = c) (en : (c.toNat : Int) = n) :
    Calls Tryz.prog 143 #[.pointer (some ⟨g, 0, none⟩), .int .u8 n] w fun e w' => e = .returned (.bool true) ∧ But g w w' ∧ Sc w' g s (i + 1) b := by
  subst en; exact takes_yes s g i b c w h hs hc hn
theorem want_noL (n : Int) (s : ByteArray) (g i : Nat) (b : Bool) (c : UInt8) (w : World) (h : Sc w g s i b) (hs : s.size ≤ 140737488355327) (hi : i ≤ s.size) (hn : nextB s i b ≠ c) (en : (c.toNat : Int) = n) :
    Calls Tryz.prog 142 #[.pointer (some ⟨g, 0, none⟩), .int .u8 n] w fun e w' => e = .returned (.tuple #[]) ∧ But g w w' ∧ Sc w' g s i true := by
  subst en; exact want_no s g i b c w h hs hi hn
theorem want_yesL (n : Int) (s : ByteArray) (g i : Nat) (b : Bool) (c : UInt8) (w : World) (h : Sc w g s i b) (hs : s.size ≤ 140737488355327) (hc : c ≠ 0) (hn : nextB s i b = c) (en : (c.toNat : Int) = n) :
    Calls Tryz.prog 142 #[.pointer (some ⟨g, 0, none⟩), .int .u8 n] w fun e w' => e = .returned (.tuple #[]) ∧ But g w w' ∧ Sc w' g s (i + 1) false := by
  subst en; exact want_yes s g i b c w h hs hc hn
end Go.Proofs.YtkmikhinkbbnnaaGreatDoor.M
