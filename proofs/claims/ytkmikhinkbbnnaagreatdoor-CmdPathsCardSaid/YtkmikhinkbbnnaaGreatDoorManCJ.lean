/- mailbaglaw15.CmdPaths, by hand. -/
import Derived.Test.YtkmikhinkbbnnaaGreatDoorManCI
import Derived.Test.YtkmikhinkbbnnaaGreatDoorManCD
import Derived.Test.YtkmikhinkbbnnaaGreatDoorManCB
namespace Go.Proofs.YtkmikhinkbbnnaaGreatDoor.M
open Go.RowKit Go.Proofs.YtkmikhinkbbnnaaGreatDoor.Sp

theorem Ad.alloc {w : World} {g : Nat} {t u : ByteArray} (h : Ad w g t u) (o : Obj) : Ad (w.alloc o) g t u := h.below (belowA (Below.refl _ _) o)
section
variable {lo d b p : ByteArray} {k : Nat} (hb : b.data.toList = List.replicate k 32) (hp : p.data.toList = printL lo.data.toList d.data.toList) (hr : rightB lo.data.toList d.data.toList = true)
include hb hp hr
theorem pln1 : parseL (⟨#[77, 65, 73, 76, 32, 70, 82, 79, 77, 58]⟩ ++ b ++ p : ByteArray).data.toList = (3, [], lo.data.toList, d.data.toList, -1, 0) := by
  have h := mail_line (h := [77, 65, 73, 76]) (fw := [70, 82, 79, 77, 58]) (by decide +kernel) (by decide +kernel) (by decide +kernel) (by decide +kernel) k hr [] rfl (fun _ h => by cases h)
  have e : (⟨#[77, 65, 73, 76, 32, 70, 82, 79, 77, 58]⟩ ++ b ++ p : ByteArray).data.toList = [77, 65, 73, 76] ++ 32 :: ([70, 82, 79, 77, 58] ++ (List.replicate k 32 ++ (printL lo.data.toList d.data.toList ++ []))) := by simp [ByteArray.data_append, hb, hp]
  rw [e, h]; rfl
theorem pln2 (z : ByteArray) (n : Nat) (hz : z.data.toList = Lib.decDigits n) (hn : n ≤ 999999999) : parseL (⟨#[109, 97, 105, 108, 32, 102, 114, 111, 109, 58]⟩ ++ b ++ p ++ ⟨#[32, 83, 73, 90, 69, 61]⟩ ++ z : ByteArray).data.toList = (3, [], lo.data.toList, d.data.toList, (n : Int), 0) := by
  obtain ⟨d1, d2⟩ := dec_ok hn
  obtain ⟨d3, _, d4⟩ := dec_all n n (Nat.le_refl _)
  have h := mail_line (h := [109, 97, 105, 108]) (fw := [102, 114, 111, 109, 58]) (by decide +kernel) (by decide +kernel) (by decide +kernel) (by decide +kernel) k hr ([32, 83, 73, 90, 69, 61] ++ Lib.decDigits n)
    (by rw [List.all_append, digits_visible d3]; decide +kernel) (fun c hc => by
      cases hl : (Lib.decDigits n).getLast? with
      | none => exact absurd (List.getLast?_eq_none_iff.1 hl) d4
      | some x =>
        rw [List.getLast?_append, hl] at hc
        simp at hc
        subst hc
        exact digit_last d3 hl)
  have e : (⟨#[109, 97, 105, 108, 32, 102, 114, 111, 109, 58]⟩ ++ b ++ p ++ ⟨#[32, 83, 73, 90, 69, 61]⟩ ++ z : ByteArray).data.toList = [109, 97, 105, 108] ++ 32 :: ([102, 114, 111, 109, 58] ++ (List.replicate k 32 ++ (printL lo.data.toList d.data.toList ++ ([32, 83, 73, 90, 69, 61] ++ Lib.decDigits n)))) := by simp [ByteArray.data_append, hb, hp, hz]
  have hf : frontL ([32, 83, 73, 90, 69, 61] ++ Lib.decDigits n) ahead = true := by
    unfold frontL
    rw [show ahead.length = ([32, 83, 73, 90, 69, 61] : List UInt8).length from rfl, List.take_left]
    simp; decide +kernel
  obtain ⟨s1, s2⟩ := size_digits hf
  have hd : ([32, 83, 73, 90, 69, 61] ++ Lib.decDigits n).drop 6 = Lib.decDigits n := rfl
  rw [hd, d1] at s1
  rw [hd, d2] at s2
  rw [e, h]
  show (if sizeB ([32, 83, 73, 90, 69, 61] ++ Lib.decDigits n) = true then (3, [], lo.data.toList, d.data.toList, (sizeR ([32, 83, 73, 90, 69, 61] ++ Lib.decDigits n)).1, 0) else cmdE 555) = _
  rw [s1, if_pos rfl, s2 d1]
theorem pln3 (hn : nullB lo.data.toList d.data.toList = false) : parseL (⟨#[82, 67, 80, 84, 32, 84, 79, 58]⟩ ++ b ++ p : ByteArray).data.toList = (4, [], lo.data.toList, d.data.toList, 0, 0) := by
  have h := rcpt_line (h := [82, 67, 80, 84]) (fw := [84, 79, 58]) (by decide +kernel) (by decide +kernel) (by decide +kernel) (by decide +kernel) k hr [] rfl (fun _ h => by cases h)
  have e : (⟨#[82, 67, 80, 84, 32, 84, 79, 58]⟩ ++ b ++ p : ByteArray).data.toList = [82, 67, 80, 84] ++ 32 :: ([84, 79, 58] ++ (List.replicate k 32 ++ (printL lo.data.toList d.data.toList ++ []))) := by simp [ByteArray.data_append, hb, hp]
  rw [e, h]
  show (if nullB lo.data.toList d.data.toList = true then cmdE 501 else _) = _
  rw [hn]; rfl
theorem pln3n (hn : nullB lo.data.toList d.data.toList = true) : parseL (⟨#[82, 67, 80, 84, 32, 84, 79, 58]⟩ ++ b ++ p : ByteArray).data.toList = cmdE 501 := by
  have h := rcpt_line (h := [82, 67, 80, 84]) (fw := [84, 79, 58]) (by decide +kernel) (by decide +kernel) (by decide +kernel) (by decide +kernel) k hr [] rfl (fun _ h => by cases h)
  have e : (⟨#[82, 67, 80, 84, 32, 84, 79, 58]⟩ ++ b ++ p : ByteArray).data.toList = [82, 67, 80, 84] ++ 32 :: ([84, 79, 58] ++ (List.replicate k 32 ++ (printL lo.data.toList d.data.toList ++ []))) := by simp [ByteArray.data_append, hb, hp]
  rw [e, h]
  show (if nullB lo.data.toList d.data.toList = true then cmdE 501 else _) = _
  rw [hn]; rfl
end
section
variable {lo d p : ByteArray} (hp : p.data.toList = printL lo.data.toList d.data.toList) (hr : rightB lo.data.toList d.data.toList = true)
include hp hr
theorem pln4 : parseL (⟨#[77, 65, 73, 76, 32, 70, 82, 79, 77, 58]⟩ ++ p ++ ⟨#[32, 66, 79, 68, 89, 61, 55, 66, 73, 84]⟩ : ByteArray).data.toList = cmdE 555 := by
  have h := mail_line (h := [77, 65, 73, 76]) (fw := [70, 82, 79, 77, 58]) (by decide +kernel) (by decide +kernel) (by decide +kernel) (by decide +kernel) 0 hr [32, 66, 79, 68, 89, 61, 55, 66, 73, 84] (by decide +kernel) (fun c hc => by simp at hc; subst hc; decide)
  have e : (⟨#[77, 65, 73, 76, 32, 70, 82, 79, 77, 58]⟩ ++ p ++ ⟨#[32, 66, 79, 68, 89, 61, 55, 66, 73, 84]⟩ : ByteArray).data.toList = [77, 65, 73, 76] ++ 32 :: ([70, 82, 79, 77, 58] ++ (List.replicate 0 32 ++ (printL lo.data.toList d.data.toList ++ [32, 66, 79, 68, 89, 61, 55, 66, 73, 84]))) := by simp [ByteArray.data_append, hp]
  have hs : sizeB [32, 66, 79, 68, 89, 61, 55, 66, 73, 84] = false := size_nofront (by decide +kernel)
  rw [e, h]
  show (if sizeB [32, 66, 79, 68, 89, 61, 55, 66, 73, 84] = true then ((3, [], lo.data.toList, d.data.toList, (sizeR [32, 66, 79, 68, 89, 61, 55, 66, 73, 84]).1, 0) : CmdR) else cmdE 555) = _
  rw [hs]; rfl
theorem pln6 : parseL (⟨#[77, 65, 73, 76, 32, 70, 82, 79, 77, 58]⟩ ++ p ++ ⟨#[120]⟩ : ByteArray).data.toList = cmdE 501 := by
  have h := mail_line (h := [77, 65, 73, 76]) (fw := [70, 82, 79, 77, 58]) (by decide +kernel) (by decide +kernel) (by decide +kernel) (by decide +kernel) 0 hr [120] (by decide +kernel) (fun c hc => by simp at hc; subst hc; decide)
  have e : (⟨#[77, 65, 73, 76, 32, 70, 82, 79, 77, 58]⟩ ++ p ++ ⟨#[120]⟩ : ByteArray).data.toList = [77, 65, 73, 76] ++ 32 :: ([70, 82, 79, 77, 58] ++ (List.replicate 0 32 ++ (printL lo.data.toList d.data.toList ++ [120]))) := by simp [ByteArray.data_append, hp]
  rw [e, h]; rfl
theorem pln5 : parseL (⟨#[82, 67, 80, 84, 32, 70, 82, 79, 77, 58]⟩ ++ p : ByteArray).data.toList = cmdE 501 := by
  obtain ⟨h1, b, h2, h3⟩ := tail_vis (fw := [70, 82, 79, 77, 58]) (tail := []) (by decide +kernel) 0 hr rfl (fun _ h => by cases h)
  have e : (⟨#[82, 67, 80, 84, 32, 70, 82, 79, 77, 58]⟩ ++ p : ByteArray).data.toList = [82, 67, 80, 84] ++ 32 :: ([70, 82, 79, 77, 58] ++ (List.replicate 0 32 ++ (printL lo.data.toList d.data.toList ++ []))) := by simp [ByteArray.data_append, hp]
  rw [e, line_cut2 [82, 67, 80, 84] _ (by decide +kernel) h1 b h2 h3, show kindL (lower [82, 67, 80, 84]) = 4 from by decide +kernel]
  have hw4 : ∀ a m r, wordsL 4 a m r = rcptL r := fun _ _ _ => rfl
  rw [hw4]
  have hc : cpathL (32 :: ([70, 82, 79, 77, 58] ++ (List.replicate 0 32 ++ (printL lo.data.toList d.data.toList ++ [])))) toT = ([], [], [], false) := by
    unfold cpathL
    have : frontL (32 :: ([70, 82, 79, 77, 58] ++ (List.replicate 0 32 ++ (printL lo.data.toList d.data.toList ++ [])))) toT = false := by
      unfold frontL
      rw [show (32 :: ([70, 82, 79, 77, 58] ++ (List.replicate 0 32 ++ (printL lo.data.toList d.data.toList ++ [])))).take toT.length = [32, 70, 82, 79] from rfl]
      rw [show ((lower [32, 70, 82, 79] == toT) : Bool) = false from by decide +kernel, Bool.and_false]
    rw [this]; rfl
  unfold rcptL
  rw [hc]; rfl
end

set_option maxHeartbeats 8000000 in
set_option maxRecDepth 100000 in
theorem cmdPaths_null (n k : Nat) (hn : n ≤ 999999999) (hk : k ≤ 20) (w : World) (hGL : GL w) :
    Calls Tryz.prog 8 #[.agg #[.string ⟨#[]⟩, .string ⟨#[]⟩], .int .i64 (n : Int), .int .i64 (k : Int)] w fun e w' => e = .returned (.bool true) ∧ Below w.heap.size w w' := by
  have hr : rightB (⟨#[]⟩ : ByteArray).data.toList (⟨#[]⟩ : ByteArray).data.toList = true := rfl
  have hne : nullB (⟨#[]⟩ : ByteArray).data.toList (⟨#[]⟩ : ByteArray).data.toList = true := rfl
  have ck := fun W (hW : GL W) => known_any W hW
  have cr := fun W (hW : GL W) => right_any ⟨#[]⟩ ⟨#[]⟩ (by decide) (by decide) W hW
  rw [hr] at cr
  have cp := fun W (hW : GL W) => print_any ⟨#[]⟩ ⟨#[]⟩ (by decide) (by decide) W hW
  have cz := fun W => dec15_any n hn W
  obtain ⟨p, hp0⟩ : ∃ p : ByteArray, p = ⟨(printL (⟨#[]⟩ : ByteArray).data.toList (⟨#[]⟩ : ByteArray).data.toList).toArray⟩ := ⟨_, rfl⟩
  obtain ⟨z, hz0⟩ : ∃ z : ByteArray, z = ⟨(Lib.decDigits n).toArray⟩ := ⟨_, rfl⟩
  rw [← hp0] at cp
  rw [← hz0] at cz
  have hp : p.data.toList = printL (⟨#[]⟩ : ByteArray).data.toList (⟨#[]⟩ : ByteArray).data.toList := by rw [hp0]
  have hz : z.data.toList = Lib.decDigits n := by rw [hz0]
  have hpz : p.size ≤ 256 := by rw [← len_eq, hp]; exact printL_len _ _
  have hzz : z.size ≤ 9 := by rw [← len_eq, hz]; exact dec_len hn
  have eL : (⟨(⟨#[]⟩ : ByteArray).data.toList.toArray⟩ : ByteArray) = ⟨#[]⟩ := (bstr rfl).symm
  have eD : (⟨(⟨#[]⟩ : ByteArray).data.toList.toArray⟩ : ByteArray) = ⟨#[]⟩ := (bstr rfl).symm
  have HF : Hid (∀ b : ByteArray, b.data.toList = List.replicate k 32 → b.size ≤ 20 →
      (∀ W, GL W → Calls Tryz.prog 26 #[.string (⟨#[77, 65, 73, 76, 32, 70, 82, 79, 77, 58]⟩ ++ b ++ p)] W fun e w' => e = .returned (.tuple #[.agg #[.int .i64 3, .string ⟨#[]⟩, .string ⟨#[]⟩, .string ⟨#[]⟩, .int .i64 (-1)], .int .i64 0]) ∧ Below W.heap.size W w') ∧
      (∀ W, GL W → Calls Tryz.prog 26 #[.string (⟨#[109, 97, 105, 108, 32, 102, 114, 111, 109, 58]⟩ ++ b ++ p ++ ⟨#[32, 83, 73, 90, 69, 61]⟩ ++ z)] W fun e w' => e = .returned (.tuple #[.agg #[.int .i64 3, .string ⟨#[]⟩, .string ⟨#[]⟩, .string ⟨#[]⟩, .int .i64 (n : Int)], .int .i64 0]) ∧ Below W.heap.size W w') ∧
      (∀ W, GL W → Calls Tryz.prog 26 #[.string (⟨#[82, 67, 80, 84, 32, 84, 79, 58]⟩ ++ b ++ p)] W fun e w' => e = .returned (.tuple #[.agg #[.int .i64 0, .string ⟨#[]⟩, .string ⟨#[]⟩, .string ⟨#[]⟩, .int .i64 0], .int .i64 501]) ∧ Below W.heap.size W w')) := Lib.hid (fun b hb hbz => by
    refine ⟨fun W hW => ?_, fun W hW => ?_, fun W hW => ?_⟩
    · have h := parse_any (⟨#[77, 65, 73, 76, 32, 70, 82, 79, 77, 58]⟩ ++ b ++ p) (by simp only [ByteArray.size_append]; show 10 + _ + _ ≤ _; omega) W hW
      rw [pln1 hb hp hr] at h
      simp only [cmdV] at h
      exact h
    · have h := parse_any (⟨#[109, 97, 105, 108, 32, 102, 114, 111, 109, 58]⟩ ++ b ++ p ++ ⟨#[32, 83, 73, 90, 69, 61]⟩ ++ z) (by simp only [ByteArray.size_append]; show 10 + _ + _ + 6 + _ ≤ _; omega) W hW
      rw [pln2 hb hp hr z n hz hn] at h
      simp only [cmdV] at h
      exact h
    · have h := parse_any (⟨#[82, 67, 80, 84, 32, 84, 79, 58]⟩ ++ b ++ p) (by simp only [ByteArray.size_append]; show 8 + _ + _ ≤ _; omega) W hW
      rw [pln3n hb hp hr hne] at h
      simp only [cmdV, cmdE] at h
      exact h)
  have c4 := fun W (hW : GL W) => parse_any (⟨#[77, 65, 73, 76, 32, 70, 82, 79, 77, 58]⟩ ++ p ++ ⟨#[32, 66, 79, 68, 89, 61, 55, 66, 73, 84]⟩) (by simp only [ByteArray.size_append]; show 10 + _ + 10 ≤ _; omega) W hW
  rw [pln4 hp hr] at c4
  change ∀ W, GL W → Calls _ _ _ W (fun e w' => e = .returned (.tuple #[.agg #[.int .i64 0, .string ⟨#[]⟩, .string ⟨#[]⟩, .string ⟨#[]⟩, .int .i64 0], .int .i64 555]) ∧ _) at c4
  have c5 := fun W (hW : GL W) => parse_any (⟨#[82, 67, 80, 84, 32, 70, 82, 79, 77, 58]⟩ ++ p) (by simp only [ByteArray.size_append]; show 10 + _ ≤ _; omega) W hW
  rw [pln5 hp hr] at c5
  change ∀ W, GL W → Calls _ _ _ W (fun e w' => e = .returned (.tuple #[.agg #[.int .i64 0, .string ⟨#[]⟩, .string ⟨#[]⟩, .string ⟨#[]⟩, .int .i64 0], .int .i64 501]) ∧ _) at c5
  have c6 := fun W (hW : GL W) => parse_any (⟨#[77, 65, 73, 76, 32, 70, 82, 79, 77, 58]⟩ ++ p ++ ⟨#[120]⟩) (by simp only [ByteArray.size_append]; show 10 + _ + 1 ≤ _; omega) W hW
  rw [pln6 hp hr] at c6
  change ∀ W, GL W → Calls _ _ _ W (fun e w' => e = .returned (.tuple #[.agg #[.int .i64 0, .string ⟨#[]⟩, .string ⟨#[]⟩, .string ⟨#[]⟩, .int .i64 0], .int .i64 501]) ∧ _) at c6
  have i2 : ¬ (999999999 : Int) < (n : Int) := by omega
  have i3 : ¬ (20 : Int) < (k : Int) := by omega
  clear hp hz hp0 hz0 eL eD hr hne
  go_enter Tryz.func8, Tryz.ntmps8
  go_wp2_with (first | (go_at_call 25; refine (ck _ (hGL.step (belowA (Below.refl _ _) _))).mono ?_; rintro e w1 ⟨rfl, HB1⟩; have A1 := Lib.hid (ad_new HB1); have B1 := Lib.hid (belowT (belowA (Below.refl _ _) _) HB1); have a10 := A1.out.c0; have a11 := A1.out.c1) | (go_at_call 28; refine (cr _ (hGL.step B1.out)).mono ?_; rintro e w2 ⟨rfl, HB2⟩; have A2 := Lib.hid (A1.out.below HB2); have B2 := Lib.hid (belowT B1.out HB2); have a20 := A2.out.c0; have a21 := A2.out.c1; clear a10 a11))
  clear ck cr
  go_loop [7, 8] (fun v i => ∃ (j : Nat) (b : ByteArray), j ≤ k ∧ i = .int .i64 (j : Int) ∧ v = .string b ∧ b.size ≤ 20 ∧ b.size = j ∧ Hid (b.data.toList = List.replicate j 32)) (fun _ i => k - (intOf i).toNat)
  case atStart => exact ⟨0, _, Nat.zero_le _, rfl, rfl, by decide, rfl, Lib.hid rfl⟩
  case round =>
    obtain ⟨j, b, hj, rfl, rfl, hbz, hbj, HBl⟩ := hrel
    by_cases hlt : j < k
    · have i4 : (j : Int) < (k : Int) := by omega
      have HS : Hid ((b ++ ⟨#[32]⟩ : ByteArray).size = j + 1) := Lib.hid (by rw [size_snoc, hbj])
      have HN : Hid ((b ++ ⟨#[32]⟩ : ByteArray).data.toList = List.replicate (j + 1) 32) := Lib.hid (by rw [list_snoc, HBl.out, List.replicate_succ'])
      clear hbj
      go_wp2
      go_round
      case rel => exact ⟨j + 1, b ++ ⟨#[32]⟩, by omega, by go_num, rfl, by rw [HS.out]; omega, HS.out, HN⟩
      case measure => simp [intOf]; omega
    · have i4 : ¬ (j : Int) < (k : Int) := by omega
      obtain rfl : j = k := by omega
      obtain ⟨c1, c2, c3⟩ := HF.out b HBl.out hbz
      clear HF hbj hj hlt
      go_wp2_with fail
      refine (cp _ (hGL.step B2.out)).mono ?_
      rintro e w3 ⟨rfl, HB3⟩
      have A3 := Lib.hid (A2.out.below HB3)
      have B3 := Lib.hid (belowT B2.out HB3)
      clear a20 a21
      go_wp2_with fail
      refine (c1 _ (hGL.step B3.out)).mono ?_
      rintro e w4 ⟨rfl, HB4⟩
      have A4 := Lib.hid (A3.out.below HB4)
      have B4 := Lib.hid (belowT B3.out HB4)
      clear c1
      go_wp2_with fail
      refine (cz _).mono ?_
      rintro e w5 ⟨rfl, HB5⟩
      have A5 := Lib.hid ((A4.out.alloc _).below HB5)
      have X5 := Lib.hid (cm_new HB5)
      have B5 := Lib.hid (belowT (belowA B4.out _) HB5)
      go_wp2_with fail
      refine (c2 _ (hGL.step B5.out)).mono ?_
      rintro e w6 ⟨rfl, HB6⟩
      have A6 := Lib.hid (A5.out.below HB6)
      have X6 := Lib.hid (X5.out.below HB6)
      have B6 := Lib.hid (belowT B5.out HB6)
      clear c2
      go_wp2_with fail
      refine (c3 _ (hGL.step (belowA B6.out _))).mono ?_
      rintro e w7 ⟨rfl, HB7⟩
      have A7 := Lib.hid ((A6.out.alloc _).below HB7)
      have X7 := Lib.hid ((X6.out.alloc _).below HB7)
      have Y7 := Lib.hid (cm_new HB7)
      have B7 := Lib.hid (belowT (belowA B6.out _) HB7)
      clear c3
      go_wp2_with fail
      refine (c4 _ (hGL.step (belowA B7.out _))).mono ?_
      rintro e w8 ⟨rfl, HB8⟩
      have A8 := Lib.hid ((A7.out.alloc _).below HB8)
      have X8 := Lib.hid ((X7.out.alloc _).below HB8)
      have Y8 := Lib.hid ((Y7.out.alloc _).below HB8)
      have Z8 := Lib.hid (cm_new HB8)
      have B8 := Lib.hid (belowT (belowA B7.out _) HB8)
      clear c4
      go_wp2_with fail
      refine (c5 _ (hGL.step (belowA B8.out _))).mono ?_
      rintro e w9 ⟨rfl, HB9⟩
      have A9 := Lib.hid ((A8.out.alloc _).below HB9)
      have X9 := Lib.hid ((X8.out.alloc _).below HB9)
      have Y9 := Lib.hid ((Y8.out.alloc _).below HB9)
      have Z9 := Lib.hid ((Z8.out.alloc _).below HB9)
      have B9 := Lib.hid (belowT (belowA B8.out _) HB9)
      clear c5
      go_wp2_with fail
      refine (c6 _ (hGL.step (belowA B9.out _))).mono ?_
      rintro e w10 ⟨rfl, HB10⟩
      have A10 := Lib.hid ((A9.out.alloc _).below HB10)
      have X10 := Lib.hid ((X9.out.alloc _).below HB10)
      have Y10 := Lib.hid ((Y9.out.alloc _).below HB10)
      have Z10 := Lib.hid ((Z9.out.alloc _).below HB10)
      have B10 := Lib.hid (belowT (belowA B9.out _) HB10)
      have x2 := (fun o => (X10.out.alloc o).c2)
      have x3 := (fun o => (X10.out.alloc o).c3)
      have x4 := (fun o => (X10.out.alloc o).c4)
      have y2 := (fun o => (Y10.out.alloc o).c2)
      have y3 := (fun o => (Y10.out.alloc o).c3)
      have y4 := (fun o => (Y10.out.alloc o).c4)
      have z0 := (fun o => (Z10.out.alloc o).c0)
      have z2 := (fun o => (Z10.out.alloc o).c2)
      have z3 := (fun o => (Z10.out.alloc o).c3)
      have a0 := (fun o => (A10.out.alloc o).c0)
      have a1 := (fun o => (A10.out.alloc o).c1)
      clear c6
      go_wp2
      go_ret
      exact ⟨rfl, belowA B10.out _⟩

set_option maxHeartbeats 8000000 in
set_option maxRecDepth 100000 in
theorem cmdPaths_some (lo d : ByteArray) (hl : lo.size ≤ 300) (hd : d.size ≤ 600) (hr : rightB lo.data.toList d.data.toList = true) (hne : nullB lo.data.toList d.data.toList = false) (g1 : ¬ lo.toList = []) (n k : Nat) (hn : n ≤ 999999999) (hk : k ≤ 20) (w : World) (hGL : GL w) :
    Calls Tryz.prog 8 #[.agg #[.string lo, .string d], .int .i64 (n : Int), .int .i64 (k : Int)] w fun e w' => e = .returned (.bool true) ∧ Below w.heap.size w w' := by
  have ck := fun W (hW : GL W) => known_any W hW
  have cr := fun W (hW : GL W) => right_any lo d (by omega) (by omega) W hW
  rw [hr] at cr
  have cp := fun W (hW : GL W) => print_any lo d (by omega) (by omega) W hW
  have cz := fun W => dec15_any n hn W
  obtain ⟨p, hp0⟩ : ∃ p : ByteArray, p = ⟨(printL (lo : ByteArray).data.toList (d : ByteArray).data.toList).toArray⟩ := ⟨_, rfl⟩
  obtain ⟨z, hz0⟩ : ∃ z : ByteArray, z = ⟨(Lib.decDigits n).toArray⟩ := ⟨_, rfl⟩
  rw [← hp0] at cp
  rw [← hz0] at cz
  have hp : p.data.toList = printL (lo : ByteArray).data.toList (d : ByteArray).data.toList := by rw [hp0]
  have hz : z.data.toList = Lib.decDigits n := by rw [hz0]
  have hpz : p.size ≤ 256 := by rw [← len_eq, hp]; exact printL_len _ _
  have hzz : z.size ≤ 9 := by rw [← len_eq, hz]; exact dec_len hn
  have eL : (⟨(lo : ByteArray).data.toList.toArray⟩ : ByteArray) = lo := (bstr rfl).symm
  have eD : (⟨(d : ByteArray).data.toList.toArray⟩ : ByteArray) = d := (bstr rfl).symm
  have HF : Hid (∀ b : ByteArray, b.data.toList = List.replicate k 32 → b.size ≤ 20 →
      (∀ W, GL W → Calls Tryz.prog 26 #[.string (⟨#[77, 65, 73, 76, 32, 70, 82, 79, 77, 58]⟩ ++ b ++ p)] W fun e w' => e = .returned (.tuple #[.agg #[.int .i64 3, .string ⟨#[]⟩, .string lo, .string d, .int .i64 (-1)], .int .i64 0]) ∧ Below W.heap.size W w') ∧
      (∀ W, GL W → Calls Tryz.prog 26 #[.string (⟨#[109, 97, 105, 108, 32, 102, 114, 111, 109, 58]⟩ ++ b ++ p ++ ⟨#[32, 83, 73, 90, 69, 61]⟩ ++ z)] W fun e w' => e = .returned (.tuple #[.agg #[.int .i64 3, .string ⟨#[]⟩, .string lo, .string d, .int .i64 (n : Int)], .int .i64 0]) ∧ Below W.heap.size W w') ∧
      (∀ W, GL W → Calls Tryz.prog 26 #[.string (⟨#[82, 67, 80, 84, 32, 84, 79, 58]⟩ ++ b ++ p)] W fun e w' => e = .returned (.tuple #[.agg #[.int .i64 4, .string ⟨#[]⟩, .string lo, .string d, .int .i64 0], .int .i64 0]) ∧ Below W.heap.size W w')) := Lib.hid (fun b hb hbz => by
    refine ⟨fun W hW => ?_, fun W hW => ?_, fun W hW => ?_⟩
    · have h := parse_any (⟨#[77, 65, 73, 76, 32, 70, 82, 79, 77, 58]⟩ ++ b ++ p) (by simp only [ByteArray.size_append]; show 10 + _ + _ ≤ _; omega) W hW
      rw [pln1 hb hp hr] at h
      simp only [cmdV, eL, eD] at h
      exact h
    · have h := parse_any (⟨#[109, 97, 105, 108, 32, 102, 114, 111, 109, 58]⟩ ++ b ++ p ++ ⟨#[32, 83, 73, 90, 69, 61]⟩ ++ z) (by simp only [ByteArray.size_append]; show 10 + _ + _ + 6 + _ ≤ _; omega) W hW
      rw [pln2 hb hp hr z n hz hn] at h
      simp only [cmdV, eL, eD] at h
      exact h
    · have h := parse_any (⟨#[82, 67, 80, 84, 32, 84, 79, 58]⟩ ++ b ++ p) (by simp only [ByteArray.size_append]; show 8 + _ + _ ≤ _; omega) W hW
      rw [pln3 hb hp hr hne] at h
      simp only [cmdV, eL, eD] at h
      exact h)
  have c4 := fun W (hW : GL W) => parse_any (⟨#[77, 65, 73, 76, 32, 70, 82, 79, 77, 58]⟩ ++ p ++ ⟨#[32, 66, 79, 68, 89, 61, 55, 66, 73, 84]⟩) (by simp only [ByteArray.size_append]; show 10 + _ + 10 ≤ _; omega) W hW
  rw [pln4 hp hr] at c4
  change ∀ W, GL W → Calls _ _ _ W (fun e w' => e = .returned (.tuple #[.agg #[.int .i64 0, .string ⟨#[]⟩, .string ⟨#[]⟩, .string ⟨#[]⟩, .int .i64 0], .int .i64 555]) ∧ _) at c4
  have c5 := fun W (hW : GL W) => parse_any (⟨#[82, 67, 80, 84, 32, 70, 82, 79, 77, 58]⟩ ++ p) (by simp only [ByteArray.size_append]; show 10 + _ ≤ _; omega) W hW
  rw [pln5 hp hr] at c5
  change ∀ W, GL W → Calls _ _ _ W (fun e w' => e = .returned (.tuple #[.agg #[.int .i64 0, .string ⟨#[]⟩, .string ⟨#[]⟩, .string ⟨#[]⟩, .int .i64 0], .int .i64 501]) ∧ _) at c5
  have c6 := fun W (hW : GL W) => parse_any (⟨#[77, 65, 73, 76, 32, 70, 82, 79, 77, 58]⟩ ++ p ++ ⟨#[120]⟩) (by simp only [ByteArray.size_append]; show 10 + _ + 1 ≤ _; omega) W hW
  rw [pln6 hp hr] at c6
  change ∀ W, GL W → Calls _ _ _ W (fun e w' => e = .returned (.tuple #[.agg #[.int .i64 0, .string ⟨#[]⟩, .string ⟨#[]⟩, .string ⟨#[]⟩, .int .i64 0], .int .i64 501]) ∧ _) at c6
  have i2 : ¬ (999999999 : Int) < (n : Int) := by omega
  have i3 : ¬ (20 : Int) < (k : Int) := by omega
  have i0 : ¬ (300 : Int) < (lo.size : Int) := by omega
  have i1 : ¬ (600 : Int) < (d.size : Int) := by omega
  clear hp hz hp0 hz0 eL eD hr hne
  go_enter Tryz.func8, Tryz.ntmps8
  go_wp2_with (first | (go_at_call 25; refine (ck _ (hGL.step (belowA (Below.refl _ _) _))).mono ?_; rintro e w1 ⟨rfl, HB1⟩; have A1 := Lib.hid (ad_new HB1); have B1 := Lib.hid (belowT (belowA (Below.refl _ _) _) HB1); have a10 := A1.out.c0; have a11 := A1.out.c1) | (go_at_call 28; refine (cr _ (hGL.step B1.out)).mono ?_; rintro e w2 ⟨rfl, HB2⟩; have A2 := Lib.hid (A1.out.below HB2); have B2 := Lib.hid (belowT B1.out HB2); have a20 := A2.out.c0; have a21 := A2.out.c1; clear a10 a11))
  clear ck cr
  go_loop [7, 8] (fun v i => ∃ (j : Nat) (b : ByteArray), j ≤ k ∧ i = .int .i64 (j : Int) ∧ v = .string b ∧ b.size ≤ 20 ∧ b.size = j ∧ Hid (b.data.toList = List.replicate j 32)) (fun _ i => k - (intOf i).toNat)
  case atStart => exact ⟨0, _, Nat.zero_le _, rfl, rfl, by decide, rfl, Lib.hid rfl⟩
  case round =>
    obtain ⟨j, b, hj, rfl, rfl, hbz, hbj, HBl⟩ := hrel
    by_cases hlt : j < k
    · have i4 : (j : Int) < (k : Int) := by omega
      have HS : Hid ((b ++ ⟨#[32]⟩ : ByteArray).size = j + 1) := Lib.hid (by rw [size_snoc, hbj])
      have HN : Hid ((b ++ ⟨#[32]⟩ : ByteArray).data.toList = List.replicate (j + 1) 32) := Lib.hid (by rw [list_snoc, HBl.out, List.replicate_succ'])
      clear hbj
      go_wp2
      go_round
      case rel => exact ⟨j + 1, b ++ ⟨#[32]⟩, by omega, by go_num, rfl, by rw [HS.out]; omega, HS.out, HN⟩
      case measure => simp [intOf]; omega
    · have i4 : ¬ (j : Int) < (k : Int) := by omega
      obtain rfl : j = k := by omega
      obtain ⟨c1, c2, c3⟩ := HF.out b HBl.out hbz
      clear HF hbj hj hlt
      go_wp2_with fail
      refine (cp _ (hGL.step B2.out)).mono ?_
      rintro e w3 ⟨rfl, HB3⟩
      have A3 := Lib.hid (A2.out.below HB3)
      have B3 := Lib.hid (belowT B2.out HB3)
      clear a20 a21
      go_wp2_with fail
      refine (c1 _ (hGL.step B3.out)).mono ?_
      rintro e w4 ⟨rfl, HB4⟩
      have A4 := Lib.hid (A3.out.below HB4)
      have B4 := Lib.hid (belowT B3.out HB4)
      clear c1
      go_wp2_with fail
      refine (cz _).mono ?_
      rintro e w5 ⟨rfl, HB5⟩
      have A5 := Lib.hid ((A4.out.alloc _).below HB5)
      have X5 := Lib.hid (cm_new HB5)
      have B5 := Lib.hid (belowT (belowA B4.out _) HB5)
      go_wp2_with fail
      refine (c2 _ (hGL.step B5.out)).mono ?_
      rintro e w6 ⟨rfl, HB6⟩
      have A6 := Lib.hid (A5.out.below HB6)
      have X6 := Lib.hid (X5.out.below HB6)
      have B6 := Lib.hid (belowT B5.out HB6)
      clear c2
      go_wp2_with fail
      refine (c3 _ (hGL.step (belowA B6.out _))).mono ?_
      rintro e w7 ⟨rfl, HB7⟩
      have A7 := Lib.hid ((A6.out.alloc _).below HB7)
      have X7 := Lib.hid ((X6.out.alloc _).below HB7)
      have Y7 := Lib.hid (cm_new HB7)
      have B7 := Lib.hid (belowT (belowA B6.out _) HB7)
      clear c3
      go_wp2_with fail
      refine (c4 _ (hGL.step (belowA B7.out _))).mono ?_
      rintro e w8 ⟨rfl, HB8⟩
      have A8 := Lib.hid ((A7.out.alloc _).below HB8)
      have X8 := Lib.hid ((X7.out.alloc _).below HB8)
      have Y8 := Lib.hid ((Y7.out.alloc _).below HB8)
      have Z8 := Lib.hid (cm_new HB8)
      have B8 := Lib.hid (belowT (belowA B7.out _) HB8)
      clear c4
      go_wp2_with fail
      refine (c5 _ (hGL.step (belowA B8.out _))).mono ?_
      rintro e w9 ⟨rfl, HB9⟩
      have A9 := Lib.hid ((A8.out.alloc _).below HB9)
      have X9 := Lib.hid ((X8.out.alloc _).below HB9)
      have Y9 := Lib.hid ((Y8.out.alloc _).below HB9)
      have Z9 := Lib.hid ((Z8.out.alloc _).below HB9)
      have B9 := Lib.hid (belowT (belowA B8.out _) HB9)
      clear c5
      go_wp2_with fail
      refine (c6 _ (hGL.step (belowA B9.out _))).mono ?_
      rintro e w10 ⟨rfl, HB10⟩
      have A10 := Lib.hid ((A9.out.alloc _).below HB10)
      have X10 := Lib.hid ((X9.out.alloc _).below HB10)
      have Y10 := Lib.hid ((Y9.out.alloc _).below HB10)
      have Z10 := Lib.hid ((Z9.out.alloc _).below HB10)
      have B10 := Lib.hid (belowT (belowA B9.out _) HB10)
      have x2 := (fun o => (X10.out.alloc o).c2)
      have x3 := (fun o => (X10.out.alloc o).c3)
      have x4 := (fun o => (X10.out.alloc o).c4)
      have y2 := (fun o => (Y10.out.alloc o).c2)
      have y3 := (fun o => (Y10.out.alloc o).c3)
      have y4 := (fun o => (Y10.out.alloc o).c4)
      have z0 := (fun o => (Z10.out.alloc o).c0)
      have z2 := (fun o => (Z10.out.alloc o).c2)
      have z3 := (fun o => (Z10.out.alloc o).c3)
      have a0 := (fun o => (A10.out.alloc o).c0)
      have a1 := (fun o => (A10.out.alloc o).c1)
      clear c6
      go_wp2
      go_ret
      exact ⟨rfl, belowA B10.out _⟩

set_option maxHeartbeats 4000000 in
set_option maxRecDepth 100000 in
theorem cmdPaths_out (lo d : ByteArray) (n k : Int) (h : 300 < lo.size ∨ (lo.size ≤ 300 ∧ (600 < d.size ∨ (d.size ≤ 600 ∧ (rightB lo.data.toList d.data.toList = false ∨ (rightB lo.data.toList d.data.toList = true ∧ (n < 0 ∨ (0 ≤ n ∧ (999999999 < n ∨ (n ≤ 999999999 ∧ (k < 0 ∨ (0 ≤ k ∧ 20 < k)))))))))))) (w : World) (hGL : GL w) :
    Calls Tryz.prog 8 #[.agg #[.string lo, .string d], .int .i64 n, .int .i64 k] w fun e w' => e = .returned (.bool true) ∧ Below w.heap.size w w' := by
  have ck := fun W (hW : GL W) => known_any W hW
  rcases h with i0 | ⟨i0, i1 | ⟨i1, h⟩⟩
  · have j0 : (300 : Int) < (lo.size : Int) := by omega
    go_enter Tryz.func8, Tryz.ntmps8
    go_wp2_with (go_at_call 25; refine (ck _ (hGL.step (belowA (Below.refl _ _) _))).mono ?_; rintro e w1 ⟨rfl, HB1⟩; have A1 := ad_new HB1; have a10 := A1.c0; have a11 := A1.c1; clear A1)
    go_ret
    exact ⟨rfl, belowT (belowA (Below.refl _ _) _) HB1⟩
  · have j0 : ¬ (300 : Int) < (lo.size : Int) := by omega
    have j1 : (600 : Int) < (d.size : Int) := by omega
    go_enter Tryz.func8, Tryz.ntmps8
    go_wp2_with (go_at_call 25; refine (ck _ (hGL.step (belowA (Below.refl _ _) _))).mono ?_; rintro e w1 ⟨rfl, HB1⟩; have A1 := ad_new HB1; have a10 := A1.c0; have a11 := A1.c1; clear A1)
    go_ret
    exact ⟨rfl, belowT (belowA (Below.refl _ _) _) HB1⟩
  · have j0 : ¬ (300 : Int) < (lo.size : Int) := by omega
    have j1 : ¬ (600 : Int) < (d.size : Int) := by omega
    have cr := fun W (hW : GL W) => right_any lo d (by omega) (by omega) W hW
    rcases h with hr | ⟨hr, h⟩
    · rw [hr] at cr
      clear hr
      go_enter Tryz.func8, Tryz.ntmps8
      go_wp2_with (first | (go_at_call 25; refine (ck _ (hGL.step (belowA (Below.refl _ _) _))).mono ?_; rintro e w1 ⟨rfl, HB1⟩; have A1 := ad_new HB1; have a10 := A1.c0; have a11 := A1.c1; clear A1; have B1 := Lib.hid (belowT (belowA (Below.refl _ _) _) HB1)) | (go_at_call 28; refine (cr _ (hGL.step B1.out)).mono ?_; rintro e w2 ⟨rfl, HB2⟩))
      go_ret
      exact ⟨rfl, belowT B1.out HB2⟩
    · rw [hr] at cr
      clear hr
      have hh : (n < 0) ∨ (¬ n < 0 ∧ 999999999 < n) ∨ (¬ n < 0 ∧ ¬ 999999999 < n ∧ k < 0) ∨ (¬ n < 0 ∧ ¬ 999999999 < n ∧ ¬ k < 0 ∧ 20 < k) := by omega
      clear h
      rcases hh with m0 | ⟨m0, m1⟩ | ⟨m0, m1, m2⟩ | ⟨m0, m1, m2, m3⟩
      all_goals
        go_enter Tryz.func8, Tryz.ntmps8
        go_wp2_with (first | (go_at_call 25; refine (ck _ (hGL.step (belowA (Below.refl _ _) _))).mono ?_; rintro e w1 ⟨rfl, HB1⟩; have A1 := ad_new HB1; have a10 := A1.c0; have a11 := A1.c1; clear A1; have B1 := Lib.hid (belowT (belowA (Below.refl _ _) _) HB1)) | (go_at_call 28; refine (cr _ (hGL.step B1.out)).mono ?_; rintro e w2 ⟨rfl, HB2⟩))
        go_ret
        exact ⟨rfl, belowT B1.out HB2⟩

theorem cmdPaths_any (lo d : ByteArray) (n k : Int) (w : World) (hGL : GL w) :
    Calls Tryz.prog 8 #[.agg #[.string lo, .string d], .int .i64 n, .int .i64 k] w fun e w' => e = .returned (.bool true) ∧ Below w.heap.size w w' := by
  by_cases h : 300 < lo.size ∨ (lo.size ≤ 300 ∧ (600 < d.size ∨ (d.size ≤ 600 ∧ (rightB lo.data.toList d.data.toList = false ∨ (rightB lo.data.toList d.data.toList = true ∧ (n < 0 ∨ (0 ≤ n ∧ (999999999 < n ∨ (n ≤ 999999999 ∧ (k < 0 ∨ (0 ≤ k ∧ 20 < k)))))))))))
  · exact cmdPaths_out lo d n k h w hGL
  · have h0 : lo.size ≤ 300 := by omega
    have h1 : d.size ≤ 600 := by omega
    have hr : rightB lo.data.toList d.data.toList = true := by
      cases hr : rightB lo.data.toList d.data.toList with
      | true => rfl
      | false => exact absurd (.inr ⟨h0, .inr ⟨h1, .inl hr⟩⟩) h
    have h2 : 0 ≤ n ∧ n ≤ 999999999 ∧ 0 ≤ k ∧ k ≤ 20 := by
      by_cases hh : n < 0 ∨ (0 ≤ n ∧ (999999999 < n ∨ (n ≤ 999999999 ∧ (k < 0 ∨ (0 ≤ k ∧ 20 < k)))))
      · exact absurd (.inr ⟨h0, .inr ⟨h1, .inr ⟨hr, hh⟩⟩⟩) h
      · omega
    obtain ⟨n0, n1, k0, k1⟩ := h2
    obtain ⟨m, rfl⟩ := Int.eq_ofNat_of_zero_le n0
    obtain ⟨j, rfl⟩ := Int.eq_ofNat_of_zero_le k0
    cases hn : nullB lo.data.toList d.data.toList with
    | true =>
      have hn' := hn
      simp only [nullB, Bool.and_eq_true, List.isEmpty_iff] at hn'
      obtain rfl := bytes_empty hn'.1
      obtain rfl := bytes_empty hn'.2
      exact cmdPaths_null m j (by omega) (by omega) w hGL
    | false =>
      exact cmdPaths_some lo d h0 h1 hr hn (by rw [tl_nil]; exact (parts_of hr hn).ne) m j (by omega) (by omega) w hGL
end Go.Proofs.YtkmikhinkbbnnaaGreatDoor.M
