/- Package cmd: a command told, by hand. -/
import Derived.Test.YtkmikhinkbbnnaaGreatDoorManBD
namespace Go.Proofs.YtkmikhinkbbnnaaGreatDoor.M
open Go.RowKit Go.Proofs.YtkmikhinkbbnnaaGreatDoor.Sp
attribute [local go_sem ↓] Go.wp_at_zero Go.wp_at_succ

def cprintL (k : Int) (arg lo d : List UInt8) (n : Int) : List UInt8 :=
  if k = 3 then [77, 65, 73, 76, 32, 70, 82, 79, 77, 58] ++ printL lo d ++ (if n = -1 then [] else [32, 83, 73, 90, 69, 61] ++ Lib.itoa n)
  else if k = 4 then [82, 67, 80, 84, 32, 84, 79, 58] ++ printL lo d
  else if k = 7 then (if arg.isEmpty then [78, 79, 79, 80] else [78, 79, 79, 80, 32] ++ arg)
  else if k = 1 then [72, 69, 76, 79, 32] ++ arg
  else if k = 2 then [69, 72, 76, 79, 32] ++ arg
  else if k = 9 then [86, 82, 70, 89, 32] ++ arg
  else if k = 5 then [68, 65, 84, 65]
  else if k = 6 then [82, 83, 69, 84]
  else if k = 8 then [81, 85, 73, 84]
  else []
theorem printL_len (lo d : List UInt8) : (printL lo d).length ≤ 256 := by
  unfold printL
  split
  · simp
  · rename_i hn
    split
    · rename_i hr
      unfold rightB at hr
      simp only [Bool.not_eq_true] at hn
      rw [hn] at hr
      simp only [Bool.false_or, Bool.and_eq_true, decide_eq_true_eq] at hr
      exact hr.2
    · simp

set_option maxHeartbeats 8000000 in
set_option maxRecDepth 100000 in
theorem cprint_mail_none (arg lo d : ByteArray) (n : Int) (ha : arg.size ≤ 4000000000) (hl : lo.size ≤ 4000000000) (hd : d.size ≤ 4000000000) (hn0 : -9223372036854775808 ≤ n) (hn1 : n ≤ 9223372036854775807) (hn : n = -1) (w : World) (hGL : GL w) :
    Calls Tryz.prog 32 #[.agg #[.int .i64 3, .string arg, .string lo, .string d, .int .i64 n]] w fun e w' => e = .returned (.string ⟨(cprintL 3 arg.data.toList lo.data.toList d.data.toList n).toArray⟩) ∧ Below w.heap.size w w' := by
  have cw := fun W => cword_any 3 (by decide) (by decide) W
  have cp := fun W (hW : GL W) => print_any lo d hl hd W hW
  have hq : ∀ q : ByteArray, (⟨(printL lo.data.toList d.data.toList).toArray⟩ : ByteArray) = q → Hid (q.data.toList = printL lo.data.toList d.data.toList) := fun q h => Lib.hid (by rw [← h])
  generalize hq0 : (⟨(printL lo.data.toList d.data.toList).toArray⟩ : ByteArray) = q at cp
  have HQ := hq q hq0
  have hqz : q.size ≤ 256 := by rw [← len_eq, HQ.out]; exact printL_len _ _
  have hwz := wordS_size 3 (by decide) (by decide)
  clear hq hq0
  subst hn
  go_enter Tryz.func32, Tryz.ntmps32
  go_wp2_with (first | (go_at_call 82; refine (cw _).mono ?_; rintro e w1 ⟨rfl, rfl⟩) | (go_at_call 29; refine (cp _ (hGL.step (belowA (Below.refl _ _) _))).mono ?_; rintro e w2 ⟨rfl, HB2⟩; have B2 := Lib.hid (belowT (belowA (Below.refl _ _) _) HB2); obtain ⟨p0, p1, p2, p3, p4, p5, p6, p7, p8, p9⟩ := cm_new HB2))
  go_ret
  refine ⟨?_, B2.out⟩
  exact congrArg (fun z => Ending.returned (.string z)) (bstr (by simp [cprintL, ByteArray.data_append, HQ.out, wordS]))

set_option maxHeartbeats 8000000 in
set_option maxRecDepth 100000 in
theorem cprint_mail_size (arg lo d : ByteArray) (n : Int) (ha : arg.size ≤ 4000000000) (hl : lo.size ≤ 4000000000) (hd : d.size ≤ 4000000000) (hn0 : -9223372036854775808 ≤ n) (hn1 : n ≤ 9223372036854775807) (hn : n ≠ -1) (w : World) (hGL : GL w) :
    Calls Tryz.prog 32 #[.agg #[.int .i64 3, .string arg, .string lo, .string d, .int .i64 n]] w fun e w' => e = .returned (.string ⟨(cprintL 3 arg.data.toList lo.data.toList d.data.toList n).toArray⟩) ∧ Below w.heap.size w w' := by
  have cw := fun W => cword_any 3 (by decide) (by decide) W
  have cp := fun W (hW : GL W) => print_any lo d hl hd W hW
  have hq : ∀ q : ByteArray, (⟨(printL lo.data.toList d.data.toList).toArray⟩ : ByteArray) = q → Hid (q.data.toList = printL lo.data.toList d.data.toList) := fun q h => Lib.hid (by rw [← h])
  generalize hq0 : (⟨(printL lo.data.toList d.data.toList).toArray⟩ : ByteArray) = q at cp
  have HQ := hq q hq0
  have hqz : q.size ≤ 256 := by rw [← len_eq, HQ.out]; exact printL_len _ _
  have hwz := wordS_size 3 (by decide) (by decide)
  clear hq hq0
  have ci := fun W (hW : GL W) => itoa_any n hn0 hn1 W hW
  have hz : ∀ q : ByteArray, (⟨(Lib.itoa n).toArray⟩ : ByteArray) = q → Hid (q.data.toList = Lib.itoa n) := fun q h => Lib.hid (by rw [← h])
  generalize hz0 : (⟨(Lib.itoa n).toArray⟩ : ByteArray) = z at ci
  have HZ := hz z hz0
  have hzz : z.size ≤ 21 := by rw [← len_eq, HZ.out]; exact Lib.itoa_length_le n hn0 hn1
  have z0 : ((n == -1) : Bool) = false := beq_eq_false_iff_ne.2 hn
  have z1 : ((n != -1) : Bool) = true := bne_iff_ne.2 hn
  clear hz hz0
  go_enter Tryz.func32, Tryz.ntmps32
  go_wp2_with (first | (go_at_call 82; refine (cw _).mono ?_; rintro e w1 ⟨rfl, rfl⟩) | (go_at_call 29; refine (cp _ (hGL.step (belowA (Below.refl _ _) _))).mono ?_; rintro e w2 ⟨rfl, HB2⟩; have B2 := Lib.hid (belowT (belowA (Below.refl _ _) _) HB2); obtain ⟨p0, p1, p2, p3, p4, p5, p6, p7, p8, p9⟩ := cm_new HB2) | (go_at_call 47; refine (ci _ (hGL.step B2.out)).mono ?_; rintro e w3 ⟨rfl, HB3⟩))
  go_ret
  refine ⟨?_, belowT B2.out HB3⟩
  exact congrArg (fun z => Ending.returned (.string z)) (bstr (by simp [cprintL, ByteArray.data_append, HQ.out, HZ.out, wordS, hn]))
end Go.Proofs.YtkmikhinkbbnnaaGreatDoor.M
