/- mailbaglaw15.decimal, by hand. -/
import Derived.Test.YtkmikhinkbbnnaaGreatDoorManBH
import Derived.Test.YtkmikhinkbbnnaaGreatDoorSpecF
namespace Go.Proofs.YtkmikhinkbbnnaaGreatDoor.M
open Go.RowKit Go.Proofs.YtkmikhinkbbnnaaGreatDoor.Sp
attribute [local go_sem ↓] Go.wp_at_zero Go.wp_at_succ

def decC (m : Nat) : UInt8 := UInt8.ofNat (48 + m % 10)
theorem decC_nat (m : Nat) : 48 + (m : Int) % 10 = ((decC m).toNat : Int) := by
  rw [decC, dec_byte (Nat.mod_lt _ (by decide))]; omega
theorem wrap8 (m : Nat) : IntKind.u8.wrap (48 + (m : Int) % 10) = 48 + (m : Int) % 10 := by
  have h0 : 0 ≤ (m : Int) % 10 := by omega
  have h1 : (m : Int) % 10 < 10 := by omega
  generalize (m : Int) % 10 = k at h0 h1
  unfold IntKind.wrap
  simp [IntKind.bits, IntKind.signed]
  omega
/-- What is left to be told of N, where m is what is left of it and x is told. -/
def decRest (m : Nat) : List UInt8 := if m < 10 then [] else Lib.decDigits (m / 10)
theorem decRest_start (m : Nat) : Lib.decDigits m = decRest m ++ [decC m] := by
  unfold decRest decC
  by_cases h : m < 10
  · rw [if_pos h, Lib.decDigits_one h, Nat.mod_eq_of_lt h]; rfl
  · rw [if_neg h, decDigits_rec h]
theorem decRest_step {m : Nat} (h : 10 ≤ m) : decRest m = decRest (m / 10) ++ [decC (m / 10)] := by
  rw [← decRest_start]; unfold decRest; rw [if_neg (by omega)]

set_option maxHeartbeats 4000000 in
set_option maxRecDepth 100000 in
theorem dec15_any (N : Nat) (hN : N ≤ 999999999) (w : World) :
    Calls Tryz.prog 30 #[.int .i64 (N : Int)] w fun e w' => e = .returned (.string ⟨(Lib.decDigits N).toArray⟩) ∧ Below w.heap.size w w' := by
  have hw := wrap8 N
  have hcv := conv1 w (decC N) _ (decC_nat N)
  go_enter Tryz.func30, Tryz.ntmps30
  go_wp2
  clear hw hcv
  go_loopw [0, 3] (fun n s wr => ∃ (m : Nat) (x : ByteArray), n = .int .i64 (m : Int) ∧ s = .string x ∧ m ≤ 999999999 ∧ Hid (Lib.decDigits N = decRest m ++ x.data.toList) ∧ Hid (Below w.heap.size w wr)) (fun n _ _ => (intOf n).toNat)
  case atStart => exact ⟨N, _, rfl, rfl, hN, Lib.hid (decRest_start N), Lib.hid (belowA (Below.refl _ _) _)⟩
  case round =>
    obtain ⟨m, x, rfl, rfl, hm, HD, HB⟩ := hrel
    have hxz : x.size ≤ 9 := by
      have h1 := dec_len hN
      rw [HD.out, List.length_append, len_eq] at h1
      omega
    by_cases h10 : 10 ≤ m
    · have HN : Hid (Lib.decDigits N = decRest (m / 10) ++ ((⟨#[decC (m / 10)]⟩ : ByteArray) ++ x).data.toList) := Lib.hid (by
        rw [HD.out, decRest_step h10, List.append_assoc, ByteArray.data_append]; simp)
      have hq : (m : Int) / 10 = ((m / 10 : Nat) : Int) := by omega
      have hlt : m / 10 < m := by omega
      generalize m / 10 = q at HN hq hlt
      have hw := wrap8 q
      have hcv := conv1 wr (decC q) _ (decC_nat q)
      have i0 : (10 : Int) ≤ (m : Int) := by omega
      go_wp2
      go_roundw
      case rel => exact ⟨q, _, rfl, rfl, by omega, HN, Lib.hid (belowA HB.out _)⟩
      case measure => simp [intOf]; omega
    · have HF : Hid (x = ⟨(Lib.decDigits N).toArray⟩) := Lib.hid (bstr (by rw [HD.out, decRest, if_pos (by omega)]; rfl))
      have i0 : ¬ (10 : Int) ≤ (m : Int) := by omega
      go_wp2
      go_ret
      exact ⟨congrArg (fun z => Ending.returned (.string z)) HF.out, HB.out⟩
end Go.Proofs.YtkmikhinkbbnnaaGreatDoor.M
