/- mailbaglaw15.known, by hand. -/
import Derived.Test.YtkmikhinkbbnnaaGreatDoorManBE
namespace Go.Proofs.YtkmikhinkbbnnaaGreatDoor.M
open Go.RowKit Go.Proofs.YtkmikhinkbbnnaaGreatDoor.Sp
attribute [local go_sem ↓] Go.wp_at_zero Go.wp_at_succ

def line1 : ByteArray := ⟨#[109, 97, 105, 108, 32, 70, 82, 79, 77, 58, 60, 97, 64, 98, 62, 32, 83, 73, 90, 69, 61, 49, 50, 32, 32]⟩
def line2 : ByteArray := ⟨#[82, 67, 80, 84, 32, 84, 79, 58, 60, 62]⟩
def line3 : ByteArray := ⟨#[77, 65, 73, 76, 32, 70, 82, 79, 77, 58, 60, 97, 64, 98, 62, 32, 66, 79, 68, 89, 61, 56, 66, 73, 84]⟩
def line4 : ByteArray := ⟨#[70, 79, 79]⟩
def line5 : ByteArray := ⟨#[77, 65, 73, 76, 32, 70, 82, 79, 77, 58, 60, 97, 64, 98, 62, 32, 83, 73, 90, 69, 61, 49, 50]⟩
theorem parse1 : parseL line1.data.toList = (3, [], [97], [98], 12, 0) := by decide +kernel
theorem parse2 : parseL line2.data.toList = cmdE 501 := by decide +kernel
theorem parse3 : parseL line3.data.toList = cmdE 555 := by decide +kernel
theorem parse4 : parseL line4.data.toList = cmdE 500 := by decide +kernel
theorem print1 : cprintL 3 [] [97] [98] 12 = line5.data.toList := by
  have e : Lib.itoa 12 = itoa3 12 := itoa_small 12 (by decide) (by decide)
  unfold cprintL
  rw [if_pos rfl, e]
  decide +kernel

set_option maxHeartbeats 8000000 in
set_option maxRecDepth 100000 in
theorem known_any (w : World) (hGL : GL w) :
    Calls Tryz.prog 25 #[] w fun e w' => e = .returned (.bool true) ∧ Below w.heap.size w w' := by
  have c1 := fun W (hW : GL W) => parse_any line1 (by decide) W hW
  have c2 := fun W (hW : GL W) => parse_any line2 (by decide) W hW
  have c3 := fun W (hW : GL W) => parse_any line3 (by decide) W hW
  have c4 := fun W (hW : GL W) => parse_any line4 (by decide) W hW
  have c5 := fun W (hW : GL W) => cprint_mail_size ⟨#[]⟩ ⟨#[97]⟩ ⟨#[98]⟩ 12 (by decide) (by decide) (by decide) (by decide) (by decide) (by decide) W hW
  rw [parse1] at c1
  rw [parse2] at c2
  rw [parse3] at c3
  rw [parse4] at c4
  have c5' : ∀ W, GL W → Calls Tryz.prog 32 #[.agg #[.int .i64 3, .string ⟨#[]⟩, .string ⟨#[97]⟩, .string ⟨#[98]⟩, .int .i64 12]] W fun e w' => e = .returned (.string line5) ∧ Below W.heap.size W w' := fun W hW => by
    have h := c5 W hW
    change Calls _ _ _ W (fun e w' => e = .returned (.string ⟨(cprintL 3 [] [97] [98] 12).toArray⟩) ∧ _) at h
    rw [print1] at h
    exact h
  clear c5
  change ∀ W, GL W → Calls _ _ _ W (fun e w' => e = .returned (.tuple #[.agg #[.int .i64 3, .string ⟨#[]⟩, .string ⟨#[97]⟩, .string ⟨#[98]⟩, .int .i64 12], .int .i64 0]) ∧ _) at c1
  change ∀ W, GL W → Calls _ _ _ W (fun e w' => e = .returned (.tuple #[.agg #[.int .i64 0, .string ⟨#[]⟩, .string ⟨#[]⟩, .string ⟨#[]⟩, .int .i64 0], .int .i64 501]) ∧ _) at c2
  change ∀ W, GL W → Calls _ _ _ W (fun e w' => e = .returned (.tuple #[.agg #[.int .i64 0, .string ⟨#[]⟩, .string ⟨#[]⟩, .string ⟨#[]⟩, .int .i64 0], .int .i64 555]) ∧ _) at c3
  change ∀ W, GL W → Calls _ _ _ W (fun e w' => e = .returned (.tuple #[.agg #[.int .i64 0, .string ⟨#[]⟩, .string ⟨#[]⟩, .string ⟨#[]⟩, .int .i64 0], .int .i64 500]) ∧ _) at c4
  go_enter Tryz.func25, Tryz.ntmps25
  go_wp2_with (first | (go_at_call_of 26 (Value.string { data := #[109, 97, 105, 108, 32, 70, 82, 79, 77, 58, 60, 97, 64, 98, 62, 32, 83, 73, 90, 69, 61, 49, 50, 32, 32] }); refine (c1 _ hGL).mono ?_; rintro e w1 ⟨rfl, HB1⟩; skip) | (go_at_call_of 26 (Value.string { data := #[82, 67, 80, 84, 32, 84, 79, 58, 60, 62] }); refine (c2 _ (hGL.step (belowA HB1 _))).mono ?_; rintro e w2 ⟨rfl, HB2⟩; have K2 := Lib.hid (cm_new HB2); have B2 := Lib.hid (belowT (belowA HB1 _) HB2)) | (go_at_call_of 26 (Value.string { data := #[77, 65, 73, 76, 32, 70, 82, 79, 77, 58, 60, 97, 64, 98, 62, 32, 66, 79, 68, 89, 61, 56, 66, 73, 84] }); refine (c3 _ (hGL.step (belowA B2.out _))).mono ?_; rintro e w3 ⟨rfl, HB3⟩; have K3 := Lib.hid ((K2.out.alloc _).below HB3); have B3 := Lib.hid (belowT (belowA B2.out _) HB3)) | (go_at_call_of 26 (Value.string { data := #[70, 79, 79] }); refine (c4 _ (hGL.step (belowA B3.out _))).mono ?_; rintro e w4 ⟨rfl, HB4⟩; have K4 := Lib.hid ((K3.out.alloc _).below HB4); have B4 := Lib.hid (belowT (belowA B3.out _) HB4); have x0 := (fun o => (K4.out.alloc o).c0); have x1 := (fun o => (K4.out.alloc o).c1); have x2 := (fun o => (K4.out.alloc o).c2); have x3 := (fun o => (K4.out.alloc o).c3); have x4 := (fun o => (K4.out.alloc o).c4)) | (go_at_call 32; refine (c5' _ (hGL.step (belowA B4.out _))).mono ?_; rintro e w5 ⟨rfl, HB5⟩))
  go_ret
  exact ⟨ret_bool (by rw [Go.ByteArray.toList_eq]; decide), belowT (belowA B4.out _) HB5⟩
end Go.Proofs.YtkmikhinkbbnnaaGreatDoor.M
