/- mailbaglaw15.CmdTexts, by hand. -/
import Derived.Test.YtkmikhinkbbnnaaGreatDoorManBF
import Derived.Test.YtkmikhinkbbnnaaGreatDoorManCG
namespace Go.Proofs.YtkmikhinkbbnnaaGreatDoor.M
open Go.RowKit Go.Proofs.YtkmikhinkbbnnaaGreatDoor.Sp

set_option maxHeartbeats 8000000 in
set_option maxRecDepth 100000 in
theorem cmdTexts_any (s : ByteArray) (w : World) (hGL : GL w) :
    Calls Tryz.prog 6 #[.string s] w fun e w' => e = .returned (.bool true) ∧ Below w.heap.size w w' := by
  have ck := fun W (hW : GL W) => known_any W hW
  by_cases h1 : s.size ≤ 2000
  · have i0 : ¬ (2000 : Int) < (s.size : Int) := by omega
    have cp := fun W (hW : GL W) => parse_any s (by omega) W hW
    have cr := fun W => rparse_any s (by omega) W
    rcases hp : parseL s.data.toList with ⟨q0, q1, q2, q3, q4, q5⟩
    rw [hp] at cp cr
    clear hp
    change ∀ W, GL W → Calls _ _ _ W (fun e' w' => e' = Ending.returned (.tuple #[.agg #[.int .i64 q0, .string ⟨q1.toArray⟩, .string ⟨q2.toArray⟩, .string ⟨q3.toArray⟩, .int .i64 q4], .int .i64 q5]) ∧ _) at cp
    change ∀ W, Calls _ _ _ W (fun e' w' => e' = Ending.returned (.tuple #[.agg #[.int .i64 q0, .string ⟨q1.toArray⟩, .string ⟨q2.toArray⟩, .string ⟨q3.toArray⟩, .int .i64 q4], .int .i64 q5]) ∧ _) at cr
    generalize (⟨q1.toArray⟩ : ByteArray) = x1 at cp cr
    generalize (⟨q2.toArray⟩ : ByteArray) = x2 at cp cr
    generalize (⟨q3.toArray⟩ : ByteArray) = x3 at cp cr
    go_enter Tryz.func6, Tryz.ntmps6
    go_wp2_with (first | (go_at_call 25; refine (ck _ hGL).mono ?_; rintro e w1 ⟨rfl, HB1⟩) | (go_at_call 26; refine (cp _ (hGL.step HB1)).mono ?_; rintro e w2 ⟨rfl, HB2⟩; have B2 := Lib.hid (belowT HB1 HB2)) | (go_at_call 27; refine (cr _).mono ?_; rintro e w3 ⟨rfl, HB3⟩; have C3 := cm_new HB3; obtain ⟨r0, r1, r2, r3, r4, r5, r6, r7, r8, r9⟩ := C3; have B3 := Lib.hid (belowT (belowA B2.out _) HB3); have cxx := (fun o => ((belowA (Below.refl w3.heap.size w3) o).cell (World.block_lt_of_cell? w3 _ r0)).trans r0); have cx1 := (fun o => ((belowA (Below.refl w3.heap.size w3) o).cell (World.block_lt_of_cell? w3 _ r1)).trans r1); have cx2 := (fun o => ((belowA (Below.refl w3.heap.size w3) o).cell (World.block_lt_of_cell? w3 _ r2)).trans r2); have cx3 := (fun o => ((belowA (Below.refl w3.heap.size w3) o).cell (World.block_lt_of_cell? w3 _ r3)).trans r3); have cx4 := (fun o => ((belowA (Below.refl w3.heap.size w3) o).cell (World.block_lt_of_cell? w3 _ r4)).trans r4)))
    go_ret
    exact ⟨rfl, belowA B3.out _⟩
  · have i0 : (2000 : Int) < (s.size : Int) := by omega
    go_enter Tryz.func6, Tryz.ntmps6
    go_wp2_with (go_at_call 25; refine (ck _ hGL).mono ?_; rintro e w1 ⟨rfl, HB1⟩)
    go_ret
    exact ⟨rfl, HB1⟩
end Go.Proofs.YtkmikhinkbbnnaaGreatDoor.M
