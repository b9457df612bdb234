/- The reference's commands (mailbagref15), by hand: what stands behind MAIL, RCPT. -/
import Derived.Test.YtkmikhinkbbnnaaGreatDoorManCC
import Derived.Test.YtkmikhinkbbnnaaGreatDoorManCD
namespace Go.Proofs.YtkmikhinkbbnnaaGreatDoor.M
open Go.RowKit Go.Proofs.YtkmikhinkbbnnaaGreatDoor.Sp

theorem cm_new2 {w w' : World} {o : Obj} {t : TypeId} {v0 v1 v2 v3 v4 : Value} (hb : Below ((w.alloc o).alloc (.cells #[v0, v1, v2, v3, v4] t)).heap.size ((w.alloc o).alloc (.cells #[v0, v1, v2, v3, v4] t)) w') : Cm w' (w.heap.size + 1) v0 v1 v2 v3 v4 := by
  have h := cm_new (w := w.alloc o) hb
  rwa [show (w.alloc o).heap.size = w.heap.size + 1 by simp] at h
theorem sizeB_blank {c : UInt8} {q : List UInt8} (h : sizeB (c :: q) = true) : c = 32 := by
  cases hf : frontL (c :: q) ahead with
  | false => rw [size_nofront hf] at h; cases h
  | true =>
    simp only [frontL, Bool.and_eq_true, beq_iff_eq] at hf
    have h1 : lowerB c = 32 := by
      have := congrArg List.head? hf.2
      simpa [ahead, lower] using this
    have := all256 (p := fun c => !(lowerB c == 32) || (c == 32)) (by decide +kernel) c
    rw [h1] at this
    simpa using this
theorem cm_set4 {w : World} {g h : Nat} {v0 v1 v2 v3 v4 : Value} (H : Cm w g v0 v1 v2 v3 v4) (hne : ¬ g = h) (v : Int) : Cm (w.setCell ⟨h, 4, none⟩ (.int .i64 v)) g v0 v1 v2 v3 v4 := by
  have n (i : Nat) : (⟨g, i, none⟩ : Addr) ≠ ⟨h, 4, none⟩ := fun x => hne (by injection x)
  refine ⟨?_, ?_, ?_, ?_, ?_, ?_, ?_, ?_, ?_, ?_⟩
  · rw [World.cell?_setCell_other w _ _ _ (Ne.symm (n 0))]; exact H.c0
  · rw [World.cell?_setCell_other w _ _ _ (Ne.symm (n 1))]; exact H.c1
  · rw [World.cell?_setCell_other w _ _ _ (Ne.symm (n 2))]; exact H.c2
  · rw [World.cell?_setCell_other w _ _ _ (Ne.symm (n 3))]; exact H.c3
  · rw [World.cell?_setCell_other w _ _ _ (Ne.symm (n 4))]; exact H.c4
  · rw [World.frozen?_setCell]; exact H.f0
  · rw [World.frozen?_setCell]; exact H.f1
  · rw [World.frozen?_setCell]; exact H.f2
  · rw [World.frozen?_setCell]; exact H.f3
  · rw [World.frozen?_setCell]; exact H.f4
def refPathL (k : Nat) (l : List UInt8) : CmdR := if k = 4 then rcptL l else mailL l

set_option maxHeartbeats 8000000 in
set_option maxRecDepth 100000 in
theorem rp3_nofront (s : ByteArray) (cf : ∀ W, Calls Tryz.prog 120 #[.string s, .string ⟨#[32, 102, 114, 111, 109, 58]⟩] W fun e w' => e = .returned (.bool false) ∧ Below W.heap.size W w') (w : World) :
    Calls Tryz.prog 78 #[.int .i64 3, .string s] w fun e w' => e = .returned (cmdV (cmdE 501)) ∧ Below w.heap.size w w' := by
  go_enter Tryz.func78, Tryz.ntmps78
  go_wp2_with (go_at_call 120; refine (cf _).mono ?_; rintro e w1 ⟨rfl, HB1⟩; have C1 := Lib.hid (cm_new HB1); have B1 := Lib.hid (belowT (belowA (Below.refl _ _) _) HB1); obtain ⟨x0, x1, x2, x3, x4, y0, y1, y2, y3, y4⟩ := C1.out)
  (try simp only [Exit.inBlock, Exit.then])
  refine bodyPost_ret (results_ct5 rfl _ _ w.heap.size _ rfl ((C1.out).put (.int .i64 0) (.string ⟨#[]⟩) (.string ⟨#[]⟩) (.string ⟨#[]⟩) (.int .i64 0)) Tryz.underlying60 rfl (by kernel_rfl)) rfl ?_
  refine ⟨?_, putC_below (B1.out) (Nat.le_refl _) _ _ _ _ _⟩
  rfl

set_option maxHeartbeats 8000000 in
set_option maxRecDepth 100000 in
theorem rp3_bad3 (s t u : ByteArray) (hs : s.size ≤ 2000000000) (hn : 6 ≤ s.size) (ht : s.extract 6 s.size = t) (cf : ∀ W, Calls Tryz.prog 120 #[.string s, .string ⟨#[32, 102, 114, 111, 109, 58]⟩] W fun e w' => e = .returned (.bool true) ∧ Below W.heap.size W w') (ctr : ∀ W, Calls Tryz.prog 122 #[.string t] W fun e w' => e = .returned (.string u) ∧ W = w') (cp : ∀ W, Calls Tryz.prog 121 #[.string u] W fun e w' => e = .returned (.tuple #[.agg #[.string ⟨#[]⟩, .string ⟨#[]⟩], .string ⟨#[]⟩, .int .i64 3]) ∧ Below W.heap.size W w') (w : World) :
    Calls Tryz.prog 78 #[.int .i64 3, .string s] w fun e w' => e = .returned (cmdV (cmdE 501)) ∧ Below w.heap.size w w' := by
  have i1 : (6 : Int) ≤ (s.size : Int) := by omega
  go_enter Tryz.func78, Tryz.ntmps78
  go_wp2_with (first | (go_at_call 120; refine (cf _).mono ?_; rintro e w1 ⟨rfl, HB1⟩; have C1 := Lib.hid (cm_new HB1); have B1 := Lib.hid (belowT (belowA (Below.refl _ _) _) HB1)) | (go_at_call 122; refine (ctr _).mono ?_; rintro e w' ⟨rfl, rfl⟩) | (go_at_call 121; refine (cp _).mono ?_; rintro e w2 ⟨rfl, HB2⟩; have C2 := Lib.hid (C1.out.below HB2); have B2 := Lib.hid (belowT B1.out HB2); have x0 := (fun o => (C2.out.alloc o).c0); have x1 := (fun o => (C2.out.alloc o).c1); have x2 := (fun o => (C2.out.alloc o).c2); have x3 := (fun o => (C2.out.alloc o).c3); have x4 := (fun o => (C2.out.alloc o).c4); have y0 := (fun o => (C2.out.alloc o).f0); have y1 := (fun o => (C2.out.alloc o).f1); have y2 := (fun o => (C2.out.alloc o).f2); have y3 := (fun o => (C2.out.alloc o).f3); have y4 := (fun o => (C2.out.alloc o).f4)))
  (try simp only [Exit.inBlock, Exit.then])
  refine bodyPost_ret (results_ct5 rfl _ _ w.heap.size _ rfl ((C2.out.alloc (.cells #[.string ⟨#[]⟩, .string ⟨#[]⟩] 23)).put (.int .i64 0) (.string ⟨#[]⟩) (.string ⟨#[]⟩) (.string ⟨#[]⟩) (.int .i64 0)) Tryz.underlying60 rfl (by kernel_rfl)) rfl ?_
  refine ⟨?_, putC_below (belowA B2.out _) (Nat.le_refl _) _ _ _ _ _⟩
  rfl

set_option maxHeartbeats 8000000 in
set_option maxRecDepth 100000 in
theorem rp3_bad5 (s t u : ByteArray) (hs : s.size ≤ 2000000000) (hn : 6 ≤ s.size) (ht : s.extract 6 s.size = t) (cf : ∀ W, Calls Tryz.prog 120 #[.string s, .string ⟨#[32, 102, 114, 111, 109, 58]⟩] W fun e w' => e = .returned (.bool true) ∧ Below W.heap.size W w') (ctr : ∀ W, Calls Tryz.prog 122 #[.string t] W fun e w' => e = .returned (.string u) ∧ W = w') (cp : ∀ W, Calls Tryz.prog 121 #[.string u] W fun e w' => e = .returned (.tuple #[.agg #[.string ⟨#[]⟩, .string ⟨#[]⟩], .string ⟨#[]⟩, .int .i64 5]) ∧ Below W.heap.size W w') (w : World) :
    Calls Tryz.prog 78 #[.int .i64 3, .string s] w fun e w' => e = .returned (cmdV (cmdE 501)) ∧ Below w.heap.size w w' := by
  have i1 : (6 : Int) ≤ (s.size : Int) := by omega
  go_enter Tryz.func78, Tryz.ntmps78
  go_wp2_with (first | (go_at_call 120; refine (cf _).mono ?_; rintro e w1 ⟨rfl, HB1⟩; have C1 := Lib.hid (cm_new HB1); have B1 := Lib.hid (belowT (belowA (Below.refl _ _) _) HB1)) | (go_at_call 122; refine (ctr _).mono ?_; rintro e w' ⟨rfl, rfl⟩) | (go_at_call 121; refine (cp _).mono ?_; rintro e w2 ⟨rfl, HB2⟩; have C2 := Lib.hid (C1.out.below HB2); have B2 := Lib.hid (belowT B1.out HB2); have x0 := (fun o => (C2.out.alloc o).c0); have x1 := (fun o => (C2.out.alloc o).c1); have x2 := (fun o => (C2.out.alloc o).c2); have x3 := (fun o => (C2.out.alloc o).c3); have x4 := (fun o => (C2.out.alloc o).c4); have y0 := (fun o => (C2.out.alloc o).f0); have y1 := (fun o => (C2.out.alloc o).f1); have y2 := (fun o => (C2.out.alloc o).f2); have y3 := (fun o => (C2.out.alloc o).f3); have y4 := (fun o => (C2.out.alloc o).f4)))
  (try simp only [Exit.inBlock, Exit.then])
  refine bodyPost_ret (results_ct5 rfl _ _ w.heap.size _ rfl ((C2.out.alloc (.cells #[.string ⟨#[]⟩, .string ⟨#[]⟩] 23)).put (.int .i64 0) (.string ⟨#[]⟩) (.string ⟨#[]⟩) (.string ⟨#[]⟩) (.int .i64 0)) Tryz.underlying60 rfl (by kernel_rfl)) rfl ?_
  refine ⟨?_, putC_below (belowA B2.out _) (Nat.le_refl _) _ _ _ _ _⟩
  rfl

set_option maxHeartbeats 8000000 in
set_option maxRecDepth 100000 in
theorem rp3_end (s t u lo d : ByteArray) (hs : s.size ≤ 2000000000) (hn : 6 ≤ s.size) (ht : s.extract 6 s.size = t) (cf : ∀ W, Calls Tryz.prog 120 #[.string s, .string ⟨#[32, 102, 114, 111, 109, 58]⟩] W fun e w' => e = .returned (.bool true) ∧ Below W.heap.size W w') (ctr : ∀ W, Calls Tryz.prog 122 #[.string t] W fun e w' => e = .returned (.string u) ∧ W = w') (cp : ∀ W, Calls Tryz.prog 121 #[.string u] W fun e w' => e = .returned (.tuple #[.agg #[.string lo, .string d], .string ⟨#[]⟩, .int .i64 0]) ∧ Below W.heap.size W w') (g : Hid ((lo.toList.isEmpty = false) ∨ (lo.toList.isEmpty = true ∧ d.toList.isEmpty = false) ∨ (lo.toList.isEmpty = true ∧ d.toList.isEmpty = true))) (w : World) :
    Calls Tryz.prog 78 #[.int .i64 3, .string s] w fun e w' => e = .returned (cmdV (3, [], lo.data.toList, d.data.toList, -1, 0)) ∧ Below w.heap.size w w' := by
  have i1 : (6 : Int) ≤ (s.size : Int) := by omega
  rcases g.out with g1 | ⟨g1, g2⟩ | ⟨g1, g2⟩
  all_goals
    go_enter Tryz.func78, Tryz.ntmps78
    go_wp2_with (first | (go_at_call 120; refine (cf _).mono ?_; rintro e w1 ⟨rfl, HB1⟩; have C1 := Lib.hid (cm_new HB1); have B1 := Lib.hid (belowT (belowA (Below.refl _ _) _) HB1)) | (go_at_call 122; refine (ctr _).mono ?_; rintro e w' ⟨rfl, rfl⟩) | (go_at_call 121; refine (cp _).mono ?_; rintro e w2 ⟨rfl, HB2⟩; have C2 := Lib.hid (C1.out.below HB2); have B2 := Lib.hid (belowT B1.out HB2); have x0 := (fun o o' => ((C2.out.alloc o).alloc o').c0); have x1 := (fun o o' => ((C2.out.alloc o).alloc o').c1); have x2 := (fun o o' => ((C2.out.alloc o).alloc o').c2); have x3 := (fun o o' => ((C2.out.alloc o).alloc o').c3); have x4 := (fun o o' => ((C2.out.alloc o).alloc o').c4); have y0 := (fun o o' => ((C2.out.alloc o).alloc o').f0); have y1 := (fun o o' => ((C2.out.alloc o).alloc o').f1); have y2 := (fun o o' => ((C2.out.alloc o).alloc o').f2); have y3 := (fun o o' => ((C2.out.alloc o).alloc o').f3); have y4 := (fun o o' => ((C2.out.alloc o).alloc o').f4)))
    (try simp only [Exit.inBlock, Exit.then])
    refine bodyPost_ret (results_ct5 rfl _ _ w.heap.size _ rfl (((C2.out.alloc (.cells #[.string lo, .string d] 23)).alloc (.cells #[.int .i64 3, .string ⟨#[]⟩, .string lo, .string d, .int .i64 (-1)] 60)).put (.int .i64 3) (.string ⟨#[]⟩) (.string lo) (.string d) (.int .i64 (-1))) Tryz.underlying60 rfl (by kernel_rfl)) rfl ?_
    refine ⟨?_, putC_below (belowA (belowA B2.out _) _) (Nat.le_refl _) _ _ _ _ _⟩
    rfl

set_option maxHeartbeats 8000000 in
set_option maxRecDepth 100000 in
theorem rp3_size (s t u lo d r : ByteArray) (hs : s.size ≤ 2000000000) (hn : 6 ≤ s.size) (ht : s.extract 6 s.size = t) (cf : ∀ W, Calls Tryz.prog 120 #[.string s, .string ⟨#[32, 102, 114, 111, 109, 58]⟩] W fun e w' => e = .returned (.bool true) ∧ Below W.heap.size W w') (ctr : ∀ W, Calls Tryz.prog 122 #[.string t] W fun e w' => e = .returned (.string u) ∧ W = w') (cp : ∀ W, Calls Tryz.prog 121 #[.string u] W fun e w' => e = .returned (.tuple #[.agg #[.string lo, .string d], .string r, .int .i64 0]) ∧ Below W.heap.size W w') (g : Hid ((lo.toList.isEmpty = false) ∨ (lo.toList.isEmpty = true ∧ d.toList.isEmpty = false) ∨ (lo.toList.isEmpty = true ∧ d.toList.isEmpty = true))) (hE : r.toList.isEmpty = false) (n : Int) (cz : ∀ W, Calls Tryz.prog 123 #[.string r] W fun e w' => (∃ v, e = .returned (.tuple #[.int .i64 v, .bool true]) ∧ (true = true → v = n)) ∧ Below W.heap.size W w') (w : World) :
    Calls Tryz.prog 78 #[.int .i64 3, .string s] w fun e w' => e = .returned (cmdV (3, [], lo.data.toList, d.data.toList, n, 0)) ∧ Below w.heap.size w w' := by
  have i1 : (6 : Int) ≤ (s.size : Int) := by omega
  rcases g.out with g1 | ⟨g1, g2⟩ | ⟨g1, g2⟩
  all_goals
    go_enter Tryz.func78, Tryz.ntmps78
    go_wp2_with (first | (go_at_call 120; refine (cf _).mono ?_; rintro e w1 ⟨rfl, HB1⟩; have C1 := Lib.hid (cm_new HB1); have B1 := Lib.hid (belowT (belowA (Below.refl _ _) _) HB1)) | (go_at_call 122; refine (ctr _).mono ?_; rintro e w' ⟨rfl, rfl⟩) | (go_at_call 121; refine (cp _).mono ?_; rintro e w2 ⟨rfl, HB2⟩; have C2 := Lib.hid (C1.out.below HB2); have B2 := Lib.hid (belowT B1.out HB2)) | (go_at_call 123; refine (cz _).mono ?_; rintro e w3 ⟨⟨v, rfl, hv⟩, HB3⟩; have HV := Lib.hid hv; clear hv; have C3 := Lib.hid (((C2.out.alloc _).alloc _).below HB3); have B3 := Lib.hid (belowT (belowA (belowA B2.out _) _) HB3); have D3 := cm_new2 HB3; obtain ⟨q0, q1, q2, q3, q4, q5, q6, q7, q8, q9⟩ := C3.out; obtain ⟨z0, z1, z2, z3, z4, z5, z6, z7, z8, z9⟩ := D3; have hlt2 := C2.out.lt; have hne1 : ¬ w.heap.size = w2.heap.size + 1 := (by omega); have hne2 : ¬ w2.heap.size + 1 = w.heap.size := (by omega); clear hlt2))
    (try simp only [Exit.inBlock, Exit.then])
    refine bodyPost_ret (results_ct5 rfl _ _ w.heap.size _ rfl ((cm_set4 C3.out hne1 v).put (.int .i64 3) (.string ⟨#[]⟩) (.string lo) (.string d) (.int .i64 (v))) Tryz.underlying60 rfl (by kernel_rfl)) rfl ?_
    refine ⟨?_, putC_below (B3.out.setCell (p := ⟨w2.heap.size + 1, 4, none⟩) (by have := C2.out.lt; show w.heap.size ≤ w2.heap.size + 1; omega) _) (Nat.le_refl _) _ _ _ _ _⟩
    rw [HV.out trivial]; rfl

set_option maxHeartbeats 8000000 in
set_option maxRecDepth 100000 in
theorem rp3_par (s t u lo d r : ByteArray) (hs : s.size ≤ 2000000000) (hn : 6 ≤ s.size) (ht : s.extract 6 s.size = t) (cf : ∀ W, Calls Tryz.prog 120 #[.string s, .string ⟨#[32, 102, 114, 111, 109, 58]⟩] W fun e w' => e = .returned (.bool true) ∧ Below W.heap.size W w') (ctr : ∀ W, Calls Tryz.prog 122 #[.string t] W fun e w' => e = .returned (.string u) ∧ W = w') (cp : ∀ W, Calls Tryz.prog 121 #[.string u] W fun e w' => e = .returned (.tuple #[.agg #[.string lo, .string d], .string r, .int .i64 0]) ∧ Below W.heap.size W w') (g : Hid ((lo.toList.isEmpty = false) ∨ (lo.toList.isEmpty = true ∧ d.toList.isEmpty = false) ∨ (lo.toList.isEmpty = true ∧ d.toList.isEmpty = true))) (hE : r.toList.isEmpty = false) (hr : 0 < r.size) (q : (((r[0].toNat : Int) == 32) : Bool) = true) (n : Int) (cz : ∀ W, Calls Tryz.prog 123 #[.string r] W fun e w' => (∃ v, e = .returned (.tuple #[.int .i64 v, .bool false]) ∧ (false = true → v = n)) ∧ Below W.heap.size W w') (w : World) :
    Calls Tryz.prog 78 #[.int .i64 3, .string s] w fun e w' => e = .returned (cmdV (cmdE 555)) ∧ Below w.heap.size w w' := by
  have i1 : (6 : Int) ≤ (s.size : Int) := by omega
  have i0 : (0 : Int) < (r.size : Int) := by omega
  rcases g.out with g1 | ⟨g1, g2⟩ | ⟨g1, g2⟩
  all_goals
    go_enter Tryz.func78, Tryz.ntmps78
    go_wp2_with (first | (go_at_call 120; refine (cf _).mono ?_; rintro e w1 ⟨rfl, HB1⟩; have C1 := Lib.hid (cm_new HB1); have B1 := Lib.hid (belowT (belowA (Below.refl _ _) _) HB1)) | (go_at_call 122; refine (ctr _).mono ?_; rintro e w' ⟨rfl, rfl⟩) | (go_at_call 121; refine (cp _).mono ?_; rintro e w2 ⟨rfl, HB2⟩; have C2 := Lib.hid (C1.out.below HB2); have B2 := Lib.hid (belowT B1.out HB2)) | (go_at_call 123; refine (cz _).mono ?_; rintro e w3 ⟨⟨v, rfl, hv⟩, HB3⟩; have HV := Lib.hid hv; clear hv; have C3 := Lib.hid (((C2.out.alloc _).alloc _).below HB3); have B3 := Lib.hid (belowT (belowA (belowA B2.out _) _) HB3); have D3 := cm_new2 HB3; obtain ⟨q0, q1, q2, q3, q4, q5, q6, q7, q8, q9⟩ := C3.out; obtain ⟨z0, z1, z2, z3, z4, z5, z6, z7, z8, z9⟩ := D3; have hlt2 := C2.out.lt; have hne1 : ¬ w.heap.size = w2.heap.size + 1 := (by omega); have hne2 : ¬ w2.heap.size + 1 = w.heap.size := (by omega); clear hlt2))
    (try simp only [Exit.inBlock, Exit.then])
    refine bodyPost_ret (results_ct5 rfl _ _ w.heap.size _ rfl ((C3.out).put (.int .i64 0) (.string ⟨#[]⟩) (.string ⟨#[]⟩) (.string ⟨#[]⟩) (.int .i64 0)) Tryz.underlying60 rfl (by kernel_rfl)) rfl ?_
    refine ⟨?_, putC_below (B3.out) (Nat.le_refl _) _ _ _ _ _⟩
    rfl

set_option maxHeartbeats 8000000 in
set_option maxRecDepth 100000 in
theorem rp3_no (s t u lo d r : ByteArray) (hs : s.size ≤ 2000000000) (hn : 6 ≤ s.size) (ht : s.extract 6 s.size = t) (cf : ∀ W, Calls Tryz.prog 120 #[.string s, .string ⟨#[32, 102, 114, 111, 109, 58]⟩] W fun e w' => e = .returned (.bool true) ∧ Below W.heap.size W w') (ctr : ∀ W, Calls Tryz.prog 122 #[.string t] W fun e w' => e = .returned (.string u) ∧ W = w') (cp : ∀ W, Calls Tryz.prog 121 #[.string u] W fun e w' => e = .returned (.tuple #[.agg #[.string lo, .string d], .string r, .int .i64 0]) ∧ Below W.heap.size W w') (g : Hid ((lo.toList.isEmpty = false) ∨ (lo.toList.isEmpty = true ∧ d.toList.isEmpty = false) ∨ (lo.toList.isEmpty = true ∧ d.toList.isEmpty = true))) (hE : r.toList.isEmpty = false) (hr : 0 < r.size) (q : (((r[0].toNat : Int) == 32) : Bool) = false) (n : Int) (cz : ∀ W, Calls Tryz.prog 123 #[.string r] W fun e w' => (∃ v, e = .returned (.tuple #[.int .i64 v, .bool false]) ∧ (false = true → v = n)) ∧ Below W.heap.size W w') (w : World) :
    Calls Tryz.prog 78 #[.int .i64 3, .string s] w fun e w' => e = .returned (cmdV (cmdE 501)) ∧ Below w.heap.size w w' := by
  have i1 : (6 : Int) ≤ (s.size : Int) := by omega
  have i0 : (0 : Int) < (r.size : Int) := by omega
  rcases g.out with g1 | ⟨g1, g2⟩ | ⟨g1, g2⟩
  all_goals
    go_enter Tryz.func78, Tryz.ntmps78
    go_wp2_with (first | (go_at_call 120; refine (cf _).mono ?_; rintro e w1 ⟨rfl, HB1⟩; have C1 := Lib.hid (cm_new HB1); have B1 := Lib.hid (belowT (belowA (Below.refl _ _) _) HB1)) | (go_at_call 122; refine (ctr _).mono ?_; rintro e w' ⟨rfl, rfl⟩) | (go_at_call 121; refine (cp _).mono ?_; rintro e w2 ⟨rfl, HB2⟩; have C2 := Lib.hid (C1.out.below HB2); have B2 := Lib.hid (belowT B1.out HB2)) | (go_at_call 123; refine (cz _).mono ?_; rintro e w3 ⟨⟨v, rfl, hv⟩, HB3⟩; have HV := Lib.hid hv; clear hv; have C3 := Lib.hid (((C2.out.alloc _).alloc _).below HB3); have B3 := Lib.hid (belowT (belowA (belowA B2.out _) _) HB3); have D3 := cm_new2 HB3; obtain ⟨q0, q1, q2, q3, q4, q5, q6, q7, q8, q9⟩ := C3.out; obtain ⟨z0, z1, z2, z3, z4, z5, z6, z7, z8, z9⟩ := D3; have hlt2 := C2.out.lt; have hne1 : ¬ w.heap.size = w2.heap.size + 1 := (by omega); have hne2 : ¬ w2.heap.size + 1 = w.heap.size := (by omega); clear hlt2))
    (try simp only [Exit.inBlock, Exit.then])
    refine bodyPost_ret (results_ct5 rfl _ _ w.heap.size _ rfl ((C3.out).put (.int .i64 0) (.string ⟨#[]⟩) (.string ⟨#[]⟩) (.string ⟨#[]⟩) (.int .i64 0)) Tryz.underlying60 rfl (by kernel_rfl)) rfl ?_
    refine ⟨?_, putC_below (B3.out) (Nat.le_refl _) _ _ _ _ _⟩
    rfl

set_option maxHeartbeats 8000000 in
set_option maxRecDepth 100000 in
theorem rp4_nofront (s : ByteArray) (cf : ∀ W, Calls Tryz.prog 120 #[.string s, .string ⟨#[32, 116, 111, 58]⟩] W fun e w' => e = .returned (.bool false) ∧ Below W.heap.size W w') (w : World) :
    Calls Tryz.prog 78 #[.int .i64 4, .string s] w fun e w' => e = .returned (cmdV (cmdE 501)) ∧ Below w.heap.size w w' := by
  go_enter Tryz.func78, Tryz.ntmps78
  go_wp2_with (go_at_call 120; refine (cf _).mono ?_; rintro e w1 ⟨rfl, HB1⟩; have C1 := Lib.hid (cm_new HB1); have B1 := Lib.hid (belowT (belowA (Below.refl _ _) _) HB1); obtain ⟨x0, x1, x2, x3, x4, y0, y1, y2, y3, y4⟩ := C1.out)
  (try simp only [Exit.inBlock, Exit.then])
  refine bodyPost_ret (results_ct5 rfl _ _ w.heap.size _ rfl ((C1.out).put (.int .i64 0) (.string ⟨#[]⟩) (.string ⟨#[]⟩) (.string ⟨#[]⟩) (.int .i64 0)) Tryz.underlying60 rfl (by kernel_rfl)) rfl ?_
  refine ⟨?_, putC_below (B1.out) (Nat.le_refl _) _ _ _ _ _⟩
  rfl

set_option maxHeartbeats 8000000 in
set_option maxRecDepth 100000 in
theorem rp4_bad3 (s t u : ByteArray) (hs : s.size ≤ 2000000000) (hn : 4 ≤ s.size) (ht : s.extract 4 s.size = t) (cf : ∀ W, Calls Tryz.prog 120 #[.string s, .string ⟨#[32, 116, 111, 58]⟩] W fun e w' => e = .returned (.bool true) ∧ Below W.heap.size W w') (ctr : ∀ W, Calls Tryz.prog 122 #[.string t] W fun e w' => e = .returned (.string u) ∧ W = w') (cp : ∀ W, Calls Tryz.prog 121 #[.string u] W fun e w' => e = .returned (.tuple #[.agg #[.string ⟨#[]⟩, .string ⟨#[]⟩], .string ⟨#[]⟩, .int .i64 3]) ∧ Below W.heap.size W w') (w : World) :
    Calls Tryz.prog 78 #[.int .i64 4, .string s] w fun e w' => e = .returned (cmdV (cmdE 501)) ∧ Below w.heap.size w w' := by
  have i1 : (4 : Int) ≤ (s.size : Int) := by omega
  go_enter Tryz.func78, Tryz.ntmps78
  go_wp2_with (first | (go_at_call 120; refine (cf _).mono ?_; rintro e w1 ⟨rfl, HB1⟩; have C1 := Lib.hid (cm_new HB1); have B1 := Lib.hid (belowT (belowA (Below.refl _ _) _) HB1)) | (go_at_call 122; refine (ctr _).mono ?_; rintro e w' ⟨rfl, rfl⟩) | (go_at_call 121; refine (cp _).mono ?_; rintro e w2 ⟨rfl, HB2⟩; have C2 := Lib.hid (C1.out.below HB2); have B2 := Lib.hid (belowT B1.out HB2); have x0 := (fun o => (C2.out.alloc o).c0); have x1 := (fun o => (C2.out.alloc o).c1); have x2 := (fun o => (C2.out.alloc o).c2); have x3 := (fun o => (C2.out.alloc o).c3); have x4 := (fun o => (C2.out.alloc o).c4); have y0 := (fun o => (C2.out.alloc o).f0); have y1 := (fun o => (C2.out.alloc o).f1); have y2 := (fun o => (C2.out.alloc o).f2); have y3 := (fun o => (C2.out.alloc o).f3); have y4 := (fun o => (C2.out.alloc o).f4)))
  (try simp only [Exit.inBlock, Exit.then])
  refine bodyPost_ret (results_ct5 rfl _ _ w.heap.size _ rfl ((C2.out.alloc (.cells #[.string ⟨#[]⟩, .string ⟨#[]⟩] 23)).put (.int .i64 0) (.string ⟨#[]⟩) (.string ⟨#[]⟩) (.string ⟨#[]⟩) (.int .i64 0)) Tryz.underlying60 rfl (by kernel_rfl)) rfl ?_
  refine ⟨?_, putC_below (belowA B2.out _) (Nat.le_refl _) _ _ _ _ _⟩
  rfl

set_option maxHeartbeats 8000000 in
set_option maxRecDepth 100000 in
theorem rp4_bad5 (s t u : ByteArray) (hs : s.size ≤ 2000000000) (hn : 4 ≤ s.size) (ht : s.extract 4 s.size = t) (cf : ∀ W, Calls Tryz.prog 120 #[.string s, .string ⟨#[32, 116, 111, 58]⟩] W fun e w' => e = .returned (.bool true) ∧ Below W.heap.size W w') (ctr : ∀ W, Calls Tryz.prog 122 #[.string t] W fun e w' => e = .returned (.string u) ∧ W = w') (cp : ∀ W, Calls Tryz.prog 121 #[.string u] W fun e w' => e = .returned (.tuple #[.agg #[.string ⟨#[]⟩, .string ⟨#[]⟩], .string ⟨#[]⟩, .int .i64 5]) ∧ Below W.heap.size W w') (w : World) :
    Calls Tryz.prog 78 #[.int .i64 4, .string s] w fun e w' => e = .returned (cmdV (cmdE 501)) ∧ Below w.heap.size w w' := by
  have i1 : (4 : Int) ≤ (s.size : Int) := by omega
  go_enter Tryz.func78, Tryz.ntmps78
  go_wp2_with (first | (go_at_call 120; refine (cf _).mono ?_; rintro e w1 ⟨rfl, HB1⟩; have C1 := Lib.hid (cm_new HB1); have B1 := Lib.hid (belowT (belowA (Below.refl _ _) _) HB1)) | (go_at_call 122; refine (ctr _).mono ?_; rintro e w' ⟨rfl, rfl⟩) | (go_at_call 121; refine (cp _).mono ?_; rintro e w2 ⟨rfl, HB2⟩; have C2 := Lib.hid (C1.out.below HB2); have B2 := Lib.hid (belowT B1.out HB2); have x0 := (fun o => (C2.out.alloc o).c0); have x1 := (fun o => (C2.out.alloc o).c1); have x2 := (fun o => (C2.out.alloc o).c2); have x3 := (fun o => (C2.out.alloc o).c3); have x4 := (fun o => (C2.out.alloc o).c4); have y0 := (fun o => (C2.out.alloc o).f0); have y1 := (fun o => (C2.out.alloc o).f1); have y2 := (fun o => (C2.out.alloc o).f2); have y3 := (fun o => (C2.out.alloc o).f3); have y4 := (fun o => (C2.out.alloc o).f4)))
  (try simp only [Exit.inBlock, Exit.then])
  refine bodyPost_ret (results_ct5 rfl _ _ w.heap.size _ rfl ((C2.out.alloc (.cells #[.string ⟨#[]⟩, .string ⟨#[]⟩] 23)).put (.int .i64 0) (.string ⟨#[]⟩) (.string ⟨#[]⟩) (.string ⟨#[]⟩) (.int .i64 0)) Tryz.underlying60 rfl (by kernel_rfl)) rfl ?_
  refine ⟨?_, putC_below (belowA B2.out _) (Nat.le_refl _) _ _ _ _ _⟩
  rfl

set_option maxHeartbeats 8000000 in
set_option maxRecDepth 100000 in
theorem rp4_null (s t u r : ByteArray) (hs : s.size ≤ 2000000000) (hn : 4 ≤ s.size) (ht : s.extract 4 s.size = t) (cf : ∀ W, Calls Tryz.prog 120 #[.string s, .string ⟨#[32, 116, 111, 58]⟩] W fun e w' => e = .returned (.bool true) ∧ Below W.heap.size W w') (ctr : ∀ W, Calls Tryz.prog 122 #[.string t] W fun e w' => e = .returned (.string u) ∧ W = w') (cp : ∀ W, Calls Tryz.prog 121 #[.string u] W fun e w' => e = .returned (.tuple #[.agg #[.string ⟨#[]⟩, .string ⟨#[]⟩], .string r, .int .i64 0]) ∧ Below W.heap.size W w') (w : World) :
    Calls Tryz.prog 78 #[.int .i64 4, .string s] w fun e w' => e = .returned (cmdV (cmdE 501)) ∧ Below w.heap.size w w' := by
  have i1 : (4 : Int) ≤ (s.size : Int) := by omega
  go_enter Tryz.func78, Tryz.ntmps78
  go_wp2_with (first | (go_at_call 120; refine (cf _).mono ?_; rintro e w1 ⟨rfl, HB1⟩; have C1 := Lib.hid (cm_new HB1); have B1 := Lib.hid (belowT (belowA (Below.refl _ _) _) HB1)) | (go_at_call 122; refine (ctr _).mono ?_; rintro e w' ⟨rfl, rfl⟩) | (go_at_call 121; refine (cp _).mono ?_; rintro e w2 ⟨rfl, HB2⟩; have C2 := Lib.hid (C1.out.below HB2); have B2 := Lib.hid (belowT B1.out HB2); have x0 := (fun o => (C2.out.alloc o).c0); have x1 := (fun o => (C2.out.alloc o).c1); have x2 := (fun o => (C2.out.alloc o).c2); have x3 := (fun o => (C2.out.alloc o).c3); have x4 := (fun o => (C2.out.alloc o).c4); have y0 := (fun o => (C2.out.alloc o).f0); have y1 := (fun o => (C2.out.alloc o).f1); have y2 := (fun o => (C2.out.alloc o).f2); have y3 := (fun o => (C2.out.alloc o).f3); have y4 := (fun o => (C2.out.alloc o).f4)))
  (try simp only [Exit.inBlock, Exit.then])
  refine bodyPost_ret (results_ct5 rfl _ _ w.heap.size _ rfl ((C2.out.alloc (.cells #[.string ⟨#[]⟩, .string ⟨#[]⟩] 23)).put (.int .i64 0) (.string ⟨#[]⟩) (.string ⟨#[]⟩) (.string ⟨#[]⟩) (.int .i64 0)) Tryz.underlying60 rfl (by kernel_rfl)) rfl ?_
  refine ⟨?_, putC_below (belowA B2.out _) (Nat.le_refl _) _ _ _ _ _⟩
  rfl

set_option maxHeartbeats 8000000 in
set_option maxRecDepth 100000 in
theorem rp4_end (s t u lo d : ByteArray) (hs : s.size ≤ 2000000000) (hn : 4 ≤ s.size) (ht : s.extract 4 s.size = t) (cf : ∀ W, Calls Tryz.prog 120 #[.string s, .string ⟨#[32, 116, 111, 58]⟩] W fun e w' => e = .returned (.bool true) ∧ Below W.heap.size W w') (ctr : ∀ W, Calls Tryz.prog 122 #[.string t] W fun e w' => e = .returned (.string u) ∧ W = w') (cp : ∀ W, Calls Tryz.prog 121 #[.string u] W fun e w' => e = .returned (.tuple #[.agg #[.string lo, .string d], .string ⟨#[]⟩, .int .i64 0]) ∧ Below W.heap.size W w') (g : Hid ((lo.toList.isEmpty = false) ∨ (lo.toList.isEmpty = true ∧ d.toList.isEmpty = false))) (w : World) :
    Calls Tryz.prog 78 #[.int .i64 4, .string s] w fun e w' => e = .returned (cmdV (4, [], lo.data.toList, d.data.toList, 0, 0)) ∧ Below w.heap.size w w' := by
  have i1 : (4 : Int) ≤ (s.size : Int) := by omega
  rcases g.out with g1 | ⟨g1, g2⟩
  all_goals
    go_enter Tryz.func78, Tryz.ntmps78
    go_wp2_with (first | (go_at_call 120; refine (cf _).mono ?_; rintro e w1 ⟨rfl, HB1⟩; have C1 := Lib.hid (cm_new HB1); have B1 := Lib.hid (belowT (belowA (Below.refl _ _) _) HB1)) | (go_at_call 122; refine (ctr _).mono ?_; rintro e w' ⟨rfl, rfl⟩) | (go_at_call 121; refine (cp _).mono ?_; rintro e w2 ⟨rfl, HB2⟩; have C2 := Lib.hid (C1.out.below HB2); have B2 := Lib.hid (belowT B1.out HB2); have x0 := (fun o o' => ((C2.out.alloc o).alloc o').c0); have x1 := (fun o o' => ((C2.out.alloc o).alloc o').c1); have x2 := (fun o o' => ((C2.out.alloc o).alloc o').c2); have x3 := (fun o o' => ((C2.out.alloc o).alloc o').c3); have x4 := (fun o o' => ((C2.out.alloc o).alloc o').c4); have y0 := (fun o o' => ((C2.out.alloc o).alloc o').f0); have y1 := (fun o o' => ((C2.out.alloc o).alloc o').f1); have y2 := (fun o o' => ((C2.out.alloc o).alloc o').f2); have y3 := (fun o o' => ((C2.out.alloc o).alloc o').f3); have y4 := (fun o o' => ((C2.out.alloc o).alloc o').f4)))
    (try simp only [Exit.inBlock, Exit.then])
    refine bodyPost_ret (results_ct5 rfl _ _ w.heap.size _ rfl (((C2.out.alloc (.cells #[.string lo, .string d] 23)).alloc (.cells #[.int .i64 4, .string ⟨#[]⟩, .string lo, .string d, .int .i64 (0)] 60)).put (.int .i64 4) (.string ⟨#[]⟩) (.string lo) (.string d) (.int .i64 (0))) Tryz.underlying60 rfl (by kernel_rfl)) rfl ?_
    refine ⟨?_, putC_below (belowA (belowA B2.out _) _) (Nat.le_refl _) _ _ _ _ _⟩
    rfl

set_option maxHeartbeats 8000000 in
set_option maxRecDepth 100000 in
theorem rp4_par (s t u lo d r : ByteArray) (hs : s.size ≤ 2000000000) (hn : 4 ≤ s.size) (ht : s.extract 4 s.size = t) (cf : ∀ W, Calls Tryz.prog 120 #[.string s, .string ⟨#[32, 116, 111, 58]⟩] W fun e w' => e = .returned (.bool true) ∧ Below W.heap.size W w') (ctr : ∀ W, Calls Tryz.prog 122 #[.string t] W fun e w' => e = .returned (.string u) ∧ W = w') (cp : ∀ W, Calls Tryz.prog 121 #[.string u] W fun e w' => e = .returned (.tuple #[.agg #[.string lo, .string d], .string r, .int .i64 0]) ∧ Below W.heap.size W w') (g : Hid ((lo.toList.isEmpty = false) ∨ (lo.toList.isEmpty = true ∧ d.toList.isEmpty = false))) (hE : r.toList.isEmpty = false) (hr : 0 < r.size) (q : (((r[0].toNat : Int) == 32) : Bool) = true) (n : Int) (cz : ∀ W, Calls Tryz.prog 123 #[.string r] W fun e w' => (∃ v, e = .returned (.tuple #[.int .i64 v, .bool false]) ∧ (false = true → v = n)) ∧ Below W.heap.size W w') (w : World) :
    Calls Tryz.prog 78 #[.int .i64 4, .string s] w fun e w' => e = .returned (cmdV (cmdE 555)) ∧ Below w.heap.size w w' := by
  have i1 : (4 : Int) ≤ (s.size : Int) := by omega
  have i0 : (0 : Int) < (r.size : Int) := by omega
  rcases g.out with g1 | ⟨g1, g2⟩
  all_goals
    go_enter Tryz.func78, Tryz.ntmps78
    go_wp2_with (first | (go_at_call 120; refine (cf _).mono ?_; rintro e w1 ⟨rfl, HB1⟩; have C1 := Lib.hid (cm_new HB1); have B1 := Lib.hid (belowT (belowA (Below.refl _ _) _) HB1)) | (go_at_call 122; refine (ctr _).mono ?_; rintro e w' ⟨rfl, rfl⟩) | (go_at_call 121; refine (cp _).mono ?_; rintro e w2 ⟨rfl, HB2⟩; have C2 := Lib.hid (C1.out.below HB2); have B2 := Lib.hid (belowT B1.out HB2)) | (go_at_call 123; refine (cz _).mono ?_; rintro e w3 ⟨⟨v, rfl, hv⟩, HB3⟩; have HV := Lib.hid hv; clear hv; have C3 := Lib.hid (((C2.out.alloc _).alloc _).below HB3); have B3 := Lib.hid (belowT (belowA (belowA B2.out _) _) HB3); have D3 := cm_new2 HB3; obtain ⟨q0, q1, q2, q3, q4, q5, q6, q7, q8, q9⟩ := C3.out; obtain ⟨z0, z1, z2, z3, z4, z5, z6, z7, z8, z9⟩ := D3; have hlt2 := C2.out.lt; have hne1 : ¬ w.heap.size = w2.heap.size + 1 := (by omega); have hne2 : ¬ w2.heap.size + 1 = w.heap.size := (by omega); clear hlt2))
    (try simp only [Exit.inBlock, Exit.then])
    refine bodyPost_ret (results_ct5 rfl _ _ w.heap.size _ rfl ((C3.out).put (.int .i64 0) (.string ⟨#[]⟩) (.string ⟨#[]⟩) (.string ⟨#[]⟩) (.int .i64 0)) Tryz.underlying60 rfl (by kernel_rfl)) rfl ?_
    refine ⟨?_, putC_below (B3.out) (Nat.le_refl _) _ _ _ _ _⟩
    rfl

set_option maxHeartbeats 8000000 in
set_option maxRecDepth 100000 in
theorem rp4_par2 (s t u lo d r : ByteArray) (hs : s.size ≤ 2000000000) (hn : 4 ≤ s.size) (ht : s.extract 4 s.size = t) (cf : ∀ W, Calls Tryz.prog 120 #[.string s, .string ⟨#[32, 116, 111, 58]⟩] W fun e w' => e = .returned (.bool true) ∧ Below W.heap.size W w') (ctr : ∀ W, Calls Tryz.prog 122 #[.string t] W fun e w' => e = .returned (.string u) ∧ W = w') (cp : ∀ W, Calls Tryz.prog 121 #[.string u] W fun e w' => e = .returned (.tuple #[.agg #[.string lo, .string d], .string r, .int .i64 0]) ∧ Below W.heap.size W w') (g : Hid ((lo.toList.isEmpty = false) ∨ (lo.toList.isEmpty = true ∧ d.toList.isEmpty = false))) (hE : r.toList.isEmpty = false) (hr : 0 < r.size) (q : (((r[0].toNat : Int) == 32) : Bool) = true) (n : Int) (cz : ∀ W, Calls Tryz.prog 123 #[.string r] W fun e w' => (∃ v, e = .returned (.tuple #[.int .i64 v, .bool true]) ∧ (true = true → v = n)) ∧ Below W.heap.size W w') (w : World) :
    Calls Tryz.prog 78 #[.int .i64 4, .string s] w fun e w' => e = .returned (cmdV (cmdE 555)) ∧ Below w.heap.size w w' := by
  have i1 : (4 : Int) ≤ (s.size : Int) := by omega
  have i0 : (0 : Int) < (r.size : Int) := by omega
  rcases g.out with g1 | ⟨g1, g2⟩
  all_goals
    go_enter Tryz.func78, Tryz.ntmps78
    go_wp2_with (first | (go_at_call 120; refine (cf _).mono ?_; rintro e w1 ⟨rfl, HB1⟩; have C1 := Lib.hid (cm_new HB1); have B1 := Lib.hid (belowT (belowA (Below.refl _ _) _) HB1)) | (go_at_call 122; refine (ctr _).mono ?_; rintro e w' ⟨rfl, rfl⟩) | (go_at_call 121; refine (cp _).mono ?_; rintro e w2 ⟨rfl, HB2⟩; have C2 := Lib.hid (C1.out.below HB2); have B2 := Lib.hid (belowT B1.out HB2)) | (go_at_call 123; refine (cz _).mono ?_; rintro e w3 ⟨⟨v, rfl, hv⟩, HB3⟩; have HV := Lib.hid hv; clear hv; have C3 := Lib.hid (((C2.out.alloc _).alloc _).below HB3); have B3 := Lib.hid (belowT (belowA (belowA B2.out _) _) HB3); have D3 := cm_new2 HB3; obtain ⟨q0, q1, q2, q3, q4, q5, q6, q7, q8, q9⟩ := C3.out; obtain ⟨z0, z1, z2, z3, z4, z5, z6, z7, z8, z9⟩ := D3; have hlt2 := C2.out.lt; have hne1 : ¬ w.heap.size = w2.heap.size + 1 := (by omega); have hne2 : ¬ w2.heap.size + 1 = w.heap.size := (by omega); clear hlt2))
    (try simp only [Exit.inBlock, Exit.then])
    refine bodyPost_ret (results_ct5 rfl _ _ w.heap.size _ rfl ((C3.out).put (.int .i64 0) (.string ⟨#[]⟩) (.string ⟨#[]⟩) (.string ⟨#[]⟩) (.int .i64 0)) Tryz.underlying60 rfl (by kernel_rfl)) rfl ?_
    refine ⟨?_, putC_below (B3.out) (Nat.le_refl _) _ _ _ _ _⟩
    rfl

set_option maxHeartbeats 8000000 in
set_option maxRecDepth 100000 in
theorem rp4_no (s t u lo d r : ByteArray) (hs : s.size ≤ 2000000000) (hn : 4 ≤ s.size) (ht : s.extract 4 s.size = t) (cf : ∀ W, Calls Tryz.prog 120 #[.string s, .string ⟨#[32, 116, 111, 58]⟩] W fun e w' => e = .returned (.bool true) ∧ Below W.heap.size W w') (ctr : ∀ W, Calls Tryz.prog 122 #[.string t] W fun e w' => e = .returned (.string u) ∧ W = w') (cp : ∀ W, Calls Tryz.prog 121 #[.string u] W fun e w' => e = .returned (.tuple #[.agg #[.string lo, .string d], .string r, .int .i64 0]) ∧ Below W.heap.size W w') (g : Hid ((lo.toList.isEmpty = false) ∨ (lo.toList.isEmpty = true ∧ d.toList.isEmpty = false))) (hE : r.toList.isEmpty = false) (hr : 0 < r.size) (q : (((r[0].toNat : Int) == 32) : Bool) = false) (n : Int) (cz : ∀ W, Calls Tryz.prog 123 #[.string r] W fun e w' => (∃ v, e = .returned (.tuple #[.int .i64 v, .bool false]) ∧ (false = true → v = n)) ∧ Below W.heap.size W w') (w : World) :
    Calls Tryz.prog 78 #[.int .i64 4, .string s] w fun e w' => e = .returned (cmdV (cmdE 501)) ∧ Below w.heap.size w w' := by
  have i1 : (4 : Int) ≤ (s.size : Int) := by omega
  have i0 : (0 : Int) < (r.size : Int) := by omega
  rcases g.out with g1 | ⟨g1, g2⟩
  all_goals
    go_enter Tryz.func78, Tryz.ntmps78
    go_wp2_with (first | (go_at_call 120; refine (cf _).mono ?_; rintro e w1 ⟨rfl, HB1⟩; have C1 := Lib.hid (cm_new HB1); have B1 := Lib.hid (belowT (belowA (Below.refl _ _) _) HB1)) | (go_at_call 122; refine (ctr _).mono ?_; rintro e w' ⟨rfl, rfl⟩) | (go_at_call 121; refine (cp _).mono ?_; rintro e w2 ⟨rfl, HB2⟩; have C2 := Lib.hid (C1.out.below HB2); have B2 := Lib.hid (belowT B1.out HB2)) | (go_at_call 123; refine (cz _).mono ?_; rintro e w3 ⟨⟨v, rfl, hv⟩, HB3⟩; have HV := Lib.hid hv; clear hv; have C3 := Lib.hid (((C2.out.alloc _).alloc _).below HB3); have B3 := Lib.hid (belowT (belowA (belowA B2.out _) _) HB3); have D3 := cm_new2 HB3; obtain ⟨q0, q1, q2, q3, q4, q5, q6, q7, q8, q9⟩ := C3.out; obtain ⟨z0, z1, z2, z3, z4, z5, z6, z7, z8, z9⟩ := D3; have hlt2 := C2.out.lt; have hne1 : ¬ w.heap.size = w2.heap.size + 1 := (by omega); have hne2 : ¬ w2.heap.size + 1 = w.heap.size := (by omega); clear hlt2))
    (try simp only [Exit.inBlock, Exit.then])
    refine bodyPost_ret (results_ct5 rfl _ _ w.heap.size _ rfl ((C3.out).put (.int .i64 0) (.string ⟨#[]⟩) (.string ⟨#[]⟩) (.string ⟨#[]⟩) (.int .i64 0)) Tryz.underlying60 rfl (by kernel_rfl)) rfl ?_
    refine ⟨?_, putC_below (B3.out) (Nat.le_refl _) _ _ _ _ _⟩
    rfl

set_option maxHeartbeats 8000000 in
set_option maxRecDepth 100000 in
theorem rp4_no2 (s t u lo d r : ByteArray) (hs : s.size ≤ 2000000000) (hn : 4 ≤ s.size) (ht : s.extract 4 s.size = t) (cf : ∀ W, Calls Tryz.prog 120 #[.string s, .string ⟨#[32, 116, 111, 58]⟩] W fun e w' => e = .returned (.bool true) ∧ Below W.heap.size W w') (ctr : ∀ W, Calls Tryz.prog 122 #[.string t] W fun e w' => e = .returned (.string u) ∧ W = w') (cp : ∀ W, Calls Tryz.prog 121 #[.string u] W fun e w' => e = .returned (.tuple #[.agg #[.string lo, .string d], .string r, .int .i64 0]) ∧ Below W.heap.size W w') (g : Hid ((lo.toList.isEmpty = false) ∨ (lo.toList.isEmpty = true ∧ d.toList.isEmpty = false))) (hE : r.toList.isEmpty = false) (hr : 0 < r.size) (q : (((r[0].toNat : Int) == 32) : Bool) = false) (n : Int) (cz : ∀ W, Calls Tryz.prog 123 #[.string r] W fun e w' => (∃ v, e = .returned (.tuple #[.int .i64 v, .bool true]) ∧ (true = true → v = n)) ∧ Below W.heap.size W w') (w : World) :
    Calls Tryz.prog 78 #[.int .i64 4, .string s] w fun e w' => e = .returned (cmdV (cmdE 501)) ∧ Below w.heap.size w w' := by
  have i1 : (4 : Int) ≤ (s.size : Int) := by omega
  have i0 : (0 : Int) < (r.size : Int) := by omega
  rcases g.out with g1 | ⟨g1, g2⟩
  all_goals
    go_enter Tryz.func78, Tryz.ntmps78
    go_wp2_with (first | (go_at_call 120; refine (cf _).mono ?_; rintro e w1 ⟨rfl, HB1⟩; have C1 := Lib.hid (cm_new HB1); have B1 := Lib.hid (belowT (belowA (Below.refl _ _) _) HB1)) | (go_at_call 122; refine (ctr _).mono ?_; rintro e w' ⟨rfl, rfl⟩) | (go_at_call 121; refine (cp _).mono ?_; rintro e w2 ⟨rfl, HB2⟩; have C2 := Lib.hid (C1.out.below HB2); have B2 := Lib.hid (belowT B1.out HB2)) | (go_at_call 123; refine (cz _).mono ?_; rintro e w3 ⟨⟨v, rfl, hv⟩, HB3⟩; have HV := Lib.hid hv; clear hv; have C3 := Lib.hid (((C2.out.alloc _).alloc _).below HB3); have B3 := Lib.hid (belowT (belowA (belowA B2.out _) _) HB3); have D3 := cm_new2 HB3; obtain ⟨q0, q1, q2, q3, q4, q5, q6, q7, q8, q9⟩ := C3.out; obtain ⟨z0, z1, z2, z3, z4, z5, z6, z7, z8, z9⟩ := D3; have hlt2 := C2.out.lt; have hne1 : ¬ w.heap.size = w2.heap.size + 1 := (by omega); have hne2 : ¬ w2.heap.size + 1 = w.heap.size := (by omega); clear hlt2))
    (try simp only [Exit.inBlock, Exit.then])
    refine bodyPost_ret (results_ct5 rfl _ _ w.heap.size _ rfl ((C3.out).put (.int .i64 0) (.string ⟨#[]⟩) (.string ⟨#[]⟩) (.string ⟨#[]⟩) (.int .i64 0)) Tryz.underlying60 rfl (by kernel_rfl)) rfl ?_
    refine ⟨?_, putC_below (B3.out) (Nat.le_refl _) _ _ _ _ _⟩
    rfl
end Go.Proofs.YtkmikhinkbbnnaaGreatDoor.M
