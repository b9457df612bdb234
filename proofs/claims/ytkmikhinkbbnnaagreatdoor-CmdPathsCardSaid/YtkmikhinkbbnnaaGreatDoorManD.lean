/- Package addr: numbers, texts cut at dots, shapes of domains, by hand. -/
import Derived.Test.YtkmikhinkbbnnaaGreatDoorManC
import Derived.Lib.ItoaLen
import Derived.Shelf.Strconv.ErrVarAll
import Derived.Lib.AtoiAllCases
import Derived.Lib.AtoiErrMem
namespace Go.Proofs.YtkmikhinkbbnnaaGreatDoor.M
open Go.RowKit Go.Proofs.YtkmikhinkbbnnaaGreatDoor.Sp

def AtoiBad (e : Ending) : Prop := ∃ (v : Int) (tp : TypeId) (N : Nat), e = .returned (.tuple #[.int .i64 v, .iface tp (.pointer (some ⟨N, 0, none⟩))])

theorem below_bytesWorld (w : World) (e : TypeId) (s : ByteArray) : Below w.heap.size w (Lib.bytesWorld w e s) := Lib.bytesWorld_below w e s

theorem atoi_ok (s : ByteArray) (hs : s.size ≤ 140737488355328) (v : Int) (h : Lib.atoiAll s.data.toList = .ok v) (w : World) :
    Calls Tryz.prog 155 #[.string s] w fun e w' => e = .returned (.tuple #[.int .i64 v, .nilIface]) ∧ Below w.heap.size w w' :=
  (Tryz.strconv_Atoi_ok s (by omega) v h w).mono fun _ _ ⟨he, hw⟩ => ⟨he, by
    rcases hw with rfl | ⟨t, rfl⟩
    · exact Below.refl _ _
    · exact below_bytesWorld _ _ _⟩

theorem atoi_bad (s : ByteArray) (hs : s.size ≤ 140737488355328) (h : ∀ v, Lib.atoiAll s.data.toList ≠ .ok v) (w : World) (hGL : GL w) :
    Calls Tryz.prog 155 #[.string s] w fun e w' => AtoiBad e ∧ Below w.heap.size w w' := by
  obtain ⟨t3, p3, h3⟩ := hGL.syn
  obtain ⟨t4, p4, h4⟩ := hGL.rng
  cases hA : Lib.atoiAll s.data.toList with
  | ok v => exact absurd hA (h v)
  | _ =>
    first
    | exact (Any.strconv_Atoi_syntax_var Tryz.laysC172 s (by omega) hA t3 p3 w h3).mono fun _ _ ⟨N, he, _, _, hb⟩ => ⟨⟨_, _, N, he⟩, hb⟩
    | exact (Any.strconv_Atoi_range_var Tryz.laysC172 s (by omega) hA t4 p4 w h4).mono fun _ _ ⟨N, he, _, _, hb⟩ => ⟨⟨_, _, N, he⟩, hb⟩

theorem itoa_any (n : Int) (h0 : -9223372036854775808 ≤ n) (h1 : n ≤ 9223372036854775807) (w : World) (hGL : GL w) :
    Calls Tryz.prog 47 #[.int .i64 n] w fun e w' => e = .returned (.string ⟨(Lib.itoa n).toArray⟩) ∧ Below w.heap.size w w' :=
  (Tryz.strconv_Itoa n h0 h1 w hGL.pow).mono fun _ _ ⟨he, k, os, hw⟩ => ⟨he, by rw [hw]; exact belowG k os⟩

theorem str_eq (a b : ByteArray) : (a.toList == b.toList) = (a.data.toList == b.data.toList) := by rw [Go.ByteArray.toList_eq, Go.ByteArray.toList_eq]

theorem number_any (s : ByteArray) (hs : s.size ≤ 140737488355328) (w : World) (hGL : GL w) :
    Calls Tryz.prog 128 #[.string s] w fun e w' => e = .returned (.bool (numberB s.data.toList)) ∧ Below w.heap.size w w' := by
  by_cases h : ∃ v, Lib.atoiAll s.data.toList = .ok v
  · obtain ⟨v, hv⟩ := h
    have hc := atoi_ok s hs v hv
    have hlo : -9223372036854775808 ≤ v ∧ v ≤ 9223372036854775807 := Lib.atoiAll_bounds hv
    have fin : Hid (numberB s.data.toList = (decide (0 ≤ v) && decide (v ≤ 255) && Lib.itoa v == s.data.toList)) := Lib.hid (by rw [numberB, hv])
    clear hv
    by_cases h0 : 0 ≤ v
    · by_cases h1 : v ≤ 255
      · have hi := itoa_any v hlo.1 hlo.2
        have hq : (((⟨(Lib.itoa v).toArray⟩ : ByteArray).toList == s.toList) : Bool) = (Lib.itoa v == s.data.toList) := str_eq _ _
        generalize hB : (Lib.itoa v == s.data.toList) = B at hq fin
        generalize hZ : (⟨(Lib.itoa v).toArray⟩ : ByteArray) = Z at hi hq
        have HG := Lib.hid hGL
        clear hB hZ hGL
        have d0 : decide (0 ≤ v) = true := decide_eq_true h0
        have d1 : decide (v ≤ 255) = true := decide_eq_true h1
        rw [d0, d1] at fin
        go_enter Tryz.func128, Tryz.ntmps128
        go_wp2_with (first | (go_at_call 155; refine (hc _).mono ?_; rintro e w1 ⟨rfl, hb1⟩) | (go_at_call 47; refine (hi _ (HG.out.step hb1)).mono ?_; rintro e w2 ⟨rfl, hb2⟩))
        go_ret
        exact ⟨ret_bool fin.out.symm, belowT hb1 hb2⟩
      · have d0 : decide (0 ≤ v) = true := decide_eq_true h0
        have d1 : decide (v ≤ 255) = false := decide_eq_false h1
        rw [d0, d1] at fin
        go_enter Tryz.func128, Tryz.ntmps128
        go_wp2_with (go_at_call 155; refine (hc _).mono ?_; rintro e w1 ⟨rfl, hb1⟩)
        go_ret
        exact ⟨ret_bool fin.out.symm, hb1⟩
    · have d0 : decide (0 ≤ v) = false := decide_eq_false h0
      rw [d0] at fin
      go_enter Tryz.func128, Tryz.ntmps128
      go_wp2_with (go_at_call 155; refine (hc _).mono ?_; rintro e w1 ⟨rfl, hb1⟩)
      go_ret
      exact ⟨ret_bool fin.out.symm, hb1⟩
  · have hno : ∀ v, Lib.atoiAll s.data.toList ≠ .ok v := fun v hv => h ⟨v, hv⟩
    have hc := atoi_bad s hs hno
    have fin : Hid (numberB s.data.toList = false) := Lib.hid (by
      unfold numberB
      split
      · rename_i v hv; exact absurd hv (hno v)
      · rfl)
    clear h hno
    go_enter Tryz.func128, Tryz.ntmps128
    go_wp2_with (go_at_call 155; refine (hc _ hGL).mono ?_; rintro e w1 ⟨⟨v, tp, N, rfl⟩, hb1⟩)
    go_ret
    exact ⟨ret_bool fin.out.symm, hb1⟩
end Go.Proofs.YtkmikhinkbbnnaaGreatDoor.M
