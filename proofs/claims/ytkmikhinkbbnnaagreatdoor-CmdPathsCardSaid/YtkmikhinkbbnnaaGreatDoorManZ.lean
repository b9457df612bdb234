/- Package addr: addresses told, by hand. -/
import Derived.Test.YtkmikhinkbbnnaaGreatDoorManY
namespace Go.Proofs.YtkmikhinkbbnnaaGreatDoor.M
open Go.RowKit Go.Proofs.YtkmikhinkbbnnaaGreatDoor.Sp

theorem tl_nil {s : ByteArray} : (s.toList = []) = (s.data.toList = []) := by rw [Go.ByteArray.toList_eq]

theorem isE_no {l : List UInt8} (h : ¬ l = []) : l.isEmpty = false := by cases l with | nil => exact absurd rfl h | cons _ _ => rfl
theorem cellNew {w w1 : World} {cs : Array Value} {t : TypeId} (HB : Below (w.alloc (.cells cs t)).heap.size (w.alloc (.cells cs t)) w1) (j : Nat) {v : Value} (h : cs[j]? = some v) : w1.cell? ⟨w.heap.size, j, none⟩ = some v := by
  rw [HB.cell (by show w.heap.size < (w.heap.push _).size; simp), World.cell?_alloc_new]
  exact h
theorem bstr {a : ByteArray} {l : List UInt8} (h : a.data.toList = l) : a = ⟨l.toArray⟩ := Go.WideShapes.bytes_inj (by rw [h])

theorem ownB_form1 {w : World} {base : Nat} {v : Value} {l : List UInt8} {b : UInt8} (h : OwnB w base v (l ++ [b])) : ∃ a c, v = .slice a (l.length + 1) c ∧ l.length + 1 ≤ 9223372036854775807 := by
  obtain ⟨a, c, rfl, h2⟩ := ownB_form h
  rw [List.length_append] at h2
  exact ⟨a, c, by rw [List.length_append]; rfl, h2⟩

theorem null_any (lo d : ByteArray) (w : World) :
    Calls Tryz.prog 79 #[.agg #[.string lo, .string d]] w fun e w' => e = .returned (.bool (nullB lo.data.toList d.data.toList)) ∧ Below w.heap.size w w' := by
  by_cases h1 : lo.data.toList = []
  · have g1 : lo.toList = [] := by rw [tl_nil]; exact h1
    by_cases h2 : d.data.toList = []
    · have g2 : d.toList = [] := by rw [tl_nil]; exact h2
      go_enter Tryz.func79, Tryz.ntmps79
      go_wp2
      go_ret
      exact ⟨ret_bool (by rw [h1, h2]; rfl), belowA (Below.refl _ _) _⟩
    · have g2 : ¬ d.toList = [] := by rw [tl_nil]; exact h2
      go_enter Tryz.func79, Tryz.ntmps79
      go_wp2
      go_ret
      exact ⟨ret_bool (by rw [nullB, isE_no h2, Bool.and_false]), belowA (Below.refl _ _) _⟩
  · have g1 : ¬ lo.toList = [] := by rw [tl_nil]; exact h1
    go_enter Tryz.func79, Tryz.ntmps79
    go_wp2
    go_ret
    exact ⟨ret_bool (by rw [nullB, isE_no h1]; rfl), belowA (Below.refl _ _) _⟩

set_option maxHeartbeats 8000000 in
set_option maxRecDepth 100000 in
theorem told_plain (lo d : ByteArray) (hl : lo.size ≤ 4000000000) (hd : d.size ≤ 4000000000) (hp : plainB lo.data.toList = true) (w : World) (hGL : GL w) :
    Calls Tryz.prog 81 #[.agg #[.string lo, .string d]] w fun e w' => e = .returned (.string ⟨(toldL lo.data.toList d.data.toList).toArray⟩) ∧ Below w.heap.size w w' := by
  have cp := fun W (h : GL W) => plain_any lo (by omega) W h
  rw [hp] at cp
  go_enter Tryz.func81, Tryz.ntmps81
  go_wp2_with (go_at_call 126; refine (cp _ (hGL.step (belowA (Below.refl _ _) _))).mono ?_; rintro e w1 ⟨rfl, HB⟩; have hc1 : w1.cell? ⟨w.heap.size, 1, none⟩ = some (.string d) := cellNew HB 1 rfl)
  go_ret
  refine ⟨?_, (belowT (belowA (Below.refl _ _) _) HB)⟩
  exact congrArg (fun z => Ending.returned (.string z)) (bstr (by simp [toldL, hp, ByteArray.data_append]))

set_option maxHeartbeats 8000000 in
set_option maxRecDepth 100000 in
theorem told_quoted (lo d : ByteArray) (hl : lo.size ≤ 4000000000) (hd : d.size ≤ 4000000000) (hp : plainB lo.data.toList = false) (w : World) (hGL : GL w) :
    Calls Tryz.prog 81 #[.agg #[.string lo, .string d]] w fun e w' => e = .returned (.string ⟨(toldL lo.data.toList d.data.toList).toArray⟩) ∧ Below w.heap.size w w' := by
  have hlen0 := len_eq lo
  have cp := fun W (h : GL W) => plain_any lo (by omega) W h
  rw [hp] at cp
  go_enter Tryz.func81, Tryz.ntmps81
  go_wp2_with (go_at_call 126; refine (cp _ (hGL.step (belowA (Below.refl _ _) _))).mono ?_; rintro e w1 ⟨rfl, HB⟩; have hc1 : w1.cell? ⟨w.heap.size, 1, none⟩ = some (.string d) := cellNew HB 1 rfl)
  have hsz : w.heap.size < w1.heap.size := by have := HB.size; simp at this; omega
  have HL := Lib.hid hlen0
  clear hlen0
  go_loopw [4, 5, 14] (fun b _ i wr => ∃ (k : Nat) (acc : List UInt8) (bv : Value), k ≤ lo.size ∧ acc.length ≤ 2 * k + 1 ∧ i = .int .i64 k ∧ bv = b ∧ Hid (OwnB wr w1.heap.size bv acc) ∧ Hid (Below w1.heap.size w1 wr) ∧ Hid (acc = [34] ++ quoteL (lo.data.toList.take k))) (fun _ _ i _ => lo.size - (intOf i).toNat)
  case atStart => exact ⟨0, [34], _, by omega, by simp, rfl, rfl, Lib.hid (ownB_lit w1 w1.heap.size [34] (Nat.le_refl _) (by decide)), Lib.hid (belowA (Below.refl _ _) _), Lib.hid rfl⟩
  case round =>
    obtain ⟨k, acc, bv, hk, hacc, rfl, rfl, HO, HB2, HQ⟩ := hrel
    by_cases hlt : k < lo.size
    · have HT := Lib.hid (take_get lo k hlt)
      have hstep : ∀ m : List UInt8, (if lo[k] = 34 ∨ lo[k] = 92 then [92, lo[k]] else [lo[k]]) = m → Hid (acc ++ m = [34] ++ quoteL (lo.data.toList.take (k + 1))) := fun m hm => Lib.hid (by rw [HT.out, HQ.out, ← hm]; simp [quoteL])
      by_cases h34 : lo[k] = 34
      · have q0 : (((lo[k].toNat : Int) == 34) : Bool) = true := u8_lit lo[k] 34 h34
        have hst := hstep _ (if_pos (.inl h34))
        clear h34 hstep
        go_wp2_with (first | (at_builtin; refine appB1 w1.heap.size rfl _ _ rfl bv acc 92 rfl rfl HO.out (Below.size HB2.out) (by omega) ?_; intro v1 w2 HO1 HB1; have hl92 : (acc ++ [92]).length ≤ 2 * k + 2 := by (rw [List.length_append]; simp; omega)) | (at_builtin; refine appB1 w1.heap.size rfl _ _ rfl v1 (acc ++ [92]) lo[k] rfl rfl HO1 (Nat.le_trans (Below.size HB2.out) (Below.size HB1)) (by omega) ?_; intro v2 w3 HO2 HB3))
        go_roundw
        case rel => exact ⟨k + 1, acc ++ [92] ++ [lo[k]], v2, by omega, by rw [List.length_append]; simp; omega, by go_num, rfl, Lib.hid HO2, Lib.hid ((HB2.out.trans HB1).trans HB3), Lib.hid (by rw [List.append_assoc]; exact hst.out)⟩
        case measure => simp [intOf]; omega
      · by_cases h92 : lo[k] = 92
        · have q0 : (((lo[k].toNat : Int) == 34) : Bool) = false := u8_nlit lo[k] 34 h34
          have q1 : (((lo[k].toNat : Int) == 92) : Bool) = true := u8_lit lo[k] 92 h92
          have hst := hstep _ (if_pos (.inr h92))
          clear h34 h92 hstep
          go_wp2_with (first | (at_builtin; refine appB1 w1.heap.size rfl _ _ rfl bv acc 92 rfl rfl HO.out (Below.size HB2.out) (by omega) ?_; intro v1 w2 HO1 HB1; have hl92 : (acc ++ [92]).length ≤ 2 * k + 2 := by (rw [List.length_append]; simp; omega)) | (at_builtin; refine appB1 w1.heap.size rfl _ _ rfl v1 (acc ++ [92]) lo[k] rfl rfl HO1 (Nat.le_trans (Below.size HB2.out) (Below.size HB1)) (by omega) ?_; intro v2 w3 HO2 HB3))
          go_roundw
          case rel => exact ⟨k + 1, acc ++ [92] ++ [lo[k]], v2, by omega, by rw [List.length_append]; simp; omega, by go_num, rfl, Lib.hid HO2, Lib.hid ((HB2.out.trans HB1).trans HB3), Lib.hid (by rw [List.append_assoc]; exact hst.out)⟩
          case measure => simp [intOf]; omega
        · have q0 : (((lo[k].toNat : Int) == 34) : Bool) = false := u8_nlit lo[k] 34 h34
          have q1 : (((lo[k].toNat : Int) == 92) : Bool) = false := u8_nlit lo[k] 92 h92
          have hst := hstep _ (if_neg (fun e => e.elim h34 h92))
          clear h34 h92 hstep
          go_wp2_with (at_builtin; refine appB1 w1.heap.size rfl _ _ rfl bv acc lo[k] rfl rfl HO.out (Below.size HB2.out) (by omega) ?_; intro v1 w2 HO1 HB1)
          go_roundw
          case rel => exact ⟨k + 1, acc ++ [lo[k]], v1, by omega, by rw [List.length_append]; simp; omega, by go_num, rfl, Lib.hid HO1, Lib.hid (HB2.out.trans HB1), hst⟩
          case measure => simp [intOf]; omega
    · have hfin : Hid (acc ++ [34] = [34] ++ quoteL lo.data.toList ++ [34]) := Lib.hid (by rw [HQ.out, List.take_of_length_le (by rw [HL.out]; omega)])
      go_wp2_with (at_builtin; refine appB1 w1.heap.size rfl _ _ rfl bv acc 34 rfl rfl HO.out (Below.size HB2.out) (by omega) ?_; intro v1 w2 HO1 HB1; have hcv := ownB_string HO1; have hc2 : w2.cell? ⟨w.heap.size, 1, none⟩ = some (.string d) := ((HB2.out.trans HB1).cell hsz).trans hc1; obtain ⟨pa, pc, rfl, hlen⟩ := ownB_form1 HO1)
      go_ret
      refine ⟨?_, belowT (belowT (belowA (Below.refl _ _) _) HB) (HB2.out.trans HB1)⟩
      exact congrArg (fun z => Ending.returned (.string z)) (bstr (by rw [hfin.out]; simp [toldL, hp, ByteArray.data_append]))
end Go.Proofs.YtkmikhinkbbnnaaGreatDoor.M
