/- Package addr: which addresses are, and their texts, by hand. -/
import Derived.Test.YtkmikhinkbbnnaaGreatDoorManZ
namespace Go.Proofs.YtkmikhinkbbnnaaGreatDoor.M
open Go.RowKit Go.Proofs.YtkmikhinkbbnnaaGreatDoor.Sp

def tld (lo d : ByteArray) : ByteArray := ⟨(toldL lo.data.toList d.data.toList).toArray⟩
theorem tld_size (lo d : ByteArray) : (tld lo d).size = (toldL lo.data.toList d.data.toList).length := by
  rw [← len_eq]; simp [tld]
theorem told_any (lo d : ByteArray) (hl : lo.size ≤ 4000000000) (hd : d.size ≤ 4000000000) (w : World) (hGL : GL w) :
    Calls Tryz.prog 81 #[.agg #[.string lo, .string d]] w fun e w' => e = .returned (.string (tld lo d)) ∧ Below w.heap.size w w' := by
  cases hp : plainB lo.data.toList with
  | true => exact told_plain lo d hl hd hp w hGL
  | false => exact told_quoted lo d hl hd hp w hGL

set_option maxHeartbeats 8000000 in
set_option maxRecDepth 100000 in
theorem right_any (lo d : ByteArray) (hl : lo.size ≤ 4000000000) (hd : d.size ≤ 4000000000) (w : World) (hGL : GL w) :
    Calls Tryz.prog 28 #[.agg #[.string lo, .string d]] w fun e w' => e = .returned (.bool (rightB lo.data.toList d.data.toList)) ∧ Below w.heap.size w w' := by
  have cn := fun W => null_any lo d W
  have cl := fun W => local_any lo (by omega) W
  have cd := fun W (h : GL W) => domain_any d (by omega) W h
  have ct := fun W (h : GL W) => told_any lo d hl hd W h
  have HS : Hid (rightB lo.data.toList d.data.toList = (nullB lo.data.toList d.data.toList || (localB lo.data.toList && domainB d.data.toList && decide ((tld lo d).size ≤ 256)))) := Lib.hid (by rw [tld_size]; rfl)
  generalize nullB lo.data.toList d.data.toList = n at cn HS
  generalize localB lo.data.toList = l at cl HS
  generalize domainB d.data.toList = m at cd HS
  generalize tld lo d = t at ct HS
  cases n with
  | true =>
    go_enter Tryz.func28, Tryz.ntmps28
    go_wp2_with (go_at_call 79; refine (cn _).mono ?_; rintro e w1 ⟨rfl, HB⟩)
    go_ret
    exact ⟨ret_bool (by rw [HS.out]; rfl), belowT (belowA (Below.refl _ _) _) HB⟩
  | false => cases l with
    | false =>
      go_enter Tryz.func28, Tryz.ntmps28
      go_wp2_with (first | (go_at_call 79; refine (cn _).mono ?_; rintro e w1 ⟨rfl, HB⟩; have hc0 : w1.cell? ⟨w.heap.size, 0, none⟩ = some (.string lo) := cellNew HB 0 rfl) | (go_at_call 80; refine (cl _).mono ?_; rintro e w2 ⟨rfl, rfl⟩))
      go_ret
      exact ⟨ret_bool (by rw [HS.out]; rfl), belowT (belowA (Below.refl _ _) _) HB⟩
    | true => cases m with
      | false =>
        go_enter Tryz.func28, Tryz.ntmps28
        go_wp2_with (first | (go_at_call 79; refine (cn _).mono ?_; rintro e w1 ⟨rfl, HB⟩; have hc0 : w1.cell? ⟨w.heap.size, 0, none⟩ = some (.string lo) := cellNew HB 0 rfl; have hc1 : w1.cell? ⟨w.heap.size, 1, none⟩ = some (.string d) := cellNew HB 1 rfl; have HB0 : Below w.heap.size w w1 := belowT (belowA (Below.refl _ _) _) HB) | (go_at_call 80; refine (cl _).mono ?_; rintro e w2 ⟨rfl, rfl⟩) | (go_at_call 41; refine (cd _ (hGL.step HB0)).mono ?_; rintro e w2 ⟨rfl, HB2⟩))
        go_ret
        exact ⟨ret_bool (by rw [HS.out]; rfl), belowT HB0 HB2⟩
      | true =>
        go_enter Tryz.func28, Tryz.ntmps28
        go_wp2_with (first | (go_at_call 79; refine (cn _).mono ?_; rintro e w1 ⟨rfl, HB⟩; have hc0 : w1.cell? ⟨w.heap.size, 0, none⟩ = some (.string lo) := cellNew HB 0 rfl; have hc1 : w1.cell? ⟨w.heap.size, 1, none⟩ = some (.string d) := cellNew HB 1 rfl; have HB0 : Below w.heap.size w w1 := belowT (belowA (Below.refl _ _) _) HB) | (go_at_call 80; refine (cl _).mono ?_; rintro e w2 ⟨rfl, rfl⟩) | (go_at_call 41; refine (cd _ (hGL.step HB0)).mono ?_; rintro e w2 ⟨rfl, HB2⟩; have hc2 := (HB2.cell (p := ⟨w.heap.size, 0, none⟩) (by have := HB.size; simp at this; show w.heap.size < _; omega)).trans hc0; have hc3 := (HB2.cell (p := ⟨w.heap.size, 1, none⟩) (by have := HB.size; simp at this; show w.heap.size < _; omega)).trans hc1) | (go_at_call 81; refine (ct _ (hGL.step (belowT HB0 HB2))).mono ?_; rintro e w3 ⟨rfl, HB3⟩))
        go_ret
        exact ⟨ret_bool (by rw [HS.out]; simp; omega), belowT (belowT HB0 HB2) HB3⟩

set_option maxHeartbeats 8000000 in
set_option maxRecDepth 100000 in
theorem print_any (lo d : ByteArray) (hl : lo.size ≤ 4000000000) (hd : d.size ≤ 4000000000) (w : World) (hGL : GL w) :
    Calls Tryz.prog 29 #[.agg #[.string lo, .string d]] w fun e w' => e = .returned (.string ⟨(printL lo.data.toList d.data.toList).toArray⟩) ∧ Below w.heap.size w w' := by
  have cn := fun W => null_any lo d W
  have cr := fun W (h : GL W) => right_any lo d hl hd W h
  have ct := fun W (h : GL W) => told_any lo d hl hd W h
  have HS : Hid (printL lo.data.toList d.data.toList = (if nullB lo.data.toList d.data.toList then [60, 62] else if rightB lo.data.toList d.data.toList then (tld lo d).data.toList else [])) := Lib.hid (by simp only [tld]; rfl)
  generalize nullB lo.data.toList d.data.toList = n at cn HS
  generalize rightB lo.data.toList d.data.toList = r at cr HS
  generalize tld lo d = t at ct HS
  cases n with
  | true =>
    go_enter Tryz.func29, Tryz.ntmps29
    go_wp2_with (go_at_call 79; refine (cn _).mono ?_; rintro e w1 ⟨rfl, HB⟩)
    go_ret
    exact ⟨by rw [HS.out]; rfl, belowT (belowA (Below.refl _ _) _) HB⟩
  | false => cases r with
    | false =>
      go_enter Tryz.func29, Tryz.ntmps29
      go_wp2_with (first | (go_at_call 79; refine (cn _).mono ?_; rintro e w1 ⟨rfl, HB⟩; have hc0 : w1.cell? ⟨w.heap.size, 0, none⟩ = some (.string lo) := cellNew HB 0 rfl; have hc1 : w1.cell? ⟨w.heap.size, 1, none⟩ = some (.string d) := cellNew HB 1 rfl; have HB0 : Below w.heap.size w w1 := belowT (belowA (Below.refl _ _) _) HB) | (go_at_call 28; refine (cr _ (hGL.step HB0)).mono ?_; rintro e w2 ⟨rfl, HB2⟩))
      go_ret
      exact ⟨by rw [HS.out]; rfl, belowT HB0 HB2⟩
    | true =>
      go_enter Tryz.func29, Tryz.ntmps29
      go_wp2_with (first | (go_at_call 79; refine (cn _).mono ?_; rintro e w1 ⟨rfl, HB⟩; have hc0 : w1.cell? ⟨w.heap.size, 0, none⟩ = some (.string lo) := cellNew HB 0 rfl; have hc1 : w1.cell? ⟨w.heap.size, 1, none⟩ = some (.string d) := cellNew HB 1 rfl; have HB0 : Below w.heap.size w w1 := belowT (belowA (Below.refl _ _) _) HB) | (go_at_call 28; refine (cr _ (hGL.step HB0)).mono ?_; rintro e w2 ⟨rfl, HB2⟩; have hc2 := (HB2.cell (p := ⟨w.heap.size, 0, none⟩) (by have := HB.size; simp at this; show w.heap.size < _; omega)).trans hc0; have hc3 := (HB2.cell (p := ⟨w.heap.size, 1, none⟩) (by have := HB.size; simp at this; show w.heap.size < _; omega)).trans hc1) | (go_at_call 81; refine (ct _ (hGL.step (belowT HB0 HB2))).mono ?_; rintro e w3 ⟨rfl, HB3⟩))
      go_ret
      exact ⟨by rw [HS.out]; rfl, belowT (belowT HB0 HB2) HB3⟩
end Go.Proofs.YtkmikhinkbbnnaaGreatDoor.M
