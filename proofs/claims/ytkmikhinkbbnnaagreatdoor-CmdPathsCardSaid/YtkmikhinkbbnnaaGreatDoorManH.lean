/- Bytes of the call's own: a text turned into small letters, by hand. -/
import Derived.Test.YtkmikhinkbbnnaaGreatDoorManG
import Derived.Lib.ConvBytes
import Derived.Lib.LazyBuf
import Derived.Laws.BytesArg
namespace Go.Proofs.YtkmikhinkbbnnaaGreatDoor.M
open Go.RowKit Go.Proofs.YtkmikhinkbbnnaaGreatDoor.Sp

/-- Block g holds the bytes l from its begin, none of them frozen. -/
def RowB (w : World) (g : Nat) (l : List UInt8) : Prop := ∀ (j : Nat) (h : j < l.length), w.cell? ⟨g, j, none⟩ = some (.int .u8 (l[j].toNat : Int)) ∧ w.frozen? ⟨g, j, none⟩ = false

theorem rowB_conv (w : World) (e : TypeId) (s : ByteArray) : RowB (Lib.bytesWorld w e s) w.heap.size s.data.toList := fun j h => by
  have hj : j < s.size := by rw [← len_eq]; exact h
  refine ⟨?_, ?_⟩
  · rw [Lib.bytesWorld_cell w e s j hj, List.getD_eq_getElem?_getD, List.getElem?_eq_getElem h]; rfl
  · have hz : s.size ≤ (Lib.bytesCells w e s).size := by
      simp only [Lib.bytesCells, Array.size_append, Array.size_map]
      exact Nat.le_add_right _ _
    unfold World.frozen?
    rw [Lib.bytesWorld_at_new]
    show (decide ((Lib.bytesCells w e s).size ≤ j) && decide (j < (Lib.bytesCells w e s).size + 1)) = false
    rw [decide_eq_false (by omega)]
    rfl

theorem rowB_set {w : World} {g : Nat} {l : List UInt8} (h : RowB w g l) (k : Nat) (hk : k < l.length) (c : UInt8) : RowB (w.setCell ⟨g, k, none⟩ (.int .u8 (c.toNat : Int))) g (l.set k c) := fun j hj => by
  rw [List.length_set] at hj
  refine ⟨?_, ?_⟩
  · by_cases e : k = j
    · subst e
      rw [World.cell?_setCell_same w _ _ (h k hk).1]
      simp
    · rw [World.cell?_setCell_other w _ _ _ (fun x => e (by injection x)), (h j hj).1]
      simp [List.getElem_set_ne e]
  · rw [World.frozen?_setCell]; exact (h j hj).2

theorem rowB_string {w : World} {g n cap : Nat} {l : List UInt8} (h : RowB w g l) (hl : l.length = n) :
    (convert 28 9 (.slice (some ⟨g, 0, none⟩) n cap)).run Tryz.prog w = .ok (.string ⟨l.toArray⟩) w := by
  rw [← Lib.Lz.strOfNums_map l]
  refine run_convert_bytes_arg w 28 5 Tryz.underlying28 Tryz.underlying5 g 0 n cap (l.map fun b => (b.toNat : Int)) (by simpa using hl) (fun i hi => ?_) 9 Tryz.underlying9
  rw [Nat.zero_add, (h i (by omega)).1]
  simp [List.getD_eq_getElem?_getD, List.getElem?_map, List.getElem?_eq_getElem (show i < l.length by omega)]

theorem setCell_below {w W : World} (h : Below w.heap.size w W) {a : Addr} (ha : w.heap.size ≤ a.block) (v : Value) : Below w.heap.size w (W.setCell a v) := h.setCell ha v

/-- The text, its first k bytes as small letters. -/
def lowT (k : Nat) (l : List UInt8) : List UInt8 := (l.take k).map lowerB ++ l.drop k
theorem lowT_zero (l : List UInt8) : lowT 0 l = l := rfl
theorem lowT_all (l : List UInt8) : lowT l.length l = lower l := by simp [lowT, lower]
theorem lowT_length (k : Nat) (l : List UInt8) : (lowT k l).length = l.length := by simp [lowT]; omega
theorem lowT_get (k : Nat) (l : List UInt8) (h : k < l.length) : (lowT k l)[k]'(by rw [lowT_length]; exact h) = l[k] := by
  have h1 : ((l.take k).map lowerB).length = k := by simp; omega
  simp only [lowT]
  rw [List.getElem_append_right (by omega), List.getElem_drop]
  congr 1
  omega
theorem lowT_succ (k : Nat) (l : List UInt8) (h : k < l.length) : lowT (k + 1) l = (lowT k l).set k (lowerB l[k]) := by
  have h1 : ((l.take k).map lowerB).length = k := by simp; omega
  rw [lowT, lowT, List.set_append_right _ _ (by omega), h1, Nat.sub_self, List.drop_eq_getElem_cons h, List.set_cons_zero, List.take_succ_eq_append_getElem h, List.map_append, List.append_assoc]
  rfl
theorem lowT_same (k : Nat) (l : List UInt8) (h : k < l.length) (e : lowerB l[k] = l[k]) : lowT (k + 1) l = lowT k l := by
  rw [lowT_succ k l h, e, ← lowT_get k l h, List.set_getElem_self]

theorem lowerB_up {c : UInt8} (h0 : 65 ≤ c.toNat) (h1 : c.toNat ≤ 90) : lowerB c = c ||| 32 := by
  unfold lowerB; rw [if_pos ⟨by rw [UInt8.le_iff_toNat_le]; exact h0, by rw [UInt8.le_iff_toNat_le]; exact h1⟩]
theorem lowerB_no {c : UInt8} (h : ¬ (65 ≤ c.toNat ∧ c.toNat ≤ 90)) : lowerB c = c := by
  unfold lowerB; rw [if_neg (fun ⟨a, b⟩ => h ⟨by rw [UInt8.le_iff_toNat_le] at a; exact a, by rw [UInt8.le_iff_toNat_le] at b; exact b⟩)]
theorem or32_add : ∀ n : Nat, 65 ≤ n → n ≤ 90 → (UInt8.ofNat n ||| 32).toNat = n + 32 := by
  intro n h0 h1
  have key : ∀ n : Nat, n < 91 → 65 ≤ n → (UInt8.ofNat n ||| 32).toNat = n + 32 := by decide +kernel
  exact key n (by omega) h0
theorem lowerB_add {c : UInt8} (h0 : 65 ≤ c.toNat) (h1 : c.toNat ≤ 90) : ((lowerB c).toNat : Int) = (c.toNat : Int) + 32 := by
  rw [lowerB_up h0 h1]
  have := or32_add c.toNat h0 h1
  rw [UInt8.ofNat_toNat] at this
  omega

def LowerEnd (r : ByteArray) (w : World) (e : Ending) (w' : World) : Prop := e = .returned (.string r) ∧ Below w.heap.size w w'

set_option maxHeartbeats 2000000 in
set_option maxRecDepth 100000 in
theorem lower_walk (s : ByteArray) (hs : s.size ≤ 140737488355328) (l : List UInt8) (hl : s.data.toList = l) (w : World) :
    Calls Tryz.prog 69 #[.string s] w (LowerEnd ⟨(lower l).toArray⟩ w) := by
  have hcv := Lib.run_convert_string_bytes (P := Tryz.prog) w 9 28 5 s Tryz.underlying9 Tryz.underlying28 Tryz.underlying5
  have hr0 := Lib.hid (rowB_conv w 5 s)
  have hb0 := below_bytesWorld w 5 s
  generalize Lib.bytesWorld w 5 s = w1 at hcv hr0 hb0
  generalize grownCap w s.size 0 5 = cap at hcv
  have HB0 := Lib.hid hb0
  have hll : l.length ≤ s.size ∧ s.size ≤ l.length := by rw [← hl, len_eq]; omega
  rw [hl] at hr0
  have hl1 := hll.1
  have hl2 := hll.2
  clear hb0 hll hl
  go_enter Tryz.func69, Tryz.ntmps69
  go_wp2
  go_loopw [4, 5, 10] (fun _ _ i wr => ∃ k : Nat, k ≤ s.size ∧ i = .int .i64 k ∧ Hid (RowB wr w.heap.size (lowT k l)) ∧ Hid (Below w.heap.size w wr)) (fun _ _ i _ => s.size - (intOf i).toNat)
  case atStart => exact ⟨0, Nat.zero_le _, rfl, hr0, HB0⟩
  case round =>
    obtain ⟨k, hk, rfl, HR, HB⟩ := hrel
    by_cases hlt : k < s.size
    · have hkl : k < l.length := by omega
      have h1 := (HR.out k (by rw [lowT_length]; exact hkl)).1
      have h2 := (HR.out k (by rw [lowT_length]; exact hkl)).2
      rw [lowT_get k l hkl] at h1
      have HS := Lib.hid (lowT_succ k l hkl)
      have HE := fun e => Lib.hid (lowT_same k l hkl e)
      generalize hc : l[k] = c at h1 HS HE
      have hc2 := c.toNat_lt
      have ho := or32 c
      clear hc
      by_cases hu : 65 ≤ c.toNat ∧ c.toNat ≤ 90
      · obtain ⟨u0, u1⟩ := hu
        have HU := Lib.hid (lowerB_up u0 u1)
        have v0 : (65 : Int) ≤ (c.toNat : Int) := by omega
        have v1 : (c.toNat : Int) ≤ 90 := by omega
        go_wp2
        go_roundw
        case rel =>
          refine ⟨k + 1, by omega, by go_num, Lib.hid ?_, Lib.hid (setCell_below HB.out (Nat.le_refl _) _)⟩
          rw [HS.out, HU.out]
          exact rowB_set HR.out k (by rw [lowT_length]; exact hkl) _
        case measure => simp [intOf]; omega
      · have HU := HE (lowerB_no hu)
        have v0 : (c.toNat : Int) < 65 ∨ 90 < (c.toNat : Int) := by omega
        rcases v0 with v0 | v0
        all_goals
          go_wp2
          go_roundw
          case rel => exact ⟨k + 1, by omega, by go_num, Lib.hid (by rw [HU.out]; exact HR.out), HB⟩
          case measure => simp [intOf]; omega
    · obtain rfl : k = s.size := by omega
      have hst := rowB_string (cap := cap) HR.out (by rw [lowT_length]; omega : (lowT s.size l).length = s.size)
      rw [show lowT s.size l = lower l by rw [show s.size = l.length by omega]; exact lowT_all l] at hst
      go_wp2
      go_ret
      exact ⟨rfl, HB.out⟩

theorem add32 {c : UInt8} (u1 : c.toNat ≤ 90) : IntKind.u8.wrap ((c.toNat : Int) + 32) = (c.toNat : Int) + 32 := by
  rw [IntKind.wrap_u8]; omega

set_option maxHeartbeats 2000000 in
set_option maxRecDepth 100000 in
theorem refLower_walk (s : ByteArray) (hs : s.size ≤ 140737488355328) (l : List UInt8) (hl : s.data.toList = l) (w : World) :
    Calls Tryz.prog 76 #[.string s] w (LowerEnd ⟨(lower l).toArray⟩ w) := by
  have hcv := Lib.run_convert_string_bytes (P := Tryz.prog) w 9 28 5 s Tryz.underlying9 Tryz.underlying28 Tryz.underlying5
  have hr0 := Lib.hid (rowB_conv w 5 s)
  have hb0 := below_bytesWorld w 5 s
  generalize Lib.bytesWorld w 5 s = w1 at hcv hr0 hb0
  generalize grownCap w s.size 0 5 = cap at hcv
  have HB0 := Lib.hid hb0
  have hll : l.length ≤ s.size ∧ s.size ≤ l.length := by rw [← hl, len_eq]; omega
  rw [hl] at hr0
  have hl1 := hll.1
  have hl2 := hll.2
  clear hb0 hll hl
  go_enter Tryz.func76, Tryz.ntmps76
  go_wp2
  go_loopw [4] (fun i wr => ∃ k : Nat, k ≤ s.size ∧ i = .int .i64 k ∧ Hid (RowB wr w.heap.size (lowT k l)) ∧ Hid (Below w.heap.size w wr)) (fun i _ => s.size - (intOf i).toNat)
  case atStart => exact ⟨0, Nat.zero_le _, rfl, hr0, HB0⟩
  case round =>
    obtain ⟨k, hk, rfl, HR, HB⟩ := hrel
    by_cases hlt : k < s.size
    · have hkl : k < l.length := by omega
      have h1 := (HR.out k (by rw [lowT_length]; exact hkl)).1
      have h2 := (HR.out k (by rw [lowT_length]; exact hkl)).2
      rw [lowT_get k l hkl] at h1
      have HS := Lib.hid (lowT_succ k l hkl)
      have HE := fun e => Lib.hid (lowT_same k l hkl e)
      generalize hc : l[k] = c at h1 HS HE
      have hc2 := c.toNat_lt
      clear hc
      by_cases hu : 65 ≤ c.toNat ∧ c.toNat ≤ 90
      · obtain ⟨u0, u1⟩ := hu
        have HU := Lib.hid (lowerB_add u0 u1)
        have v0 : (65 : Int) ≤ (c.toNat : Int) := by omega
        have v1 : (c.toNat : Int) ≤ 90 := by omega
        go_wp2
        go_roundw
        case rel =>
          refine ⟨k + 1, by omega, by go_num, Lib.hid ?_, Lib.hid (setCell_below HB.out (Nat.le_refl _) _)⟩
          rw [HS.out, ← HU.out]
          exact rowB_set HR.out k (by rw [lowT_length]; exact hkl) _
        case measure => simp [intOf]; omega
      · have HU := HE (lowerB_no hu)
        have v0 : (c.toNat : Int) < 65 ∨ 90 < (c.toNat : Int) := by omega
        rcases v0 with v0 | v0
        all_goals
          go_wp2
          go_roundw
          case rel => exact ⟨k + 1, by omega, by go_num, Lib.hid (by rw [HU.out]; exact HR.out), HB⟩
          case measure => simp [intOf]; omega
    · obtain rfl : k = s.size := by omega
      have hst := rowB_string (cap := cap) HR.out (by rw [lowT_length]; omega : (lowT s.size l).length = s.size)
      rw [show lowT s.size l = lower l by rw [show s.size = l.length by omega]; exact lowT_all l] at hst
      go_wp2
      go_ret
      exact ⟨rfl, HB.out⟩
end Go.Proofs.YtkmikhinkbbnnaaGreatDoor.M
