/- Rows of bytes that a call makes itself, and what is appended to them. -/
import Derived.Test.YtkmikhinkbbnnaaGreatDoorManW
import Derived.Laws.AppendOwn
namespace Go.Proofs.YtkmikhinkbbnnaaGreatDoor.M
open Go.RowKit Go.Proofs.YtkmikhinkbbnnaaGreatDoor.Sp

/-- Bytes as cells. -/
def bc (l : List UInt8) : List Value := l.map fun b => .int .u8 (b.toNat : Int)
theorem bc_length (l : List UInt8) : (bc l).length = l.length := by simp [bc]
theorem bc_append (l m : List UInt8) : bc (l ++ m) = bc l ++ bc m := by simp [bc]

/-- v is a slice over a block of the call's own (from base on), or nil: it holds the bytes l. -/
def OwnB (w : World) (base : Nat) (v : Value) (l : List UInt8) : Prop := w.ownsRow base 5 1 v l.length (bc l)

theorem ownB_nil (w : World) (base : Nat) : OwnB w base (.slice none 0 0) [] := ⟨by simp [bc], .inl ⟨rfl, rfl⟩⟩
theorem ownB_lit (w : World) (base : Nat) (l : List UInt8) (hb : base ≤ w.heap.size) (hl : l.length ≤ 1000) : OwnB (w.alloc (.cells (bc l).toArray 5)) base (.slice (some ⟨w.heap.size, 0, none⟩) l.length l.length) l :=
  ⟨by simp [bc], .inr ⟨w.heap.size, l.length, (bc l).toArray, rfl, hb, by show (w.heap.push _)[w.heap.size]? = _; simp, Nat.le_refl _, by simp only [maxLen]; omega, by simp [bc], by rw [Nat.mul_one]; exact List.take_of_length_le (by simp [bc])⟩⟩
theorem ownB_form {w : World} {base : Nat} {v : Value} {l : List UInt8} (h : OwnB w base v l) : ∃ a c, v = .slice a l.length c ∧ l.length ≤ 9223372036854775807 := by
  rcases h.2 with ⟨rfl, h0⟩ | ⟨g, cap, cur, rfl, _, _, h1, h2, _⟩
  · exact ⟨none, 0, by rw [h0], by omega⟩
  · exact ⟨_, cap, rfl, by simp only [maxLen] at h2; omega⟩
theorem ownB_below {w w1 : World} {base : Nat} {v : Value} {l : List UInt8} (h : OwnB w base v l) (hb : Below w.heap.size w w1) : OwnB w1 base v l := by
  refine ⟨h.1, ?_⟩
  rcases h.2 with h0 | ⟨g, cap, cur, h1, h2, h3, h4⟩
  · exact .inl h0
  · exact .inr ⟨g, cap, cur, h1, h2, (hb.block g (Array.getElem?_eq_some_iff.1 h3).1).trans h3, h4⟩
theorem ownB_drewN {w : World} {base : Nat} {v : Value} {l : List UInt8} (h : OwnB w base v l) (n : Nat) : OwnB (w.drewN n) base v l := ownB_below h (belowN (Below.refl _ _) n)
theorem ownB_alloc {w : World} {base : Nat} {v : Value} {l : List UInt8} (h : OwnB w base v l) (o : Obj) : OwnB (w.alloc o) base v l := ownB_below h (belowA (Below.refl _ _) o)

theorem ownB_string {w : World} {base : Nat} {v : Value} {l : List UInt8} (h : OwnB w base v l) :
    (convert 28 9 v).run Tryz.prog w = .ok (.string ⟨l.toArray⟩) w := by
  rcases h.2 with ⟨rfl, h0⟩ | ⟨g, cap, cur, rfl, _, h3, _, _, h6, h7⟩
  · obtain rfl := List.eq_nil_of_length_eq_zero h0
    exact run_convert_bytes_nil w 28 5 Tryz.underlying28 Tryz.underlying5 0 0 9 Tryz.underlying9
  · rw [← Lib.Lz.strOfNums_map l]
    refine run_convert_bytes_arg w 28 5 Tryz.underlying28 Tryz.underlying5 g 0 l.length cap (l.map fun b => (b.toNat : Int)) (by simp) (fun i hi => ?_) 9 Tryz.underlying9
    rw [Nat.mul_one] at h7
    have e : cur[i]? = some (.int .u8 (l[i].toNat : Int)) := by
      have h8 := congrArg (fun z => z[i]?) h7
      simp only [List.getElem?_take_of_lt hi, Array.getElem?_toList] at h8
      rw [h8]
      simp [bc, List.getElem?_eq_getElem hi]
    rw [Nat.zero_add, World.cell?, h3]
    simp only [e]
    simp [List.getD_eq_getElem?_getD, List.getElem?_eq_getElem hi]

theorem infoU8 : (Tryz.prog.info? 5).map (fun i => (i.zero, i.size, i.bytes)) = some (some (.int .u8 0), 1, 1) := by kernel_rfl

section
variable {ops : Array Oper} {rest : List Oper} {o : Oper} {a : Act} {Q : Exit → Act → World → Prop}

/-- 'append(v, x..)', x a row of a block that stands. -/
theorem appB {W : World} (base : Nat) (hgd : o.guard = none) (s x : Operand) (ho : o.op = .call { callee := .builtin .append, args := #[s, x], argTypes := #[28, 28] })
    (v : Value) (l m : List UInt8) (hs : a.eval s = v) (ad : Addr) (c : Nat) (hx : a.eval x = .slice (some ad) m.length c) (hnews : ∀ (j : Nat) (h : j < m.length), W.cell? (ad.add j) = some (.int .u8 (m[j].toNat : Int)))
    (HO : OwnB W base v l) (hbase : base ≤ W.heap.size) (hl : l.length + m.length ≤ 140737488355328)
    (h : ∀ v1 w1, OwnB w1 base v1 (l ++ m) → Below base W w1 → wpList Tryz.prog ops Q rest (a.put o.dst v1) w1) :
    wpList Tryz.prog ops Q (o :: rest) a W := by
  obtain ⟨i0, hi, hzz⟩ := Option.map_eq_some_iff.1 infoU8
  simp only [Prod.mk.injEq] at hzz
  obtain ⟨hz0, hz1, hz2⟩ := hzz
  refine wpList_append_own W hgd s x 28 ho base 5 i0 (.int .u8 0) 1 1 Tryz.underlying28 hi hz0 hz1 hz2 rfl (by decide) v l.length (bc l) hs HO ad m.length c (bc m) hx (by simp [bc])
    (fun j u hj => ?_) (fun u hu => ?_) (by simp only [maxLen]; omega) (by omega) hbase (fun v1 w1 h1 h2 _ => h v1 w1 ?_ ?_)
  · have hjm : j < m.length := by
      rcases Nat.lt_or_ge j m.length with h' | h'
      · exact h'
      · rw [List.getElem?_eq_none (by rw [bc_length]; exact h')] at hj; cases hj
    have hv := hnews j hjm
    simp only [bc, List.getElem?_map, List.getElem?_eq_getElem hjm, Option.map_some, Option.some.injEq] at hj
    rw [hv, hj]
  · simp only [bc, List.mem_map] at hu
    obtain ⟨b, _, rfl⟩ := hu
    rfl
  · unfold OwnB
    rw [List.length_append, bc_append]
    exact h1
  · exact (Below.refl _ _).grown h2 hbase (fun k hk => by
      rcases HO.2 with ⟨rfl, _⟩ | ⟨g, cap, cur, rfl, hb, _⟩
      · simp [Value.ownBlock] at hk
      · have : g = k := by simpa [Value.ownBlock] using hk
        omega)

/-- 'append(v, c)': the one byte lies in the block that was laid last. -/
theorem appB1 {W : World} (base : Nat) (hgd : o.guard = none) (s x : Operand) (ho : o.op = .call { callee := .builtin .append, args := #[s, x], argTypes := #[28, 28] })
    (v : Value) (l : List UInt8) (b : UInt8) (hs : a.eval s = v) (hx : a.eval x = .slice (some ⟨W.heap.size, 0, none⟩) 1 1)
    (HO : OwnB W base v l) (hbase : base ≤ W.heap.size) (hl : l.length + 1 ≤ 140737488355328)
    (h : ∀ v1 w1, OwnB w1 base v1 (l ++ [b]) → Below base W w1 → wpList Tryz.prog ops Q rest (a.put o.dst v1) w1) :
    wpList Tryz.prog ops Q (o :: rest) a (W.alloc (.cells #[.int .u8 (b.toNat : Int)] 5)) := by
  refine appB base hgd s x ho v l [b] hs ⟨W.heap.size, 0, none⟩ 1 hx (fun j hj => ?_) (ownB_alloc HO _) (by simp; omega) hl (fun v1 w1 h1 h2 => h v1 w1 h1 ?_)
  · obtain rfl : j = 0 := by simp at hj; omega
    show (W.alloc _).cell? ⟨W.heap.size, 0, none⟩ = _
    rw [World.cell?_alloc_new]; rfl
  · have hb := (Below.refl base W).alloc hbase (.cells #[.int .u8 (b.toNat : Int)] 5)
    exact hb.trans h2
end
end Go.Proofs.YtkmikhinkbbnnaaGreatDoor.M
