/- The premise that every contract of this claim bears: what the listed package-level variables hold; it outlives every call. -/
import Derived.Test.YtkmikhinkbbnnaaGreatDoorProg
import Derived.WalkKit
import Derived.WalkSpells
import Derived.WalkSmall
import Derived.Below
import Derived.Lib.LaidTab
import Derived.Lib.ItoaMem
import Derived.Lib.AppendIntMem
import Derived.Deep.Draws
namespace Go.Proofs.YtkmikhinkbbnnaaGreatDoor.M
open Go.RowKit

theorem gMax : Tryz.prog.globalNamed "internal/bytealg.MaxLen" = some 0 := by kernel_rfl
theorem gPow : Tryz.prog.globalNamed "internal/strconv.uint64pow10" = some 1 := by kernel_rfl
theorem gSyn : Tryz.prog.globalNamed "strconv.ErrSyntax" = some 4 := by kernel_rfl
theorem gRng : Tryz.prog.globalNamed "strconv.ErrRange" = some 5 := by kernel_rfl

structure GL (w : World) : Prop where
  mx : ∃ m, w.cell? ⟨0, 0, none⟩ = some (.int .i64 m)
  pow : Lib.TabIs Tryz.prog w "internal/strconv.uint64pow10" .u64 Lib.pow10Tab
  syn : ∃ tp p, w.var? Tryz.prog "strconv.ErrSyntax" = some #[.iface tp p]
  rng : ∃ tp p, w.var? Tryz.prog "strconv.ErrRange" = some #[.iface tp p]

theorem var_lt {w : World} {n : String} {g : Nat} {cs : Array Value} (hg : Tryz.prog.globalNamed n = some g) (h : w.var? Tryz.prog n = some cs) : g < w.heap.size := by
  unfold World.var? at h
  simp only [hg, Option.bind_some] at h
  rcases Nat.lt_or_ge g w.heap.size with h' | h'
  · exact h'
  · rw [Array.getElem?_eq_none h'] at h; simp at h

theorem GL.step {w W : World} (h : GL w) (hb : Below w.heap.size w W) : GL W := by
  obtain ⟨⟨m, h1⟩, h2, ⟨t3, p3, h3⟩, ⟨t4, p4, h4⟩⟩ := h
  refine ⟨⟨m, (hb.cell (World.block_lt_of_cell? w _ h1)).trans h1⟩, (Lib.tabBelow_of_tabIs h2) W hb, ⟨t3, p3, ?_⟩, ⟨t4, p4, ?_⟩⟩
  · exact var?_below hb gSyn (var_lt gSyn h3) h3
  · exact var?_below hb gRng (var_lt gRng h4) h4

theorem GL.drewN {w : World} (h : GL w) (n : Nat) : GL (w.drewN n) := h.step ⟨rfl, rfl, rfl, Nat.le_refl _, fun _ _ => rfl⟩
theorem GL.drew {w : World} (h : GL w) : GL w.drew := h.step ⟨rfl, rfl, rfl, Nat.le_refl _, fun _ _ => rfl⟩

theorem below_rfl (w : World) : Below w.heap.size w w := Below.refl _ _
theorem belowN {w W : World} {B : Nat} (h : Below B w W) (n : Nat) : Below B w (W.drewN n) := ⟨h.os, h.tape, h.output, h.size, h.block⟩
theorem belowD {w W : World} {B : Nat} (h : Below B w W) : Below B w W.drew := ⟨h.os, h.tape, h.output, h.size, h.block⟩
theorem belowA {w W : World} (h : Below w.heap.size w W) (o : Obj) : Below w.heap.size w (W.alloc o) := h.alloc h.size o
theorem belowT {w W W' : World} (h : Below w.heap.size w W) (k : Below W.heap.size W W') : Below w.heap.size w W' :=
  h.trans ⟨k.os, k.tape, k.output, k.size, fun i hi => k.block i (Nat.lt_of_lt_of_le hi h.size)⟩
theorem belowG {w : World} (k : Nat) (os : Array Obj) : Below w.heap.size w (Sort.grow (w.drewN k) os) :=
  ⟨rfl, rfl, rfl, by show w.heap.size ≤ (w.heap ++ os).size; rw [Array.size_append]; omega, fun j hj => Lib.heap_grow_old w k os j hj⟩
end Go.Proofs.YtkmikhinkbbnnaaGreatDoor.M
