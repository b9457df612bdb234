/- The functions that are proved by hand, each as a plain function and its contract, in the form in which the printed texts use them. -/
import Derived.Test.YtkmikhinkbbnnaaGreatDoorManH
import Derived.Shelf.Strings.SlTrimAscii
namespace Go.Proofs.YtkmikhinkbbnnaaGreatDoor.M
open Go.RowKit Go.Proofs.YtkmikhinkbbnnaaGreatDoor.Sp

/-! ### Go's library -/
def strings_IndexByte.f (a0 : ByteArray) (a1 : Int) : Option Int := some (Lib.indexByte a0.data.toList a1.toNat.toUInt8)
theorem strings_IndexByte.calls (a0 : ByteArray) (a1 : Int) (r : Int) (w : World) (_hGL : GL w) (h : strings_IndexByte.f a0 a1 = some r) :
    Calls Tryz.prog 189 #[.string a0, .int .u8 a1] w fun e w' => e = .returned (.int .i64 r) ∧ Below w.heap.size w w' :=
  (Tryz.strings_IndexByte a0 a1 w).mono fun _ _ ⟨he, hw⟩ => ⟨by rw [he, Option.some.inj h], by rw [hw]; exact Below.refl _ _⟩

def one? (a : ByteArray) : Option UInt8 := match a.data.toList with
  | [c] => if c.toNat < 128 then some c else none
  | _ => none
theorem one?_eq {a : ByteArray} {c : UInt8} (h : one? a = some c) : a = ⟨#[c]⟩ ∧ c.toNat < 128 := by
  unfold one? at h
  split at h
  · rename_i d hd
    split at h
    · rename_i hc
      obtain rfl := Option.some.inj h
      exact ⟨by cases a; congr; exact Array.toList_inj.1 hd, hc⟩
    · cases h
  · cases h

def strings_TrimLeft.f (a0 a1 : ByteArray) : Option ByteArray := (one? a1).bind fun c => some ⟨(Lib.trimLeftB a0.data.toList c).toArray⟩
theorem strings_TrimLeft.calls (a0 a1 : ByteArray) (r : ByteArray) (w : World) (_hGL : GL w) (h : strings_TrimLeft.f a0 a1 = some r) :
    Calls Tryz.prog 154 #[.string a0, .string a1] w fun e w' => e = .returned (.string r) ∧ Below w.heap.size w w' := by
  obtain ⟨c, hc, hr⟩ := Option.bind_eq_some_iff.1 h
  obtain ⟨rfl, hc2⟩ := one?_eq hc
  exact (Tryz.strings_TrimLeft_one a0 c hc2 w).mono fun _ _ ⟨he, hw⟩ => ⟨by rw [he, Option.some.inj hr], by rw [hw]; exact Below.refl _ _⟩

def strings_TrimRight.f (a0 a1 : ByteArray) : Option ByteArray := if a0.size ≤ 140737488355328 then (one? a1).bind fun c => some ⟨(Lib.trimRightB a0.data.toList c).toArray⟩ else none
theorem strings_TrimRight.calls (a0 a1 : ByteArray) (r : ByteArray) (w : World) (_hGL : GL w) (h : strings_TrimRight.f a0 a1 = some r) :
    Calls Tryz.prog 71 #[.string a0, .string a1] w fun e w' => e = .returned (.string r) ∧ Below w.heap.size w w' := by
  unfold strings_TrimRight.f at h
  split at h
  · obtain ⟨c, hc, hr⟩ := Option.bind_eq_some_iff.1 h
    obtain ⟨rfl, hc2⟩ := one?_eq hc
    exact (Tryz.strings_TrimRight_one a0 c hc2 w (by omega)).mono fun _ _ ⟨he, hw⟩ => ⟨by rw [he, Option.some.inj hr], by rw [hw]; exact Below.refl _ _⟩
  · cases h

def strings_Cut.f (a0 a1 : ByteArray) : Option (ByteArray × ByteArray × Bool) :=
  if a0.size < 4294967281 then some (⟨(Lib.cut a0.data.toList a1.data.toList).1.toArray⟩, ⟨(Lib.cut a0.data.toList a1.data.toList).2.1.toArray⟩, (Lib.cut a0.data.toList a1.data.toList).2.2) else none
theorem strings_Cut.calls (a0 a1 : ByteArray) (r1 r2 : ByteArray) (r3 : Bool) (w : World) (hGL : GL w) (h : strings_Cut.f a0 a1 = some (r1, r2, r3)) :
    Calls Tryz.prog 67 #[.string a0, .string a1] w fun e w' => e = .returned (.tuple #[.string r1, .string r2, .bool r3]) ∧ Below w.heap.size w w' := by
  unfold strings_Cut.f at h
  split at h
  · rename_i hs
    obtain ⟨m, hm⟩ := hGL.mx
    simp only [Option.some.injEq, Prod.mk.injEq] at h
    obtain ⟨h1, h2, h3⟩ := h
    exact (Tryz.strings_Cut a0 a1 m w hs hm).mono fun _ _ ⟨he, n, hw⟩ => ⟨by rw [he, h1, h2, h3], by rw [hw]; exact belowN (Below.refl _ _) n⟩
  · cases h

def strconv_Itoa.f (a0 : Int) : Option ByteArray := if -9223372036854775808 ≤ a0 ∧ a0 ≤ 9223372036854775807 then some ⟨(Lib.itoa a0).toArray⟩ else none
theorem strconv_Itoa.calls (a0 : Int) (r : ByteArray) (w : World) (hGL : GL w) (h : strconv_Itoa.f a0 = some r) :
    Calls Tryz.prog 47 #[.int .i64 a0] w fun e w' => e = .returned (.string r) ∧ Below w.heap.size w w' := by
  unfold strconv_Itoa.f at h
  split at h
  · rename_i hs
    exact (itoa_any a0 hs.1 hs.2 w hGL).mono fun _ _ ⟨he, hb⟩ => ⟨by rw [he, Option.some.inj h], hb⟩
  · cases h

/-! ### Package addr -/
def addr_Lower.f (a0 : ByteArray) : Option ByteArray := if a0.size ≤ 140737488355328 then some ⟨(lower a0.data.toList).toArray⟩ else none
theorem addr_Lower.calls (a0 : ByteArray) (r : ByteArray) (w : World) (_hGL : GL w) (h : addr_Lower.f a0 = some r) :
    Calls Tryz.prog 69 #[.string a0] w fun e w' => e = .returned (.string r) ∧ Below w.heap.size w w' := by
  unfold addr_Lower.f at h
  split at h
  · rename_i hs
    exact (lower_walk a0 hs _ rfl w).mono fun _ _ ⟨he, hb⟩ => ⟨by rw [he, Option.some.inj h], hb⟩
  · cases h
def mailbagref14_Lower.f (a0 : ByteArray) : Option ByteArray := if a0.size ≤ 140737488355328 then some ⟨(lower a0.data.toList).toArray⟩ else none
theorem mailbagref14_Lower.calls (a0 : ByteArray) (r : ByteArray) (w : World) (_hGL : GL w) (h : mailbagref14_Lower.f a0 = some r) :
    Calls Tryz.prog 76 #[.string a0] w fun e w' => e = .returned (.string r) ∧ Below w.heap.size w w' := by
  unfold mailbagref14_Lower.f at h
  split at h
  · rename_i hs
    exact (refLower_walk a0 hs _ rfl w).mono fun _ _ ⟨he, hb⟩ => ⟨by rw [he, Option.some.inj h], hb⟩
  · cases h

def addr_Local.f (a0 : ByteArray) : Option Bool := if a0.size ≤ 140737488355328 then some (localB a0.data.toList) else none
theorem addr_Local.calls (a0 : ByteArray) (r : Bool) (w : World) (_hGL : GL w) (h : addr_Local.f a0 = some r) :
    Calls Tryz.prog 80 #[.string a0] w fun e w' => e = .returned (.bool r) ∧ Below w.heap.size w w' := by
  unfold addr_Local.f at h
  split at h
  · rename_i hs
    exact (local_any a0 hs w).mono fun _ _ ⟨he, hw⟩ => ⟨by rw [he, Option.some.inj h], by rw [← hw]; exact Below.refl _ _⟩
  · cases h
def addr_Domain.f (a0 : ByteArray) : Option Bool := if a0.size < 4294967281 then some (domainB a0.data.toList) else none
theorem addr_Domain.calls (a0 : ByteArray) (r : Bool) (w : World) (hGL : GL w) (h : addr_Domain.f a0 = some r) :
    Calls Tryz.prog 41 #[.string a0] w fun e w' => e = .returned (.bool r) ∧ Below w.heap.size w w' := by
  unfold addr_Domain.f at h
  split at h
  · rename_i hs
    exact (domain_any a0 hs w hGL).mono fun _ _ ⟨he, hb⟩ => ⟨by rw [he, Option.some.inj h], hb⟩
  · cases h
def addr_shaped.f (a0 : ByteArray) : Option Bool := if a0.size < 4294967281 then some (shapedB a0.data.toList) else none
theorem addr_shaped.calls (a0 : ByteArray) (r : Bool) (w : World) (hGL : GL w) (h : addr_shaped.f a0 = some r) :
    Calls Tryz.prog 86 #[.string a0] w fun e w' => e = .returned (.bool r) ∧ Below w.heap.size w w' := by
  unfold addr_shaped.f at h
  split at h
  · rename_i hs
    exact (shaped_any a0 hs w hGL).mono fun _ _ ⟨he, hb⟩ => ⟨by rw [he, Option.some.inj h], hb⟩
  · cases h
def addr_plain.f (a0 : ByteArray) : Option Bool := if a0.size < 4294967281 then some (plainB a0.data.toList) else none
theorem addr_plain.calls (a0 : ByteArray) (r : Bool) (w : World) (hGL : GL w) (h : addr_plain.f a0 = some r) :
    Calls Tryz.prog 126 #[.string a0] w fun e w' => e = .returned (.bool r) ∧ Below w.heap.size w w' := by
  unfold addr_plain.f at h
  split at h
  · rename_i hs
    exact (plain_any a0 hs w hGL).mono fun _ _ ⟨he, hb⟩ => ⟨by rw [he, Option.some.inj h], hb⟩
  · cases h

/-! ### cmd.size -/
def sizeNum (l : List UInt8) : Int := match Lib.atoiAll l with
  | .ok v => v
  | e => if e = .range then Lib.atoiSat l else 0
def sizeOk (l : List UInt8) : Bool := match Lib.atoiAll l with
  | .ok _ => decide (l.length ≤ 9) && (Lib.trimS l [48, 49, 50, 51, 52, 53, 54, 55, 56, 57]).isEmpty
  | _ => false
def ahead : List UInt8 := [32, 115, 105, 122, 101, 61]
def sizeR (l : List UInt8) : Int × Bool := if 6 ≤ l.length ∧ lower (l.take 6) = ahead then (sizeNum (l.drop 6), sizeOk (l.drop 6)) else (0, false)
end Go.Proofs.YtkmikhinkbbnnaaGreatDoor.M
