/- The reference's paths (mailbagref14), by hand. -/
import Derived.Test.YtkmikhinkbbnnaaGreatDoorManCA
import Derived.Test.YtkmikhinkbbnnaaGreatDoorManAH
namespace Go.Proofs.YtkmikhinkbbnnaaGreatDoor.M
open Go.RowKit Go.Proofs.YtkmikhinkbbnnaaGreatDoor.Sp
attribute [local go_sem ↓] Go.wp_at_zero Go.wp_at_succ

def PathEnd (w : World) (v : Value) (e : Ending) (w' : World) : Prop := e = .returned v ∧ Below w.heap.size w w'
def bad3 : List UInt8 × List UInt8 × List UInt8 × Int := ([], [], [], 3)
def bad5 : List UInt8 × List UInt8 × List UInt8 × Int := ([], [], [], 5)
theorem pathEnd_below {w w' : World} {v v' : Value} (hv : v' = v) (h : Below w.heap.size w w') : PathEnd w v (.returned v') w' := ⟨by rw [hv], h⟩
abbrev zeroA (w : World) : World := w.alloc (.cells #[.string ⟨#[]⟩, .string ⟨#[]⟩] 23)
theorem ad_new {w w' : World} {ty : TypeId} {t u : ByteArray} (hb : Below (w.alloc (.cells #[.string t, .string u] ty)).heap.size (w.alloc (.cells #[.string t, .string u] ty)) w') : Ad w' w.heap.size t u :=
  ⟨cellNew hb 0 rfl, cellNew hb 1 rfl, (hb.frozen (by show w.heap.size < (w.heap.push _).size; simp)).trans (frozen_new 0), (hb.frozen (by show w.heap.size < (w.heap.push _).size; simp)).trans (frozen_new 1)⟩

set_option maxHeartbeats 4000000 in
set_option maxRecDepth 100000 in
theorem rpath_empty (s : ByteArray) (hs : s.size ≤ 2000000000) (hE : s.toList.isEmpty = true) (w : World) :
    Calls Tryz.prog 121 #[.string s] w (PathEnd w (pathV bad3)) := by
  go_enter Tryz.func121, Tryz.ntmps121
  go_wp2
  refine bodyPost_ret (results_ctt rfl _ _ w.heap.size _ _ _ rfl (addr_new (t := 23) (Below.refl _ (zeroA w))).c0 (addr_new (t := 23) (Below.refl _ (zeroA w))).c1 Tryz.underlying23 rfl (by kernel_rfl)) rfl ?_
  exact pathEnd_below rfl (belowA (Below.refl _ _) _)

set_option maxHeartbeats 4000000 in
set_option maxRecDepth 100000 in
theorem rpath_no60 (s : ByteArray) (hs : s.size ≤ 2000000000) (hE : s.toList.isEmpty = false) (hp : 0 < s.size) (q0 : (((s[0].toNat : Int) != 60) : Bool) = true) (w : World) :
    Calls Tryz.prog 121 #[.string s] w (PathEnd w (pathV bad3)) := by
  go_enter Tryz.func121, Tryz.ntmps121
  go_wp2
  refine bodyPost_ret (results_ctt rfl _ _ w.heap.size _ _ _ rfl (addr_new (t := 23) (Below.refl _ (zeroA w))).c0 (addr_new (t := 23) (Below.refl _ (zeroA w))).c1 Tryz.underlying23 rfl (by kernel_rfl)) rfl ?_
  exact pathEnd_below rfl (belowA (Below.refl _ _) _)

set_option maxHeartbeats 4000000 in
set_option maxRecDepth 100000 in
theorem rpath_null (s : ByteArray) (hs : s.size ≤ 2000000000) (hE : s.toList.isEmpty = false) (hp : 0 < s.size) (q0 : (((s[0].toNat : Int) != 60) : Bool) = false) (i1 : (1 : Int) < (s.size : Int)) (hp1 : 1 < s.size) (q1 : (((s[1].toNat : Int) == 62) : Bool) = true) (w : World) :
    Calls Tryz.prog 121 #[.string s] w (PathEnd w (pathV ([], [], s.data.toList.drop 2, 0))) := by
  have i1e : (2 : Int) ≤ (s.size : Int) := by omega
  go_enter Tryz.func121, Tryz.ntmps121
  go_wp2
  go_region
  all_goals go_wp2
  (try simp only [Exit.inBlock, Exit.then])
  refine bodyPost_ret (results_ctt rfl _ _ w.heap.size _ _ _ rfl (addr_new (t := 23) (belowD (Below.refl _ (zeroA w)))).c0 (addr_new (t := 23) (belowD (Below.refl _ (zeroA w)))).c1 Tryz.underlying23 rfl (by kernel_rfl)) rfl ?_
  exact pathEnd_below (by rw [bstr (extract_end s 2)]; rfl) (belowD (belowA (Below.refl _ _) _))

set_option maxHeartbeats 4000000 in
set_option maxRecDepth 100000 in
theorem rpath_route (s : ByteArray) (hs : s.size ≤ 2000000000) (hE : s.toList.isEmpty = false) (hp : 0 < s.size) (q0 : (((s[0].toNat : Int) != 60) : Bool) = false) (i1 : (1 : Int) < (s.size : Int)) (hp1 : 1 < s.size) (q1 : (((s[1].toNat : Int) == 62) : Bool) = false) (cr : ∀ W, Calls Tryz.prog 159 #[.string (s.extract 1 s.size)] W fun e w' => e = .returned (.int .i64 (-1)) ∧ W = w') (w : World) :
    Calls Tryz.prog 121 #[.string s] w (PathEnd w (pathV bad3)) := by
  have i1e : (1 : Int) ≤ (s.size : Int) := by omega
  go_enter Tryz.func121, Tryz.ntmps121
  go_wp2_with ((go_at_call 159; refine (cr _).mono ?_; rintro e w' ⟨rfl, rfl⟩))
  refine bodyPost_ret (results_ctt rfl _ _ w.heap.size _ _ _ rfl (addr_new (t := 23) (Below.refl _ (zeroA w))).c0 (addr_new (t := 23) (Below.refl _ (zeroA w))).c1 Tryz.underlying23 rfl (by kernel_rfl)) rfl ?_
  exact pathEnd_below rfl (belowA (Below.refl _ _) _)

set_option maxHeartbeats 4000000 in
set_option maxRecDepth 100000 in
theorem rpath_local (s x : ByteArray) (r : Nat) (hs : s.size ≤ 2000000000) (hE : s.toList.isEmpty = false) (hp : 0 < s.size) (q0 : (((s[0].toNat : Int) != 60) : Bool) = false) (i1 : (1 : Int) < (s.size : Int)) (hp1 : 1 < s.size) (q1 : (((s[1].toNat : Int) == 62) : Bool) = false) (cr : ∀ W, Calls Tryz.prog 159 #[.string (s.extract 1 s.size)] W fun e w' => e = .returned (.int .i64 (r : Int)) ∧ W = w') (hx : s.extract (1 + r) s.size = x) (i2 : (1 : Int) + (r : Int) ≤ (s.size : Int)) (cl : ∀ W, Calls Tryz.prog 160 #[.string x] W fun e w' => e = .returned (.tuple #[.string ⟨#[]⟩, .int .i64 (-1)]) ∧ Below W.heap.size W w') (w : World) :
    Calls Tryz.prog 121 #[.string s] w (PathEnd w (pathV bad3)) := by
  have j2 : ((1 : Int) + (r : Int)).toNat = 1 + r := by omega
  have i1e : (1 : Int) ≤ (s.size : Int) := by omega
  go_enter Tryz.func121, Tryz.ntmps121
  go_wp2_with (first | (go_at_call 159; refine (cr _).mono ?_; rintro e w' ⟨rfl, rfl⟩) | (go_at_call 160; refine (cl _).mono ?_; rintro e w1 ⟨rfl, HB1⟩; have Z1 := addr_new HB1; obtain ⟨z10, z11, z12, z13⟩ := Z1))
  refine bodyPost_ret (results_ctt rfl _ _ w.heap.size _ _ _ rfl (((Ad.mk z10 z11 z12 z13).set0 ⟨#[]⟩).set1 ⟨#[]⟩).c0 (((Ad.mk z10 z11 z12 z13).set0 ⟨#[]⟩).set1 ⟨#[]⟩).c1 Tryz.underlying23 rfl (by kernel_rfl)) rfl ?_
  exact pathEnd_below rfl (((belowT (belowA (Below.refl _ _) _) HB1).setCell (p := ⟨w.heap.size, 0, none⟩) (Nat.le_refl _) _).setCell (p := ⟨w.heap.size, 1, none⟩) (Nat.le_refl _) _)

set_option maxHeartbeats 4000000 in
set_option maxRecDepth 100000 in
theorem rpath_end1 (s x lo : ByteArray) (r n : Nat) (hs : s.size ≤ 2000000000) (hE : s.toList.isEmpty = false) (hp : 0 < s.size) (q0 : (((s[0].toNat : Int) != 60) : Bool) = false) (i1 : (1 : Int) < (s.size : Int)) (hp1 : 1 < s.size) (q1 : (((s[1].toNat : Int) == 62) : Bool) = false) (cr : ∀ W, Calls Tryz.prog 159 #[.string (s.extract 1 s.size)] W fun e w' => e = .returned (.int .i64 (r : Int)) ∧ W = w') (hx : s.extract (1 + r) s.size = x) (i2 : (1 : Int) + (r : Int) ≤ (s.size : Int)) (cl : ∀ W, Calls Tryz.prog 160 #[.string x] W fun e w' => e = .returned (.tuple #[.string lo, .int .i64 (n : Int)]) ∧ Below W.heap.size W w') (i3 : (x.size : Int) ≤ (n : Int)) (w : World) :
    Calls Tryz.prog 121 #[.string s] w (PathEnd w (pathV bad3)) := by
  have j2 : ((1 : Int) + (r : Int)).toNat = 1 + r := by omega
  have i1e : (1 : Int) ≤ (s.size : Int) := by omega
  go_enter Tryz.func121, Tryz.ntmps121
  go_wp2_with (first | (go_at_call 159; refine (cr _).mono ?_; rintro e w' ⟨rfl, rfl⟩) | (go_at_call 160; refine (cl _).mono ?_; rintro e w1 ⟨rfl, HB1⟩; have Z1 := addr_new HB1; obtain ⟨z10, z11, z12, z13⟩ := Z1))
  refine bodyPost_ret (results_ctt rfl _ _ w.heap.size _ _ _ rfl (((Ad.mk z10 z11 z12 z13).set0 ⟨#[]⟩).set1 ⟨#[]⟩).c0 (((Ad.mk z10 z11 z12 z13).set0 ⟨#[]⟩).set1 ⟨#[]⟩).c1 Tryz.underlying23 rfl (by kernel_rfl)) rfl ?_
  exact pathEnd_below rfl (((belowT (belowA (Below.refl _ _) _) HB1).setCell (p := ⟨w.heap.size, 0, none⟩) (Nat.le_refl _) _).setCell (p := ⟨w.heap.size, 1, none⟩) (Nat.le_refl _) _)

set_option maxHeartbeats 4000000 in
set_option maxRecDepth 100000 in
theorem rpath_no64 (s x lo : ByteArray) (r n : Nat) (hs : s.size ≤ 2000000000) (hE : s.toList.isEmpty = false) (hp : 0 < s.size) (q0 : (((s[0].toNat : Int) != 60) : Bool) = false) (i1 : (1 : Int) < (s.size : Int)) (hp1 : 1 < s.size) (q1 : (((s[1].toNat : Int) == 62) : Bool) = false) (cr : ∀ W, Calls Tryz.prog 159 #[.string (s.extract 1 s.size)] W fun e w' => e = .returned (.int .i64 (r : Int)) ∧ W = w') (hx : s.extract (1 + r) s.size = x) (i2 : (1 : Int) + (r : Int) ≤ (s.size : Int)) (cl : ∀ W, Calls Tryz.prog 160 #[.string x] W fun e w' => e = .returned (.tuple #[.string lo, .int .i64 (n : Int)]) ∧ Below W.heap.size W w') (i3 : ¬ (x.size : Int) ≤ (n : Int)) (hn : n < x.size) (q2 : (((x[n].toNat : Int) != 64) : Bool) = true) (w : World) :
    Calls Tryz.prog 121 #[.string s] w (PathEnd w (pathV bad3)) := by
  have j2 : ((1 : Int) + (r : Int)).toNat = 1 + r := by omega
  have i1e : (1 : Int) ≤ (s.size : Int) := by omega
  go_enter Tryz.func121, Tryz.ntmps121
  go_wp2_with (first | (go_at_call 159; refine (cr _).mono ?_; rintro e w' ⟨rfl, rfl⟩) | (go_at_call 160; refine (cl _).mono ?_; rintro e w1 ⟨rfl, HB1⟩; have Z1 := addr_new HB1; obtain ⟨z10, z11, z12, z13⟩ := Z1))
  refine bodyPost_ret (results_ctt rfl _ _ w.heap.size _ _ _ rfl (((Ad.mk z10 z11 z12 z13).set0 ⟨#[]⟩).set1 ⟨#[]⟩).c0 (((Ad.mk z10 z11 z12 z13).set0 ⟨#[]⟩).set1 ⟨#[]⟩).c1 Tryz.underlying23 rfl (by kernel_rfl)) rfl ?_
  exact pathEnd_below rfl (((belowT (belowA (Below.refl _ _) _) HB1).setCell (p := ⟨w.heap.size, 0, none⟩) (Nat.le_refl _) _).setCell (p := ⟨w.heap.size, 1, none⟩) (Nat.le_refl _) _)

set_option maxHeartbeats 4000000 in
set_option maxRecDepth 100000 in
theorem rpath_shape (s x y d lo : ByteArray) (r n k : Nat) (hs : s.size ≤ 2000000000) (hE : s.toList.isEmpty = false) (hp : 0 < s.size) (q0 : (((s[0].toNat : Int) != 60) : Bool) = false) (i1 : (1 : Int) < (s.size : Int)) (hp1 : 1 < s.size) (q1 : (((s[1].toNat : Int) == 62) : Bool) = false) (cr : ∀ W, Calls Tryz.prog 159 #[.string (s.extract 1 s.size)] W fun e w' => e = .returned (.int .i64 (r : Int)) ∧ W = w') (hx : s.extract (1 + r) s.size = x) (i2 : (1 : Int) + (r : Int) ≤ (s.size : Int)) (cl : ∀ W, Calls Tryz.prog 160 #[.string x] W fun e w' => e = .returned (.tuple #[.string lo, .int .i64 (n : Int)]) ∧ Below W.heap.size W w') (i3 : ¬ (x.size : Int) ≤ (n : Int)) (hn : n < x.size) (q2 : (((x[n].toNat : Int) != 64) : Bool) = false) (hnb : (n : Int) ≤ 2000000000) (hy : x.extract (n + 1) x.size = y) (i4 : (n : Int) + 1 ≤ (x.size : Int)) (cd : ∀ W, Calls Tryz.prog 161 #[.string y] W fun e w' => e = .returned (.int .i64 (k : Int)) ∧ W = w') (hd : y.extract 0 k = d) (i5 : (k : Int) ≤ (y.size : Int)) (cs : ∀ W, Calls Tryz.prog 162 #[.string d] W fun e w' => e = .returned (.bool false) ∧ W = w') (w : World) :
    Calls Tryz.prog 121 #[.string s] w (PathEnd w (pathV bad3)) := by
  have j2 : ((1 : Int) + (r : Int)).toNat = 1 + r := by omega
  have j4 : ((n : Int) + 1).toNat = n + 1 := by omega
  have i1e : (1 : Int) ≤ (s.size : Int) := by omega
  go_enter Tryz.func121, Tryz.ntmps121
  go_wp2_with (first | (go_at_call 159; refine (cr _).mono ?_; rintro e w' ⟨rfl, rfl⟩) | (go_at_call 160; refine (cl _).mono ?_; rintro e w1 ⟨rfl, HB1⟩; have Z1 := addr_new HB1; obtain ⟨z10, z11, z12, z13⟩ := Z1) | (go_at_call 161; refine (cd _).mono ?_; rintro e w' ⟨rfl, rfl⟩) | (go_at_call 162; refine (cs _).mono ?_; rintro e w' ⟨rfl, rfl⟩))
  refine bodyPost_ret (results_ctt rfl _ _ w.heap.size _ _ _ rfl (((Ad.mk z10 z11 z12 z13).set0 ⟨#[]⟩).set1 ⟨#[]⟩).c0 (((Ad.mk z10 z11 z12 z13).set0 ⟨#[]⟩).set1 ⟨#[]⟩).c1 Tryz.underlying23 rfl (by kernel_rfl)) rfl ?_
  exact pathEnd_below rfl (((belowT (belowA (Below.refl _ _) _) HB1).setCell (p := ⟨w.heap.size, 0, none⟩) (Nat.le_refl _) _).setCell (p := ⟨w.heap.size, 1, none⟩) (Nat.le_refl _) _)

set_option maxHeartbeats 4000000 in
set_option maxRecDepth 100000 in
theorem rpath_end2 (s x y d lo : ByteArray) (r n k : Nat) (hs : s.size ≤ 2000000000) (hE : s.toList.isEmpty = false) (hp : 0 < s.size) (q0 : (((s[0].toNat : Int) != 60) : Bool) = false) (i1 : (1 : Int) < (s.size : Int)) (hp1 : 1 < s.size) (q1 : (((s[1].toNat : Int) == 62) : Bool) = false) (cr : ∀ W, Calls Tryz.prog 159 #[.string (s.extract 1 s.size)] W fun e w' => e = .returned (.int .i64 (r : Int)) ∧ W = w') (hx : s.extract (1 + r) s.size = x) (i2 : (1 : Int) + (r : Int) ≤ (s.size : Int)) (cl : ∀ W, Calls Tryz.prog 160 #[.string x] W fun e w' => e = .returned (.tuple #[.string lo, .int .i64 (n : Int)]) ∧ Below W.heap.size W w') (i3 : ¬ (x.size : Int) ≤ (n : Int)) (hn : n < x.size) (q2 : (((x[n].toNat : Int) != 64) : Bool) = false) (hnb : (n : Int) ≤ 2000000000) (hy : x.extract (n + 1) x.size = y) (i4 : (n : Int) + 1 ≤ (x.size : Int)) (cd : ∀ W, Calls Tryz.prog 161 #[.string y] W fun e w' => e = .returned (.int .i64 (k : Int)) ∧ W = w') (hd : y.extract 0 k = d) (i5 : (k : Int) ≤ (y.size : Int)) (cs : ∀ W, Calls Tryz.prog 162 #[.string d] W fun e w' => e = .returned (.bool true) ∧ W = w') (i6 : (y.size : Int) ≤ (k : Int)) (w : World) :
    Calls Tryz.prog 121 #[.string s] w (PathEnd w (pathV bad3)) := by
  have j2 : ((1 : Int) + (r : Int)).toNat = 1 + r := by omega
  have j4 : ((n : Int) + 1).toNat = n + 1 := by omega
  have i1e : (1 : Int) ≤ (s.size : Int) := by omega
  go_enter Tryz.func121, Tryz.ntmps121
  go_wp2_with (first | (go_at_call 159; refine (cr _).mono ?_; rintro e w' ⟨rfl, rfl⟩) | (go_at_call 160; refine (cl _).mono ?_; rintro e w1 ⟨rfl, HB1⟩; have Z1 := addr_new HB1; obtain ⟨z10, z11, z12, z13⟩ := Z1) | (go_at_call 161; refine (cd _).mono ?_; rintro e w' ⟨rfl, rfl⟩) | (go_at_call 162; refine (cs _).mono ?_; rintro e w' ⟨rfl, rfl⟩))
  refine bodyPost_ret (results_ctt rfl _ _ w.heap.size _ _ _ rfl (((Ad.mk z10 z11 z12 z13).set0 ⟨#[]⟩).set1 ⟨#[]⟩).c0 (((Ad.mk z10 z11 z12 z13).set0 ⟨#[]⟩).set1 ⟨#[]⟩).c1 Tryz.underlying23 rfl (by kernel_rfl)) rfl ?_
  exact pathEnd_below rfl (((belowT (belowA (Below.refl _ _) _) HB1).setCell (p := ⟨w.heap.size, 0, none⟩) (Nat.le_refl _) _).setCell (p := ⟨w.heap.size, 1, none⟩) (Nat.le_refl _) _)

set_option maxHeartbeats 4000000 in
set_option maxRecDepth 100000 in
theorem rpath_no62 (s x y d lo : ByteArray) (r n k : Nat) (hs : s.size ≤ 2000000000) (hE : s.toList.isEmpty = false) (hp : 0 < s.size) (q0 : (((s[0].toNat : Int) != 60) : Bool) = false) (i1 : (1 : Int) < (s.size : Int)) (hp1 : 1 < s.size) (q1 : (((s[1].toNat : Int) == 62) : Bool) = false) (cr : ∀ W, Calls Tryz.prog 159 #[.string (s.extract 1 s.size)] W fun e w' => e = .returned (.int .i64 (r : Int)) ∧ W = w') (hx : s.extract (1 + r) s.size = x) (i2 : (1 : Int) + (r : Int) ≤ (s.size : Int)) (cl : ∀ W, Calls Tryz.prog 160 #[.string x] W fun e w' => e = .returned (.tuple #[.string lo, .int .i64 (n : Int)]) ∧ Below W.heap.size W w') (i3 : ¬ (x.size : Int) ≤ (n : Int)) (hn : n < x.size) (q2 : (((x[n].toNat : Int) != 64) : Bool) = false) (hnb : (n : Int) ≤ 2000000000) (hy : x.extract (n + 1) x.size = y) (i4 : (n : Int) + 1 ≤ (x.size : Int)) (cd : ∀ W, Calls Tryz.prog 161 #[.string y] W fun e w' => e = .returned (.int .i64 (k : Int)) ∧ W = w') (hd : y.extract 0 k = d) (i5 : (k : Int) ≤ (y.size : Int)) (cs : ∀ W, Calls Tryz.prog 162 #[.string d] W fun e w' => e = .returned (.bool true) ∧ W = w') (i6 : ¬ (y.size : Int) ≤ (k : Int)) (hk : k < y.size) (q3 : (((y[k].toNat : Int) != 62) : Bool) = true) (w : World) :
    Calls Tryz.prog 121 #[.string s] w (PathEnd w (pathV bad3)) := by
  have j2 : ((1 : Int) + (r : Int)).toNat = 1 + r := by omega
  have j4 : ((n : Int) + 1).toNat = n + 1 := by omega
  have i1e : (1 : Int) ≤ (s.size : Int) := by omega
  go_enter Tryz.func121, Tryz.ntmps121
  go_wp2_with (first | (go_at_call 159; refine (cr _).mono ?_; rintro e w' ⟨rfl, rfl⟩) | (go_at_call 160; refine (cl _).mono ?_; rintro e w1 ⟨rfl, HB1⟩; have Z1 := addr_new HB1; obtain ⟨z10, z11, z12, z13⟩ := Z1) | (go_at_call 161; refine (cd _).mono ?_; rintro e w' ⟨rfl, rfl⟩) | (go_at_call 162; refine (cs _).mono ?_; rintro e w' ⟨rfl, rfl⟩))
  refine bodyPost_ret (results_ctt rfl _ _ w.heap.size _ _ _ rfl (((Ad.mk z10 z11 z12 z13).set0 ⟨#[]⟩).set1 ⟨#[]⟩).c0 (((Ad.mk z10 z11 z12 z13).set0 ⟨#[]⟩).set1 ⟨#[]⟩).c1 Tryz.underlying23 rfl (by kernel_rfl)) rfl ?_
  exact pathEnd_below rfl (((belowT (belowA (Below.refl _ _) _) HB1).setCell (p := ⟨w.heap.size, 0, none⟩) (Nat.le_refl _) _).setCell (p := ⟨w.heap.size, 1, none⟩) (Nat.le_refl _) _)

set_option maxHeartbeats 4000000 in
set_option maxRecDepth 100000 in
theorem rpath_long (s x y d lo : ByteArray) (r n k : Nat) (hs : s.size ≤ 2000000000) (hE : s.toList.isEmpty = false) (hp : 0 < s.size) (q0 : (((s[0].toNat : Int) != 60) : Bool) = false) (i1 : (1 : Int) < (s.size : Int)) (hp1 : 1 < s.size) (q1 : (((s[1].toNat : Int) == 62) : Bool) = false) (cr : ∀ W, Calls Tryz.prog 159 #[.string (s.extract 1 s.size)] W fun e w' => e = .returned (.int .i64 (r : Int)) ∧ W = w') (hx : s.extract (1 + r) s.size = x) (i2 : (1 : Int) + (r : Int) ≤ (s.size : Int)) (cl : ∀ W, Calls Tryz.prog 160 #[.string x] W fun e w' => e = .returned (.tuple #[.string lo, .int .i64 (n : Int)]) ∧ Below W.heap.size W w') (i3 : ¬ (x.size : Int) ≤ (n : Int)) (hn : n < x.size) (q2 : (((x[n].toNat : Int) != 64) : Bool) = false) (hnb : (n : Int) ≤ 2000000000) (hy : x.extract (n + 1) x.size = y) (i4 : (n : Int) + 1 ≤ (x.size : Int)) (cd : ∀ W, Calls Tryz.prog 161 #[.string y] W fun e w' => e = .returned (.int .i64 (k : Int)) ∧ W = w') (hd : y.extract 0 k = d) (i5 : (k : Int) ≤ (y.size : Int)) (cs : ∀ W, Calls Tryz.prog 162 #[.string d] W fun e w' => e = .returned (.bool true) ∧ W = w') (i6 : ¬ (y.size : Int) ≤ (k : Int)) (hk : k < y.size) (q3 : (((y[k].toNat : Int) != 62) : Bool) = false) (cR : ∀ W, Calls Tryz.prog 50 #[.agg #[.string lo, .string d]] W fun e w' => e = .returned (.bool false) ∧ Below W.heap.size W w') (w : World) :
    Calls Tryz.prog 121 #[.string s] w (PathEnd w (pathV bad5)) := by
  have j2 : ((1 : Int) + (r : Int)).toNat = 1 + r := by omega
  have j4 : ((n : Int) + 1).toNat = n + 1 := by omega
  have i1e : (1 : Int) ≤ (s.size : Int) := by omega
  go_enter Tryz.func121, Tryz.ntmps121
  go_wp2_with (first | (go_at_call 159; refine (cr _).mono ?_; rintro e w' ⟨rfl, rfl⟩) | (go_at_call 160; refine (cl _).mono ?_; rintro e w1 ⟨rfl, HB1⟩; have Z1 := addr_new HB1; obtain ⟨z10, z11, z12, z13⟩ := Z1) | (go_at_call 161; refine (cd _).mono ?_; rintro e w' ⟨rfl, rfl⟩) | (go_at_call 162; refine (cs _).mono ?_; rintro e w' ⟨rfl, rfl⟩) | (go_at_call 50; refine (cR _).mono ?_; rintro e w2 ⟨rfl, HB2⟩; have Z2 := (Ad.below (Ad.below (Ad.mk z10 z11 z12 z13) (belowA (Below.refl _ _) _)) HB2); have A2 := (ad_new (Below.refl _ _)).below HB2; obtain ⟨z20, z21, z22, z23⟩ := Z2; obtain ⟨a20, a21, a22, a23⟩ := A2))
  refine bodyPost_ret (results_ctt rfl _ _ w.heap.size _ _ _ rfl (((Ad.mk z20 z21 z22 z23).set0 ⟨#[]⟩).set1 ⟨#[]⟩).c0 (((Ad.mk z20 z21 z22 z23).set0 ⟨#[]⟩).set1 ⟨#[]⟩).c1 Tryz.underlying23 rfl (by kernel_rfl)) rfl ?_
  exact pathEnd_below rfl (((belowT (belowA (belowT (belowA (Below.refl _ _) _) HB1) _) HB2).setCell (p := ⟨w.heap.size, 0, none⟩) (Nat.le_refl _) _).setCell (p := ⟨w.heap.size, 1, none⟩) (Nat.le_refl _) _)

set_option maxHeartbeats 4000000 in
set_option maxRecDepth 100000 in
theorem rpath_ok (s x y d z lo : ByteArray) (r n k : Nat) (hs : s.size ≤ 2000000000) (hE : s.toList.isEmpty = false) (hp : 0 < s.size) (q0 : (((s[0].toNat : Int) != 60) : Bool) = false) (i1 : (1 : Int) < (s.size : Int)) (hp1 : 1 < s.size) (q1 : (((s[1].toNat : Int) == 62) : Bool) = false) (cr : ∀ W, Calls Tryz.prog 159 #[.string (s.extract 1 s.size)] W fun e w' => e = .returned (.int .i64 (r : Int)) ∧ W = w') (hx : s.extract (1 + r) s.size = x) (i2 : (1 : Int) + (r : Int) ≤ (s.size : Int)) (cl : ∀ W, Calls Tryz.prog 160 #[.string x] W fun e w' => e = .returned (.tuple #[.string lo, .int .i64 (n : Int)]) ∧ Below W.heap.size W w') (i3 : ¬ (x.size : Int) ≤ (n : Int)) (hn : n < x.size) (q2 : (((x[n].toNat : Int) != 64) : Bool) = false) (hnb : (n : Int) ≤ 2000000000) (hy : x.extract (n + 1) x.size = y) (i4 : (n : Int) + 1 ≤ (x.size : Int)) (cd : ∀ W, Calls Tryz.prog 161 #[.string y] W fun e w' => e = .returned (.int .i64 (k : Int)) ∧ W = w') (hd : y.extract 0 k = d) (i5 : (k : Int) ≤ (y.size : Int)) (cs : ∀ W, Calls Tryz.prog 162 #[.string d] W fun e w' => e = .returned (.bool true) ∧ W = w') (i6 : ¬ (y.size : Int) ≤ (k : Int)) (hk : k < y.size) (q3 : (((y[k].toNat : Int) != 62) : Bool) = false) (cR : ∀ W, Calls Tryz.prog 50 #[.agg #[.string lo, .string d]] W fun e w' => e = .returned (.bool true) ∧ Below W.heap.size W w') (hkb : (k : Int) ≤ 2000000000) (hz : y.extract (k + 1) y.size = z) (i7 : (k : Int) + 1 ≤ (y.size : Int)) (w : World) :
    Calls Tryz.prog 121 #[.string s] w (PathEnd w (.tuple #[.agg #[.string lo, .string d], .string z, .int .i64 0])) := by
  have j2 : ((1 : Int) + (r : Int)).toNat = 1 + r := by omega
  have j4 : ((n : Int) + 1).toNat = n + 1 := by omega
  have j7 : ((k : Int) + 1).toNat = k + 1 := by omega
  have i1e : (1 : Int) ≤ (s.size : Int) := by omega
  go_enter Tryz.func121, Tryz.ntmps121
  go_wp2_with (first | (go_at_call 159; refine (cr _).mono ?_; rintro e w' ⟨rfl, rfl⟩) | (go_at_call 160; refine (cl _).mono ?_; rintro e w1 ⟨rfl, HB1⟩; have Z1 := addr_new HB1; obtain ⟨z10, z11, z12, z13⟩ := Z1) | (go_at_call 161; refine (cd _).mono ?_; rintro e w' ⟨rfl, rfl⟩) | (go_at_call 162; refine (cs _).mono ?_; rintro e w' ⟨rfl, rfl⟩) | (go_at_call 50; refine (cR _).mono ?_; rintro e w2 ⟨rfl, HB2⟩; have Z2 := (Ad.below (Ad.below (Ad.mk z10 z11 z12 z13) (belowA (Below.refl _ _) _)) HB2); have A2 := (ad_new (Below.refl _ _)).below HB2; obtain ⟨z20, z21, z22, z23⟩ := Z2; obtain ⟨a20, a21, a22, a23⟩ := A2))
  go_region
  all_goals go_wp2
  (try simp only [Exit.inBlock, Exit.then])
  refine bodyPost_ret (results_ctt rfl _ _ w.heap.size _ _ _ rfl ((((Ad.mk z20 z21 z22 z23).set0 lo).set1 d).below (belowD (Below.refl _ _))).c0 ((((Ad.mk z20 z21 z22 z23).set0 lo).set1 d).below (belowD (Below.refl _ _))).c1 Tryz.underlying23 rfl (by kernel_rfl)) rfl ?_
  exact pathEnd_below rfl (belowD (((belowT (belowA (belowT (belowA (Below.refl _ _) _) HB1) _) HB2).setCell (p := ⟨w.heap.size, 0, none⟩) (Nat.le_refl _) _).setCell (p := ⟨w.heap.size, 1, none⟩) (Nat.le_refl _) _))

set_option maxHeartbeats 4000000 in
set_option maxRecDepth 100000 in
theorem rpath_one (s x : ByteArray) (r : Nat) (hs : s.size ≤ 2000000000) (hE : s.toList.isEmpty = false) (hp : 0 < s.size) (q0 : (((s[0].toNat : Int) != 60) : Bool) = false) (i1 : ¬ (1 : Int) < (s.size : Int)) (cr : ∀ W, Calls Tryz.prog 159 #[.string (s.extract 1 s.size)] W fun e w' => e = .returned (.int .i64 (r : Int)) ∧ W = w') (hx : s.extract (1 + r) s.size = x) (i2 : (1 : Int) + (r : Int) ≤ (s.size : Int)) (cl : ∀ W, Calls Tryz.prog 160 #[.string x] W fun e w' => e = .returned (.tuple #[.string ⟨#[]⟩, .int .i64 (-1)]) ∧ Below W.heap.size W w') (w : World) :
    Calls Tryz.prog 121 #[.string s] w (PathEnd w (pathV bad3)) := by
  have j2 : ((1 : Int) + (r : Int)).toNat = 1 + r := by omega
  have i1e : (1 : Int) ≤ (s.size : Int) := by omega
  go_enter Tryz.func121, Tryz.ntmps121
  go_wp2_with (first | (go_at_call 159; refine (cr _).mono ?_; rintro e w' ⟨rfl, rfl⟩) | (go_at_call 160; refine (cl _).mono ?_; rintro e w1 ⟨rfl, HB1⟩; have Z1 := addr_new HB1; obtain ⟨z10, z11, z12, z13⟩ := Z1))
  refine bodyPost_ret (results_ctt rfl _ _ w.heap.size _ _ _ rfl (((Ad.mk z10 z11 z12 z13).set0 ⟨#[]⟩).set1 ⟨#[]⟩).c0 (((Ad.mk z10 z11 z12 z13).set0 ⟨#[]⟩).set1 ⟨#[]⟩).c1 Tryz.underlying23 rfl (by kernel_rfl)) rfl ?_
  exact pathEnd_below rfl (((belowT (belowA (Below.refl _ _) _) HB1).setCell (p := ⟨w.heap.size, 0, none⟩) (Nat.le_refl _) _).setCell (p := ⟨w.heap.size, 1, none⟩) (Nat.le_refl _) _)
end Go.Proofs.YtkmikhinkbbnnaaGreatDoor.M
